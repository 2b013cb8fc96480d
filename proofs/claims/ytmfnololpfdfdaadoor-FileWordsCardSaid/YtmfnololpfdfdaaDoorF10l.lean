/- The plain law of the statement FileWords. No condition. -/
import Derived.Test.YtmfnololpfdfdaaDoorF10f
import Derived.Test.YtmfnololpfdfdaaDoorT09zFileWords
namespace Go.Proofs.YtmfnololpfdfdaaDoor.T09
set_option linter.unusedVariables false
set_option linter.unusedSimpArgs false
open Go Go.RowKit Go.Proofs.YtmfnololpfdfdaaDoor.E Go.Proofs.YtmfnololpfdfdaaDoor.L07 Go.Proofs.YtmfnololpfdfdaaDoor.O09 Go.Proofs.YtmfnololpfdfdaaDoor.F10
open Go.Proofs.YtmfnololpfdfdaaDoor.C08 (Ris unpacked)
theorem words_may {w : List Int} (hl : w.length ≤ 30) : MayOk ⟨w, [], []⟩ := ⟨by simp only; omega, by simp, ⟨List.Pairwise.nil, by simp, by simp⟩, by simp, by simp, List.Pairwise.nil, by simp⟩
theorem Pure.FileWords (l0 : List Int) (a1 : Int) (a2 : Int) : (∀ n ∈ l0, In .u32 n) → l0.length * 4 ≤ 140737488351232 → In .u32 a1 → In .u32 a2 → rivetlaw10_FileWords l0 a1 a2 = some true := by
  intro h0 h1 h2 h3
  have hw : Wd (l0.take (mnn (l0.length : Int) 30).toNat) := fun x hx => (h0 x (List.mem_of_mem_take hx)).u32
  have hl : (l0.take (mnn (l0.length : Int) 30).toNat).length ≤ 30 := by rw [take_min _ 30 (by omega), List.length_take]; omega
  have a1b := h2.u32
  have a2b := h3.u32
  unfold rivetlaw10_FileWords
  rw [F10.shown_is, Option.bind_some, if_pos (mnn_ok _ _ (by omega) (by omega))]
  generalize l0.take (mnn (l0.length : Int) 30).toNat = w at *
  simp only [nm]
  obtain ⟨k, hk⟩ : ∃ k : Nat, a2.tmod 1000 = (k : Int) ∧ k < 1000 := by
    refine ⟨a2.toNat % 1000, ?_, Nat.mod_lt _ (by omega)⟩
    rw [Int.tmod_eq_emod_of_nonneg a2b.1]; omega
  have ey : wu32 (w.length : Int) = (w.length : Int) := wu32_id (by omega) (by omega)
  have ez : wu32 (wu32 ((w.length : Int) + 1) + a2.tmod 1000) = ((w.length + 1 + k : Nat) : Int) := by
    rw [hk.1, wu32_id (x := (w.length : Int) + 1) (by omega) (by omega), wu32_id (by omega) (by omega)]; omega
  rw [ey, ez]
  have hw4 : ∀ a b c d : Int, 0 ≤ a ∧ a ≤ 4294967295 → 0 ≤ b ∧ b ≤ 4294967295 → 0 ≤ c ∧ c ≤ 4294967295 → 0 ≤ d ∧ d ≤ 4294967295 → Wd [a, b, c, d] := fun a b c d h1 h2 h3 h4 x hx => by
    simp only [List.mem_cons, List.not_mem_nil, or_false] at hx
    rcases hx with rfl | rfl | rfl | rfl <;> assumption
  have l16 : ∀ a b c d : Int, (putS [a, b, c, d]).length = 16 := fun a b c d => by rw [putS_length]; rfl
  have lw : (putS w).length = 4 * w.length := putS_length w
  have hm := words_may hl
  have hob : Ob ⟨w, [], []⟩ := ⟨hw, by simp only; omega, by simp, by simp⟩
  have gen : ∀ f : Int, 0 ≤ f ∧ f ≤ 4294967295 → ∀ h : Nat, h ≤ 100000 → takeF (putS [f, (w.length : Int), (h : Int), 0] ++ putS w) = if f = 894847314 then tailF w (h : Int) 0 [] else (nob, 5) := fun f hf h hh => by
    have := takeF_gen (f := f) (h := (h : Int)) (n := w.length) (k := 0) (b := putS w) hf (by omega) (by omega) (by omega)
    rw [show ((0 : Nat) : Int) = 0 from rfl] at this
    have e := wds_put w [] hw
    rw [List.append_nil] at e
    rw [this]
    by_cases hfm : f = 894847314
    · rw [if_pos hfm, if_pos hfm, if_neg (by omega), if_neg (by omega), ← lw, List.drop_length, e]
    · rw [if_neg hfm, if_neg hfm]
  have t0 : tailF w 0 0 [] = (⟨w, [], []⟩, 0) := by
    unfold tailF takeY
    have e : unpacked w 0 = (w, [], 0) := by
      have := Go.Proofs.YtmfnololpfdfdaaDoor.C08.unpacked_some (l := w) (h := 0) (p := (w, [])) (by omega) (Go.Proofs.YtmfnololpfdfdaaDoor.C08.up_zero w [])
      exact this
    simp only [e]
    rw [if_neg (by simp), if_pos trivial, if_pos hm.may]
  have t1 : tailF w ((w.length + 1 + k : Nat) : Int) 0 [] = (nob, 10) := by
    unfold tailF takeY
    have e : unpacked w ((w.length + 1 + k : Nat) : Int) = ([], [], 10) := by
      unfold unpacked
      rw [if_pos (.inr (by omega))]
    simp only [e]
    rw [if_neg (by simp), if_neg (by decide)]
  have g0 := gen 894847314 (by omega) 0 (by omega)
  have g1 := gen a1 a1b 0 (by omega)
  have g2 := gen 894847314 (by omega) (w.length + 1 + k) (by omega)
  rw [if_pos rfl] at g0 g2
  rw [show ((0 : Nat) : Int) = 0 from rfl] at g0 g1
  rw [t0] at g0 g1
  rw [t1] at g2
  have g3 := takeF_gen (f := 894847314) (h := 0) (n := 1025) (k := 0) (b := []) (by omega) (by omega) (by omega) (by omega)
  have g4 := takeF_gen (f := 894847314) (h := 0) (n := 0) (k := 65) (b := []) (by omega) (by omega) (by omega) (by omega)
  rw [if_pos rfl, if_pos (by omega), List.append_nil] at g3 g4
  have g3 : takeF (putS [894847314, 1025, 0, 0]) = (nob, 2) := g3
  have g4 : takeF (putS [894847314, 0, 0, 65]) = (nob, 2) := g4
  have take : ∀ {l : List Int} {z : Sapi_Obj × Int}, l.length ≤ 1000000 → By l → takeF l = z → file_Take l = some z := fun h1 h2 h3 => by rw [take_isF h2 h1, h3]
  obtain ⟨t, e1, e2⟩ := obsame_is (b := (⟨w, [], []⟩ : Sapi_Obj)) hob
  rw [put_is (by simp) (hw4 _ _ _ _ (by omega) (by omega) (by omega) (by omega)), Option.bind_some, put_is (by omega) hw, Option.bind_some, if_pos (by rw [l16, lw]; omega), take (by rw [List.length_append, l16, lw]; omega) (by_append (putS_by _) (putS_by _)) g0, Option.bind_some]
  simp only
  rw [put_is (by simp) (hw4 _ _ _ _ a1b (by omega) (by omega) (by omega)), Option.bind_some, Option.bind_some, if_pos (by rw [l16, lw]; omega), take (by rw [List.length_append, l16, lw]; omega) (by_append (putS_by _) (putS_by _)) g1, Option.bind_some]
  rw [put_is (by simp) (hw4 _ _ _ _ (by omega) (by omega) (by omega) (by omega)), Option.bind_some, Option.bind_some, if_pos (by rw [l16, lw]; omega), take (by rw [List.length_append, l16, lw]; omega) (by_append (putS_by _) (putS_by _)) g2, Option.bind_some]
  simp only
  rw [put_is (by simp) (hw4 _ _ _ _ (by omega) (by omega) (by omega) (by omega)), Option.bind_some, take (by rw [l16]; omega) (putS_by _) g3, Option.bind_some]
  simp only
  rw [put_is (by simp) (hw4 _ _ _ _ (by omega) (by omega) (by omega) (by omega)), Option.bind_some, take (by rw [l16]; omega) (putS_by _) g4, Option.bind_some, if_pos trivial, if_pos trivial, e1, Option.bind_some, if_pos (e2.2 rfl)]
  unfold rivetlaw10_FileWords.j1
  by_cases hf : a1 = 894847314
  · rw [if_pos hf, hf]; rfl
  · rw [if_neg hf, if_pos (by simp [hf])]; rfl
end Go.Proofs.YtmfnololpfdfdaaDoor.T09
