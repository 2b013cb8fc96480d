/- The plain law of the statement FileNames. No condition. -/
import Derived.Test.YtmfnololpfdfdaaDoorF10f
import Derived.Test.YtmfnololpfdfdaaDoorT09zFileNames
namespace Go.Proofs.YtmfnololpfdfdaaDoor.T09
set_option linter.unusedVariables false
set_option linter.unusedSimpArgs false
open Go Go.RowKit Go.Proofs.YtmfnololpfdfdaaDoor.E Go.Proofs.YtmfnololpfdfdaaDoor.L07 Go.Proofs.YtmfnololpfdfdaaDoor.O09 Go.Proofs.YtmfnololpfdfdaaDoor.F10
open Go.Proofs.YtmfnololpfdfdaaDoor.C08 (Ris fit_is unpacked packed)
theorem fitnil_is {w b : List Int} (hw : Wd w) : ∃ o, rivetref09_Fit w b [] = some o ∧ Fitted o ∧ o.Syms = [] := by
  obtain ⟨o, ho, hf⟩ := fitobj_is (w := w) (b := b) (ns := []) hw (by simp)
  refine ⟨o, ho, hf, ?_⟩
  have m := mnn_ok (w.length : Int) 40 (by omega) (by omega)
  have hw2 : Wd (w.take (mnn (w.length : Int) 40).toNat) := fun x hx => hw x (List.mem_of_mem_take hx)
  have hl2 : (w.take (mnn (w.length : Int) 40).toNat).length ≤ 40 := by rw [take_min w 40 (by omega), List.length_take]; omega
  unfold rivetref09_Fit at ho
  rw [if_pos m, List.nil_append] at ho
  generalize w.take (mnn (w.length : Int) 40).toNat = u at *
  rw [if_pos (by simp; omega)] at ho
  simp only [nm] at ho
  obtain ⟨s, h1, h2⟩ := fit_is b u.length (by omega)
  obtain ⟨u', h3, h4, h5, h6⟩ := fit_words hw2 (by omega) h2
  have h7 : loopO (fun σ : List Sapi_Sym × Int => rivetref09_Fit.b73 [] (u.length : Int) σ.1 σ.2) (([] : List Sapi_Sym), 0) = some [] := by
    refine loopO_done ?_
    show rivetref09_Fit.b73 [] _ [] 0 = _
    unfold rivetref09_Fit.b73 rivetref09_Fit.j2
    rw [if_neg (by simp)]
    rfl
  rw [h1, Option.bind_some, h3, Option.bind_some] at ho
  unfold rivetref09_Fit.j1 at ho
  rw [h7] at ho
  have ho : some (⟨u', s, []⟩ : Sapi_Obj) = some o := ho
  rw [← Option.some.inj ho]
theorem put_two (a b c : Int) (r : List Int) : (putS [a, b, c, 0] ++ r).set 12 2 = putS [a, b, c, 2] ++ r := rfl
theorem Pure.FileNames (a0 : Srivetlaw10_Parts) (a1 : Int) : okSrivetlaw10_Parts a0 → In .u16 a1 → rivetlaw10_FileNames a0 a1 = some true := by
  intro h0 h1
  have ha := h1.u16
  obtain ⟨o, ho, hf, hsy⟩ := fitnil_is (w := a0.Words) (b := a0.Bits) (fun x hx => (h0.1 x hx).u32)
  have hob := hf.ob
  have h := may_elim hf.may
  have hw := hf.w
  obtain ⟨k1, k2, k3⟩ := bytesF_len h hw
  have hput : file_Put o = some (bytesF o, 0) := by rw [put_isF hob]; unfold putF; rw [if_pos hf.may]
  have hwl := hf.wl
  obtain ⟨p, hd, p1, p2, p3, p4, p5, p6, p7⟩ := bytesF_is h hw
  have hY : symsB o.Syms = [] := by rw [hsy]; rfl
  rw [hY, List.append_nil, hsy, show ((([] : List Sapi_Sym).length : Nat) : Int) = 0 from rfl] at p7
  have l16 : ∀ a b c d : Int, (putS [a, b, c, d]).length = 16 := fun a b c d => by rw [putS_length]; rfl
  have lw : (putS p.1).length = 4 * o.Words.length := by rw [putS_length, p3]
  generalize hX : (⟨⟨#[120]⟩, a1⟩ : Sapi_Sym) = X
  generalize hZ : (⟨⟨#[121]⟩, a1⟩ : Sapi_Sym) = Z
  have nx : nameS (bytesL (⟨#[120]⟩ : ByteArray)) = true := by decide +kernel
  have nz : nameS (bytesL (⟨#[121]⟩ : ByteArray)) = true := by decide +kernel
  have okX : SyOk X := by rw [← hX]; exact ⟨nx, ha.1, by simp only; omega⟩
  have okZ : SyOk Z := by rw [← hZ]; exact ⟨nz, ha.1, by simp only; omega⟩
  have bX : symB X = padS (bytesL (⟨#[120]⟩ : ByteArray)) ++ putS [wu32 a1] := by rw [← hX]; rfl
  have bZ : symB Z = padS (bytesL (⟨#[121]⟩ : ByteArray)) ++ putS [wu32 a1] := by rw [← hZ]; rfl
  have lX := symB_len okX.nm
  have lZ := symB_len okZ.nm
  have byX := symB_by okX.nm
  have byZ := symB_by okZ.nm
  have hset : (bytesF o).set 12 2 = putS [894847314, (o.Words.length : Int), (hd : Int), 2] ++ putS p.1 := by rw [p7]; exact put_two _ _ _ _
  have head : ∀ Y : List Int, takeF (putS [894847314, (o.Words.length : Int), (hd : Int), 2] ++ putS p.1 ++ Y) = tailF p.1 (hd : Int) 2 Y := fun Y => by
    have := takeF_gen (f := 894847314) (h := (hd : Int)) (n := o.Words.length) (k := 2) (b := putS p.1 ++ Y) (by omega) (by omega) (by omega) (by omega)
    rw [List.append_assoc]
    rw [show ((2 : Nat) : Int) = 2 from rfl] at this
    rw [this, if_pos rfl, if_neg (by omega), if_neg (by rw [List.length_append, lw]; omega), ← lw, List.drop_left, show wds (putS p.1 ++ Y) o.Words.length = p.1 by rw [← p3]; exact wds_put _ _ p4]
  have two : ∀ A B : Sapi_Sym, SyOk A → SyOk B → tailF p.1 (hd : Int) 2 (symB A ++ symB B) = if mayS ⟨o.Words, o.Sites, [A, B]⟩ = 0 then (⟨o.Words, o.Sites, [A, B]⟩, 0) else (nob, 6) := fun A B hA hB => by
    have := takeY_put (l := [A, B]) (r := []) (acc := []) (fun s hs => by
      simp only [List.mem_cons, List.not_mem_nil, or_false] at hs
      rcases hs with rfl | rfl <;> assumption)
    have e : symsB [A, B] ++ [] = symB A ++ symB B := by simp [symsB]
    rw [e] at this
    unfold tailF
    rw [show (2 : Nat) = [A, B].length from rfl, this]
    simp only [p5, List.nil_append]
    rw [if_neg (by simp), if_pos trivial]
  have lsx : ls (⟨#[120]⟩ : ByteArray) ⟨#[121]⟩ := by unfold ls; decide +kernel
  have short : takeF ((putS [894847314, (o.Words.length : Int), (hd : Int), 2] ++ putS p.1 ++ (symB X ++ symB Z)).take (16 + 4 * o.Words.length + (symB X ++ symB Z).length - 1)) = (nob, 3) := by
    have lpos : 0 < (symB X ++ symB Z).length := by rw [bX, List.length_append, List.length_append, putS_length, List.length_singleton]; omega
    have := takeY_short (l := [X, Z]) (j := (symB X ++ symB Z).length - 1) (acc := []) (fun s hs => by
      simp only [List.mem_cons, List.not_mem_nil, or_false] at hs
      rcases hs with rfl | rfl <;> assumption) (by simp only [symsB, List.flatMap_cons, List.flatMap_nil, List.append_nil]; omega)
    have e : symsB [X, Z] = symB X ++ symB Z := by simp [symsB]
    rw [e] at this
    have el : (putS [894847314, (o.Words.length : Int), (hd : Int), 2] ++ putS p.1).length = 16 + 4 * o.Words.length := by rw [List.length_append, l16, lw]
    rw [List.take_append, List.take_of_length_le (by omega), el, show 16 + 4 * o.Words.length + (symB X ++ symB Z).length - 1 - (16 + 4 * o.Words.length) = (symB X ++ symB Z).length - 1 by omega, head]
    unfold tailF
    rw [show (2 : Nat) = [X, Z].length from rfl, this]
  unfold rivetlaw10_FileNames
  rw [F10.shown_is, Option.bind_some, ho, Option.bind_some, hput, Option.bind_some]
  simp only
  rw [if_pos trivial, if_pos trivial, decide_eq_false (by omega)]
  unfold rivetlaw10_FileNames.j1 rivetlaw10_FileNames.j2
  rw [if_neg (by simp), if_pos (by omega), putname_is, Option.bind_some]
  unfold putN
  rw [if_pos nx]
  simp only
  rw [putname_is, Option.bind_some]
  unfold putN
  rw [if_pos nz]
  simp only
  rw [put_is (by simp) (wd1 _), Option.bind_some, List.nil_append, show (12 : Int).toNat = 12 from rfl, hset]
  have e1 : ∀ B : List Int, B ++ padS (bytesL (⟨#[120]⟩ : ByteArray)) ++ putS [wu32 a1] ++ padS (bytesL (⟨#[121]⟩ : ByteArray)) ++ putS [wu32 a1] = B ++ (symB X ++ symB Z) := fun B => by rw [bX, bZ]; simp only [List.append_assoc]
  have e2 : ∀ B : List Int, B ++ padS (bytesL (⟨#[121]⟩ : ByteArray)) ++ putS [wu32 a1] ++ padS (bytesL (⟨#[120]⟩ : ByteArray)) ++ putS [wu32 a1] = B ++ (symB Z ++ symB X) := fun B => by rw [bX, bZ]; simp only [List.append_assoc]
  have lx1 : (padS (bytesL (⟨#[120]⟩ : ByteArray))).length ≤ 16 := by have := pad_len okX.nm; rw [← hX] at this; exact this
  have lz1 : (padS (bytesL (⟨#[121]⟩ : ByteArray))).length ≤ 16 := by have := pad_len okZ.nm; rw [← hZ] at this; exact this
  have lp : (putS [wu32 a1]).length = 4 := by rw [putS_length]; rfl
  have lB : (putS [894847314, (o.Words.length : Int), (hd : Int), 2] ++ putS p.1).length = 16 + 4 * o.Words.length := by rw [List.length_append, l16, lw]
  have byB : By (putS [894847314, (o.Words.length : Int), (hd : Int), 2] ++ putS p.1) := by_append (putS_by _) (putS_by _)
  generalize hBB : putS [894847314, (o.Words.length : Int), (hd : Int), 2] ++ putS p.1 = B at *
  rw [if_pos (by simp only [List.length_nil]; omega), if_pos (by omega), if_pos (by rw [List.length_append]; omega), if_pos (by rw [List.length_append, List.length_append]; omega), if_pos (by rw [List.length_append, List.length_append, List.length_append]; omega), if_pos (by simp only [List.length_nil]; omega), if_pos (by omega), if_pos (by rw [List.length_append]; omega), if_pos (by rw [List.length_append, List.length_append]; omega), if_pos (by rw [List.length_append, List.length_append, List.length_append]; omega), e1, e2]
  have lXZ : (B ++ (symB X ++ symB Z)).length = 16 + 4 * o.Words.length + (symB X ++ symB Z).length := by rw [List.length_append, lB]
  have lXZ2 : (symB X ++ symB Z).length = (symB X).length + (symB Z).length := List.length_append
  have lpos : 0 < (symB X).length := by rw [bX, List.length_append, lp]; omega
  have byXZ : By (B ++ (symB X ++ symB Z)) := by_append byB (by_append byX byZ)
  have byZX : By (B ++ (symB Z ++ symB X)) := by_append byB (by_append byZ byX)
  have el : w64 ((((B ++ (symB X ++ symB Z)).length : Nat) : Int) - 1) = ((16 + 4 * o.Words.length + (symB X ++ symB Z).length - 1 : Nat) : Int) := by rw [lXZ, w64s (by omega) (by omega)]; omega
  rw [take_isF byXZ (by omega), Option.bind_some, head, two X Z okX okZ]
  rw [take_isF byZX (by rw [List.length_append, List.length_append, lB]; omega), Option.bind_some, head, two Z X okZ okX]
  rw [el, if_pos (by omega), Int.toNat_natCast, take_isF (take_by byXZ _) (by rw [List.length_take]; omega), Option.bind_some, short]
  simp only
  have fall : ¬ mayS ⟨o.Words, o.Sites, [Z, X]⟩ = 0 := fun hc => by
    have := (may_elim hc).up
    have := (List.pairwise_cons.1 this).1 X (by simp)
    rw [← hX, ← hZ] at this
    exact ls.irr _ (this.trans lsx)
  have rise : mayS ⟨o.Words, o.Sites, [X, Z]⟩ = 0 ↔ (a1 % 4 = 0 ∧ a1 ≤ 4 * (o.Words.length : Int)) := by
    constructor
    · intro hc
      have := (may_elim hc).at' X (by simp)
      rw [← hX] at this
      unfold atOk at this
      rw [decide_eq_true_eq] at this
      simp only at this
      omega
    · intro hc
      refine may_ok (by simp only; omega) (by simp) h.ris h.val ?_ ?_ ?_
      · intro s hs
        simp only [List.mem_cons, List.not_mem_nil, or_false] at hs
        rcases hs with rfl | rfl
        · exact okX.nm
        · exact okZ.nm
      · refine List.pairwise_cons.2 ⟨fun s hs => ?_, List.pairwise_singleton _ _⟩
        rw [List.mem_singleton.1 hs, ← hX, ← hZ]
        exact lsx
      · intro s hs
        simp only [List.mem_cons, List.not_mem_nil, or_false] at hs
        have : s.At = a1 := by
          rcases hs with rfl | rfl
          · rw [← hX]
          · rw [← hZ]
        unfold atOk
        rw [this, decide_eq_true_eq]
        simp only
        omega
  rw [if_neg fall]
  simp only
  have em : a1.tmod 4 = a1 % 4 := Int.tmod_eq_emod_of_nonneg ha.1
  have ew : decide (w64 a1 ≤ w64 (4 * (o.Words.length : Int))) = decide (a1 ≤ 4 * (o.Words.length : Int)) := by rw [w64s (by omega) (by omega), w64s (by omega) (by omega)]
  rw [em, ew]
  unfold rivetlaw10_FileNames.j3 rivetlaw10_FileNames.j4
  by_cases hc : a1 % 4 = 0 ∧ a1 ≤ 4 * (o.Words.length : Int)
  · rw [if_pos (rise.2 hc), if_pos hc.1, decide_eq_true hc.2]
    rfl
  · rw [if_neg (fun e => hc (rise.1 e))]
    by_cases h4 : a1 % 4 = 0
    · rw [if_pos h4, decide_eq_false (fun e => hc ⟨h4, e⟩)]; rfl
    · rw [if_neg h4]; rfl
end Go.Proofs.YtmfnololpfdfdaaDoor.T09
