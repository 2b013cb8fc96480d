/- LoadShifts: the plain law. No condition. -/
import Derived.Test.YtheccnbamcdpmaaDoorO12h
import Derived.Test.YtheccnbamcdpmaaDoorT12zLoadShifts
namespace Go.Proofs.YtheccnbamcdpmaaDoor.O12
set_option linter.unusedVariables false
set_option linter.unusedSimpArgs false
open Go Go.RowKit Go.Proofs.YtheccnbamcdpmaaDoor.E Go.Proofs.YtheccnbamcdpmaaDoor.T12 Go.Proofs.YtheccnbamcdpmaaDoor.L07
open Go.Proofs.YtheccnbamcdpmaaDoor.C08 (rise rise_is rise_all rise_of Ris fit_is getD_set)
theorem addAll_at (b : Int) : ∀ (s l : List Int), s.Pairwise (· < ·) → (∀ x ∈ s, 0 ≤ x ∧ x < (l.length : Int)) → ∀ n : Nat, (addAll b l s).getD n 0 = if (n : Int) ∈ s then wu32 (l.getD n 0 + wu32 b) else l.getD n 0
  | [], l, _, _, n => by rw [if_neg (by simp)]; rfl
  | x :: s, l, hp, hs, n => by
    have hx := hs x (List.mem_cons_self ..)
    obtain ⟨hp1, hp2⟩ := List.pairwise_cons.1 hp
    rw [addAll_cons, addAll_at b s _ hp2 (by rw [List.length_set]; exact fun y hy => hs y (List.mem_cons_of_mem _ hy)) n, getD_set (by omega)]
    by_cases h1 : (n : Int) ∈ s
    · have := hp1 _ h1
      rw [if_pos h1, if_pos (List.mem_cons_of_mem _ h1), if_neg (by omega)]
    · rw [if_neg h1]
      by_cases h2 : n = x.toNat
      · rw [if_pos h2, if_pos (by rw [List.mem_cons]; left; omega), h2]
      · rw [if_neg h2, if_neg]
        rw [List.mem_cons]
        rintro (h | h)
        · omega
        · exact h1 h
/-- How many sites are ahead of a place. -/
structure Cnt (s : List Int) (c i : Nat) : Prop where
  le : c ≤ s.length
  lo : ∀ j, j < c → s.getD j 0 < (i : Int)
  hi : ∀ j, c ≤ j → j < s.length → (i : Int) ≤ s.getD j 0
theorem Cnt.mem {s : List Int} {c i : Nat} (h : Cnt s c i) (hp : s.Pairwise (· < ·)) : (i : Int) ∈ s ↔ c < s.length ∧ s.getD c 0 = (i : Int) := by
  constructor
  · intro hm
    obtain ⟨j, hj, he⟩ := List.getElem_of_mem hm
    have e : s.getD j 0 = s[j] := by simp [hj]
    have h1 : c ≤ j := by
      rcases Nat.lt_or_ge j c with h2 | h2
      · have := h.lo j h2; omega
      · exact h2
    have h3 := h.hi c (Nat.le_refl _) (by omega)
    refine ⟨by omega, ?_⟩
    have ec : s.getD c 0 = s[c]'(by omega) := by simp [show c < s.length by omega]
    rcases Nat.lt_or_ge c j with h2 | h2
    · have := List.pairwise_iff_getElem.1 hp c j (by omega) hj h2
      omega
    · have : c = j := by omega
      subst this; omega
  · rintro ⟨h1, h2⟩
    rw [← h2]
    exact getD_mem h1
theorem Cnt.next {s : List Int} {c i : Nat} (h : Cnt s c i) (hp : s.Pairwise (· < ·)) : Cnt s (if c < s.length ∧ s.getD c 0 = (i : Int) then c + 1 else c) (i + 1) := by
  have up : ∀ j k, j < k → k < s.length → s.getD j 0 < s.getD k 0 := fun j k hjk hk => by
    have := List.pairwise_iff_getElem.1 hp j k (by omega) hk hjk
    rw [show s.getD j 0 = s[j] by simp [show j < s.length by omega], show s.getD k 0 = s[k] by simp [hk]]
    exact this
  by_cases hc : c < s.length ∧ s.getD c 0 = (i : Int)
  · rw [if_pos hc]
    refine ⟨by omega, fun j hj => ?_, fun j hj hl => ?_⟩
    · by_cases hjc : j < c
      · have := h.lo j hjc; omega
      · have : j = c := by omega
        subst this; omega
    · have := up c j (by omega) hl; omega
  · rw [if_neg hc]
    refine ⟨h.le, fun j hj => by have := h.lo j hj; omega, fun j hj hl => ?_⟩
    have h1 := h.hi j hj hl
    by_cases hjc : j = c
    · subst hjc
      have : s.getD j 0 ≠ (i : Int) := fun he => hc ⟨hl, he⟩
      omega
    · have h2 := h.hi c (Nat.le_refl _) (by omega)
      have := up c j (by omega) hl
      omega
end Go.Proofs.YtheccnbamcdpmaaDoor.O12
namespace Go.Proofs.YtheccnbamcdpmaaDoor.T12
open Go Go.RowKit Go.Proofs.YtheccnbamcdpmaaDoor.E Go.Proofs.YtheccnbamcdpmaaDoor.O12 Go.Proofs.YtheccnbamcdpmaaDoor.L07
section
variable {o : Sapi_Obj} {y37 y39 : Int}
theorem shift_round (h : Fitted o) (h1 : 0 ≤ y37 ∧ y37 ≤ 16384) (h2 : 0 ≤ y39 ∧ y39 ≤ 16384) {c i : Nat} (hc : Cnt o.Sites c i) (hi : i < o.Words.length) :
    rivetlaw12_LoadShifts.b73 (addAll y37 o.Words o.Sites) o (addAll y39 o.Words o.Sites) y39 y37 (c : Int) (i : Int) = some (.inl (((if c < o.Sites.length ∧ o.Sites.getD c 0 = (i : Int) then c + 1 else c : Nat) : Int), ((i + 1 : Nat) : Int))) := by
  have hp := h.ris.up
  have hs := site_in h.may
  have hwl := h.wl
  have hsl := ris_len h.ris
  have hcl := hc.le
  have hx : 0 ≤ o.Words.getD i 0 ∧ o.Words.getD i 0 ≤ 4294967295 := h.w _ (getD_mem hi)
  have ea := addAll_at y37 o.Sites o.Words hp hs i
  have eb := addAll_at y39 o.Sites o.Words hp hs i
  have hm := hc.mem hp
  unfold rivetlaw12_LoadShifts.b73
  rw [if_pos (by rw [addAll_len]; omega)]
  have j6 : ∀ v : Int, rivetlaw12_LoadShifts.j6 (i : Int) v = some (.inl (v, ((i + 1 : Nat) : Int))) := fun v => by
    unfold rivetlaw12_LoadShifts.j6
    rw [w64s (by omega) (by omega)]
    rfl
  have j4 : ∀ v by' : Int, (by' = if (i : Int) ∈ o.Sites then wu32 (w64 (y39 - y37)) else 0) → rivetlaw12_LoadShifts.j4 (i : Int) (addAll y39 o.Words o.Sites) (addAll y37 o.Words o.Sites) y39 y37 o v by' = some (.inl (v, ((i + 1 : Nat) : Int))) := fun v by' hb => by
    unfold rivetlaw12_LoadShifts.j4 rivetlaw12_LoadShifts.j5
    rw [if_pos (by rw [addAll_len]; omega), if_pos (by rw [addAll_len]; omega), ixu, ixu, Int.toNat_natCast, ea, eb]
    by_cases hin : (i : Int) ∈ o.Sites
    · rw [if_pos hin] at hb
      rw [if_pos hin, if_pos hin, if_pos (by rw [hb, w64s (by omega) (by omega)]; simp only [wu32_eq]; omega)]
      by_cases hz : by' = 0
      · rw [if_pos hz]
        have : y39 = y37 := by
          rw [hz, w64s (by omega) (by omega), wu32_eq] at hb
          omega
        rw [if_pos this, if_neg (by simp), j6]
      · rw [if_neg hz, if_neg (by simp), j6]
    · rw [if_neg hin] at hb
      rw [if_neg hin, if_neg hin, if_pos (by rw [hb, Int.sub_self]; rfl), if_pos hb]
      split
      · rw [if_neg (by simp), j6]
      · rw [if_pos (by rw [addAll_len]; omega), if_pos (by omega), ixu, Int.toNat_natCast, if_neg (by simp), j6]
  by_cases hcs : (c : Int) < (o.Sites.length : Int)
  · rw [if_pos hcs, if_pos (by omega), ixi]
    unfold rivetlaw12_LoadShifts.j3
    by_cases he : o.Sites.getD c 0 = (i : Int)
    · have hin : (i : Int) ∈ o.Sites := hm.2 ⟨by omega, he⟩
      rw [if_pos (by simpa using he), if_pos ⟨by omega, he⟩, w64s (by omega) (by omega), j4 _ _ (by rw [if_pos hin])]
      rfl
    · have hin : ¬ (i : Int) ∈ o.Sites := fun hh => he (hm.1 hh).2
      rw [if_neg (by simpa using he), if_neg (fun hh => he hh.2), j4 _ _ (by rw [if_neg hin])]
  · have hin : ¬ (i : Int) ∈ o.Sites := fun hh => hcs (by have := (hm.1 hh).1; omega)
    rw [if_neg hcs]
    unfold rivetlaw12_LoadShifts.j3
    rw [if_neg (by simp), if_neg (fun hh => hcs (by omega)), j4 _ _ (by rw [if_neg hin])]
theorem shift_loop (h : Fitted o) (h1 : 0 ≤ y37 ∧ y37 ≤ 16384) (h2 : 0 ≤ y39 ∧ y39 ≤ 16384) : ∀ (k c i : Nat), i + k = o.Words.length → Cnt o.Sites c i →
    loopO (fun (σ : Int × Int) => rivetlaw12_LoadShifts.b73 (addAll y37 o.Words o.Sites) o (addAll y39 o.Words o.Sites) y39 y37 σ.1 σ.2) ((c : Int), (i : Int)) = some (.done ()) := by
  intro k
  induction k with
  | zero =>
    intro c i hi hc
    refine loopO_done ?_
    show rivetlaw12_LoadShifts.b73 _ _ _ _ _ (c : Int) (i : Int) = _
    unfold rivetlaw12_LoadShifts.b73
    rw [if_neg (by rw [addAll_len]; omega)]
  | succ k ih =>
    intro c i hi hc
    have := shift_round h h1 h2 hc (show i < o.Words.length by omega)
    rw [loopO_next (b := fun (σ : Int × Int) => rivetlaw12_LoadShifts.b73 (addAll y37 o.Words o.Sites) o (addAll y39 o.Words o.Sites) y39 y37 σ.1 σ.2) (s := ((c : Int), (i : Int))) this]
    exact ih _ (i + 1) (by omega) (hc.next h.ris.up)
end
theorem Pure.LoadShifts (a0 : Srivetlaw12_Parts) (a1 : Int) (a2 : Int) : okSrivetlaw12_Parts a0 → In .u16 a1 → In .u16 a2 → rivetlaw12_LoadShifts a0 a1 a2 = some true := by
  intro h0 h1 h2
  obtain ⟨o, ho, hf⟩ := fitobj_is (w := a0.Words) (b := a0.Bits) (ns := a0.Names) (fun x hx => (h0.1 x hx).u32) (fun s hs => h0.2.2.2.2.1 s hs)
  obtain ⟨e1, e2, e3, e4⟩ := base_ok h1
  obtain ⟨f1, f2, f3, f4⟩ := base_ok h2
  have hob := hf.ob
  have hwl := hf.wl
  unfold rivetlaw12_LoadShifts
  rw [shown_is, Option.bind_some, ho, Option.bind_some, e1, f1]
  simp only [nm]
  rw [image_is hob, img_fit hf.may e4, Option.bind_some, image_is hob, img_fit hf.may f4, Option.bind_some]
  simp only [if_pos]
  rw [if_pos (by rw [addAll_len])]
  unfold rivetlaw12_LoadShifts.j1
  rw [if_neg (by rw [addAll_len, addAll_len]; simp)]
  unfold rivetlaw12_LoadShifts.j2
  have := shift_loop (o := o) hf (y37 := 4 * (a1 % 4097)) (y39 := 4 * (a2 % 4097)) (by omega) (by omega) o.Words.length 0 0 (by omega) ⟨by omega, fun j hj => by omega, fun j hj hl => by
    have := (site_in hf.may _ (getD_mem hl)).1; omega⟩
  rw [show ((0 : Nat) : Int) = 0 from rfl] at this
  rw [this, Option.bind_some]
  show rivetlaw12_LoadShifts.j7 o (4 * (a1 % 4097)) = _
  unfold rivetlaw12_LoadShifts.j7
  have g1 : baseOk (w64 (4 * (a1 % 4097) + 2)) = false := by
    rw [w64s (by omega) (by omega)]
    unfold baseOk
    rw [decide_eq_false (by omega)]
  rw [image_is hob, image_is hob]
  have q1 : imgS o (w64 (4 * (a1 % 4097) + 2)) = ([], 11) := by unfold imgS; rw [if_pos hf.may, g1]; rfl
  have q2 : imgS o 16388 = ([], 11) := by unfold imgS; rw [if_pos hf.may]; rfl
  have m1 : load_Machine o 8 (1 + (o.Words.length : Int)) [] = some (none, 11) := lm_no hob hf.may (by rfl) (by omega) (by omega) (by simp) (by show _ < (8 : Int) / 4 + _; omega)
  have m2 := lm_ok (mem := 2 + (o.Words.length : Int)) (l := []) hob hf.may (b := 8) (by rfl) (by omega) (by simp) (by show (8 : Int) / 4 + _ ≤ _; omega)
  rw [q1, q2, w64s (x := 1 + _) (by omega) (by omega), w64s (x := 2 + _) (by omega) (by omega), m1, m2]
  rfl
end Go.Proofs.YtheccnbamcdpmaaDoor.T12
