/- Words where they run: what Image comes to. No condition. -/
import Derived.Test.YtheccnbamcdpmaaDoorO12e
namespace Go.Proofs.YtheccnbamcdpmaaDoor.O12
set_option linter.unusedVariables false
set_option linter.unusedSimpArgs false
open Go Go.RowKit Go.Proofs.YtheccnbamcdpmaaDoor.E Go.Proofs.YtheccnbamcdpmaaDoor.T12 Go.Proofs.YtheccnbamcdpmaaDoor.L07
open Go.Proofs.YtheccnbamcdpmaaDoor.C08 (rise rise_is rise_all rise_of Ris fit_is getD_set)
/-- The words with a base at some sites. -/
def addAll (b : Int) (l s : List Int) : List Int := s.foldl (fun l x => l.set x.toNat (wu32 (l.getD x.toNat 0 + wu32 b))) l
theorem addAll_len (b : Int) : ∀ (s l : List Int), (addAll b l s).length = l.length
  | [], _ => rfl
  | x :: s, l => by show (addAll b (l.set x.toNat _) s).length = _; rw [addAll_len b s, List.length_set]
theorem addAll_cons (b x : Int) (l s : List Int) : addAll b l (x :: s) = addAll b (l.set x.toNat (wu32 (l.getD x.toNat 0 + wu32 b))) s := rfl
theorem img_loop {b : Int} {sites : List Int} {f : List Int × Int → Option ((List Int × Int) ⊕ List Int)}
    (hf : ∀ (l : List Int) (i : Nat), i < sites.length → (∀ s ∈ sites, 0 ≤ s ∧ s < (l.length : Int)) → f (l, (i : Int)) = some (.inl (l.set (sites.getD i 0).toNat (wu32 (l.getD (sites.getD i 0).toNat 0 + wu32 b)), ((i + 1 : Nat) : Int))))
    (h2 : ∀ l, f (l, (sites.length : Int)) = some (.inr l)) : ∀ (k i : Nat) (l : List Int), i + k = sites.length → (∀ s ∈ sites, 0 ≤ s ∧ s < (l.length : Int)) → loopO f (l, (i : Int)) = some (addAll b l (sites.drop i)) := by
  intro k
  induction k with
  | zero =>
    intro i l hi hs
    have : i = sites.length := by omega
    subst this
    rw [List.drop_length]
    exact loopO_done (h2 l)
  | succ k ih =>
    intro i l hi hs
    rw [loopO_next (hf l i (by omega) hs), ih (i + 1) _ (by omega) (by rw [List.length_set]; exact hs), List.drop_eq_getElem_cons (show i < sites.length by omega), addAll_cons]
    congr 2 <;> simp [show i < sites.length by omega]
def baseOk (b : Int) : Bool := decide (0 ≤ b ∧ b ≤ 16384 ∧ b % 4 = 0)
/-- What Image comes to. -/
def imgS (o : Sapi_Obj) (b : Int) : List Int × Int := if mayS o = 0 then (if baseOk b = true then (addAll b o.Words o.Sites, 0) else ([], 11)) else ([], mayS o)
theorem may_sites {o : Sapi_Obj} (h : mayS o = 0) : o.Words.length ≤ 1024 ∧ o.Syms.length ≤ 64 ∧ rise (o.Words.length : Int) (-1) o.Sites = true := by
  unfold mayS at h
  by_cases h1 : 1024 < o.Words.length ∨ 64 < o.Syms.length
  · rw [if_pos h1] at h; cases h
  · rw [if_neg h1] at h
    cases hr : rise (o.Words.length : Int) (-1) o.Sites with
    | true => exact ⟨by omega, by omega, rfl⟩
    | false => rw [hr, if_pos rfl] at h; cases h
theorem site_in {o : Sapi_Obj} (h : mayS o = 0) : ∀ s ∈ o.Sites, 0 ≤ s ∧ s < (o.Words.length : Int) := fun s hs => by
  have := rise_all (may_sites h).2.2 (by omega) s hs
  omega
theorem lputw_rep (l : List Int) (d : Int) : lputw (List.replicate l.length d) l = l := by
  unfold lputw
  rw [List.length_replicate, List.take_length, List.drop_eq_nil_of_le (by simp), List.append_nil]
theorem ixi (l : List Int) (i : Nat) : ix (eI .i64).d l (i : Int) = l.getD i 0 := rfl
theorem ixu (l : List Int) (x : Int) : ix (eI .u32).d l x = l.getD x.toNat 0 := rfl
theorem getD_mem {l : List Int} {i : Nat} (h : i < l.length) : l.getD i 0 ∈ l := by
  rw [List.getD_eq_getElem?_getD, List.getElem?_eq_getElem h]; exact List.getElem_mem h
section
variable {o : Sapi_Obj} {b : Int}
theorem img_base {α : Type} {x y : α} {j : Bool → α} (hj : j true = x) (hj' : j false = y) :
    (if b < 0 then j true else if b > 16384 then j true else j ((b.tmod 4) != 0)) = if baseOk b = true then y else x := by
  unfold baseOk
  by_cases h1 : b < 0
  · rw [if_pos h1, decide_eq_false (by omega), if_neg (by simp), hj]
  · rw [if_neg h1, Int.tmod_eq_emod_of_nonneg (by omega)]
    by_cases h2 : b > 16384
    · rw [if_pos h2, decide_eq_false (by omega), if_neg (by simp), hj]
    · rw [if_neg h2]
      by_cases h3 : b % 4 = 0
      · rw [decide_eq_true (by omega), if_pos rfl, h3]; exact hj'
      · rw [decide_eq_false (by omega), if_neg (by simp), show (b % 4 != 0) = true from by simpa using h3, hj]
theorem image_is (h : Ob o) : load_Image o b = some (imgS o b) := by
  unfold load_Image imgS
  rw [obmay_is h, Option.bind_some]
  by_cases hm : mayS o = 0
  · rw [if_pos hm, if_pos hm]
    have hs := site_in hm
    have hl := may_sites hm
    have e : load_Image.j2 o b = some (addAll b o.Words o.Sites, 0) := by
      unfold load_Image.j2
      rw [if_pos (by omega)]
      have e0 : lputw (List.replicate ((o.Words.length : Int) : Int).toNat (eI .u32).d) o.Words = o.Words := by rw [Int.toNat_natCast]; exact lputw_rep _ _
      rw [e0]
      have := img_loop (b := b) (sites := o.Sites) (f := fun (σ : (List Int) × Int) => load_Image.b40 o b σ.1 σ.2) (fun l i hi hs => by
        have hsl := h.sl
        have hg := hs _ (getD_mem hi)
        show load_Image.b40 o b l (i : Int) = _
        unfold load_Image.b40
        rw [if_pos (by omega), if_pos (by omega)]
        show (if 0 ≤ ix (eI .i64).d o.Sites (i : Int) ∧ _ then _ else none) = _
        rw [ixi, if_pos hg, if_pos hg, ixu, w64s (by omega) (by omega)]
        rfl) (fun l => by
        show load_Image.b40 o b l _ = _
        unfold load_Image.b40
        rw [if_neg (by omega)]) o.Sites.length 0 o.Words (by omega) hs
      rw [show ((0 : Nat) : Int) = 0 from rfl] at this
      rw [this]
      rfl
    have := img_base (b := b) (j := load_Image.j1 o b) (x := some (([] : List Int), 11)) (y := some (addAll b o.Words o.Sites, 0)) (by unfold load_Image.j1; rw [if_pos rfl]) (by unfold load_Image.j1; rw [if_neg (by simp), e])
    rw [this]
    split <;> rfl
  · rw [if_neg hm, if_neg hm]
theorem refimage_is (h : Ob o) : rivetref12_Image o b = some (imgS o b) := by
  unfold rivetref12_Image imgS
  rw [refmay_is h, Option.bind_some]
  by_cases hm : mayS o = 0
  · rw [if_pos hm, if_pos hm]
    have hs := site_in hm
    have hl := may_sites hm
    have e : rivetref12_Image.j2 o b = some (addAll b o.Words o.Sites, 0) := by
      unfold rivetref12_Image.j2
      rw [if_pos (by simp; omega), List.nil_append]
      have := img_loop (b := b) (sites := o.Sites) (f := fun (σ : (List Int) × Int) => rivetref12_Image.b41 o b σ.1 σ.2) (fun l i hi hs => by
        have hsl := h.sl
        have hg := hs _ (getD_mem hi)
        show rivetref12_Image.b41 o b l (i : Int) = _
        unfold rivetref12_Image.b41
        rw [if_pos (by omega), if_pos (by omega), if_pos (by omega), ixi, if_pos hg, if_pos hg, ixu, w64s (by omega) (by omega)]
        rfl) (fun l => by
        show rivetref12_Image.b41 o b l _ = _
        unfold rivetref12_Image.b41
        rw [if_neg (by omega)]) o.Sites.length 0 o.Words (by omega) hs
      rw [show ((0 : Nat) : Int) = 0 from rfl] at this
      rw [this]
      rfl
    have := img_base (b := b) (j := rivetref12_Image.j1 o b) (x := some (([] : List Int), 11)) (y := some (addAll b o.Words o.Sites, 0)) (by unfold rivetref12_Image.j1; rw [if_pos rfl]) (by unfold rivetref12_Image.j1; rw [if_neg (by simp), e])
    rw [this]
    split <;> rfl
  · rw [if_neg hm, if_neg hm]
end
theorem shown_is : rivetlaw12_shown = some true := by
  unfold rivetlaw12_shown
  rw [image_is ⟨by intro x hx; simp at hx; omega, by simp, by simp, by simp⟩]
  have e : imgS ⟨[4, 7], [0], []⟩ 8 = ([12, 7], 0) := by rfl
  rw [e, Option.bind_some]
  show (rivetref05_Same [12, 7] [12, 7]).bind _ = _
  rw [same32 (by simp), Option.bind_some, decide_eq_true rfl, if_pos rfl, if_pos rfl]
  rfl
end Go.Proofs.YtheccnbamcdpmaaDoor.O12
