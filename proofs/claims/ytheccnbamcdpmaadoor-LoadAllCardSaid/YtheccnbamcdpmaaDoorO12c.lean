/- Objects: what May and Same of the program and of the reference come to, told by one function. No condition. -/
import Derived.Test.YtheccnbamcdpmaaDoorO12a
import Derived.Test.YtheccnbamcdpmaaDoorO12b
namespace Go.Proofs.YtheccnbamcdpmaaDoor.O12
set_option linter.unusedVariables false
set_option linter.unusedSimpArgs false
open Go Go.RowKit Go.Proofs.YtheccnbamcdpmaaDoor.E Go.Proofs.YtheccnbamcdpmaaDoor.T12 Go.Proofs.YtheccnbamcdpmaaDoor.L07
open Go.Proofs.YtheccnbamcdpmaaDoor.C08 (rise rise_is rise_all packed pack_chain)
theorem loop_all {ρ : Type} {f : Int → Option (Int ⊕ Ex ρ Unit)} {n : Nat} {p : Nat → Bool} (bad : Nat → ρ) (h1 : ∀ i, i < n → f (i : Int) = some (if p i = true then .inl ((i + 1 : Nat) : Int) else .inr (.ret (bad i)))) (h2 : f (n : Int) = some (.inr (.done ()))) :
    ((List.range n).all p = true ∧ loopO f 0 = some (.done ())) ∨ ((List.range n).all p = false ∧ ∃ i, i < n ∧ loopO f 0 = some (.ret (bad i))) := by
  have key : ∀ (m i : Nat), i + m = n → ((List.range' i m).all p = true ∧ loopO f (i : Int) = some (.done ())) ∨ ((List.range' i m).all p = false ∧ ∃ k, k < n ∧ loopO f (i : Int) = some (.ret (bad k))) := by
    intro m
    induction m with
    | zero =>
      intro i h
      have : i = n := by omega
      subst this
      exact .inl ⟨rfl, loopO_done h2⟩
    | succ m ih =>
      intro i h
      rw [List.range'_succ, List.all_cons]
      cases hp : p i with
      | true =>
        rw [loopO_next (s' := ((i + 1 : Nat) : Int)) (by rw [h1 i (by omega), hp, if_pos rfl]), Bool.true_and]
        exact ih (i + 1) (by omega)
      | false => exact .inr ⟨rfl, i, by omega, loopO_done (by rw [h1 i (by omega), hp, if_neg (by simp)])⟩
  have := key n 0 (by omega)
  rw [List.range_eq_range']
  exact this
abbrev sy (l : List Sapi_Sym) (i : Nat) : Sapi_Sym := l.getD i eSapi_Sym.d
def le2 (s t : ByteArray) : Bool := Op.bytesLess s.toList t.toList || s.toList == t.toList
def siteOk (o : Sapi_Obj) (i : Nat) : Bool := decide (o.Words.getD (o.Sites.getD i 0).toNat 0 ≤ 4 * (o.Words.length : Int))
def nmOk (l : List Sapi_Sym) (i : Nat) : Bool := nameS (bytesL (sy l i).Name) && !(decide (0 < i) && le2 (sy l i).Name (sy l (i - 1)).Name)
def atOk (n : Nat) (x : Int) : Bool := decide (0 ≤ x ∧ x ≤ 4 * (n : Int) ∧ x % 4 = 0)
def mayS (o : Sapi_Obj) : Int :=
  if 1024 < o.Words.length ∨ 64 < o.Syms.length then 2 else
  if rise (o.Words.length : Int) (-1) o.Sites = false then 7 else
  if (List.range o.Sites.length).all (siteOk o) = false then 8 else
  if (List.range o.Syms.length).all (nmOk o.Syms) = false then 9 else
  if (List.range o.Syms.length).all (fun i => atOk o.Words.length (sy o.Syms i).At) = false then 8 else 0
/-- What is known of an object that comes in. -/
structure Ob (o : Sapi_Obj) : Prop where
  w : Wd o.Words
  wl : o.Words.length ≤ 1000000000000
  sl : o.Sites.length ≤ 1000000000000
  yl : o.Syms.length ≤ 1000000000000
section
variable {o : Sapi_Obj}
theorem rise_at {N : Int} {l : List Int} (h : rise N (-1) l = true) {i : Nat} (hi : i < l.length) : 0 ≤ l.getD i 0 ∧ l.getD i 0 < N := by
  have h1 := rise_all h (by omega) (l.getD i 0) (by rw [List.getD_eq_getElem?_getD, List.getElem?_eq_getElem hi]; exact List.getElem_mem hi)
  exact ⟨h1.2.1, h1.2.2.1⟩
theorem ref_sites (h : Ob o) (hn : o.Words.length ≤ 1024) (hr : rise (o.Words.length : Int) (-1) o.Sites = true) {i : Nat} (hi : i < o.Sites.length) : rivetref09_May.b26 o (i : Int) = some (if siteOk o i = true then .inl ((i + 1 : Nat) : Int) else .inr (.ret 8)) := by
  have h1 := rise_at hr hi
  have h2 := getD_in h.w (i := (o.Sites.getD i 0).toNat) (by omega)
  have e : ix (eI .i64).d o.Sites (i : Int) = o.Sites.getD i 0 := rfl
  have e2 : ix (eI .u32).d o.Words (o.Sites.getD i 0) = o.Words.getD (o.Sites.getD i 0).toNat 0 := rfl
  have := h.sl
  unfold rivetref09_May.b26
  rw [if_pos (by omega), if_pos (by omega), e, if_pos h1, e2, w64s (x := o.Words.getD _ _) (by omega) (by omega), w64s (x := 4 * _) (by omega) (by omega), w64s (x := (i : Int) + 1) (by omega) (by omega)]
  unfold siteOk
  by_cases hc : o.Words.getD (o.Sites.getD i 0).toNat 0 > 4 * (o.Words.length : Int)
  · rw [if_pos hc, if_neg (by simp only [decide_eq_true_eq]; omega)]
  · rw [if_neg hc, if_pos (by simp only [decide_eq_true_eq]; omega)]; rfl
theorem ob_sites (h : Ob o) (hn : o.Words.length ≤ 1024) (hr : rise (o.Words.length : Int) (-1) o.Sites = true) {i : Nat} (hi : i < o.Sites.length) : object_May.b47 o (i : Int) = some (if siteOk o i = true then .inl ((i + 1 : Nat) : Int) else .inr (.ret (i : Int))) := by
  have h1 := rise_at hr hi
  have h2 := getD_in h.w (i := (o.Sites.getD i 0).toNat) (by omega)
  have e : ix (eI .i64).d o.Sites (i : Int) = o.Sites.getD i 0 := rfl
  have e2 : ix (eI .u32).d o.Words (o.Sites.getD i 0) = o.Words.getD (o.Sites.getD i 0).toNat 0 := rfl
  have := h.sl
  unfold object_May.b47
  rw [if_pos (by omega), if_pos (by omega), e, if_pos h1, e2, w64s (x := o.Words.getD _ _) (by omega) (by omega), w64s (x := 4 * _) (by omega) (by omega), w64s (x := (i : Int) + 1) (by omega) (by omega)]
  unfold siteOk
  by_cases hc : o.Words.getD (o.Sites.getD i 0).toNat 0 > 4 * (o.Words.length : Int)
  · rw [if_pos hc, if_neg (by simp only [decide_eq_true_eq]; omega)]
  · rw [if_neg hc, if_pos (by simp only [decide_eq_true_eq]; omega)]; rfl
theorem ref_names (h : Ob o) {i : Nat} (hi : i < o.Syms.length) : rivetref09_May.b43 o (i : Int) = some (if nmOk o.Syms i = true then .inl ((i + 1 : Nat) : Int) else .inr (.ret 9)) := by
  have := h.yl
  have e : ix eSapi_Sym.d o.Syms (i : Int) = sy o.Syms i := rfl
  unfold rivetref09_May.b43
  rw [if_pos (by omega), if_pos (by omega), e, refname_is, Option.bind_some]
  unfold nmOk
  cases hb : nameS (bytesL (sy o.Syms i).Name) with
  | false => simp [rivetref09_May.j4]
  | true =>
    rw [if_pos rfl, Bool.true_and]
    by_cases h0 : 0 < i
    · have e1 : w64 ((i : Int) - 1) = ((i - 1 : Nat) : Int) := by rw [w64s (by omega) (by omega)]; omega
      have e2 : ix eSapi_Sym.d o.Syms ((i - 1 : Nat) : Int) = sy o.Syms (i - 1) := rfl
      rw [if_pos (by omega), if_pos (by omega), e1, if_pos (by omega), e2, decide_eq_true h0, Bool.true_and]
      show rivetref09_May.j4 _ (le2 _ _) = _
      unfold rivetref09_May.j4 rivetref09_May.j5
      rw [w64s (by omega) (by omega)]
      cases le2 (sy o.Syms i).Name (sy o.Syms (i - 1)).Name <;> rfl
    · rw [if_neg (by omega), decide_eq_false h0]
      unfold rivetref09_May.j4 rivetref09_May.j5
      rw [w64s (by omega) (by omega)]
      rfl
theorem ob_names (h : Ob o) {i : Nat} (hi : i < o.Syms.length) : object_May.b76 o (i : Int) = some (if nmOk o.Syms i = true then .inl ((i + 1 : Nat) : Int) else .inr (.ret false)) := by
  have := h.yl
  have e : ix eSapi_Sym.d o.Syms (i : Int) = sy o.Syms i := rfl
  unfold object_May.b76
  rw [if_pos (by omega), if_pos (by omega), e, name_is, Option.bind_some]
  unfold nmOk
  cases hb : nameS (bytesL (sy o.Syms i).Name) with
  | false => simp [object_May.j5]
  | true =>
    rw [if_pos rfl, Bool.true_and]
    by_cases h0 : 0 < i
    · have e1 : w64 ((i : Int) - 1) = ((i - 1 : Nat) : Int) := by rw [w64s (by omega) (by omega)]; omega
      have e2 : ix eSapi_Sym.d o.Syms ((i - 1 : Nat) : Int) = sy o.Syms (i - 1) := rfl
      rw [if_pos (by omega), e1, if_pos (by omega), e2, decide_eq_true h0, Bool.true_and]
      show object_May.j5 _ (le2 _ _) = _
      unfold object_May.j5 object_May.j6
      rw [w64s (by omega) (by omega)]
      cases le2 (sy o.Syms i).Name (sy o.Syms (i - 1)).Name <;> rfl
    · rw [if_neg (by omega), decide_eq_false h0]
      unfold object_May.j5 object_May.j6
      rw [w64s (by omega) (by omega)]
      rfl
theorem mod4 {x : Int} (h : 0 ≤ x) : x.tmod 4 = x % 4 := by rw [Int.tmod_eq_emod_of_nonneg h]
theorem ref_ats (h : Ob o) (hn : o.Words.length ≤ 1024) {i : Nat} (hi : i < o.Syms.length) : rivetref09_May.b66 o (i : Int) = some (if atOk o.Words.length (sy o.Syms i).At = true then .inl ((i + 1 : Nat) : Int) else .inr (.ret 8)) := by
  have := h.yl
  have e : ix eSapi_Sym.d o.Syms (i : Int) = sy o.Syms i := rfl
  unfold rivetref09_May.b66 nm
  rw [if_pos (by omega), if_pos (by omega), e, w64s (x := 4 * _) (by omega) (by omega)]
  simp only [rivetref09_May.j7, rivetref09_May.j8]
  rw [w64s (by omega) (by omega)]
  generalize (sy o.Syms i).At = x
  unfold atOk
  by_cases h0 : x < 0
  · rw [if_pos h0, decide_eq_false (by omega)]; rfl
  · rw [if_neg h0]
    by_cases h1 : x > 4 * (o.Words.length : Int)
    · rw [if_pos h1, decide_eq_false (by omega)]; rfl
    · rw [if_neg h1, mod4 (by omega)]
      by_cases h2 : x % 4 = 0
      · rw [decide_eq_true (by omega), h2]; rfl
      · rw [decide_eq_false (by omega), if_pos (by simpa using h2)]; rfl
theorem ob_ats (h : Ob o) (hn : o.Words.length ≤ 1024) {i : Nat} (hi : i < o.Syms.length) : object_May.b116 o (i : Int) = some (if atOk o.Words.length (sy o.Syms i).At = true then .inl ((i + 1 : Nat) : Int) else .inr (.ret (i : Int))) := by
  have := h.yl
  have e : ix eSapi_Sym.d o.Syms (i : Int) = sy o.Syms i := rfl
  unfold object_May.b116
  rw [if_pos (by omega), if_pos (by omega), e, w64s (x := 4 * _) (by omega) (by omega)]
  simp only [object_May.j9]
  rw [w64s (by omega) (by omega)]
  generalize (sy o.Syms i).At = x
  unfold atOk
  by_cases h0 : x < 0
  · rw [if_pos h0, decide_eq_false (by omega)]; rfl
  · rw [if_neg h0]
    by_cases h1 : x > 4 * (o.Words.length : Int)
    · rw [if_pos h1, decide_eq_false (by omega)]; rfl
    · rw [if_neg h1, mod4 (by omega)]
      by_cases h2 : x % 4 = 0
      · rw [decide_eq_true (by omega), h2]; rfl
      · rw [decide_eq_false (by omega), if_pos (by simpa using h2)]; rfl
theorem refmay_is (h : Ob o) : rivetref09_May o = some (mayS o) := by
  have hw := h.wl
  have hs := h.sl
  have hy := h.yl
  unfold rivetref09_May mayS
  by_cases hb : 1024 < o.Words.length ∨ 64 < o.Syms.length
  · rw [if_pos hb]
    by_cases h1 : 1024 < o.Words.length
    · rw [if_pos (by omega)]; rfl
    · rw [if_neg (by omega), decide_eq_true (by omega)]; rfl
  · rw [if_neg hb, if_neg (by omega), decide_eq_false (by omega)]
    have hn : o.Words.length ≤ 1024 := by omega
    unfold rivetref09_May.j1 rivetref09_May.j2
    rw [if_neg (by simp), rise_is _ _ (by omega), Option.bind_some]
    cases hr : rise (o.Words.length : Int) (-1) o.Sites with
    | false => rfl
    | true =>
      rw [if_pos rfl, if_neg (by simp)]
      rcases loop_all (f := fun σ => rivetref09_May.b26 o σ) (p := siteOk o) (fun _ => 8) (fun i hi => ref_sites h hn hr hi) (by unfold rivetref09_May.b26; rw [if_neg (by omega)]) with ⟨a1, a2⟩ | ⟨a1, i, hi, a2⟩
      · rw [a1, a2, if_neg (by simp), Option.bind_some]
        simp only [rivetref09_May.j3]
        rcases loop_all (f := fun σ => rivetref09_May.b43 o σ) (p := nmOk o.Syms) (fun _ => 9) (fun i hi => ref_names h hi) (by unfold rivetref09_May.b43; rw [if_neg (by omega)]) with ⟨b1, b2⟩ | ⟨b1, i, hi, b2⟩
        · rw [b1, b2, if_neg (by simp), Option.bind_some]
          simp only [rivetref09_May.j6]
          rcases loop_all (f := fun σ => rivetref09_May.b66 o σ) (p := fun i => atOk o.Words.length (sy o.Syms i).At) (fun _ => 8) (fun i hi => ref_ats h hn hi) (by unfold rivetref09_May.b66; rw [if_neg (by omega)]) with ⟨c1, c2⟩ | ⟨c1, i, hi, c2⟩
          · rw [c1, c2, if_neg (by simp)]; rfl
          · rw [c1, c2, if_pos rfl]; rfl
        · rw [b1, b2, if_pos rfl]; rfl
      · rw [a1, a2, if_pos rfl]; rfl
theorem packed_err (l s : List Int) : ((packed l s).2.2 = 7 ∧ rise (l.length : Int) (-1) s = false) ∨ ((packed l s).2.2 ≠ 7 ∧ rise (l.length : Int) (-1) s = true) := by
  unfold packed
  cases rise (l.length : Int) (-1) s with
  | false => exact .inl ⟨rfl, rfl⟩
  | true =>
    refine .inr ⟨?_, rfl⟩
    rw [if_pos rfl]
    split <;> simp
theorem obmay_is (h : Ob o) : object_May o = some (mayS o) := by
  have hw := h.wl
  have hs := h.sl
  have hy := h.yl
  unfold object_May mayS
  by_cases hb : 1024 < o.Words.length ∨ 64 < o.Syms.length
  · rw [if_pos hb]
    by_cases h1 : 1024 < o.Words.length
    · rw [if_pos (by omega)]; rfl
    · rw [if_neg (by omega), decide_eq_true (by omega)]; rfl
  · rw [if_neg hb, if_neg (by omega), decide_eq_false (by omega)]
    have hn : o.Words.length ≤ 1024 := by omega
    unfold object_May.j1 object_May.j2
    rw [if_neg (by simp), pack_chain _ _ (by omega) hw h.w, Option.bind_some]
    have hp := packed_err o.Words o.Sites
    generalize packed o.Words o.Sites = t at hp
    obtain ⟨t1, t2, t3⟩ := t
    simp only at hp ⊢
    rcases hp with ⟨h3, hr⟩ | ⟨h3, hr⟩
    · rw [if_pos h3, hr, h3]; rfl
    · rw [if_neg h3, hr, if_neg (by simp)]
      have rest : object_May.j4 o (-1) = some (if (List.range o.Syms.length).all (nmOk o.Syms) = false then 9 else if (List.range o.Syms.length).all (fun i => atOk o.Words.length (sy o.Syms i).At) = false then 8 else 0) := by
        unfold object_May.j4
        rw [if_neg (by omega)]
        rcases loop_all (f := fun σ => object_May.b76 o σ) (p := nmOk o.Syms) (fun _ => false) (fun i hi => ob_names h hi) (by unfold object_May.b76; rw [if_neg (by omega)]) with ⟨b1, b2⟩ | ⟨b1, i, hi, b2⟩
        · rw [b1, b2, if_neg (by simp), Option.bind_some]
          simp only [object_May.j7, object_May.j8]
          rw [if_pos trivial]
          rcases loop_all (f := fun σ => object_May.b116 o σ) (p := fun i => atOk o.Words.length (sy o.Syms i).At) (fun i => (i : Int)) (fun i hi => ob_ats h hn hi) (by unfold object_May.b116; rw [if_neg (by omega)]) with ⟨c1, c2⟩ | ⟨c1, i, hi, c2⟩
          · rw [c1, c2, if_neg (by simp)]; rfl
          · rw [c1, c2, if_pos rfl, Option.bind_some]
            simp only [object_May.j11]
            rw [if_pos (by omega)]
        · rw [b1, b2, if_pos rfl]; rfl
      rcases loop_all (f := fun σ => object_May.b47 o σ) (p := siteOk o) (fun i => (i : Int)) (fun i hi => ob_sites h hn hr hi) (by unfold object_May.b47; rw [if_neg (by omega)]) with ⟨a1, a2⟩ | ⟨a1, i, hi, a2⟩
      · rw [a1, a2, if_neg (by simp), Option.bind_some]
        exact rest
      · rw [a1, a2, if_pos rfl, Option.bind_some]
        simp only [object_May.j4]
        rw [if_pos (by omega)]
end
end Go.Proofs.YtheccnbamcdpmaaDoor.O12
