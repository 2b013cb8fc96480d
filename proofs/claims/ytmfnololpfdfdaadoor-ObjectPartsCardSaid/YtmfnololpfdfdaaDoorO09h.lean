/- The plain law of the statement ObjectParts. No condition. -/
import Derived.Test.YtmfnololpfdfdaaDoorO09e
import Derived.Test.YtmfnololpfdfdaaDoorT09zObjectParts
namespace Go.Proofs.YtmfnololpfdfdaaDoor.T09
set_option linter.unusedVariables false
set_option linter.unusedSimpArgs false
open Go Go.RowKit Go.Proofs.YtmfnololpfdfdaaDoor.E Go.Proofs.YtmfnololpfdfdaaDoor.L07 Go.Proofs.YtmfnololpfdfdaaDoor.O09
open Go.Proofs.YtmfnololpfdfdaaDoor.C08 (rise rise_all rise_of Ris getD_set)
def fits (o : Sapi_Obj) (k : Nat) (l : List Int) : Bool := l.all fun x => !decide (x < (k : Int)) || decide (o.Words.getD x.toNat 0 ≤ 4 * (k : Int))
theorem parts_sites {o : Sapi_Obj} (h : Fitted o) {k : Nat} (hk : k ≤ o.Words.length) :
    loopO (fun σ : List Int × Bool × Int => rivetlaw09_ObjectParts.b60 o (k : Int) σ.1 σ.2.1 σ.2.2) (([] : List Int), true, 0) = some (o.Sites.filter (fun x => decide (x < (k : Int))), fits o k o.Sites) := by
  have hwl := h.wl
  have hsl := ris_len h.ris
  have key : ∀ (m i : Nat), i + m = o.Sites.length → loopO (fun σ : List Int × Bool × Int => rivetlaw09_ObjectParts.b60 o (k : Int) σ.1 σ.2.1 σ.2.2) ((o.Sites.take i).filter (fun x => decide (x < (k : Int))), fits o k (o.Sites.take i), (i : Int)) = some (o.Sites.filter (fun x => decide (x < (k : Int))), fits o k o.Sites) := by
    intro m
    induction m with
    | zero =>
      intro i hi
      rw [List.take_of_length_le (by omega)]
      refine loopO_done ?_
      show rivetlaw09_ObjectParts.b60 o (k : Int) _ _ (i : Int) = _
      unfold rivetlaw09_ObjectParts.b60
      rw [if_neg (by omega)]
    | succ m ih =>
      intro i hi
      have hi' : i < o.Sites.length := by omega
      have hx := h.ris.lo o.Sites[i] (List.getElem_mem hi')
      have hx2 := h.ris.hi o.Sites[i] (List.getElem_mem hi')
      have e : ix (eI .i64).d o.Sites (i : Int) = o.Sites[i] := by show o.Sites.getD i 0 = _; simp [hi']
      have e2 : ix (eI .u32).d o.Words o.Sites[i] = o.Words.getD o.Sites[i].toNat 0 := rfl
      have hg := getD_in h.w (i := o.Sites[i].toNat) (by omega)
      have et : o.Sites.take (i + 1) = o.Sites.take i ++ [o.Sites[i]] := by rw [List.take_add_one, List.getElem?_eq_getElem hi']; rfl
      refine Eq.trans (loopO_next (s' := ((o.Sites.take (i + 1)).filter (fun x => decide (x < (k : Int))), fits o k (o.Sites.take (i + 1)), ((i + 1 : Nat) : Int))) ?_) (ih (i + 1) (by omega))
      show rivetlaw09_ObjectParts.b60 o (k : Int) _ _ (i : Int) = _
      have hfl : ((o.Sites.take i).filter (fun x => decide (x < (k : Int)))).length ≤ 40 := Nat.le_trans (List.length_filter_le _ _) (by rw [List.length_take]; omega)
      unfold rivetlaw09_ObjectParts.b60 rivetlaw09_ObjectParts.j1
      have ef : fits o k (o.Sites.take (i + 1)) = (fits o k (o.Sites.take i) && (!decide (o.Sites[i] < (k : Int)) || decide (o.Words.getD o.Sites[i].toNat 0 ≤ 4 * (k : Int)))) := by
        unfold fits
        rw [et, List.all_append]
        simp
      rw [if_pos (by omega), if_pos (by omega), e, w64s (x := (i : Int) + 1) (by omega) (by omega), ef, et, List.filter_append]
      by_cases hc : o.Sites[i] < (k : Int)
      · have : [o.Sites[i]].filter (fun x => decide (x < (k : Int))) = [o.Sites[i]] := by simp [hc]
        rw [if_pos hc, if_pos (by omega), if_pos (by simp only [List.length_singleton]; omega), decide_eq_true hc, this]
        cases fits o k (o.Sites.take i) with
        | false => simp
        | true =>
          rw [if_pos rfl, if_pos (by omega), if_pos (by omega), e2, w64s (x := o.Words.getD _ _) (by omega) (by omega), w64s (x := 4 * _) (by omega) (by omega)]
          simp
      · rw [if_neg hc, decide_eq_false hc]
        have : [o.Sites[i]].filter (fun x => decide (x < (k : Int))) = [] := by simp; omega
        rw [this]
        simp
  exact key o.Sites.length 0 (by omega)
theorem parts_syms {o : Sapi_Obj} (h : Fitted o) {k : Nat} (hk : k ≤ o.Words.length) :
    loopO (fun σ : List Sapi_Sym × Int => rivetlaw09_ObjectParts.b105 o (k : Int) σ.1 σ.2) (([] : List Sapi_Sym), 0) = some (o.Syms.filter (fun x => decide (x.At ≤ 4 * (k : Int)))) := by
  have hwl := h.wl
  have hyl := h.yl
  have key : ∀ (m i : Nat), i + m = o.Syms.length → loopO (fun σ : List Sapi_Sym × Int => rivetlaw09_ObjectParts.b105 o (k : Int) σ.1 σ.2) ((o.Syms.take i).filter (fun x => decide (x.At ≤ 4 * (k : Int))), (i : Int)) = some (o.Syms.filter (fun x => decide (x.At ≤ 4 * (k : Int)))) := by
    intro m
    induction m with
    | zero =>
      intro i hi
      rw [List.take_of_length_le (by omega)]
      refine loopO_done ?_
      unfold rivetlaw09_ObjectParts.b105
      rw [if_neg (by omega)]
    | succ m ih =>
      intro i hi
      have hi' : i < o.Syms.length := by omega
      have e : ix eSapi_Sym.d o.Syms (i : Int) = o.Syms[i] := sy_at hi'
      have et : o.Syms.take (i + 1) = o.Syms.take i ++ [o.Syms[i]] := by rw [List.take_add_one, List.getElem?_eq_getElem hi']; rfl
      refine Eq.trans (loopO_next (s' := ((o.Syms.take (i + 1)).filter (fun x => decide (x.At ≤ 4 * (k : Int))), ((i + 1 : Nat) : Int))) ?_) (ih (i + 1) (by omega))
      show rivetlaw09_ObjectParts.b105 o (k : Int) _ (i : Int) = _
      have hfl : ((o.Syms.take i).filter (fun x => decide (x.At ≤ 4 * (k : Int)))).length ≤ 40 := Nat.le_trans (List.length_filter_le _ _) (by rw [List.length_take]; omega)
      unfold rivetlaw09_ObjectParts.b105 rivetlaw09_ObjectParts.j3
      rw [if_pos (by omega), if_pos (by omega), e, w64s (x := 4 * _) (by omega) (by omega), w64s (x := (i : Int) + 1) (by omega) (by omega), et, List.filter_append]
      by_cases hc : o.Syms[i].At ≤ 4 * (k : Int)
      · rw [if_pos hc, if_pos (by omega), if_pos (by simp only [List.length_singleton]; omega)]
        have : [o.Syms[i]].filter (fun x => decide (x.At ≤ 4 * (k : Int))) = [o.Syms[i]] := by simp [hc]
        rw [this]
        simp
      · rw [if_neg hc]
        have : [o.Syms[i]].filter (fun x => decide (x.At ≤ 4 * (k : Int))) = [] := by simp; omega
        rw [this]
        simp
  exact key o.Syms.length 0 (by omega)
theorem parts_may {o : Sapi_Obj} (h : Fitted o) {k : Nat} (hk : k ≤ o.Words.length) :
    mayS ⟨o.Words.take k, o.Sites.filter (fun x => decide (x < (k : Int))), o.Syms.filter (fun x => decide (x.At ≤ 4 * (k : Int)))⟩ = if fits o k o.Sites = true then 0 else 8 := by
  have hwl := h.wl
  have hyl := h.yl
  have hlen : (o.Words.take k).length = k := by rw [List.length_take]; omega
  have hfl : (o.Syms.filter (fun x => decide (x.At ≤ 4 * (k : Int)))).length ≤ 8 := Nat.le_trans (List.length_filter_le _ _) hyl
  have hris : Ris 0 k (o.Sites.filter (fun x => decide (x < (k : Int)))) := ⟨h.ris.up.sublist List.filter_sublist, fun x hx => h.ris.lo x ((List.mem_filter.1 hx).1), fun x hx => by simpa using (List.mem_filter.1 hx).2⟩
  have hget : ∀ x : Int, 0 ≤ x → x < (k : Int) → (o.Words.take k).getD x.toNat 0 = o.Words.getD x.toNat 0 := fun x h0 h1 => by
    rw [List.getD_eq_getElem?_getD, List.getElem?_take, if_pos (by omega), ← List.getD_eq_getElem?_getD]
  by_cases hf : fits o k o.Sites = true
  · rw [if_pos hf]
    refine may_ok (by simp only [hlen]; omega) (by simp only; omega) (by simp only [hlen]; exact hris) ?_ ?_ ?_ ?_
    · intro x hx
      simp only at hx ⊢
      have h1 := List.mem_filter.1 hx
      have h2 : x < (k : Int) := by simpa using h1.2
      rw [hlen, hget x (hris.lo x hx) h2]
      have := List.all_eq_true.1 hf x h1.1
      rw [decide_eq_true h2] at this
      simpa using this
    · exact fun s hs => made_name (h.nm s ((List.mem_filter.1 hs).1))
    · exact h.up.sublist List.filter_sublist
    · intro s hs
      simp only at hs ⊢
      rw [hlen]
      have h1 := List.mem_filter.1 hs
      have h2 : s.At ≤ 4 * (k : Int) := by simpa using h1.2
      have h3 := h.at' s h1.1
      unfold atOk at h3 ⊢
      rw [decide_eq_true_eq] at h3 ⊢
      omega
  · rw [if_neg hf]
    unfold mayS
    have hr : rise (k : Int) (-1) (o.Sites.filter (fun x => decide (x < (k : Int)))) = true := rise_of hris.up fun x hx => by have := hris.lo x hx; have := hris.hi x hx; omega
    have hall : (List.range (o.Sites.filter (fun x => decide (x < (k : Int)))).length).all (siteOk ⟨o.Words.take k, o.Sites.filter (fun x => decide (x < (k : Int))), o.Syms.filter (fun x => decide (x.At ≤ 4 * (k : Int)))⟩) = false := by
      have hf : fits o k o.Sites = false := by simpa using hf
      unfold fits at hf
      rw [List.all_eq_false] at hf
      obtain ⟨x, hx, hx2⟩ := hf
      have hx2 : x < (k : Int) ∧ 4 * (k : Int) < o.Words.getD x.toNat 0 := by
        by_cases h1 : x < (k : Int)
        · rw [decide_eq_true h1] at hx2
          refine ⟨h1, ?_⟩
          simp only [Bool.not_true, Bool.false_or, decide_eq_true_eq] at hx2
          omega
        · rw [decide_eq_false h1] at hx2
          simp at hx2
      have hm : x ∈ o.Sites.filter (fun x => decide (x < (k : Int))) := List.mem_filter.2 ⟨hx, by simpa using hx2.1⟩
      obtain ⟨j, hj, hje⟩ := List.getElem_of_mem hm
      rw [List.all_eq_false]
      refine ⟨j, by simpa using hj, ?_⟩
      unfold siteOk
      have eg : (o.Sites.filter (fun x => decide (x < (k : Int)))).getD j 0 = x := by rw [List.getD_eq_getElem?_getD, List.getElem?_eq_getElem hj, hje]; rfl
      simp only
      rw [eg, hget x (h.ris.lo x hx) hx2.1, hlen, decide_eq_false (by omega)]
      simp
    simp only [hlen]
    rw [if_neg (by omega), hr, if_neg (by simp), hall, if_pos rfl]
theorem Pure.ObjectParts (a0 : Srivetlaw09_Parts) (a1 : Int) : okSrivetlaw09_Parts a0 → In .u8 a1 → rivetlaw09_ObjectParts a0 a1 = some true := by
  intro h0 h1
  obtain ⟨o, ho, h⟩ := fitobj_is (w := a0.Words) (b := a0.Bits) (ns := a0.Names) (fun x hx => (h0.1 x hx).u32) (fun s hs => h0.2.2.2.2.1 s hs)
  have hob := h.ob
  have hwl := h.wl
  have hyl := h.yl
  have hsl := ris_len h.ris
  have ha := h1.u8
  obtain ⟨k, hk, ek⟩ : ∃ k : Nat, k < o.Words.length + 1 ∧ (w64 a1).tmod (w64 ((o.Words.length : Int) + 1)) = (k : Int) := by
    obtain ⟨m, rfl⟩ := Int.eq_ofNat_of_zero_le ha.1
    refine ⟨m % (o.Words.length + 1), Nat.mod_lt _ (by omega), ?_⟩
    rw [w64s (by omega) (by omega), w64s (by omega) (by omega), Int.tmod_eq_emod_of_nonneg (by omega), show (o.Words.length : Int) + 1 = ((o.Words.length + 1 : Nat) : Int) by omega]
    generalize o.Words.length + 1 = n
    omega
  unfold rivetlaw09_ObjectParts
  rw [O09.shown_is, Option.bind_some, ho, Option.bind_some, if_pos (by rw [w64s (by omega) (by omega)]; omega)]
  simp only [nm]
  rw [ek, if_pos (by omega), parts_sites h (by omega), Option.bind_some]
  unfold rivetlaw09_ObjectParts.j2
  rw [parts_syms h (by omega), Option.bind_some]
  unfold rivetlaw09_ObjectParts.j4
  have sub : ∀ {s : List Int} {y : List Sapi_Sym} {w : List Int}, Wd w → w.length ≤ 40 → s.length ≤ 40 → y.length ≤ 8 → Ob ⟨w, s, y⟩ := fun {s y w} a b c d => ⟨a, by simp only; omega, by simp only; omega, by simp only; omega⟩
  have l1 : (o.Sites.filter (fun x => decide (x < (k : Int)))).length ≤ 40 := Nat.le_trans (List.length_filter_le _ _) (by omega)
  have l2 : (o.Syms.filter (fun x => decide (x.At ≤ 4 * (k : Int)))).length ≤ 8 := Nat.le_trans (List.length_filter_le _ _) hyl
  have r0 : Ris 0 o.Words.length [] := ⟨List.Pairwise.nil, by simp, by simp⟩
  rw [Int.toNat_natCast, obmay_is (sub (fun x hx => h.w x (List.mem_of_mem_take hx)) (by rw [List.length_take]; omega) l1 l2), parts_may h (by omega), Option.bind_some, if_pos rfl,
    obmay_is (sub h.w hwl (by omega) (by simp)), may_ok (o := ⟨o.Words, o.Sites, []⟩) (by simp only; omega) (by simp) h.ris h.val (by simp) List.Pairwise.nil (by simp), Option.bind_some, if_pos rfl,
    obmay_is (sub h.w hwl (by simp) hyl), may_ok (o := ⟨o.Words, [], o.Syms⟩) (by simp only; omega) (by simp only; omega) r0 (by simp) (fun s hs => made_name (h.nm s hs)) h.up h.at', Option.bind_some, if_pos rfl,
    obmay_is (sub h.w hwl (by simp) (by simp)), may_ok (o := ⟨o.Words, [], []⟩) (by simp only; omega) (by simp) r0 (by simp) (by simp) List.Pairwise.nil (by simp), Option.bind_some, if_pos rfl]
  unfold rivetlaw09_ObjectParts.j5
  simp only
  cases fits o k o.Sites <;> simp
end Go.Proofs.YtmfnololpfdfdaaDoor.T09
