/- The plain law of the statement ObjectSpoilt. No condition. -/
import Derived.Test.YtmfnololpfdfdaaDoorO09e
import Derived.Test.YtmfnololpfdfdaaDoorT09zObjectSpoilt
namespace Go.Proofs.YtmfnololpfdfdaaDoor.T09
set_option linter.unusedVariables false
set_option linter.unusedSimpArgs false
open Go Go.RowKit Go.Proofs.YtmfnololpfdfdaaDoor.E Go.Proofs.YtmfnololpfdfdaaDoor.L07 Go.Proofs.YtmfnololpfdfdaaDoor.O09
open Go.Proofs.YtmfnololpfdfdaaDoor.C08 (rise rise_all rise_of Ris getD_set)
theorem Fitted.rise {o : Sapi_Obj} (h : Fitted o) : rise (o.Words.length : Int) (-1) o.Sites = true := by
  have := h.wl
  exact rise_of h.ris.up fun x hx => by have := h.ris.lo x hx; have := h.ris.hi x hx; omega
theorem Fitted.sites {o : Sapi_Obj} (h : Fitted o) {o' : Sapi_Obj} (hw : o'.Words = o.Words) (hs : o'.Sites = o.Sites) : (List.range o'.Sites.length).all (siteOk o') = true := List.all_eq_true.2 fun i hi => by
  rw [hs] at hi
  have hi : i < o.Sites.length := by simpa using hi
  unfold siteOk
  rw [decide_eq_true_eq, hw, hs]
  refine h.val _ ?_
  rw [List.getD_eq_getElem?_getD, List.getElem?_eq_getElem hi]
  exact List.getElem_mem hi
theorem Fitted.sitesN {o : Sapi_Obj} (h : Fitted o) {o' : Sapi_Obj} (hw : o'.Words = o.Words) (hs : o'.Sites = o.Sites) : ¬ (List.range o'.Sites.length).all (siteOk o') = false := by rw [Fitted.sites h hw hs]; simp
theorem Fitted.names {o : Sapi_Obj} (h : Fitted o) : (List.range o.Syms.length).all (nmOk o.Syms) = true := List.all_eq_true.2 fun i hi => by
  have hi : i < o.Syms.length := by simpa using hi
  unfold nmOk
  rw [made_name (h.nm _ (sy_mem hi)), Bool.true_and]
  by_cases h0 : 0 < i
  · have := List.pairwise_iff_getElem.1 h.up (i - 1) i (by omega) hi (by omega)
    rw [sy_at hi, sy_at (show i - 1 < o.Syms.length by omega), le2_false this]
    simp
  · rw [decide_eq_false h0]; rfl
theorem zz_last {v : ByteArray} (h : Made v 7) : ls v ⟨#[122, 122, 95]⟩ := by
  have h1 := h.lo
  have h2 := h.first
  have h3 := h.low
  unfold ls
  have e : (⟨#[122, 122, 95]⟩ : ByteArray).toList = [122, 122, 95] := by rw [ByteArray.toList_eq]
  rw [e, ByteArray.toList_eq]
  unfold bytesL at h2 h3
  have hl : v.data.toList.length = v.size := by rw [Array.length_toList]; rfl
  cases hv : v.data.toList with
  | nil => rw [hv] at hl; simp at hl; omega
  | cons c r =>
    rw [hv] at h2 h3
    simp only [List.map_cons, List.getD_cons_zero, List.drop_succ_cons, List.drop_zero] at h2 h3
    simp only [Op.bytesLess, Bool.or_eq_true, decide_eq_true_eq, Bool.and_eq_true, beq_iff_eq]
    by_cases hc : c = 122
    · refine .inr ⟨hc, ?_⟩
      cases r with
      | nil => rfl
      | cons d r =>
        have := h3 (d.toNat : Int) (by simp)
        simp only [Op.bytesLess, Bool.or_eq_true, decide_eq_true_eq]
        refine .inl ?_
        rw [UInt8.lt_iff_toNat_lt]
        show d.toNat < 122
        omega
    · refine .inl ?_
      rw [UInt8.lt_iff_toNat_lt]
      show c.toNat < 122
      have : c.toNat ≠ 122 := fun e => hc (UInt8.toNat_inj.1 (by rw [e]; rfl))
      omega
theorem spoil {o : Sapi_Obj} (h : Fitted o) {w s : List Int} {y : List Sapi_Sym} {want : Int} (hob : Ob ⟨w, s, y⟩) (hm : mayS ⟨w, s, y⟩ = want) (he : want = 0 ↔ o = ⟨w, s, y⟩) : rivetlaw09_ObjectSpoilt.j3 o w y s want = some true := by
  unfold rivetlaw09_ObjectSpoilt.j3 rivetlaw09_ObjectSpoilt.j4
  obtain ⟨t, h1, h2⟩ := obsame_is (b := (⟨w, s, y⟩ : Sapi_Obj)) h.ob
  rw [obmay_is hob, Option.bind_some, if_pos hm, h1, Option.bind_some]
  have : t = (want == 0) := by
    rw [Bool.eq_iff_iff, h2, beq_iff_eq]
    exact he.symm
  rw [this]
  simp
theorem modk {a : Int} {n : Nat} (ha : In .u8 a) (hn : 0 < n) : ∃ k : Nat, k < n ∧ (w64 a).tmod (n : Int) = (k : Int) := by
  have := ha.u8
  obtain ⟨m, rfl⟩ := Int.eq_ofNat_of_zero_le this.1
  refine ⟨m % n, Nat.mod_lt _ hn, ?_⟩
  rw [w64s (by omega) (by omega), Int.tmod_eq_emod_of_nonneg this.1]
  omega
theorem Pure.ObjectSpoilt (a0 : Srivetlaw09_Parts) (a1 : Int) (a2 : Int) : okSrivetlaw09_Parts a0 → In .u8 a1 → In .u8 a2 → rivetlaw09_ObjectSpoilt a0 a1 a2 = some true := by
  intro h0 h1 h2
  obtain ⟨o, ho, h⟩ := fitobj_is (w := a0.Words) (b := a0.Bits) (ns := a0.Names) (fun x hx => (h0.1 x hx).u32) (fun s hs => h0.2.2.2.2.1 s hs)
  obtain ⟨t, q1, q2⟩ := obsame_is (b := o) h.ob
  have hob := h.ob
  have hwl := h.wl
  have hyl := h.yl
  have hsl := ris_len h.ris
  unfold rivetlaw09_ObjectSpoilt
  rw [O09.shown_is, Option.bind_some, ho, Option.bind_some, Option.bind_some, if_pos rfl, obmay_is hob, Option.bind_some, if_pos h.may, q1, Option.bind_some, q2.2 rfl]
  unfold rivetlaw09_ObjectSpoilt.j1 rivetlaw09_ObjectSpoilt.j2
  rw [if_neg (by simp)]
  simp only [nm]
  have same : rivetlaw09_ObjectSpoilt.j3 o o.Words o.Syms o.Sites 0 = some true := spoil h hob h.may ⟨fun _ => rfl, fun _ => rfl⟩
  have e4 : w64 (4 * (o.Words.length : Int)) = 4 * (o.Words.length : Int) := w64s (by omega) (by omega)
  rw [e4]
  by_cases c0 : a1.tmod 7 = 0
  · rw [if_pos c0, if_pos (by simp; omega)]
    refine spoil h ⟨h.w, hob.wl, by simp only [List.length_append, List.length_singleton]; omega, hob.yl⟩ ?_ ⟨fun e => (by omega), fun e => ?_⟩
    · unfold mayS
      rw [if_neg (by simp only; omega)]
      cases hc : Go.Proofs.YtmfnololpfdfdaaDoor.C08.rise (o.Words.length : Int) (-1) (o.Sites ++ [(o.Words.length : Int)]) with
      | false => simp only [hc, if_true]
      | true =>
        have := (rise_all hc (by omega) (o.Words.length : Int) (by simp)).2.2.1
        omega
    · have := congrArg (fun z => z.Sites.length) e
      simp at this
  rw [if_neg c0]
  by_cases c1 : a1.tmod 7 = 1
  · rw [if_pos c1]
    by_cases hl : (o.Sites.length : Int) > 0
    · obtain ⟨k, hk, ek⟩ := modk h2 (show 0 < o.Sites.length by omega)
      have e : ix (eI .i64).d o.Sites (k : Int) = o.Sites[k] := by show o.Sites.getD k 0 = _; simp [hk]
      have hx := h.ris.lo o.Sites[k] (List.getElem_mem hk)
      have hx2 := h.ris.hi o.Sites[k] (List.getElem_mem hk)
      have hv : wu32 (w64 (4 * (o.Words.length : Int) + 1)) = 4 * (o.Words.length : Int) + 1 := by rw [w64s (by omega) (by omega), wu32_id (by omega) (by omega)]
      rw [if_pos hl, if_pos (by omega), ek, if_pos (by omega), e, if_pos (by omega), hv]
      have hget : (o.Words.set o.Sites[k].toNat (4 * (o.Words.length : Int) + 1)).getD o.Sites[k].toNat 0 = 4 * (o.Words.length : Int) + 1 := by rw [getD_set (by omega), if_pos rfl]
      refine spoil h ⟨?_, by simp only [List.length_set]; exact hob.wl, hob.sl, hob.yl⟩ ?_ ⟨fun e => (by omega), fun e => ?_⟩
      · intro x hx
        rcases List.mem_or_eq_of_mem_set hx with hx | hx
        · exact h.w x hx
        · rw [hx]; omega
      · unfold mayS
        simp only [List.length_set]
        rw [if_neg (by omega), Fitted.rise h, if_neg (by simp)]
        have hall : (List.range o.Sites.length).all (siteOk ⟨o.Words.set o.Sites[k].toNat (4 * (o.Words.length : Int) + 1), o.Sites, o.Syms⟩) = false := by
          rw [List.all_eq_false]
          refine ⟨k, by simpa using hk, ?_⟩
          unfold siteOk
          have eg : o.Sites.getD k 0 = o.Sites[k] := by simp [hk]
          simp only
          rw [eg, hget, decide_eq_false (by simp only [List.length_set]; omega)]
          simp
        rw [hall, if_pos rfl]
      · have e1 := congrArg (fun z => z.Words.getD o.Sites[k].toNat 0) e
        simp only at e1
        rw [hget] at e1
        have := h.val o.Sites[k] (List.getElem_mem hk)
        omega
    · rw [if_neg hl]; exact same
  rw [if_neg c1]
  by_cases c2 : a1.tmod 7 = 2
  · rw [if_pos c2]
    by_cases hl : (o.Sites.length : Int) > 0
    · have e : ix (eI .i64).d o.Sites (0 : Int) = o.Sites.getD 0 0 := rfl
      rw [if_pos hl, if_pos (by omega), e, if_pos (by simp; omega)]
      refine spoil h ⟨h.w, hob.wl, by simp only [List.length_append, List.length_singleton]; omega, hob.yl⟩ ?_ ⟨fun e => (by omega), fun e => ?_⟩
      · unfold mayS
        rw [if_neg (by simp only; omega)]
        cases hs : o.Sites with
        | nil => rw [hs] at hl; simp at hl
        | cons x r =>
          have : Go.Proofs.YtmfnololpfdfdaaDoor.C08.rise (o.Words.length : Int) (-1) ([(x :: r).getD 0 0] ++ x :: r) = false := by simp [Go.Proofs.YtmfnololpfdfdaaDoor.C08.rise]
          simp only [this, if_true]
      · have := congrArg (fun z => z.Sites.length) e
        simp at this
    · rw [if_neg hl]; exact same
  rw [if_neg c2]
  by_cases c3 : a1.tmod 7 = 3
  · rw [if_pos c3]
    by_cases hl : (o.Syms.length : Int) > 0
    · have e1 : w64 ((o.Syms.length : Int) - 1) = ((o.Syms.length - 1 : Nat) : Int) := by rw [w64s (by omega) (by omega)]; omega
      have e : ix eSapi_Sym.d o.Syms ((o.Syms.length - 1 : Nat) : Int) = sy o.Syms (o.Syms.length - 1) := rfl
      rw [if_pos hl, e1, if_pos (by omega), e, if_pos (by simp; omega)]
      refine spoil h ⟨h.w, hob.wl, hob.sl, by simp only [List.length_append, List.length_singleton]; omega⟩ ?_ ⟨fun e => (by omega), fun e => ?_⟩
      · unfold mayS
        have hall : (List.range (o.Syms ++ [sy o.Syms (o.Syms.length - 1)]).length).all (nmOk (o.Syms ++ [sy o.Syms (o.Syms.length - 1)])) = false := by
          rw [List.all_eq_false]
          refine ⟨o.Syms.length, by simp, ?_⟩
          unfold nmOk
          have g1 : sy (o.Syms ++ [sy o.Syms (o.Syms.length - 1)]) o.Syms.length = sy o.Syms (o.Syms.length - 1) := by
            rw [sy_at (by simp)]; simp
          have g2 : sy (o.Syms ++ [sy o.Syms (o.Syms.length - 1)]) (o.Syms.length - 1) = sy o.Syms (o.Syms.length - 1) := by
            rw [sy_at (by simp; omega), List.getElem_append_left (by omega), ← sy_at]
          rw [g1, g2, le2_true rfl, decide_eq_true (by omega)]
          simp
        rw [if_neg (by simp only [List.length_append, List.length_singleton]; omega), if_neg (by rw [Fitted.rise h]; simp), if_neg (Fitted.sitesN h (o' := ⟨o.Words, o.Sites, o.Syms ++ [sy o.Syms (o.Syms.length - 1)]⟩) rfl rfl), if_pos hall]
      · have := congrArg (fun z => z.Syms.length) e
        simp at this
    · rw [if_neg hl]; exact same
  rw [if_neg c3]
  by_cases c4 : a1.tmod 7 = 4
  · rw [if_pos c4, if_pos (by simp; omega), w64s (by omega) (by omega)]
    refine spoil h ⟨h.w, hob.wl, hob.sl, by simp only [List.length_append, List.length_singleton]; omega⟩ ?_ ⟨fun e => (by omega), fun e => ?_⟩
    · unfold mayS
      have hnm : nameS (bytesL (⟨#[122, 122, 95]⟩ : ByteArray)) = true := by decide +kernel
      have hall : (List.range (o.Syms ++ [(⟨⟨#[122, 122, 95]⟩, 4 * (o.Words.length : Int) + 4⟩ : Sapi_Sym)]).length).all (nmOk (o.Syms ++ [(⟨⟨#[122, 122, 95]⟩, 4 * (o.Words.length : Int) + 4⟩ : Sapi_Sym)])) = true := by
        rw [List.all_eq_true]
        intro i hi
        have hi : i < o.Syms.length + 1 := by simpa using hi
        have up2 : (o.Syms ++ [(⟨⟨#[122, 122, 95]⟩, 4 * (o.Words.length : Int) + 4⟩ : Sapi_Sym)]).Pairwise fun a b => ls a.Name b.Name := List.pairwise_append.2 ⟨h.up, List.pairwise_singleton _ _, fun a ha b hb => by rw [List.mem_singleton.1 hb]; exact zz_last (h.nm a ha)⟩
        unfold nmOk
        have hn : nameS (bytesL (sy (o.Syms ++ [(⟨⟨#[122, 122, 95]⟩, 4 * (o.Words.length : Int) + 4⟩ : Sapi_Sym)]) i).Name) = true := by
          rcases List.mem_append.1 (sy_mem (l := o.Syms ++ [(⟨⟨#[122, 122, 95]⟩, 4 * (o.Words.length : Int) + 4⟩ : Sapi_Sym)]) (i := i) (by simpa using hi)) with hm | hm
          · exact made_name (h.nm _ hm)
          · rw [List.mem_singleton.1 hm]; exact hnm
        rw [hn, Bool.true_and]
        by_cases h00 : 0 < i
        · have := List.pairwise_iff_getElem.1 up2 (i - 1) i (by simp; omega) (by simpa using hi) (by omega)
          rw [sy_at (by simpa using hi), sy_at (by simp; omega), le2_false this]
          simp
        · rw [decide_eq_false h00]; rfl
      have hat : (List.range (o.Syms ++ [(⟨⟨#[122, 122, 95]⟩, 4 * (o.Words.length : Int) + 4⟩ : Sapi_Sym)]).length).all (fun i => atOk o.Words.length (sy (o.Syms ++ [(⟨⟨#[122, 122, 95]⟩, 4 * (o.Words.length : Int) + 4⟩ : Sapi_Sym)]) i).At) = false := by
        rw [List.all_eq_false]
        refine ⟨o.Syms.length, by simp, ?_⟩
        rw [sy_at (by simp)]
        unfold atOk
        rw [decide_eq_false (by simp only [List.getElem_concat_length]; omega)]
        simp
      rw [if_neg (by simp only [List.length_append, List.length_singleton]; omega), if_neg (by rw [Fitted.rise h]; simp), if_neg (Fitted.sitesN h (o' := ⟨o.Words, o.Sites, o.Syms ++ [(⟨⟨#[122, 122, 95]⟩, 4 * (o.Words.length : Int) + 4⟩ : Sapi_Sym)]⟩) rfl rfl), if_neg (by rw [hall]; simp), if_pos hat]
    · have := congrArg (fun z => z.Syms.length) e
      simp at this
  rw [if_neg c4]
  by_cases c5 : a1.tmod 7 = 5
  · rw [if_pos c5]
    by_cases hl : (o.Syms.length : Int) > 0
    · obtain ⟨k, hk, ek⟩ := modk h2 (show 0 < o.Syms.length by omega)
      have e : ix eSapi_Sym.d o.Syms (k : Int) = sy o.Syms k := rfl
      rw [if_pos hl, if_pos (by omega), ek, if_pos (by omega), e, Int.toNat_natCast]
      generalize hq : ({ sy o.Syms k with At := 2 } : Sapi_Sym) = q
      have hqn : q.Name = (sy o.Syms k).Name := by rw [← hq]
      have hqa : q.At = 2 := by rw [← hq]
      have gk : sy (o.Syms.set k q) k = q := by rw [sy_at (by simpa using hk)]; simp
      have gn : ∀ i, (sy (o.Syms.set k q) i).Name = (sy o.Syms i).Name := fun i => by
        by_cases hik : i = k
        · rw [hik, gk, hqn]
        · simp only [sy, List.getD_eq_getElem?_getD, List.getElem?_set]
          rw [if_neg (fun e => hik e.symm)]
      refine spoil h ⟨h.w, hob.wl, hob.sl, by simp only [List.length_set]; exact hob.yl⟩ ?_ ⟨fun e => (by omega), fun e => ?_⟩
      · unfold mayS
        have hall : (List.range (o.Syms.set k q).length).all (nmOk (o.Syms.set k q)) = true := by
          rw [List.length_set]
          refine Eq.trans ?_ (Fitted.names h)
          congr 1
          funext i
          unfold nmOk
          rw [gn, gn]
        have hat : (List.range (o.Syms.set k q).length).all (fun i => atOk o.Words.length (sy (o.Syms.set k q) i).At) = false := by
          rw [List.all_eq_false]
          refine ⟨k, by simpa using hk, ?_⟩
          rw [gk, hqa]
          unfold atOk
          rw [decide_eq_false (by omega)]
          simp
        rw [if_neg (by simp only [List.length_set]; omega), if_neg (by rw [Fitted.rise h]; simp), if_neg (Fitted.sitesN h (o' := ⟨o.Words, o.Sites, o.Syms.set k q⟩) rfl rfl), if_neg (by rw [hall]; simp), if_pos hat]
      · have e1 := congrArg (fun z => (sy z.Syms k).At) e
        simp only at e1
        rw [gk, hqa] at e1
        have := h.at' _ (sy_mem hk)
        rw [e1] at this
        unfold atOk at this
        rw [decide_eq_true_eq] at this
        omega
    · rw [if_neg hl]; exact same
  rw [if_neg c5]
  have e6 : w64 (1025 - (o.Words.length : Int)) = ((1025 - o.Words.length : Nat) : Int) := by rw [w64s (by omega) (by omega)]; omega
  rw [e6, if_pos (by omega), Int.toNat_natCast]
  refine spoil h ⟨?_, by simp only [List.length_append, List.length_replicate]; omega, hob.sl, hob.yl⟩ ?_ ⟨fun e => (by omega), fun e => ?_⟩
  · intro x hx
    rcases List.mem_append.1 hx with hx | hx
    · exact h.w x hx
    · rw [List.eq_of_mem_replicate hx]; decide
  · unfold mayS
    rw [if_pos (by simp only [List.length_append, List.length_replicate]; omega)]
  · have := congrArg (fun z => z.Words.length) e
    simp at this
    omega
end Go.Proofs.YtmfnololpfdfdaaDoor.T09
