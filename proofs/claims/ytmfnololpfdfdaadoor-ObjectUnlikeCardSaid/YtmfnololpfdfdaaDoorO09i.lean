/- The plain law of the statement ObjectUnlike. No condition. -/
import Derived.Test.YtmfnololpfdfdaaDoorO09e
import Derived.Test.YtmfnololpfdfdaaDoorT09zObjectUnlike
namespace Go.Proofs.YtmfnololpfdfdaaDoor.T09
set_option linter.unusedVariables false
set_option linter.unusedSimpArgs false
open Go Go.RowKit Go.Proofs.YtmfnololpfdfdaaDoor.E Go.Proofs.YtmfnololpfdfdaaDoor.L07 Go.Proofs.YtmfnololpfdfdaaDoor.O09
open Go.Proofs.YtmfnololpfdfdaaDoor.C08 (rise rise_all rise_of Ris getD_set)
theorem unlike {o : Sapi_Obj} (h : Fitted o) {w s : List Int} {y : List Sapi_Sym} {c : Bool} (hob : Ob ⟨w, s, y⟩) (he : c = true ↔ ¬ o = ⟨w, s, y⟩) : rivetlaw09_ObjectUnlike.j5 true o s w y c = some true := by
  unfold rivetlaw09_ObjectUnlike.j5 rivetlaw09_ObjectUnlike.j6
  obtain ⟨t, h1, h2⟩ := obsame_is (b := (⟨w, s, y⟩ : Sapi_Obj)) h.ob
  obtain ⟨u, h3, h4⟩ := obsame_is (b := o) hob
  obtain ⟨v, h5, h6⟩ := obsame_is (b := (⟨w, s, y⟩ : Sapi_Obj)) hob
  have e1 : t = !c := by
    rw [Bool.eq_iff_iff, h2, Bool.not_eq_true', ← Bool.not_eq_true, he]
    exact ⟨fun a b => b a, fun a => Classical.not_not.1 a⟩
  have e2 : u = !c := by
    rw [← e1, Bool.eq_iff_iff, h2, h4]
    exact ⟨fun a => a.symm, fun a => a.symm⟩
  rw [if_pos rfl, h1, Option.bind_some, if_pos (by rw [e1]; simp), h3, Option.bind_some, if_pos (by rw [e2]; simp), h5, Option.bind_some, h6.2 rfl]
theorem modk2 {a : Int} {n : Nat} (ha : In .u8 a) (hn : 0 < n) : ∃ k : Nat, k < n ∧ (w64 a).tmod (n : Int) = (k : Int) := by
  have := ha.u8
  obtain ⟨m, rfl⟩ := Int.eq_ofNat_of_zero_le this.1
  refine ⟨m % n, Nat.mod_lt _ hn, ?_⟩
  rw [w64s (by omega) (by omega), Int.tmod_eq_emod_of_nonneg this.1]
  omega
theorem Pure.ObjectUnlike (a0 : Srivetlaw09_Parts) (a1 : Int) (a2 : Int) : okSrivetlaw09_Parts a0 → In .u8 a1 → In .u8 a2 → rivetlaw09_ObjectUnlike a0 a1 a2 = some true := by
  intro h0 h1 h2
  obtain ⟨o, ho, h⟩ := fitobj_is (w := a0.Words) (b := a0.Bits) (ns := a0.Names) (fun x hx => (h0.1 x hx).u32) (fun s hs => h0.2.2.2.2.1 s hs)
  have hob := h.ob
  have hwl := h.wl
  have hyl := h.yl
  have hsl := ris_len h.ris
  unfold rivetlaw09_ObjectUnlike
  rw [O09.shown_is, Option.bind_some, ho, Option.bind_some, Option.bind_some]
  have same : rivetlaw09_ObjectUnlike.j5 true o o.Sites o.Words o.Syms false = some true := unlike h hob ⟨fun e => (by cases e), fun e => absurd rfl e⟩
  unfold rivetlaw09_ObjectUnlike.j1
  by_cases c0 : a1.tmod 5 = 0 ∧ 0 < o.Words.length
  · rw [if_pos c0.1, decide_eq_true (by omega), if_pos rfl, if_pos (by omega)]
    simp only [nm]
    obtain ⟨k, hk, ek⟩ := modk2 h2 c0.2
    have hg := getD_in h.w (i := k) hk
    have e : ix (eI .u32).d o.Words (k : Int) = o.Words.getD k 0 := rfl
    have hv : 0 ≤ wu32 (o.Words.getD k 0 + 1) ∧ wu32 (o.Words.getD k 0 + 1) ≤ 4294967295 ∧ wu32 (o.Words.getD k 0 + 1) ≠ o.Words.getD k 0 := by rw [wu32_eq]; omega
    rw [ek, if_pos (by omega), if_pos (by omega), Int.toNat_natCast, e]
    refine unlike h ⟨?_, by simp only [List.length_set]; exact hob.wl, hob.sl, hob.yl⟩ ⟨fun _ e => ?_, fun _ => rfl⟩
    · intro x hx
      rcases List.mem_or_eq_of_mem_set hx with hx | hx
      · exact h.w x hx
      · rw [hx]; exact ⟨hv.1, hv.2.1⟩
    · have e1 := congrArg (fun z => z.Words.getD k 0) e
      simp only at e1
      rw [getD_set hk, if_pos rfl] at e1
      exact hv.2.2 e1.symm
  have s0 : ∀ x : Option Bool, (if a1.tmod 5 = 0 then (if decide ((o.Words.length : Int) > 0) = true then x else (if a1.tmod 5 = 1 then rivetlaw09_ObjectUnlike.j2 o true o a1 a2 (decide ((o.Sites.length : Int) > 0)) else rivetlaw09_ObjectUnlike.j2 o true o a1 a2 false)) else (if (false : Bool) = true then x else (if a1.tmod 5 = 1 then rivetlaw09_ObjectUnlike.j2 o true o a1 a2 (decide ((o.Sites.length : Int) > 0)) else rivetlaw09_ObjectUnlike.j2 o true o a1 a2 false))) = (if a1.tmod 5 = 1 then rivetlaw09_ObjectUnlike.j2 o true o a1 a2 (decide ((o.Sites.length : Int) > 0)) else rivetlaw09_ObjectUnlike.j2 o true o a1 a2 false) := fun x => by
    by_cases a : a1.tmod 5 = 0
    · rw [if_pos a, decide_eq_false (by omega)]; rfl
    · rw [if_neg a]; rfl
  rw [s0]
  unfold rivetlaw09_ObjectUnlike.j2
  by_cases c1 : a1.tmod 5 = 1 ∧ 0 < o.Sites.length
  · rw [if_pos c1.1, decide_eq_true (by omega), if_pos rfl]
    have e1 : w64 ((o.Sites.length : Int) - 1) = ((o.Sites.length - 1 : Nat) : Int) := by rw [w64s (by omega) (by omega)]; omega
    rw [e1, if_pos (by omega), Int.toNat_natCast]
    refine unlike h ⟨h.w, hob.wl, by simp only [List.length_take]; omega, hob.yl⟩ ⟨fun _ e => ?_, fun _ => rfl⟩
    have e1 := congrArg (fun z => z.Sites.length) e
    simp only [List.length_take] at e1
    omega
  have s1 : ∀ x : Option Bool, (if a1.tmod 5 = 1 then (if decide ((o.Sites.length : Int) > 0) = true then x else (if a1.tmod 5 = 2 then rivetlaw09_ObjectUnlike.j3 o a2 true o a1 (decide ((o.Syms.length : Int) > 0)) else rivetlaw09_ObjectUnlike.j3 o a2 true o a1 false)) else (if (false : Bool) = true then x else (if a1.tmod 5 = 2 then rivetlaw09_ObjectUnlike.j3 o a2 true o a1 (decide ((o.Syms.length : Int) > 0)) else rivetlaw09_ObjectUnlike.j3 o a2 true o a1 false))) = (if a1.tmod 5 = 2 then rivetlaw09_ObjectUnlike.j3 o a2 true o a1 (decide ((o.Syms.length : Int) > 0)) else rivetlaw09_ObjectUnlike.j3 o a2 true o a1 false) := fun x => by
    by_cases a : a1.tmod 5 = 1
    · rw [if_pos a, decide_eq_false (by omega)]; rfl
    · rw [if_neg a]; rfl
  rw [s1]
  have setne : ∀ (k : Nat) (q : Sapi_Sym), k < o.Syms.length → q ≠ sy o.Syms k → rivetlaw09_ObjectUnlike.j5 true o o.Sites o.Words (o.Syms.set k q) true = some true := fun k q hk hq => by
    refine unlike h ⟨h.w, hob.wl, hob.sl, by simp only [List.length_set]; exact hob.yl⟩ ⟨fun _ e => ?_, fun _ => rfl⟩
    have e1 := congrArg (fun z => sy z.Syms k) e
    simp only at e1
    have gk : sy (o.Syms.set k q) k = q := by rw [sy_at (by simpa using hk)]; simp
    rw [gk] at e1
    exact hq e1.symm
  unfold rivetlaw09_ObjectUnlike.j3
  by_cases c2 : a1.tmod 5 = 2 ∧ 0 < o.Syms.length
  · rw [if_pos c2.1, decide_eq_true (by omega), if_pos rfl, if_pos (by omega)]
    simp only [nm]
    obtain ⟨k, hk, ek⟩ := modk2 h2 c2.2
    have e : ix eSapi_Sym.d o.Syms (k : Int) = sy o.Syms k := rfl
    have hz := (h.nm _ (sy_mem hk)).hi
    have h95 : (⟨#[95]⟩ : ByteArray).size = 1 := rfl
    rw [ek, if_pos (by omega), e, if_pos (by rw [h95]; omega), if_pos (by omega), Int.toNat_natCast]
    refine setne k _ hk fun e => ?_
    have e1 := congrArg (fun z => (bytesL z.Name).length) e
    simp only [bytesL_append, List.length_append] at e1
    have : (bytesL (⟨#[95]⟩ : ByteArray)).length = 1 := rfl
    omega
  have s2 : ∀ x : Option Bool, (if a1.tmod 5 = 2 then (if decide ((o.Syms.length : Int) > 0) = true then x else (if a1.tmod 5 = 3 then rivetlaw09_ObjectUnlike.j4 o a2 true o a1 (decide ((o.Syms.length : Int) > 0)) else rivetlaw09_ObjectUnlike.j4 o a2 true o a1 false)) else (if (false : Bool) = true then x else (if a1.tmod 5 = 3 then rivetlaw09_ObjectUnlike.j4 o a2 true o a1 (decide ((o.Syms.length : Int) > 0)) else rivetlaw09_ObjectUnlike.j4 o a2 true o a1 false))) = (if a1.tmod 5 = 3 then rivetlaw09_ObjectUnlike.j4 o a2 true o a1 (decide ((o.Syms.length : Int) > 0)) else rivetlaw09_ObjectUnlike.j4 o a2 true o a1 false) := fun x => by
    by_cases a : a1.tmod 5 = 2
    · rw [if_pos a, decide_eq_false (by omega)]; rfl
    · rw [if_neg a]; rfl
  rw [s2]
  unfold rivetlaw09_ObjectUnlike.j4
  by_cases c3 : a1.tmod 5 = 3 ∧ 0 < o.Syms.length
  · rw [if_pos c3.1, decide_eq_true (by omega), if_pos rfl, if_pos (by omega)]
    simp only [nm]
    obtain ⟨k, hk, ek⟩ := modk2 h2 c3.2
    have e : ix eSapi_Sym.d o.Syms (k : Int) = sy o.Syms k := rfl
    have ha := h.at' _ (sy_mem hk)
    unfold atOk at ha
    rw [decide_eq_true_eq] at ha
    rw [ek, if_pos (by omega), if_pos (by omega), Int.toNat_natCast, e, w64s (by omega) (by omega)]
    refine setne k _ hk fun e => ?_
    have e1 := congrArg (fun z => z.At) e
    simp only at e1
    omega
  have s3 : ∀ x y : Option Bool, (if a1.tmod 5 = 3 then (if decide ((o.Syms.length : Int) > 0) = true then x else y) else (if (false : Bool) = true then x else y)) = y := fun x y => by
    by_cases a : a1.tmod 5 = 3
    · rw [if_pos a, decide_eq_false (by omega)]; rfl
    · rw [if_neg a]; rfl
  rw [s3]
  by_cases c4 : a1.tmod 5 = 4
  · rw [if_pos c4, if_pos (by simp only [List.length_singleton]; omega)]
    refine unlike h ⟨?_, by simp only [List.length_append, List.length_singleton]; omega, hob.sl, hob.yl⟩ ⟨fun _ e => ?_, fun _ => rfl⟩
    · intro x hx
      rcases List.mem_append.1 hx with hx | hx
      · exact h.w x hx
      · rw [List.mem_singleton.1 hx]; omega
    · have := congrArg (fun z => z.Words.length) e
      simp at this
  · rw [if_neg c4]; exact same
end Go.Proofs.YtmfnololpfdfdaaDoor.T09
