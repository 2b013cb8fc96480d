/- LoadTwice: the plain law. No condition. -/
import Derived.Test.YtheccnbamcdpmaaDoorO12f
import Derived.Test.YtheccnbamcdpmaaDoorT12zLoadTwice
namespace Go.Proofs.YtheccnbamcdpmaaDoor.O12
set_option linter.unusedVariables false
set_option linter.unusedSimpArgs false
open Go Go.RowKit Go.Proofs.YtheccnbamcdpmaaDoor.E Go.Proofs.YtheccnbamcdpmaaDoor.T12 Go.Proofs.YtheccnbamcdpmaaDoor.L07
theorem addAll_zero : ∀ (s l : List Int), Wd l → (∀ x ∈ s, 0 ≤ x ∧ x < (l.length : Int)) → addAll 0 l s = l
  | [], _, _, _ => rfl
  | x :: s, l, hl, hs => by
    have hx := hs x (List.mem_cons_self ..)
    have e : l.set x.toNat (wu32 (l.getD x.toNat 0 + wu32 0)) = l := by
      have h0 : l.getD x.toNat 0 ∈ l := getD_mem (by omega)
      have h1 := hl _ h0
      have : wu32 (l.getD x.toNat 0 + wu32 0) = l.getD x.toNat 0 := by
        rw [show wu32 0 = 0 from rfl, Int.add_zero]
        exact wu32_id h1.1 h1.2
      rw [this]
      refine List.ext_getElem (by simp) fun i h1 h2 => ?_
      rw [List.getElem_set]
      split
      · rename_i h; subst h; simp [show x.toNat < l.length by omega]
      · rfl
    rw [addAll_cons, e]
    exact addAll_zero s l hl fun y hy => hs y (List.mem_cons_of_mem _ hy)
theorem base_ok {a : Int} (h : In .u16 a) : w64 (4 * ((w64 a).tmod 4097)) = 4 * (a % 4097) ∧ 0 ≤ a % 4097 ∧ a % 4097 ≤ 4096 ∧ baseOk (4 * (a % 4097)) = true := by
  have h := h.u16
  rw [w64s (x := a) (by omega) (by omega), Int.tmod_eq_emod_of_nonneg h.1, w64s (by omega) (by omega)]
  refine ⟨rfl, by omega, by omega, ?_⟩
  unfold baseOk
  rw [decide_eq_true_eq]
  omega
theorem img_fit {o : Sapi_Obj} (h : mayS o = 0) {b : Int} (hb : baseOk b = true) : imgS o b = (addAll b o.Words o.Sites, 0) := by
  unfold imgS
  rw [if_pos h, if_pos hb]
theorem set_all (f : List Int × Int → Option ((List Int × Int) ⊕ List Int)) (N : Nat) (hf : ∀ (l : List Int) (i : Nat), l.length = N → i < N → ∃ l', l'.length = N ∧ f (l, (i : Int)) = some (.inl (l', ((i + 1 : Nat) : Int)))) (h2 : ∀ l, l.length = N → f (l, (N : Int)) = some (.inr l)) :
    ∀ (k i : Nat) (l : List Int), i + k = N → l.length = N → ∃ l', loopO f (l, (i : Int)) = some l' := by
  intro k
  induction k with
  | zero => intro i l hi hl; have : i = N := by omega
            subst this; exact ⟨l, loopO_done (h2 l hl)⟩
  | succ k ih =>
    intro i l hi hl
    obtain ⟨l', h1, h3⟩ := hf l i hl (by omega)
    obtain ⟨l2, h4⟩ := ih (i + 1) l' (by omega) h1
    exact ⟨l2, by rw [loopO_next h3]; exact h4⟩
end Go.Proofs.YtheccnbamcdpmaaDoor.O12
namespace Go.Proofs.YtheccnbamcdpmaaDoor.T12
open Go Go.RowKit Go.Proofs.YtheccnbamcdpmaaDoor.E Go.Proofs.YtheccnbamcdpmaaDoor.O12 Go.Proofs.YtheccnbamcdpmaaDoor.L07
theorem Pure.LoadTwice (a0 : Srivetlaw12_Parts) (a1 : Int) : okSrivetlaw12_Parts a0 → In .u16 a1 → rivetlaw12_LoadTwice a0 a1 = some true := by
  intro h0 h1
  obtain ⟨o, ho, hf⟩ := fitobj_is (w := a0.Words) (b := a0.Bits) (ns := a0.Names) (fun x hx => (h0.1 x hx).u32) (fun s hs => h0.2.2.2.2.1 s hs)
  have hwl' := hf.wl
  unfold rivetlaw12_LoadTwice
  rw [shown_is, Option.bind_some, ho, Option.bind_some, if_pos (by simp; omega), image_is hf.ob, img_fit hf.may (by decide), addAll_zero _ _ hf.w (site_in hf.may), Option.bind_some]
  simp only [List.nil_append]
  rw [same32 (by omega), decide_eq_true rfl, Option.bind_some]
  obtain ⟨l', hl'⟩ := set_all (fun (σ : (List Int) × Int) => rivetlaw12_LoadTwice.b66 σ.1 σ.2) o.Words.length (fun l i hl hi => ⟨l.set i 7, by simp [hl], by
    show rivetlaw12_LoadTwice.b66 l (i : Int) = _
    unfold rivetlaw12_LoadTwice.b66
    rw [if_pos (by omega), if_pos (by omega), w64s (by omega) (by omega)]
    rfl⟩) (fun l hl => by
    show rivetlaw12_LoadTwice.b66 l _ = _
    unfold rivetlaw12_LoadTwice.b66
    rw [if_neg (by omega)]) o.Words.length 0 o.Words (by omega) rfl
  rw [show ((0 : Nat) : Int) = 0 from rfl] at hl'
  rw [hl', Option.bind_some]
  unfold rivetlaw12_LoadTwice.j1
  obtain ⟨e1, e2, e3, e4⟩ := base_ok h1
  have hob : Ob ⟨o.Words, [], []⟩ := ⟨hf.w, by show o.Words.length ≤ _; omega, by simp, by simp⟩
  have hm : mayS ⟨o.Words, [], []⟩ = 0 := may_ok (by show o.Words.length ≤ _; omega) (by simp) { lo := by simp, hi := by simp, up := List.Pairwise.nil } (by simp) (by simp) List.Pairwise.nil (by simp)
  rw [e1, image_is hob, img_fit hm e4, Option.bind_some]
  simp only [if_pos]
  show ((rivetref05_Same o.Words ([] ++ o.Words)).bind _) = _
  rw [List.nil_append, same32 (by omega), decide_eq_true rfl, Option.bind_some, if_pos rfl]
  show ((rivetref05_Same o.Words o.Words).bind _) = _
  rw [same32 (by omega), decide_eq_true rfl, Option.bind_some]
  rfl
end Go.Proofs.YtheccnbamcdpmaaDoor.T12
