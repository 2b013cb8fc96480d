/- Files: what Put and Take of the program and of the reference come to, told by one function each. No condition. -/
import Derived.Test.YtmfnololpfdfdaaDoorO09e
import Derived.Test.YtmfnololpfdfdaaDoorF10b
import Derived.Test.YtmfnololpfdfdaaDoorF10c
namespace Go.Proofs.YtmfnololpfdfdaaDoor.F10
set_option linter.unusedVariables false
set_option linter.unusedSimpArgs false
open Go Go.RowKit Go.Proofs.YtmfnololpfdfdaaDoor.E Go.Proofs.YtmfnololpfdfdaaDoor.T09 Go.Proofs.YtmfnololpfdfdaaDoor.L07 Go.Proofs.YtmfnololpfdfdaaDoor.O09
open Go.Proofs.YtmfnololpfdfdaaDoor.C08 (rise rise_all rise_of Ris packed pack_chain pack_ref pk pk_some pk_good unpacked unpack_chain unpack_ref packed_some packed_len unpacked_len)
/-- What an object that may be is. -/
structure MayOk (o : Sapi_Obj) : Prop where
  wl : o.Words.length ≤ 1024
  yl : o.Syms.length ≤ 64
  ris : Ris 0 o.Words.length o.Sites
  val : ∀ x ∈ o.Sites, o.Words.getD x.toNat 0 ≤ 4 * (o.Words.length : Int)
  nm : ∀ s ∈ o.Syms, nameS (bytesL s.Name) = true
  up : o.Syms.Pairwise fun a b => ls a.Name b.Name
  at' : ∀ s ∈ o.Syms, atOk o.Words.length s.At = true
theorem rise_pair {N : Int} : ∀ {p : Int} {l : List Int}, rise N p l = true → -1 ≤ p → l.Pairwise (· < ·)
  | _, [], _, _ => List.Pairwise.nil
  | p, x :: r, h, hp => by
    simp only [rise, Bool.and_eq_true, decide_eq_true_eq] at h
    exact List.pairwise_cons.2 ⟨fun y hy => (rise_all h.2 (by omega) y hy).1, rise_pair h.2 (by omega)⟩
theorem rise_ris {n : Nat} {l : List Int} (h : rise (n : Int) (-1) l = true) : Ris 0 n l := ⟨rise_pair h (by omega), fun x hx => (rise_all h (by omega) x hx).2.1, fun x hx => (rise_all h (by omega) x hx).2.2.1⟩
theorem le2_ls {s t : ByteArray} (h : le2 s t = false) : ls t s := by
  unfold le2 at h
  rw [Bool.or_eq_false_iff] at h
  refine less_tri h.1 fun e => ?_
  have := toL_eq s t
  rw [h.2, eq_comm, decide_eq_false_iff_not] at this
  have e2 := toL_eq s t
  rw [e] at e2
  exact this (by simpa using e2.symm)
theorem may_elim {o : Sapi_Obj} (h : mayS o = 0) : MayOk o := by
  unfold mayS at h
  by_cases h1 : 1024 < o.Words.length ∨ 64 < o.Syms.length
  · rw [if_pos h1] at h; omega
  rw [if_neg h1] at h
  cases h2 : rise (o.Words.length : Int) (-1) o.Sites with
  | false => rw [h2, if_pos rfl] at h; omega
  | true =>
  rw [h2, if_neg (by simp)] at h
  cases h3 : (List.range o.Sites.length).all (siteOk o) with
  | false => rw [h3, if_pos rfl] at h; omega
  | true =>
  rw [h3, if_neg (by simp)] at h
  cases h4 : (List.range o.Syms.length).all (nmOk o.Syms) with
  | false => rw [h4, if_pos rfl] at h; omega
  | true =>
  rw [h4, if_neg (by simp)] at h
  cases h5 : (List.range o.Syms.length).all (fun i => atOk o.Words.length (sy o.Syms i).At) with
  | false => rw [h5, if_pos rfl] at h; omega
  | true =>
  rw [List.all_eq_true] at h3 h4 h5
  have nmi : ∀ i, i < o.Syms.length → nmOk o.Syms i = true := fun i hi => h4 i (by simpa using hi)
  refine ⟨by omega, by omega, rise_ris h2, fun x hx => ?_, fun s hs => ?_, ?_, fun s hs => ?_⟩
  · obtain ⟨i, hi, rfl⟩ := List.getElem_of_mem hx
    have := h3 i (by simpa using hi)
    unfold siteOk at this
    rw [decide_eq_true_eq] at this
    simpa [List.getD_eq_getElem?_getD, hi] using this
  · obtain ⟨i, hi, rfl⟩ := List.getElem_of_mem hs
    have := nmi i hi
    unfold nmOk at this
    rw [Bool.and_eq_true, sy_at hi] at this
    exact this.1
  · have adj : ∀ i, i + 1 < o.Syms.length → ls (sy o.Syms i).Name (sy o.Syms (i + 1)).Name := fun i hi => by
      have := nmi (i + 1) hi
      unfold nmOk at this
      rw [Bool.and_eq_true, decide_eq_true (by omega), Bool.true_and, Bool.not_eq_true'] at this
      exact le2_ls this.2
    have far : ∀ k i, i + k + 1 < o.Syms.length → ls (sy o.Syms i).Name (sy o.Syms (i + k + 1)).Name := by
      intro k
      induction k with
      | zero => intro i hi; exact adj i hi
      | succ k ih => intro i hi; exact (ih i (by omega)).trans (adj (i + k + 1) hi)
    refine List.pairwise_iff_getElem.2 fun i j hi hj hij => ?_
    have := far (j - i - 1) i (by omega)
    rw [show i + (j - i - 1) + 1 = j by omega, sy_at hi, sy_at hj] at this
    exact this
  · obtain ⟨i, hi, rfl⟩ := List.getElem_of_mem hs
    have := h5 i (by simpa using hi)
    rwa [sy_at hi] at this
theorem MayOk.may {o : Sapi_Obj} (h : MayOk o) : mayS o = 0 := may_ok h.wl h.yl h.ris h.val h.nm h.up h.at'
theorem MayOk.packed {o : Sapi_Obj} (h : MayOk o) : ∃ p, pk o.Sites o.Words 0 = some p ∧ packed o.Words o.Sites = (p.1, p.2, 0) := by
  have hwl := h.wl
  obtain ⟨p, hp⟩ := pk_some (s := o.Sites) (out := o.Words) (h := 0) h.ris.up fun x hx => by
    have := h.ris.lo x hx
    have := h.ris.hi x hx
    have := h.val x hx
    exact ⟨by omega, by omega, by omega⟩
  exact ⟨p, hp, packed_some hp h.ris.up fun x hx => by have := h.ris.lo x hx; have := h.ris.hi x hx; omega⟩
theorem MayOk.good {o : Sapi_Obj} (h : MayOk o) (hw : Wd o.Words) {p : List Int × Int} (hp : pk o.Sites o.Words 0 = some p) : Go.Proofs.YtmfnololpfdfdaaDoor.C08.Good o.Words.length p.1 p.2 ∧ p.2 ≤ o.Words.length := by
  have hwl := h.wl
  exact pk_good hp (fun x hx => by have := h.ris.lo x hx; have := h.ris.hi x hx; omega) ⟨rfl, hw, by omega, by omega⟩ (by omega)
/-! ### Put -/
def magic : Int := 894847314
def symB (s : Sapi_Sym) : List Int := padS (bytesL s.Name) ++ putS [wu32 s.At]
def symsB (l : List Sapi_Sym) : List Int := l.flatMap symB
noncomputable def bytesF (o : Sapi_Obj) : List Int := putS [magic, wu32 (o.Words.length : Int), wu32 (packed o.Words o.Sites).2.1, wu32 (o.Syms.length : Int)] ++ putS (packed o.Words o.Sites).1 ++ symsB o.Syms
noncomputable def putF (o : Sapi_Obj) : List Int × Int := if mayS o = 0 then (bytesF o, 0) else ([], mayS o)
theorem wd1 (x : Int) : Wd [wu32 x] := fun y hy => by rw [List.mem_singleton.1 hy, wu32_eq]; omega
theorem wd4 (x y z : Int) : Wd [magic, wu32 x, wu32 y, wu32 z] := fun w hw => by
  simp only [List.mem_cons, List.not_mem_nil, or_false] at hw
  rcases hw with rfl | rfl | rfl | rfl
  · decide
  all_goals (rw [wu32_eq]; omega)
theorem pad_len {s : Sapi_Sym} (h : nameS (bytesL s.Name) = true) : (padS (bytesL s.Name)).length ≤ 16 := by
  have := nameS_len h
  rw [padS_length]; omega
theorem symB_len {s : Sapi_Sym} (h : nameS (bytesL s.Name) = true) : (symB s).length ≤ 20 := by
  unfold symB
  have := pad_len h
  rw [List.length_append, putS_length]
  simp; omega
theorem symsB_len : ∀ {l : List Sapi_Sym}, (∀ s ∈ l, nameS (bytesL s.Name) = true) → (symsB l).length ≤ 20 * l.length
  | [], _ => by simp [symsB]
  | s :: l, h => by
    have h1 := symB_len (h s (by simp))
    have h2 := symsB_len (l := l) fun x hx => h x (List.mem_cons_of_mem _ hx)
    unfold symsB at h2 ⊢
    rw [List.flatMap_cons, List.length_append, List.length_cons]
    omega
theorem symsB_take {l : List Sapi_Sym} {i : Nat} (h : i < l.length) : symsB (l.take (i + 1)) = symsB (l.take i) ++ symB (sy l i) := by
  unfold symsB
  rw [List.take_add_one, List.getElem?_eq_getElem h, List.flatMap_append, sy_at h]
  simp
theorem put_syms {o : Sapi_Obj} (h : MayOk o) {b : List Int} (hb : b.length ≤ 10000) : loopO (fun σ : List Int × Int => file_Put.b66 o σ.1 σ.2) (b, 0) = some (.done (b ++ symsB o.Syms)) := by
  have hyl := h.yl
  have key : ∀ (m i : Nat), i + m = o.Syms.length → loopO (fun σ : List Int × Int => file_Put.b66 o σ.1 σ.2) (b ++ symsB (o.Syms.take i), (i : Int)) = some (.done (b ++ symsB o.Syms)) := by
    intro m
    induction m with
    | zero =>
      intro i hi
      rw [List.take_of_length_le (by omega)]
      refine loopO_done ?_
      show file_Put.b66 o _ (i : Int) = _
      unfold file_Put.b66
      rw [if_neg (by omega)]
    | succ m ih =>
      intro i hi
      have hi' : i < o.Syms.length := by omega
      have hn := h.nm _ (sy_mem hi')
      have hl := symsB_len (l := o.Syms.take i) fun x hx => h.nm x (List.mem_of_mem_take hx)
      rw [List.length_take] at hl
      have e : ix eSapi_Sym.d o.Syms (i : Int) = sy o.Syms i := rfl
      have hp := pad_len hn
      refine Eq.trans (loopO_next (s' := (b ++ symsB (o.Syms.take (i + 1)), ((i + 1 : Nat) : Int))) ?_) (ih (i + 1) (by omega))
      show file_Put.b66 o _ (i : Int) = _
      unfold file_Put.b66 file_Put.j1
      rw [if_pos (by omega), if_pos (by omega), e, putname_is, Option.bind_some]
      unfold putN
      rw [if_pos hn]
      simp only
      rw [if_pos trivial, if_pos (by rw [List.length_append]; omega), put_is (by simp) (wd1 _), Option.bind_some, if_pos (by rw [List.length_append, List.length_append, putS_length, List.length_singleton]; omega), w64s (by omega) (by omega), symsB_take hi']
      unfold symB
      simp only [List.append_assoc]
      rfl
  have := key o.Syms.length 0 (by omega)
  simpa [symsB] using this
theorem refput_syms {o : Sapi_Obj} (h : MayOk o) {b : List Int} (hb : b.length ≤ 10000) : loopO (fun σ : List Int × Int => rivetref10_Put.b60 o σ.1 σ.2) (b, 0) = some (b ++ symsB o.Syms) := by
  have hyl := h.yl
  have key : ∀ (m i : Nat), i + m = o.Syms.length → loopO (fun σ : List Int × Int => rivetref10_Put.b60 o σ.1 σ.2) (b ++ symsB (o.Syms.take i), (i : Int)) = some (b ++ symsB o.Syms) := by
    intro m
    induction m with
    | zero =>
      intro i hi
      rw [List.take_of_length_le (by omega)]
      refine loopO_done ?_
      show rivetref10_Put.b60 o _ (i : Int) = _
      unfold rivetref10_Put.b60
      rw [if_neg (by omega)]
    | succ m ih =>
      intro i hi
      have hi' : i < o.Syms.length := by omega
      have hn := h.nm _ (sy_mem hi')
      have hl := symsB_len (l := o.Syms.take i) fun x hx => h.nm x (List.mem_of_mem_take hx)
      rw [List.length_take] at hl
      have e : ix eSapi_Sym.d o.Syms (i : Int) = sy o.Syms i := rfl
      have hp := pad_len hn
      refine Eq.trans (loopO_next (s' := (b ++ symsB (o.Syms.take (i + 1)), ((i + 1 : Nat) : Int))) ?_) (ih (i + 1) (by omega))
      show rivetref10_Put.b60 o _ (i : Int) = _
      unfold rivetref10_Put.b60 rivetref10_Put.j1
      rw [if_pos (by omega), if_pos (by omega), e, refputname_is, Option.bind_some]
      unfold putN
      rw [if_pos hn]
      simp only
      rw [if_pos (by rw [List.length_append]; omega), if_pos (by omega), refput_is (by simp) (wd1 _), Option.bind_some, if_pos (by rw [List.length_append, List.length_append, putS_length, List.length_singleton]; omega), w64s (by omega) (by omega), symsB_take hi']
      unfold symB
      simp only [List.append_assoc]
      rfl
  have := key o.Syms.length 0 (by omega)
  simpa [symsB] using this
theorem put_isF {o : Sapi_Obj} (hob : Ob o) : file_Put o = some (putF o) := by
  unfold file_Put putF
  rw [obmay_is hob, Option.bind_some]
  by_cases hm : mayS o = 0
  · have h := may_elim hm
    have hwl := h.wl
    obtain ⟨p, hp, hpk⟩ := h.packed
    obtain ⟨g1, g2⟩ := h.good hob.w hp
    have hpl := g1.len
    have hs := ris_len h.ris
    rw [if_pos hm, if_pos hm, pack_chain _ _ (by omega) (by omega) hob.w, Option.bind_some]
    unfold bytesF
    rw [hpk]
    simp only
    rw [if_pos trivial, show ([894847314, wu32 (p.1.length : Int), wu32 p.2, wu32 (o.Syms.length : Int)] : List Int) = [magic, wu32 (o.Words.length : Int), wu32 p.2, wu32 (o.Syms.length : Int)] by rw [hpl]; rfl, put_is (by simp) (wd4 _ _ _), Option.bind_some, put_is (by omega) g1.all, Option.bind_some, if_pos (by rw [putS_length, putS_length]; simp; omega), put_syms h (by rw [List.length_append, putS_length, putS_length]; simp; omega)]
    rfl
  · rw [if_neg hm, if_neg hm]
theorem refput_isF {o : Sapi_Obj} (hob : Ob o) : rivetref10_Put o = some (putF o) := by
  unfold rivetref10_Put putF
  rw [refmay_is hob, Option.bind_some]
  by_cases hm : mayS o = 0
  · have h := may_elim hm
    have hwl := h.wl
    obtain ⟨p, hp, hpk⟩ := h.packed
    obtain ⟨g1, g2⟩ := h.good hob.w hp
    have hpl := g1.len
    have hs := ris_len h.ris
    rw [if_pos hm, if_pos hm, pack_ref _ _ (by omega) (by omega) hob.w, Option.bind_some]
    unfold bytesF
    rw [hpk]
    simp only
    rw [show ([894847314, wu32 (o.Words.length : Int), wu32 p.2, wu32 (o.Syms.length : Int)] : List Int) = [magic, wu32 (o.Words.length : Int), wu32 p.2, wu32 (o.Syms.length : Int)] from rfl, refput_is (by simp) (wd4 _ _ _), Option.bind_some, refput_is (by omega) g1.all, Option.bind_some, if_pos (by rw [putS_length, putS_length]; simp; omega), refput_syms h (by rw [List.length_append, putS_length, putS_length]; simp; omega)]
    rfl
  · rw [if_neg hm, if_neg hm]
end Go.Proofs.YtmfnololpfdfdaaDoor.F10
