/- Objects that are made are such as may be. No condition. -/
import Derived.Test.YtheccnbamcdpmaaDoorO12d
namespace Go.Proofs.YtheccnbamcdpmaaDoor.O12
set_option linter.unusedVariables false
set_option linter.unusedSimpArgs false
open Go Go.RowKit Go.Proofs.YtheccnbamcdpmaaDoor.E Go.Proofs.YtheccnbamcdpmaaDoor.T12 Go.Proofs.YtheccnbamcdpmaaDoor.L07
open Go.Proofs.YtheccnbamcdpmaaDoor.C08 (rise rise_is rise_all rise_of Ris fit_is getD_set)
/-- What an object that is made is. -/
structure Fitted (o : Sapi_Obj) : Prop where
  w : Wd o.Words
  wl : o.Words.length ≤ 40
  ris : Ris 0 o.Words.length o.Sites
  val : ∀ x ∈ o.Sites, o.Words.getD x.toNat 0 ≤ 4 * (o.Words.length : Int)
  yl : o.Syms.length ≤ 8
  nm : ∀ s ∈ o.Syms, Made s.Name 7
  up : o.Syms.Pairwise fun a b => ls a.Name b.Name
  at' : ∀ s ∈ o.Syms, atOk o.Words.length s.At = true
theorem ris_len {n : Nat} {s : List Int} (h : Ris 0 n s) : s.length ≤ n := by
  rcases Nat.lt_or_ge n s.length with hc | hc
  · exfalso
    have key : ∀ (k : Nat) (hk : k < s.length), (k : Int) ≤ s[k] := by
      intro k
      induction k with
      | zero => intro hk; exact h.lo _ (List.getElem_mem hk)
      | succ k ih =>
        intro hk
        have a := ih (by omega)
        have b := List.pairwise_iff_getElem.1 h.up k (k + 1) (by omega) hk (by omega)
        omega
    have a := key n hc
    have b := h.hi s[n] (List.getElem_mem hc)
    omega
  · exact hc
theorem Fitted.ob {o : Sapi_Obj} (h : Fitted o) : Ob o := by
  have h1 := h.wl
  have h2 := h.yl
  have h3 := ris_len h.ris
  exact ⟨h.w, by omega, by omega, by omega⟩
theorem sy_mem {l : List Sapi_Sym} {i : Nat} (h : i < l.length) : sy l i ∈ l := by
  rw [show sy l i = l[i] by simp [sy, h]]
  exact List.getElem_mem h
theorem sy_at {l : List Sapi_Sym} {i : Nat} (h : i < l.length) : sy l i = l[i] := by simp [sy, h]
/-- What may be: told by what holds. -/
theorem may_ok {o : Sapi_Obj} (h1 : o.Words.length ≤ 1024) (h2 : o.Syms.length ≤ 64) (h3 : Ris 0 o.Words.length o.Sites) (h4 : ∀ x ∈ o.Sites, o.Words.getD x.toNat 0 ≤ 4 * (o.Words.length : Int)) (h5 : ∀ s ∈ o.Syms, nameS (bytesL s.Name) = true)
    (h6 : o.Syms.Pairwise fun a b => ls a.Name b.Name) (h7 : ∀ s ∈ o.Syms, atOk o.Words.length s.At = true) : mayS o = 0 := by
  unfold mayS
  have hr : rise (o.Words.length : Int) (-1) o.Sites = true := rise_of h3.up fun x hx => by have := h3.lo x hx; have := h3.hi x hx; omega
  have hs : (List.range o.Sites.length).all (siteOk o) = true := List.all_eq_true.2 fun i hi => by
    have hi : i < o.Sites.length := by simpa using hi
    unfold siteOk
    rw [decide_eq_true_eq]
    refine h4 _ ?_
    rw [List.getD_eq_getElem?_getD, List.getElem?_eq_getElem hi]
    exact List.getElem_mem hi
  have hn : (List.range o.Syms.length).all (nmOk o.Syms) = true := List.all_eq_true.2 fun i hi => by
    have hi : i < o.Syms.length := by simpa using hi
    unfold nmOk
    rw [h5 _ (sy_mem hi), Bool.true_and]
    by_cases h0 : 0 < i
    · have := List.pairwise_iff_getElem.1 h6 (i - 1) i (by omega) hi (by omega)
      rw [sy_at hi, sy_at (show i - 1 < o.Syms.length by omega), le2_false this]
      simp
    · rw [decide_eq_false h0]; rfl
  have ha : (List.range o.Syms.length).all (fun i => atOk o.Words.length (sy o.Syms i).At) = true := List.all_eq_true.2 fun i hi => by
    have hi : i < o.Syms.length := by simpa using hi
    exact h7 _ (sy_mem hi)
  rw [if_neg (by omega), hr, if_neg (by simp), hs, if_neg (by simp), hn, if_neg (by simp), ha, if_neg (by simp)]
theorem Fitted.may {o : Sapi_Obj} (h : Fitted o) : mayS o = 0 := by
  have := h.wl
  have := h.yl
  exact may_ok (by omega) (by omega) h.ris h.val (fun s hs => made_name (h.nm s hs)) h.up h.at'
/-! ### the made words -/
theorem fit_words {s : List Int} {w : List Int} (hw : Wd w) (hl : w.length ≤ 1000) (hs : Ris 0 w.length s) :
    ∃ w', loopO (fun σ : List Int × Int => rivetref09_Fit.b53 s (w.length : Int) σ.1 σ.2) (w, 0) = some w' ∧ w'.length = w.length ∧ Wd w' ∧ ∀ x ∈ s, w'.getD x.toNat 0 ≤ 4 * (w.length : Int) := by
  have hsl := ris_len hs
  obtain ⟨w', h1, h2⟩ := loopO_inv (b := fun σ : List Int × Int => rivetref09_Fit.b53 s (w.length : Int) σ.1 σ.2)
    (fun σ => ∃ i : Nat, σ.2 = (i : Int) ∧ i ≤ s.length ∧ σ.1.length = w.length ∧ Wd σ.1 ∧ ∀ j : Nat, ∀ hj : j < s.length, j < i → σ.1.getD s[j].toNat 0 ≤ 4 * (w.length : Int))
    (fun σ => ((s.length : Int) - σ.2).toNat) (fun w' => w'.length = w.length ∧ Wd w' ∧ ∀ x ∈ s, w'.getD x.toNat 0 ≤ 4 * (w.length : Int)) (by
      rintro ⟨u, j⟩ ⟨i, h1, h2, h3, h4, h5⟩
      simp only at h1 h3 h4 h5
      subst h1
      simp only [rivetref09_Fit.b53]
      by_cases hc : (i : Int) < (s.length : Int)
      · left
        have hi : i < s.length := by omega
        have hx := hs.lo s[i] (List.getElem_mem hi)
        have hx2 := hs.hi s[i] (List.getElem_mem hi)
        have e : ix (eI .i64).d s (i : Int) = s[i] := by show s.getD i 0 = _; simp [hi]
        have e2 : ix (eI .u32).d u s[i] = u.getD s[i].toNat 0 := rfl
        have hg := getD_in h4 (i := s[i].toNat) (by omega)
        have e3 : wu32 (w64 (w64 (4 * (w.length : Int)) + 1)) = 4 * (w.length : Int) + 1 := by
          rw [w64s (x := 4 * _) (by omega) (by omega), w64s (by omega) (by omega), wu32_id (by omega) (by omega)]
        rw [if_pos hc, if_pos (by omega), if_pos (by omega), e, if_pos (by omega), e3, if_pos (by omega), if_pos (by omega), e2, w64s (by omega) (by omega), Int.tmod_eq_emod_of_nonneg hg.1]
        have hm0 := Int.emod_nonneg (u.getD s[i].toNat 0) (show 4 * (w.length : Int) + 1 ≠ 0 by omega)
        have hm1 := Int.emod_lt_of_pos (u.getD s[i].toNat 0) (show 0 < 4 * (w.length : Int) + 1 by omega)
        refine ⟨_, rfl, ⟨i + 1, rfl, by omega, by simp [h3], ?_, fun k hk hki => ?_⟩, by simp only; omega⟩
        · intro x hx
          rcases List.mem_or_eq_of_mem_set hx with h | h
          · exact h4 x h
          · rw [h]; omega
        · simp only
          rw [getD_set (by omega)]
          split
          · omega
          · rename_i hne
            rcases Nat.lt_or_ge k i with h | h
            · exact h5 k hk h
            · have : k = i := by omega
              subst this
              exact absurd rfl hne
      · right
        rw [if_neg hc]
        refine ⟨_, rfl, h3, h4, fun x hx => ?_⟩
        obtain ⟨j, hj, rfl⟩ := List.getElem_of_mem hx
        exact h5 j hj (by omega)) (w, 0) ⟨0, rfl, by omega, rfl, hw, fun j hj h => absurd h (by omega)⟩
  exact ⟨w', h1, h2⟩
/-! ### the made names -/
theorem fit_place {l : List Sapi_Sym} (hl : l.length ≤ 1000) (t : ByteArray) : ∃ k : Nat, loopO (fun σ : Int => rivetref09_Fit.b95 l t σ) 0 = some (k : Int) ∧ k ≤ l.length ∧ (∀ i, i < k → ls (sy l i).Name t) ∧ (k < l.length → ¬ ls (sy l k).Name t) := by
  have key : ∀ (m i : Nat), i + m = l.length → (∀ j, j < i → ls (sy l j).Name t) → ∃ k : Nat, loopO (fun σ : Int => rivetref09_Fit.b95 l t σ) (i : Int) = some (k : Int) ∧ k ≤ l.length ∧ (∀ i, i < k → ls (sy l i).Name t) ∧ (k < l.length → ¬ ls (sy l k).Name t) := by
    intro m
    induction m with
    | zero =>
      intro i h hb
      refine ⟨i, loopO_done ?_, by omega, hb, fun h => by omega⟩
      unfold rivetref09_Fit.b95 rivetref09_Fit.j4
      rw [if_neg (by omega)]; rfl
    | succ m ih =>
      intro i h hb
      have e : ix eSapi_Sym.d l (i : Int) = sy l i := rfl
      cases hc : Op.bytesLess (sy l i).Name.toList t.toList with
      | true =>
        rw [loopO_next (s' := ((i + 1 : Nat) : Int))]
        · refine ih (i + 1) (by omega) fun j hj => ?_
          by_cases hji : j = i
          · rw [hji]; exact hc
          · exact hb j (by omega)
        · unfold rivetref09_Fit.b95 rivetref09_Fit.j4 rivetref09_Fit.j5
          rw [if_pos (by omega), if_pos (by omega), e, hc, if_pos rfl, w64s (by omega) (by omega)]; rfl
      | false =>
        refine ⟨i, loopO_done ?_, by omega, hb, fun _ hk => ?_⟩
        · unfold rivetref09_Fit.b95 rivetref09_Fit.j4
          rw [if_pos (by omega), if_pos (by omega), e, hc]; rfl
        · unfold ls at hk; rw [hc] at hk; cases hk
  exact key l.length 0 (by omega) fun j hj => by omega
/-- The names so far. -/
structure Nms (n : Nat) (i : Nat) (l : List Sapi_Sym) : Prop where
  len : l.length ≤ i
  nm : ∀ s ∈ l, Made s.Name 7
  up : l.Pairwise fun a b => ls a.Name b.Name
  at' : ∀ s ∈ l, atOk n s.At = true
theorem Nms.put {n i k : Nat} {l : List Sapi_Sym} {s : Sapi_Sym} (h : Nms n i l) (hm : Made s.Name 7) (ha : atOk n s.At = true) (hk : k ≤ l.length) (h1 : ∀ i, i < k → ls (sy l i).Name s.Name) (h2 : ∀ i, k ≤ i → i < l.length → ls s.Name (sy l i).Name) : Nms n (i + 1) (l.take k ++ s :: l.drop k) := by
  have hlen := h.len
  refine ⟨by rw [List.length_append, List.length_cons, List.length_take, List.length_drop]; omega, ?_, ?_, ?_⟩
  · intro x hx
    rcases List.mem_append.1 hx with hx | hx
    · exact h.nm x (List.mem_of_mem_take hx)
    · rcases List.mem_cons.1 hx with rfl | hx
      · exact hm
      · exact h.nm x (List.mem_of_mem_drop hx)
  · have hlt : ∀ a ∈ l.take k, ls a.Name s.Name := fun a ha' => by
      obtain ⟨j, hj, rfl⟩ := List.getElem_of_mem ha'
      have hj' : j < k ∧ j < l.length := by rw [List.length_take] at hj; omega
      have := h1 j hj'.1
      rw [sy_at hj'.2] at this
      simpa using this
    have hgt : ∀ b ∈ l.drop k, ls s.Name b.Name := fun b hb => by
      obtain ⟨j, hj, rfl⟩ := List.getElem_of_mem hb
      have hj' : k + j < l.length := by rw [List.length_drop] at hj; omega
      have := h2 (k + j) (by omega) hj'
      rw [sy_at hj'] at this
      simpa using this
    refine List.pairwise_append.2 ⟨h.up.sublist (List.take_sublist _ _), List.pairwise_cons.2 ⟨hgt, h.up.sublist (List.drop_sublist _ _)⟩, fun a ha' b hb => ?_⟩
    rcases List.mem_cons.1 hb with rfl | hb
    · exact hlt a ha'
    · exact (hlt a ha').trans (hgt b hb)
  · intro x hx
    rcases List.mem_append.1 hx with hx | hx
    · exact h.at' x (List.mem_of_mem_take hx)
    · rcases List.mem_cons.1 hx with rfl | hx
      · exact ha
      · exact h.at' x (List.mem_of_mem_drop hx)
theorem fit_round {n i : Nat} {ns : List ByteArray} {l : List Sapi_Sym} (hn : n ≤ 40) (hz : ∀ s ∈ ns, s.size ≤ 140737488351232) (hi : i < ns.length) (hi8 : i < 8) (h : Nms n i l) : ∃ l', rivetref09_Fit.b73 ns (n : Int) l (i : Int) = some (.inl (l', ((i + 1 : Nat) : Int))) ∧ Nms n (i + 1) l' := by
  have hlen := h.len
  have e0 : ix eS.d ns (i : Int) = ns[i] := by show ns.getD i _ = _; simp [hi]
  have hsz := hz ns[i] (List.getElem_mem hi)
  obtain ⟨v, hv, hm⟩ := fitname_is hsz
  obtain ⟨k, hk, hkl, hlo, hhi⟩ := fit_place (l := l) (by omega) v
  have ei : w64 ((i : Int) + 1) = ((i + 1 : Nat) : Int) := by rw [w64s (by omega) (by omega)]; omega
  unfold rivetref09_Fit.b73 rivetref09_Fit.j2 rivetref09_Fit.j3
  rw [if_pos (by omega), decide_eq_true (by omega), if_pos rfl, if_pos (by omega), e0, hv, Option.bind_some, hk, Option.bind_some]
  unfold rivetref09_Fit.j6
  have e : ix eSapi_Sym.d l (k : Int) = sy l k := rfl
  have put : (k < l.length → (sy l k).Name ≠ v) → ∃ l', rivetref09_Fit.j7 (i : Int) l ns (n : Int) (k : Int) v false = some (.inl (l', ((i + 1 : Nat) : Int))) ∧ Nms n (i + 1) l' := by
    intro hne
    unfold rivetref09_Fit.j7 rivetref09_Fit.j8
    have e1 : w64 ((n : Int) + 1) = ((n + 1 : Nat) : Int) := by rw [w64s (by omega) (by omega)]; omega
    have e2 : w64 ((ns[i].size : Int) + (i : Int)) = ((ns[i].size + i : Nat) : Int) := by rw [w64s (by omega) (by omega)]; omega
    have e3 : (((ns[i].size + i : Nat) : Int).tmod ((n + 1 : Nat) : Int)) = (((ns[i].size + i) % (n + 1) : Nat) : Int) := by rw [Int.tmod_eq_emod_of_nonneg (by omega)]; omega
    have hmod := Nat.mod_lt (ns[i].size + i) (show 0 < n + 1 by omega)
    rw [if_neg (by simp), if_pos (by omega), e0, e1, if_pos (by omega), if_pos (by omega), e2, e3, w64s (x := 4 * _) (by omega) (by omega), if_pos (by simp; omega), if_pos (by omega), if_pos (by simp; omega), if_pos (by simp; omega)]
    unfold rivetref09_Fit.j9
    rw [ei]
    refine ⟨_, rfl, ?_⟩
    rw [Int.toNat_natCast, List.nil_append]
    refine h.put (s := ⟨v, 4 * (((ns[i].size + i) % (n + 1) : Nat) : Int)⟩) hm ?_ hkl hlo fun j hj hjl => ?_
    · unfold atOk
      rw [decide_eq_true_eq]
      simp only
      omega
    · have hkl' : k < l.length := by omega
      have hk1 : ls v (sy l k).Name := by
        refine less_tri ?_ ?_
        · cases hc : Op.bytesLess (sy l k).Name.toList v.toList with
          | false => rfl
          | true => exact absurd hc (hhi hkl')
        · intro he
          have := toL_eq (sy l k).Name v
          rw [he] at this
          exact hne hkl' (by simpa using this.symm)
      by_cases hjk : j = k
      · rw [hjk]; exact hk1
      · have := List.pairwise_iff_getElem.1 h.up k j hkl' hjl (by omega)
        rw [sy_at hjl]
        rw [sy_at hkl'] at hk1
        exact hk1.trans this
  by_cases hkl' : k < l.length
  · rw [if_pos (by omega), if_pos (by omega), e, toL_eq]
    by_cases he : (sy l k).Name = v
    · rw [decide_eq_true he]
      unfold rivetref09_Fit.j7 rivetref09_Fit.j9
      rw [if_pos rfl, ei]
      exact ⟨l, rfl, ⟨by omega, h.nm, h.up, h.at'⟩⟩
    · rw [decide_eq_false he]
      exact put fun _ => he
  · rw [if_neg (by omega)]
    exact put fun hc => absurd hc hkl'
theorem fit_names {n : Nat} {ns : List ByteArray} (hn : n ≤ 40) (hz : ∀ s ∈ ns, s.size ≤ 140737488351232) : ∃ l, loopO (fun σ : List Sapi_Sym × Int => rivetref09_Fit.b73 ns (n : Int) σ.1 σ.2) (([] : List Sapi_Sym), 0) = some l ∧ Nms n 8 l := by
  have key : ∀ (m i : Nat) (l : List Sapi_Sym), i + m = 8 → Nms n i l → ∃ l', loopO (fun σ : List Sapi_Sym × Int => rivetref09_Fit.b73 ns (n : Int) σ.1 σ.2) (l, (i : Int)) = some l' ∧ Nms n 8 l' := by
    intro m
    induction m with
    | zero =>
      intro i l h hl
      refine ⟨l, loopO_done ?_, ⟨by have := hl.len; omega, hl.nm, hl.up, hl.at'⟩⟩
      unfold rivetref09_Fit.b73 rivetref09_Fit.j2
      rw [decide_eq_false (by omega)]
      split <;> rfl
    | succ m ih =>
      intro i l h hl
      by_cases hi : i < ns.length
      · obtain ⟨l', h1, h2⟩ := fit_round hn hz hi (by omega) hl
        rw [loopO_next h1]
        exact ih (i + 1) l' (by omega) h2
      · refine ⟨l, loopO_done ?_, ⟨by have := hl.len; omega, hl.nm, hl.up, hl.at'⟩⟩
        unfold rivetref09_Fit.b73 rivetref09_Fit.j2
        rw [if_neg (by omega)]
        rfl
  exact key 8 0 [] (by omega) ⟨by simp, by simp, List.Pairwise.nil, by simp⟩
theorem fitobj_is {w b : List Int} {ns : List ByteArray} (hw : Wd w) (hz : ∀ s ∈ ns, s.size ≤ 140737488351232) : ∃ o, rivetref09_Fit w b ns = some o ∧ Fitted o := by
  have m := mnn_ok (w.length : Int) 40 (by omega) (by omega)
  have hw2 : Wd (w.take (mnn (w.length : Int) 40).toNat) := fun x hx => hw x (List.mem_of_mem_take hx)
  have hl2 : (w.take (mnn (w.length : Int) 40).toNat).length ≤ 40 := by
    rw [take_min w 40 (by omega), List.length_take]; omega
  unfold rivetref09_Fit
  rw [if_pos m, List.nil_append]
  generalize w.take (mnn (w.length : Int) 40).toNat = u at *
  rw [if_pos (by simp; omega)]
  simp only [nm]
  obtain ⟨s, h1, h2⟩ := fit_is b u.length (by omega)
  obtain ⟨u', h3, h4, h5, h6⟩ := fit_words hw2 (by omega) h2
  obtain ⟨l, h7, h8⟩ := fit_names (n := u.length) (by omega) hz
  rw [h1, Option.bind_some, h3, Option.bind_some]
  unfold rivetref09_Fit.j1
  rw [h7]
  refine ⟨_, rfl, h5, by rw [h4]; exact hl2, by rw [h4]; exact h2, ?_, h8.len, h8.nm, h8.up, ?_⟩
  · simp only [h4]; exact h6
  · simp only [h4]; exact h8.at'
end Go.Proofs.YtheccnbamcdpmaaDoor.O12
