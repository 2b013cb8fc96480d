/- The engine's words, fifteenth part: open orders with quiet calls, with fresh calls ahead, with new variables; equal arrays; variables that hold functions. No condition. -/
import Derived.Test.YtheccnbamcdpmaaEE
namespace Go.Proofs.Ytheccnbamcdpmaa.E
set_option linter.unusedVariables false
set_option linter.unusedSimpArgs false
open Go Go.RowKit Go.Proofs.YtheccnbamcdpmaaW.PrintLast
/-! ### what is left behind the effects, and touches no memory -/
def Qe (Q : Exit → Act → World → Prop) (K : Act → World → Prop) : Exit → Act → World → Prop := fun e a w => match e with
  | .normal => K a w
  | e => Q e a w
section
variable {P : Program} {ops : Array Oper} {Q : Exit → Act → World → Prop} {K : Act → World → Prop} {a : Act} {w : World}
theorem wpOp_Qe {i : Nat} {K1 : Act → World → Prop} (h : wpOp P ops (Qe Q K) i K1 a w) : wpOp P ops Q i K1 a w := by
  unfold wpOp at *
  split
  · rename_i ho; simpa [ho] using h
  · rename_i o ho
    simp only [ho] at h
    split
    · rename_i hw
      simp only [hw, if_true] at h
      refine h.imp (fun h => ?_) (fun h => h)
      unfold Oper.wp at *
      generalize (execOp a.eval o).run P w = r at *
      cases r with
      | ok n w' =>
        cases n <;> simp only [Oper.upon] at h ⊢ <;> first | exact h | exact Calls.mono h (fun e w'' he => by cases e <;> exact he)
      | halt x w' => cases x <;> simp only [Oper.upon] at h ⊢ <;> exact h
    · rename_i hw; simp only [hw] at h; exact h
def wyp (P : Program) (ops : Array Oper) (Qa : Act → Prop) : List Nat → Act → Prop
  | [], a => Qa a
  | i :: r, a => ∃ o v, ops[i]? = some o ∧ Yields P ops o v a ∧ wyp P ops Qa r (a.put o.dst v)
def ptB (ops : Array Oper) : Array Bool → List Nat → Bool
  | l, [] => Region.ready .any ops l == []
  | l, i :: r => Region.free .any ops l i && (Region.ready .any ops l).contains i && ptB ops (l.setIfInBounds i true) r
theorem wyp_any {S : World → Prop} {ds : List Nat} (hsel : Region.noSelect ops = true) (hQ : ∀ c a d v w, Q (.panic c) (a.put d v) w → Q (.panic c) a w) :
    ∀ {hd : List Nat} {l : Array Bool} {a : Act}, ptB ops l hd = true → wyp P ops (fun a' => Q .normal a' w) hd a → wpAnyLast P .any ops Q S ds hd.length l a w
  | [], l, a, he, h => wpAnyLast_done (by simpa [ptB] using he) h _
  | i :: r, l, a, he, h => by
    obtain ⟨o, v, ho, hy, h⟩ := h
    simp only [ptB, Bool.and_eq_true] at he
    exact wpAnyLast_any ho (Region.noSelect_spec hsel) (fun c a w h => hQ c _ _ _ w h) _ l a w (Region.free_spec ho he.1.1) (by simpa using he.1.2) hy (wyp_any hsel hQ he.2 h)
def teB (ops : Array Oper) (h2 : List Nat) : Array Bool → List Nat → Bool
  | l, [] => ptB ops l h2
  | l, i :: r => (Region.ready .any ops l == [i]) && teB ops h2 (l.setIfInBounds i true) r
abbrev Qt (P : Program) (ops : Array Oper) (Q : Exit → Act → World → Prop) (h2 : List Nat) : Exit → Act → World → Prop := Qe Q fun a w => wyp P ops (fun a' => Q .normal a' w) h2 a
theorem te_any {S : World → Prop} {ds h2 : List Nat} (hsel : Region.noSelect ops = true) (hQ : ∀ c a d v w, Q (.panic c) (a.put d v) w → Q (.panic c) a w) : ∀ {tl : List Nat} {l : Array Bool} {a : Act} {w : World}, teB ops h2 l tl = true → (∀ i ∈ tl, i ∈ ds) → wpOps P ops (Qt P ops Q h2) tl a w → wpAnyLast P .any ops Q S ds (tl.length + h2.length) l a w
  | [], l, a, w, he, _, h => by
    have h : wyp P ops (fun a' => Q .normal a' w) h2 a := h
    have := wyp_any (S := S) (ds := ds) hsel hQ (show ptB ops l h2 = true from he) h
    simpa using this
  | i :: r, l, a, w, he, hd, h => by
    simp only [teB, Bool.and_eq_true, beq_iff_eq] at he
    have e : (i :: r).length + h2.length = (r.length + h2.length) + 1 := by simp only [List.length_cons]; omega
    rw [e]
    refine wpAnyLast_all he.1 (by simp) fun j hj => ?_
    have : j = i := by simpa using hj
    subst this
    rw [wpOps_cons] at h
    exact wpOp_Qe (wpOp_mono (fun a' w' h' => ⟨fun hn => absurd (hd j (by simp)) hn, te_any hsel hQ he.2 (fun k hk => hd k (List.mem_cons_of_mem _ hk)) h'⟩) h)
theorem p_last {h2 : List Nat} (h : wyp P ops (fun a' => Q .normal a' w) h2 a) : wpList P ops (Qt P ops Q h2) (pk ops []) a w := h
theorem e_end {Qa : Act → Prop} (h : Qa a) : wyp P ops Qa [] a := h
theorem e_pvs' {Qa : Act → Prop} {n : Nat} {ms r : List Nat} {L' : SL} : ∀ {L : SL} {a : Act}, inB ops ms = true → Slots a n L → pvs P ops n L (pk ops ms) = some L' → (∀ a', Slots a' n L' → wyp P ops Qa r a') → wyp P ops Qa (ms ++ r) a := by
  induction ms with
  | nil => intro L a _ hs he h; cases he; exact h a hs
  | cons i q ih =>
    intro L a hB hs he h
    simp only [inB, List.all_cons, Bool.and_eq_true] at hB
    have hlt : i < ops.toList.length := by simpa [Nat.blt_eq] using hB.1
    have ho : ops.toList[i]? = some ops.toList[i] := List.getElem?_eq_getElem hlt
    have ho2 : ops[i]? = some ops.toList[i] := by rw [← Array.getElem?_toList]; exact ho
    rw [pk_cons ho] at he
    unfold pvs at he
    split at he
    · cases he
    · rename_i L1 h1
      have next : ∀ a', Slots a' n L1 → wyp P ops Qa (q ++ r) a' := fun a' hs' => ih (by simpa [inB] using hB.2) hs' he h
      unfold pv1 at h1
      split at h1
      · cases h1
      · rename_i hw; exact ⟨_, undef, ho2, y_skip hs hw, next _ (Option.some.inj h1 ▸ hs.put _ _)⟩
      · rename_i hw
        split at h1
        · cases h1
        · rename_i hk
          simp only [Bool.and_eq_true] at hk
          split at h1
          · rename_i v hv
            exact ⟨_, v, ho2, .inl ⟨wantL_ok hs hw, fun w' => by rw [exec_same hs hk.1 hk.2]; exact pv_ok _ hv w'⟩, next _ (Option.some.inj h1 ▸ hs.put _ _)⟩
          · cases h1
theorem e_pvs {Qa : Act → Prop} {n : Nat} {L : SL} (ms r ds : List Nat) (N : SL) (hs : Slots a n L) (h : ∀ a', Slots a' n (kd ds N L) → wyp P ops Qa r a') (he : (pvs P ops n L (pk ops ms)).map (kp (keysL (kd ds N L))) = some (kd ds N L) := by kernel_rfl) (hB : inB ops ms = true := by kernel_rfl) : wyp P ops Qa (ms ++ r) a := by
  obtain ⟨L1, h1, h2⟩ := Option.map_eq_some_iff.1 he
  exact e_pvs' hB hs h1 fun a' hs' => h a' (hs'.keep _ h2)
end
/-! ### quiet operations first, calls among them; the effects wait for all of them -/
section
variable {P : Program} {ops : Array Oper} {Q : Exit → Act → World → Prop} {C : World → Prop} {ds : List Nat} {Qa : Array Bool → Act → Prop}
def wpQT (P : Program) (ops : Array Oper) (C : World → Prop) (Qa : Array Bool → Act → Prop) : Nat → Array Bool → Act → Prop
  | 0, l, a => Qa l a
  | f + 1, l, a => Region.ready .any ops l ≠ [] ∧ ∀ i ∈ Region.ready .any ops l, qOp P ops C i (wpQT P ops C Qa f (l.setIfInBounds i true)) a
theorem wpAny_of_QT {k : Nat} (hQ : ∀ l a w, C w → Qa l a → wpAny P .any ops Q k l a w) : ∀ (f : Nat) (l : Array Bool) (a : Act) (w : World), C w → wpQT P ops C Qa f l a → wpAny P .any ops Q (f + k) l a w
  | 0, l, a, w, hw, h => by rw [Nat.zero_add]; exact hQ l a w hw h
  | f + 1, l, a, w, hw, h => by
    rw [show f + 1 + k = (f + k) + 1 by omega]
    exact ⟨fun h0 => absurd h0 h.1, fun i hi => wpOp_of_qOp hw (fun a' w' hw' h' => wpAny_of_QT hQ f _ a' w' hw' h') (h.2 i hi)⟩
theorem wpQT_first (hQa : ∀ l a, Qa l a → ∀ j, j < ops.size → j ∉ ds → l.getD j false = true) {i : Nat} {oi : Oper} {v : Value} (hi : ops[i]? = some oi) (hsel : ∀ (j : Nat) (o : Oper) cs b, ops[j]? = some o → o.op ≠ .select cs b) (n : Nat) :
    ∀ (f : Nat) (l : Array Bool) (a : Act),
      (∀ j oj, ops[j]? = some oj → j ≠ i → l.getD j true = false → (∀ e ∈ oj.after, Region.binds .any e = true → e.on ≠ i) → oi.apart ops oj = true) →
      ListedClosed .any ops l → (∀ d ∈ ds, l.getD d true = false → Region.reachB .any ops i n d = true) →
      i ∈ Region.ready .any ops l → YieldsIn P ops C oi v a →
      wpQT P ops C Qa f (l.setIfInBounds i true) (a.put oi.dst v) → wpQT P ops C Qa (f + 1) l a := by
  intro f
  induction f with
  | zero =>
    intro l a _ hc hd hr hy H
    refine ⟨fun h => (by rw [h] at hr; cases hr), fun j hj => ?_⟩
    by_cases hji : j = i
    · subst hji; exact hy.qOp hi H
    · exfalso
      obtain ⟨hjun, oj, hoj, _⟩ := mem_ready.1 hj
      have hiun := (mem_ready.1 hr).1
      have hjd : j ∉ ds := fun hm => Region.reach_not_ready hc (hd j hm hjun) hiun hj
      have h1 := hQa _ _ H j (Array.getElem?_eq_some_iff.1 hoj).1 hjd
      rw [getD_set_ne false (fun e => hji e.symm)] at h1
      rcases Nat.lt_or_ge j l.size with h' | h'
      · simp [h'] at hjun h1; rw [hjun] at h1; cases h1
      · simp [Array.getElem?_eq_none h'] at h1
  | succ f ih =>
    intro l a hfree hc hd hr hy H
    refine ⟨fun h => (by rw [h] at hr; cases hr), fun j hj => ?_⟩
    by_cases hji : j = i
    · subst hji; exact hy.qOp hi H
    · have h1 := H.2 j (ready_mono hj hji)
      obtain ⟨hjun, oj, hoj, hall⟩ := mem_ready.1 hj
      have hiun := (mem_ready.1 hr).1
      have hnot : ∀ e ∈ oj.after, Region.binds .any e = true → e.on ≠ i := fun e he hb heq => by
        have h1 := hall e he hb
        rw [heq] at h1
        rcases Nat.lt_or_ge i l.size with h' | h'
        · simp [h'] at hiun h1; rw [hiun] at h1; cases h1
        · simp [Array.getElem?_eq_none h'] at h1
      have h2 := qOp_put hoj (hfree j oj hoj hji hjun hnot) (fun cs b => hsel i oi cs b hi) (fun cs b => hsel j oj cs b hoj) hy h1
      have hfree' : ∀ k ok, ops[k]? = some ok → k ≠ i → (l.setIfInBounds j true).getD k true = false →
          (∀ e ∈ ok.after, Region.binds .any e = true → e.on ≠ i) → oi.apart ops ok = true := fun k ok hk hki hun hno => by
        refine hfree k ok hk hki ?_ hno
        by_cases hjk : j = k
        · subst hjk; exact hjun
        · rw [getD_set_ne true hjk] at hun; exact hun
      have hd' : ∀ d ∈ ds, (l.setIfInBounds j true).getD d true = false → Region.reachB .any ops i n d = true := fun d hm hun => by
        refine hd d hm ?_
        by_cases hjk : j = d
        · subst hjk; exact hjun
        · rw [getD_set_ne true hjk] at hun; exact hun
      refine qOp_mono (fun a' h3 => ih (l.setIfInBounds j true) a' hfree' (hc.set hj) hd' (ready_mono hr (Ne.symm hji)) h3.1 ?_) h2
      rw [Array.setIfInBounds_comm _ _ hji]
      exact h3.2
def wzl (P : Program) (ops : Array Oper) (C : World → Prop) (Qa : Act → Prop) : List Nat → Act → Prop
  | [], a => Qa a
  | i :: r, a => ∃ o v, ops[i]? = some o ∧ YieldsIn P ops C o v a ∧ wzl P ops C Qa r (a.put o.dst v)
def zdB (ops : Array Oper) (ds : List Nat) : Array Bool → List Nat → Option (Array Bool)
  | l, [] => some l
  | l, i :: r => match Region.free .any ops l i && (Region.ready .any ops l).contains i && Region.closedB .any ops l && Region.lastB .any ops l ds i with
    | true => zdB ops ds (l.setIfInBounds i true) r
    | false => none
theorem wz_any (hQa : ∀ l a, Qa l a → ∀ j, j < ops.size → j ∉ ds → l.getD j false = true) (hsel : Region.noSelect ops = true) {l' : Array Bool} :
    ∀ {hd : List Nat} {l : Array Bool} {a : Act}, zdB ops ds l hd = some l' → wzl P ops C (fun a' => Qa l' a') hd a → wpQT P ops C Qa hd.length l a
  | [], l, a, he, h => by cases he; exact h
  | i :: r, l, a, he, h => by
    obtain ⟨o, v, ho, hy, h⟩ := h
    unfold zdB at he
    split at he
    · rename_i hc
      simp only [Bool.and_eq_true] at hc
      obtain ⟨⟨⟨h1, h2⟩, h3⟩, h4⟩ := hc
      have ih := wz_any hQa hsel he h
      refine wpQT_first hQa ho (Region.noSelect_spec hsel) ops.size r.length l a (Region.free_spec ho h1) (Region.closedB_spec h3) (fun d hd hun => ?_) (by simpa using h2) hy ih
      have := List.all_eq_true.1 h4 d hd
      rw [hun] at this
      simpa using this
    · cases he
def zRegB (ops : Array Oper) (hd tl h2 : List Nat) : Bool := Region.noSelect ops && inB ops tl && Nat.beq ops.size (hd.length + (tl.length + h2.length)) && match zdB ops (tl ++ h2) (Array.replicate ops.size false) hd with
  | some l => teB ops h2 l tl && (List.range ops.size).all fun j => (tl ++ h2).contains j || l.getD j false
  | none => false
abbrev wz (P : Program) (ops : Array Oper) (w : World) (Qa : Act → Prop) (hd : List Nat) (a : Act) : Prop := wzl P ops (fun w' => Below w.heap.size w w') Qa hd a
theorem z_region {a : Act} {w : World} {id : Nat} (hd tl h2 : List Nat) (hm : P.follows .mixedOrders = true) (hB : zRegB ops hd tl h2 = true) (hQ : ∀ c a d v w, Q (.panic c) (a.put d v) w → Q (.panic c) a w)
    (h : wz P ops w (fun a' => ∀ w', Below w.heap.size w w' → wpList P ops (Qt P ops Q h2) (pk ops tl) a' w') hd a) : (Code.region id ops true).wp P Q a w := by
  simp only [zRegB, Bool.and_eq_true] at hB
  obtain ⟨⟨⟨h1, hi⟩, h3⟩, h4⟩ := hB
  have h3 := Nat.eq_of_beq_eq_true h3
  split at h4
  · rename_i l' hl
    simp only [Bool.and_eq_true] at h4
    have hS : Below w.heap.size w w.drew := (Below.refl _ _).drew
    refine wp_region_any hm ?_
    show wpAny P .any ops Q ops.size _ a w.drew
    conv => arg 5; rw [h3]
    refine wpAny_of_QT (C := fun w' => Below w.heap.size w w') (Qa := fun l a' => l = l' ∧ ∀ w', Below w.heap.size w w' → wpList P ops (Qt P ops Q h2) (pk ops tl) a' w') (k := tl.length + h2.length) ?_ _ _ _ _ hS ?_
    · rintro l a' w' hb ⟨rfl, hp⟩
      exact wpAny_of_last _ _ _ _ (te_any (S := fun _ => True) (ds := tl) h1 hQ h4.1 (fun _ h => h) (ops_pk hi (hp _ hb)))
    · refine wz_any (ds := tl ++ h2) ?_ h1 hl ?_
      · rintro l a' ⟨rfl, _⟩ j hj hn
        have := List.all_eq_true.1 h4.2 j (List.mem_range.2 hj)
        have hn : ¬ (j ∈ tl ∨ j ∈ h2) := by simpa using hn
        rcases (Bool.or_eq_true _ _ ▸ this) with h | h
        · exact absurd (by simpa using h) hn
        · exact h
      · have key : ∀ {hd : List Nat} {a : Act}, wz P ops w (fun a' => ∀ w', Below w.heap.size w w' → wpList P ops (Qt P ops Q h2) (pk ops tl) a' w') hd a →
            wzl P ops (fun w' => Below w.heap.size w w') (fun a' => l' = l' ∧ ∀ w', Below w.heap.size w w' → wpList P ops (Qt P ops Q h2) (pk ops tl) a' w') hd a := by
          intro hd
          induction hd with
          | nil => intro a h; exact ⟨rfl, h⟩
          | cons p r ih => intro a h; obtain ⟨o, v, ho, hy, h⟩ := h; exact ⟨o, v, ho, hy, ih h⟩
        exact key h
  · cases h4
end
section
variable {P : Program} {ops : Array Oper} {Q : Exit → Act → World → Prop} {Qa : Act → Prop} {a : Act} {w w0 : World} {n i : Nat} {L L' : SL} {op : Op} {ty : TypeId} {dst : Option Tmp} {g : Option (Nat × Bool)} {ns : List Nat}
theorem z_end (h : Qa a) : wz P ops w Qa [] a := h
theorem z_pv1 (hs : Slots a n L) {o : Oper} {r : List Nat} (ho : ops[i]? = some o) (he : pv1 P ops n L o = some L') (h : ∀ a', Slots a' n L' → wz P ops w Qa r a') : wz P ops w Qa (i :: r) a := by
  unfold pv1 at he
  split at he
  · cases he
  · rename_i hw; exact ⟨o, undef, ho, .inr ⟨wantL_ok hs hw, rfl⟩, h _ (Option.some.inj he ▸ hs.put _ _)⟩
  · rename_i hw
    split at he
    · cases he
    · rename_i hk
      simp only [Bool.and_eq_true] at hk
      split at he
      · rename_i v hv
        refine ⟨o, v, ho, .inl ⟨wantL_ok hs hw, fun w' _ => ?_⟩, h _ (Option.some.inj he ▸ hs.put _ _)⟩
        unfold Oper.quietAt
        rw [exec_same hs hk.1 hk.2, pv_ok _ hv w']
        exact ⟨rfl, rfl⟩
      · cases he
theorem z_pvs' {ms : List Nat} {r : List Nat} : ∀ {L : SL} {a : Act}, inB ops ms = true → Slots a n L → pvs P ops n L (pk ops ms) = some L' → (∀ a', Slots a' n L' → wz P ops w Qa r a') → wz P ops w Qa (ms ++ r) a := by
  induction ms with
  | nil => intro L a _ hs he h; cases he; exact h a hs
  | cons i q ih =>
    intro L a hB hs he h
    simp only [inB, List.all_cons, Bool.and_eq_true] at hB
    have hlt : i < ops.toList.length := by simpa [Nat.blt_eq] using hB.1
    have ho : ops.toList[i]? = some ops.toList[i] := List.getElem?_eq_getElem hlt
    rw [pk_cons ho] at he
    unfold pvs at he
    split at he
    · cases he
    · rename_i L1 h1
      exact z_pv1 hs (by rw [← Array.getElem?_toList]; exact ho) h1 fun a' hs' => ih (by simpa [inB] using hB.2) hs' he h
theorem z_pvs (ms : List Nat) (r : List Nat) (ds : List Nat) (N : SL) (hs : Slots a n L) (h : ∀ a', Slots a' n (kd ds N L) → wz P ops w Qa r a') (he : (pvs P ops n L (pk ops ms)).map (kp (keysL (kd ds N L))) = some (kd ds N L) := by kernel_rfl) (hB : inB ops ms = true := by kernel_rfl) : wz P ops w Qa (ms ++ r) a := by
  obtain ⟨L1, h1, h2⟩ := Option.map_eq_some_iff.1 he
  exact z_pvs' hB hs h1 fun a' hs' => h a' (hs'.keep _ h2)
theorem z_run {r : List Nat} (hs : Slots a n L) (ho : opAt ops i = some (op, ty, dst, g)){v : Value}
    (hr : ∀ w', Below w.heap.size w w' → (execOp (evD L) (mkO op ty)).run P w' = .ok (.value v) w') (ds : List Nat) (h : ∀ a', Slots a' n (rms ds (putL n dst v L)) → wz P ops w Qa r a') (hw : wantG ops L g = some true := by kernel_rfl) (hk : okOp L op = true := by kernel_rfl) : wz P ops w Qa (i :: r) a := by
  obtain ⟨o, h1, h2⟩ := Option.map_eq_some_iff.1 ho
  simp only [Prod.mk.injEq] at h2
  obtain ⟨rfl, rfl, rfl, rfl⟩ := h2
  have hk : known L o.op.operands.toList = true ∧ noSel (mkO o.op 0) = true := by simpa [okOp] using hk
  refine ⟨o, v, by rw [← Array.getElem?_toList]; exact h1, .inl ⟨wantL_ok hs (by unfold wantL; exact hw), fun w' hb => ?_⟩, h _ ((hs.put _ _).rms ds)⟩
  unfold Oper.quietAt
  rw [exec_same hs hk.1 hk.2, exec_mk, hr w' hb]
  exact ⟨rfl, rfl⟩
theorem z_call {r : List Nat} (hs : Slots a n L) (ho : opAt ops i = some (op, ty, dst, g)) {f : FuncId} {args : Array Value} {v : Value}
     (hc : ∀ w', Below w.heap.size w w' → Calls P f args w' fun e w'' => e = .returned v ∧ Below w.heap.size w w'')
    (ds : List Nat) (h : ∀ a', Slots a' n (rms ds (putL n dst v L)) → wz P ops w Qa r a') (he : pv P (execOp (evD L) (mkO op ty)) = some (.enter f args) := by kernel_rfl) (hw : wantG ops L g = some true := by kernel_rfl) (hk : okOp L op = true := by kernel_rfl) : wz P ops w Qa (i :: r) a := by
  obtain ⟨o, h1, h2⟩ := Option.map_eq_some_iff.1 ho
  simp only [Prod.mk.injEq] at h2
  obtain ⟨rfl, rfl, rfl, rfl⟩ := h2
  have hk : known L o.op.operands.toList = true ∧ noSel (mkO o.op 0) = true := by simpa [okOp] using hk
  refine ⟨o, v, by rw [← Array.getElem?_toList]; exact h1, .inl ⟨wantL_ok hs (by unfold wantL; exact hw), fun w' hb => ?_⟩, h _ ((hs.put _ _).rms ds)⟩
  unfold Oper.quietAt
  rw [exec_same hs hk.1 hk.2, exec_mk, pv_ok _ he w']
  exact ⟨rfl, hc w' hb⟩
/-! ### a callee that is walked in place, behind an open order's reads -/
theorem p_inline_k (hs : Slots a n L) (ho : opAt ops i = some (op, ty, dst, g)) {f : FuncId} {args : Array Value}
    
    (hc : ∀ K : Value → World → Prop, (∀ v w', (∀ a', Slots a' n (putL n dst v L) → wpList P ops Q (pk ops ns) a' w') → K v w') → Calls P f args w fun e w' => ∃ v, e = .returned v ∧ K v w') (he : pv P (execOp (evD L) (mkO op ty)) = some (.enter f args) := by kernel_rfl) (hw : wantG ops L g = some true := by kernel_rfl) (hk : okOp L op = true := by kernel_rfl) : wpList P ops Q (pk ops (i :: ns)) a w :=
  p_call hs ho (hc (fun v w' => ∀ a', Slots a' n (putL n dst v L) → wpList P ops Q (pk ops ns) a' w') fun _ _ h => h) (fun _ _ h => h) he hw hk
/-! ### calls that only make new blocks, between the reads and the effects -/
def wpPre (P : Program) (ops : Array Oper) (Q : Exit → Act → World → Prop) (wR : World) (tl : List Nat) : List Nat → Act → World → Prop
  | [], a, w => wpList P ops Q (pk ops tl) a w
  | i :: r, a, w => wpOp P ops Q i (fun a' w' => Below wR.heap.size wR w' ∧ wpPre P ops Q wR tl r a' w') a w
theorem pre_any {wR : World} {tl h2 : List Nat} (hsel : Region.noSelect ops = true) (hQ : ∀ c a d v w, Q (.panic c) (a.put d v) w → Q (.panic c) a w) (hi : inB ops tl = true) : ∀ {pre : List Nat} {l : Array Bool} {a : Act} {w : World}, teB ops h2 l (pre ++ tl) = true → wpPre P ops (Qt P ops Q h2) wR tl pre a w → wpAnyLast P .any ops Q (fun w' => Below wR.heap.size wR w') tl (pre.length + (tl.length + h2.length)) l a w
  | [], l, a, w, he, h => by
    have := te_any (S := fun w' => Below wR.heap.size wR w') (ds := tl) hsel hQ he (fun _ h => h) (ops_pk hi h)
    simpa using this
  | i :: r, l, a, w, he, h => by
    simp only [List.cons_append, teB, Bool.and_eq_true, beq_iff_eq] at he
    have e : (i :: r).length + (tl.length + h2.length) = (r.length + (tl.length + h2.length)) + 1 := by simp only [List.length_cons]; omega
    rw [e]
    refine wpAnyLast_all he.1 (by simp) fun j hj => ?_
    have : j = i := by simpa using hj
    subst this
    exact wpOp_Qe (wpOp_mono (fun a' w' h' => ⟨fun _ _ => h'.1, pre_any hsel hQ hi he.2 h'.2⟩) h)
def sRegB (ops : Array Oper) (hd : List (Nat × Bool)) (pre tl h2 : List Nat) : Bool := Region.noSelect ops && inB ops tl && Nat.beq ops.size (hd.length + (pre.length + (tl.length + h2.length))) && match hdB ops tl (Array.replicate ops.size false) hd with
  | some l => teB ops h2 l (pre ++ tl)
  | none => false
theorem s_region {id : Nat} (hd : List (Nat × Bool)) (pre tl h2 : List Nat) (hm : P.follows .mixedOrders = true) (hB : sRegB ops hd pre tl h2 = true) (hQ : ∀ c a d v w, Q (.panic c) (a.put d v) w → Q (.panic c) a w)
    (h : wt P ops w (fun a' => ∀ w', Below w.heap.size w w' → wpPre P ops (Qt P ops Q h2) w tl pre a' w') hd a) : (Code.region id ops true).wp P Q a w := by
  simp only [sRegB, Bool.and_eq_true] at hB
  obtain ⟨⟨⟨h1, hi⟩, h3⟩, h4⟩ := hB
  have h3 := Nat.eq_of_beq_eq_true h3
  split at h4
  · rename_i l hl
    have hS : Below w.heap.size w w.drew := (Below.refl _ _).drew
    refine wp_region_last (S := fun w' => Below w.heap.size w w') (ds := tl) hm ?_
    show wpAnyLast P .any ops Q _ tl ops.size _ a w.drew
    rw [h3]
    have key : ∀ {hd : List (Nat × Bool)} {a : Act}, wt P ops w (fun a' => ∀ w', Below w.heap.size w w' → wpPre P ops (Qt P ops Q h2) w tl pre a' w') hd a →
        wy P ops (fun w' => Below w.heap.size w w') (fun a' => wpAnyLast P .any ops Q (fun w' => Below w.heap.size w w') tl (pre.length + (tl.length + h2.length)) l a' w.drew) hd a := by
      intro hd
      induction hd with
      | nil => intro a h; exact pre_any h1 hQ hi h4 (h _ hS)
      | cons p r ih => intro a h; obtain ⟨o, v, ho, hb1, hb2, h⟩ := h; exact ⟨o, v, ho, hb1, hb2, ih h⟩
    exact wy_any hS h1 hQ (h3 ▸ hl) (key h)
  · cases h4
/-- Reads first, then the effects in their one order, then what touches no memory. -/
theorem t2_region {id : Nat} (hd : List (Nat × Bool)) (tl h2 : List Nat) (hm : P.follows .mixedOrders = true) (hB : sRegB ops hd [] tl h2 = true) (hQ : ∀ c a d v w, Q (.panic c) (a.put d v) w → Q (.panic c) a w)
    (h : wt P ops w (fun a' => ∀ w', Below w.heap.size w w' → wpList P ops (Qt P ops Q h2) (pk ops tl) a' w') hd a) : (Code.region id ops true).wp P Q a w := s_region hd [] tl h2 hm hB hQ h
theorem s_end {wR : World} {tl : List Nat} (h : wpList P ops Q (pk ops tl) a w) : wpPre P ops Q wR tl [] a w := h
theorem s_pv1 {wR : World} {tl r : List Nat} (hb : Below wR.heap.size wR w) (hs : Slots a n L) {o : Oper} (ho : ops[i]? = some o) (he : pv1 P ops n L o = some L') (h : ∀ a', Slots a' n L' → wpPre P ops Q wR tl r a' w) : wpPre P ops Q wR tl (i :: r) a w := by
  unfold wpPre wpOp
  rw [ho]
  simp only
  unfold pv1 at he
  split at he
  · cases he
  · rename_i hw
    rw [if_neg (by rw [wantL_ok hs hw]; simp)]
    exact ⟨hb, h _ (Option.some.inj he ▸ hs.put _ _)⟩
  · rename_i hw
    split at he
    · cases he
    · rename_i hk
      simp only [Bool.and_eq_true] at hk
      split at he
      · rename_i v hv
        rw [if_pos (wantL_ok hs hw)]
        refine .inl ?_
        unfold Oper.wp
        rw [exec_same hs hk.1 hk.2, pv_ok _ hv w]
        exact ⟨hb, h _ (Option.some.inj he ▸ hs.put _ _)⟩
      · cases he
theorem s_pvs' {wR : World} {tl r ms : List Nat} (hb : Below wR.heap.size wR w) : ∀ {L : SL} {a : Act}, inB ops ms = true → Slots a n L → pvs P ops n L (pk ops ms) = some L' → (∀ a', Slots a' n L' → wpPre P ops Q wR tl r a' w) → wpPre P ops Q wR tl (ms ++ r) a w := by
  induction ms with
  | nil => intro L a _ hs he h; cases he; exact h a hs
  | cons i q ih =>
    intro L a hB hs he h
    simp only [inB, List.all_cons, Bool.and_eq_true] at hB
    have hlt : i < ops.toList.length := by simpa [Nat.blt_eq] using hB.1
    have ho : ops.toList[i]? = some ops.toList[i] := List.getElem?_eq_getElem hlt
    rw [pk_cons ho] at he
    unfold pvs at he
    split at he
    · cases he
    · rename_i L1 h1
      exact s_pv1 hb hs (by rw [← Array.getElem?_toList]; exact ho) h1 fun a' hs' => ih (by simpa [inB] using hB.2) hs' he h
theorem s_pvs {wR : World} {tl : List Nat} (ms r ds : List Nat) (N : SL) (hb : Below wR.heap.size wR w) (hs : Slots a n L) (h : ∀ a', Slots a' n (kd ds N L) → wpPre P ops Q wR tl r a' w) (he : (pvs P ops n L (pk ops ms)).map (kp (keysL (kd ds N L))) = some (kd ds N L) := by kernel_rfl) (hB : inB ops ms = true := by kernel_rfl) : wpPre P ops Q wR tl (ms ++ r) a w := by
  obtain ⟨L1, h1, h2⟩ := Option.map_eq_some_iff.1 he
  exact s_pvs' hb hB hs h1 fun a' hs' => h a' (hs'.keep _ h2)
theorem s_call {wR : World} {tl r : List Nat} (hs : Slots a n L) (ho : opAt ops i = some (op, ty, dst, g)) {f : FuncId} {args : Array Value}
     {R : Ending → World → Prop} (hc : Calls P f args w R)
    (h : ∀ e w', R e w' → ∃ v, e = .returned v ∧ Below wR.heap.size wR w' ∧ ∀ a', Slots a' n (putL n dst v L) → wpPre P ops Q wR tl r a' w') (he : pv P (execOp (evD L) (mkO op ty)) = some (.enter f args) := by kernel_rfl) (hw : wantG ops L g = some true := by kernel_rfl) (hk : okOp L op = true := by kernel_rfl) : wpPre P ops Q wR tl (i :: r) a w := by
  obtain ⟨o, h1, h2⟩ := Option.map_eq_some_iff.1 ho
  simp only [Prod.mk.injEq] at h2
  obtain ⟨rfl, rfl, rfl, rfl⟩ := h2
  have hk : known L o.op.operands.toList = true ∧ noSel (mkO o.op 0) = true := by simpa [okOp] using hk
  unfold wpPre wpOp
  rw [← Array.getElem?_toList, h1]
  simp only
  rw [if_pos (wantL_ok hs (by unfold wantL; exact hw))]
  refine .inl ?_
  unfold Oper.wp
  rw [exec_same hs hk.1 hk.2, exec_mk, pv_ok _ he w]
  refine hc.mono fun e w' hR => ?_
  obtain ⟨v, rfl, hb, hv⟩ := h e w' hR
  exact ⟨hb, hv _ (hs.put _ _)⟩
end
/-! ### equal arrays -/
section
variable {P : Program} {L : SL} {w : World}
def eqElems (d : Nat) (e : TypeId) (n : Nat) (xs ys : Array Value) : List Nat → Sem Bool
  | [] => pure true
  | i :: r => do
    let a ← part e xs (i * n)
    let b ← part e ys (i * n)
    let q ← Op.equalIn d e a b
    if (!q) = true then pure false else eqElems d e n xs ys r
theorem run_equalIn_arr (d : Nat) {t e : TypeId} {len n : Nat} {xs ys : Array Value} (ht : P.underlying t = some (.array len e)) (hn : (P.info? e).map (·.size) = some n) :
    (Op.equalIn (d + 1) t (.agg xs) (.agg ys)).run P w = (eqElems d e n xs ys (List.range len)).run P w := by
  obtain ⟨inf, hi, hsz⟩ := Option.map_eq_some_iff.1 hn
  simp only [Op.equalIn, Sem.run_bind, run_underlying ht, Result.andThen_ok, sizeOf, typeInfo, run_program, hi, hsz, Sem.run_pure]
  rw [Std.Legacy.Range.forIn_eq_forIn_range']
  simp only [Std.Legacy.Range.size, Nat.sub_zero, Nat.add_one_sub_one, Nat.div_one]
  rw [← List.range_eq_range']
  generalize List.range len = is
  induction is generalizing w with
  | nil => simp [eqElems]
  | cons i r ih =>
    simp only [List.forIn_cons, eqElems, Sem.run_bind, Sem.run_ite]
    generalize (part e xs (i * n)).run P w = r1
    cases r1 with
    | ok a w1 =>
      simp only [Result.andThen_ok]
      generalize (part e ys (i * n)).run P w1 = r2
      cases r2 with
      | ok b w2 =>
        simp only [Result.andThen_ok]
        generalize (Op.equalIn d e a b).run P w2 = r3
        cases r3 with
        | ok q w3 =>
          cases q
          · simp only [Result.andThen_ok, Bool.not_false, if_true, Sem.run_pure]
          · simp only [Result.andThen_ok, Bool.not_true, Bool.false_eq_true, if_false, Sem.run_pure]
            exact ih
        | halt x w3 => simp [Result.andThen]
      | halt x w2 => simp [Result.andThen]
    | halt x w1 => simp [Result.andThen]
theorem eqElems_int {d : Nat} {e : TypeId} {k k' : IntKind} {n : Nat} {x y : Vector Int n} (he : P.underlying e = some (.int k')) : ∀ (is : List Nat), (∀ i ∈ is, i < n) →
    (eqElems (d + 1) e 1 ((List.range n).map fun j => Value.int k (vx 0 x j)).toArray ((List.range n).map fun j => Value.int k (vx 0 y j)).toArray is).run P w = .ok (is.all fun i => vx 0 x i == vx 0 y i) w
  | [], _ => by simp [eqElems]
  | i :: r, h => by
    have hi := h i (by simp)
    have hagg : (isAgg e).run P w = .ok false w := by
      unfold isAgg
      rw [Sem.run_bind, run_underlying he w]
      rfl
    have hp : ∀ z : Vector Int n, (part e ((List.range n).map fun j => Value.int k (vx 0 z j)).toArray (i * 1)).run P w = .ok (.int k (vx 0 z i)) w := by
      intro z
      simp [part, Sem.run_bind, hagg, hi]
    rw [eqElems]
    simp only [Sem.run_bind, hp, Result.andThen_ok, run_equalIn_int (P := P) w d e k k' _ _ he]
    have ih := eqElems_int (d := d) (x := x) (y := y) he r (fun j hj => h j (by simp [hj])) (k := k)
    cases hq : (vx 0 x i == vx 0 y i)
    · simp [hq]
    · simp only [Bool.not_true, Bool.false_eq_true, if_false, ih, List.all_cons, hq, Bool.true_and]
theorem eq_vec {d : Nat} {t e : TypeId} {k k' : IntKind} {n : Nat} {xs ys : Array Value} (x y : Vector Int n) (ht : P.underlying t = some (.array n e)) (hn : (P.info? e).map (·.size) = some 1) (he : P.underlying e = some (.int k'))
    (hx : ((List.range n).map fun j => Value.int k (vx 0 x j)).toArray = xs) (hy : ((List.range n).map fun j => Value.int k (vx 0 y j)).toArray = ys) :
    (Op.equalIn (d + 2) t (.agg xs) (.agg ys)).run P w = .ok (decide (x = y)) w := by
  subst hx hy
  rw [run_equalIn_arr (d + 1) ht hn, eqElems_int he _ (fun i hi => List.mem_range.1 hi)]
  congr 1
  rw [Bool.eq_iff_iff]
  simp only [List.all_eq_true, List.mem_range, beq_iff_eq, decide_eq_true_eq]
  constructor
  · intro h; exact vx_ext 0 h
  · rintro rfl i _; rfl
end
/-! ### variables told cell by cell -/
section
variable {P : Program} {L : SL} {G : List Nat} {w0 w : World} {As : List Asn} {T : TypeId} {g : Nat} {cs : List Value}
theorem x_allocc {elem : TypeId} {ty : TypeId} {z : Value} {cs : List Value} {aS : Act} {nS : Nat} (_hs : Slots aS nS L) (hst : St G w0 w As) (hz : (P.info? elem).map (·.zero) = some (some z)) (hv : z.cells.toList = cs) :
    ∃ g w', (execOp (evD L) (mkO (.alloc elem) ty)).run P w = .ok (.value (.pointer (some ⟨g, 0, none⟩))) w' ∧ St G w0 w' (box g elem cs :: As) := by
  obtain ⟨w', h1, h2⟩ := x_alloc (P := P) (L := L) (ty := ty) hst hz hv
  exact ⟨_, w', h1, h2⟩
theorem box_at {o : Nat} {u : Value} (hst : St G w0 w (box g T cs :: As)) (hv : cs[o]? = some u) : w.cell? ⟨g, o, none⟩ = some u := by
  rw [cell_of_row w g o cs.toArray T (0, 0) hst.heap]
  simpa using hv
/-- Some cells of a variable are loaded. -/
theorem x_blds {t : TypeId} {y : Operand} {ty : TypeId} {p : Addr} {o : Nat} {vs : List Value} (hst : St G w0 w (box g T cs :: As)) (hx : evD L y = .pointer (some p) := by kernel_rfl) (hp : p = ⟨g, o, none⟩ := by rfl) (hu : (P.underlying t).map (·.isRow) = some true := by kernel_rfl) (hi : (P.info? t).map (·.size) = some vs.length := by kernel_rfl) (hv : (cs.drop o).take vs.length = vs := by kernel_rfl) :
    (execOp (evD L) (mkO (.load t y) ty)).run P w = .ok (.value (.agg vs.toArray)) w := by
  refine x_loads hx hu hi fun j u hj => ?_
  rw [hp]
  have e : (⟨g, o, none⟩ : Addr).add j = ⟨g, o + j, none⟩ := by unfold Addr.add; split <;> simp_all
  rw [e]
  refine box_at hst ?_
  rw [← hv, List.getElem?_take] at hj
  split at hj
  · rwa [List.getElem?_drop] at hj
  · cases hj
theorem lvb_row {t : TypeId} {vs : List Value} (hst : St G w0 w (box g T cs :: As)) (hu : (P.underlying t).map (·.isRow) = some true) (hi : (P.info? t).map (·.size) = some vs.length) (hv : cs = vs) : (loadVar t ⟨g, 0, none⟩).run P w = .ok (.agg vs.toArray) w := by
  subst hv
  obtain ⟨d, hu, hd⟩ := Option.map_eq_some_iff.1 hu
  have hagg : (isAgg t).run P w = .ok true w := by
    unfold isAgg
    rw [Sem.run_bind, run_underlying hu w]
    cases d <;> simp_all
  have hl := run_loadCells_list (P := P) w ⟨g, 0, none⟩ cs (fun j u hj => by
    have e : (⟨g, 0, none⟩ : Addr).add j = ⟨g, j, none⟩ := add_zero_addr g j
    rw [e]; exact box_at hst hj)
  obtain ⟨inf, hq2, hs⟩ := Option.map_eq_some_iff.1 hi
  simp [loadVar, Sem.run_bind, hagg, sizeOf, typeInfo, hq2, hs, hl]
theorem lvb_cell {t : TypeId} {v : Value} (hst : St G w0 w (box g T cs :: As)) (hu : (P.underlying t).map (·.isRow) = some false) (hv : cs = [v]) : (loadVar t ⟨g, 0, none⟩).run P w = .ok v w := by
  subst hv
  obtain ⟨d, hu, hd⟩ := Option.map_eq_some_iff.1 hu
  have hagg : (isAgg t).run P w = .ok false w := by
    unfold isAgg
    rw [Sem.run_bind, run_underlying hu w]
    cases d <;> simp_all
  have h0 : w.cell? ⟨g, 0, none⟩ = some v := box_at hst rfl
  simp [loadVar, Sem.run_bind, hagg, h0]
end
end Go.Proofs.Ytheccnbamcdpmaa.E
