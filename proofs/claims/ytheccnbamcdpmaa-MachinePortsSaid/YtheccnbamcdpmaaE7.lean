/- The engine's words, seventh part: regions whose order is open, with effects behind their reads. No condition. -/
import Derived.Test.YtheccnbamcdpmaaE6
import Derived.Test.YtheccnbamcdpmaaWLast
namespace Go.Proofs.Ytheccnbamcdpmaa.E
open Go Go.RowKit Go.Proofs.YtheccnbamcdpmaaW.PrintLast
theorem Rd.none {α : Type} {E : Enc α} {w : World} {cap : Nat} {l : List α} (h : Rd w E none cap l) : l = [] := by
  cases l with
  | nil => rfl
  | cons x r => obtain ⟨a, ha, _⟩ := h.2 0 x rfl; cases ha
def pk (ops : Array Oper) (ns : List Nat) : List Oper := ns.filterMap fun i => ops.toList[i]?
theorem pk_cons {ops : Array Oper} {i : Nat} {o : Oper} {ns : List Nat} (h : ops.toList[i]? = some o) : pk ops (i :: ns) = o :: pk ops ns := by
  unfold pk
  rw [List.filterMap_cons, h]
theorem pk_append {ops : Array Oper} (ns ms : List Nat) : pk ops (ns ++ ms) = pk ops ns ++ pk ops ms := List.filterMap_append
def inB (ops : Array Oper) (ns : List Nat) : Bool := ns.all fun i => Nat.blt i ops.toList.length
section
variable {P : Program} {ops : Array Oper} {Q : Exit → Act → World → Prop} {Qa : Act → Prop} {a : Act} {w w0 : World} {n i : Nat} {L L' : SL} {op : Op} {ty : TypeId} {dst : Option Tmp} {g : Option (Nat × Bool)} {ns : List Nat}
theorem ops_pk : ∀ {ns : List Nat} {a : Act} {w : World}, inB ops ns = true → wpList P ops Q (pk ops ns) a w → wpOps P ops Q ns a w
  | [], a, w, _, h => h
  | i :: r, a, w, hB, h => by
    simp only [inB, List.all_cons, Bool.and_eq_true] at hB
    have hlt : i < ops.toList.length := by simpa [Nat.blt_eq] using hB.1
    have ho : ops.toList[i]? = some ops.toList[i] := List.getElem?_eq_getElem hlt
    rw [pk_cons ho] at h
    have ho' : ops[i]? = some ops.toList[i] := by rw [← Array.getElem?_toList]; exact ho
    unfold wpOps
    rw [ho']
    unfold wpList at h
    simp only
    split at h
    · rename_i hw
      rw [if_pos hw]
      exact h.imp (Oper.wp_mono fun a' w' h' => ops_pk (by simpa [inB] using hB.2) h') id
    · rename_i hw
      rw [if_neg hw]
      exact ops_pk (by simpa [inB] using hB.2) h
/-- What may be taken first, one by one: in every world, or in every world of S. -/
def wy (P : Program) (ops : Array Oper) (S : World → Prop) (Qa : Act → Prop) : List (Nat × Bool) → Act → Prop
  | [], a => Qa a
  | (i, b) :: r, a => ∃ o v, ops[i]? = some o ∧ (b = true → Yields P ops o v a) ∧ (b = false → YieldsIf P ops S o v a) ∧ wy P ops S Qa r (a.put o.dst v)
def hdB (ops : Array Oper) (ds : List Nat) : Array Bool → List (Nat × Bool) → Option (Array Bool)
  | l, [] => some l
  | l, (i, b) :: r => match Region.free .any ops l i && (Region.ready .any ops l).contains i && (b || (Region.closedB .any ops l && Region.lastB .any ops l ds i)) with
    | true => hdB ops ds (l.setIfInBounds i true) r
    | false => none
def tlB (ops : Array Oper) : Array Bool → List Nat → Bool
  | l, [] => Region.ready .any ops l == []
  | l, i :: r => (Region.ready .any ops l == [i]) && tlB ops (l.setIfInBounds i true) r
theorem wy_any {S : World → Prop} {ds : List Nat} (hS : S w) (hsel : Region.noSelect ops = true) (hQ : ∀ c a d v w, Q (.panic c) (a.put d v) w → Q (.panic c) a w) {l' : Array Bool} {fuel : Nat} :
    ∀ {hd : List (Nat × Bool)} {l : Array Bool} {a : Act}, hdB ops ds l hd = some l' → wy P ops S (fun a' => wpAnyLast P .any ops Q S ds fuel l' a' w) hd a → wpAnyLast P .any ops Q S ds (hd.length + fuel) l a w
  | [], l, a, he, h => by
    cases he
    have h : wpAnyLast P .any ops Q S ds fuel l' a w := h
    simpa using h
  | (i, b) :: r, l, a, he, h => by
    obtain ⟨o, v, ho, hb1, hb2, h⟩ := h
    unfold hdB at he
    split at he
    · rename_i hc
      simp only [Bool.and_eq_true, Bool.or_eq_true] at hc
      obtain ⟨⟨h1, h2⟩, h3⟩ := hc
      have ih := wy_any hS hsel hQ he h
      have e : ((i, b) :: r).length + fuel = (r.length + fuel) + 1 := by simp only [List.length_cons]; omega
      rw [e]
      cases b with
      | true => exact wpAnyLast_any ho (Region.noSelect_spec hsel) (fun c a w h => hQ c _ _ _ w h) _ l a w (Region.free_spec ho h1) (by simpa using h2) (hb1 rfl) ih
      | false =>
        have h3 : Region.closedB .any ops l = true ∧ Region.lastB .any ops l ds i = true := by simpa using h3
        exact wpAnyLast_take ho hsel h1 h2 h3.1 h3.2 (fun c a w h => hQ c _ _ _ w h) (hb2 rfl) hS ih
    · cases he
theorem tl_any {S : World → Prop} {ds : List Nat} {fuel : Nat} : ∀ {tl : List Nat} {l : Array Bool} {a : Act} {w : World}, tlB ops l tl = true → (∀ i ∈ tl, i ∈ ds) → wpOps P ops Q tl a w → wpAnyLast P .any ops Q S ds (tl.length + fuel) l a w
  | [], l, a, w, he, _, h => by
    simp only [tlB, beq_iff_eq] at he
    exact wpAnyLast_done he h _
  | i :: r, l, a, w, he, hd, h => by
    simp only [tlB, Bool.and_eq_true, beq_iff_eq] at he
    have e : (i :: r).length + fuel = (r.length + fuel) + 1 := by simp only [List.length_cons]; omega
    rw [e]
    refine wpAnyLast_all he.1 (by simp) fun j hj => ?_
    have : j = i := by simpa using hj
    subst this
    rw [wpOps_cons] at h
    exact wpOp_mono (fun a' w' h' => ⟨fun hn => absurd (hd j (by simp)) hn, tl_any he.2 (fun k hk => hd k (List.mem_cons_of_mem _ hk)) h'⟩) h
def regB (ops : Array Oper) (hd : List (Nat × Bool)) (tl : List Nat) : Bool := Region.noSelect ops && inB ops tl && Nat.beq ops.size (hd.length + tl.length) && match hdB ops tl (Array.replicate ops.size false) hd with
  | some l => tlB ops l tl
  | none => false
abbrev wt (P : Program) (ops : Array Oper) (w : World) (Qa : Act → Prop) (hd : List (Nat × Bool)) (a : Act) : Prop := wy P ops (fun w' => Below w.heap.size w w') Qa hd a
theorem t_region {id : Nat} (hd : List (Nat × Bool)) (tl : List Nat) (hm : P.follows .mixedOrders = true) (hB : regB ops hd tl = true) (hQ : ∀ c a d v w, Q (.panic c) (a.put d v) w → Q (.panic c) a w)
    (h : wt P ops w (fun a' => ∀ w', Below w.heap.size w w' → wpList P ops Q (pk ops tl) a' w') hd a) : (Code.region id ops true).wp P Q a w := by
  simp only [regB, Bool.and_eq_true] at hB
  obtain ⟨⟨⟨h1, h2⟩, h3⟩, h4⟩ := hB
  have h3 := Nat.eq_of_beq_eq_true h3
  split at h4
  · rename_i l hl
    have hS : Below w.heap.size w w.drew := (Below.refl _ _).drew
    refine wp_region_last (S := fun w' => Below w.heap.size w w') (ds := tl) hm ?_
    show wpAnyLast P .any ops Q _ tl ops.size _ a w.drew
    rw [h3]
    have key : ∀ {hd : List (Nat × Bool)} {a : Act}, wt P ops w (fun a' => ∀ w', Below w.heap.size w w' → wpList P ops Q (pk ops tl) a' w') hd a →
        wy P ops (fun w' => Below w.heap.size w w') (fun a' => wpAnyLast P .any ops Q (fun w' => Below w.heap.size w w') tl tl.length l a' w.drew) hd a := by
      intro hd
      induction hd with
      | nil => intro a h; exact tl_any (fuel := 0) h4 (fun _ h => h) (ops_pk h2 (h _ hS))
      | cons p r ih => intro a h; obtain ⟨o, v, ho, hb1, hb2, h⟩ := h; exact ⟨o, v, ho, hb1, hb2, ih h⟩
    exact wy_any hS h1 hQ (h3 ▸ hl) (key h)
  · cases h4
/-! ### the steps -/
theorem t_end (h : Qa a) : wt P ops w Qa [] a := h
theorem y_skip (hs : Slots a n L) {o : Oper} (hw : wantL ops L o = some false) : Yields P ops o undef a := .inr ⟨wantL_ok hs hw, rfl⟩
theorem t_pv1 (hs : Slots a n L) {o : Oper} {r : List (Nat × Bool)} (ho : ops[i]? = some o) (he : pv1 P ops n L o = some L') (h : ∀ a', Slots a' n L' → wt P ops w Qa r a') : wt P ops w Qa ((i, true) :: r) a := by
  unfold pv1 at he
  split at he
  · cases he
  · rename_i hw; exact ⟨o, undef, ho, fun _ => y_skip hs hw, fun e => (by cases e), h _ (Option.some.inj he ▸ hs.put _ _)⟩
  · rename_i hw
    split at he
    · cases he
    · rename_i hk
      simp only [Bool.and_eq_true] at hk
      split at he
      · rename_i v hv
        exact ⟨o, v, ho, fun _ => .inl ⟨wantL_ok hs hw, fun w' => by rw [exec_same hs hk.1 hk.2]; exact pv_ok _ hv w'⟩, fun e => (by cases e), h _ (Option.some.inj he ▸ hs.put _ _)⟩
      · cases he
theorem t_pvs' {ms : List Nat} {r : List (Nat × Bool)} : ∀ {L : SL} {a : Act}, inB ops ms = true → Slots a n L → pvs P ops n L (pk ops ms) = some L' → (∀ a', Slots a' n L' → wt P ops w Qa r a') → wt P ops w Qa (ms.map (·, true) ++ r) a := by
  induction ms with
  | nil => intro L a _ hs he h; cases he; exact h a hs
  | cons i q ih =>
    intro L a hB hs he h
    simp only [inB, List.all_cons, Bool.and_eq_true] at hB
    have hlt : i < ops.toList.length := by simpa [Nat.blt_eq] using hB.1
    have ho : ops.toList[i]? = some ops.toList[i] := List.getElem?_eq_getElem hlt
    rw [pk_cons ho] at he
    unfold pvs at he
    split at he
    · cases he
    · rename_i L1 h1
      exact t_pv1 hs (by rw [← Array.getElem?_toList]; exact ho) h1 fun a' hs' => ih (by simpa [inB] using hB.2) hs' he h
theorem t_pvs (ms : List Nat) (r : List (Nat × Bool)) (ds : List Nat) (N : SL) (hs : Slots a n L) (h : ∀ a', Slots a' n (kd ds N L) → wt P ops w Qa r a') (he : (pvs P ops n L (pk ops ms)).map (kp (keysL (kd ds N L))) = some (kd ds N L) := by kernel_rfl) (hB : inB ops ms = true := by kernel_rfl) : wt P ops w Qa (ms.map (·, true) ++ r) a := by
  obtain ⟨L1, h1, h2⟩ := Option.map_eq_some_iff.1 he
  exact t_pvs' hB hs h1 fun a' hs' => h a' (hs'.keep _ h2)
theorem t_rd {r : List (Nat × Bool)} (hs : Slots a n L) (ho : opAt ops i = some (op, ty, dst, g)){v : Value}
    (hr : ∀ w', Below w.heap.size w w' → (execOp (evD L) (mkO op ty)).run P w' = .ok (.value v) w') (ds : List Nat) (h : ∀ a', Slots a' n (rms ds (putL n dst v L)) → wt P ops w Qa r a') (hw : wantG ops L g = some true := by kernel_rfl) (hk : okOp L op = true := by kernel_rfl) : wt P ops w Qa ((i, false) :: r) a := by
  obtain ⟨o, h1, h2⟩ := Option.map_eq_some_iff.1 ho
  simp only [Prod.mk.injEq] at h2
  obtain ⟨rfl, rfl, rfl, rfl⟩ := h2
  have hk : known L o.op.operands.toList = true ∧ noSel (mkO o.op 0) = true := by simpa [okOp] using hk
  refine ⟨o, v, by rw [← Array.getElem?_toList]; exact h1, fun e => (by cases e), fun _ => .inl ⟨wantL_ok hs (by unfold wantL; exact hw), fun w' hb => ?_⟩, h _ ((hs.put _ _).rms ds)⟩
  rw [exec_same hs hk.1 hk.2, exec_mk]
  exact hr w' hb
theorem t_run {r : List (Nat × Bool)} (hs : Slots a n L) (ho : opAt ops i = some (op, ty, dst, g)){v : Value}
    (hr : ∀ w', (execOp (evD L) (mkO op ty)).run P w' = .ok (.value v) w') (ds : List Nat) (h : ∀ a', Slots a' n (rms ds (putL n dst v L)) → wt P ops w Qa r a') (hw : wantG ops L g = some true := by kernel_rfl) (hk : okOp L op = true := by kernel_rfl) : wt P ops w Qa ((i, true) :: r) a := by
  obtain ⟨o, h1, h2⟩ := Option.map_eq_some_iff.1 ho
  simp only [Prod.mk.injEq] at h2
  obtain ⟨rfl, rfl, rfl, rfl⟩ := h2
  have hk : known L o.op.operands.toList = true ∧ noSel (mkO o.op 0) = true := by simpa [okOp] using hk
  refine ⟨o, v, by rw [← Array.getElem?_toList]; exact h1, fun _ => .inl ⟨wantL_ok hs (by unfold wantL; exact hw), fun w' => ?_⟩, fun e => (by cases e), h _ ((hs.put _ _).rms ds)⟩
  rw [exec_same hs hk.1 hk.2, exec_mk]
  exact hr w'
/-! ### the effects behind: by number -/
theorem p_cons {o : Oper} (ho : ops.toList[i]? = some o) (h : wpList P ops Q (o :: pk ops ns) a w) : wpList P ops Q (pk ops (i :: ns)) a w := by rw [pk_cons ho]; exact h
theorem p_end (h : Q .normal a w) : wpList P ops Q (pk ops []) a w := h
theorem p_pvs (ms ns : List Nat) (ds : List Nat) (N : SL) (hs : Slots a n L) (h : ∀ a', Slots a' n (kd ds N L) → wpList P ops Q (pk ops ns) a' w) (he : (pvs P ops n L (pk ops ms)).map (kp (keysL (kd ds N L))) = some (kd ds N L) := by kernel_rfl) : wpList P ops Q (pk ops (ms ++ ns)) a w := by
  obtain ⟨L1, h1, h2⟩ := Option.map_eq_some_iff.1 he
  rw [pk_append]
  exact step_pvs hs h1 fun a' hs' => h a' (hs'.keep _ h2)
theorem p_run {w' : World} (hs : Slots a n L) (ho : opAt ops i = some (op, ty, dst, g)){v : Value}
    (hr : (execOp (evD L) (mkO op ty)).run P w = .ok (.value v) w') (ds : List Nat) (h : ∀ a', Slots a' n (rms ds (putL n dst v L)) → wpList P ops Q (pk ops ns) a' w') (hw : wantG ops L g = some true := by kernel_rfl) (hk : okOp L op = true := by kernel_rfl) : wpList P ops Q (pk ops (i :: ns)) a w := by
  obtain ⟨o, h1, h2⟩ := Option.map_eq_some_iff.1 ho
  simp only [Prod.mk.injEq] at h2
  obtain ⟨rfl, rfl, rfl, rfl⟩ := h2
  exact p_cons h1 (step_run hs (by unfold wantL; exact hw) (by unfold okOp at hk; exact hk) (by rw [exec_mk]; exact hr) fun a' hs' => h a' (hs'.rms ds))
theorem p_unit {w' : World} (hs : Slots a n L) (ho : opAt ops i = some (op, ty, dst, g)) 
    (hr : (execOp (evD L) (mkO op ty)).run P w = .ok .skip w') (ds : List Nat) (h : ∀ a', Slots a' n (rms ds (putL n dst undef L)) → wpList P ops Q (pk ops ns) a' w') (hw : wantG ops L g = some true := by kernel_rfl) (hk : okOp L op = true := by kernel_rfl) : wpList P ops Q (pk ops (i :: ns)) a w := by
  obtain ⟨o, h1, h2⟩ := Option.map_eq_some_iff.1 ho
  simp only [Prod.mk.injEq] at h2
  obtain ⟨rfl, rfl, rfl, rfl⟩ := h2
  exact p_cons h1 (step_unit hs (by unfold wantL; exact hw) (by unfold okOp at hk; exact hk) (by rw [exec_mk]; exact hr) fun a' hs' => h a' (hs'.rms ds))
theorem p_call (hs : Slots a n L) (ho : opAt ops i = some (op, ty, dst, g)) {f : FuncId} {args : Array Value}
     {R : Ending → World → Prop} (hc : Calls P f args w R)
    (h : ∀ e w', R e w' → ∃ v, e = .returned v ∧ ∀ a', Slots a' n (putL n dst v L) → wpList P ops Q (pk ops ns) a' w') (he : pv P (execOp (evD L) (mkO op ty)) = some (.enter f args) := by kernel_rfl) (hw : wantG ops L g = some true := by kernel_rfl) (hk : okOp L op = true := by kernel_rfl) : wpList P ops Q (pk ops (i :: ns)) a w := by
  obtain ⟨o, h1, h2⟩ := Option.map_eq_some_iff.1 ho
  simp only [Prod.mk.injEq] at h2
  obtain ⟨rfl, rfl, rfl, rfl⟩ := h2
  exact p_cons h1 (step_call hs (by unfold wantL; exact hw) (by unfold okOp at hk; exact hk) (by rw [exec_mk]; exact he) hc h)
end
end Go.Proofs.Ytheccnbamcdpmaa.E
