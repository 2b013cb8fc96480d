/- The engine's words, sixteenth part: new variables that come up in any order, and what is stored in them. No condition. -/
import Derived.Test.YtheccnbamcdpmaaEF
namespace Go.Proofs.Ytheccnbamcdpmaa.E
set_option linter.unusedVariables false
set_option linter.unusedSimpArgs false
open Go Go.RowKit Go.Proofs.YtheccnbamcdpmaaW.PrintLast
/-- A variable that is made by operation i, and set by operation s. -/
structure AJ where
  α : Type
  E : Enc α
  i : Nat
  s : Nat
  d : Nat
  T : TypeId
  ty : TypeId
  ty2 : TypeId
  z : Value
  x0 : α
  y : Operand
  x : α
structure AJok (P : Program) (ops : Array Oper) (n : Nat) (L1 : SL) (j : AJ) : Prop where
  ha : opAt ops j.i = some (.alloc j.T, j.ty, some j.d, none)
  hz : (P.info? j.T).map (·.zero) = some (some j.z)
  hc : j.z.cells.toList = j.E.enc j.x0
  hd : Nat.blt j.d n = true
  hl : lk j.d L1 = none
  hs : opAt ops j.s = some (.store j.T (.tmp j.d) j.y, j.ty2, none, none)
  hy : known L1 [j.y] = true
  hx : (evD L1 j.y).cells.toList = j.E.enc j.x
  hi : (P.info? j.T).map (·.size) = some j.E.sz
abbrev AJ.sl (p : AJ × Addr) : Nat × Value := (p.1.d, .pointer (some p.2))
abbrev AJ.o0 (p : AJ × Addr) : Asn := own p.1.T p.1.E (some p.2) 1 [p.1.x0]
abbrev AJ.o1 (p : AJ × Addr) : Asn := own p.1.T p.1.E (some p.2) 1 [p.1.x]
def AP : List AJ → (List (AJ × Addr) → Prop) → Prop
  | [], k => k []
  | j :: r, k => ∀ ad, AP r fun D => k ((j, ad) :: D)
theorem AP.at : ∀ {js : List AJ} {k : List (AJ × Addr) → Prop}, AP js k → ∀ {D : List (AJ × Addr)}, D.map Prod.fst = js → k D
  | [], k, h, D, e => by
    cases D with
    | nil => exact h
    | cons _ _ => cases e
  | j :: r, k, h, D, e => by
    cases D with
    | nil => cases e
    | cons p D =>
      simp only [List.map_cons, List.cons.injEq] at e
      obtain ⟨j', ad⟩ := p
      obtain ⟨rfl, e2⟩ := e
      exact AP.at (h ad) e2
theorem perm_lift : ∀ {js : List AJ} {D : List (AJ × Addr)}, (D.map Prod.fst).Perm js → ∃ D' : List (AJ × Addr), D'.Perm D ∧ D'.map Prod.fst = js
  | [], D, h => by
    have := h.eq_nil
    cases D with
    | nil => exact ⟨[], .refl _, rfl⟩
    | cons _ _ => cases this
  | j :: r, D, h => by
    have hm : j ∈ D.map Prod.fst := h.mem_iff.2 (by simp)
    obtain ⟨p, hp, rfl⟩ := List.mem_map.1 hm
    obtain ⟨s, t, rfl⟩ := List.append_of_mem hp
    have h2 : (p :: (s ++ t)).Perm (s ++ p :: t) := List.perm_middle.symm
    have h3 : (p.1 :: (s ++ t).map Prod.fst).Perm (p.1 :: r) := (h2.map Prod.fst).trans h
    obtain ⟨D', h4, h5⟩ := perm_lift h3.cons_inv
    exact ⟨p :: D', (h4.cons p).trans h2, by simp [h5]⟩
section
variable {G : List Nat} {w0 w : World} {As Bs : List Asn}
theorem Cov.perm (h : As.Perm Bs) : ∀ {L : BL}, Cov As L → ∃ L', Cov Bs L' ∧ L.Perm L' := by
  induction h with
  | nil => intro L h; exact ⟨L, h, .refl _⟩
  | cons A _ ih =>
    rintro L ⟨L1, L2, rfl, ha, hr⟩
    obtain ⟨L2', h1, h2⟩ := ih hr
    exact ⟨L1 ++ L2', ⟨L1, L2', rfl, ha, h1⟩, List.Perm.append_left _ h2⟩
  | swap A B l => intro L h; exact Cov.swap h
  | trans _ _ ih1 ih2 =>
    intro L h
    obtain ⟨L1, h1, h2⟩ := ih1 h
    obtain ⟨L2, h3, h4⟩ := ih2 h1
    exact ⟨L2, h3, h2.trans h4⟩
theorem St.perm (h : St G w0 w As) (hp : As.Perm Bs) : St G w0 w Bs := by
  obtain ⟨L, hc, hs⟩ := h
  obtain ⟨L', h1, h2⟩ := Cov.perm hp hc
  exact ⟨L', h1, hs.perm h2⟩
end
def alB (ops : Array Oper) (tl : List Nat) : Nat → Array Bool → List Nat → Bool
  | 0, l, _ => tlB ops l tl
  | k + 1, l, is => (Region.ready .any ops l == is) && is.all fun i => alB ops tl k (l.setIfInBounds i true) (is.erase i)
def ndB : List Nat → Bool
  | [] => true
  | x :: r => !r.contains x && ndB r
theorem ndB_ok : ∀ {l : List Nat}, ndB l = true → l.Nodup
  | [], _ => List.nodup_nil
  | x :: r, h => by
    simp only [ndB, Bool.and_eq_true, Bool.not_eq_true', List.contains_eq_mem, decide_eq_false_iff_not] at h
    exact List.nodup_cons.2 ⟨h.1, ndB_ok h.2⟩
theorem lk_none {t : Nat} : ∀ {L : SL}, lk t L = none → ∀ p ∈ L, p.1 ≠ t
  | [], _, p, hp => by cases hp
  | q :: r, h, p, hp => by
    unfold lk at h
    split at h
    · cases h
    · rename_i hb
      rcases List.mem_cons.1 hp with hp | hp
      · subst hp; exact fun e => Nat.ne_of_beq_eq_false hb e.symm
      · exact lk_none h p hp
section
variable {P : Program} {ops : Array Oper} {Q : Exit → Act → World → Prop} {a : Act} {w w' : World} {n : Nat} {L L1 : SL} {js : List AJ} {S : World → Prop}
theorem Slots.sub {L' : SL} (h : Slots a n L) (hs : ∀ p ∈ L', p ∈ L) : Slots a n L' := ⟨h.sz, h.df, fun p hp => h.hold p (hs p hp)⟩
theorem Slots.add {d : Nat} {v : Value} (h : Slots a n L) (hd : Nat.blt d n = true) (hn : ∀ p ∈ L, p.1 ≠ d) : Slots (a.put (some d) v) n ((d, v) :: L) := by
  have h1 := h.put (some d) v
  unfold putL at h1
  simp only [hd] at h1
  refine h1.sub fun p hp => ?_
  rcases List.mem_cons.1 hp with e | e
  · subst e; exact List.mem_cons_self
  · refine List.mem_cons_of_mem _ ?_
    have hne := hn p e
    clear h1 hp hn h
    induction L with
    | nil => cases e
    | cons q r ih =>
      unfold rm
      split
      · rename_i hb
        rcases List.mem_cons.1 e with e | e
        · subst e; exact absurd (Nat.eq_of_beq_eq_true hb).symm hne
        · exact ih e
      · rcases List.mem_cons.1 e with e | e
        · subst e; exact List.mem_cons_self
        · exact List.mem_cons_of_mem _ (ih e)
theorem op_run {op : Op} {ty : TypeId} {dst : Option Tmp} {i : Nat} {K : Act → World → Prop} (hs : Slots a n L) (ho : opAt ops i = some (op, ty, dst, none)) (hk : okOp L op = true) {v : Value}
    (hr : (execOp (evD L) (mkO op ty)).run P w = .ok (.value v) w') (h : K (a.put dst v) w') : wpOp P ops Q i K a w := by
  obtain ⟨o, h1, h2⟩ := Option.map_eq_some_iff.1 ho
  simp only [Prod.mk.injEq] at h2
  obtain ⟨rfl, rfl, rfl, h3⟩ := h2
  have hk : known L o.op.operands.toList = true ∧ noSel (mkO o.op 0) = true := by simpa [okOp] using hk
  unfold wpOp
  rw [← Array.getElem?_toList, h1]
  simp only
  rw [if_pos (by unfold Region.wanted; rw [h3])]
  refine .inl ?_
  unfold Oper.wp
  rw [exec_same hs hk.1 hk.2, exec_mk, hr]
  exact h
theorem op_unit {op : Op} {ty : TypeId} {dst : Option Tmp} {i : Nat} {K : Act → World → Prop} (hs : Slots a n L) (ho : opAt ops i = some (op, ty, dst, none)) (hk : okOp L op = true)
    (hr : (execOp (evD L) (mkO op ty)).run P w = .ok .skip w') (h : K (a.put dst undef) w') : wpOp P ops Q i K a w := by
  obtain ⟨o, h1, h2⟩ := Option.map_eq_some_iff.1 ho
  simp only [Prod.mk.injEq] at h2
  obtain ⟨rfl, rfl, rfl, h3⟩ := h2
  have hk : known L o.op.operands.toList = true ∧ noSel (mkO o.op 0) = true := by simpa [okOp] using hk
  unfold wpOp
  rw [← Array.getElem?_toList, h1]
  simp only
  rw [if_pos (by unfold Region.wanted; rw [h3])]
  refine .inl ?_
  unfold Oper.wp
  rw [exec_same hs hk.1 hk.2, exec_mk, hr]
  exact h
theorem al_any {tl : List Nat} (hok : ∀ j ∈ js, AJok P ops n L1 j) (hnd : (js.map AJ.d).Nodup)
    (post : ∀ (D : List (AJ × Addr)) (a : Act) (w' : World) (l : Array Bool), (D.map Prod.fst).Perm js → Slots a n (D.map AJ.sl ++ L1) → St [] w w' (D.map AJ.o0) → tlB ops l tl = true → wpAnyLast P .any ops Q (fun w' => Below w.heap.size w w') [] tl.length l a w') :
    ∀ (k : Nat) (rem : List AJ) (D : List (AJ × Addr)) (is : List Nat) (l : Array Bool) (a : Act) (w' : World), rem.length = k → (rem ++ D.map Prod.fst).Perm js → is.Perm (rem.map AJ.i) → alB ops tl k l is = true →
      Slots a n (D.map AJ.sl ++ L1) → St [] w w' (D.map AJ.o0) → wpAnyLast P .any ops Q (fun w' => Below w.heap.size w w') [] (k + tl.length) l a w' := by
  intro k
  induction k with
  | zero =>
    intro rem D is l a w' hl hp _ hB hs hst
    obtain rfl := List.eq_nil_of_length_eq_zero hl
    rw [Nat.zero_add]
    exact post D a w' l hp hs hst hB
  | succ k ih =>
    intro rem D is l a w' hl hp hi hB hs hst
    simp only [alB, Bool.and_eq_true, beq_iff_eq, List.all_eq_true] at hB
    rw [show k + 1 + tl.length = (k + tl.length) + 1 by omega]
    refine wpAnyLast_all hB.1 ?_ fun i him => ?_
    · intro e
      have := hi.length_eq
      rw [e, List.length_map, hl] at this
      cases this
    · have hB' := hB.2 i him
      obtain ⟨j, hj, rfl⟩ := List.mem_map.1 (hi.mem_iff.1 him)
      obtain ⟨s, t, rfl⟩ := List.append_of_mem hj
      have hjj : j ∈ js := hp.mem_iff.1 (by simp)
      have ok := hok j hjj
      obtain ⟨ad, w2, hrun, hst2⟩ := x_alloc1 (P := P) (ty := j.ty) (hs.sub (L' := L1) fun p hp => List.mem_append_right _ hp) hst j.E j.x0 ok.hz ok.hc
      have hperm : ((s ++ t) ++ ((j, ad) :: D).map Prod.fst).Perm js := by
        refine List.Perm.trans ?_ hp
        simp only [List.map_cons, List.append_assoc, List.cons_append]
        refine List.Perm.append_left _ ?_
        exact List.perm_middle
      refine op_run (hs.sub (L' := L1) fun p hp => List.mem_append_right _ hp) ok.ha rfl hrun ⟨fun _ _ => hst2.below, ?_⟩
      refine ih (s ++ t) ((j, ad) :: D) (is.erase j.i) _ _ w2 ?_ hperm ?_ hB' ?_ hst2
      · simp only [List.length_append, List.length_cons] at hl ⊢; omega
      · have h1 : is.Perm (j.i :: is.erase j.i) := List.perm_cons_erase him
        have h2 : ((s ++ j :: t).map AJ.i).Perm (j.i :: (s ++ t).map AJ.i) := by
          rw [List.map_append, List.map_cons, List.map_append]
          exact List.perm_middle
        exact (h1.symm.trans (hi.trans h2)).cons_inv
      · refine hs.add ok.hd fun p hp' => ?_
        rcases List.mem_append.1 hp' with h | h
        · obtain ⟨q, hq, rfl⟩ := List.mem_map.1 h
          have h1 := (hperm.map AJ.d).nodup_iff.2 hnd
          simp only [List.map_append, List.map_cons] at h1
          have h2 := (List.nodup_append.1 h1).2.1
          have h3 := (List.nodup_cons.1 h2).1
          intro e
          refine h3 ?_
          rw [List.map_map]
          exact List.mem_map.2 ⟨q, hq, e⟩
        · exact lk_none ok.hl p h
theorem ev_add {d : Nat} {v : Value} {y : Operand} (hl : lk d L1 = none) (hk : known L1 [y] = true) : ev ((d, v) :: L1) y = ev L1 y := by
  cases y with
  | tmp t =>
    show (match Nat.beq t d with | true => some v | false => lk t L1) = lk t L1
    split
    · rename_i hb
      have := Nat.eq_of_beq_eq_true hb
      subst this
      simp [known, ev, hl] at hk
    · rfl
  | const u => rfl
  | global u => rfl
  | func u => rfl
theorem st_any (hok : ∀ j ∈ js, AJok P ops n L1 j) : ∀ (D2 D1 : List (AJ × Addr)) (l : Array Bool) (a : Act) (w' : World), (∀ p ∈ D2, p.1 ∈ js) → tlB ops l (D2.map fun p => p.1.s) = true →
    Slots a n ((D1 ++ D2).map AJ.sl ++ L1) → St [] w w' (D2.map AJ.o0 ++ D1.map AJ.o1) →
    (∀ a' w', Slots a' n ((D1 ++ D2).map AJ.sl ++ L1) → St [] w w' ((D1 ++ D2).map AJ.o1) → Q .normal a' w') →
    wpAnyLast P .any ops Q (fun w' => Below w.heap.size w w') [] (D2.map fun p => p.1.s).length l a w'
  | [], D1, l, a, w', _, hB, hs, hst, h => by
    simp only [List.map_nil, tlB, beq_iff_eq] at hB
    simp only [List.append_nil, List.map_nil, List.nil_append] at hst h hs
    exact wpAnyLast_done hB (h a w' hs hst) _
  | p :: r, D1, l, a, w', hm, hB, hs, hst, h => by
    simp only [List.map_cons, tlB, Bool.and_eq_true, beq_iff_eq] at hB
    have ok := hok p.1 (hm p (by simp))
    obtain ⟨j, ad⟩ := p
    refine wpAnyLast_all hB.1 (by simp) fun i hi => ?_
    have : i = j.s := by simpa using hi
    subst this
    have hs1 : Slots a n ((j.d, .pointer (some ad)) :: L1) := hs.sub fun q hq => by
      rcases List.mem_cons.1 hq with e | e
      · subst e; simp [AJ.sl]
      · exact List.mem_append_right _ e
    have hkn := ok.hy
    have hey : evD ((j.d, .pointer (some ad)) :: L1) j.y = evD L1 j.y := by unfold evD; rw [ev_add ok.hl ok.hy]
    have hed : evD ((j.d, .pointer (some ad)) :: L1) (.tmp j.d) = .pointer (some ad) := by
      unfold evD ev lk
      simp [Nat.beq_refl]
    obtain ⟨w2, hrun, hst2⟩ := x_put (P := P) (ty := j.ty2) (t := j.T) (x := .tmp j.d) (y := j.y) (off := 0) (a := ad) (p := ad) (i := 0) (v := evD L1 j.y) (vs := j.E.enc j.x) (e' := j.x) hs1 hst rfl (Int.le_refl 0) Int.one_pos hed (one_at ad _) hey ok.hx (by rw [j.E.len]; exact ok.hi) (by rw [j.E.len]; exact Nat.le_of_eq (Nat.zero_add _)) (j.E.one j.x) (by
      have e1 := j.E.len j.x
      have e2 := j.E.len (ix j.E.d [j.x0] 0)
      show j.E.enc j.x = (j.E.enc (ix j.E.d [j.x0] 0)).take 0 ++ j.E.enc j.x ++ (j.E.enc (ix j.E.d [j.x0] 0)).drop (0 + (j.E.enc j.x).length)
      rw [List.take_zero, List.nil_append, Nat.zero_add, List.drop_of_length_le (by omega), List.append_nil])
    refine op_unit hs1 ok.hs ?_ hrun ⟨fun _ _ => hst2.below, ?_⟩
    · have hke : known ((j.d, .pointer (some ad)) :: L1) [.tmp j.d, j.y] = true := by
        have e1 : ev ((j.d, Value.pointer (some ad)) :: L1) (.tmp j.d) = some (.pointer (some ad)) := by unfold ev lk; simp [Nat.beq_refl]
        have e2 := ev_add (v := .pointer (some ad)) ok.hl ok.hy
        unfold known
        rw [e1]
        simp only
        unfold known at hkn ⊢
        rw [e2]
        cases hv : ev L1 j.y with
        | none => rw [hv] at hkn; simp at hkn
        | some v => simp [known]
      unfold okOp
      simp only [Bool.and_eq_true]
      exact ⟨hke, rfl⟩
    · have ih := st_any hok r (D1 ++ [(j, ad)]) (l.setIfInBounds j.s true) (a.put none undef) w2 (fun q hq => hm q (by simp [hq])) hB.2 (by rw [List.append_assoc, List.singleton_append]; exact hs) ?_ (by rw [List.append_assoc, List.singleton_append]; exact h)
      · exact ih
      · have hst3 : St [] w w2 (AJ.o1 (j, ad) :: (r.map AJ.o0 ++ D1.map AJ.o1)) := hst2
        refine hst3.perm ?_
        rw [List.map_append, ← List.append_assoc]
        exact List.perm_append_singleton _ _ |>.symm
def vRegB (ops : Array Oper) (hd : List (Nat × Bool)) (is ds ss : List Nat) : Bool := Region.noSelect ops && ndB ds && Nat.beq ops.size (hd.length + (is.length + ss.length)) && match hdB ops [] (Array.replicate ops.size false) hd with
  | some l => alB ops ss is.length l is
  | none => false
theorem t_vars {G : List Nat} {w0 : World} {As : List Asn} {id : Nat} (hd : List (Nat × Bool)) (js : List AJ) (L1 : SL) (hm : P.follows .mixedOrders = true) (hB : vRegB ops hd (js.map AJ.i) (js.map AJ.d) (js.map AJ.s) = true) (hQ : ∀ c a d v w, Q (.panic c) (a.put d v) w → Q (.panic c) a w)
    (hst : St G w0 w As) (hok : ∀ j ∈ js, AJok P ops n L1 j) (h : wt P ops w (fun a' => Slots a' n L1) hd a)
    (k : AP js fun D => ∀ a' w', Slots a' n (D.map AJ.sl ++ L1) → St G w0 w' (D.map AJ.o1 ++ As) → Q .normal a' w') : (Code.region id ops true).wp P Q a w := by
  simp only [vRegB, Bool.and_eq_true] at hB
  obtain ⟨⟨⟨h1, h2⟩, h3⟩, h4⟩ := hB
  have h3 := Nat.eq_of_beq_eq_true h3
  split at h4
  · rename_i l hl
    have hS : Below w.heap.size w w.drew := (Below.refl _ _).drew
    refine wp_region_last (S := fun w' => Below w.heap.size w w') (ds := []) hm ?_
    show wpAnyLast P .any ops Q _ [] ops.size _ a w.drew
    rw [h3]
    have fin : ∀ a', Slots a' n L1 → wpAnyLast P .any ops Q (fun w' => Below w.heap.size w w') [] ((js.map AJ.i).length + (js.map AJ.s).length) l a' w.drew := by
      intro a' hs'
      refine al_any (js := js) (L1 := L1) (w := w) hok (ndB_ok h2) ?_ _ js [] (js.map AJ.i) l a' w.drew (by simp) (by simp) (.refl _) h4 hs' (St.nil w).drew
      intro D a2 w2 l2 hp hs2 hst2 hB2
      obtain ⟨D', hp', rfl⟩ := perm_lift hp
      have hk := AP.at k (D := D') rfl
      have e : ((D'.map Prod.fst).map AJ.s) = D'.map fun p => p.1.s := by rw [List.map_map]; rfl
      rw [e] at hB2 ⊢
      refine st_any hok D' [] l2 a2 w2 (fun p hp => List.mem_map.2 ⟨p, hp, rfl⟩) hB2 ?_ ?_ ?_
      · refine hs2.sub fun q hq => ?_
        rw [List.nil_append] at hq
        rcases List.mem_append.1 hq with hq | hq
        · exact List.mem_append_left _ ((hp'.map AJ.sl).mem_iff.1 hq)
        · exact List.mem_append_right _ hq
      · rw [List.map_nil, List.append_nil]
        exact hst2.perm (hp'.map AJ.o0).symm
      · intro a3 w3 hs3 hst3
        rw [List.nil_append] at hs3 hst3
        exact hk a3 w3 hs3 (hst.call hst3)
    have key : ∀ {hd : List (Nat × Bool)} {a : Act}, wt P ops w (fun a' => Slots a' n L1) hd a →
        wy P ops (fun w' => Below w.heap.size w w') (fun a' => wpAnyLast P .any ops Q (fun w' => Below w.heap.size w w') [] ((js.map AJ.i).length + (js.map AJ.s).length) l a' w.drew) hd a := by
      intro hd
      induction hd with
      | nil => intro a h; exact fin a h
      | cons p r ih => intro a h; obtain ⟨o, v, ho, hb1, hb2, h⟩ := h; exact ⟨o, v, ho, hb1, hb2, ih h⟩
    exact wy_any hS h1 hQ (h3 ▸ hl) (key h)
  · cases h4
end
end Go.Proofs.Ytheccnbamcdpmaa.E
