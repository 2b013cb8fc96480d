/- The engine's words, fifth part: addresses of elements, cuts, strings. No condition. -/
import Derived.Test.YtheccnbamcdpmaaE4
import Derived.Scope
namespace Go.Proofs.Ytheccnbamcdpmaa.E
open Go Go.RowKit
section
variable {P : Program} {L : SL} {α : Type} {E : Enc α} {w : World} {A : Option Addr} {cap : Nat} {l : List α} {T : TypeId}
theorem pelem {t : TypeId} (h : P.underlying t = some (.slice T)) : P.underlying t = some (.slice (P.elem t)) ∧ P.elem t = T := by
  have : P.elem t = T := by unfold Program.elem; rw [h]
  exact ⟨by rw [this]; exact h, this⟩
/-- An element's address. -/
theorem x_idx {t : TypeId} {x y : Operand} {ty : TypeId} {a : Addr} {n : Nat} {k : IntKind} {i : Int} {sz : Nat} 
 (hb : 0 ≤ i ∧ i < (n : Int)) (ht : P.underlying t = some (.slice T) := by kernel_rfl) (hs : (P.info? T).map (·.size) = some sz := by kernel_rfl) (hx : evD L x = .slice (some a) n cap := by kernel_rfl) (hy : evD L y = .int k i := by kernel_rfl) :
    (execOp (evD L) (mkO (.indexAddr t x y) ty)).run P w = .ok (.value (.pointer (some (a.add (i.toNat * sz))))) w := by
  obtain ⟨h0, h1⟩ := hb
  refine run_v ?_
  show (Instr.indexAt t (evD L x) (evD L y)).run P w = _
  obtain ⟨inf, hi, hsz⟩ := Option.map_eq_some_iff.1 hs
  rw [hx, hy]
  simp [Instr.indexAt, asIntOf, run_underlying ht, h0, h1, sizeOf, typeInfo, hi, hsz]
/-- xs[:hi]. -/
theorem x_hi {t : TypeId} {x y : Operand} {ty : TypeId} {k : IntKind} {h : Int} (ht : P.underlying t = some (.slice T)) (hs : ((P.info? T).map (·.size)).isSome = true) (hl : l.length ≤ cap)
    (hx : evD L x = .slice A l.length cap) (hy : evD L y = .int k h) (h0 : 0 ≤ h) (h1 : h ≤ (l.length : Int)) :
    (execOp (evD L) (mkO (.slice t x none (some y) none) ty)).run P w = .ok (.value (.slice A (l.take h.toNat).length cap)) w := by
  refine run_v ?_
  show (Instr.sliceAt t (evD L x) none (some (evD L y)) none).run P w = _
  obtain ⟨he, hT⟩ := pelem ht
  obtain ⟨sz, hsz⟩ := Option.isSome_iff_exists.1 hs
  obtain ⟨inf, hi, hsz⟩ := Option.map_eq_some_iff.1 hsz
  rw [run_sliceAt_slice w t _ _ _ _ he, hx, hy, run_slice_h w t A l.length cap he k h h0 (by omega)]
  have hlen : (l.take h.toNat).length = h.toNat := by rw [List.length_take]; omega
  rw [hT, hlen]
  simp [sizeOf, typeInfo, hi, sliced, Result.andThen]
  intro; cases A <;> simp [Addr.add]
/-- xs[lo:]. -/
theorem x_lo {t : TypeId} {x y : Operand} {ty : TypeId} {k : IntKind} {h : Int} (ht : P.underlying t = some (.slice T)) (hs : (P.info? T).map (·.size) = some E.sz)
    (hx : evD L x = .slice A l.length cap) (hy : evD L y = .int k h) (h0 : 0 ≤ h) (h1 : h ≤ (l.length : Int)) :
    (execOp (evD L) (mkO (.slice t x (some y) none none) ty)).run P w = .ok (.value (.slice (cutA A cap h.toNat E.sz) (l.drop h.toNat).length (cap - h.toNat))) w := by
  refine run_v ?_
  show (Instr.sliceAt t (evD L x) (some (evD L y)) none none).run P w = _
  obtain ⟨he, hT⟩ := pelem ht
  obtain ⟨inf, hi, hsz⟩ := Option.map_eq_some_iff.1 hs
  rw [run_sliceAt_slice w t _ _ _ _ he, hx, hy, run_slice_l w t A l.length cap he k h h0 (by omega)]
  rw [hT, List.length_drop]
  simp [sizeOf, typeInfo, hi, hsz, sliced, Result.andThen, cutA]
/-- xs[lo:hi]. -/
theorem x_lohi {t : TypeId} {x y y' : Operand} {ty : TypeId} {k k' : IntKind} {l0 h : Int} (ht : P.underlying t = some (.slice T)) (hs : (P.info? T).map (·.size) = some E.sz) (hl : l.length ≤ cap)
    (hx : evD L x = .slice A l.length cap) (hy : evD L y = .int k l0) (hy' : evD L y' = .int k' h) (h0 : 0 ≤ l0) (h1 : l0 ≤ h) (h2 : h ≤ (l.length : Int)) :
    (execOp (evD L) (mkO (.slice t x (some y) (some y') none) ty)).run P w = .ok (.value (.slice (cutA A cap l0.toNat E.sz) ((l.take h.toNat).drop l0.toNat).length (cap - l0.toNat))) w := by
  refine run_v ?_
  show (Instr.sliceAt t (evD L x) (some (evD L y)) (some (evD L y')) none).run P w = _
  obtain ⟨he, hT⟩ := pelem ht
  obtain ⟨inf, hi, hsz⟩ := Option.map_eq_some_iff.1 hs
  rw [run_sliceAt_slice w t _ _ _ _ he, hx, hy, hy', run_slice_lh w t A l.length cap he k k' l0 h h0 h1 (by omega)]
  have hlen : ((l.take h.toNat).drop l0.toNat).length = h.toNat - l0.toNat := by rw [List.length_drop, List.length_take]; omega
  rw [hT, hlen]
  simp [sizeOf, typeInfo, hi, hsz, sliced, Result.andThen, cutA]
theorem Rd.hi (h : Rd w E A cap l) (n : Nat) : Rd w E A cap (l.take n) := by
  refine ⟨by have := h.1; simp only [List.length_take]; omega, fun i x hi => h.2 i x ?_⟩
  rw [List.getElem?_take] at hi
  split at hi
  · exact hi
  · cases hi
theorem Rd.lo (h : Rd w E A cap l) (n : Nat) : Rd w E (cutA A cap n E.sz) (cap - n) (l.drop n) := by
  have := h.cut (lo := n) (hi := l.length)
  rwa [List.take_length] at this
/-- The cuts once more, as the walk takes them. -/
theorem c_hi {t : TypeId} {x y : Operand} {ty : TypeId} {k : IntKind} {h : Int} {aS : Act} {nS : Nat} (_hs : Slots aS nS L) (ht : P.underlying t = some (.slice T)) (hs : (P.info? T).map (·.size) = some E.sz) (hq : Rd w E A cap l)
    (hx : evD L x = .slice A l.length cap) (hy : evD L y = .int k h) (h0 : 0 ≤ h) (h1 : h ≤ (l.length : Int)) :
    ∃ A' cap', (execOp (evD L) (mkO (.slice t x none (some y) none) ty)).run P w = .ok (.value (.slice A' (l.take h.toNat).length cap')) w ∧ ∀ w', Rd w' E A cap l → Rd w' E A' cap' (l.take h.toNat) :=
  ⟨_, _, x_hi ht (by rw [hs]; rfl) hq.1 hx hy h0 h1, fun _ hq' => hq'.hi _⟩
theorem c_lo {t : TypeId} {x y : Operand} {ty : TypeId} {k : IntKind} {h : Int} {aS : Act} {nS : Nat} (_hs : Slots aS nS L) (ht : P.underlying t = some (.slice T)) (hs : (P.info? T).map (·.size) = some E.sz) (hq : Rd w E A cap l)
    (hx : evD L x = .slice A l.length cap) (hy : evD L y = .int k h) (h0 : 0 ≤ h) (h1 : h ≤ (l.length : Int)) :
    ∃ A' cap', (execOp (evD L) (mkO (.slice t x (some y) none none) ty)).run P w = .ok (.value (.slice A' (l.drop h.toNat).length cap')) w ∧ ∀ w', Rd w' E A cap l → Rd w' E A' cap' (l.drop h.toNat) :=
  ⟨_, _, x_lo ht hs hx hy h0 (by have := hq.1; omega), fun _ hq' => hq'.lo _⟩
theorem c_lohi {t : TypeId} {x y y' : Operand} {ty : TypeId} {k k' : IntKind} {l0 h : Int} {aS : Act} {nS : Nat} (_hs : Slots aS nS L) (ht : P.underlying t = some (.slice T)) (hs : (P.info? T).map (·.size) = some E.sz) (hq : Rd w E A cap l)
    (hx : evD L x = .slice A l.length cap) (hy : evD L y = .int k l0) (hy' : evD L y' = .int k' h) (h0 : 0 ≤ l0) (h1 : l0 ≤ h) (h2 : h ≤ (l.length : Int)) :
    ∃ A' cap', (execOp (evD L) (mkO (.slice t x (some y) (some y') none) ty)).run P w = .ok (.value (.slice A' ((l.take h.toNat).drop l0.toNat).length cap')) w ∧ ∀ w', Rd w' E A cap l → Rd w' E A' cap' ((l.take h.toNat).drop l0.toNat) :=
  ⟨_, _, x_lohi ht hs hq.1 hx hy hy' h0 h1 h2, fun _ hq' => hq'.cut⟩
theorem Rd.some (h : Rd w E A cap l) {i : Int} (h0 : 0 ≤ i) (h1 : i < (l.length : Int)) : ∃ a, A = some a := by
  obtain ⟨a, ha, _⟩ := h.at h0 h1
  exact ⟨a, ha⟩
/-- An element, or a part of it, is loaded. -/
theorem x_ld {t : TypeId} {x : Operand} {ty : TypeId} {a p : Addr} {i : Int} {off : Nat} {v : Value} (hq : Rd w E (some a) cap l) (hb : 0 ≤ i ∧ i < (l.length : Int))
 (hp : p = a.add (i.toNat * E.sz + off)) (hx : evD L x = .pointer (some p) := by kernel_rfl) (hu : (P.underlying t).map (·.isRow) = some false := by kernel_rfl) (hv : (E.enc (ix E.d l i))[off]? = some v := by kernel_rfl) :
    (execOp (evD L) (mkO (.load t x) ty)).run P w = .ok (.value v) w := by
  obtain ⟨h0, h1⟩ := hb
  obtain ⟨b, hb, hc⟩ := hq.at h0 h1
  cases hb
  exact x_load hx hu (hp ▸ hc off v hv)
theorem x_lds {t : TypeId} {x : Operand} {ty : TypeId} {a p : Addr} {i : Int} {off : Nat} {cs : List Value} (hq : Rd w E (some a) cap l) (hb : 0 ≤ i ∧ i < (l.length : Int))
 (hp : p = a.add (i.toNat * E.sz + off)) (hx : evD L x = .pointer (some p) := by kernel_rfl) (hu : (P.underlying t).map (·.isRow) = some true := by kernel_rfl) (hi : (P.info? t).map (·.size) = some cs.length := by kernel_rfl) (hv : ((E.enc (ix E.d l i)).drop off).take cs.length = cs := by kernel_rfl) :
    (execOp (evD L) (mkO (.load t x) ty)).run P w = .ok (.value (.agg cs.toArray)) w := by
  obtain ⟨h0, h1⟩ := hb
  obtain ⟨b, hb, hc⟩ := hq.at h0 h1
  cases hb
  refine x_loads hx hu hi fun j u hj => ?_
  rw [hp, add_add', Nat.add_assoc]
  refine hc (off + j) u ?_
  rw [← hv, List.getElem?_take] at hj
  split at hj
  · rwa [List.getElem?_drop] at hj
  · cases hj
/-- Byte i of a string. -/
def sx (s : ByteArray) (i : Int) : Int := if h : i.toNat < s.size then ((s[i.toNat]'h).toNat : Int) else 0
theorem x_sidx {t : TypeId} {x y : Operand} {ty : TypeId} {s : ByteArray} {k : IntKind} {i : Int} (hb : 0 ≤ i ∧ i < (s.size : Int)) (ht : P.underlying t = some .string := by kernel_rfl) (hx : evD L x = .string s := by kernel_rfl) (hy : evD L y = .int k i := by kernel_rfl) :
    (execOp (evD L) (mkO (.index t x y) ty)).run P w = .ok (.value (.int .u8 (sx s i))) w := by
  obtain ⟨h0, h1⟩ := hb
  refine run_v ?_
  show (Instr.index t (evD L x) (evD L y)).run P w = _
  have hlt : i.toNat < s.size := by omega
  rw [hx, hy]
  simp [Instr.index, asIntOf, run_underlying ht, h0, hlt, sx]
theorem x_scut {t : TypeId} {x : Operand} {lo hi : Option Operand} {ty : TypeId} {s : ByteArray} {k k' : IntKind} {l0 h : Int} (ht : P.underlying t = some .string) (hx : evD L x = .string s)
    (hy : lo.map (evD L) = some (.int k l0) ∨ lo = none ∧ l0 = 0) (hy' : hi.map (evD L) = some (.int k' h) ∨ hi = none ∧ h = (s.size : Int)) (h0 : 0 ≤ l0) (h1 : l0 ≤ h) (h2 : h ≤ (s.size : Int)) :
    (execOp (evD L) (mkO (.slice t x lo hi none) ty)).run P w = .ok (.value (.string (s.extract l0.toNat h.toNat))) w := by
  refine run_v ?_
  show (Instr.sliceAt t (evD L x) (lo.map (evD L)) (hi.map (evD L)) none).run P w = _
  have hh : 0 ≤ h := by omega
  rw [run_sliceAt_string w t _ _ _ _ ht, hx]
  rcases hy with hy | ⟨rfl, rfl⟩ <;> rcases hy' with hy' | ⟨rfl, rfl⟩
  · rw [hy, hy']
    have : (h.toNat : Int) = h := Int.toNat_of_nonneg hh
    simp [Instr.slice, run_underlying ht, Instr.sliceBounds, run_sliceBound, h0, hh, h2, this, h1]
  · rw [hy]
    simp [Instr.slice, run_underlying ht, Instr.sliceBounds, run_sliceBound, h0, h1]
  · rw [hy']
    have : (h.toNat : Int) = h := Int.toNat_of_nonneg hh
    simp [Instr.slice, run_underlying ht, Instr.sliceBounds, run_sliceBound, hh, h2]
  · simp [Instr.slice, run_underlying ht, Instr.sliceBounds]
end
section
variable {P : Program} {Q : Exit → Act → World → Prop} {a : Act} {w : World} {n : Nat} {L : SL} {fn : Func} {R : Ending → World → Prop}
theorem in_block {id : Nat} (h : Q .normal a w) : Exit.inBlock id Q (.exit id) a w := by
  show (if id = id then _ else _)
  rw [if_pos rfl]
  exact h
theorem name_k {c : Code} (h : ∀ K : Act → World → Prop, (∀ a w, Q .normal a w → K a w) → c.wp P (Exit.then K Q) a w) : c.wp P Q a w :=
  wp_mono (h (fun a w => Q .normal a w) fun _ _ h => h) fun e a w h => by cases e <;> exact h
theorem th_ret {K : Act → World → Prop} (h : Q .ret a w) : Exit.then K Q .ret a w := h
theorem ib_ret {id : Nat} (h : Q .ret a w) : Exit.inBlock id Q .ret a w := h
theorem th_exit {K : Act → World → Prop} {id : Nat} (h : Q (.exit id) a w) : Exit.then K Q (.exit id) a w := h
theorem ib_exit {id id' : Nat} (h : Q (.exit id) a w) (hne : Nat.beq id id' = false) : Exit.inBlock id' Q (.exit id) a w := by
  show (if id = id' then _ else _)
  rw [if_neg (Nat.ne_of_beq_eq_false hne)]
  exact h
theorem ng_ret (h : Q .ret a w) : Exit.noGoto Q .ret a w := h
theorem ng_exit {id : Nat} (h : Q (.exit id) a w) : Exit.noGoto Q (.exit id) a w := h
theorem ng_norm (h : Q .normal a w) : Exit.noGoto Q .normal a w := h
theorem ib_norm {id : Nat} (h : Q .normal a w) : Exit.inBlock id Q .normal a w := h
theorem round_end {σ ρ : Type} {o : σ ⊕ ρ} {I : σ → Act → World → Prop} (s' : σ) (h1 : o = .inl s') (h2 : I s' a w) : Exit.then (fun a' w' => ∃ s', o = .inl s' ∧ I s' a' w') Q .normal a w := ⟨s', h1, h2⟩
theorem ret0 (hs : Slots a n L) (hf : fn.results = #[]) (h : R (.returned (.tuple #[])) w) : bodyPost P fn R .ret a w := go_ret hs (results_none hf _ _ _) h
theorem end0 (hs : Slots a n L) (hf : fn.results = #[]) (h : R (.returned (.tuple #[])) w) : bodyPost P fn R .normal a w := go_fin hs (results_none hf _ _ _) h
theorem ret1 {t : Nat} {v : Value} (hs : Slots a n L) (hf : fn.results = #[.tmp t]) (e : lk t L = some v) (h : R (.returned v) w) : bodyPost P fn R .ret a w :=
  go_ret hs (results_tmp hf _ _ _) (by rw [hs.lk e]; exact h)
theorem ret2 {t1 t2 : Nat} {v1 v2 : Value} (hs : Slots a n L) (hf : fn.results = #[.tmp t1, .tmp t2]) (e1 : lk t1 L = some v1) (e2 : lk t2 L = some v2) (h : R (.returned (.tuple #[v1, v2])) w) : bodyPost P fn R .ret a w :=
  go_ret hs (results_tmp2 hf _ _ _) (by rw [hs.lk e1, hs.lk e2]; exact h)
theorem ret3 {t1 t2 t3 : Nat} {v1 v2 v3 : Value} (hs : Slots a n L) (hf : fn.results = #[.tmp t1, .tmp t2, .tmp t3]) (e1 : lk t1 L = some v1) (e2 : lk t2 L = some v2) (e3 : lk t3 L = some v3) (h : R (.returned (.tuple #[v1, v2, v3])) w) : bodyPost P fn R .ret a w :=
  go_ret hs (results_tmp3 hf _ _ _) (by rw [hs.lk e1, hs.lk e2, hs.lk e3]; exact h)
variable {ops : Array Oper} {i : Nat} {op : Op} {ty : TypeId} {dst : Option Tmp} {g : Option (Nat × Bool)}
theorem go_inline_k (hs : Slots a n L) (ho : opAt ops i = some (op, ty, dst, g)) {f : FuncId} {args : Array Value}
    
    (hc : ∀ K : Value → World → Prop, (∀ v w', (∀ a', Slots a' n (putL n dst v L) → wpList P ops Q (ops.toList.drop (i + 1)) a' w') → K v w') → Calls P f args w fun e w' => ∃ v, e = .returned v ∧ K v w') (he : pv P (execOp (evD L) (mkO op ty)) = some (.enter f args) := by kernel_rfl) (hw : wantG ops L g = some true := by kernel_rfl) (hk : okOp L op = true := by kernel_rfl) : wpList P ops Q (ops.toList.drop i) a w :=
  go_call hs ho (hc (fun v w' => ∀ a', Slots a' n (putL n dst v L) → wpList P ops Q (ops.toList.drop (i + 1)) a' w') fun _ _ h => h) (fun _ _ h => h) he hw hk
/-- A callee that is walked in place. -/
theorem go_inline (hs : Slots a n L) (ho : opAt ops i = some (op, ty, dst, g)) (hw : wantG ops L g = some true) (hk : okOp L op = true) {f : FuncId} {args : Array Value}
    (he : pv P (execOp (evD L) (mkO op ty)) = some (.enter f args))
    (hc : Calls P f args w fun e w' => ∃ v, e = .returned v ∧ ∀ a', Slots a' n (putL n dst v L) → wpList P ops Q (ops.toList.drop (i + 1)) a' w') : wpList P ops Q (ops.toList.drop i) a w :=
  go_call hs ho hc (fun _ _ h => h) he hw hk
end
/-! ### regions whose order is open, and whose operations only read -/
section
variable {P : Program} {ops : Array Oper} {Q : Exit → Act → World → Prop} {Qa : Act → Prop} {a : Act} {w w0 : World} {n i : Nat} {L L' : SL} {op : Op} {ty : TypeId} {dst : Option Tmp} {g : Option (Nat × Bool)} {G : List Nat} {As : List Asn}
theorem St.of_below {w' : World} (hb : Below w.heap.size w w') : St [] w w' [] := ⟨[], rfl, hb.os, hb.tape, hb.output, hb.size, fun k hk _ => hb.block k hk, (by intro p hp; cases hp), (by intro p hp; cases hp), List.nodup_nil⟩
theorem St.behind {w' : World} (h : St G w0 w As) (hb : Below w.heap.size w w') : St G w0 w' As := h.call0 (St.of_below hb)
def wq (P : Program) (ops : Array Oper) (w : World) (Qa : Act → Prop) (l : List Oper) (a : Act) : Prop := wpQuiet P ops (fun w' => Below w.heap.size w w') Qa l a
theorem q_region {id : Nat} (hm : P.follows .mixedOrders = true) (hB : Region.lexB .any ops = true) (h : wq P ops w (fun a' => ∀ w', Below w.heap.size w w' → Q .normal a' w') (ops.toList.drop 0) a) : (Code.region id ops true).wp P Q a w :=
  wp_region_quiet (C := fun w' => Below w.heap.size w w') hm hB ((Below.refl _ _).drew) h
theorem q_step_skip (hs : Slots a n L) {o : Oper} {rest : List Oper} (hw : wantL ops L o = some false) (h : ∀ a', Slots a' n (putL n o.dst undef L) → wq P ops w Qa rest a') : wq P ops w Qa (o :: rest) a := by
  unfold wq wpQuiet
  rw [if_neg (by rw [wantL_ok hs hw]; simp)]
  exact h _ (hs.put _ _)
theorem q_step_run (hs : Slots a n L) {o : Oper} {rest : List Oper} (hw : wantL ops L o = some true) (hk : (known L o.op.operands.toList && noSel o) = true) {v : Value}
    (hr : ∀ w', Below w.heap.size w w' → (execOp (evD L) o).run P w' = .ok (.value v) w') (h : ∀ a', Slots a' n (putL n o.dst v L) → wq P ops w Qa rest a') : wq P ops w Qa (o :: rest) a := by
  simp only [Bool.and_eq_true] at hk
  unfold wq wpQuiet
  rw [if_pos (wantL_ok hs hw)]
  refine ⟨v, fun w' hb => ?_, h _ (hs.put _ _)⟩
  unfold Oper.quietAt
  rw [exec_same hs hk.1 hk.2, hr w' hb]
  exact ⟨rfl, rfl⟩
theorem q_step_call (hs : Slots a n L) {o : Oper} {rest : List Oper} (hw : wantL ops L o = some true) (hk : (known L o.op.operands.toList && noSel o) = true) {f : FuncId} {args : Array Value} {v : Value}
    (he : pv P (execOp (evD L) o) = some (.enter f args)) (hc : ∀ w', Below w.heap.size w w' → Calls P f args w' fun e w'' => e = .returned v ∧ Below w.heap.size w w'') (h : ∀ a', Slots a' n (putL n o.dst v L) → wq P ops w Qa rest a') : wq P ops w Qa (o :: rest) a := by
  simp only [Bool.and_eq_true] at hk
  unfold wq wpQuiet
  rw [if_pos (wantL_ok hs hw)]
  refine ⟨v, fun w' hb => ?_, h _ (hs.put _ _)⟩
  unfold Oper.quietAt
  rw [exec_same hs hk.1 hk.2, pv_ok _ he w']
  exact ⟨rfl, hc w' hb⟩
theorem q_step_pv1 (hs : Slots a n L) {o : Oper} {rest : List Oper} (he : pv1 P ops n L o = some L') (h : ∀ a', Slots a' n L' → wq P ops w Qa rest a') : wq P ops w Qa (o :: rest) a := by
  unfold pv1 at he
  split at he
  · cases he
  · rename_i hw; exact q_step_skip hs hw (Option.some.inj he ▸ h)
  · rename_i hw
    split at he
    · cases he
    · rename_i hk
      split at he
      · rename_i v hv
        exact q_step_run hs hw hk (fun w' _ => pv_ok _ hv w') (Option.some.inj he ▸ h)
      · cases he
theorem q_step_pvs {l rest : List Oper} : ∀ {L : SL} {a : Act}, Slots a n L → pvs P ops n L l = some L' → (∀ a', Slots a' n L' → wq P ops w Qa rest a') → wq P ops w Qa (l ++ rest) a := by
  induction l with
  | nil => intro L a hs he h; cases he; exact h a hs
  | cons o r ih =>
    intro L a hs he h
    unfold pvs at he
    split at he
    · cases he
    · rename_i L1 h1
      exact q_step_pv1 hs h1 fun a' hs' => ih hs' he h
theorem q_pvs {i : Nat} (j : Nat) (ds : List Nat) (N : SL) (hs : Slots a n L) 
    (h : ∀ a', Slots a' n (kd ds N L) → wq P ops w Qa (ops.toList.drop j) a') (he : (pvs P ops n L ((ops.toList.drop i).take (j - i))).map (kp (keysL (kd ds N L))) = some (kd ds N L) := by kernel_rfl) (hij : Nat.ble i j = true := by kernel_rfl) : wq P ops w Qa (ops.toList.drop i) a := by
  obtain ⟨L1, h1, h2⟩ := Option.map_eq_some_iff.1 he
  have hij : i ≤ j := Nat.le_of_ble_eq_true hij
  have e : ops.toList.drop i = (ops.toList.drop i).take (j - i) ++ ops.toList.drop j := by
    conv => lhs; rw [← List.take_append_drop (j - i) (ops.toList.drop i)]
    rw [List.drop_drop]
    congr 2
    omega
  rw [e]
  exact q_step_pvs hs h1 fun a' hs' => h a' (hs'.keep _ h2)
theorem q_at {o : Oper} (ho : ops.toList[i]? = some o) (h : wq P ops w Qa (o :: ops.toList.drop (i + 1)) a) : wq P ops w Qa (ops.toList.drop i) a := by
  obtain ⟨hlt, he⟩ := List.getElem?_eq_some_iff.1 ho
  rw [List.drop_eq_getElem_cons hlt, he]
  exact h
theorem q_end (h : Qa a) (hi : Nat.ble ops.toList.length i = true := by kernel_rfl) : wq P ops w Qa (ops.toList.drop i) a := by
  rw [List.drop_eq_nil_of_le (Nat.le_of_ble_eq_true hi)]
  exact h
theorem q_run (hs : Slots a n L) (ho : opAt ops i = some (op, ty, dst, g)){v : Value}
    (hr : ∀ w', Below w.heap.size w w' → (execOp (evD L) (mkO op ty)).run P w' = .ok (.value v) w') (ds : List Nat) (h : ∀ a', Slots a' n (rms ds (putL n dst v L)) → wq P ops w Qa (ops.toList.drop (i + 1)) a') (hw : wantG ops L g = some true := by kernel_rfl) (hk : okOp L op = true := by kernel_rfl) : wq P ops w Qa (ops.toList.drop i) a := by
  obtain ⟨o, h1, h2⟩ := Option.map_eq_some_iff.1 ho
  simp only [Prod.mk.injEq] at h2
  obtain ⟨rfl, rfl, rfl, rfl⟩ := h2
  exact q_at h1 (q_step_run hs (by unfold wantL; exact hw) (by unfold okOp at hk; exact hk) (fun w' hb => by rw [exec_mk]; exact hr w' hb) fun a' hs' => h a' (hs'.rms ds))
theorem q_call (hs : Slots a n L) (ho : opAt ops i = some (op, ty, dst, g)) {f : FuncId} {args : Array Value} {v : Value}
     (hc : ∀ w', Below w.heap.size w w' → Calls P f args w' fun e w'' => e = .returned v ∧ Below w.heap.size w w'')
    (ds : List Nat) (h : ∀ a', Slots a' n (rms ds (putL n dst v L)) → wq P ops w Qa (ops.toList.drop (i + 1)) a') (he : pv P (execOp (evD L) (mkO op ty)) = some (.enter f args) := by kernel_rfl) (hw : wantG ops L g = some true := by kernel_rfl) (hk : okOp L op = true := by kernel_rfl) : wq P ops w Qa (ops.toList.drop i) a := by
  obtain ⟨o, h1, h2⟩ := Option.map_eq_some_iff.1 ho
  simp only [Prod.mk.injEq] at h2
  obtain ⟨rfl, rfl, rfl, rfl⟩ := h2
  exact q_at h1 (q_step_call hs (by unfold wantL; exact hw) (by unfold okOp at hk; exact hk) (by rw [exec_mk]; exact he) hc fun a' hs' => h a' (hs'.rms ds))
/-- Behind a call, in whatever way. -/
theorem below_st {w1 w2 : World} (hb : Below w.heap.size w w1) (h : St [] w1 w2 As) : Below w.heap.size w w2 := hb.trans (h.below.mono hb.size)
end
end Go.Proofs.Ytheccnbamcdpmaa.E
