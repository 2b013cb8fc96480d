/- The engine's words, third part: rows that are read, rows of the call's own, and the operations upon them. No condition. -/
import Derived.Test.YtheccnbamcdpmaaE2
namespace Go.Proofs.Ytheccnbamcdpmaa.E
open Go Go.RowKit

/-! ### how elements lie in cells -/
structure Enc (α : Type) where
  sz : Nat
  enc : α → List Value
  d : α
  pos : 0 < sz
  len : ∀ x, (enc x).length = sz
  one : ∀ x, ∀ u ∈ enc x, u.oneCell' = true
def eI (k : IntKind) : Enc Int := ⟨1, fun x => [.int k x], 0, Nat.one_pos, fun _ => rfl, fun x u hu => by rw [List.mem_singleton.1 hu]; rfl⟩
def eB : Enc Bool := ⟨1, fun x => [.bool x], false, Nat.one_pos, fun _ => rfl, fun x u hu => by rw [List.mem_singleton.1 hu]; rfl⟩
def eS : Enc ByteArray := ⟨1, fun x => [.string x], ⟨#[]⟩, Nat.one_pos, fun _ => rfl, fun x u hu => by rw [List.mem_singleton.1 hu]; rfl⟩
/-- Element i. -/
def ix {α : Type} (d : α) (l : List α) (i : Int) : α := l.getD i.toNat d
theorem ix_some {α : Type} {d : α} {l : List α} {i : Int} (h0 : 0 ≤ i) (h1 : i < (l.length : Int)) : l[i.toNat]? = some (ix d l i) := by
  have : i.toNat < l.length := by omega
  simp [ix, this]
section
variable {α : Type} {E : Enc α}
theorem flat_len (l : List α) : (l.flatMap E.enc).length = l.length * E.sz := by
  induction l with
  | nil => simp
  | cons x r ih => simp only [List.flatMap_cons, List.length_append, ih, E.len, List.length_cons, Nat.add_mul, Nat.one_mul]; omega
theorem flat_get {l : List α} : ∀ {i : Nat} {x : α}, l[i]? = some x → ∀ {j : Nat}, j < E.sz → (l.flatMap E.enc)[i * E.sz + j]? = (E.enc x)[j]? := by
  induction l with
  | nil => intro i x h; cases h
  | cons y r ih =>
    intro i x h j hj
    cases i with
    | zero =>
      simp at h
      subst h
      rw [List.flatMap_cons, Nat.zero_mul, Nat.zero_add, List.getElem?_append_left (by rw [E.len]; exact hj)]
    | succ i =>
      simp at h
      rw [List.flatMap_cons, List.getElem?_append_right (by rw [E.len, Nat.add_mul, Nat.one_mul]; omega), E.len]
      rw [show (i + 1) * E.sz + j - E.sz = i * E.sz + j by rw [Nat.add_mul, Nat.one_mul]; omega]
      exact ih h hj
theorem flat_set {l : List α} : ∀ {i : Nat} {x y : α}, l[i]? = some x → ∀ {j : Nat} {vs : List Value}, j + vs.length ≤ E.sz → E.enc y = (E.enc x).take j ++ vs ++ (E.enc x).drop (j + vs.length) →
    (l.set i y).flatMap E.enc = (l.flatMap E.enc).take (i * E.sz + j) ++ vs ++ (l.flatMap E.enc).drop (i * E.sz + j + vs.length) := by
  induction l with
  | nil => intro i x y h; cases h
  | cons z r ih =>
    intro i x y h j vs hj he
    cases i with
    | zero =>
      simp at h
      subst h
      have hl := E.len z
      simp only [List.set_cons_zero, List.flatMap_cons, Nat.zero_mul, Nat.zero_add]
      rw [List.take_append_of_le_length (by omega), List.drop_append_of_le_length (by omega), he]
      simp only [List.append_assoc]
    | succ i =>
      simp at h
      have hl := E.len z
      simp only [List.set_cons_succ, List.flatMap_cons]
      rw [ih h hj he, show (i + 1) * E.sz + j = (E.enc z).length + (i * E.sz + j) by rw [hl, Nat.add_mul, Nat.one_mul]; omega]
      rw [List.take_length_add_append, Nat.add_assoc (E.enc z).length, List.drop_length_add_append]
      simp only [List.append_assoc]
theorem flat_one (l : List α) : ∀ u ∈ l.flatMap E.enc, u.oneCell' = true := by
  intro u hu
  obtain ⟨x, _, hx⟩ := List.mem_flatMap.1 hu
  exact E.one x u hx
end

/-! ### a row that is read -/
def Rd {α : Type} (w : World) (E : Enc α) (A : Option Addr) (cap : Nat) (l : List α) : Prop :=
  l.length ≤ cap ∧ ∀ i x, l[i]? = some x → ∃ a, A = some a ∧ ∀ j u, (E.enc x)[j]? = some u → w.cell? (a.add (i * E.sz + j)) = some u
section
variable {α : Type} {E : Enc α} {G : List Nat} {w0 w w' : World} {A : Option Addr} {cap : Nat} {l : List α} {As : List Asn}
theorem Rd.nil (w : World) (E : Enc α) : Rd w E none 0 [] := ⟨Nat.le_refl _, by intro i x h; cases h⟩
theorem add_block' (a : Addr) (n : Nat) : (a.add n).block = a.block := by unfold Addr.add; split <;> rfl
theorem add_add' (a : Addr) (m n : Nat) : (a.add m).add n = a.add (m + n) := by
  unfold Addr.add
  by_cases hm : m = 0
  · subst hm; simp
  · by_cases hn : n = 0
    · subst hn; simp
    · simp [hm, hn, Nat.add_assoc]
theorem Rd.lt (h : Rd w E A cap l) {a : Addr} (ha : A = some a) (hl : l ≠ []) : a.block < w.heap.size := by
  cases l with
  | nil => exact absurd rfl hl
  | cons x r =>
    obtain ⟨b, hb, hc⟩ := h.2 0 x rfl
    have hab : b = a := Option.some.inj (hb.symm.trans ha)
    subst hab
    have hpos := E.pos
    have hlen := E.len x
    have h0 := hc 0 ((E.enc x)[0]'(by omega)) (List.getElem?_eq_getElem _)
    have := World.block_lt_of_cell? w _ h0
    rwa [add_block'] at this
/-- The row's block stays. -/
theorem Rd.move (h : Rd w E A cap l) (hb : ∀ a, A = some a → l ≠ [] → w'.heap[a.block]? = w.heap[a.block]?) : Rd w' E A cap l := by
  refine ⟨h.1, fun i x hi => ?_⟩
  obtain ⟨a, ha, hc⟩ := h.2 i x hi
  refine ⟨a, ha, fun j u hj => ?_⟩
  rw [World.cell?_of_block (w := w) (by rw [add_block']; exact hb a ha (by rintro rfl; cases hi))]
  exact hc j u hj
theorem Rd.below (h : Rd w E A cap l) (hb : Below w.heap.size w w') : Rd w' E A cap l := h.move fun a ha hl => hb.block a.block (h.lt ha hl)
/-- What was there when the call began is there. -/
theorem Rd.old (h : Rd w0 E A cap l) (hs : St [] w0 w As) : Rd w E A cap l := h.below hs.below
theorem Rd.oldG (h : Rd w0 E A cap l) (hs : St G w0 w As) (hg : ∀ a, A = some a → l ≠ [] → a.block ∉ G) : Rd w E A cap l := h.move fun a ha hl => hs.block (h.lt ha hl) (hg a ha hl)
theorem Rd.at (h : Rd w E A cap l) {i : Int} (h0 : 0 ≤ i) (h1 : i < (l.length : Int)) : ∃ a, A = some a ∧ ∀ j u, (E.enc (ix E.d l i))[j]? = some u → w.cell? (a.add (i.toNat * E.sz + j)) = some u := h.2 _ _ (ix_some h0 h1)
/-- l[lo:hi] begins here. -/
def cutA (A : Option Addr) (cap lo sz : Nat) : Option Addr := if cap = lo then A else A.map (·.add (lo * sz))
theorem Rd.cut (h : Rd w E A cap l) {lo hi : Nat} : Rd w E (cutA A cap lo E.sz) (cap - lo) ((l.take hi).drop lo) := by
  refine ⟨by have := h.1; simp only [List.length_drop, List.length_take]; omega, fun i x hi' => ?_⟩
  have hx : l[lo + i]? = some x := by
    simp only [List.getElem?_drop, List.getElem?_take] at hi'
    split at hi'
    · exact hi'
    · cases hi'
  have hlt : lo + i < l.length := (List.getElem?_eq_some_iff.1 hx).1
  obtain ⟨a, ha, hc⟩ := h.2 _ _ hx
  have hne : cap ≠ lo := by have := h.1; omega
  refine ⟨a.add (lo * E.sz), by simp [cutA, hne, ha], fun j u hj => ?_⟩
  rw [add_add', ← Nat.add_assoc, ← Nat.add_mul]
  exact hc j u hj

/-! ### a row of the call's own -/
def own {α : Type} (T : TypeId) (E : Enc α) (A : Option Addr) (cap : Nat) (l : List α) : Asn := fun L =>
  (A = none ∧ cap = 0 ∧ l = [] ∧ L = []) ∨
  ∃ g cur, A = some ⟨g, 0, none⟩ ∧ l.length ≤ cap ∧ cap ≤ maxLen ∧ cap * E.sz ≤ cur.size ∧ cur.toList.take (l.length * E.sz) = l.flatMap E.enc ∧ L = [(g, .cells cur T (0, 0))]
variable {T : TypeId}
theorem St.own_nil (h : St G w0 w As) (T : TypeId) (E : Enc α) : St G w0 w (own T E none 0 [] :: As) := by
  obtain ⟨L, hc, hs⟩ := h
  exact ⟨L, ⟨[], L, rfl, .inl ⟨rfl, rfl, rfl, rfl⟩, hc⟩, hs⟩
theorem take_get {cur : List Value} {n : Nat} {cs : List Value} (h : cur.take n = cs) {i : Nat} {u : Value} (hi : cs[i]? = some u) : cur[i]? = some u := by
  rw [← h, List.getElem?_take] at hi
  split at hi
  · exact hi
  · cases hi
theorem add_zero_addr (g n : Nat) : (⟨g, 0, none⟩ : Addr).add n = ⟨g, n, none⟩ := by unfold Addr.add; split <;> simp_all
theorem Rd.of_own (h : St G w0 w (own T E A cap l :: As)) : Rd w E A cap l := by
  obtain ⟨L, ⟨L1, L2, rfl, ha, hr⟩, hs⟩ := h
  rcases ha with ⟨rfl, rfl, rfl, rfl⟩ | ⟨g, cur, rfl, h1, h2, h3, h4, rfl⟩
  · exact Rd.nil w E
  · have hh : w.heap[g]? = some (.cells cur T (0, 0)) := hs.here (g, .cells cur T (0, 0)) (by simp)
    refine ⟨h1, fun i x hi => ⟨_, rfl, fun j u hj => ?_⟩⟩
    have hjlt : j < E.sz := by rw [← E.len x]; exact (List.getElem?_eq_some_iff.1 hj).1
    rw [add_zero_addr, cell_of_row w g _ cur T (0, 0) hh]
    have := take_get h4 ((flat_get (E := E) hi hjlt).trans hj)
    simpa using this
theorem St.own_cap (h : St G w0 w (own T E A cap l :: As)) : l.length ≤ cap := (Rd.of_own h).1

/-! ### operations: by number -/
/-- What is asked of operation number i. -/
def opAt (ops : Array Oper) (i : Nat) : Option (Op × TypeId × Option Tmp × Option (Nat × Bool)) := (ops.toList[i]?).map fun o => (o.op, o.type, o.dst, o.guard)
def wantG (ops : Array Oper) (L : SL) (g : Option (Nat × Bool)) : Option Bool := match g with
  | none => some true
  | some (j, b) => match (ops[j]?).bind (·.dst) with
    | none => none
    | some d => match lk d L with
      | some (.bool c) => some (c == b)
      | some (.tuple _) => some false
      | _ => none
def mkO (op : Op) (ty : TypeId) : Oper := ⟨none, op, ty, "", #[], none⟩
def okOp (L : SL) (op : Op) : Bool := known L op.operands.toList && noSel (mkO op 0)
theorem exec_mk (ρ : Operand → Value) (o : Oper) : execOp ρ o = execOp ρ (mkO o.op o.type) := by
  unfold execOp mkO
  rfl
section
variable {P : Program} {ops : Array Oper} {Q : Exit → Act → World → Prop} {a : Act} {n : Nat} {L L' : SL} {i : Nat} {op : Op} {ty : TypeId} {dst : Option Tmp} {g : Option (Nat × Bool)}
/-- Operation i runs to a value. -/
theorem go_run (hs : Slots a n L) (ho : opAt ops i = some (op, ty, dst, g)){v : Value}
    (hr : (execOp (evD L) (mkO op ty)).run P w = .ok (.value v) w') (ds : List Nat) (h : ∀ a', Slots a' n (rms ds (putL n dst v L)) → wpList P ops Q (ops.toList.drop (i + 1)) a' w') (hw : wantG ops L g = some true := by kernel_rfl) (hk : okOp L op = true := by kernel_rfl) : wpList P ops Q (ops.toList.drop i) a w := by
  obtain ⟨o, h1, h2⟩ := Option.map_eq_some_iff.1 ho
  simp only [Prod.mk.injEq] at h2
  obtain ⟨rfl, rfl, rfl, rfl⟩ := h2
  refine go_at h1 (step_run hs (by unfold wantL; exact hw) (by unfold okOp at hk; exact hk) (by rw [exec_mk]; exact hr) fun a' hs' => h a' (hs'.rms ds))
/-- Operation i runs and leaves no value. -/
theorem go_unit (hs : Slots a n L) (ho : opAt ops i = some (op, ty, dst, g)) 
    (hr : (execOp (evD L) (mkO op ty)).run P w = .ok .skip w') (ds : List Nat) (h : ∀ a', Slots a' n (rms ds (putL n dst undef L)) → wpList P ops Q (ops.toList.drop (i + 1)) a' w') (hw : wantG ops L g = some true := by kernel_rfl) (hk : okOp L op = true := by kernel_rfl) : wpList P ops Q (ops.toList.drop i) a w := by
  obtain ⟨o, h1, h2⟩ := Option.map_eq_some_iff.1 ho
  simp only [Prod.mk.injEq] at h2
  obtain ⟨rfl, rfl, rfl, rfl⟩ := h2
  refine go_at h1 (step_unit hs (by unfold wantL; exact hw) (by unfold okOp at hk; exact hk) (by rw [exec_mk]; exact hr) fun a' hs' => h a' (hs'.rms ds))
/-- Operation i is a call. -/
theorem go_call (hs : Slots a n L) (ho : opAt ops i = some (op, ty, dst, g)) {f : FuncId} {args : Array Value}
     {R : Ending → World → Prop} (hc : Calls P f args w R)
    (h : ∀ e w', R e w' → ∃ v, e = .returned v ∧ ∀ a', Slots a' n (putL n dst v L) → wpList P ops Q (ops.toList.drop (i + 1)) a' w') (he : pv P (execOp (evD L) (mkO op ty)) = some (.enter f args) := by kernel_rfl) (hw : wantG ops L g = some true := by kernel_rfl) (hk : okOp L op = true := by kernel_rfl) : wpList P ops Q (ops.toList.drop i) a w := by
  obtain ⟨o, h1, h2⟩ := Option.map_eq_some_iff.1 ho
  simp only [Prod.mk.injEq] at h2
  obtain ⟨rfl, rfl, rfl, rfl⟩ := h2
  refine go_at h1 (step_call hs (by unfold wantL; exact hw) (by unfold okOp at hk; exact hk) (by rw [exec_mk]; exact he) hc h)
end

/-! ### what they run to -/
section
variable {P : Program} {L : SL}
theorem run_v {s : Sem Value} {v : Value} (h : s.run P w = .ok v w') : (do pure (Next.value (← s)) : Sem Next).run P w = .ok (.value v) w' := by
  simp [h]
theorem run_u {s : Sem Unit} (h : s.run P w = .ok () w') : (do s; pure Next.skip : Sem Next).run P w = .ok .skip w' := by
  simp [h]
/-- A load of one cell. -/
theorem x_load {t : TypeId} {x : Operand} {ty : TypeId} {p : Addr} {v : Value} (hx : evD L x = .pointer (some p)) (hu : (P.underlying t).map (·.isRow) = some false) (hc : w.cell? p = some v) :
    (execOp (evD L) (mkO (.load t x) ty)).run P w = .ok (.value v) w := by
  refine run_v ?_
  show (Instr.loadAt t (evD L x)).run P w = _
  obtain ⟨d, hu, hd⟩ := Option.map_eq_some_iff.1 hu
  have hagg : (isAgg t).run P w = .ok false w := by
    unfold isAgg
    rw [Sem.run_bind, run_underlying hu w]
    cases d <;> simp_all
  rw [hx]
  simp [Instr.loadAt, Instr.sureAddr, loadVar, Sem.run_bind, hagg, hc]
/-- A load of a row of cells. -/
theorem x_loads {t : TypeId} {x : Operand} {ty : TypeId} {p : Addr} {cs : List Value} (hx : evD L x = .pointer (some p)) (hu : (P.underlying t).map (·.isRow) = some true)
    (hi : (P.info? t).map (·.size) = some cs.length) (hc : ∀ j u, cs[j]? = some u → w.cell? (p.add j) = some u) :
    (execOp (evD L) (mkO (.load t x) ty)).run P w = .ok (.value (.agg cs.toArray)) w := by
  refine run_v ?_
  show (Instr.loadAt t (evD L x)).run P w = _
  obtain ⟨d, hu, hd⟩ := Option.map_eq_some_iff.1 hu
  have hagg : (isAgg t).run P w = .ok true w := by
    unfold isAgg
    rw [Sem.run_bind, run_underlying hu w]
    cases d <;> simp_all
  have hl := run_loadCells_list (P := P) w p cs hc
  cases hq : P.info? t with
  | none => simp [hq] at hi
  | some inf =>
    have hs : inf.size = cs.length := by simpa [hq] using hi
    rw [hx]
    simp [Instr.loadAt, Instr.sureAddr, loadVar, Sem.run_bind, hagg, sizeOf, typeInfo, hq, hs, hl]
/-- A store. -/
theorem x_store {t : TypeId} {x y : Operand} {ty : TypeId} {gb o : Nat} {T : TypeId} {cur : Array Value} {v : Value} {vs : List Value} (hx : evD L x = .pointer (some ⟨gb, o, none⟩)) (hy : evD L y = v) (hv : v.cells.toList = vs)
    (hi : (P.info? t).map (·.size) = some vs.length) (hh : w.heap[gb]? = some (.cells cur T (0, 0))) (hfit : o + vs.length ≤ cur.size) (h1 : ∀ u ∈ vs, u.oneCell' = true) :
    (execOp (evD L) (mkO (.store t x y) ty)).run P w = .ok .skip (w.setRow gb (cur.toList.take o ++ vs ++ cur.toList.drop (o + vs.length)).toArray) := by
  refine run_u ?_
  show (Instr.storeAt t (evD L x) (evD L y)).run P w = _
  have hst := run_storeCells_at P gb o T vs 0 cur w hh (by simpa using hfit) h1
  simp only [Nat.add_zero] at hst
  cases hq : P.info? t with
  | none => simp [hq] at hi
  | some inf =>
    have hs : v.cells.size = inf.size := by rw [← Array.length_toList, hv]; simp [hq] at hi; omega
    rw [hx, hy]
    simp [Instr.storeAt, Instr.sureAddr, storeVar, Sem.run_bind, sizeOf, typeInfo, hq, hs, hv, hst]
end
end
end Go.Proofs.Ytheccnbamcdpmaa.E
