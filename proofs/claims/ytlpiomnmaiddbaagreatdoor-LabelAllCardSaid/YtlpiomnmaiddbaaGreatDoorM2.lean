/- The engine, the walk and the plain law, part 2. No condition. -/
import Derived.Test.YtlpiomnmaiddbaaGreatDoorM1
import Derived.Scope
import Derived.Laws.BytesArg
import Derived.Laws.CopyRow
import Derived.Maps.AppendAt
namespace Go.Proofs.YtlpiomnmaiddbaaGreatDoor.E
set_option linter.unusedVariables false
set_option linter.unusedSimpArgs false
open Go Go.RowKit
section
variable {P : Program} {ev : Operand → Value} {α : Type} {E : Enc α} {G : List Nat} {w0 w w' : World} {A : Option Addr} {cap : Nat} {l : List α} {As : List Asn} {T : TypeId}

/-- An element of an own row, or a part of it, is stored. -/
theorem x_put {t : TypeId} {x y : Operand} {ty : TypeId} {v : Value} {vs : List Value} {i : Int} {off : Nat} {a p : Addr} {e' : α} (hst : St G w0 w (own T E A cap l :: As)) (ha : A = some a) (h0 : 0 ≤ i) (h1 : i < (l.length : Int))
    (hx : ev x = .pointer (some p)) (hp : p = a.add (i.toNat * E.sz + off)) (hy : ev y = v) (hv : v.cells.toList = vs)
    (hi : (P.info? t).map (·.size) = some vs.length) (hfit : off + vs.length ≤ E.sz) (hone : ∀ u ∈ vs, u.oneCell' = true)
    (he : E.enc e' = (E.enc (ix E.d l i)).take off ++ vs ++ (E.enc (ix E.d l i)).drop (off + vs.length)) :
    ∃ w', (execOp ev (mkO (.store t x y) ty)).run P w = .ok .skip w' ∧ St G w0 w' (own T E A cap (l.set i.toNat e') :: As) := by
  obtain ⟨LL, ⟨L1, L2, rfl, ho, hr⟩, hs⟩ := hst
  rcases ho with ⟨rfl, _⟩ | ⟨g, b0, cur, rfl, h2, h3, h4, h5, rfl⟩
  · cases ha
  · have hh : w.heap[g]? = some (.cells cur T (0, 0)) := hs.here (g, .cells cur T (0, 0)) (by simp)
    have ha : a = ⟨g, b0, none⟩ := (Option.some.inj ha).symm
    subst ha
    rw [hp, badd] at hx
    have hge := ix_some (d := E.d) h0 h1
    have hilt : i.toNat < l.length := by omega
    have hmul : i.toNat * E.sz + E.sz ≤ l.length * E.sz := by
      rw [← Nat.succ_mul]; exact Nat.mul_le_mul_right _ hilt
    have hcapm : l.length * E.sz ≤ cap * E.sz := Nat.mul_le_mul_right _ h2
    refine ⟨_, x_store hx hy hv hi hh (by omega) hone, ?_⟩
    refine ⟨_, ⟨[_], L2, rfl, .inr ⟨g, b0, _, rfl, by simpa using h2, h3, ?_, ?_, rfl⟩, hr⟩, hs.setRow⟩
    · simp; omega
    · have hf := flat_set (E := E) hge hfit he
      rw [List.length_set, hf]
      exact row_put h5 (by have hcl : cur.toList.length = cur.size := Array.length_toList; omega) (by omega)

theorem toList_zero (z : Array Value) (n : Nat) : (Builtin.zeroCells z n).size = n * z.size := size_zeroCells z n
/-- Onto an own row (or nil), from whatever source. -/
theorem x_append {t tx : TypeId} {x y : Operand} {ty : TypeId} {z : Value} {bytes : Nat} {l2 : List α} {xv : Value} (hst : St G w0 w (own T E A cap l :: As))
    (ht : P.underlying t = some (.slice T)) (hinfo : (P.info? T).map (fun i => (i.zero, i.size, i.bytes)) = some (some z, E.sz, bytes)) (hz : z.cells.size = E.sz)
    (hx : ev x = .slice A l.length cap) (hy : ev y = xv) (hsrc : Src P E.sz tx xv l2.length (l2.flatMap E.enc) w)
    (hlim : (l.length + l2.length) * bytes ≤ 140737488355328) (hmax : l.length + l2.length ≤ 4611686018427387904) :
    ∃ A' cap' w', (execOp ev (mkO (.call { callee := .builtin .append, args := #[x, y], argTypes := #[t, tx] }) ty)).run P w = .ok (.value (.slice A' (l ++ l2).length cap')) w' ∧ St G w0 w' (own T E A' cap' (l ++ l2) :: As) := by
  obtain ⟨inf, hi, hzz, hsz, hby⟩ := info_parts hinfo
  obtain ⟨LL, ⟨L1, L2, rfl, ho, hr⟩, hs⟩ := hst
  have hlen2 := flat_len (E := E) l2
  have hlen : (l ++ l2).length = l.length + l2.length := List.length_append
  have hrun : ∀ {v w'}, (Builtin.append_ #[t, tx] ty #[.slice A l.length cap, xv]).run P w = .ok v w' →
      (execOp ev (mkO (.call { callee := .builtin .append, args := #[x, y], argTypes := #[t, tx] }) ty)).run P w = .ok (.value v) w' := by
    intro v w' h
    unfold execOp mkO
    simp only [resolve, invoke, builtin, Sem.run_bind, Sem.run_pure, Result.andThen_ok, List.map_toArray, List.map_cons, List.map_nil, hx, hy, h]
  have hsrc' : Src P inf.size tx xv l2.length (l2.flatMap E.enc) w := hsz ▸ hsrc
  by_cases hroom : l.length + l2.length ≤ cap
  · rcases ho with ⟨rfl, rfl, rfl, rfl⟩ | ⟨g, b0, cur, rfl, h2, h3, h4, h5, rfl⟩
    · -- nil, and nothing to append
      have h0 : l2 = [] := by
        cases l2 with
        | nil => rfl
        | cons _ _ => simp at hroom
      subst h0
      refine ⟨none, 0, w, hrun ?_, L2, ⟨[], L2, rfl, .inl ⟨rfl, rfl, rfl, rfl⟩, hr⟩, hs⟩
      have hc0 : (Builtin.firstCells inf.size 0 xv).run P w = .ok #[] w := by simpa using hsrc'.cells
      have hl0 : ∀ w' : World, (Builtin.lenOf xv).run P w' = .ok 0 w' := by simpa using hsrc'.len
      rcases hsrc'.kind with ⟨e', hk⟩ | hk <;> simp [Builtin.append_, run_underlying ht, run_underlying hk, sizeOf, typeInfo, hi, hl0, hc0]
    · have hh : w.heap[g]? = some (.cells cur T (0, 0)) := hs.here (g, .cells cur T (0, 0)) (by simp)
      have hmul : (l.length + l2.length) * E.sz ≤ cap * E.sz := Nat.mul_le_mul_right _ hroom
      rw [Nat.add_mul] at hmul
      have hst := run_storeCells_at P g (b0 + l.length * inf.size) T (l2.flatMap E.enc) 0 cur w hh (by rw [hsz]; simp only [Nat.add_zero]; omega) (flat_one l2)
      simp only [Nat.add_zero] at hst
      refine ⟨some ⟨g, b0, none⟩, cap, w.setRow g (cur.toList.take (b0 + l.length * inf.size) ++ (l2.flatMap E.enc) ++ cur.toList.drop (b0 + l.length * inf.size + (l2.flatMap E.enc).length)).toArray, hrun ?_, ?_⟩
      · rw [hlen]
        rcases hsrc'.kind with ⟨e', hk⟩ | hk <;> simp [Builtin.append_, run_underlying ht, run_underlying hk, sizeOf, typeInfo, hi, hsrc'.len, hroom, hsrc'.cells, Addr.add_lit, hst]
      · refine ⟨_, ⟨[_], L2, rfl, .inr ⟨g, b0, _, rfl, by omega, h3, ?_, ?_, rfl⟩, hr⟩, hs.setRow⟩
        · simp only [List.size_toArray, List.length_append, List.length_take, List.length_drop, Array.length_toList, hsz]; omega
        · rw [hlen, List.flatMap_append, hsz]
          exact row_app h5 (by have hcl : cur.toList.length = cur.size := Array.length_toList; omega) (by rw [hlen2, Nat.add_mul])
  · -- a new row
    have hg : cap < l.length + l2.length := by omega
    have hold : (Builtin.firstCells inf.size l.length (.slice A l.length cap)).run P w.drew = .ok (l.flatMap E.enc).toArray w.drew := by
      rcases ho with ⟨rfl, rfl, rfl, rfl⟩ | ⟨g, b0, cur, rfl, h2, h3, h4, h5, rfl⟩
      · simp [Builtin.firstCells]
      · have hh : w.heap[g]? = some (.cells cur T (0, 0)) := hs.here (g, .cells cur T (0, 0)) (by simp)
        refine run_firstCells_some w.drew inf.size l.length _ _ _ _ (by rw [hsz]; exact flat_len l) fun j u hj => ?_
        show w.cell? _ = _
        rw [badd, cell_of_row w g _ cur T (0, 0) hh]
        have := take_get h5 hj
        simpa using this

    have hgrow := run_append_grow_src (P := P) w t tx ty T inf z ht hi hzz A l.length cap (l.flatMap E.enc) hold xv l2.length (l2.flatMap E.enc) hsrc' hg (by omega) (growslice_fits hg (by rw [hby]; exact hlim))
    have hge := grownCap_ge w (l.length + l2.length) cap T
    have hcm : grownCap w (l.length + l2.length) cap T ≤ maxLen := grownCap_le_maxLen w _ cap T (by simp only [maxLen]; omega)
    refine ⟨some ⟨w.heap.size, 0, none⟩, grownCap w (l.length + l2.length) cap T, _, hrun (by rw [hlen]; exact hgrow), ?_⟩
    have hdrew : StB G w0 w.drew (L1 ++ L2) := hs.same rfl rfl rfl (Nat.le_refl _) fun _ _ => rfl
    have hal := (hdrew.sub (List.sublist_append_right L1 L2)).alloc (.cells ((l.flatMap E.enc ++ l2.flatMap E.enc).toArray ++ Builtin.zeroCells z.cells (grownCap w (l.length + l2.length) cap T - (l.length + l2.length))) T)
    refine ⟨_, ⟨[_], L2, rfl, .inr ⟨w.heap.size, 0, _, rfl, by omega, hcm, ?_, ?_, rfl⟩, hr⟩, hal⟩
    · have hfl := flat_len (E := E) l
      simp only [Nat.zero_add, Array.size_append, List.size_toArray, List.length_append, size_zeroCells, hz, hlen2, hfl, ← Nat.add_mul]
      exact Nat.mul_le_mul_right _ (by omega)
    · rw [hlen, List.flatMap_append]
      have hfl := flat_len (E := E) l
      simp only [Array.toList_append, List.drop_zero]
      rw [List.take_append_of_le_length (by simp only [List.length_append, Nat.add_mul]; omega)]
      exact List.take_of_length_le (by simp only [List.length_append, Nat.add_mul]; omega)

theorem Src.of_rd {t e' : TypeId} (hk : P.underlying t = some (.slice e')) (h : Rd w E A cap l) : Src P E.sz t (.slice A l.length cap) l.length (l.flatMap E.enc) w := by
  cases l with
  | nil =>
    have hs : ∀ w' : World, (Builtin.firstCells E.sz 0 (.slice A 0 cap)).run P w' = .ok #[] w' := by
      intro w'
      cases A with
      | none => simp [Builtin.firstCells]
      | some a => simp [Builtin.firstCells, loadCells, loadCellsFrom]
    exact ⟨.inl ⟨e', hk⟩, fun _ => rfl, by simpa using hs w, by simpa using hs w.drew, by simp, fun _ h => by cases h⟩
  | cons x r =>
    obtain ⟨a, ha, _⟩ := h.2 0 x rfl
    subst ha
    refine Src.ofSlice w hk a _ cap _ (flat_len (E := E) (x :: r)) (fun j u hj => ?_) (flat_one (x :: r))
    have hjl : j < (x :: r).length * E.sz := by rw [← flat_len (E := E)]; exact (List.getElem?_eq_some_iff.1 hj).1
    have hdm := Nat.div_add_mod j E.sz
    have hmod := Nat.mod_lt j E.pos
    have hdiv : j / E.sz < (x :: r).length := Nat.div_lt_of_lt_mul (by rw [Nat.mul_comm]; exact hjl)
    obtain ⟨b, hb, hc⟩ := h.2 (j / E.sz) ((x :: r)[j / E.sz]'hdiv) (List.getElem?_eq_getElem hdiv)
    cases hb
    have hf := flat_get (E := E) (List.getElem?_eq_getElem hdiv) hmod
    rw [show j / E.sz * E.sz + j % E.sz = j by rw [Nat.mul_comm]; exact hdm] at hf
    have := hc (j % E.sz) u (hf.symm.trans hj)
    rwa [show j / E.sz * E.sz + j % E.sz = j by rw [Nat.mul_comm]; exact hdm] at this

/-- A variable in memory. -/
theorem x_box {elem : TypeId} {v : Operand} {ty : TypeId} {cs : List Value} (hst : St G w0 w As) (hv : (ev v).cells.toList = cs) :
    ∃ w', (execOp ev (mkO (.box elem v) ty)).run P w = .ok (.value (.pointer (some ⟨w.heap.size, 0, none⟩))) w' ∧ St G w0 w' (box w.heap.size elem cs :: As) := by
  refine ⟨_, ?_, hst.alloc elem cs⟩
  refine run_v ?_
  show (Instr.box elem (ev v)).run P w = _
  have : (ev v).cells = cs.toArray := by rw [← hv]
  simp [Instr.box, newVar, newRow, this]
theorem x_alloc {elem : TypeId} {ty : TypeId} {z : Value} {cs : List Value} (hst : St G w0 w As) (hz : (P.info? elem).map (·.zero) = some (some z)) (hv : z.cells.toList = cs) :
    ∃ w', (execOp ev (mkO (.alloc elem) ty)).run P w = .ok (.value (.pointer (some ⟨w.heap.size, 0, none⟩))) w' ∧ St G w0 w' (box w.heap.size elem cs :: As) := by
  refine ⟨_, ?_, hst.alloc elem cs⟩
  refine run_v ?_
  show (Instr.alloc elem true (.tuple #[])).run P w = _
  obtain ⟨inf, hi, hzz⟩ := Option.map_eq_some_iff.1 hz
  have : z.cells = cs.toArray := by rw [← hv]
  simp [Instr.alloc, zeroValue, typeInfo, hi, hzz, newVar, newRow, this]
theorem own_new (hst : St G w0 w As) (T : TypeId) (E : Enc α) (l : List α) (cur : Array Value) (hcur : cur.toList = l.flatMap E.enc) (hmax : l.length ≤ maxLen) :
    St G w0 (w.alloc (.cells cur T (0, 0))) (own T E (some ⟨w.heap.size, 0, none⟩) l.length l :: As) := by
  obtain ⟨LL, hc, hs⟩ := hst
  refine ⟨_, ⟨[_], LL, rfl, .inr ⟨w.heap.size, 0, cur, rfl, Nat.le_refl _, hmax, ?_, ?_, rfl⟩, hc⟩, hs.alloc _⟩
  · rw [← Array.length_toList, hcur, flat_len, Nat.zero_add]; exact Nat.le_refl _
  · rw [hcur, List.drop_zero]; exact List.take_of_length_le (by rw [flat_len]; exact Nat.le_refl _)
/-- make([]T, n). -/
theorem x_make {t : TypeId} {x y : Operand} {ty : TypeId} {z : Value} {bytes : Nat} {n : Int} (hst : St G w0 w As) (ht : P.underlying t = some (.slice T))
    (hinfo : (P.info? T).map (fun i => (i.zero, i.size, i.bytes)) = some (some z, E.sz, bytes)) (hz : z.cells.toList = E.enc E.d)
    (hx : ev x = .int .i64 n) (hy : ev y = .int .i64 n) (h0 : 0 ≤ n) (hlim : (bytes : Int) * n ≤ 281474976710656) (hmax : n ≤ 4611686018427387904) :
    ∃ w', (execOp ev (mkO (.makeSlice t x y) ty)).run P w = .ok (.value (.slice (some ⟨w.heap.size, 0, none⟩) (List.replicate n.toNat E.d).length n.toNat)) w' ∧
      St G w0 w' (own T E (some ⟨w.heap.size, 0, none⟩) n.toNat (List.replicate n.toNat E.d) :: As) := by
  obtain ⟨inf, hi, hzz, hsz, hby⟩ := info_parts hinfo
  have hr := run_make (P := P) w t T inf z ht hi hzz .i64 .i64 n n h0 (Int.le_refl _) (by rw [hby]; exact hlim) (by omega)
  refine ⟨_, run_v (by show (Instr.makeSlice t (ev x) (ev y)).run P w = _; rw [hx, hy, List.length_replicate]; exact hr), ?_⟩
  have hcs : (madeCells z.cells (n.toNat * inf.size)).toList = (List.replicate n.toNat E.d).flatMap E.enc := by
    have hzl : z.cells.size = E.sz := by rw [← Array.length_toList, hz, E.len]
    apply List.ext_getElem?
    intro j
    by_cases hj : j < n.toNat * E.sz
    · have hdm := Nat.div_add_mod j E.sz
      have hmod := Nat.mod_lt j E.pos
      have hdiv : j / E.sz < n.toNat := Nat.div_lt_of_lt_mul (by rw [Nat.mul_comm]; exact hj)
      have hg : (List.replicate n.toNat E.d)[j / E.sz]? = some E.d := by simp [hdiv]
      have hf := flat_get (E := E) hg hmod
      rw [show j / E.sz * E.sz + j % E.sz = j by rw [Nat.mul_comm]; exact hdm] at hf
      rw [hf, ← hz]
      simp only [madeCells, hsz, hzl, Array.toList_map, Array.toList_range, List.getElem?_map, List.getElem?_range hj, Option.map_some, Array.getElem?_toList]
      rw [Array.getElem?_eq_getElem (by rw [hzl]; exact hmod), getElem!_pos z.cells (j % E.sz) (by rw [hzl]; exact hmod)]
    · rw [List.getElem?_eq_none (by simp [madeCells, hsz]; omega), List.getElem?_eq_none (by rw [flat_len, List.length_replicate]; omega)]
  have := own_new (E := E) hst T (List.replicate n.toNat E.d) _ hcs (by rw [List.length_replicate]; simp only [maxLen]; omega)
  rwa [List.length_replicate] at this
/-- A slice's literal, of the cells that the kernel lays. -/
theorem x_lit {t : TypeId} {len : Nat} {parts : Array (Nat × Operand)} {ty : TypeId} {z : Value} {bytes : Nat} (hst : St G w0 w As) (E : Enc α) (l : List α) {cells : Array Value} (ht : P.underlying t = some (.slice T))
    (hinfo : (P.info? T).map (fun i => (i.zero, i.size, i.bytes)) = some (some z, E.sz, bytes)) (hlen : Nat.ble (len * E.sz) 16777216 = true) (hlen0 : Nat.blt 0 len = true)
    (he : Instr.fill (fun i => some (i * E.sz, E.sz)) ((Array.range (len * E.sz)).map (z.cells[· % z.cells.size]!)) (parts.map fun (i, x) => (i, ev x)).toList = some cells) (hcur : cells.toList = l.flatMap E.enc) (hl : l.length = len) (hmax : l.length ≤ maxLen) :
    ∃ w', (execOp ev (mkO (.buildSlice t len parts) ty)).run P w = .ok (.value (.slice (some ⟨w.heap.size, 0, none⟩) l.length l.length)) w' ∧ St G w0 w' (own T E (some ⟨w.heap.size, 0, none⟩) l.length l :: As) := by
  obtain ⟨inf, hi, hzz, hsz, hby⟩ := info_parts hinfo
  refine ⟨_, run_v ?_, own_new hst T E l cells hcur hmax⟩
  rw [hl]
  have hlen := Nat.le_of_ble_eq_true hlen
  have hlen0 : 0 < len := by simpa [Nat.blt_eq] using hlen0
  show (Instr.buildSlice t len (parts.map fun (i, x) => (i, ev x))).run P w = _
  have h24 : ¬ (16777216 < len * E.sz) := by omega
  have h0 : ¬ len * E.sz = 0 := by
    intro h
    have := E.pos
    rcases Nat.mul_eq_zero.1 h with h | h <;> omega
  simp only [Instr.buildSlice, Sem.run_bind, run_underlying ht, Result.andThen_ok, sizeOf, typeInfo, run_program, hi, Sem.run_pure, hsz]
  have he2 := he
  simp only [Array.toList_map] at he2
  simp [h0, h24, he2, newRow, zeroValue, typeInfo, hi, hzz]
/-- An empty one. -/
theorem x_lit0 {t : TypeId} {ty : TypeId} (hst : St G w0 w As) (E : Enc α) (ht : P.underlying t = some (.slice T)) (hs : ((P.info? T).map (·.size)).isSome = true) :
    ∃ w', (execOp ev (mkO (.buildSlice t 0 #[]) ty)).run P w = .ok (.value (.slice (some ⟨w.heap.size, 0, none⟩) ([] : List α).length 0)) w' ∧ St G w0 w' (own T E (some ⟨w.heap.size, 0, none⟩) 0 ([] : List α) :: As) := by
  obtain ⟨sz, hsz⟩ := Option.isSome_iff_exists.1 hs
  obtain ⟨inf, hi, hsz⟩ := Option.map_eq_some_iff.1 hsz
  refine ⟨_, run_v ?_, own_new hst T E [] #[] rfl (Nat.zero_le _)⟩
  show (Instr.buildSlice t 0 (#[].map fun (i, x) => (i, ev x))).run P w = _
  simp [Instr.buildSlice, run_underlying ht, sizeOf, typeInfo, hi, Instr.fill, newRow, Array.range_zero']
end

section
variable {P : Program} {ev : Operand → Value} {α : Type} {E : Enc α} {w : World} {A : Option Addr} {cap : Nat} {l : List α} {T : TypeId}
theorem pelem {t : TypeId} (h : P.underlying t = some (.slice T)) : P.underlying t = some (.slice (P.elem t)) ∧ P.elem t = T := by
  have : P.elem t = T := by unfold Program.elem; rw [h]
  exact ⟨by rw [this]; exact h, this⟩
/-- An element's address. -/
theorem x_idx {t : TypeId} {x y : Operand} {ty : TypeId} {a : Addr} {n : Nat} {k : IntKind} {i : Int} {sz : Nat} 
 (hb : 0 ≤ i ∧ i < (n : Int)) (ht : P.underlying t = some (.slice T) := by kernel_rfl) (hs : (P.info? T).map (·.size) = some sz := by kernel_rfl) (hx : ev x = .slice (some a) n cap := by kernel_rfl) (hy : ev y = .int k i := by kernel_rfl) :
    (execOp ev (mkO (.indexAddr t x y) ty)).run P w = .ok (.value (.pointer (some (a.add (i.toNat * sz))))) w := by
  obtain ⟨h0, h1⟩ := hb
  refine run_v ?_
  show (Instr.indexAt t (ev x) (ev y)).run P w = _
  obtain ⟨inf, hi, hsz⟩ := Option.map_eq_some_iff.1 hs
  rw [hx, hy]
  simp [Instr.indexAt, asIntOf, run_underlying ht, h0, h1, sizeOf, typeInfo, hi, hsz]
/-- xs[:hi]. -/
theorem x_hi {t : TypeId} {x y : Operand} {ty : TypeId} {k : IntKind} {h : Int} (ht : P.underlying t = some (.slice T)) (hs : ((P.info? T).map (·.size)).isSome = true) (hl : l.length ≤ cap)
    (hx : ev x = .slice A l.length cap) (hy : ev y = .int k h) (h0 : 0 ≤ h) (h1 : h ≤ (l.length : Int)) :
    (execOp ev (mkO (.slice t x none (some y) none) ty)).run P w = .ok (.value (.slice A (l.take h.toNat).length cap)) w := by
  refine run_v ?_
  show (Instr.sliceAt t (ev x) none (some (ev y)) none).run P w = _
  obtain ⟨he, hT⟩ := pelem ht
  obtain ⟨sz, hsz⟩ := Option.isSome_iff_exists.1 hs
  obtain ⟨inf, hi, hsz⟩ := Option.map_eq_some_iff.1 hsz
  rw [run_sliceAt_slice w t _ _ _ _ he, hx, hy, run_slice_h w t A l.length cap he k h h0 (by omega)]
  have hlen : (l.take h.toNat).length = h.toNat := by rw [List.length_take]; omega
  rw [hT, hlen]
  simp [sizeOf, typeInfo, hi, sliced, Result.andThen]
  intro; cases A <;> simp [Addr.add]
/-- xs[lo:]. -/
theorem x_lo {t : TypeId} {x y : Operand} {ty : TypeId} {k : IntKind} {h : Int} (ht : P.underlying t = some (.slice T)) (hs : (P.info? T).map (·.size) = some E.sz)
    (hx : ev x = .slice A l.length cap) (hy : ev y = .int k h) (h0 : 0 ≤ h) (h1 : h ≤ (l.length : Int)) :
    (execOp ev (mkO (.slice t x (some y) none none) ty)).run P w = .ok (.value (.slice (cutA A cap h.toNat E.sz) (l.drop h.toNat).length (cap - h.toNat))) w := by
  refine run_v ?_
  show (Instr.sliceAt t (ev x) (some (ev y)) none none).run P w = _
  obtain ⟨he, hT⟩ := pelem ht
  obtain ⟨inf, hi, hsz⟩ := Option.map_eq_some_iff.1 hs
  rw [run_sliceAt_slice w t _ _ _ _ he, hx, hy, run_slice_l w t A l.length cap he k h h0 (by omega)]
  rw [hT, List.length_drop]
  simp [sizeOf, typeInfo, hi, hsz, sliced, Result.andThen, cutA]
/-- xs[lo:hi]. -/
theorem x_lohi {t : TypeId} {x y y' : Operand} {ty : TypeId} {k k' : IntKind} {l0 h : Int} (ht : P.underlying t = some (.slice T)) (hs : (P.info? T).map (·.size) = some E.sz) (hl : l.length ≤ cap)
    (hx : ev x = .slice A l.length cap) (hy : ev y = .int k l0) (hy' : ev y' = .int k' h) (h0 : 0 ≤ l0) (h1 : l0 ≤ h) (h2 : h ≤ (l.length : Int)) :
    (execOp ev (mkO (.slice t x (some y) (some y') none) ty)).run P w = .ok (.value (.slice (cutA A cap l0.toNat E.sz) ((l.take h.toNat).drop l0.toNat).length (cap - l0.toNat))) w := by
  refine run_v ?_
  show (Instr.sliceAt t (ev x) (some (ev y)) (some (ev y')) none).run P w = _
  obtain ⟨he, hT⟩ := pelem ht
  obtain ⟨inf, hi, hsz⟩ := Option.map_eq_some_iff.1 hs
  rw [run_sliceAt_slice w t _ _ _ _ he, hx, hy, hy', run_slice_lh w t A l.length cap he k k' l0 h h0 h1 (by omega)]
  have hlen : ((l.take h.toNat).drop l0.toNat).length = h.toNat - l0.toNat := by rw [List.length_drop, List.length_take]; omega
  rw [hT, hlen]
  simp [sizeOf, typeInfo, hi, hsz, sliced, Result.andThen, cutA]
theorem Rd.hi (h : Rd w E A cap l) (n : Nat) : Rd w E A cap (l.take n) := by
  refine ⟨by have := h.1; simp only [List.length_take]; omega, fun i x hi => h.2 i x ?_⟩
  rw [List.getElem?_take] at hi
  split at hi
  · exact hi
  · cases hi
theorem Rd.lo (h : Rd w E A cap l) (n : Nat) : Rd w E (cutA A cap n E.sz) (cap - n) (l.drop n) := by
  have := h.cut (lo := n) (hi := l.length)
  rwa [List.take_length] at this
theorem Rd.some (h : Rd w E A cap l) {i : Int} (h0 : 0 ≤ i) (h1 : i < (l.length : Int)) : ∃ a, A = some a := by
  obtain ⟨a, ha, _⟩ := h.at h0 h1
  exact ⟨a, ha⟩
/-- An element, or a part of it, is loaded. -/
theorem x_ld {t : TypeId} {x : Operand} {ty : TypeId} {a p : Addr} {i : Int} {off : Nat} {v : Value} (hq : Rd w E (some a) cap l) (hb : 0 ≤ i ∧ i < (l.length : Int))
 (hp : p = a.add (i.toNat * E.sz + off)) (hx : ev x = .pointer (some p) := by kernel_rfl) (hu : (P.underlying t).map (·.isRow) = some false := by kernel_rfl) (hv : (E.enc (ix E.d l i))[off]? = some v := by kernel_rfl) :
    (execOp ev (mkO (.load t x) ty)).run P w = .ok (.value v) w := by
  obtain ⟨h0, h1⟩ := hb
  obtain ⟨b, hb, hc⟩ := hq.at h0 h1
  cases hb
  exact x_load hx hu (hp ▸ hc off v hv)
theorem x_lds {t : TypeId} {x : Operand} {ty : TypeId} {a p : Addr} {i : Int} {off : Nat} {cs : List Value} (hq : Rd w E (some a) cap l) (hb : 0 ≤ i ∧ i < (l.length : Int))
 (hp : p = a.add (i.toNat * E.sz + off)) (hx : ev x = .pointer (some p) := by kernel_rfl) (hu : (P.underlying t).map (·.isRow) = some true := by kernel_rfl) (hi : (P.info? t).map (·.size) = some cs.length := by kernel_rfl) (hv : ((E.enc (ix E.d l i)).drop off).take cs.length = cs := by kernel_rfl) :
    (execOp ev (mkO (.load t x) ty)).run P w = .ok (.value (.agg cs.toArray)) w := by
  obtain ⟨h0, h1⟩ := hb
  obtain ⟨b, hb, hc⟩ := hq.at h0 h1
  cases hb
  refine x_loads hx hu hi fun j u hj => ?_
  rw [hp, add_add', Nat.add_assoc]
  refine hc (off + j) u ?_
  rw [← hv, List.getElem?_take] at hj
  split at hj
  · rwa [List.getElem?_drop] at hj
  · cases hj
/-- Byte i of a string. -/
def sx (s : ByteArray) (i : Int) : Int := if h : i.toNat < s.size then ((s[i.toNat]'h).toNat : Int) else 0
theorem x_sidx {t : TypeId} {x y : Operand} {ty : TypeId} {s : ByteArray} {k : IntKind} {i : Int} (hb : 0 ≤ i ∧ i < (s.size : Int)) (ht : P.underlying t = some .string := by kernel_rfl) (hx : ev x = .string s := by kernel_rfl) (hy : ev y = .int k i := by kernel_rfl) :
    (execOp ev (mkO (.index t x y) ty)).run P w = .ok (.value (.int .u8 (sx s i))) w := by
  obtain ⟨h0, h1⟩ := hb
  refine run_v ?_
  show (Instr.index t (ev x) (ev y)).run P w = _
  have hlt : i.toNat < s.size := by omega
  rw [hx, hy]
  simp [Instr.index, asIntOf, run_underlying ht, h0, hlt, sx]
theorem x_scut {t : TypeId} {x : Operand} {lo hi : Option Operand} {ty : TypeId} {s : ByteArray} {k k' : IntKind} {l0 h : Int} (ht : P.underlying t = some .string) (hx : ev x = .string s)
    (hy : lo.map ev = some (.int k l0) ∨ lo = none ∧ l0 = 0) (hy' : hi.map ev = some (.int k' h) ∨ hi = none ∧ h = (s.size : Int)) (h0 : 0 ≤ l0) (h1 : l0 ≤ h) (h2 : h ≤ (s.size : Int)) :
    (execOp ev (mkO (.slice t x lo hi none) ty)).run P w = .ok (.value (.string (s.extract l0.toNat h.toNat))) w := by
  refine run_v ?_
  show (Instr.sliceAt t (ev x) (lo.map ev) (hi.map ev) none).run P w = _
  have hh : 0 ≤ h := by omega
  rw [run_sliceAt_string w t _ _ _ _ ht, hx]
  rcases hy with hy | ⟨rfl, rfl⟩ <;> rcases hy' with hy' | ⟨rfl, rfl⟩
  · rw [hy, hy']
    have : (h.toNat : Int) = h := Int.toNat_of_nonneg hh
    simp [Instr.slice, run_underlying ht, Instr.sliceBounds, run_sliceBound, h0, hh, h2, this, h1]
  · rw [hy]
    simp [Instr.slice, run_underlying ht, Instr.sliceBounds, run_sliceBound, h0, h1]
  · rw [hy']
    have : (h.toNat : Int) = h := Int.toNat_of_nonneg hh
    simp [Instr.slice, run_underlying ht, Instr.sliceBounds, run_sliceBound, hh, h2]
  · simp [Instr.slice, run_underlying ht, Instr.sliceBounds]
end
section
variable {P : Program} {Q : Exit → Act → World → Prop} {a : Act} {w : World} {n : Nat} {ev : Operand → Value} {fn : Func} {R : Ending → World → Prop}
variable {ops : Array Oper} {i : Nat} {op : Op} {ty : TypeId} {dst : Option Tmp} {g : Option (Nat × Bool)}
end

abbrev w64 (x : Int) : Int := IntKind.wrap .i64 x
abbrev w32 (x : Int) : Int := IntKind.wrap .i32 x
abbrev wi16 (x : Int) : Int := IntKind.wrap .i16 x
abbrev wi8 (x : Int) : Int := IntKind.wrap .i8 x
abbrev wu64 (x : Int) : Int := IntKind.wrap .u64 x
abbrev wu32 (x : Int) : Int := IntKind.wrap .u32 x
abbrev wu16 (x : Int) : Int := IntKind.wrap .u16 x
abbrev wu8 (x : Int) : Int := IntKind.wrap .u8 x
def band (k : IntKind) (x y : Int) : Int := k.wrap (BitVec.ofInt k.bits x &&& BitVec.ofInt k.bits y).toNat
def bor (k : IntKind) (x y : Int) : Int := k.wrap (BitVec.ofInt k.bits x ||| BitVec.ofInt k.bits y).toNat
def bxor (k : IntKind) (x y : Int) : Int := k.wrap (BitVec.ofInt k.bits x ^^^ BitVec.ofInt k.bits y).toNat
def bandn (k : IntKind) (x y : Int) : Int := k.wrap (BitVec.ofInt k.bits x &&& ~~~BitVec.ofInt k.bits y).toNat
def shl (k : IntKind) (x y : Int) : Int := k.wrap (x * 2 ^ min y.toNat k.bits)
def shr (k : IntKind) (x y : Int) : Int := x.fdiv (2 ^ min y.toNat k.bits)
def mnn (x y : Int) : Int := if y < x then y else x
def mxx (x y : Int) : Int := if y > x then y else x
section
variable {P : Program} {ev : Operand → Value} {α : Type} {E : Enc α} {G : List Nat} {w0 w : World} {A : Option Addr} {cap : Nat} {l : List α} {As : List Asn} {T : TypeId}
theorem St.only (h : St G w0 w As) : ∀ (n : Nat), St G w0 w (As.take n) := by
  intro n
  obtain ⟨L, hc, hs⟩ := h
  have key : ∀ (n : Nat) {As : List Asn} {L : BL}, Cov As L → ∃ L', Cov (As.take n) L' ∧ L'.Sublist L := by
    intro n
    induction n with
    | zero => intro As L _; exact ⟨[], by simp [Cov], List.nil_sublist _⟩
    | succ n ih =>
      intro As L h
      cases As with
      | nil => exact ⟨L, by simpa using h, List.Sublist.refl _⟩
      | cons A As =>
        obtain ⟨L1, L2, rfl, ha, hr⟩ := h
        obtain ⟨L', h1, h2⟩ := ih hr
        exact ⟨L1 ++ L', ⟨L1, L', rfl, ha, h1⟩, List.Sublist.append_left h2 _⟩
  obtain ⟨L', h1, h2⟩ := key n hc
  exact ⟨L', h1, hs.sub h2⟩
/-- A string's bytes. -/
def bytesL (s : ByteArray) : List Int := s.data.toList.map fun b => (b.toNat : Int)
theorem src_str {tx : TypeId} (hk : P.underlying tx = some .string) (s : ByteArray) : Src P (eI .u8).sz tx (.string s) (bytesL s).length ((bytesL s).flatMap (eI .u8).enc) w := by
  have h := Src.ofString (P := P) w hk s
  have e1 : (bytesL s).length = s.size := by unfold bytesL; rw [List.length_map, Array.length_toList]; rfl
  have e2 : (bytesL s).flatMap (eI .u8).enc = byteCells s := by
    unfold bytesL byteCells
    induction s.data.toList with
    | nil => rfl
    | cons b r ih => simp only [List.map_cons, List.flatMap_cons, ih]; rfl
  rw [e1, e2]
  exact h
theorem x_shl {t u : TypeId} {x y : Operand} {ty : TypeId} {k k' : IntKind} {m n : Int} (hx : ev x = .int k m) (hy : ev y = .int k' n) (h : 0 ≤ n) : (execOp ev (mkO (.binOp .shl t x y u) ty)).run P w = .ok (.value (.int k (shl k m n))) w := by
  refine run_v ?_
  show (do eqGuard .shl t x y (ev x) (ev y); binOp .shl t (ev x) (ev y)).run P w = _
  have : ¬ n < 0 := by omega
  rw [hx, hy]
  simp [eqGuard, binOp, Op.shift, this, shl]
theorem x_shr {t u : TypeId} {x y : Operand} {ty : TypeId} {k k' : IntKind} {m n : Int} (hx : ev x = .int k m) (hy : ev y = .int k' n) (h : 0 ≤ n) : (execOp ev (mkO (.binOp .shr t x y u) ty)).run P w = .ok (.value (.int k (shr k m n))) w := by
  refine run_v ?_
  show (do eqGuard .shr t x y (ev x) (ev y); binOp .shr t (ev x) (ev y)).run P w = _
  have : ¬ n < 0 := by omega
  rw [hx, hy]
  simp [eqGuard, binOp, Op.shift, this, shr]
theorem x_quo {t u : TypeId} {x y : Operand} {ty : TypeId} {k : IntKind} {m n : Int} (hx : ev x = .int k m) (hy : ev y = .int k n) (h : n ≠ 0) : (execOp ev (mkO (.binOp .quo t x y u) ty)).run P w = .ok (.value (.int k (k.wrap (m.tdiv n)))) w := by
  refine run_v ?_
  show (do eqGuard .quo t x y (ev x) (ev y); binOp .quo t (ev x) (ev y)).run P w = _
  rw [hx, hy]
  simp [eqGuard, binOp, Op.intDiv, h]
theorem x_rem {t u : TypeId} {x y : Operand} {ty : TypeId} {k : IntKind} {m n : Int} (hx : ev x = .int k m) (hy : ev y = .int k n) (h : n ≠ 0) : (execOp ev (mkO (.binOp .rem t x y u) ty)).run P w = .ok (.value (.int k (m.tmod n))) w := by
  refine run_v ?_
  show (do eqGuard .rem t x y (ev x) (ev y); binOp .rem t (ev x) (ev y)).run P w = _
  rw [hx, hy]
  simp [eqGuard, binOp, Op.intDiv, h]
theorem x_cat {t u : TypeId} {x y : Operand} {ty : TypeId} {m n : ByteArray} (hx : ev x = .string m) (hy : ev y = .string n) (h : m.size + n.size ≤ 4611686018427387904) : (execOp ev (mkO (.binOp .add t x y u) ty)).run P w = .ok (.value (.string (m ++ n))) w := by
  refine run_v ?_
  show (do eqGuard .add t x y (ev x) (ev y); binOp .add t (ev x) (ev y)).run P w = _
  rw [hx, hy]
  simp only [eqGuard, binOp, Op.stringOp]
  simp
  omega
end

/-- Element i of an array. -/
def vx {α : Type} {n : Nat} (d : α) (x : Vector α n) (i : Nat) : α := x.toList.getD i d
def vset {α : Type} {n : Nat} (x : Vector α n) (i : Nat) (v : α) : Vector α n := x.setIfInBounds i v
theorem vx_vset {α : Type} {n : Nat} {d : α} {x : Vector α n} {i j : Nat} {v : α} (hi : i < n) : vx d (vset x i v) j = if j = i then v else vx d x j := by
  unfold vx vset
  simp only [Vector.toList_setIfInBounds, List.getD_eq_getElem?_getD, List.getElem?_set, Vector.length_toList]
  by_cases h : i = j
  · subst h; simp [hi]
  · rw [if_neg h, if_neg (fun e => h e.symm)]
theorem vx_get {α : Type} {n : Nat} {d : α} {x : Vector α n} {i : Nat} (hi : i < n) : vx d x i = x[i] := by
  unfold vx
  simp [List.getD_eq_getElem?_getD, hi]
theorem vx_ext {α : Type} {n : Nat} (d : α) {x y : Vector α n} (h : ∀ i, i < n → vx d x i = vx d y i) : x = y := by
  apply Vector.ext
  intro i hi
  have := h i hi
  rwa [vx_get hi, vx_get hi] at this
theorem vec_range {α β : Type} {n : Nat} (d : α) (x : Vector α n) (g : α → β) : x.toList.map g = (List.range n).map fun j => g (vx d x j) := by
  apply List.ext_getElem
  · simp
  · intro i h1 h2
    have hi : i < n := by simpa using h1
    simp only [List.getElem_map, List.getElem_range]
    rw [vx_get hi]
    simp
/-- Where an array's element lies. -/
theorem vget {cs pre post : List Value} {f : Nat → Value} {n o i : Nat} (he : cs = pre ++ (List.range n).map f ++ post) (ho : pre.length = o) (hi : i < n) : cs[o + i * 1]? = some (f i) := by
  subst he ho
  rw [Nat.mul_one, List.append_assoc, List.getElem?_append_right (by omega), List.getElem?_append_left (by simp; omega)]
  simp [hi]
theorem vafter {cs pre post : List Value} {f : Nat → Value} {n o j : Nat} (he : cs = pre ++ (List.range n).map f ++ post) (ho : pre.length + n + j = o) : cs[o]? = post[j]? := by
  subst he ho
  rw [List.getElem?_append_right (by simp)]
  congr 1
  simp
theorem vput {cs cs' pre post : List Value} {f f' : Nat → Value} {n o i : Nat} {v : Value} (he : cs = pre ++ (List.range n).map f ++ post) (he' : cs' = pre ++ (List.range n).map f' ++ post) (ho : pre.length = o) (hi : i < n)
    (hf : ∀ j, j < n → f' j = if j = i then v else f j) : cs' = cs.take (o + i * 1) ++ [v] ++ cs.drop (o + i * 1 + [v].length) := by
  subst he he' ho
  have e : (List.range n).map f' = (((List.range n).map f).take i ++ [v]) ++ ((List.range n).map f).drop (i + 1) := by
    apply List.ext_getElem?
    intro j
    by_cases hj : j < n
    · have h1 := hf j hj
      rw [List.getElem?_map, List.getElem?_range hj, Option.map_some, h1]
      by_cases h2 : j < i
      · rw [if_neg (by omega), List.getElem?_append_left (by simp; omega), List.getElem?_append_left (by simp; omega), List.getElem?_take, if_pos h2]
        simp [hj]
      · by_cases h3 : j = i
        · subst h3
          rw [if_pos rfl, List.getElem?_append_left (by simp; omega), List.getElem?_append_right (by simp; omega)]
          simp [Nat.min_eq_left (Nat.le_of_lt hj)]
        · rw [if_neg h3, List.getElem?_append_right (by simp; omega), List.getElem?_drop]
          have : i + 1 + (j - (List.take i (List.map f (List.range n)) ++ [v]).length) = j := by simp; omega
          rw [this]
          simp [hj]
    · rw [List.getElem?_eq_none (by simp; omega), List.getElem?_eq_none (by simp; omega)]
  rw [e]
  have e1 : (pre ++ (List.range n).map f ++ post).take (pre.length + i * 1) = pre ++ ((List.range n).map f).take i := by
    rw [Nat.mul_one, List.append_assoc, List.take_length_add_append, List.take_append_of_le_length (by simp; omega)]
  have e2 : (pre ++ (List.range n).map f ++ post).drop (pre.length + i * 1 + [v].length) = ((List.range n).map f).drop (i + 1) ++ post := by
    rw [Nat.mul_one, List.append_assoc, Nat.add_assoc, List.drop_length_add_append, List.drop_append_of_le_length (by simp; omega)]
    rfl
  rw [e1, e2]
  simp only [List.append_assoc]
theorem vx_put {k : IntKind} {n i : Nat} {x : Vector Int n} {v : Int} (hi : i < n) : ∀ j, j < n → (fun j : Nat => Value.int k (vx 0 (vset x i v) j)) j = if j = i then Value.int k v else (fun j : Nat => Value.int k (vx 0 x j)) j := by
  intro j _
  show Value.int k (vx 0 (vset x i v) j) = if j = i then Value.int k v else Value.int k (vx 0 x j)
  rw [vx_vset hi]
  split <;> rfl
theorem vx_putb {n i : Nat} {x : Vector Bool n} {v : Bool} (hi : i < n) : ∀ j, j < n → (fun j : Nat => Value.bool (vx false (vset x i v) j)) j = if j = i then Value.bool v else (fun j : Nat => Value.bool (vx false x j)) j := by
  intro j _
  show Value.bool (vx false (vset x i v) j) = if j = i then Value.bool v else Value.bool (vx false x j)
  rw [vx_vset hi]
  split <;> rfl
section
variable {P : Program} {ev : Operand → Value} {α : Type} {E : Enc α} {G : List Nat} {w0 w : World} {A : Option Addr} {cap : Nat} {l : List α} {As : List Asn} {T : TypeId}
/-- The address of an array's element. -/
theorem x_vidx {t e : TypeId} {x y : Operand} {ty : TypeId} {p : Addr} {n : Nat} {k : IntKind} {i : Int} {sz : Nat} 
 (hb : 0 ≤ i ∧ i < (n : Int)) (ht : P.underlying t = some (.array n e) := by kernel_rfl) (hs : (P.info? e).map (·.size) = some sz := by kernel_rfl) (hx : ev x = .pointer (some p) := by kernel_rfl) (hy : ev y = .int k i := by kernel_rfl) :
    (execOp ev (mkO (.indexAddr t x y) ty)).run P w = .ok (.value (.pointer (some (p.add (i.toNat * sz))))) w := by
  obtain ⟨h0, h1⟩ := hb
  refine run_v ?_
  show (Instr.indexAt t (ev x) (ev y)).run P w = _
  obtain ⟨inf, hi, hsz⟩ := Option.map_eq_some_iff.1 hs
  rw [hx, hy]
  simp [Instr.indexAt, asIntOf, run_underlying ht, h0, h1, sizeOf, typeInfo, hi, hsz, Instr.sureAddr]
end

theorem vx_ofFn {n : Nat} {f : Fin n → Int} {i : Nat} (hi : i < n) : vx 0 (Vector.ofFn f) i = f ⟨i, hi⟩ := by
  rw [vx_get hi]
  simp

/-- A pointer that may be nil. -/
def oM {α : Type} (m : Option Addr → α → Asn) (A : Option Addr) (o : Option α) : Asn := match o with
  | none => fun L => A = none ∧ L = []
  | some x => m A x
section
variable {P : Program} {ev : Operand → Value} {α : Type} {E : Enc α} {G : List Nat} {w0 w : World} {A : Option Addr} {cap : Nat} {l : List α} {As : List Asn} {T : TypeId} {g : Nat} {cs : List Value} {x : α}
theorem St.oM_none {m : Option Addr → α → Asn} (h : St G w0 w (oM m A none :: As)) : A = none ∧ St G w0 w As := by
  obtain ⟨L, ⟨L1, L2, rfl, ⟨rfl, rfl⟩, hr⟩, hs⟩ := h
  exact ⟨rfl, _, hr, hs⟩
theorem St.oM_nil (m : Option Addr → α → Asn) (h : St G w0 w As) : St G w0 w (oM m none none :: As) := by
  obtain ⟨L, hc, hs⟩ := h
  exact ⟨L, ⟨[], L, rfl, ⟨rfl, rfl⟩, hc⟩, hs⟩
theorem vec_at {k : IntKind} {n o i : Nat} {pre post cs : List Value} {x : Vector Int n} {y : Int} (he : cs = pre ++ x.toList.map (Value.int k) ++ post) (ho : pre.length = o) (hy : x.toList[i]? = some y) : cs[o + i]? = some (.int k y) := by
  subst he ho
  have hi : i < x.toList.length := (List.getElem?_eq_some_iff.1 hy).1
  rw [List.append_assoc, List.getElem?_append_right (by omega), List.getElem?_append_left (by simp; simpa using hi), Nat.add_sub_cancel_left, List.getElem?_map, hy]
  rfl
/-- A cut of an array in a variable. -/
theorem x_vcut {t e : TypeId} {y : Operand} {ty : TypeId} {a p : Addr} {n o : Nat} {k : IntKind} {l h : Int} {lo hi : Option Operand} {x : α} {v : Vector Int n} {pre post : List Value} (ht : P.underlying t = some (.array n e)) (hs : (P.info? e).map (·.size) = some 1)
    (hx : ev y = .pointer (some p)) (hp : p = a.add ((0 : Int).toNat * E.sz + o)) (hlo : (∃ z k', lo = some z ∧ ev z = .int k' l) ∨ lo = none ∧ l = 0) (hhi : (∃ z k', hi = some z ∧ ev z = .int k' h) ∨ hi = none ∧ h = (n : Int))
    (h0 : 0 ≤ l) (h1 : l ≤ h) (h2 : h ≤ (n : Int)) (he : E.enc x = pre ++ v.toList.map (Value.int k) ++ post) (ho : pre.length = o) :
    ∃ A' cap', (∀ w, (execOp ev (mkO (.slice t y lo hi none) ty)).run P w = .ok (.value (.slice A' ((v.toList.take h.toNat).drop l.toNat).length cap')) w) ∧
      (∀ w', Rd w' E (some a) 1 [x] → Rd w' (eI k) A' cap' ((v.toList.take h.toNat).drop l.toNat)) ∧ (0 < ((v.toList.take h.toNat).drop l.toNat).length → A' = some (a.add (o + l.toNat))) ∧ l.toNat + ((v.toList.take h.toNat).drop l.toNat).length ≤ n := by
  have hlen : ((v.toList.take h.toNat).drop l.toNat).length = h.toNat - l.toNat := by simp; omega
  refine ⟨some (if n = l.toNat then p else p.add (l.toNat * 1)), n - l.toNat, fun w => ?_, fun w' hr => ?_, fun hlh => ?_, by rw [hlen]; omega⟩
  · refine run_v ?_
    show (Instr.sliceAt t (ev y) (lo.map ev) (hi.map ev) none).run P w = _
    obtain ⟨inf, hi', hsz⟩ := Option.map_eq_some_iff.1 hs
    rw [hx, hlen]
    have hle : l ≤ ((h.toNat : Nat) : Int) := by omega
    rcases hlo with ⟨z, k1, rfl, hz⟩ | ⟨rfl, rfl⟩ <;> rcases hhi with ⟨z2, k2, rfl, hz2⟩ | ⟨rfl, rfl⟩
    · simp [Instr.sliceAt, run_underlying ht, Instr.sureAddr, Instr.sliceBounds, Instr.sliceBound, asIntOf, hz, hz2, h0, h2, sizeOf, typeInfo, hi', hsz, h1, show (0 : Int) ≤ h by omega, Int.toNat_of_nonneg (show (0 : Int) ≤ h by omega)]
    · simp [Instr.sliceAt, run_underlying ht, Instr.sureAddr, Instr.sliceBounds, Instr.sliceBound, asIntOf, hz, h0, h1, sizeOf, typeInfo, hi', hsz]
    · simp [Instr.sliceAt, run_underlying ht, Instr.sureAddr, Instr.sliceBounds, Instr.sliceBound, asIntOf, hz2, h1, h2, sizeOf, typeInfo, hi']
    · simp [Instr.sliceAt, run_underlying ht, Instr.sureAddr, Instr.sliceBounds, sizeOf, typeInfo, hi']
  · refine ⟨by rw [hlen]; omega, fun i y' hi' => ?_⟩
    have hlt : i < ((v.toList.take h.toNat).drop l.toNat).length := (List.getElem?_eq_some_iff.1 hi').1
    rw [hlen] at hlt
    have hv : v.toList[l.toNat + i]? = some y' := by
      simp only [List.getElem?_drop, List.getElem?_take] at hi'
      split at hi'
      · exact hi'
      · cases hi'
    refine ⟨p.add (l.toNat * 1), by rw [if_neg (by omega)], fun j u hj => ?_⟩
    have hj0 : j = 0 := by
      cases j with
      | zero => rfl
      | succ j => have h' : ([Value.int k y'] : List Value)[j + 1]? = some u := hj; simp at h'
    subst hj0
    have hu : u = .int k y' := by
      have h' : ([Value.int k y'] : List Value)[0]? = some u := hj
      exact (Option.some.inj h').symm
    obtain ⟨b, hb, hc⟩ := hr.2 0 x rfl
    cases hb
    have h3 := hc (o + (l.toNat + i)) _ (vec_at he ho hv)
    rw [hu, hp, add_add', add_add']
    have e1 : (0 : Int).toNat * E.sz + o + l.toNat * 1 + (i * (eI k).sz + 0) = 0 * E.sz + (o + (l.toNat + i)) := by
      show 0 * E.sz + o + l.toNat * 1 + (i * 1 + 0) = _
      omega
    have e2 : (0 : Int).toNat * E.sz + o + (l.toNat * 1 + (i * (eI k).sz + 0)) = 0 * E.sz + (o + (l.toNat + i)) := by
      show 0 * E.sz + o + (l.toNat * 1 + (i * 1 + 0)) = _
      omega
    first
    | (rw [e1]; exact h3)
    | (rw [e2]; exact h3)
    | (rw [add_add', e1]; exact h3)
    | (rw [add_add', e2]; exact h3)
  · rw [hlen] at hlh
    rw [if_neg (by omega), hp, add_add']
    congr 2
    simp
def vcopy {n : Nat} (x : Vector Int n) (lo : Nat) (l : List Int) : Vector Int n := Vector.ofFn fun i => if lo ≤ i.val ∧ i.val < lo + l.length then l.getD (i.val - lo) 0 else vx 0 x i.val
theorem vx_vcopy {n : Nat} {x : Vector Int n} {lo i : Nat} {l : List Int} (hi : i < n) : vx 0 (vcopy x lo l) i = if lo ≤ i ∧ i < lo + l.length then l.getD (i - lo) 0 else vx 0 x i := by
  unfold vcopy
  rw [vx_ofFn hi]
theorem vcopy_cells {n : Nat} {x : Vector Int n} {k : IntKind} {lo : Nat} {l : List Int} (h : lo + l.length ≤ n) : (vcopy x lo l).toList.map (Value.int k) = (x.toList.map (Value.int k)).take lo ++ l.map (Value.int k) ++ (x.toList.map (Value.int k)).drop (lo + l.length) := by
  apply List.ext_getElem?
  intro i
  by_cases hi : i < n
  · rw [vec_range 0, List.getElem?_map, List.getElem?_range hi, Option.map_some, vx_vcopy hi, vec_range 0]
    by_cases h1 : i < lo
    · rw [if_neg (by omega), List.append_assoc, List.getElem?_append_left (by simp; omega), List.getElem?_take, if_pos h1]
      simp [hi]
    · by_cases h2 : i < lo + l.length
      · rw [if_pos ⟨by omega, h2⟩, List.append_assoc, List.getElem?_append_right (by simp; omega), List.getElem?_append_left (by simp; omega)]
        have hm : (List.take lo ((List.range n).map fun j => Value.int k (vx 0 x j))).length = lo := by simp; omega
        rw [hm, List.getElem?_map, List.getElem?_eq_getElem (by omega)]
        simp [List.getD_eq_getElem?_getD, List.getElem?_eq_getElem (show i - lo < l.length by omega)]
      · rw [if_neg (by omega), List.getElem?_append_right (by simp; omega), List.getElem?_drop]
        have hm : (List.take lo ((List.range n).map fun j => Value.int k (vx 0 x j)) ++ l.map (Value.int k)).length = lo + l.length := by simp; omega
        rw [hm, show lo + l.length + (i - (lo + l.length)) = i by omega]
        simp [hi]
  · rw [List.getElem?_eq_none (by simp; omega), List.getElem?_eq_none (by simp; omega)]
def stA (A : Option Addr) (vs : List Value) : Sem Unit := match A with
  | some a => storeCells a vs
  | none => pure ()
/-- copy into a cut of an array in a variable. -/
theorem x_copyv {dT sT e : TypeId} {y z : Operand} {ty : TypeId} {a : Addr} {n o lo len dcap : Nat} {k : IntKind} {x x' : α} {v : Vector Int n} {pre post : List Value} {A' A2 : Option Addr} {c2 : Nat} {l2 : List Int}
    (hst : St G w0 w (own T E (some a) 1 [x] :: As)) (ht : P.underlying dT = some (.slice e)) (hs : (P.info? e).map (·.size) = some 1)
    (hx : ev y = .slice A' len dcap) (hA : 0 < len → A' = some (a.add (o + lo))) (hfit : lo + len ≤ n) (hz : ev z = .slice A2 l2.length c2) (hr : Rd w (eI k) A2 c2 l2)
    (he : E.enc x = pre ++ v.toList.map (Value.int k) ++ post) (ho : pre.length = o) (he' : E.enc x' = pre ++ (vcopy v lo (l2.take len)).toList.map (Value.int k) ++ post) :
    ∃ w', (execOp ev (mkO (.call { callee := .builtin .copy, args := #[y, z], argTypes := #[dT, sT] }) ty)).run P w = .ok (.value (.int .i64 ((l2.take len).length : Int))) w' ∧ St G w0 w' (own T E (some a) 1 [x'] :: As) := by
  have hrun : ∀ {u w'}, (Builtin.copy_ #[dT, sT] ty #[.slice A' len dcap, .slice A2 l2.length c2]).run P w = .ok u w' →
      (execOp ev (mkO (.call { callee := .builtin .copy, args := #[y, z], argTypes := #[dT, sT] }) ty)).run P w = .ok (.value u) w' := by
    intro u w' h
    unfold execOp mkO
    simp only [resolve, invoke, builtin, Sem.run_bind, Sem.run_pure, Result.andThen_ok, List.map_toArray, List.map_cons, List.map_nil, hx, hz, h]
  have hmin : Nat.min l2.length len = (l2.take len).length := by rw [List.length_take]; exact Nat.min_comm _ _
  obtain ⟨inf, hi, hsz⟩ := Option.map_eq_some_iff.1 hs
  -- the cells that are copied
  have hcells : (Builtin.firstCells 1 (l2.take len).length (.slice A2 l2.length c2)).run P w = .ok ((l2.take len).map (Value.int k)).toArray w := by
    rcases hr with ⟨_, hrd⟩
    cases hl : l2.take len with
    | nil =>
      cases A2 with
      | none => simp [Builtin.firstCells]
      | some b => simp [Builtin.firstCells, loadCells, loadCellsFrom]
    | cons q qs =>
      have h0 : ∃ b, A2 = some b := by
        cases l2 with
        | nil => simp at hl
        | cons q' r => obtain ⟨b, hb, _⟩ := hrd 0 q' rfl; exact ⟨b, hb⟩
      obtain ⟨b, rfl⟩ := h0
      rw [← hl]
      refine run_firstCells_some w 1 (l2.take len).length b l2.length c2 _ (by simp) fun j u hj => ?_
      rw [List.getElem?_map] at hj
      obtain ⟨z', hz', rfl⟩ := Option.map_eq_some_iff.1 hj
      rw [List.getElem?_take] at hz'
      split at hz'
      · obtain ⟨b', hb', hc'⟩ := hrd j z' hz'
        cases hb'
        have := hc' 0 (.int k z') rfl
        simpa [eI] using this
      · cases hz'
  have hstart : (Builtin.copy_ #[dT, sT] ty #[.slice A' len dcap, .slice A2 l2.length c2]).run P w = ((stA A' ((l2.take len).map (Value.int k))).run P w).andThen fun _ w' => .ok (.int .i64 ((l2.take len).length : Int)) w' := by
    generalize l2.take len = q2 at hmin hcells ⊢
    cases A' with
    | none => simp [Builtin.copy_, run_underlying ht, Builtin.lenOf, hmin, sizeOf, typeInfo, hi, hsz, hcells, goInt, stA]
    | some q => simp [Builtin.copy_, run_underlying ht, Builtin.lenOf, hmin, sizeOf, typeInfo, hi, hsz, hcells, goInt, stA]
  obtain ⟨LL, ⟨L1, L2, rfl, hown, hr'⟩, hs'⟩ := hst
  rcases hown with ⟨h0, _⟩ | ⟨g, b0, cur, hg, h2, h3, h4, h5, rfl⟩
  · cases h0
  · have hg : a = ⟨g, b0, none⟩ := Option.some.inj hg
    subst hg
    have hh : w.heap[g]? = some (.cells cur T (0, 0)) := hs'.here (g, .cells cur T (0, 0)) (by simp)
    have h7 : (cur.toList.drop b0).take (1 * E.sz) = E.enc x := by simpa using h5
    have h8 : b0 + 1 * E.sz ≤ cur.toList.length := by rw [Array.length_toList]; exact h4
    have hlen' : (l2.take len).length ≤ len := by simp; omega
    have hvl : v.toList.length = n := by simp
    have hex : (E.enc x).length = pre.length + n + post.length := by rw [he]; simp; omega
    have hnew : E.enc x' = (E.enc x).take (o + lo) ++ (l2.take len).map (Value.int k) ++ (E.enc x).drop (o + lo + ((l2.take len).map (Value.int k)).length) := by
      rw [he', vcopy_cells (by omega), he]
      subst ho
      have e1 : (pre ++ v.toList.map (Value.int k) ++ post).take (pre.length + lo) = pre ++ (v.toList.map (Value.int k)).take lo := by
        rw [List.append_assoc, List.take_length_add_append, List.take_append_of_le_length (by simp; omega)]
      have e2 : (pre ++ v.toList.map (Value.int k) ++ post).drop (pre.length + lo + ((l2.take len).map (Value.int k)).length) = (v.toList.map (Value.int k)).drop (lo + (l2.take len).length) ++ post := by
        rw [List.append_assoc, Nat.add_assoc, List.drop_length_add_append, List.length_map, List.drop_append_of_le_length (by simp only [List.length_map, hvl]; omega)]
      rw [e1, e2]
      simp only [List.append_assoc]
    have hq : o + lo + ((l2.take len).map (Value.int k)).length ≤ (E.enc x).length := by rw [hex, List.length_map]; omega
    have own' : ∀ cur' : Array Value, cur'.toList.length = cur.toList.length → (cur'.toList.drop b0).take (1 * E.sz) = E.enc x' → own T E (some ⟨g, b0, none⟩) 1 [x'] [(g, .cells cur' T (0, 0))] := by
      intro cur' hl hc
      refine .inr ⟨g, b0, cur', rfl, Nat.le_refl _, h3, ?_, ?_, rfl⟩
      · rw [← Array.length_toList, hl, Array.length_toList]; exact h4
      · simpa using hc
    by_cases hl0 : 0 < len
    · obtain rfl := hA hl0
      have hst' := run_storeCells_at P g (b0 + (o + lo)) T ((l2.take len).map (Value.int k)) 0 cur w hh (by rw [← Array.length_toList]; have := E.len x; simp only [List.length_map] at hq ⊢; omega) (fun u hu => by
        obtain ⟨q, _, rfl⟩ := List.mem_map.1 hu; rfl)
      simp only [Nat.add_zero] at hst'
      refine ⟨w.setRow g (cur.toList.take (b0 + (o + lo)) ++ (l2.take len).map (Value.int k) ++ cur.toList.drop (b0 + (o + lo) + ((l2.take len).map (Value.int k)).length)).toArray, hrun ?_, ?_⟩
      · rw [hstart]
        simp only [stA, badd, hst', Result.andThen]
      · have hE := E.len x
        exact ⟨_, ⟨[_], L2, rfl, own' _ (by simp only [List.length_append, List.length_take, List.length_drop]; omega) ((row_put h7 h8 (by omega)).trans hnew.symm), hr'⟩, hs'.setRow⟩
    · have hl1 : l2.take len = [] := by
        have : len = 0 := by omega
        subst this; rfl
      have hsame : E.enc x' = E.enc x := by rw [hnew, hl1]; simp
      refine ⟨w, hrun ?_, ⟨_, ⟨[_], L2, rfl, own' cur rfl (by rw [h7, hsame]), hr'⟩, hs'⟩⟩
      rw [hstart, hl1]
      cases A' with
      | none => simp [stA, Result.andThen]
      | some q => simp [stA, storeCells, Result.andThen]
theorem x_copyv0 {dT sT e : TypeId} {y z : Operand} {ty : TypeId} {a : Addr} {n lo len dcap : Nat} {k : IntKind} {x x' : α} {v : Vector Int n} {post : List Value} {A' A2 : Option Addr} {c2 : Nat} {l2 : List Int}
    (hst : St G w0 w (own T E (some a) 1 [x] :: As)) (ht : P.underlying dT = some (.slice e)) (hs : (P.info? e).map (·.size) = some 1)
    (hx : ev y = .slice A' len dcap) (hA : 0 < len → A' = some (a.add (0 + lo))) (hfit : lo + len ≤ n) (hz : ev z = .slice A2 l2.length c2) (hr : Rd w (eI k) A2 c2 l2)
    (he : E.enc x = v.toList.map (Value.int k) ++ post) (he' : E.enc x' = (vcopy v lo (l2.take len)).toList.map (Value.int k) ++ post) :
    ∃ w', (execOp ev (mkO (.call { callee := .builtin .copy, args := #[y, z], argTypes := #[dT, sT] }) ty)).run P w = .ok (.value (.int .i64 ((l2.take len).length : Int))) w' ∧ St G w0 w' (own T E (some a) 1 [x'] :: As) :=
  x_copyv (pre := []) hst ht hs hx hA hfit hz hr he rfl he'
end

section
variable {P : Program} {R : Ending → World → Prop} {fn : Func} {a : Act} {w : World} {n : Nat} {ev : Operand → Value} {r1 r2 r3 : ResultVar} {v1 v2 v3 : Value}
def rvS (tmps : Array Value) (r : ResultVar) : Sem Value := match r with
  | .tmp t => pure (tmps.getD t undef)
  | .cell a t => do loadVar t (← asAddr (tmps.getD a undef))
theorem results_eq (fn : Func) (tmps : Array Value) : results fn tmps = (do let vs ← fn.results.mapM (rvS tmps); pure (if h : vs.size = 1 then vs[0] else .tuple vs)) := by
  unfold results
  congr 1
/-- A variable of several cells is loaded whole. -/
theorem lv_row {α : Type} {E : Enc α} {t : TypeId} {ad : Addr} {x : α} (hu : (P.underlying t).map (·.isRow) = some true) (hi : (P.info? t).map (·.size) = some E.sz) (hq : Rd w E (some ad) 1 [x]) : (loadVar t ad).run P w = .ok (.agg (E.enc x).toArray) w := by
  obtain ⟨d, hu, hd⟩ := Option.map_eq_some_iff.1 hu
  have hagg : (isAgg t).run P w = .ok true w := by
    unfold isAgg
    rw [Sem.run_bind, run_underlying hu w]
    cases d <;> simp_all
  obtain ⟨b, hb, hc⟩ := hq.2 0 x rfl
  cases hb
  have hl := run_loadCells_list (P := P) w ad (E.enc x) (fun j u hj => by have := hc j u hj; simpa using this)
  obtain ⟨inf, hq2, hs⟩ := Option.map_eq_some_iff.1 hi
  rw [E.len] at hl
  simp [loadVar, Sem.run_bind, hagg, sizeOf, typeInfo, hq2, hs, hl]
theorem lv_cell {α : Type} {E : Enc α} {t : TypeId} {ad : Addr} {x : α} {v : Value} (hu : (P.underlying t).map (·.isRow) = some false) (hv : E.enc x = [v]) (hq : Rd w E (some ad) 1 [x]) : (loadVar t ad).run P w = .ok v w := by
  obtain ⟨d, hu, hd⟩ := Option.map_eq_some_iff.1 hu
  have hagg : (isAgg t).run P w = .ok false w := by
    unfold isAgg
    rw [Sem.run_bind, run_underlying hu w]
    cases d <;> simp_all
  obtain ⟨b, hb, hc⟩ := hq.2 0 x rfl
  cases hb
  have h0 := hc 0 v (by rw [hv]; rfl)
  have h0 : w.cell? ad = some v := by simpa [Addr.add] using h0
  simp [loadVar, Sem.run_bind, hagg, h0]
/-- An element of an array that is a value. -/
theorem x_aidx {t e : TypeId} {y z : Operand} {ty : TypeId} {m : Nat} {k : IntKind} {i : Int} {cs : List Value} {v : Value} (ht : P.underlying t = some (.array m e)) (hs : (P.info? e).map (·.size) = some 1) (hu : (P.underlying e).map (·.isRow) = some false)
    (hx : ev y = .agg cs.toArray) (hy : ev z = .int k i) (h0 : 0 ≤ i) (h1 : i < (m : Int)) (hv : cs[0 + i.toNat * 1]? = some v) :
    (execOp ev (mkO (.index t y z) ty)).run P w = .ok (.value v) w := by
  refine run_v ?_
  show (Instr.index t (ev y) (ev z)).run P w = _
  obtain ⟨inf, hi, hsz⟩ := Option.map_eq_some_iff.1 hs
  obtain ⟨d, hu, hd⟩ := Option.map_eq_some_iff.1 hu
  have hagg : (isAgg e).run P w = .ok false w := by
    unfold isAgg
    rw [Sem.run_bind, run_underlying hu w]
    cases d <;> simp_all
  have hv : cs[i.toNat]? = some v := by simpa using hv
  rw [hx, hy]
  simp [Instr.index, asIntOf, run_underlying ht, h0, h1, sizeOf, typeInfo, hi, hsz, part, Sem.run_bind, hagg, hv]
end

section
variable {P : Program} {ev : Operand → Value} {d : Nat} {xs ys : Array Value} {f : Field} {fs : List Field} {a b : Value} {r s : Bool} {w : World}
theorem eq_nil : (Op.eqFields d xs ys []).run P w = .ok true w := by simp [Op.eqFields]
theorem eq_cons (hn : (f.name == "_") = false) (ha : (part f.type xs f.offset).run P w = .ok a w) (hb : (part f.type ys f.offset).run P w = .ok b w) (he : (Op.equalIn d f.type a b).run P w = .ok r w) (hr : (Op.eqFields d xs ys fs).run P w = .ok s w) : (Op.eqFields d xs ys (f :: fs)).run P w = .ok (r && s) w := by
  have hn' : f.name ≠ "_" := by simpa using hn
  rw [Op.eqFields]
  simp only [if_pos hn', Sem.run_bind, ha, hb, he, Result.andThen_ok]
  cases r
  · simp
  · simpa using hr
theorem eq_struct {t : TypeId} {fs : Array Field} (hu : P.underlying t = some (.struct fs)) (hp : P.stoodInHeld t = false) (h : (Op.eqFields d xs ys fs.toList).run P w = .ok r w) : (Op.equalIn (d + 1) t (.agg xs) (.agg ys)).run P w = .ok r w := by
  have hf : P.fieldsOf t = fs := by simp [Program.fieldsOf, hu]
  rw [run_equalIn_struct (P := P) w d t xs ys (by rw [hf]; exact hu) hp, hf]
  exact h
theorem eq_pv {t : TypeId} {u v : Value} (h : pv P (Op.equalIn d t u v) = some r) : (Op.equalIn d t u v).run P w = .ok r w := pv_ok _ h w
theorem part_pv {t : TypeId} {o : Nat} (h : pv P (part t xs o) = some a) : (part t xs o).run P w = .ok a w := pv_ok _ h w
/-- x == y of structs. -/
theorem x_eql {t u : TypeId} {y z : Operand} {ty : TypeId} (hx : ev y = .agg xs) (hy : ev z = .agg ys) (hg : P.eqGuardType P.depth t = false) (he : (Op.equalIn Op.maxDepth t (.agg xs) (.agg ys)).run P w = .ok r w) :
    (execOp ev (mkO (.binOp .eql t y z u) ty)).run P w = .ok (.value (.bool r)) w := by
  refine run_v ?_
  show (do eqGuard .eql t y z (ev y) (ev z); binOp .eql t (ev y) (ev z)).run P w = _
  rw [hx, hy]
  simp [eqGuard, binOp, hg, Op.equal, he]
theorem x_neq {t u : TypeId} {y z : Operand} {ty : TypeId} (hx : ev y = .agg xs) (hy : ev z = .agg ys) (hg : P.eqGuardType P.depth t = false) (he : (Op.equalIn Op.maxDepth t (.agg xs) (.agg ys)).run P w = .ok r w) :
    (execOp ev (mkO (.binOp .neq t y z u) ty)).run P w = .ok (.value (.bool (!r))) w := by
  refine run_v ?_
  show (do eqGuard .neq t y z (ev y) (ev z); binOp .neq t (ev y) (ev z)).run P w = _
  rw [hx, hy]
  simp [eqGuard, binOp, hg, Op.equal, he]
end

section
variable {P : Program} {ev : Operand → Value} {w : World}
def eqElems (d : Nat) (e : TypeId) (n : Nat) (xs ys : Array Value) : List Nat → Sem Bool
  | [] => pure true
  | i :: r => do
    let a ← part e xs (i * n)
    let b ← part e ys (i * n)
    let q ← Op.equalIn d e a b
    if (!q) = true then pure false else eqElems d e n xs ys r
theorem run_equalIn_arr (d : Nat) {t e : TypeId} {len n : Nat} {xs ys : Array Value} (ht : P.underlying t = some (.array len e)) (hn : (P.info? e).map (·.size) = some n) :
    (Op.equalIn (d + 1) t (.agg xs) (.agg ys)).run P w = (eqElems d e n xs ys (List.range len)).run P w := by
  obtain ⟨inf, hi, hsz⟩ := Option.map_eq_some_iff.1 hn
  simp only [Op.equalIn, Sem.run_bind, run_underlying ht, Result.andThen_ok, sizeOf, typeInfo, run_program, hi, hsz, Sem.run_pure]
  rw [Std.Legacy.Range.forIn_eq_forIn_range']
  simp only [Std.Legacy.Range.size, Nat.sub_zero, Nat.add_one_sub_one, Nat.div_one]
  rw [← List.range_eq_range']
  generalize List.range len = is
  induction is generalizing w with
  | nil => simp [eqElems]
  | cons i r ih =>
    simp only [List.forIn_cons, eqElems, Sem.run_bind, Sem.run_ite]
    generalize (part e xs (i * n)).run P w = r1
    cases r1 with
    | ok a w1 =>
      simp only [Result.andThen_ok]
      generalize (part e ys (i * n)).run P w1 = r2
      cases r2 with
      | ok b w2 =>
        simp only [Result.andThen_ok]
        generalize (Op.equalIn d e a b).run P w2 = r3
        cases r3 with
        | ok q w3 =>
          cases q
          · simp only [Result.andThen_ok, Bool.not_false, if_true, Sem.run_pure]
          · simp only [Result.andThen_ok, Bool.not_true, Bool.false_eq_true, if_false, Sem.run_pure]
            exact ih
        | halt x w3 => simp [Result.andThen]
      | halt x w2 => simp [Result.andThen]
    | halt x w1 => simp [Result.andThen]
theorem eqElems_int {d : Nat} {e : TypeId} {k k' : IntKind} {n : Nat} {x y : Vector Int n} (he : P.underlying e = some (.int k')) : ∀ (is : List Nat), (∀ i ∈ is, i < n) →
    (eqElems (d + 1) e 1 ((List.range n).map fun j => Value.int k (vx 0 x j)).toArray ((List.range n).map fun j => Value.int k (vx 0 y j)).toArray is).run P w = .ok (is.all fun i => vx 0 x i == vx 0 y i) w
  | [], _ => by simp [eqElems]
  | i :: r, h => by
    have hi := h i (by simp)
    have hagg : (isAgg e).run P w = .ok false w := by
      unfold isAgg
      rw [Sem.run_bind, run_underlying he w]
      rfl
    have hp : ∀ z : Vector Int n, (part e ((List.range n).map fun j => Value.int k (vx 0 z j)).toArray (i * 1)).run P w = .ok (.int k (vx 0 z i)) w := by
      intro z
      simp [part, Sem.run_bind, hagg, hi]
    rw [eqElems]
    simp only [Sem.run_bind, hp, Result.andThen_ok, run_equalIn_int (P := P) w d e k k' _ _ he]
    have ih := eqElems_int (d := d) (x := x) (y := y) he r (fun j hj => h j (by simp [hj])) (k := k)
    cases hq : (vx 0 x i == vx 0 y i)
    · simp [hq]
    · simp only [Bool.not_true, Bool.false_eq_true, if_false, ih, List.all_cons, hq, Bool.true_and]
theorem eq_vec {d : Nat} {t e : TypeId} {k k' : IntKind} {n : Nat} {xs ys : Array Value} (x y : Vector Int n) (ht : P.underlying t = some (.array n e)) (hn : (P.info? e).map (·.size) = some 1) (he : P.underlying e = some (.int k'))
    (hx : ((List.range n).map fun j => Value.int k (vx 0 x j)).toArray = xs) (hy : ((List.range n).map fun j => Value.int k (vx 0 y j)).toArray = ys) :
    (Op.equalIn (d + 2) t (.agg xs) (.agg ys)).run P w = .ok (decide (x = y)) w := by
  subst hx hy
  rw [run_equalIn_arr (d + 1) ht hn, eqElems_int he _ (fun i hi => List.mem_range.1 hi)]
  congr 1
  rw [Bool.eq_iff_iff]
  simp only [List.all_eq_true, List.mem_range, beq_iff_eq, decide_eq_true_eq]
  constructor
  · intro h; exact vx_ext 0 h
  · rintro rfl i _; rfl
end
section
variable {P : Program} {ev : Operand → Value} {G : List Nat} {w0 w : World} {As : List Asn} {T : TypeId} {g : Nat} {cs : List Value}
theorem box_at {o : Nat} {u : Value} (hst : St G w0 w (box g T cs :: As)) (hv : cs[o]? = some u) : w.cell? ⟨g, o, none⟩ = some u := by
  rw [cell_of_row w g o cs.toArray T (0, 0) hst.heap]
  simpa using hv
end

section
variable {G : List Nat} {w0 w : World} {As Bs : List Asn}
theorem Cov.perm (h : As.Perm Bs) : ∀ {L : BL}, Cov As L → ∃ L', Cov Bs L' ∧ L.Perm L' := by
  induction h with
  | nil => intro L h; exact ⟨L, h, .refl _⟩
  | cons A _ ih =>
    rintro L ⟨L1, L2, rfl, ha, hr⟩
    obtain ⟨L2', h1, h2⟩ := ih hr
    exact ⟨L1 ++ L2', ⟨L1, L2', rfl, ha, h1⟩, List.Perm.append_left _ h2⟩
  | swap A B l => intro L h; exact Cov.swap h
  | trans _ _ ih1 ih2 =>
    intro L h
    obtain ⟨L1, h1, h2⟩ := ih1 h
    obtain ⟨L2, h3, h4⟩ := ih2 h1
    exact ⟨L2, h3, h2.trans h4⟩
theorem St.perm (h : St G w0 w As) (hp : As.Perm Bs) : St G w0 w Bs := by
  obtain ⟨L, hc, hs⟩ := h
  obtain ⟨L', h1, h2⟩ := Cov.perm hp hc
  exact ⟨L', h1, hs.perm h2⟩
end
end Go.Proofs.YtlpiomnmaiddbaaGreatDoor.E
namespace Go.Proofs.YtlpiomnmaiddbaaGreatDoor.E
set_option linter.unusedVariables false
set_option linter.unusedSimpArgs false
open Go Go.RowKit
section
variable {P : Program} {w w0 w' : World} {G : List Nat} {As : List Asn} {ev : Operand → Value} {α : Type} {E : Enc α} {A : Option Addr} {cap : Nat} {T : TypeId}
/-- string(b). -/
theorem x_conv {src dst e : TypeId} {x : Operand} {ty : TypeId} {l : List Int} (hq : Rd w (eI .u8) A cap l) (hs : P.underlying src = some (.slice e)) (he : P.underlying e = some (.int .u8)) (hd : P.underlying dst = some .string)
    (hx : ev x = .slice A l.length cap) : (execOp ev (mkO (.convert src dst x) ty)).run P w = .ok (.value (.string (strOfNums l))) w := by
  refine run_v ?_
  show (convert src dst (ev x)).run P w = _
  rw [hx]
  cases A with
  | none =>
    have hl : l = [] := by
      cases l with
      | nil => rfl
      | cons q r => obtain ⟨b, hb, _⟩ := hq.2 0 q rfl; cases hb
    subst hl
    rw [run_convert_bytes_nil w src e hs he _ _ dst hd]
    rfl
  | some a =>
    have hl : (loadCells a l.length).run P w = .ok (l.map (Value.int .u8)).toArray w := by
      have := run_loadCells_list (P := P) w a (l.map (Value.int .u8)) (fun j v hj => by
        rw [List.getElem?_map] at hj
        obtain ⟨z, hz, rfl⟩ := Option.map_eq_some_iff.1 hj
        obtain ⟨b, hb, hc⟩ := hq.2 j z hz
        cases hb
        have := hc 0 (.int .u8 z) rfl
        simpa [eI] using this)
      simpa using this
    rw [run_convert_bytes_string w src dst e _ l.length cap hs he hd, run_bytesToString w _ l.length cap l hl, foldl_push_bytes]
    simp [strOfNums, ByteArray.empty, ByteArray.emptyWithCapacity]
    rfl
/-- What copy(xs[lo:], bs) makes of xs. -/
def lput (l : List Int) (lo : Nat) (bs : List Int) : List Int := l.take lo ++ (bs.take (l.length - lo) ++ l.drop (lo + bs.length))
theorem lput_length (l : List Int) (lo : Nat) (bs : List Int) : (lput l lo bs).length = max l.length (min l.length lo) := by
  unfold lput
  simp only [List.length_append, List.length_take, List.length_drop]
  omega
theorem lput_len {l : List Int} {lo : Nat} {bs : List Int} : (lput l lo bs).length = l.length := by
  rw [lput_length]; omega
theorem bytesL_length (s : ByteArray) : (bytesL s).length = s.size := by unfold bytesL; rw [List.length_map, Array.length_toList]; rfl
theorem bytesL_cells (s : ByteArray) (n : Nat) : ((s.extract 0 n).data.map fun b => (Value.int .u8 b.toNat)).toList = ((bytesL s).take n).map (Value.int .u8) := by
  unfold bytesL
  rw [Array.toList_map, List.map_take, List.map_map]
  have : (s.extract 0 n).data.toList = s.data.toList.take n := by
    rw [ByteArray.data_extract, Array.toList_extract]
    simp [List.extract_eq_take_drop]
  rw [this, List.map_take]
  rfl
theorem flat_u8 : ∀ r : List Int, r.flatMap (eI .u8).enc = r.map (Value.int .u8)
  | [] => rfl
  | a :: r => by rw [List.flatMap_cons, flat_u8 r]; rfl
/-- copy(xs[lo:], s) into a row of the call's own. -/
theorem x_copys {dT sT e : TypeId} {y z : Operand} {ty : TypeId} {l : List Int} {lo dcap : Nat} {s : ByteArray} {A' : Option Addr} 
    (hst : St G w0 w (own T (eI .u8) A cap l :: As)) (ht : P.underlying dT = some (.slice e)) (hs : (P.info? e).map (·.size) = some 1)
    (hx : ev y = .slice A' (l.drop lo).length dcap) (hA : A' = cutA A cap lo (eI .u8).sz) (hlo : lo ≤ l.length) (hz : ev z = .string s) :
    ∃ w', (execOp ev (mkO (.call { callee := .builtin .copy, args := #[y, z], argTypes := #[dT, sT] }) ty)).run P w = .ok (.value (.int .i64 (((bytesL s).take (l.length - lo)).length : Int))) w' ∧ St G w0 w' (own T (eI .u8) A cap (lput l lo (bytesL s)) :: As) := by
  have hrun : ∀ {u w'}, (Builtin.copy_ #[dT, sT] ty #[.slice A' (l.drop lo).length dcap, .string s]).run P w = .ok u w' →
      (execOp ev (mkO (.call { callee := .builtin .copy, args := #[y, z], argTypes := #[dT, sT] }) ty)).run P w = .ok (.value u) w' := by
    intro u w' h
    unfold execOp mkO
    simp only [resolve, invoke, builtin, Sem.run_bind, Sem.run_pure, Result.andThen_ok, List.map_toArray, List.map_cons, List.map_nil, hx, hz, h]
  obtain ⟨inf, hi, hsz⟩ := Option.map_eq_some_iff.1 hs
  have hmin : Nat.min s.size (l.drop lo).length = ((bytesL s).take (l.length - lo)).length := by
    rw [List.length_take, bytesL_length, List.length_drop]; exact Nat.min_comm _ _
  generalize hq : (bytesL s).take (l.length - lo) = q at *
  have hql : q.length ≤ l.length - lo := by rw [← hq, List.length_take]; omega
  have hcells : ((s.extract 0 q.length).data.map fun b => (Value.int .u8 b.toNat)).toList = q.map (Value.int .u8) := by
    rw [bytesL_cells, ← hq, List.length_take]
    congr 1
    rw [List.take_eq_take_iff]
    omega
  have hstart0 : ∀ len, Nat.min s.size len = q.length → (Builtin.copy_ #[dT, sT] ty #[.slice A' len dcap, .string s]).run P w = ((stA A' ((s.extract 0 q.length).data.map fun b => (Value.int .u8 b.toNat)).toList).run P w).andThen fun _ w' => .ok (.int .i64 (q.length : Int)) w' := by
    intro len hm
    generalize q.length = n at hm
    subst hm
    cases A' with
    | none => simp only [Builtin.copy_, run_underlying ht, Builtin.lenOf, sizeOf, typeInfo, Builtin.firstCells, goInt, stA, Sem.run_bind, Sem.run_pure, Result.andThen_ok, List.getElem?_toArray, List.getElem?_cons_zero, List.getElem?_cons_succ]; simp [hi, hsz, Result.andThen]
    | some q => simp only [Builtin.copy_, run_underlying ht, Builtin.lenOf, sizeOf, typeInfo, Builtin.firstCells, goInt, stA, Sem.run_bind, Sem.run_pure, Result.andThen_ok, List.getElem?_toArray, List.getElem?_cons_zero, List.getElem?_cons_succ]; simp [hi, hsz, Result.andThen]
  have hstart : (Builtin.copy_ #[dT, sT] ty #[.slice A' (l.drop lo).length dcap, .string s]).run P w = ((stA A' (q.map (Value.int .u8))).run P w).andThen fun _ w' => .ok (.int .i64 (q.length : Int)) w' := by
    rw [hstart0 _ hmin, hcells]
  obtain ⟨LL, ⟨L1, L2, rfl, hown, hr'⟩, hs'⟩ := hst
  rcases hown with ⟨rfl, rfl, rfl, rfl⟩ | ⟨g, b0, cur, hg, h2, h3, h4, h5, rfl⟩
  · have hA0 : A' = none := by rw [hA]; unfold cutA; split <;> rfl
    have hq0 : q = [] := List.eq_nil_of_length_eq_zero (by simp at hql; exact hql ▸ rfl)
    subst hq0
    refine ⟨w, hrun ?_, ⟨_, ⟨[], L2, rfl, .inl ⟨rfl, rfl, ?_, rfl⟩, hr'⟩, hs'⟩⟩
    · rw [hstart, hA0]
      simp [stA, Result.andThen]
    · unfold lput
      simp
  · subst hg
    have hh : w.heap[g]? = some (.cells cur T (0, 0)) := hs'.here (g, .cells cur T (0, 0)) (by simp)
    have hsz1 : (eI .u8).sz = 1 := rfl
    rw [hsz1, Nat.mul_one] at h4 h5
    have hfl := flat_u8 l
    have hfl' := flat_u8
    rw [hfl] at h5
    have hcl : b0 + cap ≤ cur.toList.length := by rw [Array.length_toList]; exact h4
    have hput : lput l lo (bytesL s) = l.take lo ++ (q ++ l.drop (lo + q.length)) := by
      unfold lput
      rw [hq]
      congr 2
      by_cases hb : (bytesL s).length ≤ l.length - lo
      · rw [← hq, List.take_of_length_le hb]
      · rw [List.drop_eq_nil_of_le (by omega), List.drop_eq_nil_of_le]
        rw [← hq, List.length_take]; omega
    by_cases hq0 : q = []
    · have hsame : lput l lo (bytesL s) = l := by rw [hput, hq0]; simp
      rw [hsame]
      refine ⟨w, hrun ?_, ⟨_, ⟨[_], L2, rfl, .inr ⟨g, b0, cur, rfl, h2, h3, by rw [hsz1, Nat.mul_one]; exact h4, by rw [hsz1, Nat.mul_one, hfl' l]; exact h5, rfl⟩, hr'⟩, hs'⟩⟩
      rw [hstart, hq0]
      cases A' with
      | none => simp [stA, Result.andThen]
      | some q => simp [stA, storeCells, Result.andThen]
    · have hql0 : 0 < q.length := by cases q with | nil => exact absurd rfl hq0 | cons a r => simp
      have hAs : A' = some ⟨g, b0 + lo, none⟩ := by
        rw [hA]
        unfold cutA
        rw [if_neg (by omega), hsz1, Nat.mul_one]
        exact congrArg some (badd g b0 lo)
      subst hAs
      have hst' := run_storeCells_at P g (b0 + lo) T (q.map (Value.int .u8)) 0 cur w hh (by simp only [List.length_map]; omega) (fun u hu => by
        obtain ⟨q, _, rfl⟩ := List.mem_map.1 hu; rfl)
      simp only [Nat.add_zero, List.length_map] at hst'
      refine ⟨w.setRow g (cur.toList.take (b0 + lo) ++ q.map (Value.int .u8) ++ cur.toList.drop (b0 + lo + q.length)).toArray, hrun ?_, ?_⟩
      · rw [hstart]
        simp only [stA, hst', Result.andThen]
      · refine ⟨_, ⟨[_], L2, rfl, .inr ⟨g, b0, _, rfl, by rw [lput_len]; exact h2, h3, ?_, ?_, rfl⟩, hr'⟩, hs'.setRow⟩
        · simp only [List.size_toArray, List.length_append, List.length_take, List.length_drop, List.length_map, hsz1]
          omega
        · rw [lput_len, hsz1, Nat.mul_one, hfl', hput]
          simp only [List.map_append, List.map_take, List.map_drop]
          have t2 : (q.map (Value.int .u8)).length = q.length := List.length_map ..
          have := row_put (vs := q.map (Value.int .u8)) (p := lo) h5 (by omega) (by omega)
          rw [t2, List.append_assoc (List.take lo _)] at this
          exact this
end

section
variable {P : Program} {ev : Operand → Value} {G : List Nat} {w0 w : World} {As : List Asn} {T : TypeId} {α : Type} {E : Enc α} {A : Option Addr} {cap : Nat} {l : List α}
theorem zero_cells {z : Value} (hz : z.cells.toList = E.enc E.d) (n : Nat) : (Builtin.zeroCells z.cells n).toList = (List.replicate n E.d).flatMap E.enc := by
  have hzl : z.cells.size = E.sz := by rw [← Array.length_toList, hz, E.len]
  apply List.ext_getElem?
  intro j
  by_cases hj : j < n * E.sz
  · have hdm := Nat.div_add_mod j E.sz
    have hmod := Nat.mod_lt j E.pos
    have hdiv : j / E.sz < n := Nat.div_lt_of_lt_mul (by rw [Nat.mul_comm]; exact hj)
    have hg : (List.replicate n E.d)[j / E.sz]? = some E.d := by simp [hdiv]
    have hf := flat_get (E := E) hg hmod
    rw [show j / E.sz * E.sz + j % E.sz = j by rw [Nat.mul_comm]; exact hdm] at hf
    rw [hf, ← hz]
    simp only [Builtin.zeroCells, hzl, Array.toList_map, Array.toList_range, List.getElem?_map, List.getElem?_range hj, Option.map_some, Array.getElem?_toList]
    rw [Array.getElem?_eq_getElem (by rw [hzl]; exact hmod), getElem!_pos z.cells (j % E.sz) (by rw [hzl]; exact hmod)]
  · rw [List.getElem?_eq_none (by simp [Builtin.zeroCells, hzl]; omega), List.getElem?_eq_none (by rw [flat_len, List.length_replicate]; omega)]
theorem appendz_room {t tx ty : TypeId} {i : TypeInfo} {n : Int} {b off sLen sCap : Nat} {zs : List Value} (ht : P.underlying t = some (.slice T)) (hk : P.underlying tx = some (.int .i64)) (hi : P.info? T = some i) {z : Value} (hz : i.zero = some z) (h0 : 0 ≤ n) (hn : n ≤ 4611686018427387904) (hlim : n * i.bytes ≤ 281474976710656)
    (hzs : (Builtin.zeroCells z.cells n.toNat).toList = zs) (hz0 : n.toNat * i.size = 0 → zs = []) (hroom : sLen + n.toNat ≤ sCap) (hc : ∀ j, j < zs.length → (w.cell? ⟨b, off + sLen * i.size + j, none⟩).isSome = true) (hf : ∀ j, j < zs.length → w.frozen? ⟨b, off + sLen * i.size + j, none⟩ = false) (h1 : ∀ u ∈ zs, u.oneCell' = true) :
    (Builtin.append_ #[t, tx] ty #[.slice (some ⟨b, off, none⟩) sLen sCap, .int .i64 n]).run P w = .ok (.slice (some ⟨b, off, none⟩) (sLen + n.toNat) sCap) (w.setCells b (off + sLen * i.size) zs) := by
  have hst := run_storeCells_cells (P := P) b (off + sLen * i.size) zs 0 w (by simpa using hc) (by simpa using hf) h1
  simp only [Nat.add_zero] at hst
  have hw : IntKind.i64.wrap n = n := by rw [IntKind.wrap_i64]; omega
  have hn0 : ¬ n < 0 := by omega
  have hl : ¬ (281474976710656 < n * i.bytes) := by omega
  by_cases h : n.toNat * i.size = 0
  · have := hz0 h
    subst this
    simp [Builtin.append_, run_underlying ht, run_underlying hk, sizeOf, typeInfo, zeroValue, asInt, asIntOf, hi, hz, hw, hn0, hl, h, hroom, Addr.add_lit, hst]
  · have e : Builtin.zeroCells z.cells n.toNat = zs.toArray := by rw [← hzs]
    simp [Builtin.append_, run_underlying ht, run_underlying hk, sizeOf, typeInfo, zeroValue, asInt, asIntOf, hi, hz, hw, hn0, hl, h, hroom, Addr.add_lit, e, hst]
theorem appendz_grow {t tx ty : TypeId} {i : TypeInfo} {n : Int} {base : Option Addr} {sLen sCap : Nat} {zs olds : List Value} (ht : P.underlying t = some (.slice T)) (hk : P.underlying tx = some (.int .i64)) (hi : P.info? T = some i) {z : Value} (hz : i.zero = some z) (h0 : 0 ≤ n) (hn : n ≤ 4611686018427387904) (hlim : n * i.bytes ≤ 281474976710656)
    (hold : (Builtin.firstCells i.size sLen (.slice base sLen sCap)).run P w.drew = .ok olds.toArray w.drew)
    (hzs : (Builtin.zeroCells z.cells n.toNat).toList = zs) (hz0 : n.toNat * i.size = 0 → zs = []) (hg : sCap < sLen + n.toNat) (h63 : ((sLen + n.toNat : Nat) : Int) ≤ 9223372036854775807) (hfit : Builtin.nextslicecap (sLen + n.toNat) sCap * i.bytes ≤ 281474976710656) :
    (Builtin.append_ #[t, tx] ty #[.slice base sLen sCap, .int .i64 n]).run P w = .ok (.slice (some ⟨w.heap.size, 0, none⟩) (sLen + n.toNat) (grownCap w (sLen + n.toNat) sCap T))
      (w.drew.alloc (.cells ((olds ++ zs).toArray ++ Builtin.zeroCells z.cells (grownCap w (sLen + n.toNat) sCap T - (sLen + n.toNat))) T)) := by
  have hw : IntKind.i64.wrap n = n := by rw [IntKind.wrap_i64]; omega
  have hn0 : ¬ n < 0 := by omega
  have hl : ¬ (281474976710656 < n * i.bytes) := by omega
  have hroom : ¬ (sLen + n.toNat ≤ sCap) := by omega
  have h63' : ¬ (9223372036854775807 < ((sLen : Int) + max n 0)) := by omega
  have h48' : ¬ (281474976710656 < Builtin.nextslicecap (sLen + n.toNat) sCap * i.bytes) := by omega
  by_cases h : n.toNat * i.size = 0
  · have := hz0 h
    subst this
    simp [Builtin.append_, run_underlying ht, run_underlying hk, sizeOf, typeInfo, zeroValue, asInt, asIntOf, hi, hz, hw, hn0, hl, h, hroom, h63', h48', Question.forced, hold, newRow, grownCap]
  · have e : Builtin.zeroCells z.cells n.toNat = zs.toArray := by rw [← hzs]
    simp [Builtin.append_, run_underlying ht, run_underlying hk, sizeOf, typeInfo, zeroValue, asInt, asIntOf, hi, hz, hw, hn0, hl, h, hroom, h63', h48', Question.forced, hold, newRow, grownCap, e]
    congr 2
    apply Array.ext'
    simp [List.append_assoc]
/-- So many noughts onto an own row (or nil). -/
theorem x_appendz {t tx : TypeId} {x y : Operand} {ty : TypeId} {z : Value} {bytes : Nat} {n : Int} (hst : St G w0 w (own T E A cap l :: As))
    (ht : P.underlying t = some (.slice T)) (hk : P.underlying tx = some (.int .i64)) (hinfo : (P.info? T).map (fun i => (i.zero, i.size, i.bytes)) = some (some z, E.sz, bytes)) (hz : z.cells.toList = E.enc E.d)
    (hx : ev x = .slice A l.length cap) (hy : ev y = .int .i64 n) (h0 : 0 ≤ n) (hlim0 : n * (bytes : Int) ≤ 281474976710656)
    (hlim : (l.length + n.toNat) * bytes ≤ 140737488355328) (hmax : l.length + n.toNat ≤ 4611686018427387904) :
    ∃ A' cap' w', (execOp ev (mkO (.call { callee := .builtin .append, args := #[x, y], argTypes := #[t, tx] }) ty)).run P w = .ok (.value (.slice A' (l ++ List.replicate n.toNat E.d).length cap')) w' ∧ St G w0 w' (own T E A' cap' (l ++ List.replicate n.toNat E.d) :: As) := by
  obtain ⟨inf, hi, hzz, hsz, hby⟩ := info_parts hinfo
  obtain ⟨LL, ⟨L1, L2, rfl, ho, hr⟩, hs⟩ := hst
  have hrun : ∀ {v w'}, (Builtin.append_ #[t, tx] ty #[.slice A l.length cap, .int .i64 n]).run P w = .ok v w' →
      (execOp ev (mkO (.call { callee := .builtin .append, args := #[x, y], argTypes := #[t, tx] }) ty)).run P w = .ok (.value v) w' := by
    intro v w' h
    unfold execOp mkO
    simp only [resolve, invoke, builtin, Sem.run_bind, Sem.run_pure, Result.andThen_ok, List.map_toArray, List.map_cons, List.map_nil, hx, hy, h]
  have hzs := zero_cells (E := E) hz n.toNat
  have hz0 : n.toNat * inf.size = 0 → (List.replicate n.toNat E.d).flatMap E.enc = [] := fun h => by
    have : n.toNat = 0 := by
      rcases Nat.mul_eq_zero.1 h with h | h
      · exact h
      · have := E.pos; omega
    simp [this]
  have hzc : z.cells.size = E.sz := by rw [← Array.length_toList, hz, E.len]
  generalize hl2 : List.replicate n.toNat E.d = l2 at *
  have hn2 : l2.length = n.toNat := by rw [← hl2, List.length_replicate]
  have hlen2 := flat_len (E := E) l2
  have hlen : (l ++ l2).length = l.length + n.toNat := by rw [List.length_append, hn2]
  by_cases hroom : l.length + n.toNat ≤ cap
  · rcases ho with ⟨rfl, rfl, rfl, rfl⟩ | ⟨g, b0, cur, rfl, h2, h3, h4, h5, rfl⟩
    · -- nil, and nothing to append
      have h00 : n.toNat = 0 := by simpa using hroom
      have h0' : l2 = [] := List.eq_nil_of_length_eq_zero (by omega)
      subst h0'
      have e0 : n = 0 := by omega
      subst e0
      refine ⟨none, 0, w, hrun ?_, L2, ⟨[], L2, rfl, .inl ⟨rfl, rfl, rfl, rfl⟩, hr⟩, hs⟩
      simp [Builtin.append_, run_underlying ht, run_underlying hk, sizeOf, typeInfo, asInt, asIntOf, hi, IntKind.wrap_i64]
    · have hh : w.heap[g]? = some (.cells cur T (0, 0)) := hs.here (g, .cells cur T (0, 0)) (by simp)
      have hmul : (l.length + n.toNat) * E.sz ≤ cap * E.sz := Nat.mul_le_mul_right _ hroom
      rw [Nat.add_mul] at hmul
      rw [hn2] at hlen2
      have hst := run_storeCells_at P g (b0 + l.length * inf.size) T (l2.flatMap E.enc) 0 cur w hh (by rw [hsz]; simp only [Nat.add_zero]; omega) (flat_one l2)
      simp only [Nat.add_zero] at hst
      have hw : IntKind.i64.wrap n = n := by rw [IntKind.wrap_i64]; omega
      have hn0 : ¬ n < 0 := by omega
      have hl : ¬ (281474976710656 < n * inf.bytes) := by rw [hby]; omega
      refine ⟨some ⟨g, b0, none⟩, cap, w.setRow g (cur.toList.take (b0 + l.length * inf.size) ++ (l2.flatMap E.enc) ++ cur.toList.drop (b0 + l.length * inf.size + (l2.flatMap E.enc).length)).toArray, hrun ?_, ?_⟩
      · rw [hlen]
        by_cases h : n.toNat * inf.size = 0
        · have e2 := hz0 h
          rw [e2] at hst ⊢
          simp [Builtin.append_, run_underlying ht, run_underlying hk, sizeOf, typeInfo, zeroValue, asInt, asIntOf, hi, hzz, hw, hn0, hl, h, hroom, Addr.add_lit]
          simp at hst
          simp [hst]
        · have e : Builtin.zeroCells z.cells n.toNat = (l2.flatMap E.enc).toArray := by rw [← hzs]
          simp [Builtin.append_, run_underlying ht, run_underlying hk, sizeOf, typeInfo, zeroValue, asInt, asIntOf, hi, hzz, hw, hn0, hl, h, hroom, Addr.add_lit, e, hst]
      · refine ⟨_, ⟨[_], L2, rfl, .inr ⟨g, b0, _, rfl, by omega, h3, ?_, ?_, rfl⟩, hr⟩, hs.setRow⟩
        · simp only [List.size_toArray, List.length_append, List.length_take, List.length_drop, Array.length_toList, hsz]; omega
        · rw [hlen, List.flatMap_append, hsz]
          exact row_app h5 (by have hcl : cur.toList.length = cur.size := Array.length_toList; omega) (by rw [hlen2, Nat.add_mul])
  · -- a new row
    have hg : cap < l.length + n.toNat := by omega
    have hold : (Builtin.firstCells inf.size l.length (.slice A l.length cap)).run P w.drew = .ok (l.flatMap E.enc).toArray w.drew := by
      rcases ho with ⟨rfl, rfl, rfl, rfl⟩ | ⟨g, b0, cur, rfl, h2, h3, h4, h5, rfl⟩
      · simp [Builtin.firstCells]
      · have hh : w.heap[g]? = some (.cells cur T (0, 0)) := hs.here (g, .cells cur T (0, 0)) (by simp)
        refine run_firstCells_some w.drew inf.size l.length _ _ _ _ (by rw [hsz]; exact flat_len l) fun j u hj => ?_
        show w.cell? _ = _
        rw [badd, cell_of_row w g _ cur T (0, 0) hh]
        have := take_get h5 hj
        simpa using this
    have hgrow := appendz_grow (P := P) (w := w) (ty := ty) (n := n) ht hk hi hzz h0 (by omega) (by rw [hby]; exact hlim0) hold hzs hz0 hg (by omega) (growslice_fits hg (by rw [hby]; exact hlim))
    have hge := grownCap_ge w (l.length + n.toNat) cap T
    have hcm : grownCap w (l.length + n.toNat) cap T ≤ maxLen := grownCap_le_maxLen w _ cap T (by simp only [maxLen]; omega)
    rw [hn2] at hlen2
    refine ⟨some ⟨w.heap.size, 0, none⟩, grownCap w (l.length + n.toNat) cap T, _, hrun (by rw [hlen]; exact hgrow), ?_⟩
    have hdrew : StB G w0 w.drew (L1 ++ L2) := hs.same rfl rfl rfl (Nat.le_refl _) fun _ _ => rfl
    have hal := (hdrew.sub (List.sublist_append_right L1 L2)).alloc (.cells ((l.flatMap E.enc ++ l2.flatMap E.enc).toArray ++ Builtin.zeroCells z.cells (grownCap w (l.length + n.toNat) cap T - (l.length + n.toNat))) T)
    refine ⟨_, ⟨[_], L2, rfl, .inr ⟨w.heap.size, 0, _, rfl, by omega, hcm, ?_, ?_, rfl⟩, hr⟩, hal⟩
    · have hfl := flat_len (E := E) l
      simp only [Nat.zero_add, Array.size_append, List.size_toArray, List.length_append, size_zeroCells, hzc, hlen2, hfl, ← Nat.add_mul]
      exact Nat.mul_le_mul_right _ (by omega)
    · rw [hlen, List.flatMap_append]
      have hfl := flat_len (E := E) l
      simp only [Array.toList_append, List.drop_zero]
      rw [List.take_append_of_le_length (by simp only [List.length_append, Nat.add_mul]; omega)]
      exact List.take_of_length_le (by simp only [List.length_append, Nat.add_mul]; omega)
end

section
variable {P : Program} {ev : Operand → Value} {G : List Nat} {w0 w : World} {As : List Asn} {T : TypeId} {α : Type} {E : Enc α} {A : Option Addr} {cap : Nat} {l : List α}
/-- An own row, cut to its length and no room behind. -/
theorem x_trim {t : TypeId} {x y y' : Operand} {ty : TypeId} {k k' : IntKind} (hst : St G w0 w (own T E A cap l :: As)) (hx : ev x = .slice A l.length cap) (hy : ev y = .int k (l.length : Int)) (hy' : ev y' = .int k' (l.length : Int))
    (ht : P.underlying t = some (.slice T) := by kernel_rfl) (hs : ((P.info? T).map (·.size)).isSome = true := by kernel_rfl) :
    (execOp ev (mkO (.slice t x none (some y) (some y')) ty)).run P w = .ok (.value (.slice A l.length l.length)) w ∧ St G w0 w (own T E A l.length l :: As) := by
  obtain ⟨LL, ⟨L1, L2, rfl, ho, hr⟩, hst⟩ := hst
  have hle : l.length ≤ cap := by
    rcases ho with ⟨_, h, h', _⟩ | ⟨_, _, _, _, h, _⟩
    · rw [h']; exact Nat.zero_le _
    · exact h
  refine ⟨run_v ?_, _, ⟨L1, L2, rfl, ?_, hr⟩, hst⟩
  · show (Instr.sliceAt t (ev x) none (some (ev y)) (some (ev y'))).run P w = _
    obtain ⟨he, hT⟩ := pelem ht
    obtain ⟨sz, hsz⟩ := Option.isSome_iff_exists.1 hs
    obtain ⟨inf, hi, hsz'⟩ := Option.map_eq_some_iff.1 hsz
    rw [hx, hy, hy']
    have a0 : ∀ a : Addr, a.add 0 = a := fun a => by unfold Addr.add; split <;> simp_all
    by_cases h0 : l = []
    · subst h0
      simp [Instr.sliceAt, Instr.slice, run_underlying ht, Instr.sliceBounds, run_sliceBound, sizeOf, typeInfo, hi, he, hT]
    · have : ¬ l.length = 0 := fun e => h0 (List.eq_nil_of_length_eq_zero e)
      simp [Instr.sliceAt, Instr.slice, run_underlying ht, Instr.sliceBounds, run_sliceBound, sizeOf, typeInfo, hi, he, hT, hle, this, a0]
  · rcases ho with ⟨h1, h2, h3, h4⟩ | ⟨g, b0, cur, h1, h2, h3, h4, h5, h6⟩
    · exact .inl ⟨h1, by rw [h3]; rfl, h3, h4⟩
    · exact .inr ⟨g, b0, cur, h1, Nat.le_refl _, Nat.le_trans h2 h3, Nat.le_trans (Nat.add_le_add_left (Nat.mul_le_mul_right _ h2) _) h4, h5, h6⟩
end

section
variable {α : Type} {E : Enc α} {G : List Nat} {w0 w : World} {A A' : Option Addr} {cap cap' : Nat} {l l' : List α} {As : List Asn} {T : TypeId} {x : α}
theorem St.oM_of {m : Option Addr → α → Asn} (h : St G w0 w (m A x :: As)) : St G w0 w (oM m A (some x) :: As) := h
theorem St.oM_some {m : Option Addr → α → Asn} {o : Option α} (h : St G w0 w (oM m A o :: As)) (ho : o = some x) : St G w0 w (m A x :: As) := by subst ho; exact h
theorem St.oM_back {m : Option Addr → α → Asn} {o : Option α} (h : St G w0 w (m A x :: As)) (ho : o = some x) : St G w0 w (oM m A o :: As) := by subst ho; exact h
end
section
variable {P : Program} {ev : Operand → Value} {G : List Nat} {w0 w : World} {A : Option Addr} {cap : Nat} {As : List Asn} {T : TypeId}
/-- What copy(xs, ys) makes of xs. -/
def lputw (l l2 : List Int) : List Int := l2.take l.length ++ l.drop l2.length
theorem lputw_len {l l2 : List Int} : (lputw l l2).length = l.length := by unfold lputw; simp only [List.length_append, List.length_take, List.length_drop]; omega
theorem flat_eI {k : IntKind} : ∀ r : List Int, r.flatMap (eI k).enc = r.map (Value.int k)
  | [] => rfl
  | a :: r => by rw [List.flatMap_cons, flat_eI r]; rfl
/-- copy(xs, ys) into a row of the call's own. -/
theorem x_copyw {dT sT e : TypeId} {y z : Operand} {ty : TypeId} {k : IntKind} {l l2 : List Int} {A2 : Option Addr} {c2 : Nat} 
    (hst : St G w0 w (own T (eI k) A cap l :: As)) (ht : P.underlying dT = some (.slice e)) (hs : (P.info? e).map (·.size) = some 1)
    (hx : ev y = .slice A l.length cap) (hz : ev z = .slice A2 l2.length c2) (hr : Rd w (eI k) A2 c2 l2) :
    ∃ w', (execOp ev (mkO (.call { callee := .builtin .copy, args := #[y, z], argTypes := #[dT, sT] }) ty)).run P w = .ok (.value (.int .i64 ((l2.take l.length).length : Int))) w' ∧ St G w0 w' (own T (eI k) A cap (lputw l l2) :: As) := by
  have hrun : ∀ {u w'}, (Builtin.copy_ #[dT, sT] ty #[.slice A l.length cap, .slice A2 l2.length c2]).run P w = .ok u w' →
      (execOp ev (mkO (.call { callee := .builtin .copy, args := #[y, z], argTypes := #[dT, sT] }) ty)).run P w = .ok (.value u) w' := by
    intro u w' h
    unfold execOp mkO
    simp only [resolve, invoke, builtin, Sem.run_bind, Sem.run_pure, Result.andThen_ok, List.map_toArray, List.map_cons, List.map_nil, hx, hz, h]
  generalize hlen : l.length = len at *
  have hmin : Nat.min l2.length len = (l2.take len).length := by rw [List.length_take]; exact Nat.min_comm _ _
  obtain ⟨inf, hi, hsz⟩ := Option.map_eq_some_iff.1 hs
  have hcells : (Builtin.firstCells 1 (l2.take len).length (.slice A2 l2.length c2)).run P w = .ok ((l2.take len).map (Value.int k)).toArray w := by
    rcases hr with ⟨_, hrd⟩
    cases hl : l2.take len with
    | nil =>
      cases A2 with
      | none => simp [Builtin.firstCells]
      | some b => simp [Builtin.firstCells, loadCells, loadCellsFrom]
    | cons q qs =>
      have h0 : ∃ b, A2 = some b := by
        cases l2 with
        | nil => simp at hl
        | cons q' r => obtain ⟨b, hb, _⟩ := hrd 0 q' rfl; exact ⟨b, hb⟩
      obtain ⟨b, rfl⟩ := h0
      rw [← hl]
      refine run_firstCells_some w 1 (l2.take len).length b l2.length c2 _ (by simp) fun j u hj => ?_
      rw [List.getElem?_map] at hj
      obtain ⟨z', hz', rfl⟩ := Option.map_eq_some_iff.1 hj
      rw [List.getElem?_take] at hz'
      split at hz'
      · obtain ⟨b', hb', hc'⟩ := hrd j z' hz'
        cases hb'
        have := hc' 0 (.int k z') rfl
        simpa [eI] using this
      · cases hz'
  have hstart : (Builtin.copy_ #[dT, sT] ty #[.slice A len cap, .slice A2 l2.length c2]).run P w = ((stA A ((l2.take len).map (Value.int k))).run P w).andThen fun _ w' => .ok (.int .i64 ((l2.take len).length : Int)) w' := by
    generalize l2.take len = q2 at hmin hcells ⊢
    cases A with
    | none => simp [Builtin.copy_, run_underlying ht, Builtin.lenOf, hmin, sizeOf, typeInfo, hi, hsz, hcells, goInt, stA]
    | some q => simp [Builtin.copy_, run_underlying ht, Builtin.lenOf, hmin, sizeOf, typeInfo, hi, hsz, hcells, goInt, stA]
  obtain ⟨LL, ⟨L1, L2, rfl, hown, hr'⟩, hs'⟩ := hst
  have hput : lputw l l2 = l2.take len ++ l.drop l2.length := by unfold lputw; rw [hlen]
  rcases hown with ⟨rfl, rfl, rfl, rfl⟩ | ⟨g, b0, cur, hg, h2, h3, h4, h5, rfl⟩
  · have h0 : len = 0 := hlen.symm
    subst h0
    refine ⟨w, hrun ?_, ⟨_, ⟨[], L2, rfl, .inl ⟨rfl, rfl, by rw [hput]; simp, rfl⟩, hr'⟩, hs'⟩⟩
    rw [hstart]
    simp [stA, Result.andThen]
  · subst hg
    have hh : w.heap[g]? = some (.cells cur T (0, 0)) := hs'.here (g, .cells cur T (0, 0)) (by simp)
    have hsz1 : (eI k).sz = 1 := rfl
    rw [hsz1, Nat.mul_one] at h4 h5
    rw [flat_eI] at h5
    have hcl : b0 + cap ≤ cur.toList.length := by rw [Array.length_toList]; exact h4
    have hql : (l2.take len).length ≤ len := by rw [List.length_take]; omega
    have hst' := run_storeCells_at P g b0 T ((l2.take len).map (Value.int k)) 0 cur w hh (by simp only [List.length_map]; omega) (fun u hu => by
      obtain ⟨q, _, rfl⟩ := List.mem_map.1 hu; rfl)
    simp only [Nat.add_zero, List.length_map] at hst'
    refine ⟨w.setRow g (cur.toList.take b0 ++ (l2.take len).map (Value.int k) ++ cur.toList.drop (b0 + (l2.take len).length)).toArray, hrun ?_, ?_⟩
    · rw [hstart]
      simp only [stA, hst', Result.andThen]
    · refine ⟨_, ⟨[_], L2, rfl, .inr ⟨g, b0, _, rfl, by rw [lputw_len]; exact h2, h3, ?_, ?_, rfl⟩, hr'⟩, hs'.setRow⟩
      · simp only [List.size_toArray, List.length_append, List.length_take, List.length_drop, List.length_map, hsz1]
        omega
      · rw [lputw_len, hsz1, Nat.mul_one, flat_eI, hput]
        simp only [List.map_append, List.map_drop]
        have t2 : ((l2.take len).map (Value.int k)).length = (l2.take len).length := List.length_map ..
        have := row_put (vs := (l2.take len).map (Value.int k)) (p := 0) h5 (by omega) (by omega)
        rw [t2, Nat.zero_add, Nat.add_zero, List.take_zero, List.nil_append] at this
        refine this.trans ?_
        congr 1
        by_cases hb : l2.length ≤ len
        · rw [List.length_take, Nat.min_eq_right hb]
        · rw [List.drop_eq_nil_of_le (by simp only [List.length_map, List.length_take]; omega), List.drop_eq_nil_of_le (by simp only [List.length_map]; omega)]
end
section
variable {P : Program} {ev : Operand → Value} {α : Type} {E : Enc α} {G : List Nat} {w0 w w' : World} {A : Option Addr} {As : List Asn} {T : TypeId} {g : Nat} {cs : List Value} {x : α} {o : Option α}
/-- A variable's cells can be read. -/
def Rx (w : World) (g : Nat) (cs : List Value) : Prop := ∀ j u, cs[j]? = some u → w.cell? ⟨g, j, none⟩ = some u
theorem Rx.of_box (h : St G w0 w (box g T cs :: As)) : Rx w g cs := fun _ _ hu => box_at h hu
theorem Rx.blocks (h : Rx w g cs) (hb : ∀ k, k < w.heap.size → w'.heap[k]? = w.heap[k]?) : Rx w' g cs := fun j u hu => by
  have h1 := h j u hu
  have hl : g < w.heap.size := World.block_lt_of_cell? w _ h1
  rw [World.cell?_of_block (w := w) (hb g hl)]
  exact h1
theorem Rx.below (h : Rx w g cs) (hb : Below w.heap.size w w') : Rx w' g cs := h.blocks hb.block
theorem Rx.old (h : Rx w0 g cs) (hs : St [] w0 w As) : Rx w g cs := h.below hs.below
theorem Rd.blocks {cap : Nat} {l : List α} (h : Rd w E A cap l) (hb : ∀ k, k < w.heap.size → w'.heap[k]? = w.heap[k]?) : Rd w' E A cap l := h.move fun a ha hl => hb a.block (h.lt ha hl)
theorem Rd.one (h : Rd w E A 1 [x]) : ∃ a, A = Option.some a := by obtain ⟨a, ha, _⟩ := h.2 0 x rfl; exact ⟨a, ha⟩
def oR {α : Type} (r : World → Option Addr → α → Prop) (w : World) (A : Option Addr) (o : Option α) : Prop := match o with
  | none => A = none
  | some x => r w A x
theorem oR.of_oM {m : Option Addr → α → Asn} {r : World → Option Addr → α → Prop} (hr : ∀ x, St G w0 w (m A x :: As) → r w A x) (h : St G w0 w (oM m A o :: As)) : oR r w A o := by
  cases o with
  | none => exact (St.oM_none h).1
  | some x => exact hr x h
theorem oR.blocks {r : World → Option Addr → α → Prop} (hr : ∀ x, r w A x → r w' A x) (h : oR r w A o) : oR r w' A o := by
  cases o with
  | none => exact h
  | some x => exact hr x h
theorem oR.some {r : World → Option Addr → α → Prop} (h : oR r w A o) (ho : o = some x) : r w A x := by subst ho; exact h
end
end Go.Proofs.YtlpiomnmaiddbaaGreatDoor.E
namespace Go.Proofs.YtlpiomnmaiddbaaGreatDoor.E
set_option linter.unusedVariables false
set_option linter.unusedSimpArgs false
open Go Go.RowKit
/-! ### values without addresses -/
/-- A Bool: a test, or a value. -/
inductive BE where
  | dec (p : Prop) (d : Decidable p)
  | val (b : Bool)
  | not (e : BE)
  | s (b : Bool)
def BE.v : BE → Bool
  | .dec _ d => d.decide
  | .val b => b
  | .not e => !e.v
  | .s b => b
def BE.br {X : Type} : BE → X → X → X
  | .dec p d, x, y => @ite X p d x y
  | .val b, x, y => if b = true then x else y
  | .not e, x, y => e.br y x
  | .s b, x, y => if b = true then x else y
theorem BE.br_or {X : Type} : ∀ (e : BE) (x y : X), (e.v = true ∧ e.br x y = x) ∨ (e.v = false ∧ e.br x y = y)
  | .dec p d, x, y => by
    by_cases h : p
    · exact .inl ⟨decide_eq_true h, if_pos h⟩
    · exact .inr ⟨decide_eq_false h, if_neg h⟩
  | .val b, x, y => by cases b <;> simp [BE.v, BE.br]
  | .s b, x, y => by cases b <;> simp [BE.v, BE.br]
  | .not e, x, y => by
    rcases BE.br_or e y x with ⟨h1, h2⟩ | ⟨h1, h2⟩
    · exact .inr ⟨by simp [BE.v, h1], h2⟩
    · exact .inl ⟨by simp [BE.v, h1], h2⟩
theorem BE.s_v (b : Bool) : (BE.s b).v = b := rfl
/-- A cell, or an array of them, told as one. Slices and pointers name the row, or the variable, that they lead to. -/
inductive Cl where
  | int (k : IntKind) (n : Int)
  | bool (e : BE)
  | str (s : ByteArray)
  | vec (k : IntKind) (n : Nat) (x : Vector Int n)
  | vecb (n : Nat) (x : Vector Bool n)
  | nils
  | sl (o : Nat)
  | nilp
  | pt (o : Nat) (i : Int) (off : Nat) (j : Option (Int × Nat))
  | op (o : Nat)
  | mp (o : Nat)
  | nilf
  | nili
  | fn (f : Nat) (cs : List Nat)
inductive A1 where
  | c (x : Cl)
  | a (l : List Cl)
inductive AV where
  | o (x : A1)
  | t (l : List A1)
  | u
/-- Where a row, or a variable, lies. -/
structure Loc where
  A : Option Addr
  cap : Nat
  n : Nat
  sz : Nat
abbrev Rho := Nat → Option Loc
def Rho.le (ρ ρ' : Rho) : Prop := ∀ o L, ρ o = some L → ρ' o = some L
theorem Rho.le_refl (ρ : Rho) : ρ.le ρ := fun _ _ h => h
theorem Rho.le_trans {a b c : Rho} (h : a.le b) (k : b.le c) : a.le c := fun o L e => k o L (h o L e)
def capV (ρ : Rho) (o : Nat) (v : Value) : Prop := ∃ L A, ρ o = some L ∧ L.A = some A ∧ v = .pointer (some A)
def capsV (ρ : Rho) : List Nat → List Value → Prop
  | [], vs => vs = []
  | o :: r, vs => ∃ v s, vs = v :: s ∧ capV ρ o v ∧ capsV ρ r s
def jn : Option (Int × Nat) → Nat
  | none => 0
  | some p => p.1.toNat
/-- What cells it is. -/
def CR (ρ : Rho) : Cl → List Value → Prop
  | .int k n, vs => vs = [.int k n]
  | .bool e, vs => vs = [.bool e.v]
  | .str s, vs => vs = [.string s]
  | .vec k _ x, vs => vs = x.toList.map (Value.int k)
  | .vecb _ x, vs => vs = x.toList.map Value.bool
  | .nils, vs => vs = [.slice none 0 0]
  | .sl o, vs => ∃ L, ρ o = some L ∧ vs = [.slice L.A L.n L.cap]
  | .nilp, vs => vs = [.pointer none]
  | .pt o i off j, vs => ∃ L A, ρ o = some L ∧ L.A = some A ∧ (0 ≤ i ∧ i < (L.n : Int)) ∧ (∀ p, j = some p → 0 ≤ p.1 ∧ p.1 < (p.2 : Int)) ∧ vs = [.pointer (some (A.add (i.toNat * L.sz + off + jn j)))]
  | .op o, vs => ∃ L, ρ o = some L ∧ vs = [.pointer L.A]
  | .mp o, vs => ∃ L g, ρ o = some L ∧ L.A = some ⟨g, 0, none⟩ ∧ vs = [.map (some g)]
  | .nilf, vs => vs = [.nilFunc]
  | .nili, vs => vs = [.nilIface]
  | .fn f cs, vs => ∃ as, capsV ρ cs as ∧ vs = [.func (.func f) #[] as.toArray]
def CRs (ρ : Rho) : List Cl → List Value → Prop
  | [], vs => vs = []
  | c :: r, vs => ∃ a b, vs = a ++ b ∧ CR ρ c a ∧ CRs ρ r b
def AR1 (ρ : Rho) : A1 → Value → Prop
  | .c x, v => CR ρ x [v]
  | .a l, v => ∃ vs, v = .agg vs.toArray ∧ CRs ρ l vs
def ARs (ρ : Rho) : List A1 → List Value → Prop
  | [], vs => vs = []
  | x :: r, vs => ∃ v s, vs = v :: s ∧ AR1 ρ x v ∧ ARs ρ r s
def AR (ρ : Rho) : AV → Value → Prop
  | .o x, v => AR1 ρ x v
  | .t l, v => ∃ vs, v = .tuple vs.toArray ∧ ARs ρ l vs
  | .u, v => v = undef
section
variable {ρ ρ' : Rho}
theorem capV.mono (hl : ρ.le ρ') {o : Nat} {v : Value} (h : capV ρ o v) : capV ρ' o v := by
  obtain ⟨L, A, h1, h2, h3⟩ := h
  exact ⟨L, A, hl _ _ h1, h2, h3⟩
theorem capsV.mono (hl : ρ.le ρ') : ∀ {l : List Nat} {vs : List Value}, capsV ρ l vs → capsV ρ' l vs
  | [], _, h => h
  | _ :: _, _, ⟨v, s, h1, h2, h3⟩ => ⟨v, s, h1, h2.mono hl, h3.mono hl⟩
theorem CR.mono (hl : ρ.le ρ') {c : Cl} {vs : List Value} (h : CR ρ c vs) : CR ρ' c vs := by
  cases c with
  | sl o => obtain ⟨L, h1, h2⟩ := h; exact ⟨L, hl _ _ h1, h2⟩
  | pt o i off j => obtain ⟨L, A, h1, h2⟩ := h; exact ⟨L, A, hl _ _ h1, h2⟩
  | op o => obtain ⟨L, h1, h2⟩ := h; exact ⟨L, hl _ _ h1, h2⟩
  | mp o => obtain ⟨L, g, h1, h2⟩ := h; exact ⟨L, g, hl _ _ h1, h2⟩
  | fn f cs => obtain ⟨as, h1, h2⟩ := h; exact ⟨as, h1.mono hl, h2⟩
  | _ => exact h
theorem CRs.mono (hl : ρ.le ρ') : ∀ {l : List Cl} {vs : List Value}, CRs ρ l vs → CRs ρ' l vs
  | [], _, h => h
  | _ :: _, _, ⟨a, b, h1, h2, h3⟩ => ⟨a, b, h1, h2.mono hl, h3.mono hl⟩
theorem AR1.mono (hl : ρ.le ρ') {x : A1} {v : Value} (h : AR1 ρ x v) : AR1 ρ' x v := by
  cases x with
  | c x => exact CR.mono hl (h : CR ρ x [v])
  | a l => obtain ⟨vs, h1, h2⟩ := h; exact ⟨vs, h1, h2.mono hl⟩
theorem ARs.mono (hl : ρ.le ρ') : ∀ {l : List A1} {vs : List Value}, ARs ρ l vs → ARs ρ' l vs
  | [], _, h => h
  | _ :: _, _, ⟨a, b, h1, h2, h3⟩ => ⟨a, b, h1, h2.mono hl, h3.mono hl⟩
theorem AR.mono (hl : ρ.le ρ') {x : AV} {v : Value} (h : AR ρ x v) : AR ρ' x v := by
  cases x with
  | o x => exact AR1.mono hl (h : AR1 ρ x v)
  | t l => obtain ⟨vs, h1, h2⟩ := h; exact ⟨vs, h1, h2.mono hl⟩
  | u => exact h
end
def Cl.n : Cl → Nat
  | .vec _ n _ => n
  | .vecb n _ => n
  | _ => 1
def nC : List Cl → Nat
  | [] => 0
  | c :: r => c.n + nC r
section
variable {ρ : Rho}
theorem CR.len {c : Cl} {vs : List Value} (h : CR ρ c vs) : vs.length = c.n := by
  cases c with
  | sl o => obtain ⟨L, _, rfl⟩ := h; rfl
  | pt o i off j => obtain ⟨L, A, _, _, _, _, rfl⟩ := h; rfl
  | op o => obtain ⟨L, _, rfl⟩ := h; rfl
  | mp o => obtain ⟨L, g, _, _, rfl⟩ := h; rfl
  | fn f cs => obtain ⟨as, _, rfl⟩ := h; rfl
  | vec k n x => have h : vs = _ := h; rw [h]; simp [Cl.n]
  | vecb n x => have h : vs = _ := h; rw [h]; simp [Cl.n]
  | _ => have h : vs = _ := h; rw [h]; rfl
theorem CRs.len : ∀ {l : List Cl} {vs : List Value}, CRs ρ l vs → vs.length = nC l
  | [], _, h => by cases h; rfl
  | _ :: _, _, ⟨a, b, h1, h2, h3⟩ => by rw [h1, List.length_append, h2.len, h3.len]; rfl
theorem CR.ones {c : Cl} {vs : List Value} (h : CR ρ c vs) : ∀ u ∈ vs, u.oneCell' = true := by
  intro u hu
  cases c with
  | sl o => obtain ⟨L, _, rfl⟩ := h; rw [List.mem_singleton.1 hu]; rfl
  | pt o i off j => obtain ⟨L, A, _, _, _, _, rfl⟩ := h; rw [List.mem_singleton.1 hu]; rfl
  | op o => obtain ⟨L, _, rfl⟩ := h; rw [List.mem_singleton.1 hu]; rfl
  | mp o => obtain ⟨L, g, _, _, rfl⟩ := h; rw [List.mem_singleton.1 hu]; rfl
  | fn f cs => obtain ⟨as, _, rfl⟩ := h; rw [List.mem_singleton.1 hu]; rfl
  | vec k n x => have h : vs = _ := h; rw [h] at hu; obtain ⟨_, _, rfl⟩ := List.mem_map.1 hu; rfl
  | vecb n x => have h : vs = _ := h; rw [h] at hu; obtain ⟨_, _, rfl⟩ := List.mem_map.1 hu; rfl
  | _ => have h : vs = _ := h; rw [h] at hu; rw [List.mem_singleton.1 hu]; rfl
theorem CRs.ones : ∀ {l : List Cl} {vs : List Value}, CRs ρ l vs → ∀ u ∈ vs, u.oneCell' = true
  | [], _, h, u, hu => by cases h; cases hu
  | _ :: _, _, ⟨a, b, h1, h2, h3⟩, u, hu => by
    rw [h1] at hu
    rcases List.mem_append.1 hu with hu | hu
    · exact h2.ones u hu
    · exact h3.ones u hu
theorem CRs.app : ∀ {l r : List Cl} {vs ws : List Value}, CRs ρ l vs → CRs ρ r ws → CRs ρ (l ++ r) (vs ++ ws)
  | [], _, _, _, h, h' => by cases h; exact h'
  | _ :: _, _, _, _, ⟨a, b, h1, h2, h3⟩, h' => by subst h1; exact ⟨a, _, List.append_assoc _ _ _, h2, h3.app h'⟩
theorem CRs.one {c : Cl} {vs : List Value} : CRs ρ [c] vs ↔ CR ρ c vs := by
  constructor
  · rintro ⟨a, b, rfl, h1, h2⟩; cases h2; rwa [List.append_nil]
  · intro h; exact ⟨vs, [], (List.append_nil _).symm, h, rfl⟩
end
/-! ### parts of a variable -/
def dropC : List Cl → Nat → Option (List Cl)
  | [], n => match n with
    | 0 => some []
    | _ + 1 => none
  | c :: r, n => match n with
    | 0 => some (c :: r)
    | m + 1 => match Nat.ble c.n (m + 1) with
      | true => dropC r (m + 1 - c.n)
      | false => none
def takeC : List Cl → Nat → Option (List Cl)
  | [], n => match n with
    | 0 => some []
    | _ + 1 => none
  | c :: r, n => match n with
    | 0 => some []
    | m + 1 => match Nat.ble c.n (m + 1) with
      | true => match takeC r (m + 1 - c.n) with
        | some p => some (c :: p)
        | none => none
      | false => none
section
variable {ρ : Rho}
theorem dropC_ok : ∀ {l : List Cl} {n : Nat} {r : List Cl} {vs : List Value}, CRs ρ l vs → dropC l n = some r → CRs ρ r (vs.drop n) ∧ n ≤ vs.length
  | [], 0, r, vs, h, e => by cases e; exact ⟨h, Nat.zero_le _⟩
  | [], _ + 1, r, vs, h, e => by cases e
  | c :: l, 0, r, vs, h, e => by cases e; exact ⟨h, Nat.zero_le _⟩
  | c :: l, m + 1, r, vs, ⟨a, b, h1, h2, h3⟩, e => by
    unfold dropC at e
    simp only at e
    split at e
    · rename_i hb
      have hb := Nat.le_of_ble_eq_true hb
      have hl := h2.len
      obtain ⟨k1, k2⟩ := dropC_ok h3 e
      subst h1
      refine ⟨?_, by rw [List.length_append]; omega⟩
      rw [show m + 1 = a.length + (m + 1 - c.n) by omega, List.drop_length_add_append]
      exact k1
    · cases e
theorem takeC_ok : ∀ {l : List Cl} {n : Nat} {r : List Cl} {vs : List Value}, CRs ρ l vs → takeC l n = some r → CRs ρ r (vs.take n) ∧ n ≤ vs.length
  | [], 0, r, vs, h, e => by cases e; cases h; exact ⟨rfl, Nat.zero_le _⟩
  | [], _ + 1, r, vs, h, e => by cases e
  | c :: l, 0, r, vs, h, e => by cases e; exact ⟨rfl, Nat.zero_le _⟩
  | c :: l, m + 1, r, vs, ⟨a, b, h1, h2, h3⟩, e => by
    unfold takeC at e
    simp only at e
    split at e
    · rename_i hb
      have hb := Nat.le_of_ble_eq_true hb
      have hl := h2.len
      split at e
      · rename_i p hp
        cases e
        obtain ⟨k1, k2⟩ := takeC_ok h3 hp
        subst h1
        refine ⟨?_, by rw [List.length_append]; omega⟩
        rw [show m + 1 = a.length + (m + 1 - c.n) by omega, List.take_length_add_append]
        exact ⟨a, _, rfl, h2, k1⟩
      · cases e
    · cases e
end
def kEq : IntKind → IntKind → Bool
  | .i8, .i8 | .i16, .i16 | .i32, .i32 | .i64, .i64 | .u8, .u8 | .u16, .u16 | .u32, .u32 | .u64, .u64 => true
  | _, _ => false
theorem kEq_ok {a b : IntKind} (h : kEq a b = true) : a = b := by cases a <;> cases b <;> first | rfl | cases h
/-- One cell of an array turned. -/
def vputC : Cl → Nat → List Cl → Option Cl
  | .vec k n x, i, [.int k' y] => match kEq k k' && Nat.blt i n with
    | true => some (.vec k n (vset x i y))
    | false => none
  | .vecb n x, i, [.bool e] => match Nat.blt i n with
    | true => some (.vecb n (vset x i e.v))
    | false => none
  | _, _, _ => none
/-- Some cells from place off on. -/
def putC : List Cl → Nat → List Cl → Option (List Cl)
  | [], off, new => match off, new with
    | 0, [] => some []
    | _, _ => none
  | c :: r, off, new => match off with
    | 0 => match dropC (c :: r) (nC new) with
      | some r' => some (new ++ r')
      | none => match vputC c 0 new with
        | some c' => some (c' :: r)
        | none => none
    | m + 1 => match Nat.ble c.n (m + 1) with
      | true => match putC r (m + 1 - c.n) new with
        | some r' => some (c :: r')
        | none => none
      | false => match vputC c (m + 1) new with
        | some c' => some (c' :: r)
        | none => none
section
variable {ρ : Rho}
theorem map_set {α β : Type} (f : α → β) (l : List α) {i : Nat} {y : α} (h : i < l.length) : (l.set i y).map f = (l.map f).take i ++ [f y] ++ (l.map f).drop (i + 1) := by
  rw [List.map_set, List.set_eq_take_append_cons_drop]
  simp [h]
theorem vputC_ok {c c' : Cl} {i : Nat} {new : List Cl} {vs nv : List Value} (h : CR ρ c vs) (hn : CRs ρ new nv) (e : vputC c i new = some c') : i + nv.length ≤ vs.length ∧ CR ρ c' (vs.take i ++ nv ++ vs.drop (i + nv.length)) := by
  unfold vputC at e
  split at e
  · rename_i k n x k' y
    split at e
    · rename_i hb
      simp only [Bool.and_eq_true] at hb
      obtain ⟨hk, hi⟩ := hb
      have hk := kEq_ok hk
      subst hk
      have hi : i < n := by simpa [Nat.blt_eq] using hi
      cases e
      have hn : nv = [.int k y] := CRs.one.1 hn
      have h : vs = _ := h
      subst hn h
      refine ⟨by simp; omega, ?_⟩
      show _ = (vset x i y).toList.map _
      unfold vset
      rw [show (x.setIfInBounds i y).toList = x.toList.set i y by simp [Vector.toList], map_set _ _ (by simpa using hi)]
      rfl
    · cases e
  · rename_i n x b
    split at e
    · rename_i hi
      have hi : i < n := by simpa [Nat.blt_eq] using hi
      cases e
      have hn : nv = [.bool b.v] := CRs.one.1 hn
      have h : vs = _ := h
      subst hn h
      refine ⟨by simp; omega, ?_⟩
      show _ = (vset x i b.v).toList.map _
      unfold vset
      rw [show (x.setIfInBounds i b.v).toList = x.toList.set i b.v by simp [Vector.toList], map_set _ _ (by simpa using hi)]
      rfl
    · cases e
  · cases e
theorem putC_ok : ∀ {l : List Cl} {off : Nat} {new l' : List Cl} {vs nv : List Value}, CRs ρ l vs → CRs ρ new nv → putC l off new = some l' → off + nv.length ≤ vs.length ∧ CRs ρ l' (vs.take off ++ nv ++ vs.drop (off + nv.length))
  | [], off, new, l', vs, nv, h, hn, e => by
    unfold putC at e
    split at e
    · cases e; cases h; cases hn; exact ⟨by simp, rfl⟩
    · cases e
  | c :: r, 0, new, l', vs, nv, h, hn, e => by
    have h' := h
    obtain ⟨a, b, h1, h2, h3⟩ := h'
    unfold putC at e
    simp only at e
    split at e
    · rename_i r' hr
      cases e
      obtain ⟨k1, k2⟩ := dropC_ok h hr
      rw [← hn.len] at k1 k2
      refine ⟨by omega, ?_⟩
      rw [List.take_zero, List.nil_append, Nat.zero_add]
      exact hn.app k1
    · split at e
      · rename_i c' hc
        cases e
        obtain ⟨k1, k2⟩ := vputC_ok h2 hn hc
        subst h1
        refine ⟨by rw [List.length_append]; omega, ?_⟩
        refine ⟨_, b, ?_, k2, h3⟩
        rw [List.drop_append_of_le_length k1]
        simp
      · cases e
  | c :: r, m + 1, new, l', vs, nv, ⟨a, b, h1, h2, h3⟩, hn, e => by
    unfold putC at e
    simp only at e
    have hl := h2.len
    subst h1
    split at e
    · rename_i hb
      have hb := Nat.le_of_ble_eq_true hb
      split at e
      · rename_i r' hr
        cases e
        obtain ⟨k1, k2⟩ := putC_ok h3 hn hr
        refine ⟨by rw [List.length_append]; omega, ?_⟩
        refine ⟨a, _, ?_, h2, k2⟩
        rw [show m + 1 = a.length + (m + 1 - c.n) by omega, List.take_length_add_append, Nat.add_assoc, List.drop_length_add_append]
        simp only [List.append_assoc]
        congr 1
        rw [show a.length + (m + 1 - c.n) - c.n = m + 1 - c.n by omega]
      · cases e
    · split at e
      · rename_i c' hc
        cases e
        obtain ⟨k1, k2⟩ := vputC_ok h2 hn hc
        refine ⟨by rw [List.length_append]; omega, ?_⟩
        refine ⟨_, b, ?_, k2, h3⟩
        rw [List.take_append_of_le_length (by omega), List.drop_append_of_le_length k1]
        simp
      · cases e
end
end Go.Proofs.YtlpiomnmaiddbaaGreatDoor.E
namespace Go.Proofs.YtlpiomnmaiddbaaGreatDoor.E
set_option linter.unusedVariables false
set_option linter.unusedSimpArgs false
open Go Go.RowKit
/-! ### what a variable holds, leaf by leaf -/
inductive DV (τ : Nat → Type) where
  | c (x : Cl)
  | sl (T : Nat) (l : List (τ T))
  | pt (T : Nat) (x : Option (τ T))
def ρ0 : Rho := fun _ => none
/-- The one is the other, or lies as it. -/
def DVle {τ : Nat → Type} : DV τ → DV τ → Prop
  | .c a, .c b => ∀ ρ vs, CR ρ a vs → CR ρ b vs
  | .c .nils, .sl _ l => l = []
  | .c .nilp, .pt _ x => x = none
  | d, d' => d = d'
def DVles {τ : Nat → Type} : List (DV τ) → List (DV τ) → Prop
  | [], l => l = []
  | d :: r, l => ∃ d' r', l = d' :: r' ∧ DVle d d' ∧ DVles r r'
section
variable {τ : Nat → Type}
theorem DVle.refl (d : DV τ) : DVle d d := by
  cases d with
  | c x => exact fun _ _ h => h
  | sl T l => exact rfl
  | pt T x => exact rfl
theorem DVles.app : ∀ {a b c d : List (DV τ)}, DVles a c → DVles b d → DVles (a ++ b) (c ++ d)
  | [], _, _, _, h, h' => by cases h; exact h'
  | _ :: _, _, _, _, ⟨x, r, h1, h2, h3⟩, h' => by subst h1; exact ⟨x, _, rfl, h2, h3.app h'⟩
end
/-- No pointers among them? -/
def noPt {τ : Nat → Type} : List (DV τ) → Bool
  | [] => true
  | .pt _ _ :: _ => false
  | _ :: r => noPt r
theorem noPt_app {τ : Nat → Type} : ∀ {a b : List (DV τ)}, noPt a = true → noPt b = true → noPt (a ++ b) = true
  | [], _, _, h => h
  | .c _ :: r, _, h, h' => noPt_app (a := r) h h'
  | .sl _ _ :: r, _, h, h' => noPt_app (a := r) h h'
/-- How values of a type lie in cells: as a whole, cell by cell, leaf by leaf. -/
structure TI (τ : Nat → Type) (α : Type) where
  n : Nat
  d : α
  enc : α → List Value
  seg : α → List Cl
  inn : List Cl → Option (α × List Cl)
  opn : α → List (DV τ)
  cls : List (DV τ) → Option (α × List (DV τ))
  hn : 0 < n
  hlen : ∀ x, (enc x).length = n
  hone : ∀ x, ∀ u ∈ enc x, u.oneCell' = true
  hseg : ∀ ρ x, CRs ρ (seg x) (enc x)
  hinn : ∀ l x r, inn l = some (x, r) → ∀ ρ vs, CRs ρ l vs → ∃ vr, vs = enc x ++ vr ∧ CRs ρ r vr
  hcls : ∀ l x r, cls l = some (x, r) → ∃ p, l = p ++ r ∧ DVles p (opn x)
  ints : Option (IntKind × (List Int → List α) × (List α → List Int)) := none
  hints : ∀ k f g, ints = some (k, f, g) → (∀ l, (f l).length = l.length ∧ (f l).flatMap enc = l.map (Value.int k)) ∧ ∀ l, (g l).length = l.length ∧ l.flatMap enc = (g l).map (Value.int k) := by intro k f g h; cases h
  ptf : Bool := false
  hptf : ptf = true → ∀ x, noPt (opn x) = true := by intro h; cases h
def TI.E {τ : Nat → Type} {α : Type} (t : TI τ α) : Enc α := ⟨t.n, t.enc, t.d, t.hn, t.hlen, t.hone⟩
section
variable {τ : Nat → Type} {α β : Type}
def innI (k : IntKind) : List Cl → Option (Int × List Cl)
  | .int k' y :: r => match kEq k k' with
    | true => some (y, r)
    | false => none
  | _ => none
def clsI (k : IntKind) : List (DV τ) → Option (Int × List (DV τ))
  | .c (.int k' y) :: r => match kEq k k' with
    | true => some (y, r)
    | false => none
  | _ => none
def TI.int (k : IntKind) : TI τ Int where
  n := 1
  d := 0
  enc x := [.int k x]
  seg x := [.int k x]
  inn := innI k
  opn x := [.c (.int k x)]
  ptf := true
  hptf _ _ := rfl
  cls := clsI k
  hn := Nat.one_pos
  hlen _ := rfl
  hone x u hu := by rw [List.mem_singleton.1 hu]; rfl
  hseg ρ x := CRs.one.2 rfl
  hinn l x r h ρ vs hc := by
    unfold innI at h
    split at h
    · split at h
      · rename_i hk
        cases h
        have hk := kEq_ok hk
        subst hk
        obtain ⟨a, b, rfl, h1, h2⟩ := hc
        have h1 : a = _ := h1
        subst h1
        exact ⟨b, rfl, h2⟩
      · cases h
    · cases h
  hcls l x r h := by
    unfold clsI at h
    split at h
    · split at h
      · rename_i hk
        cases h
        have hk := kEq_ok hk
        subst hk
        exact ⟨[_], rfl, _, _, rfl, DVle.refl _, rfl⟩
      · cases h
    · cases h
  ints := some (k, fun l => l, fun l => l)
  hints k' f g h := by
    cases h
    have : ∀ l : List Int, l.flatMap (fun x => [Value.int k x]) = l.map (Value.int k) := fun l => by
      induction l with
      | nil => rfl
      | cons a r ih => simp only [List.flatMap_cons, List.map_cons, ih]; rfl
    exact ⟨fun l => ⟨rfl, this l⟩, fun l => ⟨rfl, this l⟩⟩
def innB : List Cl → Option (Bool × List Cl)
  | .bool e :: r => some (e.v, r)
  | _ => none
def clsB : List (DV τ) → Option (Bool × List (DV τ))
  | .c (.bool e) :: r => some (e.v, r)
  | _ => none
def TI.bool : TI τ Bool where
  n := 1
  d := false
  enc x := [.bool x]
  seg x := [.bool (.s x)]
  inn := innB
  opn x := [.c (.bool (.s x))]
  ptf := true
  hptf _ _ := rfl
  cls := clsB
  hn := Nat.one_pos
  hlen _ := rfl
  hone x u hu := by rw [List.mem_singleton.1 hu]; rfl
  hseg ρ x := CRs.one.2 rfl
  hinn l x r h ρ vs hc := by
    unfold innB at h
    split at h
    · cases h
      obtain ⟨a, b, rfl, h1, h2⟩ := hc
      have h1 : a = _ := h1
      subst h1
      exact ⟨b, rfl, h2⟩
    · cases h
  hcls l x r h := by
    unfold clsB at h
    split at h
    · cases h
      exact ⟨[_], rfl, _, _, rfl, fun _ _ h => h, rfl⟩
    · cases h
def innS : List Cl → Option (ByteArray × List Cl)
  | .str s :: r => some (s, r)
  | _ => none
def clsS : List (DV τ) → Option (ByteArray × List (DV τ))
  | .c (.str s) :: r => some (s, r)
  | _ => none
def TI.str : TI τ ByteArray where
  n := 1
  d := ⟨#[]⟩
  enc x := [.string x]
  seg x := [.str x]
  inn := innS
  opn x := [.c (.str x)]
  ptf := true
  hptf _ _ := rfl
  cls := clsS
  hn := Nat.one_pos
  hlen _ := rfl
  hone x u hu := by rw [List.mem_singleton.1 hu]; rfl
  hseg ρ x := CRs.one.2 rfl
  hinn l x r h ρ vs hc := by
    unfold innS at h
    split at h
    · cases h
      obtain ⟨a, b, rfl, h1, h2⟩ := hc
      have h1 : a = _ := h1
      subst h1
      exact ⟨b, rfl, h2⟩
    · cases h
  hcls l x r h := by
    unfold clsS at h
    split at h
    · cases h
      exact ⟨[_], rfl, _, _, rfl, DVle.refl _, rfl⟩
    · cases h
def innV (k : IntKind) (n : Nat) : List Cl → Option (Vector Int n × List Cl)
  | .vec k' n' x :: r => match kEq k k' with
    | true => if h : n' = n then some (h ▸ x, r) else none
    | false => none
  | _ => none
def clsV (k : IntKind) (n : Nat) : List (DV τ) → Option (Vector Int n × List (DV τ))
  | .c (.vec k' n' x) :: r => match kEq k k' with
    | true => if h : n' = n then some (h ▸ x, r) else none
    | false => none
  | _ => none
def TI.vec (k : IntKind) (n : Nat) (h0 : 0 < n := by decide) : TI τ (Vector Int n) where
  n := n
  d := Vector.replicate n 0
  enc x := x.toList.map (Value.int k)
  seg x := [.vec k n x]
  inn := innV k n
  opn x := [.c (.vec k n x)]
  ptf := true
  hptf _ _ := rfl
  cls := clsV k n
  hn := h0
  hlen x := by simp
  hone x u hu := by obtain ⟨_, _, rfl⟩ := List.mem_map.1 hu; rfl
  hseg ρ x := CRs.one.2 rfl
  hinn l x r h ρ vs hc := by
    unfold innV at h
    split at h
    · split at h
      · rename_i hk
        split at h
        · rename_i hn
          cases h
          have hk := kEq_ok hk
          subst hk hn
          obtain ⟨a, b, rfl, h1, h2⟩ := hc
          have h1 : a = _ := h1
          subst h1
          exact ⟨b, rfl, h2⟩
        · cases h
      · cases h
    · cases h
  hcls l x r h := by
    unfold clsV at h
    split at h
    · split at h
      · rename_i hk
        split at h
        · rename_i hn
          cases h
          have hk := kEq_ok hk
          subst hk hn
          exact ⟨[_], rfl, _, _, rfl, DVle.refl _, rfl⟩
        · cases h
      · cases h
    · cases h
def innW (n : Nat) : List Cl → Option (Vector Bool n × List Cl)
  | .vecb n' x :: r => if h : n' = n then some (h ▸ x, r) else none
  | _ => none
def clsW (n : Nat) : List (DV τ) → Option (Vector Bool n × List (DV τ))
  | .c (.vecb n' x) :: r => if h : n' = n then some (h ▸ x, r) else none
  | _ => none
def TI.vecb (n : Nat) (h0 : 0 < n := by decide) : TI τ (Vector Bool n) where
  n := n
  d := Vector.replicate n false
  enc x := x.toList.map Value.bool
  seg x := [.vecb n x]
  inn := innW n
  opn x := [.c (.vecb n x)]
  ptf := true
  hptf _ _ := rfl
  cls := clsW n
  hn := h0
  hlen x := by simp
  hone x u hu := by obtain ⟨_, _, rfl⟩ := List.mem_map.1 hu; rfl
  hseg ρ x := CRs.one.2 rfl
  hinn l x r h ρ vs hc := by
    unfold innW at h
    split at h
    · split at h
      · rename_i hn
        cases h
        subst hn
        obtain ⟨a, b, rfl, h1, h2⟩ := hc
        have h1 : a = _ := h1
        subst h1
        exact ⟨b, rfl, h2⟩
      · cases h
    · cases h
  hcls l x r h := by
    unfold clsW at h
    split at h
    · split at h
      · rename_i hn
        cases h
        subst hn
        exact ⟨[_], rfl, _, _, rfl, DVle.refl _, rfl⟩
      · cases h
    · cases h
/-- What is no plain data: it lies in no row's element. -/
def clsSl (T : Nat) : List (DV τ) → Option (List (τ T) × List (DV τ))
  | .sl T' l :: r => if h : T' = T then some (h ▸ l, r) else none
  | .c .nils :: r => some ([], r)
  | _ => none
def TI.sl (T : Nat) : TI τ (List (τ T)) where
  n := 1
  d := []
  enc _ := [.bool false]
  seg _ := [.bool (.val false)]
  inn _ := none
  opn l := [.sl T l]
  ptf := true
  hptf _ _ := rfl
  cls := clsSl T
  hn := Nat.one_pos
  hlen _ := rfl
  hone x u hu := by rw [List.mem_singleton.1 hu]; rfl
  hseg ρ x := CRs.one.2 rfl
  hinn l x r h := by cases h
  hcls l x r h := by
    unfold clsSl at h
    split at h
    · split at h
      · rename_i hn
        cases h
        subst hn
        exact ⟨[_], rfl, _, _, rfl, rfl, rfl⟩
      · cases h
    · cases h
      exact ⟨[_], rfl, _, _, rfl, rfl, rfl⟩
    · cases h
def clsPt (T : Nat) : List (DV τ) → Option (Option (τ T) × List (DV τ))
  | .pt T' x :: r => if h : T' = T then some (h ▸ x, r) else none
  | .c .nilp :: r => some (none, r)
  | _ => none
def TI.pt (T : Nat) : TI τ (Option (τ T)) where
  n := 1
  d := none
  enc _ := [.bool false]
  seg _ := [.bool (.val false)]
  inn _ := none
  opn x := [.pt T x]
  cls := clsPt T
  hn := Nat.one_pos
  hlen _ := rfl
  hone x u hu := by rw [List.mem_singleton.1 hu]; rfl
  hseg ρ x := CRs.one.2 rfl
  hinn l x r h := by cases h
  hcls l x r h := by
    unfold clsPt at h
    split at h
    · split at h
      · rename_i hn
        cases h
        subst hn
        exact ⟨[_], rfl, _, _, rfl, rfl, rfl⟩
      · cases h
    · cases h
      exact ⟨[_], rfl, _, _, rfl, rfl, rfl⟩
    · cases h
def inn2 {γ δ : Type} (f : List γ → Option (α × List γ)) (g : List γ → Option (β × List γ)) (l : List γ) : Option ((α × β) × List γ) := match f l with
  | some (a, r) => match g r with
    | some (b, s) => some ((a, b), s)
    | none => none
  | none => none
def TI.prod (a : TI τ α) (b : TI τ β) : TI τ (α × β) where
  n := a.n + b.n
  d := (a.d, b.d)
  enc x := a.enc x.1 ++ b.enc x.2
  seg x := a.seg x.1 ++ b.seg x.2
  inn := inn2 (δ := Unit) a.inn b.inn
  opn x := a.opn x.1 ++ b.opn x.2
  ptf := match a.ptf with
    | true => b.ptf
    | false => false
  hptf h x := by
    split at h
    · rename_i ha
      exact noPt_app (a.hptf ha _) (b.hptf h _)
    · cases h
  cls := inn2 (δ := Unit) a.cls b.cls
  hn := Nat.add_pos_left a.hn _
  hlen x := by rw [List.length_append, a.hlen, b.hlen]
  hone x u hu := by
    rcases List.mem_append.1 hu with h | h
    · exact a.hone _ _ h
    · exact b.hone _ _ h
  hseg ρ x := (a.hseg ρ x.1).app (b.hseg ρ x.2)
  hinn l x r h ρ vs hc := by
    unfold inn2 at h
    split at h
    · rename_i y s hy
      split at h
      · rename_i z t hz
        cases h
        obtain ⟨v1, rfl, h1⟩ := a.hinn _ _ _ hy ρ vs hc
        obtain ⟨v2, rfl, h2⟩ := b.hinn _ _ _ hz ρ _ h1
        exact ⟨v2, (List.append_assoc _ _ _).symm, h2⟩
      · cases h
    · cases h
  hcls l x r h := by
    unfold inn2 at h
    split at h
    · rename_i y s hy
      split at h
      · rename_i z t hz
        cases h
        obtain ⟨p, rfl, h1⟩ := a.hcls _ _ _ hy
        obtain ⟨q, rfl, h2⟩ := b.hcls _ _ _ hz
        exact ⟨p ++ q, (List.append_assoc _ _ _).symm, h1.app h2⟩
      · cases h
    · cases h
def innM {γ : Type} (f : α → β) (g : List γ → Option (α × List γ)) (l : List γ) : Option (β × List γ) := match g l with
  | some (a, r) => some (f a, r)
  | none => none
/-- The same data under another name. -/
def TI.iso (a : TI τ α) (f : α → β) (g : β → α) (h : ∀ x, g (f x) = x := by intro x; rfl) : TI τ β where
  n := a.n
  d := f a.d
  enc x := a.enc (g x)
  seg x := a.seg (g x)
  inn := innM f a.inn
  opn x := a.opn (g x)
  ptf := a.ptf
  hptf h x := a.hptf h _
  cls := innM f a.cls
  hn := a.hn
  hlen x := a.hlen _
  hone x u hu := a.hone _ _ hu
  hseg ρ x := a.hseg ρ _
  hinn l x r e ρ vs hc := by
    unfold innM at e
    split at e
    · rename_i y s hy
      cases e
      rw [h]
      exact a.hinn _ _ _ hy ρ vs hc
    · cases e
  hcls l x r e := by
    unfold innM at e
    split at e
    · rename_i y s hy
      cases e
      rw [h]
      exact a.hcls _ _ _ hy
    · cases e
def TI.unit : TI τ Unit where
  n := 1
  d := ()
  enc _ := [.bool false]
  seg _ := [.bool (.val false)]
  inn _ := none
  opn _ := []
  ptf := true
  hptf _ _ := rfl
  cls _ := none
  hn := Nat.one_pos
  hlen _ := rfl
  hone x u hu := by rw [List.mem_singleton.1 hu]; rfl
  hseg ρ x := CRs.one.2 rfl
  hinn l x r h := by cases h
  hcls l x r h := by cases h
end
/-! ### the table of types -/
def lookT : List (Nat × Type) → Nat → Type
  | [], _ => Unit
  | p :: r, T => match Nat.beq T p.1 with
    | true => p.2
    | false => lookT r T
inductive HTab (τ : Nat → Type) : List (Nat × Type) → Type 1 where
  | nil : HTab τ []
  | cons (n : Nat) {α : Type} (t : TI τ α) {l : List (Nat × Type)} (r : HTab τ l) : HTab τ ((n, α) :: l)
def HTab.get {τ : Nat → Type} : {l : List (Nat × Type)} → HTab τ l → (T : Nat) → TI τ (lookT l T)
  | _, .nil, _ => TI.unit
  | (_, α) :: l, .cons n t r, T => (match Nat.beq T n with
    | true => t
    | false => r.get T : TI τ (match Nat.beq T n with
      | true => α
      | false => lookT l T))
/-! ### what the program says of its types -/
inductive TK where
  | int (k : IntKind)
  | bool
  | str
  | sl (e : Nat)
  | ptr (e : Nat)
  | arr (n e : Nat)
  | st (fs : List (Nat × Nat))
  | fn
  | oth
structure SI where
  k : TK
  sz : Nat
  by_ : Nat
  row : Bool
  z : List Cl
def vecOk (k : IntKind) : List Int → List Value → Bool
  | [], vs => match vs with
    | [] => true
    | _ => false
  | n :: r, vs => match vs with
    | .int k' m :: s => kEq k k' && decide (n = m) && vecOk k r s
    | _ => false
def vecbOk : List Bool → List Value → Bool
  | [], vs => match vs with
    | [] => true
    | _ => false
  | n :: r, vs => match vs with
    | .bool m :: s => (n == m) && vecbOk r s
    | _ => false
/-- The nought of a type: these cells. -/
def zOk : List Cl → List Value → Bool
  | [], vs => match vs with
    | [] => true
    | _ => false
  | .int k n :: r, vs => match vs with
    | .int k' m :: s => kEq k k' && decide (n = m) && zOk r s
    | _ => false
  | .bool (.val b) :: r, vs => match vs with
    | .bool m :: s => (b == m) && zOk r s
    | _ => false
  | .str t :: r, vs => match vs with
    | .string m :: s => (t.data.toList == m.data.toList) && zOk r s
    | _ => false
  | .nils :: r, vs => match vs with
    | .slice none 0 0 :: s => zOk r s
    | _ => false
  | .nilp :: r, vs => match vs with
    | .pointer none :: s => zOk r s
    | _ => false
  | .nilf :: r, vs => match vs with
    | .nilFunc :: s => zOk r s
    | _ => false
  | .nili :: r, vs => match vs with
    | .nilIface :: s => zOk r s
    | _ => false
  | .vec k n x :: r, vs => vecOk k x.toList (vs.take n) && zOk r (vs.drop n)
  | .vecb n x :: r, vs => vecbOk x.toList (vs.take n) && zOk r (vs.drop n)
  | _ :: _, _ => false
theorem vecOk_ok {k : IntKind} : ∀ {l : List Int} {vs : List Value}, vecOk k l vs = true → vs = l.map (Value.int k)
  | [], vs, h => by unfold vecOk at h; split at h; rfl; cases h
  | n :: r, vs, h => by
    unfold vecOk at h
    split at h
    · simp only [Bool.and_eq_true, decide_eq_true_eq] at h
      obtain ⟨⟨h1, h2⟩, h3⟩ := h
      rw [kEq_ok h1, h2, List.map_cons, ← kEq_ok h1, vecOk_ok h3]
    · cases h
theorem vecbOk_ok : ∀ {l : List Bool} {vs : List Value}, vecbOk l vs = true → vs = l.map Value.bool
  | [], vs, h => by unfold vecbOk at h; split at h; rfl; cases h
  | n :: r, vs, h => by
    unfold vecbOk at h
    split at h
    · simp only [Bool.and_eq_true, beq_iff_eq] at h
      obtain ⟨h2, h3⟩ := h
      rw [h2, List.map_cons, vecbOk_ok h3]
    · cases h
theorem zOk_ok (ρ : Rho) : ∀ {l : List Cl} {vs : List Value}, zOk l vs = true → CRs ρ l vs
  | [], vs, h => by unfold zOk at h; split at h; rfl; cases h
  | .int k n :: r, vs, h => by
    unfold zOk at h
    split at h
    · simp only [Bool.and_eq_true, decide_eq_true_eq] at h
      obtain ⟨⟨h1, h2⟩, h3⟩ := h
      refine ⟨[_], _, rfl, ?_, zOk_ok ρ h3⟩
      rw [← kEq_ok h1, ← h2]; rfl
    · cases h
  | .bool (.val b) :: r, vs, h => by
    unfold zOk at h
    split at h
    · simp only [Bool.and_eq_true, beq_iff_eq] at h
      refine ⟨[_], _, rfl, ?_, zOk_ok ρ h.2⟩
      rw [← h.1]; rfl
    · cases h
  | .bool (.dec _ _) :: r, vs, h => by cases h
  | .bool (.not _) :: r, vs, h => by cases h
  | .str t :: r, vs, h => by
    unfold zOk at h
    split at h
    · rename_i m s
      simp only [Bool.and_eq_true, beq_iff_eq] at h
      refine ⟨[_], _, rfl, ?_, zOk_ok ρ h.2⟩
      have : m = t := by
        cases m; cases t
        have := h.1
        simp only at this
        congr 1
        exact (Array.toList_inj.1 this).symm
      rw [this]; rfl
    · cases h
  | .nils :: r, vs, h => by
    unfold zOk at h
    split at h
    · exact ⟨[_], _, rfl, rfl, zOk_ok ρ h⟩
    · cases h
  | .nilp :: r, vs, h => by
    unfold zOk at h
    split at h
    · exact ⟨[_], _, rfl, rfl, zOk_ok ρ h⟩
    · cases h
  | .nilf :: r, vs, h => by
    unfold zOk at h
    split at h
    · exact ⟨[_], _, rfl, rfl, zOk_ok ρ h⟩
    · cases h
  | .nili :: r, vs, h => by
    unfold zOk at h
    split at h
    · exact ⟨[_], _, rfl, rfl, zOk_ok ρ h⟩
    · cases h
  | .vec k n x :: r, vs, h => by
    simp only [zOk, Bool.and_eq_true] at h
    exact ⟨vs.take n, vs.drop n, (List.take_append_drop n vs).symm, vecOk_ok h.1, zOk_ok ρ h.2⟩
  | .vecb n x :: r, vs, h => by
    simp only [zOk, Bool.and_eq_true] at h
    exact ⟨vs.take n, vs.drop n, (List.take_append_drop n vs).symm, vecbOk_ok h.1, zOk_ok ρ h.2⟩
  | .sl _ :: _, _, h => by cases h
  | .pt .. :: _, _, h => by cases h
  | .op _ :: _, _, h => by cases h
  | .mp _ :: _, _, h => by cases h
  | .fn .. :: _, _, h => by cases h
def fsOk : List Field → List (Nat × Nat) → Bool
  | [], l => match l with
    | [] => true
    | _ => false
  | f :: r, l => match l with
    | p :: s => Nat.beq f.type p.1 && Nat.beq f.offset p.2 && !(f.name == "_") && fsOk r s
    | [] => false
def dOk : TypeDesc → TK → Bool
  | .int k, .int k' => kEq k k'
  | .bool, .bool => true
  | .string, .str => true
  | .slice e, .sl e' => Nat.beq e e'
  | .pointer e, .ptr e' => Nat.beq e e'
  | .array n e, .arr n' e' => Nat.beq n n' && Nat.beq e e'
  | .struct fs, .st l => fsOk fs.toList l
  | .func .., .fn => true
  | _, .oth => true
  | _, _ => false
def chkT (P : Program) (T : Nat) (s : SI) : Bool := match P.info? T with
  | none => false
  | some i => match P.underlying T with
    | none => false
    | some d => match i.zero with
      | none => false
      | some z => Nat.beq i.size s.sz && Nat.beq i.bytes s.by_ && (d.isRow == s.row) && zOk s.z z.cells.toList && dOk d s.k
def chkAll (P : Program) : List (Nat × SI) → Bool
  | [] => true
  | p :: r => match chkT P p.1 p.2 with
    | true => chkAll P r
    | false => false
def lookS : List (Nat × SI) → Nat → Option SI
  | [], _ => none
  | p :: r, T => match Nat.beq T p.1 with
    | true => some p.2
    | false => lookS r T
theorem chk_at {P : Program} : ∀ {l : List (Nat × SI)} {T : Nat} {s : SI}, chkAll P l = true → lookS l T = some s → chkT P T s = true
  | p :: r, T, s, h, e => by
    unfold chkAll at h
    unfold lookS at e
    split at h
    · rename_i hp
      split at e
      · rename_i hb
        cases e
        rw [Nat.eq_of_beq_eq_true hb]
        exact hp
      · exact chk_at h e
    · cases h
structure SiOk (P : Program) (T : Nat) (s : SI) : Prop where
  inf : ∃ i z, P.info? T = some i ∧ i.size = s.sz ∧ i.bytes = s.by_ ∧ i.zero = some z ∧ ∀ ρ, CRs ρ s.z z.cells.toList
  desc : ∃ d, P.underlying T = some d ∧ d.isRow = s.row ∧ dOk d s.k = true
theorem chk_ok {P : Program} {T : Nat} {s : SI} (h : chkT P T s = true) : SiOk P T s := by
  unfold chkT at h
  split at h
  · cases h
  · rename_i i hi
    split at h
    · cases h
    · rename_i d hd
      split at h
      · cases h
      · rename_i z hz
        simp only [Bool.and_eq_true, beq_iff_eq] at h
        obtain ⟨⟨⟨⟨h1, h2⟩, h3⟩, h4⟩, h5⟩ := h
        exact ⟨⟨i, z, hi, Nat.eq_of_beq_eq_true h1, Nat.eq_of_beq_eq_true h2, hz, fun ρ => zOk_ok ρ h4⟩, ⟨d, hd, h3, h5⟩⟩
section
variable {P : Program} {T : Nat} {s : SI}
theorem SiOk.size (h : SiOk P T s) : (P.info? T).map (·.size) = some s.sz := by
  obtain ⟨i, z, h1, h2, _⟩ := h.inf
  rw [h1]; exact congrArg some h2
theorem SiOk.isRow (h : SiOk P T s) : (P.underlying T).map (·.isRow) = some s.row := by
  obtain ⟨d, h1, h2, _⟩ := h.desc
  rw [h1]; exact congrArg some h2
theorem SiOk.int (h : SiOk P T s) {k : IntKind} (e : s.k = .int k) : P.underlying T = some (.int k) := by
  obtain ⟨d, h1, _, h3⟩ := h.desc
  rw [e] at h3
  cases d <;> first | (have := kEq_ok h3; subst this; exact h1) | cases h3
theorem SiOk.bool (h : SiOk P T s) (e : s.k = .bool) : P.underlying T = some .bool := by
  obtain ⟨d, h1, _, h3⟩ := h.desc
  rw [e] at h3
  cases d <;> first | exact h1 | cases h3
theorem SiOk.str (h : SiOk P T s) (e : s.k = .str) : P.underlying T = some .string := by
  obtain ⟨d, h1, _, h3⟩ := h.desc
  rw [e] at h3
  cases d <;> first | exact h1 | cases h3
theorem SiOk.sl (h : SiOk P T s) {e' : Nat} (e : s.k = .sl e') : P.underlying T = some (.slice e') := by
  obtain ⟨d, h1, _, h3⟩ := h.desc
  rw [e] at h3
  cases d <;> first | (have := Nat.eq_of_beq_eq_true h3; subst this; exact h1) | cases h3
theorem SiOk.ptr (h : SiOk P T s) {e' : Nat} (e : s.k = .ptr e') : P.underlying T = some (.pointer e') := by
  obtain ⟨d, h1, _, h3⟩ := h.desc
  rw [e] at h3
  cases d <;> first | (have := Nat.eq_of_beq_eq_true h3; subst this; exact h1) | cases h3
theorem SiOk.arr (h : SiOk P T s) {n e' : Nat} (e : s.k = .arr n e') : P.underlying T = some (.array n e') := by
  obtain ⟨d, h1, _, h3⟩ := h.desc
  rw [e] at h3
  cases d <;> first
    | (simp only [dOk, Bool.and_eq_true] at h3; have a := Nat.eq_of_beq_eq_true h3.1; have b := Nat.eq_of_beq_eq_true h3.2; subst a b; exact h1)
    | cases h3
theorem SiOk.st (h : SiOk P T s) {l : List (Nat × Nat)} (e : s.k = .st l) : ∃ fs, P.underlying T = some (.struct fs) ∧ fsOk fs.toList l = true := by
  obtain ⟨d, h1, _, h3⟩ := h.desc
  rw [e] at h3
  cases d <;> first | exact ⟨_, h1, h3⟩ | cases h3
end
theorem fsOk_at : ∀ {fs : List Field} {l : List (Nat × Nat)} {i : Nat} {p : Nat × Nat}, fsOk fs l = true → l[i]? = some p → ∃ f, fs[i]? = some f ∧ f.type = p.1 ∧ f.offset = p.2
  | [], l, i, p, h, e => by
    unfold fsOk at h
    split at h
    · cases e
    · cases h
  | f :: r, l, i, p, h, e => by
    unfold fsOk at h
    split at h
    · rename_i q s
      simp only [Bool.and_eq_true] at h
      obtain ⟨⟨⟨h1, h2⟩, _⟩, h4⟩ := h
      cases i with
      | zero => cases e; exact ⟨f, rfl, Nat.eq_of_beq_eq_true h1, Nat.eq_of_beq_eq_true h2⟩
      | succ i =>
        obtain ⟨g, k1, k2⟩ := fsOk_at h4 (i := i) (p := p) (by simpa using e)
        exact ⟨g, by simpa using k1, k2⟩
    · cases h
end Go.Proofs.YtlpiomnmaiddbaaGreatDoor.E
namespace Go.Proofs.YtlpiomnmaiddbaaGreatDoor.E
set_option linter.unusedVariables false
set_option linter.unusedSimpArgs false
open Go Go.RowKit
/-- A program, and what is told of its types. -/
structure Cx where
  P : Program
  tys : List (Nat × Type)
  tab : HTab (lookT tys) tys
  sis : List (Nat × SI)
  sok : chkAll P sis = true
  mix : P.follows .mixedOrders = true
  cus : ∀ T, Option (Option Addr → lookT tys T → Asn)
  dps : List Nat
abbrev Cx.τ (X : Cx) : Nat → Type := lookT X.tys
def Cx.ti (X : Cx) (T : Nat) : TI X.τ (X.τ T) := X.tab.get T
def memB (x : Nat) : List Nat → Bool
  | [] => false
  | y :: r => match Nat.beq x y with
    | true => true
    | false => memB x r
/-- Do a row's elements of this type lead on to rows? -/
def Cx.dp (X : Cx) (T : Nat) : Bool := memB T X.dps
def Cx.E (X : Cx) (T : Nat) : Enc (X.τ T) := (X.ti T).E
def Cx.si (X : Cx) (T : Nat) : Option SI := lookS X.sis T
theorem Cx.siOk (X : Cx) {T : Nat} {s : SI} (h : X.si T = some s) : SiOk X.P T s := chk_ok (chk_at X.sok h)
/-! ### variables behind pointers -/
def DRepL (X : Cx) (Mp : ∀ T, Option Addr → X.τ T → Asn) : List (DV X.τ) → List Value → List Asn → Prop
  | [], vs, As => vs = [] ∧ As = []
  | .c x :: r, vs, As => ∃ a b, vs = a ++ b ∧ CR ρ0 x a ∧ DRepL X Mp r b As
  | .sl T l :: r, vs, As => ∃ A c b Bs, vs = .slice A l.length c :: b ∧ As = own T (X.E T) A c l :: Bs ∧ DRepL X Mp r b Bs
  | .pt T x :: r, vs, As => ∃ A b Bs, vs = .pointer A :: b ∧ As = oM (Mp T) A x :: Bs ∧ DRepL X Mp r b Bs
def MD (X : Cx) (Mp : ∀ T, Option Addr → X.τ T → Asn) (T : Nat) (A : Option Addr) (x : X.τ T) : Asn := fun L =>
  ∃ g vs As, A = some ⟨g, 0, none⟩ ∧ DRepL X Mp ((X.ti T).opn x) vs As ∧ Cov (box g T vs :: As) L
def Cx.M0 (X : Cx) (T : Nat) (A : Option Addr) (x : X.τ T) : Asn := match X.cus T with
  | some m => m A x
  | none => MD X (fun _ _ _ _ => False) T A x
def Cx.M (X : Cx) (T : Nat) (A : Option Addr) (x : X.τ T) : Asn := match X.cus T with
  | some m => m A x
  | none => MD X X.M0 T A x
def RRepL (X : Cx) (Rp : ∀ T, World → Option Addr → X.τ T → Prop) (w : World) : List (DV X.τ) → List Value → Prop
  | [], vs => vs = []
  | .c x :: r, vs => ∃ a b, vs = a ++ b ∧ CR ρ0 x a ∧ RRepL X Rp w r b
  | .sl T l :: r, vs => ∃ A c b, vs = .slice A l.length c :: b ∧ Rd w (X.E T) A c l ∧ RRepL X Rp w r b
  | .pt T x :: r, vs => ∃ A b, vs = .pointer A :: b ∧ oR (Rp T) w A x ∧ RRepL X Rp w r b
def RMD (X : Cx) (Rp : ∀ T, World → Option Addr → X.τ T → Prop) (T : Nat) (w : World) (A : Option Addr) (x : X.τ T) : Prop :=
  ∃ g vs, A = some ⟨g, 0, none⟩ ∧ Rx w g vs ∧ RRepL X Rp w ((X.ti T).opn x) vs
def Cx.RM0 (X : Cx) (T : Nat) (w : World) (A : Option Addr) (x : X.τ T) : Prop := RMD X (fun _ _ _ _ => False) T w A x
def Cx.RM (X : Cx) (T : Nat) (w : World) (A : Option Addr) (x : X.τ T) : Prop := RMD X X.RM0 T w A x
section
variable {X : Cx} {G : List Nat} {w0 w w' : World} {As Bs : List Asn}
theorem Cov.memb {L : BL} {A : Asn} : ∀ {As : List Asn} {L : BL}, A ∈ As → Cov As L → ∃ Bs, As.Perm (A :: Bs)
  | B :: As, L, h, hc => by
    rcases List.mem_cons.1 h with rfl | h
    · exact ⟨As, List.Perm.refl _⟩
    · obtain ⟨L1, L2, rfl, h1, h2⟩ := hc
      obtain ⟨Bs, hp⟩ := Cov.memb (L := L2) h h2
      exact ⟨B :: Bs, (List.Perm.cons B hp).trans (List.Perm.swap _ _ _)⟩
theorem St.memb {A : Asn} (h : St G w0 w As) (hm : A ∈ As) : ∃ Bs, St G w0 w (A :: Bs) := by
  obtain ⟨L, hc, hs⟩ := h
  obtain ⟨Bs, hp⟩ := Cov.memb (L := L) hm hc
  exact ⟨Bs, St.perm ⟨L, hc, hs⟩ hp⟩
theorem Cov.monoL {α : Type} {f g : α → Asn} : ∀ {l : List α} {L : BL}, (∀ x ∈ l, ∀ L, f x L → g x L) → Cov (l.map f) L → Cov (l.map g) L
  | [], L, _, h => h
  | x :: l, L, hi, ⟨L1, L2, h1, h2, h3⟩ => ⟨L1, L2, h1, hi x (by simp) _ h2, Cov.monoL (fun y hy => hi y (List.mem_cons_of_mem _ hy)) h3⟩
theorem St.monoL {α : Type} {f g : α → Asn} {l : List α} (hi : ∀ x ∈ l, ∀ L, f x L → g x L) (h : St G w0 w (As ++ l.map f)) : St G w0 w (As ++ l.map g) := by
  obtain ⟨L, hc, hs⟩ := h
  obtain ⟨L1, L2, rfl, h1, h2⟩ := Cov.split hc
  exact ⟨_, Cov.join (Cov.monoL hi h2) h1, hs⟩
theorem St.emp {A : Asn} (h : St G w0 w As) (ha : A []) : St G w0 w (A :: As) := by
  obtain ⟨L, hc, hs⟩ := h
  exact ⟨L, ⟨[], L, rfl, ha, hc⟩, hs⟩
theorem DRepL.mono {Mp Mq : ∀ T, Option Addr → X.τ T → Asn} (hm : ∀ T A x L, Mp T A x L → Mq T A x L) : ∀ {ds : List (DV X.τ)} {vs : List Value} {As : List Asn} {L : BL}, DRepL X Mp ds vs As → Cov As L → ∃ As', DRepL X Mq ds vs As' ∧ Cov As' L
  | [], vs, As, L, h, hc => ⟨As, h, hc⟩
  | .c x :: r, vs, As, L, ⟨a, b, h1, h2, h3⟩, hc => by
    obtain ⟨As', k1, k2⟩ := DRepL.mono hm h3 hc
    exact ⟨As', ⟨a, b, h1, h2, k1⟩, k2⟩
  | .sl T l :: r, vs, As, L, ⟨A, c, b, Bs, h1, h2, h3⟩, hc => by
    subst h2
    obtain ⟨L1, L2, rfl, h4, h5⟩ := hc
    obtain ⟨As', k1, k2⟩ := DRepL.mono hm h3 h5
    exact ⟨_ :: As', ⟨A, c, b, As', h1, rfl, k1⟩, ⟨L1, L2, rfl, h4, k2⟩⟩
  | .pt T x :: r, vs, As, L, ⟨A, b, Bs, h1, h2, h3⟩, hc => by
    subst h2
    obtain ⟨L1, L2, rfl, h4, h5⟩ := hc
    obtain ⟨As', k1, k2⟩ := DRepL.mono hm h3 h5
    refine ⟨_ :: As', ⟨A, b, As', h1, rfl, k1⟩, ⟨L1, L2, rfl, ?_, k2⟩⟩
    cases x with
    | none => exact h4
    | some y => exact hm _ _ _ _ h4
theorem DRepL.le {Mp : ∀ T, Option Addr → X.τ T → Asn} : ∀ {ds ds' : List (DV X.τ)} {vs : List Value} {As : List Asn} {L : BL}, DVles ds ds' → DRepL X Mp ds vs As → Cov As L → ∃ As', DRepL X Mp ds' vs As' ∧ Cov As' L
  | [], ds', vs, As, L, h, hr, hc => by cases h; exact ⟨As, hr, hc⟩
  | .c x :: r, ds', vs, As, L, ⟨d', r', e, h1, h2⟩, ⟨a, b, k1, k2, k3⟩, hc => by
    subst e
    obtain ⟨As', q1, q2⟩ := DRepL.le h2 k3 hc
    cases d' with
    | c y => exact ⟨As', ⟨a, b, k1, h1 _ _ k2, q1⟩, q2⟩
    | sl T l =>
      cases x <;> first
        | (have h1 : l = [] := h1
           subst h1
           have k2 : a = _ := k2
           subst k2
           exact ⟨_ :: As', ⟨none, 0, b, As', k1, rfl, q1⟩, ⟨[], L, rfl, .inl ⟨rfl, rfl, rfl, rfl⟩, q2⟩⟩)
        | exact absurd h1 (by simp [DVle])
    | pt T y =>
      cases x <;> first
        | (have h1 : y = none := h1
           subst h1
           have k2 : a = _ := k2
           subst k2
           exact ⟨_ :: As', ⟨none, b, As', k1, rfl, q1⟩, ⟨[], L, rfl, ⟨rfl, rfl⟩, q2⟩⟩)
        | exact absurd h1 (by simp [DVle])
  | .sl T l :: r, ds', vs, As, L, ⟨d', r', e, h1, h2⟩, ⟨A, c, b, Bs, k1, k2, k3⟩, hc => by
    subst e k2
    have h1 : DV.sl T l = d' := h1
    subst h1
    obtain ⟨L1, L2, rfl, h4, h5⟩ := hc
    obtain ⟨As', q1, q2⟩ := DRepL.le h2 k3 h5
    exact ⟨_ :: As', ⟨A, c, b, As', k1, rfl, q1⟩, ⟨L1, L2, rfl, h4, q2⟩⟩
  | .pt T x :: r, ds', vs, As, L, ⟨d', r', e, h1, h2⟩, ⟨A, b, Bs, k1, k2, k3⟩, hc => by
    subst e k2
    have h1 : DV.pt T x = d' := h1
    subst h1
    obtain ⟨L1, L2, rfl, h4, h5⟩ := hc
    obtain ⟨As', q1, q2⟩ := DRepL.le h2 k3 h5
    exact ⟨_ :: As', ⟨A, b, As', k1, rfl, q1⟩, ⟨L1, L2, rfl, h4, q2⟩⟩
theorem RRepL.le {Rp : ∀ T, World → Option Addr → X.τ T → Prop} : ∀ {ds ds' : List (DV X.τ)} {vs : List Value}, DVles ds ds' → RRepL X Rp w ds vs → RRepL X Rp w ds' vs
  | [], ds', vs, h, hr => by cases h; exact hr
  | .c x :: r, ds', vs, ⟨d', r', e, h1, h2⟩, ⟨a, b, k1, k2, k3⟩ => by
    subst e
    have q := RRepL.le h2 k3
    cases d' with
    | c y => exact ⟨a, b, k1, h1 _ _ k2, q⟩
    | sl T l =>
      cases x <;> first
        | (have h1 : l = [] := h1
           subst h1
           have k2 : a = _ := k2
           subst k2
           exact ⟨none, 0, b, k1, Rd.nil _ _, q⟩)
        | exact absurd h1 (by simp [DVle])
    | pt T y =>
      cases x <;> first
        | (have h1 : y = none := h1
           subst h1
           have k2 : a = _ := k2
           subst k2
           exact ⟨none, b, k1, rfl, q⟩)
        | exact absurd h1 (by simp [DVle])
  | .sl T l :: r, ds', vs, ⟨d', r', e, h1, h2⟩, ⟨A, c, b, k1, k2, k3⟩ => by
    subst e
    have h1 : DV.sl T l = d' := h1
    subst h1
    exact ⟨A, c, b, k1, k2, RRepL.le h2 k3⟩
  | .pt T x :: r, ds', vs, ⟨d', r', e, h1, h2⟩, ⟨A, b, k1, k2, k3⟩ => by
    subst e
    have h1 : DV.pt T x = d' := h1
    subst h1
    exact ⟨A, b, k1, k2, RRepL.le h2 k3⟩
theorem RRepL.of {Mp : ∀ T, Option Addr → X.τ T → Asn} {Rp : ∀ T, World → Option Addr → X.τ T → Prop} (hm : ∀ T A x Bs, St G w0 w (Mp T A x :: Bs) → Rp T w A x) : ∀ {ds : List (DV X.τ)} {vs : List Value} {As : List Asn}, DRepL X Mp ds vs As → (∀ B ∈ As, ∃ Bs, St G w0 w (B :: Bs)) → RRepL X Rp w ds vs
  | [], vs, As, h, _ => h.1
  | .c x :: r, vs, As, ⟨a, b, h1, h2, h3⟩, hs => ⟨a, b, h1, h2, RRepL.of hm h3 hs⟩
  | .sl T l :: r, vs, As, ⟨A, c, b, Bs, h1, h2, h3⟩, hs => by
    subst h2
    obtain ⟨Cs, hc⟩ := hs _ List.mem_cons_self
    exact ⟨A, c, b, h1, Rd.of_own hc, RRepL.of hm h3 fun B hB => hs B (List.mem_cons_of_mem _ hB)⟩
  | .pt T x :: r, vs, As, ⟨A, b, Bs, h1, h2, h3⟩, hs => by
    subst h2
    obtain ⟨Cs, hc⟩ := hs _ List.mem_cons_self
    refine ⟨A, b, h1, ?_, RRepL.of hm h3 fun B hB => hs B (List.mem_cons_of_mem _ hB)⟩
    cases x with
    | none => exact (St.oM_none hc).1
    | some y => exact hm _ _ _ _ hc
theorem St.openD {Mp : ∀ T, Option Addr → X.τ T → Asn} {T : Nat} {A : Option Addr} {x : X.τ T} (h : St G w0 w (MD X Mp T A x :: Bs)) : ∃ g vs As, A = some ⟨g, 0, none⟩ ∧ DRepL X Mp ((X.ti T).opn x) vs As ∧ St G w0 w (box g T vs :: As ++ Bs) := by
  obtain ⟨L, ⟨L1, L2, rfl, ⟨g, vs, As, h1, h2, h3⟩, h4⟩, hs⟩ := h
  exact ⟨g, vs, As, h1, h2, _, Cov.join h4 h3, hs⟩
theorem St.closeD {Mp : ∀ T, Option Addr → X.τ T → Asn} {T g : Nat} {x : X.τ T} {vs : List Value} {ds : List (DV X.τ)} (hr : DRepL X Mp ds vs As) (hd : DVles ds ((X.ti T).opn x)) (h : St G w0 w (box g T vs :: As ++ Bs)) : St G w0 w (MD X Mp T (some ⟨g, 0, none⟩) x :: Bs) := by
  obtain ⟨L, hc, hs⟩ := h
  obtain ⟨L1, L2, rfl, ⟨M1, M2, rfl, h1, h2⟩, h3⟩ := Cov.split (Gs := box g T vs :: As) hc
  obtain ⟨As', k1, k2⟩ := DRepL.le hd hr h2
  exact ⟨_, ⟨M1 ++ M2, L2, rfl, ⟨g, vs, As', rfl, k1, M1, M2, rfl, h1, k2⟩, h3⟩, hs⟩
theorem RMD_of {Mp : ∀ T, Option Addr → X.τ T → Asn} {Rp : ∀ T, World → Option Addr → X.τ T → Prop} (hm : ∀ T A x Bs, St G w0 w (Mp T A x :: Bs) → Rp T w A x) {T : Nat} {A : Option Addr} {x : X.τ T} (h : St G w0 w (MD X Mp T A x :: Bs)) : RMD X Rp T w A x := by
  obtain ⟨g, vs, As, h1, h2, h3⟩ := h.openD
  exact ⟨g, vs, h1, Rx.of_box h3, RRepL.of hm h2 fun B hB => St.memb h3 (by simp [hB])⟩
end
/-! ### rows whose elements lead on to rows -/
/-- What such a row's cells are is f, element by element. -/
def RdD (X : Cx) (T : Nat) (f : Nat → List Value) (w : World) (A : Option Addr) (cap : Nat) (l : List (X.τ T)) : Prop :=
  l.length ≤ cap ∧ ∀ i x, l[i]? = some x → ∃ a, A = some a ∧ RRepL X (fun _ _ _ _ => False) w ((X.ti T).opn x) (f i) ∧ ∀ j u, (f i)[j]? = some u → w.cell? (a.add (i * (X.ti T).n + j)) = some u
def Cx.Rr (X : Cx) (T : Nat) (f : Nat → List Value) (w : World) (A : Option Addr) (cap : Nat) (l : List (X.τ T)) : Prop := match X.dp T with
  | false => Rd w (X.E T) A cap l
  | true => RdD X T f w A cap l
section
variable {X : Cx} {T : Nat} {f : Nat → List Value} {w w' : World} {A : Option Addr} {cap : Nat} {l : List (X.τ T)}
theorem Rr_rd (hd : X.dp T = false) (h : X.Rr T f w A cap l) : Rd w (X.E T) A cap l := by
  unfold Cx.Rr at h
  rw [hd] at h
  exact h
theorem Rr_of (hd : X.dp T = false) (h : Rd w (X.E T) A cap l) : X.Rr T f w A cap l := by
  unfold Cx.Rr
  rw [hd]
  exact h
theorem Rr_deep (hd : X.dp T = true) (h : X.Rr T f w A cap l) : RdD X T f w A cap l := by
  unfold Cx.Rr at h
  rw [hd] at h
  exact h
theorem Rr_of_deep (hd : X.dp T = true) (h : RdD X T f w A cap l) : X.Rr T f w A cap l := by
  unfold Cx.Rr
  rw [hd]
  exact h
theorem Rr_nil (X : Cx) (T : Nat) (f : Nat → List Value) (w : World) : X.Rr T f w none 0 [] := by
  unfold Cx.Rr
  split
  · exact Rd.nil _ _
  · exact ⟨Nat.le_refl 0, fun i x h => by cases h⟩
theorem Rr_empty (X : Cx) (T : Nat) (f : Nat → List Value) (w : World) (A : Option Addr) (cap : Nat) : X.Rr T f w A cap [] := by
  unfold Cx.Rr
  split
  · exact ⟨Nat.zero_le _, fun i x h => by cases h⟩
  · exact ⟨Nat.zero_le _, fun i x h => by cases h⟩
end
/-! ### rows and variables -/
inductive AO (τ : Nat → Type) where
  | own (T v : Nat) (l : List (τ T))
  | ro (T : Nat) (l : List (τ T))
  | vw (p v : Nat) (at' : Option (Nat × Nat)) (T : Nat) (l : List (τ T))
  | var (T v : Nat) (cs : List Cl)
  | rvar (T : Nat) (cs : List Cl)
  | pk (T v : Nat) (x : τ T)
  | rpk (T : Nat) (x : τ T)
  | opt (T v : Nat) (x : Option (τ T))
  | ropt (T : Nat) (x : Option (τ T))
/-- How often it was turned; may a cut of it be as new as that? -/
def AO.ver {τ : Nat → Type} : AO τ → Option (Nat × Bool)
  | .own _ v _ => some (v, true)
  | .var _ v _ => some (v, true)
  | .pk _ v _ => some (v, false)
  | .opt _ v _ => some (v, false)
  | _ => none
abbrev HP (X : Cx) := Nat → Option (AO X.τ)
/-- What a cut hangs on: that it can be read where its row, or its variable, can. -/
structure VwF (X : Cx) (ρ : Rho) (H : HP X) (L : Loc) (p v : Nat) (at' : Option (Nat × Nat)) (T : Nat) (l : List (X.τ T)) : Prop where
  dom : ∃ Lp, ρ p = some Lp ∧ ∀ o lo, at' = some (o, lo) → l ≠ [] → ∃ a, Lp.A = some a ∧ L.A = some (a.add (o + lo))
  new : ∀ x n b, H p = some x → x.ver = some (n, b) → v ≤ n ∧ (v = n → b = true)
  own : ∀ Lp Tp lp, ρ p = some Lp → H p = some (.own Tp v lp) → ∀ w', Rd w' (X.E Tp) Lp.A Lp.cap lp → Rd w' (X.E T) L.A L.cap l
  ro : ∀ Lp Tp lp, ρ p = some Lp → H p = some (.ro Tp lp) → ∀ w', Rd w' (X.E Tp) Lp.A Lp.cap lp → Rd w' (X.E T) L.A L.cap l
  nr : ∀ x, H p = some x → (∀ T y, x ≠ .rpk T y) ∧ ∀ T y, x ≠ .ropt T y
  var : ∀ Lp Tp cs, ρ p = some Lp → H p = some (.var Tp v cs) → ∃ vs, CRs ρ cs vs ∧ ∀ g w', Lp.A = some ⟨g, 0, none⟩ → Rx w' g vs → Rd w' (X.E T) L.A L.cap l
  rvar : ∀ Lp Tp cs, ρ p = some Lp → H p = some (.rvar Tp cs) → ∃ vs, CRs ρ cs vs ∧ ∀ g w', Lp.A = some ⟨g, 0, none⟩ → Rx w' g vs → Rd w' (X.E T) L.A L.cap l
def asn (X : Cx) (G : List Nat) (w0 : World) (ρ : Rho) (H : HP X) (o : Nat) : AO X.τ → Asn
  | .own T v l => fun Lb => ∃ L, ρ o = some L ∧ l.length = L.n ∧ L.sz = (X.E T).sz ∧ E.own T (X.E T) L.A L.cap l Lb
  | .ro T l => fun Lb => Lb = [] ∧ ∃ L, ρ o = some L ∧ l.length = L.n ∧ L.sz = (X.E T).sz ∧ ∃ f, ∀ w', Kp G w0 w' → X.Rr T f w' L.A L.cap l
  | .vw p v at' T l => fun Lb => Lb = [] ∧ ∃ L, ρ o = some L ∧ l.length = L.n ∧ L.sz = (X.E T).sz ∧ VwF X ρ H L p v at' T l
  | .var T v cs => fun Lb => ∃ L g vs, ρ o = some L ∧ L.A = some ⟨g, 0, none⟩ ∧ L.n = 1 ∧ L.sz = 0 ∧ CRs ρ cs vs ∧ box g T vs Lb
  | .rvar T cs => fun Lb => Lb = [] ∧ ∃ L g vs, ρ o = some L ∧ L.A = some ⟨g, 0, none⟩ ∧ L.n = 1 ∧ L.sz = 0 ∧ CRs ρ cs vs ∧ ∀ w', Kp G w0 w' → Rx w' g vs
  | .pk T v x => fun Lb => ∃ L, ρ o = some L ∧ L.n = 1 ∧ L.sz = 0 ∧ (∃ g, L.A = some ⟨g, 0, none⟩) ∧ X.M T L.A x Lb
  | .rpk T x => fun Lb => Lb = [] ∧ ∃ L, ρ o = some L ∧ L.n = 1 ∧ L.sz = 0 ∧ (∃ g, L.A = some ⟨g, 0, none⟩) ∧ ∀ w', Kp G w0 w' → X.RM T w' L.A x
  | .opt T v x => fun Lb => ∃ L, ρ o = some L ∧ L.n = 1 ∧ L.sz = 0 ∧ (x = none ∨ ∃ g, L.A = some ⟨g, 0, none⟩) ∧ oM (X.M T) L.A x Lb
  | .ropt T x => fun Lb => Lb = [] ∧ ∃ L, ρ o = some L ∧ L.n = 1 ∧ L.sz = 0 ∧ (x = none ∨ ∃ g, L.A = some ⟨g, 0, none⟩) ∧ ∀ w', Kp G w0 w' → oR (X.RM T) w' L.A x
/-- The rows and variables that there are, listed. -/
structure RelL (X : Cx) (G : List Nat) (w0 : World) (ρ : Rho) (H : HP X) (Lo : List (Nat × AO X.τ)) (w : World) : Prop where
  nd : (Lo.map Prod.fst).Nodup
  all : ∀ o x, H o = some x ↔ (o, x) ∈ Lo
  st : St G w0 w (Lo.map fun p => asn X G w0 ρ H p.1 p.2)
def RelH (X : Cx) (G : List Nat) (w0 : World) (ρ : Rho) (H : HP X) (w : World) : Prop := ∃ Lo, RelL X G w0 ρ H Lo w
def set1 {X : Cx} (H : HP X) (o : Nat) (x : Option (AO X.τ)) : HP X := fun i => match Nat.beq i o with
  | true => x
  | false => H i
def setL {X : Cx} : List (Nat × Option (AO X.τ)) → HP X → HP X
  | [], H => H
  | p :: r, H => setL r (set1 H p.1 p.2)
theorem set1_same {X : Cx} (H : HP X) (o : Nat) (x : Option (AO X.τ)) : set1 H o x o = x := by
  unfold set1
  rw [Nat.beq_refl]
theorem set1_other {X : Cx} (H : HP X) {o i : Nat} (x : Option (AO X.τ)) (h : i ≠ o) : set1 H o x i = H i := by
  unfold set1
  split
  · rename_i hb; exact absurd (Nat.eq_of_beq_eq_true hb) h
  · rfl
/-- From x on to y: as it was, or turned anew, or gone. -/
def AOle {τ : Nat → Type} (x y : Option (AO τ)) : Prop := y = x ∨ y = none ∨ ∃ a b, x = some a ∧ y = some b ∧
  ((∃ m t n s, a.ver = some (m, t) ∧ b.ver = some (n, s) ∧ (m < n ∨ m = n ∧ t = false)) ∨
    (((∃ T y, a = .rpk T y) ∨ ∃ T y, a = .ropt T y)))
def HPle {X : Cx} (ρ : Rho) (H H' : HP X) : Prop := ∀ p, ρ p ≠ none → AOle (H p) (H' p)
theorem HPle.refl {X : Cx} (ρ : Rho) (H : HP X) : HPle ρ H H := fun p _ => .inl rfl
theorem CR.det {ρ : Rho} {c : Cl} {vs ws : List Value} (h : CR ρ c vs) (k : CR ρ c ws) : vs = ws := by
  have caps : ∀ {l : List Nat} {a b : List Value}, capsV ρ l a → capsV ρ l b → a = b := by
    intro l
    induction l with
    | nil => intro a b h k; cases h; cases k; rfl
    | cons o r ih =>
      rintro a b ⟨v, s, rfl, ⟨L, A, h1, h2, rfl⟩, h4⟩ ⟨v', s', rfl, ⟨L', A', k1, k2, rfl⟩, k4⟩
      have : L = L' := Option.some.inj (h1.symm.trans k1)
      subst this
      have : A = A' := Option.some.inj (h2.symm.trans k2)
      subst this
      rw [ih h4 k4]
  cases c with
  | sl o =>
    obtain ⟨L, h1, rfl⟩ := h
    obtain ⟨L', k1, rfl⟩ := k
    have : L = L' := Option.some.inj (h1.symm.trans k1)
    rw [this]
  | pt o i off j =>
    obtain ⟨L, A, h1, h2, _, _, rfl⟩ := h
    obtain ⟨L', A', k1, k2, _, _, rfl⟩ := k
    have : L = L' := Option.some.inj (h1.symm.trans k1)
    subst this
    have : A = A' := Option.some.inj (h2.symm.trans k2)
    rw [this]
  | op o =>
    obtain ⟨L, h1, rfl⟩ := h
    obtain ⟨L', k1, rfl⟩ := k
    have : L = L' := Option.some.inj (h1.symm.trans k1)
    rw [this]
  | mp o =>
    obtain ⟨L, g, h1, h2, rfl⟩ := h
    obtain ⟨L', g', k1, k2, rfl⟩ := k
    have : L = L' := Option.some.inj (h1.symm.trans k1)
    subst this
    cases Option.some.inj (h2.symm.trans k2)
    rfl
  | fn f cs =>
    obtain ⟨as, h1, rfl⟩ := h
    obtain ⟨bs, k1, rfl⟩ := k
    rw [caps h1 k1]
  | _ => exact Eq.trans (show vs = _ from h) (show ws = _ from k).symm
theorem CRs.det {ρ : Rho} : ∀ {l : List Cl} {vs ws : List Value}, CRs ρ l vs → CRs ρ l ws → vs = ws
  | [], _, _, h, k => Eq.trans (show _ = [] from h) (show _ = [] from k).symm
  | _ :: _, _, _, ⟨a, b, h1, h2, h3⟩, ⟨c, d, k1, k2, k3⟩ => by rw [h1, k1, h2.det k2, h3.det k3]
end Go.Proofs.YtlpiomnmaiddbaaGreatDoor.E
namespace Go.Proofs.YtlpiomnmaiddbaaGreatDoor.E
set_option linter.unusedVariables false
set_option linter.unusedSimpArgs false
open Go Go.RowKit
section
variable {X : Cx} {G : List Nat} {w0 w w' : World} {ρ ρ' : Rho} {H H' : HP X} {L : Loc} {o p v : Nat}
theorem VwF.mono {at' : Option (Nat × Nat)} {T : Nat} {l : List (X.τ T)} (h : VwF X ρ H L p v at' T l) (hl : ρ.le ρ') (hh : HPle ρ H H') : VwF X ρ' H' L p v at' T l := by
  obtain ⟨Lp, hp, hp2⟩ := h.dom
  have hne : ρ p ≠ none := by rw [hp]; simp
  have same : ∀ {L'}, ρ' p = some L' → ρ p = some L' := fun e => by rw [← e, hl _ _ hp, hp]
  have hx := hh p hne
  refine ⟨⟨Lp, hl _ _ hp, hp2⟩, ?_, ?_, ?_, ?_, ?_, ?_⟩
  · intro x n b e1 e2
    rcases hx with hx | hx | ⟨a, c, k1, k2, k3⟩
    · exact h.new x n b (by rw [← hx]; exact e1) e2
    · rw [hx] at e1; cases e1
    · rw [k2] at e1
      cases e1
      rcases k3 with ⟨m, t, n', s, q1, q2, q3⟩ | k3
      · have := h.new a m t k1 q1
        rw [q2] at e2
        cases e2
        rcases q3 with q3 | ⟨rfl, rfl⟩
        · exact ⟨by omega, fun e => by omega⟩
        · refine ⟨this.1, fun e => ?_⟩
          have := this.2 e
          cases this
      · have := h.nr a k1
        rcases k3 with ⟨T, y, k3⟩ | ⟨T, y, k3⟩
        · exact absurd k3 (this.1 T y)
        · exact absurd k3 (this.2 T y)
  all_goals
    have key : ∀ x, H' p = some x → (∀ n b, x.ver = some (n, b) → v = n → b = true → H p = some x) ∧ (x.ver = none → H p = some x) := by
      intro x e1
      rcases hx with hx | hx | ⟨a, c, k1, k2, k3⟩
      · exact ⟨fun _ _ _ _ _ => by rw [← hx]; exact e1, fun _ => by rw [← hx]; exact e1⟩
      · rw [hx] at e1; cases e1
      · rw [k2] at e1
        cases e1
        rcases k3 with ⟨m, t, n', s, q1, q2, q3⟩ | k3
        · have := h.new a m t k1 q1
          refine ⟨fun n b e2 e3 e4 => ?_, fun e => by rw [q2] at e; cases e⟩
          rw [q2] at e2
          cases e2
          rcases q3 with q3 | ⟨rfl, rfl⟩
          · omega
          · have := this.2 e3
            cases this
        · have := h.nr a k1
          rcases k3 with ⟨T, y, k3⟩ | ⟨T, y, k3⟩
          · exact absurd k3 (this.1 T y)
          · exact absurd k3 (this.2 T y)
  · intro L' Tp lp e1 e2
    exact h.own L' Tp lp (same e1) ((key _ e2).1 _ _ rfl rfl rfl)
  · intro L' Tp lp e1 e2
    exact h.ro L' Tp lp (same e1) ((key _ e2).2 rfl)
  · intro x e1
    refine ⟨fun T y e => ?_, fun T y e => ?_⟩ <;> subst e
    · exact (h.nr _ ((key _ e1).2 rfl)).1 T y rfl
    · exact (h.nr _ ((key _ e1).2 rfl)).2 T y rfl
  · intro L' Tp cs e1 e2
    obtain ⟨vs, k1, k2⟩ := h.var L' Tp cs (same e1) ((key _ e2).1 _ _ rfl rfl rfl)
    exact ⟨vs, k1.mono hl, k2⟩
  · intro L' Tp cs e1 e2
    obtain ⟨vs, k1, k2⟩ := h.rvar L' Tp cs (same e1) ((key _ e2).2 rfl)
    exact ⟨vs, k1.mono hl, k2⟩
theorem asn.mono (hl : ρ.le ρ') (hh : HPle ρ H H') {x : AO X.τ} {Lb : BL} (h : asn X G w0 ρ H o x Lb) : asn X G w0 ρ' H' o x Lb := by
  cases x with
  | own T v l => obtain ⟨L, h1, h2⟩ := h; exact ⟨L, hl _ _ h1, h2⟩
  | ro T l => obtain ⟨h0, L, h1, h2⟩ := h; exact ⟨h0, L, hl _ _ h1, h2⟩
  | vw p v at' T l => obtain ⟨h0, L, h1, h2, h3, h4⟩ := h; exact ⟨h0, L, hl _ _ h1, h2, h3, h4.mono hl hh⟩
  | var T v cs => obtain ⟨L, g, vs, h1, h2, h3, h4, h5, h6⟩ := h; exact ⟨L, g, vs, hl _ _ h1, h2, h3, h4, h5.mono hl, h6⟩
  | rvar T cs => obtain ⟨h0, L, g, vs, h1, h2, h3, h4, h5, h6⟩ := h; exact ⟨h0, L, g, vs, hl _ _ h1, h2, h3, h4, h5.mono hl, h6⟩
  | pk T v x => obtain ⟨L, h1, h2⟩ := h; exact ⟨L, hl _ _ h1, h2⟩
  | rpk T x => obtain ⟨h0, L, h1, h2⟩ := h; exact ⟨h0, L, hl _ _ h1, h2⟩
  | opt T v x => obtain ⟨L, h1, h2⟩ := h; exact ⟨L, hl _ _ h1, h2⟩
  | ropt T x => obtain ⟨h0, L, h1, h2⟩ := h; exact ⟨h0, L, hl _ _ h1, h2⟩
def setR (ρ : Rho) (o : Nat) (L : Loc) : Rho := fun i => match Nat.beq i o with
  | true => some L
  | false => ρ i
theorem setR_same : setR ρ o L o = some L := by unfold setR; rw [Nat.beq_refl]
theorem setR_other {i : Nat} (h : i ≠ o) : setR ρ o L i = ρ i := by
  unfold setR
  split
  · rename_i hb; exact absurd (Nat.eq_of_beq_eq_true hb) h
  · rfl
theorem setR_le (h : ρ o = none) : ρ.le (setR ρ o L) := fun i K e => by
  rw [setR_other (fun e' => by rw [e', h] at e; cases e)]; exact e
theorem RelL.perm {Lo Lp : List (Nat × AO X.τ)} (h : RelL X G w0 ρ H Lo w) (hp : Lo.Perm Lp) : RelL X G w0 ρ H Lp w :=
  ⟨(hp.map _).nodup_iff.1 h.nd, fun o x => (h.all o x).trans hp.mem_iff, h.st.perm (hp.map _)⟩
theorem RelL.focus {Lo : List (Nat × AO X.τ)} (h : RelL X G w0 ρ H Lo w) {x : AO X.τ} (hx : H o = some x) : ∃ Lp, RelL X G w0 ρ H ((o, x) :: Lp) w := by
  have hm := (h.all o x).1 hx
  have key : ∀ {Lo : List (Nat × AO X.τ)}, (o, x) ∈ Lo → ∃ Lp, Lo.Perm ((o, x) :: Lp) := by
    intro Lo
    induction Lo with
    | nil => intro h; cases h
    | cons a r ih =>
      intro h
      rcases List.mem_cons.1 h with rfl | h
      · exact ⟨r, List.Perm.refl _⟩
      · obtain ⟨Lp, hp⟩ := ih h
        exact ⟨a :: Lp, (List.Perm.cons a hp).trans (List.Perm.swap _ _ _)⟩
  obtain ⟨Lp, hp⟩ := key hm
  exact ⟨Lp, h.perm hp⟩
theorem RelL.cong {Lo : List (Nat × AO X.τ)} (h : RelL X G w0 ρ H Lo w) (e : ∀ o, H o = H' o) : RelL X G w0 ρ H' Lo w := by
  have : H = H' := funext e
  exact this ▸ h
/-- One is turned. -/
theorem RelL.upd {x y : AO X.τ} {Lp : List (Nat × AO X.τ)} (h : RelL X G w0 ρ H ((o, x) :: Lp) w) (hle : AOle (some x) (some y))
    (hs : St G w0 w' (asn X G w0 ρ (set1 H o (some y)) o y :: Lp.map fun p => asn X G w0 ρ H p.1 p.2)) : RelL X G w0 ρ (set1 H o (some y)) ((o, y) :: Lp) w' := by
  have hx : H o = some x := (h.all o x).2 (by simp)
  have hnd := List.nodup_cons.1 (show (o :: Lp.map Prod.fst).Nodup from h.nd)
  have hh : HPle ρ H (set1 H o (some y)) := fun p _ => by
    by_cases e : p = o
    · subst e; rw [set1_same, hx]; exact hle
    · rw [set1_other _ _ e]; exact .inl rfl
  refine ⟨h.nd, fun i z => ?_, ?_⟩
  · by_cases e : i = o
    · subst e
      rw [set1_same]
      refine ⟨fun e => by cases e; simp, fun hm => ?_⟩
      rcases List.mem_cons.1 hm with hm | hm
      · cases hm; rfl
      · exact absurd (List.mem_map.2 ⟨_, hm, rfl⟩) hnd.1
    · rw [set1_other _ _ e, h.all]
      simp [e]
  · have := St.monoL (As := [asn X G w0 ρ (set1 H o (some y)) o y]) (l := Lp) (f := fun p => asn X G w0 ρ H p.1 p.2) (g := fun p => asn X G w0 ρ (set1 H o (some y)) p.1 p.2) (fun p _ L hL => asn.mono (Rho.le_refl ρ) hh hL) hs
    exact this
/-- One is given up. -/
theorem RelL.del {x : AO X.τ} {Lp : List (Nat × AO X.τ)} (h : RelL X G w0 ρ H ((o, x) :: Lp) w) : RelL X G w0 ρ (set1 H o none) Lp w := by
  have hx : H o = some x := (h.all o x).2 (by simp)
  have hnd := List.nodup_cons.1 (show (o :: Lp.map Prod.fst).Nodup from h.nd)
  have hh : HPle ρ H (set1 H o none) := fun p _ => by
    by_cases e : p = o
    · subst e; rw [set1_same, hx]; exact .inr (.inl rfl)
    · rw [set1_other _ _ e]; exact .inl rfl
  refine ⟨hnd.2, fun i z => ?_, ?_⟩
  · by_cases e : i = o
    · subst e
      rw [set1_same]
      exact ⟨fun e => (by cases e), fun hm => absurd (List.mem_map.2 ⟨(i, z), hm, rfl⟩) hnd.1⟩
    · rw [set1_other _ _ e, h.all]
      simp [e]
  · have := St.monoL (As := []) (l := Lp) (f := fun p => asn X G w0 ρ H p.1 p.2) (g := fun p => asn X G w0 ρ (set1 H o none) p.1 p.2) (fun p _ L hL => asn.mono (Rho.le_refl ρ) hh hL) (St.tail h.st)
    exact this
/-- One is new. -/
theorem RelL.add {y : AO X.τ} {Lo : List (Nat × AO X.τ)} (h : RelL X G w0 ρ H Lo w) (hr : ρ o = none) (hH : H o = none)
    (hs : St G w0 w' (asn X G w0 (setR ρ o L) (set1 H o (some y)) o y :: Lo.map fun p => asn X G w0 ρ H p.1 p.2)) : RelL X G w0 (setR ρ o L) (set1 H o (some y)) ((o, y) :: Lo) w' := by
  have hno : ∀ z, (o, z) ∉ Lo := fun z hz => by have := (h.all o z).2 hz; rw [hH] at this; cases this
  have hh : HPle ρ H (set1 H o (some y)) := fun p hp => by
    by_cases e : p = o
    · subst e; exact absurd hr hp
    · rw [set1_other _ _ e]; exact .inl rfl
  refine ⟨List.nodup_cons.2 ⟨fun hm => ?_, h.nd⟩, fun i z => ?_, ?_⟩
  · obtain ⟨q, hq, e⟩ := List.mem_map.1 hm
    obtain ⟨q1, q2⟩ := q
    exact hno q2 (by have e : q1 = o := e; rw [← e]; exact hq)
  · by_cases e : i = o
    · subst e
      rw [set1_same]
      refine ⟨fun e => by cases e; simp, fun hm => ?_⟩
      rcases List.mem_cons.1 hm with hm | hm
      · cases hm; rfl
      · exact absurd hm (hno z)
    · rw [set1_other _ _ e, h.all]
      simp [e]
  · have := St.monoL (As := [asn X G w0 (setR ρ o L) (set1 H o (some y)) o y]) (l := Lo) (f := fun p => asn X G w0 ρ H p.1 p.2) (g := fun p => asn X G w0 (setR ρ o L) (set1 H o (some y)) p.1 p.2) (fun p _ L hL => asn.mono (setR_le hr) hh hL) hs
    exact this
/-- Another world that bears the same. -/
theorem RelL.world {Lo : List (Nat × AO X.τ)} (h : RelL X G w0 ρ H Lo w) (hs : St G w0 w (Lo.map fun p => asn X G w0 ρ H p.1 p.2) → St G w0 w' (Lo.map fun p => asn X G w0 ρ H p.1 p.2)) : RelL X G w0 ρ H Lo w' := ⟨h.nd, h.all, hs h.st⟩
theorem RelH.drew (h : RelH X G w0 ρ H w) : RelH X G w0 ρ H w.drew := by
  obtain ⟨Lo, h⟩ := h
  exact ⟨Lo, h.world fun hs => hs.drew⟩
/-! ### what can be read of them -/
/-- The row behind a slice: type, content. -/
theorem RelL.kp {Lo : List (Nat × AO X.τ)} (h : RelL X G w0 ρ H Lo w) : Kp G w0 w := h.st.kp
theorem asn_own {T v : Nat} {l : List (X.τ T)} {As : List Asn} (h : St G w0 w (asn X G w0 ρ H o (.own T v l) :: As)) : ∃ L, ρ o = some L ∧ l.length = L.n ∧ L.sz = (X.E T).sz ∧ St G w0 w (own T (X.E T) L.A L.cap l :: As) := by
  obtain ⟨Lb, ⟨L1, L2, rfl, ⟨L, h1, h2, h3, h4⟩, hr⟩, hs⟩ := h
  exact ⟨L, h1, h2, h3, _, ⟨L1, L2, rfl, h4, hr⟩, hs⟩
theorem asn_var {T v : Nat} {cs : List Cl} {As : List Asn} (h : St G w0 w (asn X G w0 ρ H o (.var T v cs) :: As)) : ∃ L g vs, ρ o = some L ∧ L.A = some ⟨g, 0, none⟩ ∧ (L.n = 1 ∧ L.sz = 0) ∧ CRs ρ cs vs ∧ St G w0 w (box g T vs :: As) := by
  obtain ⟨Lb, ⟨L1, L2, rfl, ⟨L, g, vs, h1, h2, h3, h3', h4, h5⟩, hr⟩, hs⟩ := h
  exact ⟨L, g, vs, h1, h2, ⟨h3, h3'⟩, h4, _, ⟨L1, L2, rfl, h5, hr⟩, hs⟩
theorem St.pure {A : Asn} {As : List Asn} (h : St G w0 w (A :: As)) : ∃ Lb, A Lb := by
  obtain ⟨Lb, ⟨L1, L2, rfl, h1, _⟩, _⟩ := h
  exact ⟨L1, h1⟩
/-- A row that can be read now. -/
def rowOf (H : HP X) (o : Nat) : Option ((T : Nat) × List (X.τ T)) := match H o with
  | some (.own T _ l) => some ⟨T, l⟩
  | some (.ro T l) => match X.dp T with
    | false => some ⟨T, l⟩
    | true => none
  | some (.vw p v _ T l) => match H p with
    | some (.own _ v' _) => match Nat.beq v v' with
      | true => some ⟨T, l⟩
      | false => none
    | some (.var _ v' _) => match Nat.beq v v' with
      | true => some ⟨T, l⟩
      | false => none
    | some (.ro Tp _) => match X.dp Tp with
      | false => some ⟨T, l⟩
      | true => none
    | some (.rvar _ _) => some ⟨T, l⟩
    | _ => none
  | _ => none
theorem RelL.own_rd {Lo : List (Nat × AO X.τ)} (h : RelL X G w0 ρ H Lo w) {T v : Nat} {l : List (X.τ T)} (hx : H o = some (.own T v l)) : ∃ L, ρ o = some L ∧ l.length = L.n ∧ L.sz = (X.E T).sz ∧ Rd w (X.E T) L.A L.cap l := by
  obtain ⟨Lp, hp⟩ := h.focus hx
  obtain ⟨L, h1, h2, h3, h4⟩ := asn_own hp.st
  exact ⟨L, h1, h2, h3, Rd.of_own h4⟩
theorem RelL.ro_rd {Lo : List (Nat × AO X.τ)} (h : RelL X G w0 ρ H Lo w) {T : Nat} {l : List (X.τ T)} (hx : H o = some (.ro T l)) (hd : X.dp T = false) : ∃ L, ρ o = some L ∧ l.length = L.n ∧ L.sz = (X.E T).sz ∧ Rd w (X.E T) L.A L.cap l := by
  obtain ⟨Lp, hp⟩ := h.focus hx
  obtain ⟨Lb, _, L, h1, h2, h3, f, h4⟩ := hp.st.pure
  exact ⟨L, h1, h2, h3, Rr_rd hd (h4 w h.kp)⟩
theorem RelL.ro_rr {Lo : List (Nat × AO X.τ)} (h : RelL X G w0 ρ H Lo w) {T : Nat} {l : List (X.τ T)} (hx : H o = some (.ro T l)) : ∃ L, ρ o = some L ∧ l.length = L.n ∧ L.sz = (X.E T).sz ∧ ∃ f, ∀ w', Kp G w0 w' → X.Rr T f w' L.A L.cap l := by
  obtain ⟨Lp, hp⟩ := h.focus hx
  obtain ⟨Lb, _, h1⟩ := hp.st.pure
  exact h1
theorem RelL.var_rx {Lo : List (Nat × AO X.τ)} (h : RelL X G w0 ρ H Lo w) {T v : Nat} {cs : List Cl} (hx : H o = some (.var T v cs)) : ∃ L g vs, ρ o = some L ∧ L.A = some ⟨g, 0, none⟩ ∧ (L.n = 1 ∧ L.sz = 0) ∧ CRs ρ cs vs ∧ Rx w g vs := by
  obtain ⟨Lp, hp⟩ := h.focus hx
  obtain ⟨L, g, vs, h1, h2, h3, h4, h5⟩ := asn_var hp.st
  exact ⟨L, g, vs, h1, h2, h3, h4, Rx.of_box h5⟩
theorem RelL.rvar_rx {Lo : List (Nat × AO X.τ)} (h : RelL X G w0 ρ H Lo w) {T : Nat} {cs : List Cl} (hx : H o = some (.rvar T cs)) : ∃ L g vs, ρ o = some L ∧ L.A = some ⟨g, 0, none⟩ ∧ (L.n = 1 ∧ L.sz = 0) ∧ CRs ρ cs vs ∧ Rx w g vs := by
  obtain ⟨Lp, hp⟩ := h.focus hx
  obtain ⟨Lb, _, L, g, vs, h1, h2, h3, h3', h4, h5⟩ := hp.st.pure
  exact ⟨L, g, vs, h1, h2, ⟨h3, h3'⟩, h4, h5 w h.kp⟩
theorem RelL.row {Lo : List (Nat × AO X.τ)} (h : RelL X G w0 ρ H Lo w) {T : Nat} {l : List (X.τ T)} (hx : rowOf H o = some ⟨T, l⟩) : ∃ L, ρ o = some L ∧ l.length = L.n ∧ L.sz = (X.E T).sz ∧ Rd w (X.E T) L.A L.cap l := by
  unfold rowOf at hx
  split at hx
  · rename_i T' v l' he; cases hx; exact h.own_rd he
  · rename_i T' l' he
    split at hx
    · rename_i hd; cases hx; exact h.ro_rd he hd
    · cases hx
  · rename_i p v at' T' l' he
    obtain ⟨Lp, hp⟩ := h.focus he
    obtain ⟨Lb, _, L, h1, h2, h3, h4⟩ := hp.st.pure
    split at hx
    · rename_i Tp v' lp hq
      split at hx
      · rename_i hb
        cases hx
        have hb := Nat.eq_of_beq_eq_true hb
        subst hb
        obtain ⟨Lq, k1, k2, k3, k4⟩ := h.own_rd hq
        exact ⟨L, h1, h2, h3, h4.own _ _ _ k1 hq w k4⟩
      · cases hx
    · rename_i Tp v' cs hq
      split at hx
      · rename_i hb
        cases hx
        have hb := Nat.eq_of_beq_eq_true hb
        subst hb
        obtain ⟨Lq, g, vs, k1, k2, k3, k4, k5⟩ := h.var_rx hq
        obtain ⟨vs', q1, q2⟩ := h4.var _ _ _ k1 hq
        have := q1.det k4
        subst this
        exact ⟨L, h1, h2, h3, q2 g w k2 k5⟩
      · cases hx
    · rename_i Tp lp hq
      split at hx
      · rename_i hd
        cases hx
        obtain ⟨Lq, k1, k2, k3, k4⟩ := h.ro_rd hq hd
        exact ⟨L, h1, h2, h3, h4.ro _ _ _ k1 hq w k4⟩
      · cases hx
    · rename_i Tp cs hq
      cases hx
      obtain ⟨Lq, g, vs, k1, k2, k3, k4, k5⟩ := h.rvar_rx hq
      obtain ⟨vs', q1, q2⟩ := h4.rvar _ _ _ k1 hq
      have := q1.det k4
      subst this
      exact ⟨L, h1, h2, h3, q2 g w k2 k5⟩
    · cases hx
  · cases hx
end
end Go.Proofs.YtlpiomnmaiddbaaGreatDoor.E
namespace Go.Proofs.YtlpiomnmaiddbaaGreatDoor.E
set_option linter.unusedVariables false
set_option linter.unusedSimpArgs false
open Go Go.RowKit
/-! ### operands -/
abbrev Ev := Operand → Option AV
def OpsR (ρ : Rho) (ev : Ev) (e : Operand → Value) : List Operand → Prop
  | [] => True
  | x :: r => (∀ av, ev x = some av → AR ρ av (e x)) ∧ OpsR ρ ev e r
abbrev VI (k : IntKind) (n : Int) : AV := .o (.c (.int k n))
abbrev VB (e : BE) : AV := .o (.c (.bool e))
abbrev VC (c : Cl) : AV := .o (.c c)
abbrev VA (l : List Cl) : AV := .o (.a l)
/-- It runs to such a value, in whatever world, and leaves the world as it is. -/
def Qs (P : Program) (op : Op) (ev : Ev) (av : AV) : Prop := ∀ ρ (e : Operand → Value) w ty, OpsR ρ ev e op.operands.toList → ∃ v, (execOp e (mkO op ty)).run P w = .ok (.value v) w ∧ AR ρ av v
section
variable {ρ : Rho}
theorem AR_int {k : IntKind} {n : Int} {v : Value} (h : AR ρ (VI k n) v) : v = .int k n := by
  have h : [v] = [.int k n] := h
  simpa using h
theorem AR_bool {b : BE} {v : Value} (h : AR ρ (VB b) v) : v = .bool b.v := by
  have h : [v] = [.bool b.v] := h
  simpa using h
theorem AR_str {s : ByteArray} {v : Value} (h : AR ρ (VC (.str s)) v) : v = .string s := by
  have h : [v] = [.string s] := h
  simpa using h
theorem AR_nilp {v : Value} (h : AR ρ (VC .nilp) v) : v = .pointer none := by
  have h : [v] = [.pointer none] := h
  simpa using h
theorem AR_nils {v : Value} (h : AR ρ (VC .nils) v) : v = .slice none 0 0 := by
  have h : [v] = [.slice none 0 0] := h
  simpa using h
theorem AR_pt {o : Nat} {i : Int} {off : Nat} {j : Option (Int × Nat)} {v : Value} (h : AR ρ (VC (.pt o i off j)) v) :
    ∃ L A, ρ o = some L ∧ L.A = some A ∧ (0 ≤ i ∧ i < (L.n : Int)) ∧ (∀ p, j = some p → 0 ≤ p.1 ∧ p.1 < (p.2 : Int)) ∧ v = .pointer (some (A.add (i.toNat * L.sz + off + jn j))) := by
  obtain ⟨L, A, h1, h2, h3, h4, h5⟩ := h
  exact ⟨L, A, h1, h2, h3, h4, by simpa using h5⟩
theorem AR_sl {o : Nat} {v : Value} (h : AR ρ (VC (.sl o)) v) : ∃ L, ρ o = some L ∧ v = .slice L.A L.n L.cap := by
  obtain ⟨L, h1, h2⟩ := h
  exact ⟨L, h1, by simpa using h2⟩
theorem AR_op {o : Nat} {v : Value} (h : AR ρ (VC (.op o)) v) : ∃ L, ρ o = some L ∧ v = .pointer L.A := by
  obtain ⟨L, h1, h2⟩ := h
  exact ⟨L, h1, by simpa using h2⟩
theorem AR_of {c : Cl} {v : Value} (h : CR ρ c [v]) : AR ρ (VC c) v := h
end
/-! ### copies -/
def oMove (x : Option AV) {R : Type} (k : AV → Option R) : Option R := match x with
  | some v => k v
  | none => none
theorem oMove_ok {P : Program} {ev : Ev} {x : Operand} {R : Type} {k : AV → Option R} {r : R} (h : oMove (ev x) k = some r) : ∃ av, k av = some r ∧ Qs P (.move x) ev av ∧ Qs P (.assign x) ev av := by
  unfold oMove at h
  split at h
  · rename_i v hv
    exact ⟨v, h, fun ρ e w ty ho => ⟨e x, rfl, ho.1 v hv⟩, fun ρ e w ty ho => ⟨e x, rfl, ho.1 v hv⟩⟩
  · cases h
def oPick (c a b : Option AV) {R : Type} (k : AV → Option R) : Option R := match c with
  | some (.o (.c (.bool e))) => match a with
    | some x => match b with
      | some y => e.br (k x) (k y)
      | none => match e with
        | .val true => k x
        | _ => none
    | none => match b with
      | some y => match e with
        | .val false => k y
        | _ => none
      | none => none
  | _ => none
theorem pick_run {P : Program} {e : Operand → Value} {c a b : Operand} {t : Bool} {w : World} {ty : TypeId} (h : e c = .bool t) : (execOp e (mkO (.pick c a b) ty)).run P w = .ok (.value (if t = true then e a else e b)) w := by
  show (do pure (Next.value (if ← asBool (e c) then e a else e b)) : Sem Next).run P w = _
  rw [h]
  simp [asBool]
theorem oPick_ok {P : Program} {ev : Ev} {c a b : Operand} {R : Type} {k : AV → Option R} {r : R} (h : oPick (ev c) (ev a) (ev b) k = some r) : ∃ av, k av = some r ∧ Qs P (.pick c a b) ev av := by
  unfold oPick at h
  split at h
  · rename_i e hc
    split at h
    · rename_i x hx
      split at h
      · rename_i y hy
        rcases e.br_or (k x) (k y) with ⟨h1, h2⟩ | ⟨h1, h2⟩ <;> rw [h2] at h
        · refine ⟨x, h, fun ρ f w ty ho => ⟨_, pick_run (AR_bool (ho.1 _ hc)), ?_⟩⟩
          rw [if_pos h1]; exact ho.2.1 _ hx
        · refine ⟨y, h, fun ρ f w ty ho => ⟨_, pick_run (AR_bool (ho.1 _ hc)), ?_⟩⟩
          rw [if_neg (by rw [h1]; simp)]; exact ho.2.2.1 _ hy
      · split at h
        · refine ⟨x, h, fun ρ f w ty ho => ⟨_, pick_run (AR_bool (ho.1 _ hc)), ?_⟩⟩
          show AR ρ x (if true = true then f a else f b)
          rw [if_pos rfl]; exact ho.2.1 _ hx
        · cases h
    · split at h
      · rename_i y hy
        split at h
        · refine ⟨y, h, fun ρ f w ty ho => ⟨_, pick_run (AR_bool (ho.1 _ hc)), ?_⟩⟩
          rw [if_neg (by simp [BE.v])]; exact ho.2.2.1 _ hy
        · cases h
      · cases h
  · cases h
/-! ### arithmetic -/
def oUn (op : UnOp) (x : Option AV) {R : Type} (k : AV → Option R) : Option R := match op, x with
  | .neg, some (.o (.c (.int kd n))) => k (VI kd (kd.wrap (0 - n)))
  | .xor, some (.o (.c (.int kd n))) => k (VI kd (bxor kd (if kd.signed then -1 else kd.max) n))
  | .not, some (.o (.c (.bool e))) => k (VB (.not e))
  | _, _ => none
theorem oUn_ok {P : Program} {ev : Ev} {op : UnOp} {t : TypeId} {x : Operand} {R : Type} {k : AV → Option R} {r : R} (h : oUn op (ev x) k = some r) : ∃ av, k av = some r ∧ Qs P (.unOp op t x) ev av := by
  unfold oUn at h
  split at h
  · rename_i kd n hx
    refine ⟨_, h, fun ρ e w ty ho => ⟨_, run_v (s := Op.unary .neg (e x)) ?_, (rfl : AR ρ (VI _ _) (.int _ _))⟩⟩
    rw [AR_int (ho.1 _ hx)]; rfl
  · rename_i kd n hx
    refine ⟨_, h, fun ρ e w ty ho => ⟨_, run_v (s := Op.unary .xor (e x)) ?_, (rfl : AR ρ (VI _ _) (.int _ _))⟩⟩
    rw [AR_int (ho.1 _ hx)]; rfl
  · rename_i e hx
    refine ⟨_, h, fun ρ f w ty ho => ⟨_, run_v (s := Op.unary .not (f x)) ?_, (rfl : AR ρ (VB _) (.bool _))⟩⟩
    rw [AR_bool (ho.1 _ hx)]; rfl
  · cases h
def binI (b : BinOp) (kd : IntKind) (x y : Int) {R : Type} (k : AV → Option R) : Option R := match b with
  | .add => k (VI kd (kd.wrap (x + y)))
  | .sub => k (VI kd (kd.wrap (x - y)))
  | .mul => k (VI kd (kd.wrap (x * y)))
  | .quo => if y ≠ 0 then k (VI kd (kd.wrap (x.tdiv y))) else none
  | .rem => if y ≠ 0 then k (VI kd (x.tmod y)) else none
  | .and => k (VI kd (band kd x y))
  | .or => k (VI kd (bor kd x y))
  | .xor => k (VI kd (bxor kd x y))
  | .andNot => k (VI kd (bandn kd x y))
  | .eql => k (VB (.dec (x = y) inferInstance))
  | .neq => k (VB (.not (.dec (x = y) inferInstance)))
  | .lss => k (VB (.dec (x < y) inferInstance))
  | .leq => k (VB (.dec (x ≤ y) inferInstance))
  | .gtr => k (VB (.dec (x > y) inferInstance))
  | .geq => k (VB (.dec (x ≥ y) inferInstance))
  | _ => none
def binS (b : BinOp) (x y : ByteArray) {R : Type} (k : AV → Option R) : Option R := match b with
  | .add => if x.size + y.size ≤ 4611686018427387904 then k (VC (.str (x ++ y))) else none
  | .eql => k (VB (.s (x.toList == y.toList)))
  | .neq => k (VB (.s (!(x.toList == y.toList))))
  | .lss => k (VB (.s (Op.bytesLess x.toList y.toList)))
  | .leq => k (VB (.s (Op.bytesLess x.toList y.toList || x.toList == y.toList)))
  | .gtr => k (VB (.s (!(Op.bytesLess x.toList y.toList || x.toList == y.toList))))
  | .geq => k (VB (.s (!(Op.bytesLess x.toList y.toList))))
  | _ => none
/-- Two structs' cells, one by one. -/
def eqC : List Cl → List Cl → Option Bool
  | [], [] => some true
  | .int k x :: r, .int k' y :: s => match kEq k k' with
    | true => match eqC r s with
      | some b => some ((x == y) && b)
      | none => none
    | false => none
  | .bool x :: r, .bool y :: s => match eqC r s with
    | some b => some ((x.v == y.v) && b)
    | none => none
  | .str x :: r, .str y :: s => match eqC r s with
    | some b => some ((x.toList == y.toList) && b)
    | none => none
  | .vec k n x :: r, .vec k' n' y :: s => match kEq k k' with
    | true => if h : n = n' then match eqC r s with
        | some b => some (decide (h ▸ x = y) && b)
        | none => none
      else none
    | false => none
  | _, _ => none
/-- What a struct's field is: a whole number, a Bool, a string, or an array of whole numbers. -/
def eqK (X : Cx) (T : Nat) : Cl → Bool
  | .int k _ => match X.si T with
    | some s => match s.k with
      | .int k' => kEq k k'
      | _ => false
    | none => false
  | .bool _ => match X.si T with
    | some s => match s.k with
      | .bool => true
      | _ => false
    | none => false
  | .str _ => match X.si T with
    | some s => match s.k with
      | .str => true
      | _ => false
    | none => false
  | .vec k n _ => match X.si T with
    | some s => match s.k with
      | .arr n' e => match X.si e with
        | some s' => match s'.k with
          | .int k' => kEq k k' && Nat.beq s'.sz 1 && Nat.beq n n' && Nat.beq s.sz n
          | _ => false
        | none => false
      | _ => false
    | none => false
  | _ => false
def eqF (X : Cx) : List Cl → List (Nat × Nat) → Nat → Bool
  | [], [], _ => true
  | c :: r, p :: fs, o => Nat.beq p.2 o && eqF X r fs (o + c.n) && eqK X p.1 c
  | _, _, _ => false
def binA (X : Cx) (b : BinOp) (t : Nat) (x y : List Cl) {R : Type} (k : AV → Option R) : Option R := match X.si t with
  | some s => match s.k with
    | .st fs => match eqF X x fs 0 && !(X.P.eqGuardType X.P.depth t) && !(X.P.stoodInHeld t) with
      | true => match eqC x y with
        | some e => match b with
          | .eql => k (VB (.s e))
          | .neq => k (VB (.s (!e)))
          | _ => none
        | none => none
      | false => none
    | _ => none
  | none => none
/-- Two pointers, or functions, of which one at least is nil. -/
def nilEq : Cl → Cl → Option Bool
  | .nilp, .nilp => some true
  | .pt .., .nilp => some false
  | .nilp, .pt .. => some false
  | .nils, .nils => some true
  | _, _ => none
def oBin (X : Cx) (b : BinOp) (t : Nat) (x y : Option AV) {R : Type} (k : AV → Option R) : Option R := match x, y with
  | some (.o (.c (.int kd m))), some (.o (.c (.int kd' n))) => match b with
    | .shl => if 0 ≤ n then k (VI kd (shl kd m n)) else none
    | .shr => if 0 ≤ n then k (VI kd (shr kd m n)) else none
    | _ => match kEq kd kd' with
      | true => binI b kd m n k
      | false => none
  | some (.o (.c (.str m))), some (.o (.c (.str n))) => binS b m n k
  | some (.o (.c (.bool m))), some (.o (.c (.bool n))) => match X.si t with
    | some s => match s.k with
      | .bool => match b with
        | .eql => k (VB (.s (m.v == n.v)))
        | .neq => k (VB (.s (m.v != n.v)))
        | _ => none
      | _ => none
    | none => none
  | some (.o (.a l)), some (.o (.a m)) => binA X b t l m k
  | some (.o (.c c)), some (.o (.c d)) => match nilEq c d with
    | some e => match X.si t with
      | some s => match s.k, c with
        | .ptr _, .nils => none
        | .ptr _, _ => match b with
          | .eql => k (VB (.s e))
          | .neq => k (VB (.s (!e)))
          | _ => none
        | .sl _, .nils => match b with
          | .eql => k (VB (.s e))
          | .neq => k (VB (.s (!e)))
          | _ => none
        | _, _ => none
      | none => none
    | none => none
  | _, _ => none
theorem bin_run {P : Program} {e : Operand → Value} {b : BinOp} {t u : TypeId} {x y : Operand} {w : World} {ty : TypeId} {v : Value} (hg : (eqGuard b t x y (e x) (e y)).run P w = .ok () w) (h : (binOp b t (e x) (e y)).run P w = .ok v w) : (execOp e (mkO (.binOp b t x y u) ty)).run P w = .ok (.value v) w := by
  refine run_v ?_
  show (do eqGuard b t x y (e x) (e y); binOp b t (e x) (e y)).run P w = _
  rw [Sem.run_bind, hg]
  exact h
theorem guard_int {P : Program} {b : BinOp} {t : TypeId} {x y : Operand} {w : World} {k k' : IntKind} {m n : Int} : (eqGuard b t x y (.int k m) (.int k' n)).run P w = .ok () w := by cases b <;> simp [eqGuard]
theorem guard_str {P : Program} {b : BinOp} {t : TypeId} {x y : Operand} {w : World} {m n : ByteArray} : (eqGuard b t x y (.string m) (.string n)).run P w = .ok () w := by cases b <;> simp [eqGuard]
theorem guard_bool {P : Program} {b : BinOp} {t : TypeId} {x y : Operand} {w : World} {m n : Bool} : (eqGuard b t x y (.bool m) (.bool n)).run P w = .ok () w := by cases b <;> simp [eqGuard]
theorem guard_ptr {P : Program} {b : BinOp} {t : TypeId} {x y : Operand} {w : World} {m n : Option Addr} : (eqGuard b t x y (.pointer m) (.pointer n)).run P w = .ok () w := by cases b <;> simp [eqGuard]
theorem guard_sl {P : Program} {b : BinOp} {t : TypeId} {x y : Operand} {w : World} {m n : Option Addr} {a c a' c' : Nat} : (eqGuard b t x y (.slice m a c) (.slice n a' c')).run P w = .ok () w := by cases b <;> simp [eqGuard]
theorem binI_ok {P : Program} {b : BinOp} {t : TypeId} {kd : IntKind} {m n : Int} {w : World} {R : Type} {k : AV → Option R} {r : R} (hs : b ≠ .shl) (hs' : b ≠ .shr) (h : binI b kd m n k = some r) : ∃ av, k av = some r ∧ ∀ ρ w, ∃ v, (binOp b t (.int kd m) (.int kd n)).run P w = .ok v w ∧ AR ρ av v := by
  have i : ∀ {ρ : Rho} {z : Int}, AR ρ (VI kd z) (.int kd z) := rfl
  have bb : ∀ {ρ : Rho} {e : BE} {z : Bool}, e.v = z → AR ρ (VB e) (.bool z) := fun e => by rw [← e]; exact (rfl : AR _ (VB _) (.bool _))
  cases b <;> unfold binI at h <;> simp only at h
  case shl => exact absurd rfl hs
  case shr => exact absurd rfl hs'
  case quo =>
    split at h
    · rename_i hn
      exact ⟨_, h, fun ρ w => ⟨_, by simp [binOp, Op.intDiv, hn], i⟩⟩
    · cases h
  case rem =>
    split at h
    · rename_i hn
      exact ⟨_, h, fun ρ w => ⟨_, by simp [binOp, Op.intDiv, hn], i⟩⟩
    · cases h
  case add => exact ⟨_, h, fun ρ w => ⟨_, by simp [binOp, Op.intArith], i⟩⟩
  case sub => exact ⟨_, h, fun ρ w => ⟨_, by simp [binOp, Op.intArith], i⟩⟩
  case mul => exact ⟨_, h, fun ρ w => ⟨_, by simp [binOp, Op.intArith], i⟩⟩
  case and => exact ⟨_, h, fun ρ w => ⟨_, by simp only [binOp, ne_eq, not_true_eq_false, if_false]; rfl, i⟩⟩
  case or => exact ⟨_, h, fun ρ w => ⟨_, by simp only [binOp, ne_eq, not_true_eq_false, if_false]; rfl, i⟩⟩
  case xor => exact ⟨_, h, fun ρ w => ⟨_, by simp only [binOp, ne_eq, not_true_eq_false, if_false]; rfl, i⟩⟩
  case andNot => exact ⟨_, h, fun ρ w => ⟨_, by simp only [binOp, ne_eq, not_true_eq_false, if_false]; rfl, i⟩⟩
  case eql => exact ⟨_, h, fun ρ w => ⟨_, by simp only [binOp, ne_eq, not_true_eq_false, if_false]; rfl, bb (by simp [BE.v, BEq.beq, bne])⟩⟩
  case neq => exact ⟨_, h, fun ρ w => ⟨_, by simp only [binOp, ne_eq, not_true_eq_false, if_false]; rfl, bb (by simp [BE.v, BEq.beq, bne])⟩⟩
  case lss => exact ⟨_, h, fun ρ w => ⟨_, by simp only [binOp, ne_eq, not_true_eq_false, if_false]; rfl, bb (by simp [BE.v, BEq.beq, bne])⟩⟩
  case leq => exact ⟨_, h, fun ρ w => ⟨_, by simp only [binOp, ne_eq, not_true_eq_false, if_false]; rfl, bb (by simp [BE.v, BEq.beq, bne])⟩⟩
  case gtr => exact ⟨_, h, fun ρ w => ⟨_, by simp only [binOp, ne_eq, not_true_eq_false, if_false]; rfl, bb (by simp [BE.v, BEq.beq, bne])⟩⟩
  case geq => exact ⟨_, h, fun ρ w => ⟨_, by simp only [binOp, ne_eq, not_true_eq_false, if_false]; rfl, bb (by simp [BE.v, BEq.beq, bne])⟩⟩
theorem binS_ok {P : Program} {b : BinOp} {t : TypeId} {m n : ByteArray} {R : Type} {k : AV → Option R} {r : R} (h : binS b m n k = some r) : ∃ av, k av = some r ∧ ∀ ρ w, ∃ v, (binOp b t (.string m) (.string n)).run P w = .ok v w ∧ AR ρ av v := by
  have bb : ∀ {ρ : Rho} {z : Bool}, AR ρ (VB (.s z)) (.bool z) := fun {ρ z} => by show [Value.bool z] = [.bool (BE.s z).v]; rw [BE.s_v]
  cases b <;> unfold binS at h <;> simp only at h
  case add =>
    split at h
    · rename_i hn
      refine ⟨_, h, fun ρ w => ⟨.string (m ++ n), ?_, (rfl : AR ρ (VC (.str _)) (.string _))⟩⟩
      simp only [binOp, Op.stringOp]
      simp
      omega
    · cases h
  case eql => exact ⟨_, h, fun ρ w => ⟨_, by simp only [binOp, Op.stringOp]; rfl, bb⟩⟩
  case neq => exact ⟨_, h, fun ρ w => ⟨_, by simp only [binOp, Op.stringOp]; rfl, bb⟩⟩
  case lss => exact ⟨_, h, fun ρ w => ⟨_, by simp only [binOp, Op.stringOp]; rfl, bb⟩⟩
  case leq => exact ⟨_, h, fun ρ w => ⟨_, by simp only [binOp, Op.stringOp]; rfl, bb⟩⟩
  case gtr => exact ⟨_, h, fun ρ w => ⟨_, by simp only [binOp, Op.stringOp]; rfl, bb⟩⟩
  case geq => exact ⟨_, h, fun ρ w => ⟨_, by simp only [binOp, Op.stringOp]; rfl, bb⟩⟩
  case sub => cases h
  case mul => cases h
  case quo => cases h
  case rem => cases h
  case and => cases h
  case or => cases h
  case xor => cases h
  case shl => cases h
  case shr => cases h
  case andNot => cases h
end Go.Proofs.YtlpiomnmaiddbaaGreatDoor.E
namespace Go.Proofs.YtlpiomnmaiddbaaGreatDoor.E
set_option linter.unusedVariables false
set_option linter.unusedSimpArgs false
open Go Go.RowKit
section
variable {P : Program} {w : World}
theorem run_isAgg {t : TypeId} {b : Bool} (hu : (P.underlying t).map (·.isRow) = some b) : (isAgg t).run P w = .ok b w := by
  obtain ⟨d, hu, hd⟩ := Option.map_eq_some_iff.1 hu
  unfold isAgg
  rw [Sem.run_bind, run_underlying hu w]
  cases d <;> simp_all
theorem run_size {t : TypeId} {n : Nat} (hs : (P.info? t).map (·.size) = some n) : (sizeOf t).run P w = .ok n w := by
  obtain ⟨inf, hi, hsz⟩ := Option.map_eq_some_iff.1 hs
  simp [sizeOf, typeInfo, hi, hsz]
theorem part_cell {t off : Nat} {cs : Array Value} {v : Value} (hu : (P.underlying t).map (·.isRow) = some false) (h : cs.toList[off]? = some v) : (part t cs off).run P w = .ok v w := by
  have h : cs[off]? = some v := by simpa using h
  simp [part, Sem.run_bind, run_isAgg hu, h]
theorem part_row {t off n : Nat} {cs : Array Value} (hu : (P.underlying t).map (·.isRow) = some true) (hs : (P.info? t).map (·.size) = some n) : (part t cs off).run P w = .ok (.agg ((cs.toList.drop off).take n).toArray) w := by
  have : cs.extract off (off + n) = ((cs.toList.drop off).take n).toArray := by
    apply Array.ext'
    simp [List.take_drop]
  simp [part, Sem.run_bind, run_isAgg hu, run_size hs, this]
end
/-- A part of some cells: what is told there. -/
theorem CRs.at {ρ : Rho} {l : List Cl} {vs : List Value} {off : Nat} {c : Cl} {r : List Cl} (h : CRs ρ l vs) (e : dropC l off = some (c :: r)) : ∃ a b, vs.drop off = a ++ b ∧ CR ρ c a ∧ CRs ρ r b ∧ off ≤ vs.length := by
  obtain ⟨k1, k2⟩ := dropC_ok h e
  obtain ⟨a, b, h1, h2, h3⟩ := k1
  exact ⟨a, b, h1, h2, h3, k2⟩
theorem CRs.at1 {ρ : Rho} {l : List Cl} {vs : List Value} {off : Nat} {c : Cl} {r : List Cl} (h : CRs ρ l vs) (e : dropC l off = some (c :: r)) (hn : c.n = 1) : ∃ v, vs[off]? = some v ∧ CR ρ c [v] := by
  obtain ⟨a, b, h1, h2, h3, h4⟩ := h.at e
  have hl := h2.len
  rw [hn] at hl
  obtain ⟨v, rfl⟩ : ∃ v, a = [v] := by
    cases a with
    | nil => cases hl
    | cons v s => cases s with
      | nil => exact ⟨v, rfl⟩
      | cons _ _ => simp at hl
  refine ⟨v, ?_, h2⟩
  have : (vs.drop off)[0]? = some v := by rw [h1]; rfl
  simpa using this
theorem CRs.cut {ρ : Rho} {l r p : List Cl} {vs : List Value} {off n : Nat} (h : CRs ρ l vs) (e : dropC l off = some r) (e' : takeC r n = some p) : CRs ρ p ((vs.drop off).take n) := (takeC_ok (dropC_ok h e).1 e').1
section
variable {X : Cx} {ρ : Rho} {w : World}
/-- Fields of two structs, one by one. -/
theorem eqF_ok {d : Nat} {xs ys : Array Value} : ∀ {fs : List Field} {l : List (Nat × Nat)} {x y : List Cl} {o : Nat} {vs ws : List Value} {e : Bool}, fsOk fs l = true → eqF X x l o = true → eqC x y = some e → CRs ρ x vs → CRs ρ y ws → xs.toList.drop o = vs → ys.toList.drop o = ws →
    (Op.eqFields (d + 2) xs ys fs).run X.P w = .ok e w := by
  intro fs
  induction fs with
  | nil =>
    intro l x y o vs ws e h1 h2 h3 _ _ _ _
    have : l = [] := by
      unfold fsOk at h1
      split at h1
      · rfl
      · cases h1
    subst this
    cases x with
    | nil =>
      cases y with
      | nil => cases h3; exact eq_nil
      | cons _ _ => simp [eqC] at h3
    | cons _ _ => simp [eqF] at h2
  | cons f fs ih =>
    intro l x y o vs ws e h1 h2 h3 hx hy ex ey
    cases l with
    | nil => simp [fsOk] at h1
    | cons p l =>
      simp only [fsOk, Bool.and_eq_true] at h1
      obtain ⟨⟨⟨g1, g2⟩, g3⟩, g4⟩ := h1
      have g1 := Nat.eq_of_beq_eq_true g1
      have g2 := Nat.eq_of_beq_eq_true g2
      have g3 : (f.name == "_") = false := by simpa using g3
      cases x with
      | nil => simp [eqF] at h2
      | cons c r =>
        simp only [eqF, Bool.and_eq_true] at h2
        obtain ⟨⟨q1, q2⟩, q3⟩ := h2
        have q1 := Nat.eq_of_beq_eq_true q1
        obtain ⟨a, b, rfl, hc, hr⟩ := hx
        cases y with
        | nil => cases c <;> simp [eqC] at h3
        | cons c' r' =>
          obtain ⟨a', b', rfl, hc', hr'⟩ := hy
          have ho : f.offset = o := by rw [g2, q1]
          have step : ∀ {e1 e2 : Bool} {u v : Value}, (part f.type xs o).run X.P w = .ok u w → (part f.type ys o).run X.P w = .ok v w → (Op.equalIn (d + 2) f.type u v).run X.P w = .ok e1 w → eqC r r' = some e2 → a.length = c.n → a'.length = c.n → (Op.eqFields (d + 2) xs ys (f :: fs)).run X.P w = .ok (e1 && e2) w := by
            intro e1 e2 u v k1 k2 k3 k4 k5 k6
            refine eq_cons g3 (by rw [ho]; exact k1) (by rw [ho]; exact k2) k3 ?_
            refine ih g4 q2 k4 hr hr' ?_ ?_
            · rw [← List.drop_drop, ex, ← k5, List.drop_left]
            · rw [← List.drop_drop, ey, ← k6, List.drop_left]
          have cell : ∀ {z : Array Value} {u : Value} {t : List Value} {s : SI}, z.toList.drop o = [u] ++ t → X.si p.1 = some s → (X.P.underlying p.1).map (·.isRow) = some false → (part f.type z o).run X.P w = .ok u w := by
            intro z u t s k1 k2 k3
            refine part_cell (by rw [g1]; exact k3) ?_
            have : (z.toList.drop o)[0]? = some u := by rw [k1]; rfl
            simpa using this
          cases c
          all_goals unfold eqK at q3
          case int k n =>
            simp only at q3
            split at q3
            · rename_i s hs
              split at q3
              · rename_i k' hk
                have hkk := kEq_ok q3
                have hu := (X.siOk hs).int hk
                cases c' <;> try (cases h3; done)
                rename_i k2 m
                simp only [eqC] at h3
                split at h3 <;> try (cases h3; done)
                rename_i hk2
                have hk2 := kEq_ok hk2
                split at h3 <;> try (cases h3; done)
                rename_i b2 hb2
                cases h3
                have hc : a = _ := hc
                have hc' : a' = _ := hc'
                subst hc hc'
                refine step (cell ex hs (by rw [hu]; rfl)) (cell ey hs (by rw [hu]; rfl)) ?_ hb2 rfl rfl
                rw [g1]
                simp [Op.equalIn, run_underlying hu, hk2]
              · cases q3
            · cases q3
          case bool b1 =>
            simp only at q3
            split at q3
            · rename_i s hs
              split at q3
              · rename_i hk
                have hu := (X.siOk hs).bool hk
                cases c' <;> try (cases h3; done)
                rename_i b2
                simp only [eqC] at h3
                split at h3 <;> try (cases h3; done)
                rename_i b3 hb3
                cases h3
                have hc : a = _ := hc
                have hc' : a' = _ := hc'
                subst hc hc'
                refine step (cell ex hs (by rw [hu]; rfl)) (cell ey hs (by rw [hu]; rfl)) ?_ hb3 rfl rfl
                rw [g1]
                simp [Op.equalIn, run_underlying hu]
              · cases q3
            · cases q3
          case str b1 =>
            simp only at q3
            split at q3
            · rename_i s hs
              split at q3
              · rename_i hk
                have hu := (X.siOk hs).str hk
                cases c' <;> try (cases h3; done)
                rename_i b2
                simp only [eqC] at h3
                split at h3 <;> try (cases h3; done)
                rename_i b3 hb3
                cases h3
                have hc : a = _ := hc
                have hc' : a' = _ := hc'
                subst hc hc'
                refine step (cell ex hs (by rw [hu]; rfl)) (cell ey hs (by rw [hu]; rfl)) ?_ hb3 rfl rfl
                rw [g1]
                exact run_equalIn_string _ _ _ _ _ hu
              · cases q3
            · cases q3
          case vec k n x =>
            simp only at q3
            split at q3
            · rename_i s hs
              split at q3
              · rename_i n' e' hk
                split at q3
                · rename_i s' hs'
                  split at q3
                  · rename_i k' hk'
                    simp only [Bool.and_eq_true] at q3
                    obtain ⟨⟨⟨q5, q7⟩, q4⟩, q6⟩ := q3
                    have q4 := Nat.eq_of_beq_eq_true q4
                    have q6 := Nat.eq_of_beq_eq_true q6
                    have hkk := kEq_ok q5
                    have q7 := Nat.eq_of_beq_eq_true q7
                    subst hkk q4
                    have hu := (X.siOk hs).arr hk
                    have hu' := (X.siOk hs').int hk'
                    have hz := (X.siOk hs).size
                    have hz' := (X.siOk hs').size
                    rw [q6] at hz
                    rw [q7] at hz'
                    cases c' <;> try (cases h3; done)
                    rename_i k2 n2 x2
                    simp only [eqC] at h3
                    split at h3 <;> try (cases h3; done)
                    rename_i hk2
                    have hk2 := kEq_ok hk2
                    subst hk2
                    split at h3 <;> try (cases h3; done)
                    rename_i hn2
                    subst hn2
                    split at h3 <;> try (cases h3; done)
                    rename_i b2 hb2
                    cases h3
                    have hc : a = _ := hc
                    have hc' : a' = _ := hc'
                    have l1 : a.length = n := by rw [hc]; simp
                    have l2 : a'.length = n := by rw [hc']; simp
                    have row : ∀ {z : Array Value} {u t : List Value}, z.toList.drop o = u ++ t → u.length = n → (part f.type z o).run X.P w = .ok (.agg u.toArray) w := by
                      intro z u t k1 k2
                      rw [part_row (n := n) (by rw [g1, hu]; rfl) (by rw [g1]; exact hz), k1, ← k2, List.take_left]
                    refine step (row ex l1) (row ey l2) ?_ hb2 l1 l2
                    rw [g1]
                    exact eq_vec x x2 hu hz' hu' (by rw [hc, vec_range 0 x (Value.int k)]) (by rw [hc', vec_range 0 x2 (Value.int k)])
                  · cases q3
                · cases q3
              · cases q3
            · cases q3
          all_goals (cases q3)
theorem eq_bool {P : Program} {w : World} {t : TypeId} {a b : Bool} (hu : P.underlying t = some .bool) : (Op.equal t (.bool a) (.bool b)).run P w = .ok (a == b) w := by
  have key : ∀ d, (Op.equalIn (d + 1) t (.bool a) (.bool b)).run P w = .ok (a == b) w := fun d => by simp [Op.equalIn, run_underlying hu]
  exact key 9999
theorem eq_ptr {P : Program} {w : World} {t e' : TypeId} {p q : Option Addr} (hu : P.underlying t = some (.pointer e')) (h : p = none ∨ q = none) : (Op.equal t (.pointer p) (.pointer q)).run P w = .ok (p.isNone && q.isNone) w := by
  have key : ∀ d, (Op.equalIn (d + 1) t (.pointer p) (.pointer q)).run P w = .ok (p.isNone && q.isNone) w := fun d => by
    rcases h with rfl | rfl
    · simp [Op.equalIn, run_underlying hu]
    · cases p <;> simp [Op.equalIn, run_underlying hu]
  exact key 9999
theorem eq_sl {P : Program} {w : World} {t e' : TypeId} {p q : Option Addr} {a b c d : Nat} (hu : P.underlying t = some (.slice e')) (h : p = none ∨ q = none) : (Op.equal t (.slice p a b) (.slice q c d)).run P w = .ok (p.isNone && q.isNone) w := by
  have key : ∀ n, (Op.equalIn (n + 1) t (.slice p a b) (.slice q c d)).run P w = .ok (p.isNone && q.isNone) w := fun n => by
    rcases h with rfl | rfl
    · simp [Op.equalIn, run_underlying hu]
    · cases p <;> simp [Op.equalIn, run_underlying hu]
  exact key 9999
theorem bin_eql {P : Program} {w : World} {t : TypeId} {x y : Value} {b : Bool} (h : (Op.equal t x y).run P w = .ok b w) (hx : binOp .eql t x y = (do pure (.bool (← Op.equal t x y))) := by rfl) : (binOp .eql t x y).run P w = .ok (.bool b) w := by
  rw [hx, Sem.run_bind, h]
  rfl
theorem bin_neq {P : Program} {w : World} {t : TypeId} {x y : Value} {b : Bool} (h : (Op.equal t x y).run P w = .ok b w) (hx : binOp .neq t x y = (do pure (.bool (!(← Op.equal t x y)))) := by rfl) : (binOp .neq t x y).run P w = .ok (.bool (!b)) w := by
  rw [hx, Sem.run_bind, h]
  rfl
theorem oBin_ok {ev : Ev} {b : BinOp} {t u : TypeId} {x y : Operand} {R : Type} {k : AV → Option R} {r : R} (h : oBin X b t (ev x) (ev y) k = some r) : ∃ av, k av = some r ∧ Qs X.P (.binOp b t x y u) ev av := by
  have bb : ∀ {ρ : Rho} {z : Bool}, AR ρ (VB (.s z)) (.bool z) := fun {ρ z} => by show [Value.bool z] = [.bool (BE.s z).v]; rw [BE.s_v]
  unfold oBin at h
  split at h
  · rename_i kd m kd' n hx hy
    split at h
    · split at h
      · rename_i hn
        refine ⟨_, h, fun ρ e w ty ho => ⟨_, x_shl (AR_int (ho.1 _ hx)) (AR_int (ho.2.1 _ hy)) hn, (rfl : AR ρ (VI _ _) (.int _ _))⟩⟩
      · cases h
    · split at h
      · rename_i hn
        refine ⟨_, h, fun ρ e w ty ho => ⟨_, x_shr (AR_int (ho.1 _ hx)) (AR_int (ho.2.1 _ hy)) hn, (rfl : AR ρ (VI _ _) (.int _ _))⟩⟩
      · cases h
    · split at h
      · rename_i hk
        have hk := kEq_ok hk
        subst hk
        rename_i n1 n2 _
        obtain ⟨av, h1, h2⟩ := binI_ok (P := X.P) (t := t) (w := default) (fun e => by subst e; simp_all) (fun e => by subst e; simp_all) h
        refine ⟨av, h1, fun ρ e w ty ho => ?_⟩
        obtain ⟨v, h3, h4⟩ := h2 ρ w
        refine ⟨v, bin_run ?_ ?_, h4⟩
        · rw [AR_int (ho.1 _ hx), AR_int (ho.2.1 _ hy)]; exact guard_int
        · rw [AR_int (ho.1 _ hx), AR_int (ho.2.1 _ hy)]; exact h3
      · cases h
  · rename_i m n hx hy
    obtain ⟨av, h1, h2⟩ := binS_ok (P := X.P) (t := t) h
    refine ⟨av, h1, fun ρ e w ty ho => ?_⟩
    obtain ⟨v, h3, h4⟩ := h2 ρ w
    refine ⟨v, bin_run ?_ ?_, h4⟩
    · rw [AR_str (ho.1 _ hx), AR_str (ho.2.1 _ hy)]; exact guard_str
    · rw [AR_str (ho.1 _ hx), AR_str (ho.2.1 _ hy)]; exact h3
  · rename_i m n hx hy
    split at h <;> try (cases h)
    rename_i s hs
    split at h <;> try (cases h)
    rename_i hk
    have hu := (X.siOk hs).bool hk
    split at h <;> try (cases h)
    · refine ⟨_, h, fun ρ e w ty ho => ⟨_, bin_run ?_ ?_, bb⟩⟩
      · rw [AR_bool (ho.1 _ hx), AR_bool (ho.2.1 _ hy)]; exact guard_bool
      · rw [AR_bool (ho.1 _ hx), AR_bool (ho.2.1 _ hy)]
        exact bin_eql (eq_bool hu)
    · refine ⟨_, h, fun ρ e w ty ho => ⟨_, bin_run ?_ ?_, bb⟩⟩
      · rw [AR_bool (ho.1 _ hx), AR_bool (ho.2.1 _ hy)]; exact guard_bool
      · rw [AR_bool (ho.1 _ hx), AR_bool (ho.2.1 _ hy)]
        exact bin_neq (eq_bool hu)
  · rename_i l m hx hy
    unfold binA at h
    split at h <;> try (cases h)
    rename_i s hs
    split at h <;> try (cases h)
    rename_i fs hk
    split at h <;> try (cases h)
    rename_i hc
    simp only [Bool.and_eq_true, Bool.not_eq_true'] at hc
    obtain ⟨⟨c1, c2⟩, c3⟩ := hc
    split at h <;> try (cases h)
    rename_i e he
    obtain ⟨fa, hu, hf⟩ := (X.siOk hs).st hk
    have run : ∀ ρ w vs ws, CRs ρ l vs → CRs ρ m ws → (Op.equalIn Op.maxDepth t (.agg vs.toArray) (.agg ws.toArray)).run X.P w = .ok e w := by
      intro ρ w vs ws k1 k2
      have := eqF_ok (X := X) (ρ := ρ) (w := w) (d := 9997) (xs := vs.toArray) (ys := ws.toArray) hf c1 he k1 k2 (by simp) (by simp)
      exact eq_struct hu c3 this
    split at h <;> try (cases h)
    · refine ⟨_, h, fun ρ f w ty ho => ?_⟩
      obtain ⟨vs, e1, q1⟩ := ho.1 _ hx
      obtain ⟨ws, e2, q2⟩ := ho.2.1 _ hy
      exact ⟨_, x_eql e1 e2 c2 (run ρ w vs ws q1 q2), bb⟩
    · refine ⟨_, h, fun ρ f w ty ho => ?_⟩
      obtain ⟨vs, e1, q1⟩ := ho.1 _ hx
      obtain ⟨ws, e2, q2⟩ := ho.2.1 _ hy
      exact ⟨_, x_neq e1 e2 c2 (run ρ w vs ws q1 q2), bb⟩
  · rename_i c d hne1 hne2 hne3 hx hy
    split at h <;> try (cases h)
    rename_i e he
    split at h <;> try (cases h)
    rename_i s hs
    have run : ∀ (ρ : Rho) (f : Operand → Value), OpsR ρ ev f (Op.binOp b t x y u).operands.toList → (∃ p q, f x = .pointer p ∧ f y = .pointer q ∧ (p = none ∨ q = none) ∧ e = (p.isNone && q.isNone)) ∨ (f x = .slice none 0 0 ∧ f y = .slice none 0 0 ∧ e = true ∧ c = .nils) := by
      intro ρ f ho
      have k1 := ho.1 _ hx
      have k2 := ho.2.1 _ hy
      unfold nilEq at he
      split at he <;> try (cases he)
      · exact .inl ⟨none, none, AR_nilp k1, AR_nilp k2, .inl rfl, rfl⟩
      · obtain ⟨L, A, _, _, _, _, e⟩ := AR_pt k1
        exact .inl ⟨_, none, e, AR_nilp k2, .inr rfl, rfl⟩
      · obtain ⟨L, A, _, _, _, _, e⟩ := AR_pt k2
        exact .inl ⟨none, _, AR_nilp k1, e, .inl rfl, rfl⟩
      · exact .inr ⟨AR_nils k1, AR_nils k2, rfl, rfl⟩
    split at h <;> try (cases h)
    · rename_i e' hk hcn
      have hu := (X.siOk hs).ptr hk
      split at h <;> try (cases h)
      · refine ⟨_, h, fun ρ f w ty ho => ⟨.bool e, ?_, bb⟩⟩
        rcases run ρ f ho with ⟨p, q, e1, e2, e3, e4⟩ | ⟨_, _, _, e4⟩
        · refine bin_run (by rw [e1, e2]; exact guard_ptr) ?_
          rw [e1, e2, e4]
          exact bin_eql (eq_ptr hu e3)
        · exact absurd e4 hcn
      · refine ⟨_, h, fun ρ f w ty ho => ⟨.bool (!e), ?_, bb⟩⟩
        rcases run ρ f ho with ⟨p, q, e1, e2, e3, e4⟩ | ⟨_, _, _, e4⟩
        · refine bin_run (by rw [e1, e2]; exact guard_ptr) ?_
          rw [e1, e2, e4]
          exact bin_neq (eq_ptr hu e3)
        · exact absurd e4 hcn
    · rename_i e' hk
      have hu := (X.siOk hs).sl hk
      split at h <;> try (cases h)
      · refine ⟨_, h, fun ρ f w ty ho => ⟨.bool e, ?_, bb⟩⟩
        rcases run ρ f ho with ⟨p, q, e1, e2, e3, e4⟩ | ⟨e1, e2, e3, _⟩
        · have := AR_nils (ho.1 _ hx); rw [e1] at this; cases this
        · refine bin_run (by rw [e1, e2]; exact guard_sl) ?_
          rw [e1, e2, e3]
          exact bin_eql (eq_sl hu (.inl rfl))
      · refine ⟨_, h, fun ρ f w ty ho => ⟨.bool (!e), ?_, bb⟩⟩
        rcases run ρ f ho with ⟨p, q, e1, e2, e3, e4⟩ | ⟨e1, e2, e3, _⟩
        · have := AR_nils (ho.1 _ hx); rw [e1] at this; cases this
        · refine bin_run (by rw [e1, e2]; exact guard_sl) ?_
          rw [e1, e2, e3]
          exact bin_neq (eq_sl hu (.inl rfl))
  · cases h
end
end Go.Proofs.YtlpiomnmaiddbaaGreatDoor.E
namespace Go.Proofs.YtlpiomnmaiddbaaGreatDoor.E
set_option linter.unusedVariables false
set_option linter.unusedSimpArgs false
open Go Go.RowKit
section
variable {X : Cx}
/-! ### conversions, parts -/
def oConv (X : Cx) (s d : Nat) (x : Option AV) {R : Type} (k : AV → Option R) : Option R := match X.si s with
  | none => none
  | some _ => match X.si d with
    | none => none
    | some sd => match x with
      | some (.o (.c (.int _ n))) => match sd.k with
        | .int kd => k (VI kd (kd.wrap n))
        | _ => none
      | some (.o (.c (.str m))) => match sd.k with
        | .str => k (VC (.str m))
        | _ => none
      | _ => none
theorem oConv_ok {ev : Ev} {s d : Nat} {x : Operand} {R : Type} {k : AV → Option R} {r : R} (h : oConv X s d (ev x) k = some r) : ∃ av, k av = some r ∧ Qs X.P (.convert s d x) ev av := by
  unfold oConv at h
  split at h
  · cases h
  · rename_i ss hss
    split at h
    · cases h
    · rename_i sd hsd
      obtain ⟨ds, hu, _⟩ := (X.siOk hss).desc
      split at h
      · rename_i kd n hx
        split at h
        · rename_i kd' hk
          have hv := (X.siOk hsd).int hk
          refine ⟨_, h, fun ρ e w ty ho => ⟨_, run_v (s := convert s d (e x)) ?_, (rfl : AR ρ (VI _ _) (.int _ _))⟩⟩
          rw [AR_int (ho.1 _ hx)]
          simp [convert, run_underlying hu, run_underlying hv, Conv.intToInt]
        · cases h
      · rename_i m hx
        split at h
        · rename_i hk
          have hv := (X.siOk hsd).str hk
          refine ⟨_, h, fun ρ e w ty ho => ⟨_, run_v (s := convert s d (e x)) ?_, (rfl : AR ρ (VC (.str _)) (.string _))⟩⟩
          rw [AR_str (ho.1 _ hx)]
          cases ds <;> simp [convert, run_underlying hu, run_underlying hv]
        · cases h
      · cases h
theorem ARs_at {ρ : Rho} : ∀ {l : List A1} {vs : List Value} {i : Nat} {x : A1}, ARs ρ l vs → l[i]? = some x → ∃ v, vs[i]? = some v ∧ AR1 ρ x v
  | [], _, _, _, _, h => by cases h
  | _ :: _, _, 0, _, ⟨v, s, rfl, h1, _⟩, h => by cases h; exact ⟨v, rfl, h1⟩
  | _ :: _, _, i + 1, _, ⟨v, s, rfl, _, h2⟩, h => by
    obtain ⟨u, k1, k2⟩ := ARs_at h2 (i := i) (by simpa using h)
    exact ⟨u, by simpa using k1, k2⟩
def oExt (x : Option AV) (i : Nat) {R : Type} (k : AV → Option R) : Option R := match x with
  | some (.t l) => match l[i]? with
    | some y => k (.o y)
    | none => none
  | _ => none
theorem oExt_ok {P : Program} {ev : Ev} {x : Operand} {i : Nat} {R : Type} {k : AV → Option R} {r : R} (h : oExt (ev x) i k = some r) : ∃ av, k av = some r ∧ Qs P (.extract x i) ev av := by
  unfold oExt at h
  split at h
  · rename_i l hx
    split at h
    · rename_i y hy
      refine ⟨_, h, fun ρ e w ty ho => ?_⟩
      obtain ⟨vs, e1, e2⟩ := ho.1 _ hx
      obtain ⟨v, h1, h2⟩ := ARs_at e2 hy
      refine ⟨v, run_v (s := Instr.extract (e x) i) ?_, h2⟩
      rw [e1]
      simp [Instr.extract, h1]
    · cases h
  · cases h
def oNil (x : Option AV) {R : Type} (k : AV → Option R) : Option R := match x with
  | some (.o (.c (.pt o i off j))) => k (VC (.pt o i off j))
  | some (.o (.c (.fn f cs))) => k (VC (.fn f cs))
  | _ => none
theorem oNil_ok {P : Program} {ev : Ev} {x : Operand} {R : Type} {k : AV → Option R} {r : R} (h : oNil (ev x) k = some r) : ∃ av, k av = some r ∧ Qs P (.nilCheck x) ev av := by
  unfold oNil at h
  split at h
  · rename_i o i off j hx
    refine ⟨_, h, fun ρ e w ty ho => ?_⟩
    have hr := ho.1 _ hx
    obtain ⟨L, A, _, _, _, _, h5⟩ := AR_pt hr
    refine ⟨e x, ?_, hr⟩
    unfold execOp mkO
    simp only [h5]
    rfl
  · rename_i f cs hx
    refine ⟨_, h, fun ρ e w ty ho => ?_⟩
    have hr := ho.1 _ hx
    obtain ⟨as, _, h5⟩ := hr
    have h5 : e x = .func (.func f) #[] as.toArray := by simpa using h5
    refine ⟨e x, ?_, ho.1 _ hx⟩
    unfold execOp mkO
    simp only [h5]
    rfl
  · cases h
/-- The part of some cells that is of a type. -/
def partC (X : Cx) (ft : Nat) (l : List Cl) (off : Nat) : Option AV := match X.si ft with
  | none => none
  | some s => match dropC l off with
    | none => none
    | some r => match s.row with
      | true => match takeC r s.sz with
        | some p => some (VA p)
        | none => none
      | false => match r with
        | c :: _ => match Nat.beq c.n 1 with
          | true => some (VC c)
          | false => none
        | [] => none
theorem partC_ok {ρ : Rho} {ft off : Nat} {l : List Cl} {vs : List Value} {av : AV} {w : World} (h : partC X ft l off = some av) (hc : CRs ρ l vs) : ∃ v, (part ft vs.toArray off).run X.P w = .ok v w ∧ AR ρ av v := by
  unfold partC at h
  split at h
  · cases h
  · rename_i s hs
    have hr := (X.siOk hs).isRow
    split at h
    · cases h
    · rename_i r hd
      split at h
      · rename_i hrow
        split at h
        · rename_i p hp
          cases h
          rw [hrow] at hr
          exact ⟨_, part_row hr (X.siOk hs).size, _, rfl, hc.cut hd hp⟩
        · cases h
      · rename_i hrow
        split at h
        · rename_i c r'
          split at h
          · rename_i hn
            cases h
            rw [hrow] at hr
            obtain ⟨v, h1, h2⟩ := hc.at1 hd (Nat.eq_of_beq_eq_true hn)
            exact ⟨v, part_cell hr h1, h2⟩
          · cases h
        · cases h
def oField (X : Cx) (t : Nat) (x : Option AV) (i : Nat) {R : Type} (k : AV → Option R) : Option R := match x with
  | some (.o (.a l)) => match X.si t with
    | none => none
    | some s => match s.k with
      | .st fs => match fs[i]? with
        | none => none
        | some p => match partC X p.1 l p.2 with
          | some av => k av
          | none => none
      | _ => none
  | _ => none
theorem oField_ok {ev : Ev} {t i : Nat} {x : Operand} {R : Type} {k : AV → Option R} {r : R} (h : oField X t (ev x) i k = some r) : ∃ av, k av = some r ∧ Qs X.P (.field t x i) ev av := by
  unfold oField at h
  split at h
  · rename_i l hx
    split at h
    · cases h
    · rename_i s hs
      split at h
      · rename_i fs hk
        split at h
        · cases h
        · rename_i p hp
          split at h
          · rename_i av hav
            obtain ⟨fa, hu, hf⟩ := (X.siOk hs).st hk
            obtain ⟨f, hf1, hf2, hf3⟩ := fsOk_at hf hp
            refine ⟨av, h, fun ρ e w ty ho => ?_⟩
            obtain ⟨vs, e1, e2⟩ := ho.1 _ hx
            obtain ⟨v, h1, h2⟩ := partC_ok (w := w) hav e2
            refine ⟨v, run_v (s := Instr.field t (e x) i) ?_, h2⟩
            have hf1 : fa[i]? = some f := by simpa using hf1
            rw [e1]
            simp [Instr.field, run_underlying hu, hf1, asAgg, hf2, hf3, h1]
          · cases h
      · cases h
  · cases h
/-! ### places that are not told -/
def splitI {R : Type} (i : Int) : List Nat → (Nat → Option R) → Option R
  | [], _ => none
  | j :: r, f => if i = (j : Int) then f j else splitI i r f
theorem splitI_ok {R : Type} {i : Int} {f : Nat → Option R} {r : R} : ∀ {l : List Nat}, splitI i l f = some r → ∃ j : Nat, i = (j : Int) ∧ j ∈ l ∧ f j = some r
  | [], h => by cases h
  | j :: l, h => by
    unfold splitI at h
    split at h
    · rename_i e; exact ⟨j, e, List.mem_cons_self, h⟩
    · obtain ⟨m, h1, h2, h3⟩ := splitI_ok h
      exact ⟨m, h1, List.mem_cons_of_mem _ h2, h3⟩
/-- Element i of an array's value, or byte i of a string. -/
def oIdx (X : Cx) (t : Nat) (x i : Option AV) {R : Type} (k : AV → Option R) : Option R := match i with
  | some (.o (.c (.int _ n))) => match x with
    | some (.o (.c (.str s))) => match X.si t with
      | some st => match st.k with
        | .str => if 0 ≤ n ∧ n < (s.size : Int) then k (VI .u8 (sx s n)) else none
        | _ => none
      | none => none
    | some (.o (.a l)) => match X.si t with
      | some st => match st.k with
        | .arr m e => match X.si e with
          | none => none
          | some se => if 0 ≤ n ∧ n < (m : Int) then
            match l with
            | [.vec kd m' v] => match Nat.beq m m' && Nat.beq se.sz 1 && !se.row with
              | true => k (VI kd (vx 0 v n.toNat))
              | false => none
            | [.vecb m' v] => match Nat.beq m m' && Nat.beq se.sz 1 && !se.row with
              | true => k (VB (.s (vx false v n.toNat)))
              | false => none
            | _ => splitI n (List.range m) fun j => match partC X e l (j * se.sz) with
              | some av => k av
              | none => none
            else none
        | _ => none
      | none => none
    | _ => none
  | _ => none
theorem vx_cell {ρ : Rho} {kd : IntKind} {m : Nat} {v : Vector Int m} {n : Nat} (h : n < m) : (v.toList.map (Value.int kd))[n]? = some (.int kd (vx 0 v n)) := by
  have : n < v.toList.length := by simpa using h
  rw [List.getElem?_map, List.getElem?_eq_getElem this]
  simp [vx, List.getD_eq_getElem?_getD, List.getElem?_eq_getElem this]
theorem vxb_cell {m : Nat} {v : Vector Bool m} {n : Nat} (h : n < m) : (v.toList.map Value.bool)[n]? = some (.bool (vx false v n)) := by
  have : n < v.toList.length := by simpa using h
  rw [List.getElem?_map, List.getElem?_eq_getElem this]
  simp [vx, List.getD_eq_getElem?_getD, List.getElem?_eq_getElem this]
theorem run_idxA {P : Program} {e : Operand → Value} {t el : Nat} {x i : Operand} {m sz : Nat} {kd : IntKind} {n : Int} {vs : List Value} {v : Value} {w : World} {ty : TypeId} (ht : P.underlying t = some (.array m el)) (hs : (P.info? el).map (·.size) = some sz) (hx : e x = .agg vs.toArray) (hi : e i = .int kd n) (hb : 0 ≤ n ∧ n < (m : Int)) (hp : (part el vs.toArray (n.toNat * sz)).run P w = .ok v w) :
    (execOp e (mkO (.index t x i) ty)).run P w = .ok (.value v) w := by
  refine run_v (s := Instr.index t (e x) (e i)) ?_
  rw [hx, hi]
  simp [Instr.index, asIntOf, run_underlying ht, hb.1, hb.2, run_size hs, hp]
theorem oIdx_ok {ev : Ev} {t : Nat} {x i : Operand} {R : Type} {k : AV → Option R} {r : R} (h : oIdx X t (ev x) (ev i) k = some r) : ∃ av, k av = some r ∧ Qs X.P (.index t x i) ev av := by
  unfold oIdx at h
  split at h
  · rename_i kd n hi
    split at h
    · rename_i s hx
      split at h
      · rename_i st hs
        split at h
        · rename_i hk
          split at h
          · rename_i hb
            refine ⟨_, h, fun ρ e w ty ho => ⟨_, x_sidx hb ((X.siOk hs).str hk) (AR_str (ho.1 _ hx)) (AR_int (ho.2.1 _ hi)), (rfl : AR ρ (VI _ _) (.int _ _))⟩⟩
          · cases h
        · cases h
      · cases h
    · rename_i l hx
      split at h
      · rename_i st hs
        split at h
        · rename_i m el hk
          have hu := (X.siOk hs).arr hk
          split at h
          · cases h
          · rename_i se he
            have hz := (X.siOk he).size
            have hr := (X.siOk he).isRow
            split at h
            · rename_i hb
              have hnm : n.toNat < m := by omega
              split at h
              · rename_i kd' m' v
                split at h
                · rename_i hc
                  simp only [Bool.and_eq_true, Bool.not_eq_true'] at hc
                  obtain ⟨⟨c1, c2⟩, c3⟩ := hc
                  have c1 := Nat.eq_of_beq_eq_true c1
                  have c2 := Nat.eq_of_beq_eq_true c2
                  subst c1
                  rw [c3] at hr
                  refine ⟨_, h, fun ρ e w ty ho => ?_⟩
                  obtain ⟨vs, e1, e2⟩ := ho.1 _ hx
                  have e2 : vs = _ := CRs.one.1 e2
                  refine ⟨_, run_idxA hu hz e1 (AR_int (ho.2.1 _ hi)) hb (part_cell hr ?_), (rfl : AR ρ (VI _ _) (.int _ _))⟩
                  rw [c2, Nat.mul_one]
                  simp only [e2]
                  exact vx_cell (ρ := ρ) hnm
                · cases h
              · rename_i m' v
                split at h
                · rename_i hc
                  simp only [Bool.and_eq_true, Bool.not_eq_true'] at hc
                  obtain ⟨⟨c1, c2⟩, c3⟩ := hc
                  have c1 := Nat.eq_of_beq_eq_true c1
                  have c2 := Nat.eq_of_beq_eq_true c2
                  subst c1
                  rw [c3] at hr
                  refine ⟨_, h, fun ρ e w ty ho => ?_⟩
                  obtain ⟨vs, e1, e2⟩ := ho.1 _ hx
                  have e2 : vs = _ := CRs.one.1 e2
                  refine ⟨_, run_idxA hu hz e1 (AR_int (ho.2.1 _ hi)) hb (part_cell hr ?_), (by show [Value.bool _] = [.bool (BE.s _).v]; rw [BE.s_v] : AR ρ (VB (.s _)) (.bool _))⟩
                  rw [c2, Nat.mul_one]
                  simp only [e2]
                  exact vxb_cell hnm
                · cases h
              · obtain ⟨j, hj, _, h⟩ := splitI_ok h
                split at h
                · rename_i av hav
                  refine ⟨av, h, fun ρ e w ty ho => ?_⟩
                  obtain ⟨vs, e1, e2⟩ := ho.1 _ hx
                  obtain ⟨v, h1, h2⟩ := partC_ok (w := w) hav e2
                  refine ⟨v, run_idxA hu hz e1 (AR_int (ho.2.1 _ hi)) hb ?_, h2⟩
                  rw [hj, Int.toNat_natCast]
                  exact h1
                · cases h
            · cases h
        · cases h
      · cases h
    · cases h
  · cases h
/-! ### addresses -/
def oFAddr (X : Cx) (t : Nat) (x : Option AV) (i : Nat) {R : Type} (k : AV → Option R) : Option R := match x with
  | some (.o (.c (.pt o ii off none))) => match X.si t with
    | none => none
    | some s => match s.k with
      | .st fs => match fs[i]? with
        | none => none
        | some p => match X.si p.1 with
          | some sf => match Nat.beq sf.sz 0 with
            | true => none
            | false => k (VC (.pt o ii (off + p.2) none))
          | none => none
      | _ => none
  | _ => none
theorem oFAddr_ok {ev : Ev} {t i : Nat} {x : Operand} {R : Type} {k : AV → Option R} {r : R} (h : oFAddr X t (ev x) i k = some r) : ∃ av, k av = some r ∧ Qs X.P (.fieldAddr t x i) ev av := by
  unfold oFAddr at h
  split at h
  · rename_i o ii off hx
    split at h
    · cases h
    · rename_i s hs
      split at h
      · rename_i fs hk
        split at h
        · cases h
        · rename_i p hp
          split at h
          · rename_i sf hsf
            split at h
            · cases h
            · rename_i hz
              obtain ⟨fa, hu, hf⟩ := (X.siOk hs).st hk
              obtain ⟨f, hf1, hf2, hf3⟩ := fsOk_at hf hp
              have hsz := (X.siOk hsf).size
              refine ⟨_, h, fun ρ e w ty ho => ?_⟩
              obtain ⟨L, A, h1, h2, h3, h4, h5⟩ := AR_pt (ho.1 _ hx)
              have hf1 : fa[i]? = some f := by simpa using hf1
              have hne : ¬ sf.sz = 0 := fun e => by rw [e] at hz; cases hz
              refine ⟨.pointer (some (A.add (ii.toNat * L.sz + (off + p.2) + jn none))), run_v (s := Instr.fieldAt t (e x) i) ?_, L, A, h1, h2, h3, h4, rfl⟩
              rw [h5]
              have hs' : (sizeOf f.type).run X.P w = .ok sf.sz w := by rw [hf2]; exact run_size hsz
              simp [Instr.fieldAt, run_underlying hu, hf1, Instr.sureAddr, fieldPlace, hs', hne, hf3, add_add', jn, Nat.add_assoc]
          · cases h
      · cases h
  · cases h
/-- An element of an array in a variable. -/
def oIAddr (X : Cx) (t : Nat) (x i : Option AV) {R : Type} (k : AV → Option R) : Option R := match x with
  | some (.o (.c (.pt o ii off none))) => match i with
    | some (.o (.c (.int _ n))) => match X.si t with
      | none => none
      | some s => match s.k with
        | .arr m e => match X.si e with
          | none => none
          | some se => if 0 ≤ n ∧ n < (m : Int) then
            match se.k with
            | .int _ => match Nat.beq se.sz 1 with
              | true => k (VC (.pt o ii off (some (n, m))))
              | false => none
            | .bool => match Nat.beq se.sz 1 with
              | true => k (VC (.pt o ii off (some (n, m))))
              | false => none
            | _ => splitI n (List.range m) fun j => k (VC (.pt o ii (off + j * se.sz) none))
            else none
        | _ => none
    | _ => none
  | _ => none
theorem oIAddr_ok {ev : Ev} {t : Nat} {x i : Operand} {R : Type} {k : AV → Option R} {r : R} (h : oIAddr X t (ev x) (ev i) k = some r) : ∃ av, k av = some r ∧ Qs X.P (.indexAddr t x i) ev av := by
  unfold oIAddr at h
  split at h
  · rename_i o ii off hx
    split at h
    · rename_i kd n hi
      split at h
      · cases h
      · rename_i s hs
        split at h
        · rename_i m el hk
          have hu := (X.siOk hs).arr hk
          split at h
          · cases h
          · rename_i se he
            have hz := (X.siOk he).size
            split at h
            · rename_i hb
              have one : Nat.beq se.sz 1 = true → k (VC (.pt o ii off (some (n, m)))) = some r → ∃ av, k av = some r ∧ Qs X.P (.indexAddr t x i) ev av := by
                intro h1 h
                have h1 := Nat.eq_of_beq_eq_true h1
                rw [h1] at hz
                refine ⟨_, h, fun ρ e w ty ho => ?_⟩
                obtain ⟨L, A, k1, k2, k3, k4, k5⟩ := AR_pt (ho.1 _ hx)
                refine ⟨_, x_vidx hb hu hz k5 (AR_int (ho.2.1 _ hi)), L, A, k1, k2, k3, fun p hp => by cases hp; exact hb, ?_⟩
                rw [add_add']
                simp [jn]
              split at h
              · split at h
                · rename_i h1; exact one h1 h
                · cases h
              · split at h
                · rename_i h1; exact one h1 h
                · cases h
              · obtain ⟨j, hj, _, h⟩ := splitI_ok h
                refine ⟨_, h, fun ρ e w ty ho => ?_⟩
                obtain ⟨L, A, k1, k2, k3, k4, k5⟩ := AR_pt (ho.1 _ hx)
                refine ⟨_, x_vidx hb hu hz k5 (AR_int (ho.2.1 _ hi)), L, A, k1, k2, k3, (fun p hp => by cases hp), ?_⟩
                rw [add_add', hj, Int.toNat_natCast]
                simp [jn, Nat.add_assoc]
            · cases h
        · cases h
    · cases h
  · cases h
/-! ### functions, lengths -/
def ptsOf (ev : Ev) : List Operand → Option (List Nat)
  | [] => some []
  | x :: r => match ev x with
    | some (.o (.c (.pt o i off j))) => match i, off, j with
      | .ofNat 0, 0, none => match ptsOf ev r with
        | some l => some (o :: l)
        | none => none
      | _, _, _ => none
    | _ => none
theorem ptsOf_ok {ev : Ev} {ρ : Rho} {e : Operand → Value} : ∀ {l : List Operand} {os : List Nat}, ptsOf ev l = some os → OpsR ρ ev e l → capsV ρ os (l.map e)
  | [], os, h, _ => by cases h; rfl
  | x :: r, os, h, ho => by
    unfold ptsOf at h
    split at h
    · rename_i o i off j hx
      split at h
      · split at h
        · rename_i l hl
          cases h
          obtain ⟨L, A, k1, k2, k3, k4, k5⟩ := AR_pt (ho.1 _ hx)
          refine ⟨_, _, rfl, ⟨L, A, k1, k2, ?_⟩, ptsOf_ok hl ho.2⟩
          rw [k5]
          simp [jn, Addr.add]
        · cases h
      · cases h
    · cases h
def oFunc (ev : Ev) (fn : Fn) (first caps : List Operand) {R : Type} (k : AV → Option R) : Option R := match fn, first with
  | .func f, [] => match ptsOf ev caps with
    | some l => k (VC (.fn f l))
    | none => none
  | _, _ => none
theorem OpsR.app {ρ : Rho} {ev : Ev} {e : Operand → Value} : ∀ {l r : List Operand}, OpsR ρ ev e (l ++ r) → OpsR ρ ev e l ∧ OpsR ρ ev e r
  | [], _, h => ⟨trivial, h⟩
  | _ :: _, _, h => ⟨⟨h.1, h.2.app.1⟩, h.2.app.2⟩
theorem oFunc_ok {P : Program} {ev : Ev} {fn : Fn} {first caps : Array Operand} {R : Type} {k : AV → Option R} {r : R} (h : oFunc ev fn first.toList caps.toList k = some r) : ∃ av, k av = some r ∧ Qs P (.makeFunc fn first caps) ev av := by
  unfold oFunc at h
  split at h
  · rename_i f hf
    split at h
    · rename_i l hl
      refine ⟨_, h, fun ρ e w ty ho => ?_⟩
      have ho : OpsR ρ ev e (first ++ caps).toList := ho
      rw [Array.toList_append] at ho
      have hc := ptsOf_ok hl ho.app.2
      have hf : first = #[] := by
        cases first
        simp at hf
        rw [hf]
      subst hf
      refine ⟨.func (.func f) #[] (caps.map e), run_v (s := Instr.makeFunc (.func f) (#[].map e) (caps.map e)) (by simp [Instr.makeFunc]), caps.toList.map e, hc, ?_⟩
      have : caps.map e = (caps.toList.map e).toArray := by apply Array.ext'; simp
      rw [this]
    · cases h
  · cases h
def minL (b : Bool) (kd : IntKind) (x : Int) : List (Option AV) → Option Int
  | [] => some x
  | some (.o (.c (.int kd' y))) :: r => match kEq kd kd' with
    | true => minL b kd (match b with
      | true => mnn x y
      | false => mxx x y) r
    | false => none
  | _ :: _ => none
def oMin (b : Bool) (xs : List (Option AV)) {R : Type} (k : AV → Option R) : Option R := match xs with
  | some (.o (.c (.int kd x))) :: r => match minL b kd x r with
    | some z => k (VI kd z)
    | none => none
  | _ => none
theorem minL_ok {P : Program} {ev : Ev} {ρ : Rho} {e : Operand → Value} {w : World} {b : Bool} {kd : IntKind} : ∀ {xs : List Operand} {x z : Int}, minL b kd x (xs.map ev) = some z → OpsR ρ ev e xs → ((xs.map e).foldlM (match b with
    | true => Builtin.min2
    | false => Builtin.max2) (.int kd x)).run P w = .ok (.int kd z) w
  | [], x, z, h, _ => by cases h; rfl
  | y :: r, x, z, h, ho => by
    rw [List.map_cons] at h
    cases hy : ev y with
    | none => rw [hy] at h; cases h
    | some av =>
      rw [hy] at h
      unfold minL at h
      split at h
      · rename_i e0; cases e0
      · rename_i kd' m s e1
        split at h
        · rename_i hk
          have hk := kEq_ok hk
          subst hk
          simp only [List.cons.injEq] at e1
          obtain ⟨e1, rfl⟩ := e1
          have hv := AR_int (ho.1 _ (hy.trans e1))
          have := minL_ok (P := P) h ho.2 (w := w)
          rw [List.map_cons, List.foldlM_cons, hv]
          cases b
          · simp only [Builtin.max2]
            rw [Sem.run_bind]
            exact this
          · simp only [Builtin.min2]
            rw [Sem.run_bind]
            exact this
        · cases h
      · cases h
end
end Go.Proofs.YtlpiomnmaiddbaaGreatDoor.E
namespace Go.Proofs.YtlpiomnmaiddbaaGreatDoor.E
set_option linter.unusedVariables false
set_option linter.unusedSimpArgs false
open Go Go.RowKit
/-- What an operation comes to: its value, what it turns, what it looked at. -/
structure Rs (X : Cx) where
  v : AV
  up : List (Nat × Option (AO X.τ))
  fp : List Nat
def RunTo (P : Program) (op : Op) (ty : TypeId) (e : Operand → Value) (w : World) (Q : Value → World → Prop) : Prop :=
  (∃ v w', (execOp e (mkO op ty)).run P w = .ok (.value v) w' ∧ Q v w') ∨ (∃ w', (execOp e (mkO op ty)).run P w = .ok .skip w' ∧ Q undef w') ∨
    ∃ f args, (execOp e (mkO op ty)).run P w = .ok (.enter f args) w ∧ Calls P f args w fun x w' => ∃ v, x = .returned v ∧ Q v w'
/-- Where op's operands are as ev tells, and rows and variables as H, it comes to rs. -/
def Sim (X : Cx) (op : Op) (ev : Ev) (H : HP X) (fr : Nat) (rs : Rs X) : Prop :=
  ∀ (G : List Nat) (w0 : World) (ρ : Rho) (HH : HP X) (Lo : List (Nat × AO X.τ)) (w : World) (e : Operand → Value) (ty : TypeId),
    OpsR ρ ev e op.operands.toList → (∀ i ∈ rs.fp, HH i = H i) → RelL X G w0 ρ HH Lo w → (∀ i, fr ≤ i → i < fr + 32 → ρ i = none) →
    RunTo X.P op ty e w fun v w' => ∃ ρ' Lo', ρ.le ρ' ∧ (∀ i, ρ' i ≠ none → ρ i ≠ none ∨ (fr ≤ i ∧ i < fr + 32)) ∧ AR ρ' rs.v v ∧ RelL X G w0 ρ' (setL rs.up HH) Lo' w'
section
variable {X : Cx}
theorem Sim.quiet {op : Op} {ev : Ev} {H : HP X} {fr : Nat} {av : AV} (h : Qs X.P op ev av) : Sim X op ev H fr ⟨av, [], []⟩ := by
  intro G w0 ρ HH Lo w e ty ho _ hr _
  obtain ⟨v, h1, h2⟩ := h ρ e w ty ho
  exact .inl ⟨v, w, h1, ρ, Lo, Rho.le_refl ρ, fun i hi => .inl hi, h2, hr⟩
/-- It reads at most. -/
theorem Sim.read {op : Op} {ev : Ev} {H : HP X} {fr : Nat} {av : AV} {fp : List Nat} (h : ∀ (G : List Nat) (w0 : World) (ρ : Rho) (HH : HP X) (Lo : List (Nat × AO X.τ)) (w : World) (e : Operand → Value) (ty : TypeId),
    OpsR ρ ev e op.operands.toList → (∀ i ∈ fp, HH i = H i) → RelL X G w0 ρ HH Lo w → ∃ v, (execOp e (mkO op ty)).run X.P w = .ok (.value v) w ∧ AR ρ av v) : Sim X op ev H fr ⟨av, [], fp⟩ := by
  intro G w0 ρ HH Lo w e ty ho hf hr _
  obtain ⟨v, h1, h2⟩ := h G w0 ρ HH Lo w e ty ho hf hr
  exact .inl ⟨v, w, h1, ρ, Lo, Rho.le_refl ρ, fun i hi => .inl hi, h2, hr⟩
/-! ### parts of cells -/
theorem partL {ρ : Rho} {ft off : Nat} {l : List Cl} {vs : List Value} {av : AV} (h : partC X ft l off = some av) (hc : CRs ρ l vs) :
    ((X.P.underlying ft).map (·.isRow) = some false ∧ ∃ v, vs[off]? = some v ∧ AR ρ av v) ∨
    ((X.P.underlying ft).map (·.isRow) = some true ∧ ∃ us, (vs.drop off).take us.length = us ∧ (X.P.info? ft).map (·.size) = some us.length ∧ AR ρ av (.agg us.toArray)) := by
  unfold partC at h
  split at h
  · cases h
  · rename_i s hs
    have hr := (X.siOk hs).isRow
    split at h
    · cases h
    · rename_i r hd
      split at h
      · rename_i hrow
        split at h
        · rename_i p hp
          cases h
          rw [hrow] at hr
          have h1 := hc.cut hd hp
          have h2 := takeC_ok (dropC_ok hc hd).1 hp
          have hl : ((vs.drop off).take s.sz).length = s.sz := by rw [List.length_take]; omega
          exact .inr ⟨hr, _, by rw [hl], by rw [hl]; exact (X.siOk hs).size, _, rfl, h1⟩
        · cases h
      · rename_i hrow
        split at h
        · rename_i c r'
          split at h
          · rename_i hn
            cases h
            rw [hrow] at hr
            obtain ⟨v, h1, h2⟩ := hc.at1 hd (Nat.eq_of_beq_eq_true hn)
            exact .inl ⟨hr, v, h1, h2⟩
          · cases h
        · cases h
/-- An element of an array among the cells. -/
def vecC (l : List Cl) (off m : Nat) (j : Int) : Option Cl := match dropC l off with
  | some (.vec kd m' v :: _) => match Nat.beq m m' with
    | true => some (.int kd (vx 0 v j.toNat))
    | false => none
  | some (.vecb m' v :: _) => match Nat.beq m m' with
    | true => some (.bool (.s (vx false v j.toNat)))
    | false => none
  | _ => none
theorem vecC_ok {ρ : Rho} {l : List Cl} {vs : List Value} {off m : Nat} {j : Int} {c : Cl} (h : vecC l off m j = some c) (hc : CRs ρ l vs) (hb : 0 ≤ j ∧ j < (m : Int)) : ∃ v, vs[off + j.toNat]? = some v ∧ CR ρ c [v] := by
  have hj : j.toNat < m := by omega
  unfold vecC at h
  split at h
  · rename_i kd m' v r hd
    split at h
    · rename_i hm
      have hm := Nat.eq_of_beq_eq_true hm
      subst hm
      cases h
      obtain ⟨a, b, h1, h2, h3, h4⟩ := hc.at hd
      have h2 : a = _ := h2
      refine ⟨_, ?_, rfl⟩
      rw [← List.getElem?_drop, h1, List.getElem?_append_left (by rw [h2]; simpa using hj), h2]
      exact vx_cell (ρ := ρ) hj
    · cases h
  · rename_i m' v r hd
    split at h
    · rename_i hm
      have hm := Nat.eq_of_beq_eq_true hm
      subst hm
      cases h
      obtain ⟨a, b, h1, h2, h3, h4⟩ := hc.at hd
      have h2 : a = _ := h2
      refine ⟨_, ?_, rfl⟩
      rw [← List.getElem?_drop, h1, List.getElem?_append_left (by rw [h2]; simpa using hj), h2]
      rw [BE.s_v]; exact vxb_cell hj
    · cases h
  · cases h
def putJ (l : List Cl) (off m : Nat) (j : Int) (new : List Cl) : Option (List Cl) := match takeC l off with
  | none => none
  | some p => match dropC l off with
    | some (.vec kd m' v :: r) => match new with
      | [.int kd' y] => match Nat.beq m m' && kEq kd kd' with
        | true => some (p ++ .vec kd m' (vset v j.toNat y) :: r)
        | false => none
      | _ => none
    | some (.vecb m' v :: r) => match new with
      | [.bool e] => match Nat.beq m m' with
        | true => some (p ++ .vecb m' (vset v j.toNat e.v) :: r)
        | false => none
      | _ => none
    | _ => none
theorem putJ_ok {ρ : Rho} {l new l' : List Cl} {vs nv : List Value} {off m : Nat} {j : Int} (h : putJ l off m j new = some l') (hc : CRs ρ l vs) (hn : CRs ρ new nv) (hb : 0 ≤ j ∧ j < (m : Int)) :
    off + j.toNat + nv.length ≤ vs.length ∧ CRs ρ l' (vs.take (off + j.toNat) ++ nv ++ vs.drop (off + j.toNat + nv.length)) := by
  have hj : j.toNat < m := by omega
  unfold putJ at h
  split at h
  · cases h
  · rename_i p hp
    obtain ⟨t1, t2⟩ := takeC_ok hc hp
    have fin : ∀ {c c' : Cl} {r : List Cl}, dropC l off = some (c :: r) → c.n = m → vputC c j.toNat new = some c' → l' = p ++ c' :: r → off + j.toNat + nv.length ≤ vs.length ∧ CRs ρ l' (vs.take (off + j.toNat) ++ nv ++ vs.drop (off + j.toNat + nv.length)) := by
      intro c c' r hd hcn hv e
      obtain ⟨a, b, h1, h2, h3, h4⟩ := hc.at hd
      obtain ⟨k1, k2⟩ := vputC_ok h2 hn hv
      have hla := h2.len
      obtain ⟨q, hq, hlq⟩ : ∃ q, vs = q ++ (a ++ b) ∧ q.length = off := ⟨vs.take off, by rw [← h1, List.take_append_drop], by rw [List.length_take]; omega⟩
      subst hq
      have ht : (q ++ (a ++ b)).take off = q := by rw [← hlq, List.take_left]
      rw [ht] at t1
      refine ⟨by rw [List.length_append, List.length_append]; omega, ?_⟩
      rw [e]
      have e1 : (q ++ (a ++ b)).take (off + j.toNat) = q ++ a.take j.toNat := by
        rw [← hlq, List.take_length_add_append, List.take_append_of_le_length (by omega)]
      have e2 : (q ++ (a ++ b)).drop (off + j.toNat + nv.length) = a.drop (j.toNat + nv.length) ++ b := by
        rw [Nat.add_assoc, ← hlq, List.drop_length_add_append, List.drop_append_of_le_length k1]
      rw [e1, e2]
      have := t1.app (ws := (a.take j.toNat ++ nv ++ a.drop (j.toNat + nv.length)) ++ b) (r := c' :: r) ⟨_, b, rfl, k2, h3⟩
      simpa [List.append_assoc] using this
    split at h
    · rename_i kd m' v r hd
      split at h
      · rename_i kd' y
        split at h
        · rename_i hk
          simp only [Bool.and_eq_true] at hk
          have hm := Nat.eq_of_beq_eq_true hk.1
          subst hm
          cases h
          refine fin (c' := .vec kd m (vset v j.toNat y)) hd rfl ?_ rfl
          have hb' : Nat.blt j.toNat m = true := by simpa [Nat.blt_eq] using hj
          unfold vputC
          simp [hk.2, hb']
        · cases h
      · cases h
    · rename_i m' v r hd
      split at h
      · rename_i e
        split at h
        · rename_i hk
          have hm := Nat.eq_of_beq_eq_true hk
          subst hm
          cases h
          refine fin (c' := .vecb m (vset v j.toNat e.v)) hd rfl ?_ rfl
          have hb' : Nat.blt j.toNat m = true := by simpa [Nat.blt_eq] using hj
          unfold vputC
          simp [hb']
        · cases h
      · cases h
    · cases h
/-! ### loads -/
def fpOf (H : HP X) (o : Nat) : List Nat := match H o with
  | some (.vw p _ _ _ _) => [o, p]
  | _ => [o]
theorem rowOf_fp {H HH : HP X} {o : Nat} (h : ∀ i ∈ fpOf H o, HH i = H i) : rowOf HH o = rowOf H o := by
  have h1 : HH o = H o := h o (by unfold fpOf; split <;> simp)
  unfold rowOf
  rw [h1]
  cases e : H o with
  | none => rfl
  | some x =>
    cases x with
    | vw p v a T l =>
      have h2 : HH p = H p := h p (by unfold fpOf; rw [e]; simp)
      simp only [h2]
    | _ => rfl
/-- What is loaded from such cells, at such a place. -/
def atC (X : Cx) (t : Nat) (l : List Cl) (off : Nat) (j : Option (Int × Nat)) : Option AV := match j with
  | none => partC X t l off
  | some p => match X.si t with
    | some s => match s.row with
      | true => none
      | false => match vecC l off p.2 p.1 with
        | some c => some (VC c)
        | none => none
    | none => none
theorem atC_ok {ρ : Rho} {t off : Nat} {l : List Cl} {vs : List Value} {j : Option (Int × Nat)} {av : AV} (h : atC X t l off j = some av) (hc : CRs ρ l vs) (hb : ∀ p, j = some p → 0 ≤ p.1 ∧ p.1 < (p.2 : Int)) :
    ((X.P.underlying t).map (·.isRow) = some false ∧ ∃ v, vs[off + jn j]? = some v ∧ AR ρ av v) ∨
    ((X.P.underlying t).map (·.isRow) = some true ∧ ∃ us, (vs.drop (off + jn j)).take us.length = us ∧ (X.P.info? t).map (·.size) = some us.length ∧ AR ρ av (.agg us.toArray)) := by
  unfold atC at h
  split at h
  · exact partL h hc
  · rename_i p
    split at h
    · rename_i s hs
      split at h
      · cases h
      · rename_i hrow
        split at h
        · rename_i c hv
          cases h
          have hr := (X.siOk hs).isRow
          rw [hrow] at hr
          obtain ⟨v, k1, k2⟩ := vecC_ok hv hc (hb p rfl)
          exact .inl ⟨hr, v, k1, k2⟩
        · cases h
    · cases h
theorem load_run {P : Program} {e : Operand → Value} {t : TypeId} {x : Operand} {ty : TypeId} {w : World} {A : Addr} {n off : Nat} {vs : List Value} {ρ : Rho} {av : AV} (hx : e x = .pointer (some (A.add n)))
    (hc : ∀ j u, vs[j]? = some u → w.cell? (A.add (n - off + j)) = some u) (hn : off ≤ n)
    (h : ((P.underlying t).map (·.isRow) = some false ∧ ∃ v, vs[off]? = some v ∧ AR ρ av v) ∨ ((P.underlying t).map (·.isRow) = some true ∧ ∃ us, (vs.drop off).take us.length = us ∧ (P.info? t).map (·.size) = some us.length ∧ AR ρ av (.agg us.toArray))) :
    ∃ v, (execOp e (mkO (.load t x) ty)).run P w = .ok (.value v) w ∧ AR ρ av v := by
  rcases h with ⟨h1, v, h2, h3⟩ | ⟨h1, us, h2, h3, h4⟩
  · refine ⟨v, x_load hx h1 ?_, h3⟩
    have := hc off v h2
    rwa [show n - off + off = n by omega] at this
  · refine ⟨_, x_loads hx h1 h3 fun j u hj => ?_, h4⟩
    rw [add_add']
    have := hc (off + j) u ?_
    · rwa [show n - off + (off + j) = n + j by omega] at this
    · rw [← h2, List.getElem?_take] at hj
      split at hj
      · rwa [List.getElem?_drop] at hj
      · cases hj
def oLoad (X : Cx) (t : Nat) (x : Option AV) (H : HP X) {R : Type} (k : Rs X → Option R) : Option R := match x with
  | some (.o (.c (.pt o i off j))) => match H o with
    | some (.var _ _ cs) => match atC X t cs off j with
      | some av => k ⟨av, [], [o]⟩
      | none => none
    | some (.rvar _ cs) => match atC X t cs off j with
      | some av => k ⟨av, [], [o]⟩
      | none => none
    | _ => match rowOf H o with
      | some ⟨T, l⟩ => match atC X t ((X.ti T).seg (ix (X.E T).d l i)) off j with
        | some av => k ⟨av, [], fpOf H o⟩
        | none => none
      | none => none
  | _ => none
theorem oLoad_ok {ev : Ev} {t : Nat} {x : Operand} {H : HP X} {fr : Nat} {R : Type} {k : Rs X → Option R} {r : R} (h : oLoad X t (ev x) H k = some r) : ∃ rs, k rs = some r ∧ Sim X (.load t x) ev H fr rs := by
  unfold oLoad at h
  split at h
  · rename_i o i off j hx
    split at h
    · rename_i T v cs ho
      split at h
      · rename_i av hav
        refine ⟨_, h, Sim.read fun G w0 ρ HH Lo w e ty hop hf hr => ?_⟩
        obtain ⟨L, A, h1, h2, h3, h4, h5⟩ := AR_pt (hop.1 _ hx)
        obtain ⟨L', g, vs, k1, k2, k3, k4, k5⟩ := hr.var_rx ((hf o (by simp)).trans ho)
        have : L = L' := Option.some.inj (h1.symm.trans k1)
        subst this
        rw [k2] at h2
        cases h2
        rw [k3.2, Nat.mul_zero, Nat.zero_add] at h5
        refine load_run h5 (fun n u hn => ?_) (Nat.le_refl _) (atC_ok hav k4 h4)
        rw [Nat.sub_self, Nat.zero_add, add_zero_addr]
        exact k5 n u hn
      · cases h
    · rename_i T cs ho
      split at h
      · rename_i av hav
        refine ⟨_, h, Sim.read fun G w0 ρ HH Lo w e ty hop hf hr => ?_⟩
        obtain ⟨L, A, h1, h2, h3, h4, h5⟩ := AR_pt (hop.1 _ hx)
        obtain ⟨L', g, vs, k1, k2, k3, k4, k5⟩ := hr.rvar_rx ((hf o (by simp)).trans ho)
        have : L = L' := Option.some.inj (h1.symm.trans k1)
        subst this
        rw [k2] at h2
        cases h2
        rw [k3.2, Nat.mul_zero, Nat.zero_add] at h5
        refine load_run h5 (fun n u hn => ?_) (Nat.le_refl _) (atC_ok hav k4 h4)
        rw [Nat.sub_self, Nat.zero_add, add_zero_addr]
        exact k5 n u hn
      · cases h
    · split at h
      · rename_i T l hrow
        split at h
        · rename_i av hav
          refine ⟨_, h, Sim.read fun G w0 ρ HH Lo w e ty hop hf hr => ?_⟩
          obtain ⟨L, A, h1, h2, h3, h4, h5⟩ := AR_pt (hop.1 _ hx)
          obtain ⟨L', k1, k2, k3, k4⟩ := hr.row ((rowOf_fp hf).trans hrow)
          have : L = L' := Option.some.inj (h1.symm.trans k1)
          subst this
          obtain ⟨a, ha, hc⟩ := k4.at h3.1 (by rw [k2]; exact h3.2)
          rw [h2] at ha
          cases ha
          refine load_run h5 (fun n u hn => ?_) (by omega) (atC_ok hav ((X.ti T).hseg ρ _) h4)
          have := hc n u hn
          rw [k3, show i.toNat * (X.E T).sz + off + jn j - (off + jn j) + n = i.toNat * (X.E T).sz + n by omega]
          exact this
        · cases h
      · cases h
  · cases h
/-! ### stores -/
def segsOf : AV → Option (List Cl)
  | .o (.c c) => some [c]
  | .o (.a l) => some l
  | _ => none
theorem segsOf_ok {ρ : Rho} {av : AV} {l : List Cl} {v : Value} (h : segsOf av = some l) (hr : AR ρ av v) : CRs ρ l v.cells.toList := by
  unfold segsOf at h
  split at h
  · rename_i c
    cases h
    refine CRs.one.2 ?_
    have hr : CR ρ c [v] := hr
    have h1 := hr.ones v (by simp)
    have : v.cells.toList = [v] := by cases v <;> first | rfl | cases h1
    rw [this]
    exact hr
  · cases h
    obtain ⟨vs, rfl, h2⟩ := hr
    exact h2
  · cases h
def putAt (l : List Cl) (off : Nat) (j : Option (Int × Nat)) (new : List Cl) : Option (List Cl) := match j with
  | none => putC l off new
  | some p => putJ l off p.2 p.1 new
theorem putAt_ok {ρ : Rho} {l new l' : List Cl} {vs nv : List Value} {off : Nat} {j : Option (Int × Nat)} (h : putAt l off j new = some l') (hc : CRs ρ l vs) (hn : CRs ρ new nv) (hb : ∀ p, j = some p → 0 ≤ p.1 ∧ p.1 < (p.2 : Int)) :
    off + jn j + nv.length ≤ vs.length ∧ CRs ρ l' (vs.take (off + jn j) ++ nv ++ vs.drop (off + jn j + nv.length)) := by
  unfold putAt at h
  split at h
  · exact putC_ok hc hn h
  · rename_i p
    exact putJ_ok h hc hn (hb p rfl)
def oStore (X : Cx) (t : Nat) (x y : Option AV) (H : HP X) {R : Type} (k : Rs X → Option R) : Option R := match X.si t with
  | none => none
  | some s => match y with
    | none => none
    | some yv => match segsOf yv with
      | none => none
      | some new => match Nat.beq (nC new) s.sz with
        | false => none
        | true => match x with
          | some (.o (.c (.pt o i off j))) => match H o with
            | some (.var T v cs) => match putAt cs off j new with
              | some cs' => k ⟨.u, [(o, some (.var T (v + 1) cs'))], [o]⟩
              | none => none
            | some (.own T v l) => match putAt ((X.ti T).seg (ix (X.E T).d l i)) off j new with
              | some cs' => match (X.ti T).inn cs' with
                | some (z, []) => k ⟨.u, [(o, some (.own T (v + 1) (l.set i.toNat z)))], [o]⟩
                | _ => none
              | none => none
            | _ => none
          | _ => none
theorem oStore_ok {ev : Ev} {t : Nat} {x y : Operand} {H : HP X} {fr : Nat} {R : Type} {k : Rs X → Option R} {r : R} (h : oStore X t (ev x) (ev y) H k = some r) : ∃ rs, k rs = some r ∧ Sim X (.store t x y) ev H fr rs := by
  unfold oStore at h
  split at h
  · cases h
  · rename_i s hs
    have hsz := (X.siOk hs).size
    split at h
    · cases h
    · rename_i yv hy
      split at h
      · cases h
      · rename_i new hnew
        split at h
        · cases h
        · rename_i hlen
          have hlen := Nat.eq_of_beq_eq_true hlen
          split at h
          · rename_i o i off j hx
            split at h
            · rename_i T v cs ho
              split at h
              · rename_i cs' hput
                refine ⟨_, h, fun G w0 ρ HH Lo w e ty hop hf hr hfr => .inr (.inl ?_)⟩
                obtain ⟨L, A, h1, h2, h3, h4, h5⟩ := AR_pt (hop.1 _ hx)
                have hn := segsOf_ok hnew (hop.2.1 _ hy)
                obtain ⟨Lp, hp⟩ := hr.focus ((hf o (by simp)).trans ho)
                obtain ⟨L', g, vs, k1, k2, k3, k4, k5⟩ := asn_var hp.st
                have : L = L' := Option.some.inj (h1.symm.trans k1)
                subst this
                rw [k2] at h2
                cases h2
                rw [k3.2, Nat.mul_zero, Nat.zero_add, add_zero_addr] at h5
                obtain ⟨q1, q2⟩ := putAt_ok hput k4 hn h4
                have hst := x_store (P := X.P) (ty := ty) h5 rfl rfl (by rw [hsz, hn.len, hlen]) k5.heap (by simpa using q1) hn.ones
                have := k5.setRow (vs.take (off + jn j) ++ (e y).cells.toList ++ vs.drop (off + jn j + (e y).cells.toList.length))
                refine ⟨_, hst, ρ, (o, .var T (v + 1) cs') :: Lp, Rho.le_refl ρ, fun i hi => .inl hi, rfl, ?_⟩
                refine hp.upd (.inr (.inr ⟨_, _, rfl, rfl, .inl ⟨v, true, v + 1, true, rfl, rfl, .inl (by omega)⟩⟩)) ?_
                obtain ⟨Lb, ⟨L1, L2, e1, e2, e3⟩, e4⟩ := this
                exact ⟨Lb, ⟨L1, L2, e1, ⟨L, g, _, k1, k2, k3.1, k3.2, q2, e2⟩, e3⟩, e4⟩
              · cases h
            · rename_i T v l ho
              split at h
              · rename_i cs' hput
                split at h
                · rename_i z hz
                  refine ⟨_, h, fun G w0 ρ HH Lo w e ty hop hf hr hfr => .inr (.inl ?_)⟩
                  obtain ⟨L, A, h1, h2, h3, h4, h5⟩ := AR_pt (hop.1 _ hx)
                  have hn := segsOf_ok hnew (hop.2.1 _ hy)
                  obtain ⟨Lp, hp⟩ := hr.focus ((hf o (by simp)).trans ho)
                  obtain ⟨L', k1, k2, k3, k4⟩ := asn_own hp.st
                  have : L = L' := Option.some.inj (h1.symm.trans k1)
                  subst this
                  obtain ⟨q1, q2⟩ := putAt_ok hput ((X.ti T).hseg ρ (ix (X.E T).d l i)) hn h4
                  obtain ⟨vr, e1, e2⟩ := (X.ti T).hinn _ _ _ hz ρ _ q2
                  have e2 : vr = [] := e2
                  subst e2
                  rw [List.append_nil] at e1
                  have hlenE := (X.ti T).hlen (ix (X.E T).d l i)
                  obtain ⟨w', hw1, hw2⟩ := x_put (P := X.P) (ty := ty) (e' := z) (off := off + jn j) (i := i) k4 h2 h3.1 (by rw [k2]; exact h3.2) h5 (by rw [k3, Nat.add_assoc]) rfl rfl (by rw [hsz, hn.len, hlen]) (by show _ ≤ (X.ti T).n; omega) hn.ones e1.symm
                  refine ⟨w', hw1, ρ, (o, .own T (v + 1) (l.set i.toNat z)) :: Lp, Rho.le_refl ρ, fun i hi => .inl hi, rfl, ?_⟩
                  refine hp.upd (.inr (.inr ⟨_, _, rfl, rfl, .inl ⟨v, true, v + 1, true, rfl, rfl, .inl (by omega)⟩⟩)) ?_
                  obtain ⟨Lb, ⟨L1, L2, e1, e2, e3⟩, e4⟩ := hw2
                  exact ⟨Lb, ⟨L1, L2, e1, ⟨L, k1, by rw [List.length_set]; exact k2, k3, e2⟩, e3⟩, e4⟩
                · cases h
              · cases h
            · cases h
          · cases h
end
end Go.Proofs.YtlpiomnmaiddbaaGreatDoor.E
namespace Go.Proofs.YtlpiomnmaiddbaaGreatDoor.E
set_option linter.unusedVariables false
set_option linter.unusedSimpArgs false
open Go Go.RowKit
section
variable {X : Cx}
/-- That a type's elements lie as they are told. -/
def elOk (X : Cx) (t T : Nat) : Bool := match X.si t with
  | some s => match s.k with
    | .sl e => match X.si T with
      | some s' => Nat.beq e T && Nat.beq s'.sz (X.ti T).n
      | none => false
    | _ => false
  | none => false
theorem elOk_ok {t T : Nat} (h : elOk X t T = true) : X.P.underlying t = some (.slice T) ∧ (X.P.info? T).map (·.size) = some (X.E T).sz := by
  unfold elOk at h
  split at h
  · rename_i s hs
    split at h
    · rename_i e he
      split at h
      · rename_i s' hs'
        simp only [Bool.and_eq_true] at h
        have h1 := Nat.eq_of_beq_eq_true h.1
        have h2 := Nat.eq_of_beq_eq_true h.2
        subst h1
        refine ⟨(X.siOk hs).sl he, ?_⟩
        rw [(X.siOk hs').size, h2]
        rfl
      · cases h
    · cases h
  · cases h
/-- The address of a row's element. -/
def oRIdx (X : Cx) (t : Nat) (x i : Option AV) (H : HP X) {R : Type} (k : Rs X → Option R) : Option R := match x with
  | some (.o (.c (.sl o))) => match i with
    | some (.o (.c (.int _ n))) => match rowOf H o with
      | some ⟨T, l⟩ => match elOk X t T with
        | true => if 0 ≤ n ∧ n < (l.length : Int) then k ⟨VC (.pt o n 0 none), [], fpOf H o⟩ else none
        | false => none
      | none => none
    | _ => none
  | _ => none
theorem oRIdx_ok {ev : Ev} {t : Nat} {x i : Operand} {H : HP X} {fr : Nat} {R : Type} {k : Rs X → Option R} {r : R} (h : oRIdx X t (ev x) (ev i) H k = some r) : ∃ rs, k rs = some r ∧ Sim X (.indexAddr t x i) ev H fr rs := by
  unfold oRIdx at h
  split at h
  · rename_i o hx
    split at h
    · rename_i kd n hi
      split at h
      · rename_i T l hrow
        split at h
        · rename_i hel
          obtain ⟨q1, q2⟩ := elOk_ok hel
          split at h
          · rename_i hb
            refine ⟨_, h, Sim.read fun G w0 ρ HH Lo w e ty hop hf hr => ?_⟩
            obtain ⟨L, h1, h2⟩ := AR_sl (hop.1 _ hx)
            obtain ⟨L', k1, k2, k3, k4⟩ := hr.row ((rowOf_fp hf).trans hrow)
            have : L = L' := Option.some.inj (h1.symm.trans k1)
            subst this
            obtain ⟨a, ha, _⟩ := k4.at hb.1 hb.2
            rw [ha, ← k2] at h2
            refine ⟨_, x_idx (T := T) hb q1 q2 h2 (AR_int (hop.2.1 _ hi)), L, a, h1, ha, by rw [← k2]; exact hb, (fun p hp => by cases hp), ?_⟩
            rw [k3]
            simp [jn]
          · cases h
        · cases h
      · cases h
    · cases h
  · cases h
/-! ### lengths, minima -/
theorem bi_run {P : Program} {e : Operand → Value} {b : Builtin} {xs : Array Operand} {ts : Array TypeId} {ty : TypeId} {w : World} {n : Next} {w' : World} {cs : Array Bool} (hc : cs = xs.map fun | .const _ => true | _ => false) (h : (builtin b ts ty cs (xs.map e)).run P w = .ok n w') :
    (execOp e (mkO (.call { callee := .builtin b, args := xs, argTypes := ts }) ty)).run P w = .ok n w' := by
  subst hc
  unfold execOp mkO
  simp only [resolve, invoke, Sem.run_bind, Sem.run_pure, Result.andThen_ok]
  exact h
def oLen (X : Cx) (t : Nat) (x : Option AV) (H : HP X) {R : Type} (k : Rs X → Option R) : Option R := match X.si t with
  | none => none
  | some s => match x with
    | some (.o (.c (.sl o))) => match s.k with
      | .sl _ => match rowOf H o with
        | some ⟨T, l⟩ => k ⟨VI .i64 (l.length : Int), [], fpOf H o⟩
        | none => none
      | _ => none
    | some (.o (.c .nils)) => match s.k with
      | .sl _ => k ⟨VI .i64 0, [], []⟩
      | _ => none
    | some (.o (.c (.str m))) => match s.k with
      | .str => k ⟨VI .i64 (m.size : Int), [], []⟩
      | _ => none
    | _ => none
theorem oLen_ok {ev : Ev} {t : Nat} {x : Operand} {H : HP X} {fr : Nat} {R : Type} {k : Rs X → Option R} {r : R} (h : oLen X t (ev x) H k = some r) : ∃ rs, k rs = some r ∧ Sim X (.call { callee := .builtin .len, args := #[x], argTypes := #[t] }) ev H fr rs := by
  have i : ∀ {ρ : Rho} {z : Int}, AR ρ (VI .i64 z) (.int .i64 z) := rfl
  unfold oLen at h
  split at h
  · cases h
  · rename_i s hs
    split at h
    · rename_i o hx
      split at h
      · rename_i e' hk
        have hu := (X.siOk hs).sl hk
        split at h
        · rename_i T l hrow
          refine ⟨_, h, Sim.read fun G w0 ρ HH Lo w e ty hop hf hr => ?_⟩
          have hop : OpsR ρ ev e [x] := hop
          obtain ⟨L, h1, h2⟩ := AR_sl (hop.1 _ hx)
          obtain ⟨L', k1, k2, k3, k4⟩ := hr.row ((rowOf_fp hf).trans hrow)
          have : L = L' := Option.some.inj (h1.symm.trans k1)
          subst this
          refine ⟨.int .i64 (l.length : Int), bi_run rfl ?_, i⟩
          rw [k2]
          simp [builtin, Builtin.len_, h2, run_underlying hu, goInt]
        · cases h
      · cases h
    · rename_i hx
      split at h
      · rename_i e' hk
        have hu := (X.siOk hs).sl hk
        refine ⟨_, h, Sim.read fun G w0 ρ HH Lo w e ty hop hf hr => ?_⟩
        have hop : OpsR ρ ev e [x] := hop
        have h2 := AR_nils (hop.1 _ hx)
        refine ⟨.int .i64 0, bi_run rfl ?_, i⟩
        simp [builtin, Builtin.len_, h2, run_underlying hu, goInt]
      · cases h
    · rename_i m hx
      split at h
      · rename_i hk
        have hu := (X.siOk hs).str hk
        refine ⟨_, h, Sim.read fun G w0 ρ HH Lo w e ty hop hf hr => ?_⟩
        have hop : OpsR ρ ev e [x] := hop
        have h2 := AR_str (hop.1 _ hx)
        refine ⟨.int .i64 (m.size : Int), bi_run rfl ?_, i⟩
        simp [builtin, Builtin.len_, h2, run_underlying hu, goInt]
      · cases h
    · cases h
def bMM : Bool → Builtin
  | true => .min
  | false => .max
def oMM (b : Bool) (xs : List (Option AV)) {R : Type} (k : Rs X → Option R) : Option R := oMin b xs fun av => k ⟨av, [], []⟩
theorem oMM_ok {ev : Ev} {b : Bool} {xs : Array Operand} {ts : Array TypeId} {H : HP X} {fr : Nat} {R : Type} {k : Rs X → Option R} {r : R} (h : oMM b (xs.toList.map ev) k = some r) : ∃ rs, k rs = some r ∧ Sim X (.call { callee := .builtin (bMM b), args := xs, argTypes := ts }) ev H fr rs := by
  unfold oMM oMin at h
  split at h
  · rename_i kd x rest e0
    split at h
    · rename_i z hz
      refine ⟨_, h, Sim.read fun G w0 ρ HH Lo w e ty hop hf hr => ?_⟩
      obtain ⟨y, ys, hxs⟩ : ∃ y ys, xs.toList = y :: ys := by
        cases hl : xs.toList with
        | nil => rw [hl] at e0; cases e0
        | cons y ys => exact ⟨y, ys, rfl⟩
      rw [hxs] at e0
      simp only [List.map_cons, List.cons.injEq] at e0
      obtain ⟨e1, rfl⟩ := e0
      have hop' : OpsR ρ ev e xs.toList := by
        have : (Op.call { callee := .builtin (bMM b), args := xs, argTypes := ts }).operands.toList = xs.toList := by
          simp [Op.operands, Call.operands]
        rwa [this] at hop
      rw [hxs] at hop'
      have hv := AR_int (hop'.1 _ e1)
      have hm := minL_ok (P := X.P) (w := w) hz hop'.2
      refine ⟨.int kd z, bi_run rfl ?_, (rfl : AR ρ (VI _ _) (.int _ _))⟩
      have hl : (xs.map e).toList = .int kd x :: ys.map e := by simp [hxs, hv]
      cases b
      · simp only [bMM, builtin, Builtin.max_, hl, Sem.run_bind]
        rw [show (List.foldlM Builtin.max2 (Value.int kd x) (ys.map e)).run X.P w = .ok (.int kd z) w from hm]
        rfl
      · simp only [bMM, builtin, Builtin.min_, hl, Sem.run_bind]
        rw [show (List.foldlM Builtin.min2 (Value.int kd x) (ys.map e)).run X.P w = .ok (.int kd z) w from hm]
        rfl
    · cases h
  · cases h
/-! ### cuts of strings -/
def oSCut (X : Cx) (t : Nat) (x : Option AV) (lo hi : Option (Option AV)) {R : Type} (k : AV → Option R) : Option R := match X.si t with
  | none => none
  | some st => match st.k with
    | .str => match x with
      | some (.o (.c (.str s))) => match lo with
        | some (some (.o (.c (.int _ l)))) => match hi with
          | some (some (.o (.c (.int _ h)))) => if 0 ≤ l ∧ l ≤ h ∧ h ≤ (s.size : Int) then k (VC (.str (s.extract l.toNat h.toNat))) else none
          | none => if 0 ≤ l ∧ l ≤ (s.size : Int) ∧ (s.size : Int) ≤ (s.size : Int) then k (VC (.str (s.extract l.toNat (s.size : Int).toNat))) else none
          | _ => none
        | none => match hi with
          | some (some (.o (.c (.int _ h)))) => if 0 ≤ (0 : Int) ∧ 0 ≤ h ∧ h ≤ (s.size : Int) then k (VC (.str (s.extract (0 : Int).toNat h.toNat))) else none
          | none => k (VC (.str (s.extract (0 : Int).toNat (s.size : Int).toNat)))
          | _ => none
        | _ => none
      | _ => none
    | _ => none
theorem oSCut_ok {ev : Ev} {t : Nat} {x : Operand} {lo hi : Option Operand} {R : Type} {k : AV → Option R} {r : R} (h : oSCut X t (ev x) (lo.map ev) (hi.map ev) k = some r) : ∃ av, k av = some r ∧ Qs X.P (.slice t x lo hi none) ev av := by
  have s' : ∀ {ρ : Rho} {z : ByteArray}, AR ρ (VC (.str z)) (.string z) := rfl
  unfold oSCut at h
  split at h
  · cases h
  · rename_i st hs
    split at h
    · rename_i hk
      have hu := (X.siOk hs).str hk
      split at h
      · rename_i s hx
        split at h
        · rename_i kl l hlo
          obtain ⟨y, rfl, hy⟩ := Option.map_eq_some_iff.1 hlo
          split at h
          · rename_i kh hh hhi
            obtain ⟨z, rfl, hz⟩ := Option.map_eq_some_iff.1 hhi
            split at h
            · rename_i hb
              refine ⟨_, h, fun ρ e w ty ho => ⟨_, x_scut (k := kl) (k' := kh) hu (AR_str (ho.1 _ hx)) (.inl (congrArg some (AR_int (ho.2.1 _ hy)))) (.inl (congrArg some (AR_int (ho.2.2.1 _ hz)))) hb.1 hb.2.1 hb.2.2, s'⟩⟩
            · cases h
          · rename_i hhi
            have hhi : hi = none := by simpa using hhi
            subst hhi
            split at h
            · rename_i hb
              refine ⟨_, h, fun ρ e w ty ho => ⟨_, x_scut (k := kl) (k' := .i64) hu (AR_str (ho.1 _ hx)) (.inl (congrArg some (AR_int (ho.2.1 _ hy)))) (.inr ⟨rfl, rfl⟩) hb.1 hb.2.1 hb.2.2, s'⟩⟩
            · cases h
          · cases h
        · rename_i hlo
          have hlo : lo = none := by simpa using hlo
          subst hlo
          split at h
          · rename_i kh hh hhi
            obtain ⟨z, rfl, hz⟩ := Option.map_eq_some_iff.1 hhi
            split at h
            · rename_i hb
              refine ⟨_, h, fun ρ e w ty ho => ⟨_, x_scut (k := .i64) (k' := kh) hu (AR_str (ho.1 _ hx)) (.inr ⟨rfl, rfl⟩) (.inl (congrArg some (AR_int (ho.2.1 _ hz)))) hb.1 hb.2.1 hb.2.2, s'⟩⟩
            · cases h
          · rename_i hhi
            have hhi : hi = none := by simpa using hhi
            subst hhi
            refine ⟨_, h, fun ρ e w ty ho => ⟨_, x_scut (k := .i64) (k' := .i64) hu (AR_str (ho.1 _ hx)) (.inr ⟨rfl, rfl⟩) (.inr ⟨rfl, rfl⟩) (by omega) (by omega) (by omega), s'⟩⟩
          · cases h
        · cases h
      · cases h
    · cases h
/-! ### cuts of rows -/
/-- What a cut of row o hangs on. -/
def rootOf (H : HP X) (o : Nat) (n : Nat) : Option (Nat × Nat × Option (Nat × Nat)) := match H o with
  | some (.own _ v _) => some (o, v, some (0, n))
  | some (.ro _ _) => some (o, 0, some (0, n))
  | some (.vw p v _ _ _) => some (p, v, none)
  | _ => none
/-- A new name for a cut. -/
theorem RelL.view {G : List Nat} {w0 w : World} {ρ : Rho} {H : HP X} {Lo : List (Nat × AO X.τ)} (h : RelL X G w0 ρ H Lo w) {o fr n p v : Nat} {a' : Option (Nat × Nat)} {T : Nat} {l l' : List (X.τ T)} {A : Option Addr} {cap : Nat}
    (hrow : rowOf H o = some ⟨T, l⟩) (hroot : rootOf H o n = some (p, v, a')) (hfr : ρ fr = none)
    (hA : ∀ L, ρ o = some L → l' ≠ [] → ∃ b, L.A = some b ∧ A = some (b.add n))
    (hrd : ∀ L, ρ o = some L → ∀ w', Rd w' (X.E T) L.A L.cap l → Rd w' (X.E T) A cap l') :
    RelL X G w0 (setR ρ fr ⟨A, cap, l'.length, (X.E T).sz⟩) (set1 H fr (some (.vw p v a' T l'))) ((fr, .vw p v a' T l') :: Lo) w := by
  have hHn : H fr = none := by
    cases e : H fr with
    | none => rfl
    | some x =>
      exfalso
      obtain ⟨Lp, hp⟩ := h.focus e
      obtain ⟨Lb, hx⟩ := hp.st.pure
      have : ∃ L, ρ fr = some L := by
        cases x with
        | own => obtain ⟨L, h1, _⟩ := hx; exact ⟨L, h1⟩
        | ro => obtain ⟨_, L, h1, _⟩ := hx; exact ⟨L, h1⟩
        | vw => obtain ⟨_, L, h1, _⟩ := hx; exact ⟨L, h1⟩
        | var => obtain ⟨L, _, _, h1, _⟩ := hx; exact ⟨L, h1⟩
        | rvar => obtain ⟨_, L, _, _, h1, _⟩ := hx; exact ⟨L, h1⟩
        | pk => obtain ⟨L, h1, _⟩ := hx; exact ⟨L, h1⟩
        | rpk => obtain ⟨_, L, h1, _⟩ := hx; exact ⟨L, h1⟩
        | opt => obtain ⟨L, h1, _⟩ := hx; exact ⟨L, h1⟩
        | ropt => obtain ⟨_, L, h1, _⟩ := hx; exact ⟨L, h1⟩
      obtain ⟨L, h1⟩ := this
      rw [hfr] at h1
      cases h1
  refine h.add hfr hHn (h.st.emp ?_)
  refine ⟨rfl, _, setR_same, rfl, rfl, ?_⟩
  have hle := setR_le (ρ := ρ) (o := fr) (L := ⟨A, cap, l'.length, (X.E T).sz⟩) hfr
  have hhp : HPle ρ H (set1 H fr (some (.vw p v a' T l'))) := fun q hq => by
    by_cases e : q = fr
    · subst e; exact absurd hfr hq
    · rw [set1_other _ _ e]; exact .inl rfl
  refine VwF.mono (ρ := ρ) (H := H) ?_ hle hhp
  unfold rootOf at hroot
  unfold rowOf at hrow
  cases e : H o with
  | none => rw [e] at hroot; cases hroot
  | some x =>
    rw [e] at hroot hrow
    cases x with
    | own T1 v1 l1 =>
      cases hroot
      cases hrow
      obtain ⟨L, k1, k2, k3, k4⟩ := h.own_rd e
      refine ⟨⟨L, k1, fun o' lo' e' hne => ?_⟩, ?_, ?_, ?_, ?_, ?_, ?_⟩
      · cases e'
        rw [Nat.zero_add]
        exact hA L k1 hne
      · intro x n b e1 e2; rw [e] at e1; cases e1; cases e2; exact ⟨Nat.le_refl _, fun _ => rfl⟩
      · intro Lp Tp lp e1 e2
        rw [e] at e2
        cases e2
        have : L = Lp := Option.some.inj (k1.symm.trans e1)
        subst this
        exact hrd L k1
      · intro Lp Tp lp e1 e2; rw [e] at e2; cases e2
      · intro x e1; rw [e] at e1; cases e1; exact ⟨fun _ _ h => (by cases h), fun _ _ h => (by cases h)⟩
      · intro Lp Tp cs e1 e2; rw [e] at e2; cases e2
      · intro Lp Tp cs e1 e2; rw [e] at e2; cases e2
    | ro T1 l1 =>
      cases hroot
      have hd : X.dp T1 = false ∧ (⟨T1, l1⟩ : (T : Nat) × List (X.τ T)) = ⟨T, l⟩ := by
        simp only at hrow
        split at hrow
        · rename_i hd; exact ⟨hd, Option.some.inj hrow⟩
        · cases hrow
      obtain ⟨hd, hrow⟩ := hd
      cases hrow
      obtain ⟨L, k1, k2, k3, k4⟩ := h.ro_rd e hd
      refine ⟨⟨L, k1, fun o' lo' e' hne => ?_⟩, ?_, ?_, ?_, ?_, ?_, ?_⟩
      · cases e'
        rw [Nat.zero_add]
        exact hA L k1 hne
      · intro x n b e1 e2; rw [e] at e1; cases e1; cases e2
      · intro Lp Tp lp e1 e2; rw [e] at e2; cases e2
      · intro Lp Tp lp e1 e2
        rw [e] at e2
        cases e2
        have : L = Lp := Option.some.inj (k1.symm.trans e1)
        subst this
        exact hrd L k1
      · intro x e1; rw [e] at e1; cases e1; exact ⟨fun _ _ h => (by cases h), fun _ _ h => (by cases h)⟩
      · intro Lp Tp cs e1 e2; rw [e] at e2; cases e2
      · intro Lp Tp cs e1 e2; rw [e] at e2; cases e2
    | vw p1 v1 a1 T1 l1 =>
      cases hroot
      have hTl : T1 = T ∧ HEq l1 l := by
        simp only at hrow
        split at hrow
        · split at hrow
          · cases hrow; exact ⟨rfl, HEq.rfl⟩
          · cases hrow
        · split at hrow
          · cases hrow; exact ⟨rfl, HEq.rfl⟩
          · cases hrow
        · split at hrow
          · cases hrow; exact ⟨rfl, HEq.rfl⟩
          · cases hrow
        · cases hrow; exact ⟨rfl, HEq.rfl⟩
        · cases hrow
      obtain ⟨rfl, hl⟩ := hTl
      cases hl
      obtain ⟨Lp, hp⟩ := h.focus e
      obtain ⟨Lb, _, L, q1, q2, q3, q4⟩ := hp.st.pure
      have hr := hrd L q1
      obtain ⟨Lq, d1, d2⟩ := q4.dom
      refine ⟨⟨Lq, d1, fun o' lo' e' => by cases e'⟩, q4.new, ?_, ?_, q4.nr, ?_, ?_⟩
      · intro Lp Tp lp e1 e2 w' hw; exact hr w' (q4.own Lp Tp lp e1 e2 w' hw)
      · intro Lp Tp lp e1 e2 w' hw; exact hr w' (q4.ro Lp Tp lp e1 e2 w' hw)
      · intro Lp Tp cs e1 e2
        obtain ⟨vs, c1, c2⟩ := q4.var Lp Tp cs e1 e2
        exact ⟨vs, c1, fun g w' hg hx => hr w' (c2 g w' hg hx)⟩
      · intro Lp Tp cs e1 e2
        obtain ⟨vs, c1, c2⟩ := q4.rvar Lp Tp cs e1 e2
        exact ⟨vs, c1, fun g w' hg hx => hr w' (c2 g w' hg hx)⟩
    | var => cases hroot
    | rvar => cases hroot
    | pk => cases hroot
    | rpk => cases hroot
    | opt => cases hroot
    | ropt => cases hroot
end
end Go.Proofs.YtlpiomnmaiddbaaGreatDoor.E
namespace Go.Proofs.YtlpiomnmaiddbaaGreatDoor.E
set_option linter.unusedVariables false
set_option linter.unusedSimpArgs false
open Go Go.RowKit
section
variable {X : Cx}
theorem setR_dom {ρ : Rho} {fr : Nat} {L : Loc} {i : Nat} (h : setR ρ fr L i ≠ none) : ρ i ≠ none ∨ (fr ≤ i ∧ i < fr + 32) := by
  by_cases e : i = fr
  · subst e; exact .inr ⟨Nat.le_refl _, by omega⟩
  · rw [setR_other e] at h; exact .inl h
theorem cutA_some {A : Option Addr} {cap lo sz n : Nat} {a : Addr} (hA : A = some a) (hn : cap ≠ lo) (e : n = lo * sz) : cutA A cap lo sz = some (a.add n) := by
  unfold cutA
  rw [if_neg hn, hA, e]; rfl
def cutSt (X : Cx) (t o : Nat) (H : HP X) (fr : Nat) (T : Nat) (l' : List (X.τ T)) (n : Nat) {R : Type} (k : Rs X → Option R) : Option R := match elOk X t T with
  | true => match rootOf H o n with
    | some (p, v, a') => k ⟨VC (.sl fr), [(fr, some (.vw p v a' T l'))], fpOf H o⟩
    | none => none
  | false => none
def oCut (X : Cx) (t : Nat) (x : Option AV) (lo hi : Option (Option AV)) (H : HP X) (fr : Nat) {R : Type} (k : Rs X → Option R) : Option R := match x with
  | some (.o (.c (.sl o))) => match rowOf H o with
    | none => none
    | some ⟨T, l⟩ => match lo with
      | some (some (.o (.c (.int _ a)))) => match hi with
        | some (some (.o (.c (.int _ b)))) => if 0 ≤ a ∧ a ≤ b ∧ b ≤ (l.length : Int) then cutSt X t o H fr T ((l.take b.toNat).drop a.toNat) (a.toNat * (X.ti T).n) k else none
        | none => if 0 ≤ a ∧ a ≤ (l.length : Int) then cutSt X t o H fr T (l.drop a.toNat) (a.toNat * (X.ti T).n) k else none
        | _ => none
      | none => match hi with
        | some (some (.o (.c (.int _ b)))) => if 0 ≤ b ∧ b ≤ (l.length : Int) then cutSt X t o H fr T (l.take b.toNat) 0 k else none
        | _ => none
      | _ => none
  | _ => none
theorem rootOf_eq {H HH : HP X} {o n : Nat} (h : HH o = H o) : rootOf HH o n = rootOf H o n := by unfold rootOf; rw [h]
theorem fpOf_mem (H : HP X) (o : Nat) : o ∈ fpOf H o := by unfold fpOf; split <;> simp
theorem cutSt_ok {op : Op} {ev : Ev} {t o : Nat} {H : HP X} {fr T : Nat} {l l' : List (X.τ T)} {n : Nat} {R : Type} {k : Rs X → Option R} {r : R} (hrow : rowOf H o = some ⟨T, l⟩) (h : cutSt X t o H fr T l' n k = some r)
    (hx : ∀ ρ (e : Operand → Value), OpsR ρ ev e op.operands.toList → True)
    (run : X.P.underlying t = some (.slice T) → (X.P.info? T).map (·.size) = some (X.E T).sz → ∀ (ρ : Rho) (e : Operand → Value) (w : World) (ty : TypeId) (L : Loc), OpsR ρ ev e op.operands.toList → ρ o = some L → l.length = L.n → Rd w (X.E T) L.A L.cap l →
      ∃ A cap, (execOp e (mkO op ty)).run X.P w = .ok (.value (.slice A l'.length cap)) w ∧ (∀ w', Rd w' (X.E T) L.A L.cap l → Rd w' (X.E T) A cap l') ∧ (l' ≠ [] → ∃ b, L.A = some b ∧ A = some (b.add n))) :
    ∃ rs, k rs = some r ∧ Sim X op ev H fr rs := by
  unfold cutSt at h
  split at h
  · rename_i hel
    obtain ⟨q1, q2⟩ := elOk_ok hel
    split at h
    · rename_i p v a' hroot
      refine ⟨_, h, fun G w0 ρ HH Lo w e ty hop hf hr hfr => .inl ?_⟩
      have hrow' := (rowOf_fp hf).trans hrow
      have hroot' : rootOf HH o n = some (p, v, a') := (rootOf_eq (hf o (fpOf_mem H o))).trans hroot
      obtain ⟨L, k1, k2, k3, k4⟩ := hr.row hrow'
      obtain ⟨A, cap, r1, r2, r3⟩ := run q1 q2 ρ e w ty L hop k1 k2 k4
      have hne : ρ fr = none := hfr fr (Nat.le_refl _) (by omega)
      refine ⟨_, w, r1, setR ρ fr ⟨A, cap, l'.length, (X.E T).sz⟩, (fr, .vw p v a' T l') :: Lo, setR_le hne, fun i hi => setR_dom hi, ⟨_, setR_same, rfl⟩, ?_⟩
      refine hr.view hrow' hroot' hne (fun L' e' hl => ?_) (fun L' e' w' => ?_)
      · have : L = L' := Option.some.inj (k1.symm.trans e')
        subst this
        exact r3 hl
      · have : L = L' := Option.some.inj (k1.symm.trans e')
        subst this
        exact r2 w'
    · cases h
  · cases h
theorem oCut_ok {ev : Ev} {t : Nat} {x : Operand} {lo hi : Option Operand} {H : HP X} {fr : Nat} {R : Type} {k : Rs X → Option R} {r : R} (h : oCut X t (ev x) (lo.map ev) (hi.map ev) H fr k = some r) : ∃ rs, k rs = some r ∧ Sim X (.slice t x lo hi none) ev H fr rs := by
  unfold oCut at h
  split at h
  · rename_i o hx
    split at h
    · cases h
    · rename_i T l hrow
      have xv : ∀ {ρ : Rho} {e : Operand → Value} {L : Loc}, (∀ av, ev x = some av → AR ρ av (e x)) → ρ o = some L → l.length = L.n → e x = .slice L.A l.length L.cap := by
        intro ρ e L ho h1 h2
        obtain ⟨L', k1, k2⟩ := AR_sl (ho _ hx)
        have : L = L' := Option.some.inj (h1.symm.trans k1)
        subst this
        rw [k2, h2]
      split at h
      · rename_i ka a hlo
        obtain ⟨y, rfl, hy⟩ := Option.map_eq_some_iff.1 hlo
        split at h
        · rename_i kb b hhi
          obtain ⟨z, rfl, hz⟩ := Option.map_eq_some_iff.1 hhi
          split at h
          · rename_i hb
            refine cutSt_ok hrow h (fun _ _ _ => trivial) fun q1 q2 ρ e w ty L ho h1 h2 h3 => ?_
            have ho : OpsR ρ ev e [x, y, z] := ho
            refine ⟨_, _, x_lohi q1 q2 h3.1 (xv ho.1 h1 h2) (AR_int (ho.2.1 _ hy)) (AR_int (ho.2.2.1 _ hz)) hb.1 hb.2.1 hb.2.2, fun w' hw => hw.cut, fun hne => ?_⟩
            have hl : a.toNat < L.cap := by
              have := List.length_pos_iff.2 hne
              simp only [List.length_drop, List.length_take] at this
              have := h3.1
              omega
            obtain ⟨b', hb', _⟩ := h3.2 0 (l[0]'(by have := List.length_pos_iff.2 hne; simp only [List.length_drop, List.length_take] at this; omega)) (List.getElem?_eq_getElem _)
            exact ⟨b', hb', cutA_some hb' (by omega) rfl⟩
          · cases h
        · rename_i hhi
          have hhi : hi = none := by simpa using hhi
          subst hhi
          split at h
          · rename_i hb
            refine cutSt_ok hrow h (fun _ _ _ => trivial) fun q1 q2 ρ e w ty L ho h1 h2 h3 => ?_
            have ho : OpsR ρ ev e [x, y] := ho
            refine ⟨_, _, x_lo q1 q2 (xv ho.1 h1 h2) (AR_int (ho.2.1 _ hy)) hb.1 (by have := h3.1; omega), fun w' hw => hw.lo _, fun hne => ?_⟩
            have hp := List.length_pos_iff.2 hne
            simp only [List.length_drop] at hp
            have := h3.1
            obtain ⟨b', hb', _⟩ := h3.2 0 (l[0]'(by omega)) (List.getElem?_eq_getElem _)
            exact ⟨b', hb', cutA_some hb' (by omega) rfl⟩
          · cases h
        · cases h
      · rename_i hlo
        have hlo : lo = none := by simpa using hlo
        subst hlo
        split at h
        · rename_i kb b hhi
          obtain ⟨z, rfl, hz⟩ := Option.map_eq_some_iff.1 hhi
          split at h
          · rename_i hb
            refine cutSt_ok hrow h (fun _ _ _ => trivial) fun q1 q2 ρ e w ty L ho h1 h2 h3 => ?_
            have ho : OpsR ρ ev e [x, z] := ho
            refine ⟨_, _, x_hi q1 (by rw [q2]; rfl) h3.1 (xv ho.1 h1 h2) (AR_int (ho.2.1 _ hz)) hb.1 hb.2, fun w' hw => hw.hi _, fun hne => ?_⟩
            have hp := List.length_pos_iff.2 hne
            simp only [List.length_take] at hp
            obtain ⟨b', hb', _⟩ := h3.2 0 (l[0]'(by omega)) (List.getElem?_eq_getElem _)
            exact ⟨b', hb', by rw [hb']; simp [Addr.add]⟩
          · cases h
        · cases h
      · cases h
  · cases h
/-- An own row, cut to its length and no room behind. -/
def oTrim (X : Cx) (t : Nat) (x hi mx : Option AV) (H : HP X) (fr : Nat) {R : Type} (k : Rs X → Option R) : Option R := match x with
  | some (.o (.c (.sl o))) => match H o with
    | some (.own T v l) => match elOk X t T with
      | true => match hi with
        | some (.o (.c (.int _ a))) => match mx with
          | some (.o (.c (.int _ b))) => if a = (l.length : Int) ∧ b = (l.length : Int) then k ⟨VC (.sl fr), [(o, none), (fr, some (.own T 0 l))], [o]⟩ else none
          | _ => none
        | _ => none
      | false => none
    | _ => none
  | _ => none
theorem RelL.fresh {G : List Nat} {w0 w : World} {ρ : Rho} {H : HP X} {Lo : List (Nat × AO X.τ)} (h : RelL X G w0 ρ H Lo w) {fr : Nat} (hfr : ρ fr = none) : H fr = none := by
  cases e : H fr with
  | none => rfl
  | some x =>
    exfalso
    obtain ⟨Lp, hp⟩ := h.focus e
    obtain ⟨Lb, hx⟩ := hp.st.pure
    have : ∃ L, ρ fr = some L := by
      cases x with
      | own => obtain ⟨L, h1, _⟩ := hx; exact ⟨L, h1⟩
      | ro => obtain ⟨_, L, h1, _⟩ := hx; exact ⟨L, h1⟩
      | vw => obtain ⟨_, L, h1, _⟩ := hx; exact ⟨L, h1⟩
      | var => obtain ⟨L, _, _, h1, _⟩ := hx; exact ⟨L, h1⟩
      | rvar => obtain ⟨_, L, _, _, h1, _⟩ := hx; exact ⟨L, h1⟩
      | pk => obtain ⟨L, h1, _⟩ := hx; exact ⟨L, h1⟩
      | rpk => obtain ⟨_, L, h1, _⟩ := hx; exact ⟨L, h1⟩
      | opt => obtain ⟨L, h1, _⟩ := hx; exact ⟨L, h1⟩
      | ropt => obtain ⟨_, L, h1, _⟩ := hx; exact ⟨L, h1⟩
    obtain ⟨L, h1⟩ := this
    rw [hfr] at h1
    cases h1
/-- A row of the call's own is new, in the place of an old one or of none. -/
theorem RelL.newRow {G : List Nat} {w0 w w' : World} {ρ : Rho} {H : HP X} {Lo : List (Nat × AO X.τ)} (h : RelL X G w0 ρ H Lo w) {fr T : Nat} {l : List (X.τ T)} {A : Option Addr} {cap : Nat} (hfr : ρ fr = none)
    (hs : St G w0 w' (own T (X.E T) A cap l :: Lo.map fun p => asn X G w0 ρ H p.1 p.2)) :
    RelL X G w0 (setR ρ fr ⟨A, cap, l.length, (X.E T).sz⟩) (set1 H fr (some (.own T 0 l))) ((fr, .own T 0 l) :: Lo) w' := by
  refine h.add hfr (h.fresh hfr) ?_
  obtain ⟨Lb, ⟨L1, L2, e1, e2, e3⟩, e4⟩ := hs
  exact ⟨Lb, ⟨L1, L2, e1, ⟨_, setR_same, rfl, rfl, e2⟩, e3⟩, e4⟩
theorem oTrim_ok {ev : Ev} {t : Nat} {x y z : Operand} {H : HP X} {fr : Nat} {R : Type} {k : Rs X → Option R} {r : R} (h : oTrim X t (ev x) (ev y) (ev z) H fr k = some r) : ∃ rs, k rs = some r ∧ Sim X (.slice t x none (some y) (some z)) ev H fr rs := by
  unfold oTrim at h
  split at h
  · rename_i o hx
    split at h
    · rename_i T v l ho
      split at h
      · rename_i hel
        obtain ⟨q1, q2⟩ := elOk_ok hel
        split at h
        · rename_i ka a hy
          split at h
          · rename_i kb b hz
            split at h
            · rename_i hab
              refine ⟨_, h, fun G w0 ρ HH Lo w e ty hop hf hr hfr => .inl ?_⟩
              have hop : OpsR ρ ev e [x, y, z] := hop
              obtain ⟨Lp, hp⟩ := hr.focus ((hf o (by simp)).trans ho)
              obtain ⟨L, k1, k2, k3, k4⟩ := asn_own hp.st
              obtain ⟨L', h1, h2⟩ := AR_sl (hop.1 _ hx)
              have : L = L' := Option.some.inj (k1.symm.trans h1)
              subst this
              have hy' := AR_int (hop.2.1 _ hy)
              have hz' := AR_int (hop.2.2.1 _ hz)
              rw [hab.1] at hy'
              rw [hab.2] at hz'
              rw [← k2] at h2
              obtain ⟨r1, r2⟩ := x_trim (P := X.P) (ty := ty) k4 h2 hy' hz' q1 (by rw [q2]; rfl)
              have hne : ρ fr = none := hfr fr (Nat.le_refl _) (by omega)
              have hd := hp.del
              have hd2 : St G w0 w (own T (X.E T) L.A l.length l :: Lp.map fun p => asn X G w0 ρ (set1 HH o none) p.1 p.2) := by
                have hh : HPle ρ HH (set1 HH o none) := fun q _ => by
                  by_cases e : q = o
                  · subst e; rw [set1_same]; exact .inr (.inl rfl)
                  · rw [set1_other _ _ e]; exact .inl rfl
                exact St.monoL (As := [own T (X.E T) L.A l.length l]) (l := Lp) (f := fun p => asn X G w0 ρ HH p.1 p.2) (g := fun p => asn X G w0 ρ (set1 HH o none) p.1 p.2) (fun p _ L hL => asn.mono (Rho.le_refl ρ) hh hL) r2
              exact ⟨_, w, r1, _, _, setR_le hne, fun i hi => setR_dom hi, ⟨_, setR_same, rfl⟩, hd.newRow hne hd2⟩
            · cases h
          · cases h
        · cases h
      · cases h
    · cases h
  · cases h
end
end Go.Proofs.YtlpiomnmaiddbaaGreatDoor.E
namespace Go.Proofs.YtlpiomnmaiddbaaGreatDoor.E
set_option linter.unusedVariables false
set_option linter.unusedSimpArgs false
open Go Go.RowKit
theorem foldl_put (off : Nat) : ∀ (l : List Value) (j0 : Nat) (cs : Array Value), off + j0 + l.length ≤ cs.size →
    (l.zipIdx j0).foldl (fun cs (p : Value × Nat) => cs.setIfInBounds (off + p.2) p.1) cs = (cs.toList.take (off + j0) ++ l ++ cs.toList.drop (off + j0 + l.length)).toArray
  | [], j0, cs, h => by simp
  | c :: l, j0, cs, h => by
    simp only [List.length_cons] at h
    rw [List.zipIdx_cons, List.foldl_cons, foldl_put off l (j0 + 1) _ (by rw [Array.size_setIfInBounds]; omega)]
    apply Array.ext'
    simp only [List.toList_toArray, Array.toList_setIfInBounds]
    obtain ⟨pre, x, post, hL, hp⟩ : ∃ pre x post, cs.toList = pre ++ x :: post ∧ pre.length = off + j0 := by
      have hlt : off + j0 < cs.toList.length := by rw [Array.length_toList]; omega
      refine ⟨cs.toList.take (off + j0), cs.toList[off + j0], cs.toList.drop (off + j0 + 1), ?_, by rw [List.length_take]; omega⟩
      rw [← List.drop_eq_getElem_cons hlt, List.take_append_drop]
    rw [hL, ← hp, List.set_append_right _ _ (Nat.le_refl _), Nat.sub_self, List.set_cons_zero]
    have e1 : off + (j0 + 1) = pre.length + 1 := by omega
    rw [e1, List.take_length_add_append, List.take_left, Nat.add_assoc pre.length 1 l.length, List.drop_length_add_append, show (c :: l).length = 1 + l.length by rw [List.length_cons]; omega, List.drop_length_add_append]
    simp [Nat.add_comm 1]
section
variable {X : Cx}
/-! ### structs and arrays that are built -/
def fillC (place : Nat → Option (Nat × Nat)) (ev : Ev) : List (Nat × Operand) → List Cl → Option (List Cl)
  | [], cs => some cs
  | p :: r, cs => match place p.1 with
    | none => none
    | some q => match ev p.2 with
      | none => none
      | some av => match segsOf av with
        | none => none
        | some new => match Nat.beq (nC new) q.2 with
          | true => match putC cs q.1 new with
            | some cs' => fillC place ev r cs'
            | none => none
          | false => none
theorem fillC_ok {place : Nat → Option (Nat × Nat)} {ev : Ev} {ρ : Rho} {e : Operand → Value} : ∀ {ps : List (Nat × Operand)} {cs cs' : List Cl} {vs : List Value}, fillC place ev ps cs = some cs' → CRs ρ cs vs → OpsR ρ ev e (ps.map (·.2)) →
    ∃ vs', Instr.fill place vs.toArray (ps.map fun p => (p.1, e p.2)) = some vs'.toArray ∧ CRs ρ cs' vs' ∧ vs'.length = vs.length
  | [], cs, cs', vs, h, hc, _ => by cases h; exact ⟨vs, rfl, hc, rfl⟩
  | p :: r, cs, cs', vs, h, hc, ho => by
    unfold fillC at h
    split at h
    · cases h
    · rename_i q hq
      split at h
      · cases h
      · rename_i av hav
        split at h
        · cases h
        · rename_i new hnew
          split at h
          · rename_i hsz
            have hsz := Nat.eq_of_beq_eq_true hsz
            split at h
            · rename_i cs1 hput
              have hn := segsOf_ok hnew (ho.1 _ hav)
              obtain ⟨k1, k2⟩ := putC_ok hc hn hput
              have hnl := hn.len
              obtain ⟨vs', q1, q2, q3⟩ := fillC_ok (vs := vs.take q.1 ++ (e p.2).cells.toList ++ vs.drop (q.1 + (e p.2).cells.toList.length)) h k2 ho.2
              have k1' : q.1 + (e p.2).cells.toList.length ≤ vs.length := k1
              refine ⟨vs', ?_, q2, by rw [q3, List.length_append, List.length_append, List.length_take, List.length_drop]; omega⟩
              rw [List.map_cons, Instr.fill, hq]
              have hsize : (e p.2).cells.size = q.2 := by rw [← Array.length_toList, hnl, hsz]
              have hfit : q.1 + (e p.2).cells.size ≤ vs.toArray.size := by rw [← Array.length_toList]; simpa using k1
              simp only [hsize, ne_eq, not_true_eq_false, decide_false, Bool.false_or]
              rw [if_neg (by simpa using (by omega : q.1 + q.2 ≤ vs.toArray.size))]
              have := foldl_put q.1 (e p.2).cells.toList 0 vs.toArray (by simpa using k1)
              rw [Nat.add_zero] at this
              have hz : (e p.2).cells.zipIdx.foldl (fun cs (x : Value × Nat) => cs.setIfInBounds (q.1 + x.2) x.1) vs.toArray = ((e p.2).cells.toList.zipIdx 0).foldl (fun cs (p : Value × Nat) => cs.setIfInBounds (q.1 + p.2) p.1) vs.toArray := by
                rw [← Array.foldl_toList, Array.toList_zipIdx]
              have hz2 : (e p.2).cells.zipIdx.foldl (fun cs (x : Value × Nat) => match x with | (c, j) => cs.setIfInBounds (q.1 + j) c) vs.toArray = (vs.take q.1 ++ (e p.2).cells.toList ++ vs.drop (q.1 + (e p.2).cells.toList.length)).toArray := by
                have := hz.trans this
                simpa using this
              rw [← q1]
              congr 1
            · cases h
          · cases h
/-- Where a struct's fields are. -/
def plL (X : Cx) : List (Nat × Nat) → Option (List (Nat × Nat))
  | [] => some []
  | p :: r => match X.si p.1 with
    | none => none
    | some s => match plL X r with
      | some l => some ((p.2, s.sz) :: l)
      | none => none
theorem plL_ok : ∀ {fa : List Field} {fs pl : List (Nat × Nat)}, fsOk fa fs = true → plL X fs = some pl → fa.mapM (fun f => (X.P.info? f.type).map fun i => (f.offset, i.size)) = some pl
  | [], fs, pl, h, e => by
    unfold fsOk at h
    split at h
    · cases e; rfl
    · cases h
  | f :: fa, fs, pl, h, e => by
    unfold fsOk at h
    split at h
    · rename_i p s
      simp only [Bool.and_eq_true] at h
      obtain ⟨⟨⟨h1, h2⟩, _⟩, h4⟩ := h
      have h1 := Nat.eq_of_beq_eq_true h1
      have h2 := Nat.eq_of_beq_eq_true h2
      unfold plL at e
      split at e
      · cases e
      · rename_i si hsi
        split at e
        · rename_i l hl
          cases e
          have := plL_ok h4 hl
          have hsz := (X.siOk hsi).size
          obtain ⟨inf, q1, q2⟩ := Option.map_eq_some_iff.1 hsz
          simp [List.mapM_cons, h1, h2, q1, q2, this]
        · cases e
    · cases h
def oBuild (X : Cx) (t : Nat) (ev : Ev) (ps : List (Nat × Operand)) {R : Type} (k : AV → Option R) : Option R := match X.si t with
  | none => none
  | some s => match s.k with
    | .st fs => match plL X fs with
      | none => none
      | some pl => match fillC (fun i => pl[i]?) ev ps s.z with
        | some cs => k (VA cs)
        | none => none
    | .arr _ e => match X.si e with
      | none => none
      | some se => match fillC (fun i => some (i * se.sz, se.sz)) ev ps s.z with
        | some cs => k (VA cs)
        | none => none
    | _ => none
theorem build_run {P : Program} {e : Operand → Value} {t : Nat} {parts : Array (Nat × Operand)} {ty : TypeId} {w : World} {cells : Array Value} (h : P.built t (parts.toList.map fun p => (p.1, e p.2)) = some cells) : (execOp e (mkO (.build t parts) ty)).run P w = .ok (.value (.agg cells)) w := by
  have hl : (parts.map fun (p : Nat × Operand) => (match p with | (i, x) => (i, e x))).toList = parts.toList.map fun p => (p.1, e p.2) := by simp
  refine run_v ?_
  show (Instr.build t (parts.map fun (p : Nat × Operand) => (match p with | (i, x) => (i, e x)))).run P w = _
  exact run_build w t _ _ (by rw [hl]; exact h)
theorem oBuild_ok {ev : Ev} {t : Nat} {parts : Array (Nat × Operand)} {R : Type} {k : AV → Option R} {r : R} (h : oBuild X t ev parts.toList k = some r) : ∃ av, k av = some r ∧ Qs X.P (.build t parts) ev av := by
  unfold oBuild at h
  split at h
  · cases h
  · rename_i s hs
    obtain ⟨inf, z, i1, i2, i3, i4, i5⟩ := (X.siOk hs).inf
    split at h
    · rename_i fs hk
      obtain ⟨fa, hu, hf⟩ := (X.siOk hs).st hk
      split at h
      · cases h
      · rename_i pl hpl
        split at h
        · rename_i cs hcs
          refine ⟨_, h, fun ρ e w ty ho => ?_⟩
          have ho : OpsR ρ ev e (parts.toList.map (·.2)) := ho
          obtain ⟨vs', q1, q2, _⟩ := fillC_ok hcs (i5 ρ) ho
          refine ⟨.agg vs'.toArray, build_run ?_, vs', rfl, q2⟩
          unfold Program.built
          rw [i1, hu]
          simp only [i4, plL_ok hf hpl]
          simpa using q1
        · cases h
    · rename_i n e' hk
      have hu := (X.siOk hs).arr hk
      split at h
      · cases h
      · rename_i se hse
        obtain ⟨inf', q5, q6⟩ := Option.map_eq_some_iff.1 (X.siOk hse).size
        split at h
        · rename_i cs hcs
          refine ⟨_, h, fun ρ e w ty ho => ?_⟩
          have ho : OpsR ρ ev e (parts.toList.map (·.2)) := ho
          have hcs' : fillC (fun i => some (i * se.sz, se.sz)) ev parts.toList s.z = some cs := hcs
          have h5 := i5 ρ
          have hfill := fillC_ok (ρ := ρ) (e := e) hcs' h5 ho
          obtain ⟨vs', q1, q2, _⟩ := hfill
          refine ⟨.agg vs'.toArray, build_run ?_, vs', rfl, q2⟩
          unfold Program.built
          rw [i1, hu]
          simp only [i4, q5, q6]
          simpa using q1
        · cases h
    · cases h
end
end Go.Proofs.YtlpiomnmaiddbaaGreatDoor.E
