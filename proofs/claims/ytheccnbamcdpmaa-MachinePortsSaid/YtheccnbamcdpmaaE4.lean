/- The engine's words, fourth part: element stores, appends, what is made, addresses and cuts. No condition. -/
import Derived.Test.YtheccnbamcdpmaaE3
namespace Go.Proofs.Ytheccnbamcdpmaa.E
open Go Go.RowKit
section
variable {P : Program} {L : SL} {α : Type} {E : Enc α} {G : List Nat} {w0 w w' : World} {A : Option Addr} {cap : Nat} {l : List α} {As : List Asn} {T : TypeId}

/-- An element of an own row, or a part of it, is stored. -/
theorem x_put {t : TypeId} {x y : Operand} {ty : TypeId} {v : Value} {vs : List Value} {i : Int} {off : Nat} {a p : Addr} {e' : α} {aS : Act} {nS : Nat} (_hs : Slots aS nS L) (hst : St G w0 w (own T E A cap l :: As)) (ha : A = some a) (h0 : 0 ≤ i) (h1 : i < (l.length : Int))
    (hx : evD L x = .pointer (some p)) (hp : p = a.add (i.toNat * E.sz + off)) (hy : evD L y = v) (hv : v.cells.toList = vs)
    (hi : (P.info? t).map (·.size) = some vs.length) (hfit : off + vs.length ≤ E.sz) (hone : ∀ u ∈ vs, u.oneCell' = true)
    (he : E.enc e' = (E.enc (ix E.d l i)).take off ++ vs ++ (E.enc (ix E.d l i)).drop (off + vs.length)) :
    ∃ w', (execOp (evD L) (mkO (.store t x y) ty)).run P w = .ok .skip w' ∧ St G w0 w' (own T E A cap (l.set i.toNat e') :: As) := by
  obtain ⟨LL, ⟨L1, L2, rfl, ho, hr⟩, hs⟩ := hst
  rcases ho with ⟨rfl, _⟩ | ⟨g, cur, rfl, h2, h3, h4, h5, rfl⟩
  · cases ha
  · have hh : w.heap[g]? = some (.cells cur T (0, 0)) := hs.here (g, .cells cur T (0, 0)) (by simp)
    have ha : a = ⟨g, 0, none⟩ := (Option.some.inj ha).symm
    subst ha
    rw [hp, add_zero_addr] at hx
    have hge := ix_some (d := E.d) h0 h1
    have hilt : i.toNat < l.length := by omega
    have hmul : i.toNat * E.sz + E.sz ≤ l.length * E.sz := by
      rw [← Nat.succ_mul]; exact Nat.mul_le_mul_right _ hilt
    have hcapm : l.length * E.sz ≤ cap * E.sz := Nat.mul_le_mul_right _ h2
    refine ⟨_, x_store hx hy hv hi hh (by omega) hone, ?_⟩
    refine ⟨_, ⟨[_], L2, rfl, .inr ⟨g, _, rfl, by simpa using h2, h3, ?_, ?_, rfl⟩, hr⟩, hs.setRow⟩
    · simp; omega
    · have hf := flat_set (E := E) hge hfit he
      rw [List.length_set, hf]
      have hfl := flat_len (E := E) l
      have hcur : cur.toList = l.flatMap E.enc ++ cur.toList.drop (l.length * E.sz) := by rw [← h5, List.take_append_drop]
      generalize cur.toList.drop (l.length * E.sz) = tl at hcur
      rw [hcur]
      simp only
      have e1 : (l.flatMap E.enc ++ tl).take (i.toNat * E.sz + off) = (l.flatMap E.enc).take (i.toNat * E.sz + off) := List.take_append_of_le_length (by omega)
      have e2 : (l.flatMap E.enc ++ tl).drop (i.toNat * E.sz + off + vs.length) = (l.flatMap E.enc).drop (i.toNat * E.sz + off + vs.length) ++ tl := List.drop_append_of_le_length (by omega)
      rw [e1, e2, ← List.append_assoc]
      rw [List.take_append_of_le_length (by simp only [List.length_append, List.length_take, List.length_drop]; omega)]
      exact List.take_of_length_le (by simp only [List.length_append, List.length_take, List.length_drop]; omega)

/-! ### append -/
theorem toList_zero (z : Array Value) (n : Nat) : (Builtin.zeroCells z n).size = n * z.size := size_zeroCells z n
/-- Onto an own row (or nil), from whatever source. -/
theorem x_append {t tx : TypeId} {x y : Operand} {ty : TypeId} {z : Value} {bytes : Nat} {l2 : List α} {xv : Value} {aS : Act} {nS : Nat} (_hs : Slots aS nS L) (hst : St G w0 w (own T E A cap l :: As))
    (ht : P.underlying t = some (.slice T)) (hinfo : (P.info? T).map (fun i => (i.zero, i.size, i.bytes)) = some (some z, E.sz, bytes)) (hz : z.cells.size = E.sz)
    (hx : evD L x = .slice A l.length cap) (hy : evD L y = xv) (hsrc : Src P E.sz tx xv l2.length (l2.flatMap E.enc) w)
    (hlim : (l.length + l2.length) * bytes ≤ 140737488355328) (hmax : l.length + l2.length ≤ 4611686018427387904) :
    ∃ A' cap' w', (execOp (evD L) (mkO (.call { callee := .builtin .append, args := #[x, y], argTypes := #[t, tx] }) ty)).run P w = .ok (.value (.slice A' (l ++ l2).length cap')) w' ∧ St G w0 w' (own T E A' cap' (l ++ l2) :: As) := by
  obtain ⟨inf, hi, hzz, hsz, hby⟩ := info_parts hinfo
  obtain ⟨LL, ⟨L1, L2, rfl, ho, hr⟩, hs⟩ := hst
  have hlen2 := flat_len (E := E) l2
  have hlen : (l ++ l2).length = l.length + l2.length := List.length_append
  have hrun : ∀ {v w'}, (Builtin.append_ #[t, tx] ty #[.slice A l.length cap, xv]).run P w = .ok v w' →
      (execOp (evD L) (mkO (.call { callee := .builtin .append, args := #[x, y], argTypes := #[t, tx] }) ty)).run P w = .ok (.value v) w' := by
    intro v w' h
    unfold execOp mkO
    simp only [resolve, invoke, builtin, Sem.run_bind, Sem.run_pure, Result.andThen_ok, List.map_toArray, List.map_cons, List.map_nil, hx, hy, h]
  have hsrc' : Src P inf.size tx xv l2.length (l2.flatMap E.enc) w := hsz ▸ hsrc
  by_cases hroom : l.length + l2.length ≤ cap
  · rcases ho with ⟨rfl, rfl, rfl, rfl⟩ | ⟨g, cur, rfl, h2, h3, h4, h5, rfl⟩
    · -- nil, and nothing to append
      have h0 : l2 = [] := by
        cases l2 with
        | nil => rfl
        | cons _ _ => simp at hroom
      subst h0
      refine ⟨none, 0, w, hrun ?_, L2, ⟨[], L2, rfl, .inl ⟨rfl, rfl, rfl, rfl⟩, hr⟩, hs⟩
      have hc0 : (Builtin.firstCells inf.size 0 xv).run P w = .ok #[] w := by simpa using hsrc'.cells
      have hl0 : ∀ w' : World, (Builtin.lenOf xv).run P w' = .ok 0 w' := by simpa using hsrc'.len
      rcases hsrc'.kind with ⟨e', hk⟩ | hk <;> simp [Builtin.append_, run_underlying ht, run_underlying hk, sizeOf, typeInfo, hi, hl0, hc0]
    · have hh : w.heap[g]? = some (.cells cur T (0, 0)) := hs.here (g, .cells cur T (0, 0)) (by simp)
      have hmul : (l.length + l2.length) * E.sz ≤ cap * E.sz := Nat.mul_le_mul_right _ hroom
      rw [Nat.add_mul] at hmul
      have hst := run_storeCells_at P g (l.length * inf.size) T (l2.flatMap E.enc) 0 cur w hh (by rw [hsz]; simp only [Nat.add_zero]; omega) (flat_one l2)
      simp only [Nat.add_zero] at hst
      refine ⟨some ⟨g, 0, none⟩, cap, w.setRow g (cur.toList.take (l.length * inf.size) ++ (l2.flatMap E.enc) ++ cur.toList.drop (l.length * inf.size + (l2.flatMap E.enc).length)).toArray, hrun ?_, ?_⟩
      · rw [hlen]
        rcases hsrc'.kind with ⟨e', hk⟩ | hk <;> simp [Builtin.append_, run_underlying ht, run_underlying hk, sizeOf, typeInfo, hi, hsrc'.len, hroom, hsrc'.cells, Addr.add_lit, hst]
      · refine ⟨_, ⟨[_], L2, rfl, .inr ⟨g, _, rfl, by omega, h3, ?_, ?_, rfl⟩, hr⟩, hs.setRow⟩
        · simp only [List.size_toArray, List.length_append, List.length_take, List.length_drop, Array.length_toList, hsz]; omega
        · rw [hlen, Nat.add_mul, List.flatMap_append, ← h5, hsz]
          simp only
          rw [List.take_append_of_le_length (by simp only [List.length_append, List.length_take, Array.length_toList]; omega)]
          exact List.take_of_length_le (by simp only [List.length_append, List.length_take, Array.length_toList]; omega)
  · -- a new row
    have hg : cap < l.length + l2.length := by omega
    have hold : (Builtin.firstCells inf.size l.length (.slice A l.length cap)).run P w.drew = .ok (l.flatMap E.enc).toArray w.drew := by
      rcases ho with ⟨rfl, rfl, rfl, rfl⟩ | ⟨g, cur, rfl, h2, h3, h4, h5, rfl⟩
      · simp [Builtin.firstCells]
      · have hh : w.heap[g]? = some (.cells cur T (0, 0)) := hs.here (g, .cells cur T (0, 0)) (by simp)
        refine run_firstCells_some w.drew inf.size l.length _ _ _ _ (by rw [hsz]; exact flat_len l) fun j u hj => ?_
        show w.cell? _ = _
        rw [add_zero_addr, cell_of_row w g j cur T (0, 0) hh]
        have := take_get h5 hj
        simpa using this

    have hgrow := run_append_grow_src (P := P) w t tx ty T inf z ht hi hzz A l.length cap (l.flatMap E.enc) hold xv l2.length (l2.flatMap E.enc) hsrc' hg (by omega) (growslice_fits hg (by rw [hby]; exact hlim))
    have hge := grownCap_ge w (l.length + l2.length) cap T
    have hcm : grownCap w (l.length + l2.length) cap T ≤ maxLen := grownCap_le_maxLen w _ cap T (by simp only [maxLen]; omega)
    refine ⟨some ⟨w.heap.size, 0, none⟩, grownCap w (l.length + l2.length) cap T, _, hrun (by rw [hlen]; exact hgrow), ?_⟩
    have hdrew : StB G w0 w.drew (L1 ++ L2) := hs.same rfl rfl rfl (Nat.le_refl _) fun _ _ => rfl
    have hal := (hdrew.sub (List.sublist_append_right L1 L2)).alloc (.cells ((l.flatMap E.enc ++ l2.flatMap E.enc).toArray ++ Builtin.zeroCells z.cells (grownCap w (l.length + l2.length) cap T - (l.length + l2.length))) T)
    refine ⟨_, ⟨[_], L2, rfl, .inr ⟨w.heap.size, _, rfl, by omega, hcm, ?_, ?_, rfl⟩, hr⟩, hal⟩
    · have hfl := flat_len (E := E) l
      simp only [Array.size_append, List.size_toArray, List.length_append, size_zeroCells, hz, hlen2, hfl, ← Nat.add_mul]
      exact Nat.mul_le_mul_right _ (by omega)
    · rw [hlen, List.flatMap_append]
      have hfl := flat_len (E := E) l
      simp only [Array.toList_append]
      rw [List.take_append_of_le_length (by simp only [List.length_append, Nat.add_mul]; omega)]
      exact List.take_of_length_le (by simp only [List.length_append, Nat.add_mul]; omega)

theorem Src.of_rd {t e' : TypeId} (hk : P.underlying t = some (.slice e')) (h : Rd w E A cap l) : Src P E.sz t (.slice A l.length cap) l.length (l.flatMap E.enc) w := by
  cases l with
  | nil =>
    have hs : ∀ w' : World, (Builtin.firstCells E.sz 0 (.slice A 0 cap)).run P w' = .ok #[] w' := by
      intro w'
      cases A with
      | none => simp [Builtin.firstCells]
      | some a => simp [Builtin.firstCells, loadCells, loadCellsFrom]
    exact ⟨.inl ⟨e', hk⟩, fun _ => rfl, by simpa using hs w, by simpa using hs w.drew, by simp, fun _ h => by cases h⟩
  | cons x r =>
    obtain ⟨a, ha, _⟩ := h.2 0 x rfl
    subst ha
    refine Src.ofSlice w hk a _ cap _ (flat_len (E := E) (x :: r)) (fun j u hj => ?_) (flat_one (x :: r))
    have hjl : j < (x :: r).length * E.sz := by rw [← flat_len (E := E)]; exact (List.getElem?_eq_some_iff.1 hj).1
    have hdm := Nat.div_add_mod j E.sz
    have hmod := Nat.mod_lt j E.pos
    have hdiv : j / E.sz < (x :: r).length := Nat.div_lt_of_lt_mul (by rw [Nat.mul_comm]; exact hjl)
    obtain ⟨b, hb, hc⟩ := h.2 (j / E.sz) ((x :: r)[j / E.sz]'hdiv) (List.getElem?_eq_getElem hdiv)
    cases hb
    have hf := flat_get (E := E) (List.getElem?_eq_getElem hdiv) hmod
    rw [show j / E.sz * E.sz + j % E.sz = j by rw [Nat.mul_comm]; exact hdm] at hf
    have := hc (j % E.sz) u (hf.symm.trans hj)
    rwa [show j / E.sz * E.sz + j % E.sz = j by rw [Nat.mul_comm]; exact hdm] at this

/-! ### what is made -/
/-- A variable in memory. -/
theorem x_box {elem : TypeId} {v : Operand} {ty : TypeId} {cs : List Value} (hst : St G w0 w As) (hv : (evD L v).cells.toList = cs) :
    ∃ w', (execOp (evD L) (mkO (.box elem v) ty)).run P w = .ok (.value (.pointer (some ⟨w.heap.size, 0, none⟩))) w' ∧ St G w0 w' (box w.heap.size elem cs :: As) := by
  refine ⟨_, ?_, hst.alloc elem cs⟩
  refine run_v ?_
  show (Instr.box elem (evD L v)).run P w = _
  have : (evD L v).cells = cs.toArray := by rw [← hv]
  simp [Instr.box, newVar, newRow, this]
theorem x_alloc {elem : TypeId} {ty : TypeId} {z : Value} {cs : List Value} (hst : St G w0 w As) (hz : (P.info? elem).map (·.zero) = some (some z)) (hv : z.cells.toList = cs) :
    ∃ w', (execOp (evD L) (mkO (.alloc elem) ty)).run P w = .ok (.value (.pointer (some ⟨w.heap.size, 0, none⟩))) w' ∧ St G w0 w' (box w.heap.size elem cs :: As) := by
  refine ⟨_, ?_, hst.alloc elem cs⟩
  refine run_v ?_
  show (Instr.alloc elem true (.tuple #[])).run P w = _
  obtain ⟨inf, hi, hzz⟩ := Option.map_eq_some_iff.1 hz
  have : z.cells = cs.toArray := by rw [← hv]
  simp [Instr.alloc, zeroValue, typeInfo, hi, hzz, newVar, newRow, this]
theorem own_new (hst : St G w0 w As) (T : TypeId) (E : Enc α) (l : List α) (cur : Array Value) (hcur : cur.toList = l.flatMap E.enc) (hmax : l.length ≤ maxLen) :
    St G w0 (w.alloc (.cells cur T (0, 0))) (own T E (some ⟨w.heap.size, 0, none⟩) l.length l :: As) := by
  obtain ⟨LL, hc, hs⟩ := hst
  refine ⟨_, ⟨[_], LL, rfl, .inr ⟨w.heap.size, cur, rfl, Nat.le_refl _, hmax, ?_, ?_, rfl⟩, hc⟩, hs.alloc _⟩
  · rw [← Array.length_toList, hcur, flat_len]; exact Nat.le_refl _
  · rw [hcur]; exact List.take_of_length_le (by rw [flat_len]; exact Nat.le_refl _)
/-- make([]T, n). -/
theorem x_make {t : TypeId} {x y : Operand} {ty : TypeId} {z : Value} {bytes : Nat} {n : Int} (hst : St G w0 w As) (ht : P.underlying t = some (.slice T))
    (hinfo : (P.info? T).map (fun i => (i.zero, i.size, i.bytes)) = some (some z, E.sz, bytes)) (hz : z.cells.toList = E.enc E.d)
    (hx : evD L x = .int .i64 n) (hy : evD L y = .int .i64 n) (h0 : 0 ≤ n) (hlim : (bytes : Int) * n ≤ 281474976710656) (hmax : n ≤ 4611686018427387904) :
    ∃ w', (execOp (evD L) (mkO (.makeSlice t x y) ty)).run P w = .ok (.value (.slice (some ⟨w.heap.size, 0, none⟩) (List.replicate n.toNat E.d).length n.toNat)) w' ∧
      St G w0 w' (own T E (some ⟨w.heap.size, 0, none⟩) n.toNat (List.replicate n.toNat E.d) :: As) := by
  obtain ⟨inf, hi, hzz, hsz, hby⟩ := info_parts hinfo
  have hr := run_make (P := P) w t T inf z ht hi hzz .i64 .i64 n n h0 (Int.le_refl _) (by rw [hby]; exact hlim) (by omega)
  refine ⟨_, run_v (by show (Instr.makeSlice t (evD L x) (evD L y)).run P w = _; rw [hx, hy, List.length_replicate]; exact hr), ?_⟩
  have hcs : (madeCells z.cells (n.toNat * inf.size)).toList = (List.replicate n.toNat E.d).flatMap E.enc := by
    have hzl : z.cells.size = E.sz := by rw [← Array.length_toList, hz, E.len]
    apply List.ext_getElem?
    intro j
    by_cases hj : j < n.toNat * E.sz
    · have hdm := Nat.div_add_mod j E.sz
      have hmod := Nat.mod_lt j E.pos
      have hdiv : j / E.sz < n.toNat := Nat.div_lt_of_lt_mul (by rw [Nat.mul_comm]; exact hj)
      have hg : (List.replicate n.toNat E.d)[j / E.sz]? = some E.d := by simp [hdiv]
      have hf := flat_get (E := E) hg hmod
      rw [show j / E.sz * E.sz + j % E.sz = j by rw [Nat.mul_comm]; exact hdm] at hf
      rw [hf, ← hz]
      simp only [madeCells, hsz, hzl, Array.toList_map, Array.toList_range, List.getElem?_map, List.getElem?_range hj, Option.map_some, Array.getElem?_toList]
      rw [Array.getElem?_eq_getElem (by rw [hzl]; exact hmod), getElem!_pos z.cells (j % E.sz) (by rw [hzl]; exact hmod)]
    · rw [List.getElem?_eq_none (by simp [madeCells, hsz]; omega), List.getElem?_eq_none (by rw [flat_len, List.length_replicate]; omega)]
  have := own_new (E := E) hst T (List.replicate n.toNat E.d) _ hcs (by rw [List.length_replicate]; simp only [maxLen]; omega)
  rwa [List.length_replicate] at this
/-- A slice's literal, of the cells that the kernel lays. -/
theorem x_lit {t : TypeId} {len : Nat} {parts : Array (Nat × Operand)} {ty : TypeId} {z : Value} {bytes : Nat} (hst : St G w0 w As) (E : Enc α) (l : List α) {cells : Array Value} (ht : P.underlying t = some (.slice T))
    (hinfo : (P.info? T).map (fun i => (i.zero, i.size, i.bytes)) = some (some z, E.sz, bytes)) (hlen : Nat.ble (len * E.sz) 16777216 = true) (hlen0 : Nat.blt 0 len = true)
    (he : Instr.fill (fun i => some (i * E.sz, E.sz)) ((Array.range (len * E.sz)).map (z.cells[· % z.cells.size]!)) (parts.map fun (i, x) => (i, evD L x)).toList = some cells) (hcur : cells.toList = l.flatMap E.enc) (hl : l.length = len) (hmax : l.length ≤ maxLen) :
    ∃ w', (execOp (evD L) (mkO (.buildSlice t len parts) ty)).run P w = .ok (.value (.slice (some ⟨w.heap.size, 0, none⟩) l.length l.length)) w' ∧ St G w0 w' (own T E (some ⟨w.heap.size, 0, none⟩) l.length l :: As) := by
  obtain ⟨inf, hi, hzz, hsz, hby⟩ := info_parts hinfo
  refine ⟨_, run_v ?_, own_new hst T E l cells hcur hmax⟩
  rw [hl]
  have hlen := Nat.le_of_ble_eq_true hlen
  have hlen0 : 0 < len := by simpa [Nat.blt_eq] using hlen0
  show (Instr.buildSlice t len (parts.map fun (i, x) => (i, evD L x))).run P w = _
  have h24 : ¬ (16777216 < len * E.sz) := by omega
  have h0 : ¬ len * E.sz = 0 := by
    intro h
    have := E.pos
    rcases Nat.mul_eq_zero.1 h with h | h <;> omega
  simp only [Instr.buildSlice, Sem.run_bind, run_underlying ht, Result.andThen_ok, sizeOf, typeInfo, run_program, hi, Sem.run_pure, hsz]
  have he2 := he
  simp only [Array.toList_map] at he2
  simp [h0, h24, he2, newRow, zeroValue, typeInfo, hi, hzz]
/-- An empty one. -/
theorem x_lit0 {t : TypeId} {ty : TypeId} (hst : St G w0 w As) (E : Enc α) (ht : P.underlying t = some (.slice T)) (hs : ((P.info? T).map (·.size)).isSome = true) :
    ∃ w', (execOp (evD L) (mkO (.buildSlice t 0 #[]) ty)).run P w = .ok (.value (.slice (some ⟨w.heap.size, 0, none⟩) ([] : List α).length 0)) w' ∧ St G w0 w' (own T E (some ⟨w.heap.size, 0, none⟩) 0 ([] : List α) :: As) := by
  obtain ⟨sz, hsz⟩ := Option.isSome_iff_exists.1 hs
  obtain ⟨inf, hi, hsz⟩ := Option.map_eq_some_iff.1 hsz
  refine ⟨_, run_v ?_, own_new hst T E [] #[] rfl (Nat.zero_le _)⟩
  show (Instr.buildSlice t 0 (#[].map fun (i, x) => (i, evD L x))).run P w = _
  simp [Instr.buildSlice, run_underlying ht, sizeOf, typeInfo, hi, Instr.fill, newRow, Array.range_zero']
end
end Go.Proofs.Ytheccnbamcdpmaa.E
