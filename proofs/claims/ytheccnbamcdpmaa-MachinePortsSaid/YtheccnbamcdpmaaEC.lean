/- The engine's words, twelfth part: variables that hold slices, pointers that may be nil, cuts of arrays, copies. No condition. -/
import Derived.Test.YtheccnbamcdpmaaEB
namespace Go.Proofs.Ytheccnbamcdpmaa.E
open Go Go.RowKit
/-- A pointer that may be nil. -/
def oM {α : Type} (m : Option Addr → α → Asn) (A : Option Addr) (o : Option α) : Asn := match o with
  | none => fun L => A = none ∧ L = []
  | some x => m A x
section
variable {P : Program} {L : SL} {α : Type} {E : Enc α} {G : List Nat} {w0 w : World} {A : Option Addr} {cap : Nat} {l : List α} {As : List Asn} {T : TypeId} {g : Nat} {cs : List Value} {x : α}
theorem St.oM_none {m : Option Addr → α → Asn} (h : St G w0 w (oM m A none :: As)) : A = none ∧ St G w0 w As := by
  obtain ⟨L, ⟨L1, L2, rfl, ⟨rfl, rfl⟩, hr⟩, hs⟩ := h
  exact ⟨rfl, _, hr, hs⟩
theorem St.oM_nil (m : Option Addr → α → Asn) (h : St G w0 w As) : St G w0 w (oM m none none :: As) := by
  obtain ⟨L, hc, hs⟩ := h
  exact ⟨L, ⟨[], L, rfl, ⟨rfl, rfl⟩, hc⟩, hs⟩
theorem St.one (h : St G w0 w (own T E A 1 [x] :: As)) : ∃ g, A = some ⟨g, 0, none⟩ ∧ St G w0 w (own T E (some ⟨g, 0, none⟩) 1 [x] :: As) := by
  have h' := h
  obtain ⟨L, ⟨L1, L2, rfl, ho, hr⟩, hs⟩ := h
  rcases ho with ⟨_, h0, _⟩ | ⟨g, cur, rfl, _⟩
  · cases h0
  · exact ⟨g, rfl, h'⟩
/-- A variable's cell is loaded. -/
theorem x_bld {t : TypeId} {y : Operand} {ty : TypeId} {p : Addr} {o : Nat} {v : Value} (hst : St G w0 w (box g T cs :: As)) (hx : evD L y = .pointer (some p) := by kernel_rfl) (hp : p = ⟨g, o, none⟩ := by rfl) (hu : (P.underlying t).map (·.isRow) = some false := by kernel_rfl) (hv : cs[o]? = some v := by kernel_rfl) :
    (execOp (evD L) (mkO (.load t y) ty)).run P w = .ok (.value v) w := by
  refine x_load hx hu ?_
  rw [hp]
  have := cell_of_row w g o cs.toArray T (0, 0) hst.heap
  rw [this]
  simpa using hv
/-- A variable's cell, or some, are stored. -/
theorem x_bput {t : TypeId} {y z : Operand} {ty : TypeId} {p : Addr} {o : Nat} {v : Value} {vs : List Value} {aS : Act} {nS : Nat} (_hs : Slots aS nS L) (hst : St G w0 w (box g T cs :: As)) (hx : evD L y = .pointer (some p)) (hp : p = ⟨g, o, none⟩) (hy : evD L z = v) (hv : v.cells.toList = vs)
    (hi : (P.info? t).map (·.size) = some vs.length) (hfit : Nat.ble (o + vs.length) cs.length = true) (h1 : ∀ u ∈ vs, u.oneCell' = true) {cs' : List Value} (hc : cs' = cs.take o ++ vs ++ cs.drop (o + vs.length)) :
    ∃ w', (execOp (evD L) (mkO (.store t y z) ty)).run P w = .ok .skip w' ∧ St G w0 w' (box g T cs' :: As) := by
  subst hp
  have h2 := x_store (P := P) (ty := ty) hx hy hv hi hst.heap (by have := Nat.le_of_ble_eq_true hfit; simpa using this) h1
  refine ⟨_, h2, ?_⟩
  rw [hc]
  exact hst.setRow _
theorem x_boxc {elem : TypeId} {v : Operand} {ty : TypeId} {cs : List Value} {aS : Act} {nS : Nat} (_hs : Slots aS nS L) (hst : St G w0 w As) (hv : (evD L v).cells.toList = cs) :
    ∃ g w', (execOp (evD L) (mkO (.box elem v) ty)).run P w = .ok (.value (.pointer (some ⟨g, 0, none⟩))) w' ∧ St G w0 w' (box g elem cs :: As) := by
  obtain ⟨w', h1, h2⟩ := x_box (P := P) (ty := ty) (elem := elem) hst hv
  exact ⟨_, w', h1, h2⟩
/-! ### arrays' cuts -/
theorem vec_at {k : IntKind} {n o i : Nat} {pre post cs : List Value} {x : Vector Int n} {y : Int} (he : cs = pre ++ x.toList.map (Value.int k) ++ post) (ho : pre.length = o) (hy : x.toList[i]? = some y) : cs[o + i]? = some (.int k y) := by
  subst he ho
  have hi : i < x.toList.length := (List.getElem?_eq_some_iff.1 hy).1
  rw [List.append_assoc, List.getElem?_append_right (by omega), List.getElem?_append_left (by simp; simpa using hi), Nat.add_sub_cancel_left, List.getElem?_map, hy]
  rfl
/-- A cut of an array in a variable. -/
theorem x_vcut {t e : TypeId} {y : Operand} {ty : TypeId} {a p : Addr} {n o : Nat} {k : IntKind} {l h : Int} {lo hi : Option Operand} {x : α} {v : Vector Int n} {pre post : List Value} {aS : Act} {nS : Nat} (_hs : Slots aS nS L) (ht : P.underlying t = some (.array n e)) (hs : (P.info? e).map (·.size) = some 1)
    (hx : evD L y = .pointer (some p)) (hp : p = a.add ((0 : Int).toNat * E.sz + o)) (hlo : (∃ z k', lo = some z ∧ evD L z = .int k' l) ∨ lo = none ∧ l = 0) (hhi : (∃ z k', hi = some z ∧ evD L z = .int k' h) ∨ hi = none ∧ h = (n : Int))
    (h0 : 0 ≤ l) (h1 : l ≤ h) (h2 : h ≤ (n : Int)) (he : E.enc x = pre ++ v.toList.map (Value.int k) ++ post) (ho : pre.length = o) :
    ∃ A' cap', (∀ w, (execOp (evD L) (mkO (.slice t y lo hi none) ty)).run P w = .ok (.value (.slice A' ((v.toList.take h.toNat).drop l.toNat).length cap')) w) ∧
      (∀ w', Rd w' E (some a) 1 [x] → Rd w' (eI k) A' cap' ((v.toList.take h.toNat).drop l.toNat)) ∧ (0 < ((v.toList.take h.toNat).drop l.toNat).length → A' = some (a.add (o + l.toNat))) ∧ l.toNat + ((v.toList.take h.toNat).drop l.toNat).length ≤ n := by
  have hlen : ((v.toList.take h.toNat).drop l.toNat).length = h.toNat - l.toNat := by simp; omega
  refine ⟨some (if n = l.toNat then p else p.add (l.toNat * 1)), n - l.toNat, fun w => ?_, fun w' hr => ?_, fun hlh => ?_, by rw [hlen]; omega⟩
  · refine run_v ?_
    show (Instr.sliceAt t (evD L y) (lo.map (evD L)) (hi.map (evD L)) none).run P w = _
    obtain ⟨inf, hi', hsz⟩ := Option.map_eq_some_iff.1 hs
    rw [hx, hlen]
    have hle : l ≤ ((h.toNat : Nat) : Int) := by omega
    rcases hlo with ⟨z, k1, rfl, hz⟩ | ⟨rfl, rfl⟩ <;> rcases hhi with ⟨z2, k2, rfl, hz2⟩ | ⟨rfl, rfl⟩
    · simp [Instr.sliceAt, run_underlying ht, Instr.sureAddr, Instr.sliceBounds, Instr.sliceBound, asIntOf, hz, hz2, h0, h2, sizeOf, typeInfo, hi', hsz, h1, show (0 : Int) ≤ h by omega, Int.toNat_of_nonneg (show (0 : Int) ≤ h by omega)]
    · simp [Instr.sliceAt, run_underlying ht, Instr.sureAddr, Instr.sliceBounds, Instr.sliceBound, asIntOf, hz, h0, h1, sizeOf, typeInfo, hi', hsz]
    · simp [Instr.sliceAt, run_underlying ht, Instr.sureAddr, Instr.sliceBounds, Instr.sliceBound, asIntOf, hz2, h1, h2, sizeOf, typeInfo, hi']
    · simp [Instr.sliceAt, run_underlying ht, Instr.sureAddr, Instr.sliceBounds, sizeOf, typeInfo, hi']
  · refine ⟨by rw [hlen]; omega, fun i y' hi' => ?_⟩
    have hlt : i < ((v.toList.take h.toNat).drop l.toNat).length := (List.getElem?_eq_some_iff.1 hi').1
    rw [hlen] at hlt
    have hv : v.toList[l.toNat + i]? = some y' := by
      simp only [List.getElem?_drop, List.getElem?_take] at hi'
      split at hi'
      · exact hi'
      · cases hi'
    refine ⟨p.add (l.toNat * 1), by rw [if_neg (by omega)], fun j u hj => ?_⟩
    have hj0 : j = 0 := by
      cases j with
      | zero => rfl
      | succ j => have h' : ([Value.int k y'] : List Value)[j + 1]? = some u := hj; simp at h'
    subst hj0
    have hu : u = .int k y' := by
      have h' : ([Value.int k y'] : List Value)[0]? = some u := hj
      exact (Option.some.inj h').symm
    obtain ⟨b, hb, hc⟩ := hr.2 0 x rfl
    cases hb
    have h3 := hc (o + (l.toNat + i)) _ (vec_at he ho hv)
    rw [hu, hp, add_add', add_add']
    have e1 : (0 : Int).toNat * E.sz + o + l.toNat * 1 + (i * (eI k).sz + 0) = 0 * E.sz + (o + (l.toNat + i)) := by
      show 0 * E.sz + o + l.toNat * 1 + (i * 1 + 0) = _
      omega
    have e2 : (0 : Int).toNat * E.sz + o + (l.toNat * 1 + (i * (eI k).sz + 0)) = 0 * E.sz + (o + (l.toNat + i)) := by
      show 0 * E.sz + o + (l.toNat * 1 + (i * 1 + 0)) = _
      omega
    first
    | (rw [e1]; exact h3)
    | (rw [e2]; exact h3)
    | (rw [add_add', e1]; exact h3)
    | (rw [add_add', e2]; exact h3)
  · rw [hlen] at hlh
    rw [if_neg (by omega), hp, add_add']
    congr 2
    simp
def vcopy {n : Nat} (x : Vector Int n) (lo : Nat) (l : List Int) : Vector Int n := Vector.ofFn fun i => if lo ≤ i.val ∧ i.val < lo + l.length then l.getD (i.val - lo) 0 else vx 0 x i.val
theorem vx_vcopy {n : Nat} {x : Vector Int n} {lo i : Nat} {l : List Int} (hi : i < n) : vx 0 (vcopy x lo l) i = if lo ≤ i ∧ i < lo + l.length then l.getD (i - lo) 0 else vx 0 x i := by
  unfold vcopy
  rw [vx_ofFn hi]
theorem vcopy_cells {n : Nat} {x : Vector Int n} {k : IntKind} {lo : Nat} {l : List Int} (h : lo + l.length ≤ n) : (vcopy x lo l).toList.map (Value.int k) = (x.toList.map (Value.int k)).take lo ++ l.map (Value.int k) ++ (x.toList.map (Value.int k)).drop (lo + l.length) := by
  apply List.ext_getElem?
  intro i
  by_cases hi : i < n
  · rw [vec_range 0, List.getElem?_map, List.getElem?_range hi, Option.map_some, vx_vcopy hi, vec_range 0]
    by_cases h1 : i < lo
    · rw [if_neg (by omega), List.append_assoc, List.getElem?_append_left (by simp; omega), List.getElem?_take, if_pos h1]
      simp [hi]
    · by_cases h2 : i < lo + l.length
      · rw [if_pos ⟨by omega, h2⟩, List.append_assoc, List.getElem?_append_right (by simp; omega), List.getElem?_append_left (by simp; omega)]
        have hm : (List.take lo ((List.range n).map fun j => Value.int k (vx 0 x j))).length = lo := by simp; omega
        rw [hm, List.getElem?_map, List.getElem?_eq_getElem (by omega)]
        simp [List.getD_eq_getElem?_getD, List.getElem?_eq_getElem (show i - lo < l.length by omega)]
      · rw [if_neg (by omega), List.getElem?_append_right (by simp; omega), List.getElem?_drop]
        have hm : (List.take lo ((List.range n).map fun j => Value.int k (vx 0 x j)) ++ l.map (Value.int k)).length = lo + l.length := by simp; omega
        rw [hm, show lo + l.length + (i - (lo + l.length)) = i by omega]
        simp [hi]
  · rw [List.getElem?_eq_none (by simp; omega), List.getElem?_eq_none (by simp; omega)]
def stA (A : Option Addr) (vs : List Value) : Sem Unit := match A with
  | some a => storeCells a vs
  | none => pure ()
/-- copy into a cut of an array in a variable. -/
theorem x_copyv {dT sT e : TypeId} {y z : Operand} {ty : TypeId} {a : Addr} {n o lo len dcap : Nat} {k : IntKind} {x x' : α} {v : Vector Int n} {pre post : List Value} {A' A2 : Option Addr} {c2 : Nat} {l2 : List Int}
    (hst : St G w0 w (own T E (some a) 1 [x] :: As)) (ht : P.underlying dT = some (.slice e)) (hs : (P.info? e).map (·.size) = some 1)
    (hx : evD L y = .slice A' len dcap) (hA : 0 < len → A' = some (a.add (o + lo))) (hfit : lo + len ≤ n) (hz : evD L z = .slice A2 l2.length c2) (hr : Rd w (eI k) A2 c2 l2)
    (he : E.enc x = pre ++ v.toList.map (Value.int k) ++ post) (ho : pre.length = o) (he' : E.enc x' = pre ++ (vcopy v lo (l2.take len)).toList.map (Value.int k) ++ post) :
    ∃ w', (execOp (evD L) (mkO (.call { callee := .builtin .copy, args := #[y, z], argTypes := #[dT, sT] }) ty)).run P w = .ok (.value (.int .i64 ((l2.take len).length : Int))) w' ∧ St G w0 w' (own T E (some a) 1 [x'] :: As) := by
  have hrun : ∀ {u w'}, (Builtin.copy_ #[dT, sT] ty #[.slice A' len dcap, .slice A2 l2.length c2]).run P w = .ok u w' →
      (execOp (evD L) (mkO (.call { callee := .builtin .copy, args := #[y, z], argTypes := #[dT, sT] }) ty)).run P w = .ok (.value u) w' := by
    intro u w' h
    unfold execOp mkO
    simp only [resolve, invoke, builtin, Sem.run_bind, Sem.run_pure, Result.andThen_ok, List.map_toArray, List.map_cons, List.map_nil, hx, hz, h]
  have hmin : Nat.min l2.length len = (l2.take len).length := by rw [List.length_take]; exact Nat.min_comm _ _
  obtain ⟨inf, hi, hsz⟩ := Option.map_eq_some_iff.1 hs
  -- the cells that are copied
  have hcells : (Builtin.firstCells 1 (l2.take len).length (.slice A2 l2.length c2)).run P w = .ok ((l2.take len).map (Value.int k)).toArray w := by
    rcases hr with ⟨_, hrd⟩
    cases hl : l2.take len with
    | nil =>
      cases A2 with
      | none => simp [Builtin.firstCells]
      | some b => simp [Builtin.firstCells, loadCells, loadCellsFrom]
    | cons q qs =>
      have h0 : ∃ b, A2 = some b := by
        cases l2 with
        | nil => simp at hl
        | cons q' r => obtain ⟨b, hb, _⟩ := hrd 0 q' rfl; exact ⟨b, hb⟩
      obtain ⟨b, rfl⟩ := h0
      rw [← hl]
      refine run_firstCells_some w 1 (l2.take len).length b l2.length c2 _ (by simp) fun j u hj => ?_
      rw [List.getElem?_map] at hj
      obtain ⟨z', hz', rfl⟩ := Option.map_eq_some_iff.1 hj
      rw [List.getElem?_take] at hz'
      split at hz'
      · obtain ⟨b', hb', hc'⟩ := hrd j z' hz'
        cases hb'
        have := hc' 0 (.int k z') rfl
        simpa [eI] using this
      · cases hz'
  have hstart : (Builtin.copy_ #[dT, sT] ty #[.slice A' len dcap, .slice A2 l2.length c2]).run P w = ((stA A' ((l2.take len).map (Value.int k))).run P w).andThen fun _ w' => .ok (.int .i64 ((l2.take len).length : Int)) w' := by
    generalize l2.take len = q2 at hmin hcells ⊢
    cases A' with
    | none => simp [Builtin.copy_, run_underlying ht, Builtin.lenOf, hmin, sizeOf, typeInfo, hi, hsz, hcells, goInt, stA]
    | some q => simp [Builtin.copy_, run_underlying ht, Builtin.lenOf, hmin, sizeOf, typeInfo, hi, hsz, hcells, goInt, stA]
  obtain ⟨LL, ⟨L1, L2, rfl, hown, hr'⟩, hs'⟩ := hst
  rcases hown with ⟨h0, _⟩ | ⟨g, cur, hg, h2, h3, h4, h5, rfl⟩
  · cases h0
  · have hg : a = ⟨g, 0, none⟩ := Option.some.inj hg
    subst hg
    have hh : w.heap[g]? = some (.cells cur T (0, 0)) := hs'.here (g, .cells cur T (0, 0)) (by simp)
    obtain ⟨tl, hcur⟩ : ∃ tl, cur.toList = E.enc x ++ tl := by
      have h7 : cur.toList.take (1 * E.sz) = E.enc x := by simpa using h5
      exact ⟨cur.toList.drop (1 * E.sz), by rw [← h7, List.take_append_drop]⟩
    have hlen' : (l2.take len).length ≤ len := by simp; omega
    have hvl : v.toList.length = n := by simp
    have hex : (E.enc x).length = pre.length + n + post.length := by rw [he]; simp; omega
    have hnew : E.enc x' = (E.enc x).take (o + lo) ++ (l2.take len).map (Value.int k) ++ (E.enc x).drop (o + lo + ((l2.take len).map (Value.int k)).length) := by
      rw [he', vcopy_cells (by omega), he]
      subst ho
      have e1 : (pre ++ v.toList.map (Value.int k) ++ post).take (pre.length + lo) = pre ++ (v.toList.map (Value.int k)).take lo := by
        rw [List.append_assoc, List.take_length_add_append, List.take_append_of_le_length (by simp; omega)]
      have e2 : (pre ++ v.toList.map (Value.int k) ++ post).drop (pre.length + lo + ((l2.take len).map (Value.int k)).length) = (v.toList.map (Value.int k)).drop (lo + (l2.take len).length) ++ post := by
        rw [List.append_assoc, Nat.add_assoc, List.drop_length_add_append, List.length_map, List.drop_append_of_le_length (by simp only [List.length_map, hvl]; omega)]
      rw [e1, e2]
      simp only [List.append_assoc]
    have hq : o + lo + ((l2.take len).map (Value.int k)).length ≤ (E.enc x).length := by rw [hex, List.length_map]; omega
    have own' : ∀ cur' : Array Value, cur'.toList = E.enc x' ++ tl → own T E (some ⟨g, 0, none⟩) 1 [x'] [(g, .cells cur' T (0, 0))] := by
      intro cur' hc
      refine .inr ⟨g, cur', rfl, Nat.le_refl _, h3, ?_, ?_, rfl⟩
      · rw [← Array.length_toList, hc, List.length_append, E.len]; omega
      · rw [hc]
        have := E.len x'
        simp only [List.length_singleton, Nat.one_mul, List.flatMap_cons, List.flatMap_nil, List.append_nil]
        rw [List.take_append_of_le_length (by omega)]
        exact List.take_of_length_le (by omega)
    by_cases hl0 : 0 < len
    · obtain rfl := hA hl0
      have hst' := run_storeCells_at P g (o + lo) T ((l2.take len).map (Value.int k)) 0 cur w hh (by rw [← Array.length_toList, hcur, List.length_append, hex]; simp only [List.length_map]; omega) (fun u hu => by
        obtain ⟨q, _, rfl⟩ := List.mem_map.1 hu; rfl)
      simp only [Nat.add_zero] at hst'
      refine ⟨w.setRow g (cur.toList.take (o + lo) ++ (l2.take len).map (Value.int k) ++ cur.toList.drop (o + lo + ((l2.take len).map (Value.int k)).length)).toArray, hrun ?_, ?_⟩
      · rw [hstart]
        simp only [stA, add_zero_addr, hst', Result.andThen]
      · exact ⟨_, ⟨[_], L2, rfl, own' _ (by show _ ++ _ ++ _ = _; rw [hnew, hcur, List.take_append_of_le_length (by omega), List.drop_append_of_le_length (by omega)]; simp only [List.append_assoc]), hr'⟩, hs'.setRow⟩
    · have hl1 : l2.take len = [] := by
        have : len = 0 := by omega
        subst this; rfl
      have hsame : E.enc x' = E.enc x := by rw [hnew, hl1]; simp
      refine ⟨w, hrun ?_, ⟨_, ⟨[_], L2, rfl, own' cur (by rw [hcur, hsame]), hr'⟩, hs'⟩⟩
      rw [hstart, hl1]
      cases A' with
      | none => simp [stA, Result.andThen]
      | some q => simp [stA, storeCells, Result.andThen]
theorem x_copyv0 {dT sT e : TypeId} {y z : Operand} {ty : TypeId} {a : Addr} {n lo len dcap : Nat} {k : IntKind} {x x' : α} {v : Vector Int n} {post : List Value} {A' A2 : Option Addr} {c2 : Nat} {l2 : List Int}
    {aS : Act} {nS : Nat} (_hs : Slots aS nS L) (hst : St G w0 w (own T E (some a) 1 [x] :: As)) (ht : P.underlying dT = some (.slice e)) (hs : (P.info? e).map (·.size) = some 1)
    (hx : evD L y = .slice A' len dcap) (hA : 0 < len → A' = some (a.add (0 + lo))) (hfit : lo + len ≤ n) (hz : evD L z = .slice A2 l2.length c2) (hr : Rd w (eI k) A2 c2 l2)
    (he : E.enc x = v.toList.map (Value.int k) ++ post) (he' : E.enc x' = (vcopy v lo (l2.take len)).toList.map (Value.int k) ++ post) :
    ∃ w', (execOp (evD L) (mkO (.call { callee := .builtin .copy, args := #[y, z], argTypes := #[dT, sT] }) ty)).run P w = .ok (.value (.int .i64 ((l2.take len).length : Int))) w' ∧ St G w0 w' (own T E (some a) 1 [x'] :: As) :=
  x_copyv (pre := []) hst ht hs hx hA hfit hz hr he rfl he'
end
end Go.Proofs.Ytheccnbamcdpmaa.E
