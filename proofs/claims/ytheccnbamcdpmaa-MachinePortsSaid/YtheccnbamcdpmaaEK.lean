/- The engine's words, twentieth part: bytes as a string, a string copied into a row, a variable with a great array as a whole. No condition. -/
import Derived.Test.YtheccnbamcdpmaaEJ
import Derived.Laws.BytesArg
import Derived.Laws.CopyRow
namespace Go.Proofs.Ytheccnbamcdpmaa.E
set_option linter.unusedVariables false
set_option linter.unusedSimpArgs false
open Go Go.RowKit Go.Proofs.YtheccnbamcdpmaaW.PrintLast
section
variable {P : Program} {w w0 w' : World} {G : List Nat} {As : List Asn} {L : SL} {α : Type} {E : Enc α} {A : Option Addr} {cap : Nat} {T : TypeId}
/-- string(b). -/
theorem x_conv {src dst e : TypeId} {x : Operand} {ty : TypeId} {l : List Int} (hq : Rd w (eI .u8) A cap l) (hs : P.underlying src = some (.slice e)) (he : P.underlying e = some (.int .u8)) (hd : P.underlying dst = some .string)
    (hx : evD L x = .slice A l.length cap) : (execOp (evD L) (mkO (.convert src dst x) ty)).run P w = .ok (.value (.string (strOfNums l))) w := by
  refine run_v ?_
  show (convert src dst (evD L x)).run P w = _
  rw [hx]
  cases A with
  | none =>
    have hl : l = [] := by
      cases l with
      | nil => rfl
      | cons q r => obtain ⟨b, hb, _⟩ := hq.2 0 q rfl; cases hb
    subst hl
    rw [run_convert_bytes_nil w src e hs he _ _ dst hd]
    rfl
  | some a =>
    have hl : (loadCells a l.length).run P w = .ok (l.map (Value.int .u8)).toArray w := by
      have := run_loadCells_list (P := P) w a (l.map (Value.int .u8)) (fun j v hj => by
        rw [List.getElem?_map] at hj
        obtain ⟨z, hz, rfl⟩ := Option.map_eq_some_iff.1 hj
        obtain ⟨b, hb, hc⟩ := hq.2 j z hz
        cases hb
        have := hc 0 (.int .u8 z) rfl
        simpa [eI] using this)
      simpa using this
    rw [run_convert_bytes_string w src dst e _ l.length cap hs he hd, run_bytesToString w _ l.length cap l hl, foldl_push_bytes]
    simp [strOfNums, ByteArray.empty, ByteArray.emptyWithCapacity]
    rfl
/-- xs[lo:], with where it lies. -/
theorem c_loA {l : List α} {t : TypeId} {x y : Operand} {ty : TypeId} {k : IntKind} {h : Int} {aS : Act} {nS : Nat} (_hs : Slots aS nS L) (ht : P.underlying t = some (.slice T)) (hs : (P.info? T).map (·.size) = some E.sz) (hq : Rd w E A cap l)
    (hx : evD L x = .slice A l.length cap) (hy : evD L y = .int k h) (h0 : 0 ≤ h) (h1 : h ≤ (l.length : Int)) :
    ∃ A' cap', A' = cutA A cap h.toNat E.sz ∧ (execOp (evD L) (mkO (.slice t x (some y) none none) ty)).run P w = .ok (.value (.slice A' (l.drop h.toNat).length cap')) w ∧ ∀ w', Rd w' E A cap l → Rd w' E A' cap' (l.drop h.toNat) :=
  ⟨_, _, rfl, x_lo ht hs hx hy h0 (by have := hq.1; omega), fun _ hq' => hq'.lo _⟩
/-- What copy(xs[lo:], bs) makes of xs. -/
def lput (l : List Int) (lo : Nat) (bs : List Int) : List Int := l.take lo ++ (bs.take (l.length - lo) ++ l.drop (lo + bs.length))
theorem lput_length (l : List Int) (lo : Nat) (bs : List Int) : (lput l lo bs).length = max l.length (min l.length lo) := by
  unfold lput
  simp only [List.length_append, List.length_take, List.length_drop]
  omega
theorem lput_len {l : List Int} {lo : Nat} {bs : List Int} : (lput l lo bs).length = l.length := by
  rw [lput_length]; omega
theorem bytesL_length (s : ByteArray) : (bytesL s).length = s.size := by unfold bytesL; rw [List.length_map, Array.length_toList]; rfl
theorem bytesL_cells (s : ByteArray) (n : Nat) : ((s.extract 0 n).data.map fun b => (Value.int .u8 b.toNat)).toList = ((bytesL s).take n).map (Value.int .u8) := by
  unfold bytesL
  rw [Array.toList_map, List.map_take, List.map_map]
  have : (s.extract 0 n).data.toList = s.data.toList.take n := by
    rw [ByteArray.data_extract, Array.toList_extract]
    simp [List.extract_eq_take_drop]
  rw [this, List.map_take]
  rfl
theorem flat_u8 : ∀ r : List Int, r.flatMap (eI .u8).enc = r.map (Value.int .u8)
  | [] => rfl
  | a :: r => by rw [List.flatMap_cons, flat_u8 r]; rfl
/-- copy(xs[lo:], s) into a row of the call's own. -/
theorem x_copys {dT sT e : TypeId} {y z : Operand} {ty : TypeId} {l : List Int} {lo dcap : Nat} {s : ByteArray} {A' : Option Addr} {aS : Act} {nS : Nat} (_hs : Slots aS nS L)
    (hst : St G w0 w (own T (eI .u8) A cap l :: As)) (ht : P.underlying dT = some (.slice e)) (hs : (P.info? e).map (·.size) = some 1)
    (hx : evD L y = .slice A' (l.drop lo).length dcap) (hA : A' = cutA A cap lo (eI .u8).sz) (hlo : lo ≤ l.length) (hz : evD L z = .string s) :
    ∃ w', (execOp (evD L) (mkO (.call { callee := .builtin .copy, args := #[y, z], argTypes := #[dT, sT] }) ty)).run P w = .ok (.value (.int .i64 (((bytesL s).take (l.length - lo)).length : Int))) w' ∧ St G w0 w' (own T (eI .u8) A cap (lput l lo (bytesL s)) :: As) := by
  have hrun : ∀ {u w'}, (Builtin.copy_ #[dT, sT] ty #[.slice A' (l.drop lo).length dcap, .string s]).run P w = .ok u w' →
      (execOp (evD L) (mkO (.call { callee := .builtin .copy, args := #[y, z], argTypes := #[dT, sT] }) ty)).run P w = .ok (.value u) w' := by
    intro u w' h
    unfold execOp mkO
    simp only [resolve, invoke, builtin, Sem.run_bind, Sem.run_pure, Result.andThen_ok, List.map_toArray, List.map_cons, List.map_nil, hx, hz, h]
  obtain ⟨inf, hi, hsz⟩ := Option.map_eq_some_iff.1 hs
  have hmin : Nat.min s.size (l.drop lo).length = ((bytesL s).take (l.length - lo)).length := by
    rw [List.length_take, bytesL_length, List.length_drop]; exact Nat.min_comm _ _
  generalize hq : (bytesL s).take (l.length - lo) = q at *
  have hql : q.length ≤ l.length - lo := by rw [← hq, List.length_take]; omega
  have hcells : ((s.extract 0 q.length).data.map fun b => (Value.int .u8 b.toNat)).toList = q.map (Value.int .u8) := by
    rw [bytesL_cells, ← hq, List.length_take]
    congr 1
    rw [List.take_eq_take_iff]
    omega
  have hstart0 : ∀ len, Nat.min s.size len = q.length → (Builtin.copy_ #[dT, sT] ty #[.slice A' len dcap, .string s]).run P w = ((stA A' ((s.extract 0 q.length).data.map fun b => (Value.int .u8 b.toNat)).toList).run P w).andThen fun _ w' => .ok (.int .i64 (q.length : Int)) w' := by
    intro len hm
    generalize q.length = n at hm
    subst hm
    cases A' with
    | none => simp only [Builtin.copy_, run_underlying ht, Builtin.lenOf, sizeOf, typeInfo, Builtin.firstCells, goInt, stA, Sem.run_bind, Sem.run_pure, Result.andThen_ok, List.getElem?_toArray, List.getElem?_cons_zero, List.getElem?_cons_succ]; simp [hi, hsz, Result.andThen]
    | some q => simp only [Builtin.copy_, run_underlying ht, Builtin.lenOf, sizeOf, typeInfo, Builtin.firstCells, goInt, stA, Sem.run_bind, Sem.run_pure, Result.andThen_ok, List.getElem?_toArray, List.getElem?_cons_zero, List.getElem?_cons_succ]; simp [hi, hsz, Result.andThen]
  have hstart : (Builtin.copy_ #[dT, sT] ty #[.slice A' (l.drop lo).length dcap, .string s]).run P w = ((stA A' (q.map (Value.int .u8))).run P w).andThen fun _ w' => .ok (.int .i64 (q.length : Int)) w' := by
    rw [hstart0 _ hmin, hcells]
  obtain ⟨LL, ⟨L1, L2, rfl, hown, hr'⟩, hs'⟩ := hst
  rcases hown with ⟨rfl, rfl, rfl, rfl⟩ | ⟨g, cur, hg, h2, h3, h4, h5, rfl⟩
  · have hA0 : A' = none := by rw [hA]; unfold cutA; split <;> rfl
    have hq0 : q = [] := List.eq_nil_of_length_eq_zero (by simp at hql; exact hql ▸ rfl)
    subst hq0
    refine ⟨w, hrun ?_, ⟨_, ⟨[], L2, rfl, .inl ⟨rfl, rfl, ?_, rfl⟩, hr'⟩, hs'⟩⟩
    · rw [hstart, hA0]
      simp [stA, Result.andThen]
    · unfold lput
      simp
  · subst hg
    have hh : w.heap[g]? = some (.cells cur T (0, 0)) := hs'.here (g, .cells cur T (0, 0)) (by simp)
    have hsz1 : (eI .u8).sz = 1 := rfl
    rw [hsz1, Nat.mul_one] at h4 h5
    have hfl := flat_u8 l
    have hfl' := flat_u8
    rw [hfl] at h5
    have hcl : cap ≤ cur.toList.length := by rw [Array.length_toList]; exact h4
    have hput : lput l lo (bytesL s) = l.take lo ++ (q ++ l.drop (lo + q.length)) := by
      unfold lput
      rw [hq]
      congr 2
      by_cases hb : (bytesL s).length ≤ l.length - lo
      · rw [← hq, List.take_of_length_le hb]
      · rw [List.drop_eq_nil_of_le (by omega), List.drop_eq_nil_of_le]
        rw [← hq, List.length_take]; omega
    by_cases hq0 : q = []
    · have hsame : lput l lo (bytesL s) = l := by rw [hput, hq0]; simp
      rw [hsame]
      refine ⟨w, hrun ?_, ⟨_, ⟨[_], L2, rfl, .inr ⟨g, cur, rfl, h2, h3, by rw [hsz1, Nat.mul_one]; exact h4, by rw [hsz1, Nat.mul_one, hfl' l]; exact h5, rfl⟩, hr'⟩, hs'⟩⟩
      rw [hstart, hq0]
      cases A' with
      | none => simp [stA, Result.andThen]
      | some q => simp [stA, storeCells, Result.andThen]
    · have hql0 : 0 < q.length := by cases q with | nil => exact absurd rfl hq0 | cons a r => simp
      have hAs : A' = some ⟨g, lo, none⟩ := by
        rw [hA]
        unfold cutA
        rw [if_neg (by omega), hsz1, Nat.mul_one]
        exact congrArg some (add_zero_addr g lo)
      subst hAs
      have hst' := run_storeCells_at P g lo T (q.map (Value.int .u8)) 0 cur w hh (by simp only [List.length_map]; omega) (fun u hu => by
        obtain ⟨q, _, rfl⟩ := List.mem_map.1 hu; rfl)
      simp only [Nat.add_zero, List.length_map] at hst'
      refine ⟨w.setRow g (cur.toList.take lo ++ q.map (Value.int .u8) ++ cur.toList.drop (lo + q.length)).toArray, hrun ?_, ?_⟩
      · rw [hstart]
        simp only [stA, hst', Result.andThen]
      · refine ⟨_, ⟨[_], L2, rfl, .inr ⟨g, _, rfl, by rw [lput_len]; exact h2, h3, ?_, ?_, rfl⟩, hr'⟩, hs'.setRow⟩
        · simp only [List.size_toArray, List.length_append, List.length_take, List.length_drop, List.length_map, hsz1]
          omega
        · rw [lput_len, hsz1, Nat.mul_one, hfl', hput]
          simp only [List.map_append, List.map_take, List.map_drop]
          rw [← h5]
          have g1 : (cur.toList.take l.length).take lo = cur.toList.take lo := by rw [List.take_take, Nat.min_eq_left hlo]
          have g2 : (cur.toList.take l.length).drop (lo + q.length) = (cur.toList.drop (lo + q.length)).take (l.length - (lo + q.length)) := List.drop_take ..
          rw [g1, g2]
          show (cur.toList.take lo ++ q.map (Value.int .u8) ++ cur.toList.drop (lo + q.length)).take l.length = _
          have t1 : (cur.toList.take lo).length = lo := by rw [List.length_take]; omega
          have t2 : (q.map (Value.int .u8)).length = q.length := List.length_map ..
          rw [List.append_assoc, List.take_append, List.take_of_length_le (l := cur.toList.take lo) (by omega), t1, List.take_append, List.take_of_length_le (l := q.map (Value.int .u8)) (by omega), t2]
          congr 3
          omega
/-- A variable with a great array, loaded as a whole. -/
theorem x_ldw {t : TypeId} {x : Operand} {ty : TypeId} {a p : Addr} {e : α} (hq : Rd w E (some a) 1 [e]) (hx : evD L x = .pointer (some p)) (hp : p = a) (hu : (P.underlying t).map (·.isRow) = some true) (hi : (P.info? t).map (·.size) = some E.sz) :
    (execOp (evD L) (mkO (.load t x) ty)).run P w = .ok (.value (.agg (E.enc e).toArray)) w := by
  refine x_lds (i := 0) (off := 0) hq ⟨Int.le_refl 0, by simp⟩ ?_ hx hu ?_ ?_
  · rw [hp]; exact one_at _ _
  · rw [E.len]; exact hi
  · show ((E.enc (ix E.d [e] 0)).drop 0).take _ = _
    rw [List.drop_zero]
    show (E.enc e).take _ = _
    exact List.take_of_length_le (Nat.le_refl _)
/-- .. and stored. -/
theorem x_putw {t : TypeId} {x y : Operand} {ty : TypeId} {a p : Addr} {e e' : α} {aS : Act} {nS : Nat} (hs : Slots aS nS L) (hst : St G w0 w (own T E (some a) 1 [e] :: As)) (hx : evD L x = .pointer (some p)) (hp : p = a) (hy : evD L y = .agg (E.enc e').toArray) (hi : (P.info? t).map (·.size) = some E.sz) :
    ∃ w', (execOp (evD L) (mkO (.store t x y) ty)).run P w = .ok .skip w' ∧ St G w0 w' (own T E (some a) 1 [e'] :: As) := by
  have := x_put (P := P) (ty := ty) (t := t) (x := x) (y := y) (off := 0) (p := p) (v := .agg (E.enc e').toArray) (vs := E.enc e') (i := 0) (e' := e') hs hst rfl (Int.le_refl 0) (by simp) hx (by rw [hp]; exact one_at _ _) hy rfl (by rw [E.len]; exact hi) (by rw [E.len]; omega) (fun u hu => E.one e' u hu) (by
    have h1 := E.len e'
    have h2 := E.len (ix E.d [e] 0)
    rw [List.take_zero, List.nil_append, List.drop_eq_nil_of_le (by omega), List.append_nil])
  exact this
end
end Go.Proofs.Ytheccnbamcdpmaa.E
