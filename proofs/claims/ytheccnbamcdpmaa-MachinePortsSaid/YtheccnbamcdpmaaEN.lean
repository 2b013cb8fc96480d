/- The engine's words, twenty-third part: so many noughts appended to an own row. No condition. -/
import Derived.Test.YtheccnbamcdpmaaEM
namespace Go.Proofs.Ytheccnbamcdpmaa.E
set_option linter.unusedVariables false
set_option linter.unusedSimpArgs false
open Go Go.RowKit
section
variable {P : Program} {L : SL} {G : List Nat} {w0 w : World} {As : List Asn} {T : TypeId} {α : Type} {E : Enc α} {A : Option Addr} {cap : Nat} {l : List α}
theorem zero_cells {z : Value} (hz : z.cells.toList = E.enc E.d) (n : Nat) : (Builtin.zeroCells z.cells n).toList = (List.replicate n E.d).flatMap E.enc := by
  have hzl : z.cells.size = E.sz := by rw [← Array.length_toList, hz, E.len]
  apply List.ext_getElem?
  intro j
  by_cases hj : j < n * E.sz
  · have hdm := Nat.div_add_mod j E.sz
    have hmod := Nat.mod_lt j E.pos
    have hdiv : j / E.sz < n := Nat.div_lt_of_lt_mul (by rw [Nat.mul_comm]; exact hj)
    have hg : (List.replicate n E.d)[j / E.sz]? = some E.d := by simp [hdiv]
    have hf := flat_get (E := E) hg hmod
    rw [show j / E.sz * E.sz + j % E.sz = j by rw [Nat.mul_comm]; exact hdm] at hf
    rw [hf, ← hz]
    simp only [Builtin.zeroCells, hzl, Array.toList_map, Array.toList_range, List.getElem?_map, List.getElem?_range hj, Option.map_some, Array.getElem?_toList]
    rw [Array.getElem?_eq_getElem (by rw [hzl]; exact hmod), getElem!_pos z.cells (j % E.sz) (by rw [hzl]; exact hmod)]
  · rw [List.getElem?_eq_none (by simp [Builtin.zeroCells, hzl]; omega), List.getElem?_eq_none (by rw [flat_len, List.length_replicate]; omega)]
theorem appendz_room {t tx ty : TypeId} {i : TypeInfo} {n : Int} {b off sLen sCap : Nat} {zs : List Value} (ht : P.underlying t = some (.slice T)) (hk : P.underlying tx = some (.int .i64)) (hi : P.info? T = some i) {z : Value} (hz : i.zero = some z) (h0 : 0 ≤ n) (hn : n ≤ 4611686018427387904) (hlim : n * i.bytes ≤ 281474976710656)
    (hzs : (Builtin.zeroCells z.cells n.toNat).toList = zs) (hz0 : n.toNat * i.size = 0 → zs = []) (hroom : sLen + n.toNat ≤ sCap) (hc : ∀ j, j < zs.length → (w.cell? ⟨b, off + sLen * i.size + j, none⟩).isSome = true) (hf : ∀ j, j < zs.length → w.frozen? ⟨b, off + sLen * i.size + j, none⟩ = false) (h1 : ∀ u ∈ zs, u.oneCell' = true) :
    (Builtin.append_ #[t, tx] ty #[.slice (some ⟨b, off, none⟩) sLen sCap, .int .i64 n]).run P w = .ok (.slice (some ⟨b, off, none⟩) (sLen + n.toNat) sCap) (w.setCells b (off + sLen * i.size) zs) := by
  have hst := run_storeCells_cells (P := P) b (off + sLen * i.size) zs 0 w (by simpa using hc) (by simpa using hf) h1
  simp only [Nat.add_zero] at hst
  have hw : IntKind.i64.wrap n = n := by rw [IntKind.wrap_i64]; omega
  have hn0 : ¬ n < 0 := by omega
  have hl : ¬ (281474976710656 < n * i.bytes) := by omega
  by_cases h : n.toNat * i.size = 0
  · have := hz0 h
    subst this
    simp [Builtin.append_, run_underlying ht, run_underlying hk, sizeOf, typeInfo, zeroValue, asInt, asIntOf, hi, hz, hw, hn0, hl, h, hroom, Addr.add_lit, hst]
  · have e : Builtin.zeroCells z.cells n.toNat = zs.toArray := by rw [← hzs]
    simp [Builtin.append_, run_underlying ht, run_underlying hk, sizeOf, typeInfo, zeroValue, asInt, asIntOf, hi, hz, hw, hn0, hl, h, hroom, Addr.add_lit, e, hst]
theorem appendz_grow {t tx ty : TypeId} {i : TypeInfo} {n : Int} {base : Option Addr} {sLen sCap : Nat} {zs olds : List Value} (ht : P.underlying t = some (.slice T)) (hk : P.underlying tx = some (.int .i64)) (hi : P.info? T = some i) {z : Value} (hz : i.zero = some z) (h0 : 0 ≤ n) (hn : n ≤ 4611686018427387904) (hlim : n * i.bytes ≤ 281474976710656)
    (hold : (Builtin.firstCells i.size sLen (.slice base sLen sCap)).run P w.drew = .ok olds.toArray w.drew)
    (hzs : (Builtin.zeroCells z.cells n.toNat).toList = zs) (hz0 : n.toNat * i.size = 0 → zs = []) (hg : sCap < sLen + n.toNat) (h63 : ((sLen + n.toNat : Nat) : Int) ≤ 9223372036854775807) (hfit : Builtin.nextslicecap (sLen + n.toNat) sCap * i.bytes ≤ 281474976710656) :
    (Builtin.append_ #[t, tx] ty #[.slice base sLen sCap, .int .i64 n]).run P w = .ok (.slice (some ⟨w.heap.size, 0, none⟩) (sLen + n.toNat) (grownCap w (sLen + n.toNat) sCap T))
      (w.drew.alloc (.cells ((olds ++ zs).toArray ++ Builtin.zeroCells z.cells (grownCap w (sLen + n.toNat) sCap T - (sLen + n.toNat))) T)) := by
  have hw : IntKind.i64.wrap n = n := by rw [IntKind.wrap_i64]; omega
  have hn0 : ¬ n < 0 := by omega
  have hl : ¬ (281474976710656 < n * i.bytes) := by omega
  have hroom : ¬ (sLen + n.toNat ≤ sCap) := by omega
  have h63' : ¬ (9223372036854775807 < ((sLen : Int) + max n 0)) := by omega
  have h48' : ¬ (281474976710656 < Builtin.nextslicecap (sLen + n.toNat) sCap * i.bytes) := by omega
  by_cases h : n.toNat * i.size = 0
  · have := hz0 h
    subst this
    simp [Builtin.append_, run_underlying ht, run_underlying hk, sizeOf, typeInfo, zeroValue, asInt, asIntOf, hi, hz, hw, hn0, hl, h, hroom, h63', h48', Question.forced, hold, newRow, grownCap]
  · have e : Builtin.zeroCells z.cells n.toNat = zs.toArray := by rw [← hzs]
    simp [Builtin.append_, run_underlying ht, run_underlying hk, sizeOf, typeInfo, zeroValue, asInt, asIntOf, hi, hz, hw, hn0, hl, h, hroom, h63', h48', Question.forced, hold, newRow, grownCap, e]
    congr 2
    apply Array.ext'
    simp [List.append_assoc]
/-- So many noughts onto an own row (or nil). -/
theorem x_appendz {t tx : TypeId} {x y : Operand} {ty : TypeId} {z : Value} {bytes : Nat} {n : Int} {aS : Act} {nS : Nat} (_hs : Slots aS nS L) (hst : St G w0 w (own T E A cap l :: As))
    (ht : P.underlying t = some (.slice T)) (hk : P.underlying tx = some (.int .i64)) (hinfo : (P.info? T).map (fun i => (i.zero, i.size, i.bytes)) = some (some z, E.sz, bytes)) (hz : z.cells.toList = E.enc E.d)
    (hx : evD L x = .slice A l.length cap) (hy : evD L y = .int .i64 n) (h0 : 0 ≤ n) (hlim0 : n * (bytes : Int) ≤ 281474976710656)
    (hlim : (l.length + n.toNat) * bytes ≤ 140737488355328) (hmax : l.length + n.toNat ≤ 4611686018427387904) :
    ∃ A' cap' w', (execOp (evD L) (mkO (.call { callee := .builtin .append, args := #[x, y], argTypes := #[t, tx] }) ty)).run P w = .ok (.value (.slice A' (l ++ List.replicate n.toNat E.d).length cap')) w' ∧ St G w0 w' (own T E A' cap' (l ++ List.replicate n.toNat E.d) :: As) := by
  obtain ⟨inf, hi, hzz, hsz, hby⟩ := info_parts hinfo
  obtain ⟨LL, ⟨L1, L2, rfl, ho, hr⟩, hs⟩ := hst
  have hrun : ∀ {v w'}, (Builtin.append_ #[t, tx] ty #[.slice A l.length cap, .int .i64 n]).run P w = .ok v w' →
      (execOp (evD L) (mkO (.call { callee := .builtin .append, args := #[x, y], argTypes := #[t, tx] }) ty)).run P w = .ok (.value v) w' := by
    intro v w' h
    unfold execOp mkO
    simp only [resolve, invoke, builtin, Sem.run_bind, Sem.run_pure, Result.andThen_ok, List.map_toArray, List.map_cons, List.map_nil, hx, hy, h]
  have hzs := zero_cells (E := E) hz n.toNat
  have hz0 : n.toNat * inf.size = 0 → (List.replicate n.toNat E.d).flatMap E.enc = [] := fun h => by
    have : n.toNat = 0 := by
      rcases Nat.mul_eq_zero.1 h with h | h
      · exact h
      · have := E.pos; omega
    simp [this]
  have hzc : z.cells.size = E.sz := by rw [← Array.length_toList, hz, E.len]
  generalize hl2 : List.replicate n.toNat E.d = l2 at *
  have hn2 : l2.length = n.toNat := by rw [← hl2, List.length_replicate]
  have hlen2 := flat_len (E := E) l2
  have hlen : (l ++ l2).length = l.length + n.toNat := by rw [List.length_append, hn2]
  by_cases hroom : l.length + n.toNat ≤ cap
  · rcases ho with ⟨rfl, rfl, rfl, rfl⟩ | ⟨g, cur, rfl, h2, h3, h4, h5, rfl⟩
    · -- nil, and nothing to append
      have h00 : n.toNat = 0 := by simpa using hroom
      have h0' : l2 = [] := List.eq_nil_of_length_eq_zero (by omega)
      subst h0'
      have e0 : n = 0 := by omega
      subst e0
      refine ⟨none, 0, w, hrun ?_, L2, ⟨[], L2, rfl, .inl ⟨rfl, rfl, rfl, rfl⟩, hr⟩, hs⟩
      simp [Builtin.append_, run_underlying ht, run_underlying hk, sizeOf, typeInfo, asInt, asIntOf, hi, IntKind.wrap_i64]
    · have hh : w.heap[g]? = some (.cells cur T (0, 0)) := hs.here (g, .cells cur T (0, 0)) (by simp)
      have hmul : (l.length + n.toNat) * E.sz ≤ cap * E.sz := Nat.mul_le_mul_right _ hroom
      rw [Nat.add_mul] at hmul
      rw [hn2] at hlen2
      have hst := run_storeCells_at P g (l.length * inf.size) T (l2.flatMap E.enc) 0 cur w hh (by rw [hsz]; simp only [Nat.add_zero]; omega) (flat_one l2)
      simp only [Nat.add_zero] at hst
      have hw : IntKind.i64.wrap n = n := by rw [IntKind.wrap_i64]; omega
      have hn0 : ¬ n < 0 := by omega
      have hl : ¬ (281474976710656 < n * inf.bytes) := by rw [hby]; omega
      refine ⟨some ⟨g, 0, none⟩, cap, w.setRow g (cur.toList.take (l.length * inf.size) ++ (l2.flatMap E.enc) ++ cur.toList.drop (l.length * inf.size + (l2.flatMap E.enc).length)).toArray, hrun ?_, ?_⟩
      · rw [hlen]
        by_cases h : n.toNat * inf.size = 0
        · have e2 := hz0 h
          rw [e2] at hst ⊢
          simp [Builtin.append_, run_underlying ht, run_underlying hk, sizeOf, typeInfo, zeroValue, asInt, asIntOf, hi, hzz, hw, hn0, hl, h, hroom, Addr.add_lit]
          simp at hst
          simp [hst]
        · have e : Builtin.zeroCells z.cells n.toNat = (l2.flatMap E.enc).toArray := by rw [← hzs]
          simp [Builtin.append_, run_underlying ht, run_underlying hk, sizeOf, typeInfo, zeroValue, asInt, asIntOf, hi, hzz, hw, hn0, hl, h, hroom, Addr.add_lit, e, hst]
      · refine ⟨_, ⟨[_], L2, rfl, .inr ⟨g, _, rfl, by omega, h3, ?_, ?_, rfl⟩, hr⟩, hs.setRow⟩
        · simp only [List.size_toArray, List.length_append, List.length_take, List.length_drop, Array.length_toList, hsz]; omega
        · rw [hlen, Nat.add_mul, List.flatMap_append, ← h5, hsz]
          simp only
          rw [List.take_append_of_le_length (by simp only [List.length_append, List.length_take, Array.length_toList]; omega)]
          exact List.take_of_length_le (by simp only [List.length_append, List.length_take, Array.length_toList]; omega)
  · -- a new row
    have hg : cap < l.length + n.toNat := by omega
    have hold : (Builtin.firstCells inf.size l.length (.slice A l.length cap)).run P w.drew = .ok (l.flatMap E.enc).toArray w.drew := by
      rcases ho with ⟨rfl, rfl, rfl, rfl⟩ | ⟨g, cur, rfl, h2, h3, h4, h5, rfl⟩
      · simp [Builtin.firstCells]
      · have hh : w.heap[g]? = some (.cells cur T (0, 0)) := hs.here (g, .cells cur T (0, 0)) (by simp)
        refine run_firstCells_some w.drew inf.size l.length _ _ _ _ (by rw [hsz]; exact flat_len l) fun j u hj => ?_
        show w.cell? _ = _
        rw [add_zero_addr, cell_of_row w g j cur T (0, 0) hh]
        have := take_get h5 hj
        simpa using this
    have hgrow := appendz_grow (P := P) (w := w) (ty := ty) (n := n) ht hk hi hzz h0 (by omega) (by rw [hby]; exact hlim0) hold hzs hz0 hg (by omega) (growslice_fits hg (by rw [hby]; exact hlim))
    have hge := grownCap_ge w (l.length + n.toNat) cap T
    have hcm : grownCap w (l.length + n.toNat) cap T ≤ maxLen := grownCap_le_maxLen w _ cap T (by simp only [maxLen]; omega)
    rw [hn2] at hlen2
    refine ⟨some ⟨w.heap.size, 0, none⟩, grownCap w (l.length + n.toNat) cap T, _, hrun (by rw [hlen]; exact hgrow), ?_⟩
    have hdrew : StB G w0 w.drew (L1 ++ L2) := hs.same rfl rfl rfl (Nat.le_refl _) fun _ _ => rfl
    have hal := (hdrew.sub (List.sublist_append_right L1 L2)).alloc (.cells ((l.flatMap E.enc ++ l2.flatMap E.enc).toArray ++ Builtin.zeroCells z.cells (grownCap w (l.length + n.toNat) cap T - (l.length + n.toNat))) T)
    refine ⟨_, ⟨[_], L2, rfl, .inr ⟨w.heap.size, _, rfl, by omega, hcm, ?_, ?_, rfl⟩, hr⟩, hal⟩
    · have hfl := flat_len (E := E) l
      simp only [Array.size_append, List.size_toArray, List.length_append, size_zeroCells, hzc, hlen2, hfl, ← Nat.add_mul]
      exact Nat.mul_le_mul_right _ (by omega)
    · rw [hlen, List.flatMap_append]
      have hfl := flat_len (E := E) l
      simp only [Array.toList_append]
      rw [List.take_append_of_le_length (by simp only [List.length_append, Nat.add_mul]; omega)]
      exact List.take_of_length_le (by simp only [List.length_append, Nat.add_mul]; omega)
end
end Go.Proofs.Ytheccnbamcdpmaa.E
