/- The engine's words, thirteenth part: results that lie in memory. No condition. -/
import Derived.Test.YtheccnbamcdpmaaEC
namespace Go.Proofs.Ytheccnbamcdpmaa.E
open Go Go.RowKit
/-- What a result is told by. -/
def RvOk (P : Program) (L : SL) (w : World) (r : ResultVar) (v : Value) : Prop := match r with
  | .tmp t => lk t L = some v
  | .cell a t => ∃ p, lk a L = some (.pointer (some p)) ∧ (loadVar t p).run P w = .ok v w
section
variable {P : Program} {R : Ending → World → Prop} {fn : Func} {a : Act} {w : World} {n : Nat} {L : SL} {r1 r2 r3 : ResultVar} {v1 v2 v3 : Value}
def rvS (tmps : Array Value) (r : ResultVar) : Sem Value := match r with
  | .tmp t => pure (tmps.getD t undef)
  | .cell a t => do loadVar t (← asAddr (tmps.getD a undef))
theorem rvS_ok (hs : Slots a n L) (h : RvOk P L w r1 v1) : (rvS a.tmps r1).run P w = .ok v1 w := by
  cases r1 with
  | tmp t => have h : lk t L = some v1 := h; simp [rvS, hs.lk h]
  | cell b t =>
    obtain ⟨p, h1, h2⟩ := h
    simp [rvS, hs.lk h1, asAddr, h2]
theorem results_eq (fn : Func) (tmps : Array Value) : results fn tmps = (do let vs ← fn.results.mapM (rvS tmps); pure (if h : vs.size = 1 then vs[0] else .tuple vs)) := by
  unfold results
  congr 1
theorem ret1g (hs : Slots a n L) (hf : fn.results = #[r1]) (h1 : RvOk P L w r1 v1) (h : R (.returned v1) w) : bodyPost P fn R .ret a w :=
  go_ret hs (by rw [results_eq, hf]; simp [rvS_ok hs h1]) h
theorem end1g (hs : Slots a n L) (hf : fn.results = #[r1]) (h1 : RvOk P L w r1 v1) (h : R (.returned v1) w) : bodyPost P fn R .normal a w :=
  go_fin hs (by rw [results_eq, hf]; simp [rvS_ok hs h1]) h
theorem ret2g (hs : Slots a n L) (hf : fn.results = #[r1, r2]) (h1 : RvOk P L w r1 v1) (h2 : RvOk P L w r2 v2) (h : R (.returned (.tuple #[v1, v2])) w) : bodyPost P fn R .ret a w :=
  go_ret hs (by rw [results_eq, hf]; simp [rvS_ok hs h1, rvS_ok hs h2]) h
theorem end2g (hs : Slots a n L) (hf : fn.results = #[r1, r2]) (h1 : RvOk P L w r1 v1) (h2 : RvOk P L w r2 v2) (h : R (.returned (.tuple #[v1, v2])) w) : bodyPost P fn R .normal a w :=
  go_fin hs (by rw [results_eq, hf]; simp [rvS_ok hs h1, rvS_ok hs h2]) h
theorem ret3g (hs : Slots a n L) (hf : fn.results = #[r1, r2, r3]) (h1 : RvOk P L w r1 v1) (h2 : RvOk P L w r2 v2) (h3 : RvOk P L w r3 v3) (h : R (.returned (.tuple #[v1, v2, v3])) w) : bodyPost P fn R .ret a w :=
  go_ret hs (by rw [results_eq, hf]; simp [rvS_ok hs h1, rvS_ok hs h2, rvS_ok hs h3]) h
/-- A variable of several cells is loaded whole. -/
theorem lv_row {α : Type} {E : Enc α} {t : TypeId} {ad : Addr} {x : α} (hu : (P.underlying t).map (·.isRow) = some true) (hi : (P.info? t).map (·.size) = some E.sz) (hq : Rd w E (some ad) 1 [x]) : (loadVar t ad).run P w = .ok (.agg (E.enc x).toArray) w := by
  obtain ⟨d, hu, hd⟩ := Option.map_eq_some_iff.1 hu
  have hagg : (isAgg t).run P w = .ok true w := by
    unfold isAgg
    rw [Sem.run_bind, run_underlying hu w]
    cases d <;> simp_all
  obtain ⟨b, hb, hc⟩ := hq.2 0 x rfl
  cases hb
  have hl := run_loadCells_list (P := P) w ad (E.enc x) (fun j u hj => by have := hc j u hj; simpa using this)
  obtain ⟨inf, hq2, hs⟩ := Option.map_eq_some_iff.1 hi
  rw [E.len] at hl
  simp [loadVar, Sem.run_bind, hagg, sizeOf, typeInfo, hq2, hs, hl]
theorem lv_cell {α : Type} {E : Enc α} {t : TypeId} {ad : Addr} {x : α} {v : Value} (hu : (P.underlying t).map (·.isRow) = some false) (hv : E.enc x = [v]) (hq : Rd w E (some ad) 1 [x]) : (loadVar t ad).run P w = .ok v w := by
  obtain ⟨d, hu, hd⟩ := Option.map_eq_some_iff.1 hu
  have hagg : (isAgg t).run P w = .ok false w := by
    unfold isAgg
    rw [Sem.run_bind, run_underlying hu w]
    cases d <;> simp_all
  obtain ⟨b, hb, hc⟩ := hq.2 0 x rfl
  cases hb
  have h0 := hc 0 v (by rw [hv]; rfl)
  have h0 : w.cell? ad = some v := by simpa [Addr.add] using h0
  simp [loadVar, Sem.run_bind, hagg, h0]
/-- An element of an array that is a value. -/
theorem x_aidx {t e : TypeId} {y z : Operand} {ty : TypeId} {m : Nat} {k : IntKind} {i : Int} {cs : List Value} {v : Value} (ht : P.underlying t = some (.array m e)) (hs : (P.info? e).map (·.size) = some 1) (hu : (P.underlying e).map (·.isRow) = some false)
    (hx : evD L y = .agg cs.toArray) (hy : evD L z = .int k i) (h0 : 0 ≤ i) (h1 : i < (m : Int)) (hv : cs[0 + i.toNat * 1]? = some v) :
    (execOp (evD L) (mkO (.index t y z) ty)).run P w = .ok (.value v) w := by
  refine run_v ?_
  show (Instr.index t (evD L y) (evD L z)).run P w = _
  obtain ⟨inf, hi, hsz⟩ := Option.map_eq_some_iff.1 hs
  obtain ⟨d, hu, hd⟩ := Option.map_eq_some_iff.1 hu
  have hagg : (isAgg e).run P w = .ok false w := by
    unfold isAgg
    rw [Sem.run_bind, run_underlying hu w]
    cases d <;> simp_all
  have hv : cs[i.toNat]? = some v := by simpa using hv
  rw [hx, hy]
  simp [Instr.index, asIntOf, run_underlying ht, h0, h1, sizeOf, typeInfo, hi, hsz, part, Sem.run_bind, hagg, hv]
end
end Go.Proofs.Ytheccnbamcdpmaa.E
