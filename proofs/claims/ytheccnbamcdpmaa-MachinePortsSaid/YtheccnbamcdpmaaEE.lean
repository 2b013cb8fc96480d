/- The engine's words, fourteenth part: whether two structs are equal. No condition. -/
import Derived.Test.YtheccnbamcdpmaaED
import Derived.Laws.StructEq
namespace Go.Proofs.Ytheccnbamcdpmaa.E
open Go Go.RowKit
section
variable {P : Program} {L : SL} {d : Nat} {xs ys : Array Value} {f : Field} {fs : List Field} {a b : Value} {r s : Bool} {w : World}
theorem eq_nil : (Op.eqFields d xs ys []).run P w = .ok true w := by simp [Op.eqFields]
theorem eq_cons (hn : (f.name == "_") = false) (ha : (part f.type xs f.offset).run P w = .ok a w) (hb : (part f.type ys f.offset).run P w = .ok b w) (he : (Op.equalIn d f.type a b).run P w = .ok r w) (hr : (Op.eqFields d xs ys fs).run P w = .ok s w) : (Op.eqFields d xs ys (f :: fs)).run P w = .ok (r && s) w := by
  have hn' : f.name ≠ "_" := by simpa using hn
  rw [Op.eqFields]
  simp only [if_pos hn', Sem.run_bind, ha, hb, he, Result.andThen_ok]
  cases r
  · simp
  · simpa using hr
theorem eq_struct {t : TypeId} {fs : Array Field} (hu : P.underlying t = some (.struct fs)) (hp : P.stoodInHeld t = false) (h : (Op.eqFields d xs ys fs.toList).run P w = .ok r w) : (Op.equalIn (d + 1) t (.agg xs) (.agg ys)).run P w = .ok r w := by
  have hf : P.fieldsOf t = fs := by simp [Program.fieldsOf, hu]
  rw [run_equalIn_struct (P := P) w d t xs ys (by rw [hf]; exact hu) hp, hf]
  exact h
theorem eq_pv {t : TypeId} {u v : Value} (h : pv P (Op.equalIn d t u v) = some r) : (Op.equalIn d t u v).run P w = .ok r w := pv_ok _ h w
theorem part_pv {t : TypeId} {o : Nat} (h : pv P (part t xs o) = some a) : (part t xs o).run P w = .ok a w := pv_ok _ h w
/-- x == y of structs. -/
theorem x_eql {t u : TypeId} {y z : Operand} {ty : TypeId} (hx : evD L y = .agg xs) (hy : evD L z = .agg ys) (hg : P.eqGuardType P.depth t = false) (he : (Op.equalIn Op.maxDepth t (.agg xs) (.agg ys)).run P w = .ok r w) :
    (execOp (evD L) (mkO (.binOp .eql t y z u) ty)).run P w = .ok (.value (.bool r)) w := by
  refine run_v ?_
  show (do eqGuard .eql t y z (evD L y) (evD L z); binOp .eql t (evD L y) (evD L z)).run P w = _
  rw [hx, hy]
  simp [eqGuard, binOp, hg, Op.equal, he]
theorem x_neq {t u : TypeId} {y z : Operand} {ty : TypeId} (hx : evD L y = .agg xs) (hy : evD L z = .agg ys) (hg : P.eqGuardType P.depth t = false) (he : (Op.equalIn Op.maxDepth t (.agg xs) (.agg ys)).run P w = .ok r w) :
    (execOp (evD L) (mkO (.binOp .neq t y z u) ty)).run P w = .ok (.value (.bool (!r))) w := by
  refine run_v ?_
  show (do eqGuard .neq t y z (evD L y) (evD L z); binOp .neq t (evD L y) (evD L z)).run P w = _
  rw [hx, hy]
  simp [eqGuard, binOp, hg, Op.equal, he]
end
end Go.Proofs.Ytheccnbamcdpmaa.E
