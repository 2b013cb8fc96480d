/- The engine's words, eleventh part: arrays that come in. No condition. -/
import Derived.Test.YtheccnbamcdpmaaEA
namespace Go.Proofs.Ytheccnbamcdpmaa.E
open Go Go.ChangeShapes Go.WideShapes Go.ChangeAt Go.RowKit
def numAt (cs : List Value) (i : Nat) : Int := match cs[i]? with
  | some (.int _ n) => n
  | _ => 0
theorem vx_ofFn {n : Nat} {f : Fin n → Int} {i : Nat} (hi : i < n) : vx 0 (Vector.ofFn f) i = f ⟨i, hi⟩ := by
  rw [vx_get hi]
  simp
section
variable {H : Type} {enc : TypeId × Value → H} {P : Program} {w : World} {base b0 : Nat} {spare : Nat → Bool} {held : Bool} {r : Reach} {t e : TypeId} {k : IntKind} {v : Value} {d : DataW H} {ps : List MemPlace}
theorem okWide_array {n : Nat} (ht : P.underlying t = some (.array n e)) (h : Value.okWide P w r b0 t v) : ∃ cs, v = .agg cs := by
  unfold Value.okWide at h
  rw [ht] at h
  obtain ⟨cs, h1, _⟩ := h
  exact ⟨cs, h1⟩
/-- The cells of an array of whole numbers. -/
theorem ints_of {n fuel : Nat} {cs : List Value} {x : DataW H × List MemPlace} (ht : P.underlying t = some (.array n e)) (he : P.underlying e = some (.int k)) (hc : P.cellsOf e = 1) (hct : P.cellsOf t = n) (h : DataW.trod enc P w base spare held fuel t cs = some x) :
    ∃ y : Vector Int n, cs = (List.range n).map (fun j => Value.int k (vx 0 y j)) ∧ ∀ j, j < n → In k (vx 0 y j) := by
  obtain ⟨xs, m, _, _, hl, hx, hall⟩ := DataW.trod_array ht h
  have key : ∀ i, i < n → ∃ z, cs[i]? = some (.int k z) ∧ In k z := by
    intro i hi
    have h1 := hall i hi
    rw [List.getElem?_eq_getElem (by omega), hc, Nat.mul_one] at h1
    obtain ⟨z, h2, _, h3⟩ := DataW.trod_int he h1
    refine ⟨z, ?_, h3⟩
    have h4 : ((cs.drop i).take 1)[0]? = some (.int k z) := by rw [h2]; rfl
    simpa using h4
  refine ⟨Vector.ofFn fun i => numAt cs i, ?_, fun j hj => ?_⟩
  · apply List.ext_getElem?
    intro i
    by_cases hi : i < n
    · obtain ⟨z, hz, _⟩ := key i hi
      rw [List.getElem?_map, List.getElem?_range hi, Option.map_some, vx_ofFn hi, hz]
      simp [numAt, hz]
    · rw [List.getElem?_eq_none (by omega), List.getElem?_eq_none (by simp; omega)]
  · obtain ⟨z, hz, hw⟩ := key j hj
    rw [vx_ofFn hj]
    simpa [numAt, hz] using hw
theorem open_arr {n : Nat} (hval : Value.okWide P w r b0 t v) (hd : DataW.Trod enc P w base spare held t v d ps) (ht : P.underlying t = some (.array n e)) (he : P.underlying e = some (.int k)) (hc : P.cellsOf e = 1) (hct : P.cellsOf t = n) :
    ∃ y : Vector Int n, v = .agg ((List.range n).map (fun j => Value.int k (vx 0 y j))).toArray ∧ ∀ j, j < n → In k (vx 0 y j) := by
  obtain ⟨cs, rfl⟩ := okWide_array ht hval
  obtain ⟨fuel, hf⟩ := hd
  obtain ⟨y, h1, h2⟩ := ints_of ht he hc hct hf
  refine ⟨y, ?_, h2⟩
  have h1 : cs.toList = _ := h1
  rw [← h1]
end
end Go.Proofs.Ytheccnbamcdpmaa.E
