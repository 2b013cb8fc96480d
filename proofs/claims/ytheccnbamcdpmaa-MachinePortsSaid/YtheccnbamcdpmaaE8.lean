/- The engine's words, eighth part: what a statement's inputs are, told as lists and numbers. No condition. -/
import Derived.Test.YtheccnbamcdpmaaE7
import Derived.Test.YtheccnbamcdpmaaWSized
import Derived.ProofKit
import Derived.OpenShut
import Derived.ShutString
import Derived.ChangeOld
import Derived.SizedLaws
import Derived.SliceStrings
namespace Go.Proofs.Ytheccnbamcdpmaa.E
open Go Go.ChangeShapes Go.WideShapes Go.ChangeAt Go.RowKit Go.Proofs.YtheccnbamcdpmaaW.PrintWords
abbrev In (k : IntKind) (n : Int) : Prop := (Lit.int k n).wf = true
theorem In.lo {k : IntKind} {n : Int} (h : In k n) : k.min ≤ n := by simp only [In, Lit.wf, Bool.and_eq_true, decide_eq_true_eq] at h; exact h.1
theorem In.hi {k : IntKind} {n : Int} (h : In k n) : n ≤ k.max := by simp only [In, Lit.wf, Bool.and_eq_true, decide_eq_true_eq] at h; exact h.2
section
variable {H : Type} {enc : TypeId × Value → H} {P : Program} {w : World} {base b0 : Nat} {spare : Nat → Bool} {held : Bool} {r : Reach} {t e : TypeId} {k : IntKind} {v : Value} {d : DataW H} {ps : List MemPlace}
/-- A slice of whole numbers that came in. -/
theorem open_row {B : Nat} {ts : List TypeId} {ds : List (DataW H)} {j : Nat} (hval : Value.okWide P w r b0 t v) (hd : DataW.Trod enc P w base spare held t v d ps) (ht : P.underlying t = some (.slice e)) (he : P.underlying e = some (.int k)) (hc : P.cellsOf e = 1)
    (hsz : (DataW.weightsEach P ts ds).all (· ≤ reachBytes) = true) (hj : ts[j]? = some t) (hdj : ds[j]? = some d) (hB : P.bytesOf e = B) :
    ∃ A cap l, v = .slice A l.length cap ∧ Rd w (eI k) A cap l ∧ (∀ n ∈ l, In k n) ∧ l.length * B ≤ 140737488351232 := by
  obtain ⟨a, len, cap, rfl⟩ := okWide_slice ht hval
  have hs := sized_ints hsz hj hdj ht he hc hB hd
  obtain ⟨fuel, hf⟩ := hd
  rcases open_ints ht he hc hf with ⟨hcs, _⟩ | ⟨x, l, c, zs, hcs, _, hl, hm, hz, _, hcell, hwz⟩
  · simp [Value.cells] at hcs
    obtain ⟨rfl, rfl, rfl⟩ := hcs
    exact ⟨none, 0, [], rfl, Rd.nil _ _, by simp, by simp⟩
  · simp [Value.cells] at hcs
    obtain ⟨rfl, rfl, rfl⟩ := hcs
    have hle : len ≤ zs.length := by rw [hz]; split <;> omega
    have hlen : (zs.take len).length = len := by simp; omega
    refine ⟨some x, cap, zs.take len, by rw [hlen], ⟨by rw [hlen]; exact hl, fun i y hi => ⟨x, rfl, fun j u hj => ?_⟩⟩, fun n hn => hwz n (List.mem_of_mem_take hn), by rw [hlen]; exact hs⟩
    have hlt : i < (zs.take len).length := (List.getElem?_eq_some_iff.1 hi).1
    have hy : y = zs.getD i 0 := by
      rw [List.getElem?_take] at hi
      split at hi
      · rw [List.getD_eq_getElem?_getD, hi]; rfl
      · cases hi
    cases j with
    | zero =>
      have hu : u = .int k y := by
        have h' : ([Value.int k y] : List Value)[0]? = some u := hj
        exact (Option.some.inj h').symm
      rw [hu, hy]
      simpa [eI] using hcell i (by omega)
    | succ j =>
      have h' : ([Value.int k y] : List Value)[j + 1]? = some u := hj
      simp at h'
end
end Go.Proofs.Ytheccnbamcdpmaa.E
