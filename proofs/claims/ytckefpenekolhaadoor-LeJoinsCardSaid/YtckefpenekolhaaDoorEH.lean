/- The engine's words, seventeenth part: structs that come in. No condition. -/
import Derived.Test.YtckefpenekolhaaDoorEG
namespace Go.Proofs.YtckefpenekolhaaDoor.E
set_option linter.unusedVariables false
set_option linter.unusedSimpArgs false
open Go Go.ChangeShapes Go.WideShapes Go.ChangeAt Go.RowKit
/-- How values of type t, without addresses, come in. -/
def OpenP {α : Type} (P : Program) (t : TypeId) (E : Enc α) (ok : α → Prop) : Prop :=
  ∀ (H : Type) (enc : TypeId × Value → H) (w : World) (base : Nat) (spare : Nat → Bool) (held : Bool) (fuel : Nat) (cs : List Value) (x : DataW H × List MemPlace), DataW.trod enc P w base spare held fuel t cs = some x → ∃ y, cs = E.enc y ∧ ok y
section
variable {P : Program} {t e : TypeId} {k : IntKind} {α : Type} {E : Enc α} {ok : α → Prop}
theorem openP_int (he : P.underlying t = some (.int k)) : OpenP P t (eI k) (In k) := by
  intro H enc w base spare held fuel cs x h
  obtain ⟨n, h1, _, h3⟩ := DataW.trod_int he h
  exact ⟨n, h1, h3⟩
theorem openP_bool (he : P.underlying t = some .bool) : OpenP P t eB fun _ => True := by
  intro H enc w base spare held fuel cs x h
  obtain ⟨n, h1, _⟩ := DataW.trod_bool he h
  exact ⟨n, h1, trivial⟩
theorem openP_str (he : P.underlying t = some .string) : OpenP P t eS fun s => s.size ≤ 9223372036854775807 := by
  intro H enc w base spare held fuel cs x h
  obtain ⟨n, h1, _, h3⟩ := DataW.trod_string he h
  exact ⟨n, h1, by simpa [maxLen] using h3⟩
theorem openP_arr {n : Nat} {E : Enc (Vector Int n)} (ht : P.underlying t = some (.array n e)) (he : P.underlying e = some (.int k)) (hc : P.cellsOf e = 1) (hct : P.cellsOf t = n) (hE : ∀ y, E.enc y = (List.range n).map fun j => Value.int k (vx 0 y j)) :
    OpenP P t E fun y => ∀ j, j < n → In k (vx 0 y j) := by
  intro H enc w base spare held fuel cs x h
  obtain ⟨y, h1, h2⟩ := ints_of ht he hc hct h
  exact ⟨y, by rw [hE, h1], h2⟩
theorem fieldOpen {H : Type} {enc : TypeId × Value → H} {w : World} {base : Nat} {spare : Nat → Bool} {held : Bool} {m : Nat} {cs : List Value} {fs : Array Field} {xs : List (DataW H × List MemPlace)} {ft : TypeId} {o n : Nat}
    (hf : ∀ (i : Nat) (f : Field), fs[i]? = some f → DataW.trod enc P w base spare held m f.type ((cs.drop f.offset).take (P.cellsOf f.type)) = xs[i]?) (hl : xs.length = fs.size) (i : Nat) (hi : (fs[i]?).map (fun f => (f.type, f.offset, P.cellsOf f.type)) = some (ft, o, n)) (hE : n = E.sz)
    (hop : OpenP P ft E ok) : ∃ y, cs.drop o = E.enc y ++ cs.drop (o + E.sz) ∧ ok y := by
  obtain ⟨f, h1, h2⟩ := Option.map_eq_some_iff.1 hi
  simp only [Prod.mk.injEq] at h2
  obtain ⟨rfl, rfl, h3⟩ := h2
  have hlt : i < xs.length := by rw [hl]; exact (Array.getElem?_eq_some_iff.1 h1).1
  have h4 := hf i f h1
  rw [List.getElem?_eq_getElem hlt, h3, hE] at h4
  obtain ⟨y, h5, h6⟩ := hop H enc w base spare held m _ _ h4
  refine ⟨y, ?_, h6⟩
  conv => lhs; rw [← List.take_append_drop E.sz (cs.drop f.offset)]
  rw [h5, List.drop_drop]
theorem okWide_struct {P : Program} {w : World} {r : Reach} {b0 : Nat} {v : Value} {fs : Array Field} (ht : P.underlying t = some (.struct fs)) (h : Value.okWide P w r b0 t v) : ∃ cs, v = .agg cs := by
  unfold Value.okWide at h
  rw [ht] at h
  obtain ⟨cs, h1, _⟩ := h
  exact ⟨cs, h1⟩
theorem open_struct {H : Type} {enc : TypeId × Value → H} {w : World} {base b0 : Nat} {spare : Nat → Bool} {held : Bool} {r : Reach} {v : Value} {d : DataW H} {ps : List MemPlace} {fs : Array Field} (hop : OpenP P t E ok) (ht : P.underlying t = some (.struct fs)) (hval : Value.okWide P w r b0 t v) (hd : DataW.Trod enc P w base spare held t v d ps) :
    ∃ y, v = .agg (E.enc y).toArray ∧ ok y := by
  obtain ⟨cs, rfl⟩ := okWide_struct ht hval
  obtain ⟨fuel, hf⟩ := hd
  obtain ⟨y, h1, h2⟩ := hop H enc w base spare held fuel _ _ hf
  refine ⟨y, ?_, h2⟩
  have h1 : cs.toList = _ := h1
  rw [← h1]
end
end Go.Proofs.YtckefpenekolhaaDoor.E
