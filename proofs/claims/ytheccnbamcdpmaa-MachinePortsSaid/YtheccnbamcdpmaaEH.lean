/- The engine's words, seventeenth part: structs and slices that come in. No condition. -/
import Derived.Test.YtheccnbamcdpmaaEG
namespace Go.Proofs.Ytheccnbamcdpmaa.E
set_option linter.unusedVariables false
set_option linter.unusedSimpArgs false
open Go Go.ChangeShapes Go.WideShapes Go.ChangeAt Go.RowKit
/-- No part of it weighs more than a memory bears. -/
def Light {H : Type} (P : Program) (t : TypeId) (x : DataW H × List MemPlace) : Prop := ∀ n ∈ x.1.weights P t, n ≤ reachBytes
/-- How values of type t, without addresses, come in. -/
def OpenP {α : Type} (P : Program) (t : TypeId) (E : Enc α) (ok : α → Prop) : Prop :=
  ∀ (H : Type) (enc : TypeId × Value → H) (w : World) (base : Nat) (spare : Nat → Bool) (held : Bool) (fuel : Nat) (cs : List Value) (x : DataW H × List MemPlace), DataW.trod enc P w base spare held fuel t cs = some x → Light P t x → ∃ y, cs = E.enc y ∧ ok y
section
variable {P : Program} {t e : TypeId} {k : IntKind} {α : Type} {E : Enc α} {ok : α → Prop}
theorem openP_int (he : P.underlying t = some (.int k)) : OpenP P t (eI k) (In k) := by
  intro H enc w base spare held fuel cs x h _
  obtain ⟨n, h1, _, h3⟩ := DataW.trod_int he h
  exact ⟨n, h1, h3⟩
theorem openP_bool (he : P.underlying t = some .bool) : OpenP P t eB fun _ => True := by
  intro H enc w base spare held fuel cs x h _
  obtain ⟨n, h1, _⟩ := DataW.trod_bool he h
  exact ⟨n, h1, trivial⟩
theorem openP_str (he : P.underlying t = some .string) : OpenP P t eS fun s => s.size ≤ 140737488351232 := by
  intro H enc w base spare held fuel cs x h hw
  obtain ⟨n, h1, rfl, h3⟩ := DataW.trod_string he h
  refine ⟨n, h1, ?_⟩
  have := hw n.data.toList.length (by simp [DataW.weights])
  rw [Array.length_toList] at this
  exact this
theorem openP_arr {n : Nat} {E : Enc (Vector Int n)} (ht : P.underlying t = some (.array n e)) (he : P.underlying e = some (.int k)) (hc : P.cellsOf e = 1) (hct : P.cellsOf t = n) (hE : ∀ y, E.enc y = (List.range n).map fun j => Value.int k (vx 0 y j)) :
    OpenP P t E fun y => ∀ j, j < n → In k (vx 0 y j) := by
  intro H enc w base spare held fuel cs x h _
  obtain ⟨y, h1, h2⟩ := ints_of ht he hc hct h
  exact ⟨y, by rw [hE, h1], h2⟩
/-- The parts of a struct come in. -/
def Fields {H : Type} (enc : TypeId × Value → H) (P : Program) (w : World) (base : Nat) (spare : Nat → Bool) (held : Bool) (m : Nat) (fs : Array Field) (cs : List Value) : Prop :=
  ∀ (i : Nat) (f : Field), fs[i]? = some f → ∃ y, DataW.trod enc P w base spare held m f.type ((cs.drop f.offset).take (P.cellsOf f.type)) = some y ∧ Light P f.type y
theorem struct_fields {H : Type} {enc : TypeId × Value → H} {w : World} {base : Nat} {spare : Nat → Bool} {held : Bool} {fuel : Nat} {cs : List Value} {x : DataW H × List MemPlace} {fs : Array Field} (ht : P.underlying t = some (.struct fs))
    (h : DataW.trod enc P w base spare held fuel t cs = some x) (hw : Light P t x) : cs.length = P.cellsOf t ∧ ∃ m, Fields enc P w base spare held m fs cs := by
  obtain ⟨xs, m, _, rfl, hl, hlen, hf⟩ := DataW.trod_struct ht h
  refine ⟨hl, m, fun i f hi => ?_⟩
  have hlt : i < xs.length := by rw [hlen]; exact (Array.getElem?_eq_some_iff.1 hi).1
  refine ⟨xs[i], by rw [hf i f hi, List.getElem?_eq_getElem hlt], fun n hn => hw n ?_⟩
  simp only [DataW.weights, ht]
  exact DataW.weights_mem_each (j := i) (t := f.type) (d := xs[i].1) (by simp [hi]) (by simp [hlt]) n hn
section
variable {H : Type} {enc : TypeId × Value → H} {w : World} {base : Nat} {spare : Nat → Bool} {held : Bool} {m : Nat} {cs : List Value} {fs : Array Field} {ft : TypeId} {o n B : Nat}
theorem fieldOpen (hf : Fields enc P w base spare held m fs cs) (i : Nat) (hi : (fs[i]?).map (fun f => (f.type, f.offset, P.cellsOf f.type)) = some (ft, o, n)) (hE : n = E.sz)
    (hop : OpenP P ft E ok) : ∃ y, cs.drop o = E.enc y ++ cs.drop (o + E.sz) ∧ ok y := by
  obtain ⟨f, h1, h2⟩ := Option.map_eq_some_iff.1 hi
  simp only [Prod.mk.injEq] at h2
  obtain ⟨rfl, rfl, h3⟩ := h2
  obtain ⟨x, h4, hw⟩ := hf i f h1
  rw [h3, hE] at h4
  obtain ⟨y, h5, h6⟩ := hop H enc w base spare held m _ _ h4 hw
  refine ⟨y, ?_, h6⟩
  conv => lhs; rw [← List.take_append_drop E.sz (cs.drop f.offset)]
  rw [h5, List.drop_drop]
theorem weights_mem_all : ∀ {l : List (DataW H)} {d : DataW H}, d ∈ l → ∀ n ∈ d.weights P e, n ∈ DataW.weightsAll P e l
  | d0 :: l, d, hd, n, hn => by
    rw [DataW.weightsAll, List.mem_append]
    rcases List.mem_cons.1 hd with rfl | hd
    · exact .inl hn
    · exact .inr (weights_mem_all hd n hn)
/-- A slice comes in. -/
theorem slice_open {fuel : Nat} {x : DataW H × List MemPlace} (ht : P.underlying t = some (.slice e)) (hE : P.cellsOf e = E.sz) (hop : OpenP P e E ok) (hB : P.bytesOf e = B) (h : DataW.trod enc P w base spare held fuel t cs = some x) (hw : Light P t x) :
    ∃ A cap l, cs = [.slice A (List.length l) cap] ∧ Rd w E A cap l ∧ (∀ y ∈ l, ok y) ∧ l.length * B ≤ 140737488351232 := by
  rcases DataW.trod_slice ht h with ⟨rfl, rfl⟩ | ⟨a, len, cap, elems, rest, n, _, rfl, rfl, hb, hl, hm, hlen, hel, _, _⟩
  · exact ⟨none, 0, [], rfl, Rd.nil _ _, by simp, by simp⟩
  have hwl : ∀ d ∈ elems, Light P e d := fun d hd n hn => hw n (by
    simp only [DataW.weights, ht, List.mem_cons, List.mem_append]
    exact .inr (.inl (weights_mem_all (List.mem_map_of_mem hd) n hn)))
  have hB' : len * B ≤ 140737488351232 := by
    have := hw ((elems.length + rest.length) * B) (by simp [DataW.weights, ht, hB])
    rw [hlen] at this
    exact Nat.le_trans (Nat.mul_le_mul_right _ (by omega)) this
  have each : ∀ i, i < len → ∃ y, ok y ∧ ∀ j u, (E.enc y)[j]? = some u → w.cell? (a.add (i * E.sz + j)) = some u := by
    intro i hi
    have h1 := hel i hi
    have hlt : i < elems.length := by omega
    rw [List.getElem?_eq_getElem hlt, Option.bind_eq_some_iff] at h1
    obtain ⟨ci, hci, hti⟩ := h1
    obtain ⟨y, rfl, hy⟩ := hop H enc w base spare held n _ _ hti (hwl _ (List.getElem_mem hlt))
    refine ⟨y, hy, fun j u hj => ?_⟩
    rw [hE] at hci
    obtain ⟨_, hlc, hc⟩ := World.cells?_some hci
    have hjl : j < E.sz := by rw [← E.len y]; exact (List.getElem?_eq_some_iff.1 hj).1
    have := hc j hjl
    rw [add_add'] at this
    rw [this]
    exact hj
  have mk : ∀ k, k ≤ len → ∃ l : List α, l.length = k ∧ (∀ y ∈ l, ok y) ∧ ∀ i y, l[i]? = some y → ∀ j u, (E.enc y)[j]? = some u → w.cell? (a.add (i * E.sz + j)) = some u := by
    intro k
    induction k with
    | zero => intro _; exact ⟨[], rfl, by simp, by intro i y h; cases h⟩
    | succ k ih =>
      intro hk
      obtain ⟨l, h1, h2, h3⟩ := ih (by omega)
      obtain ⟨y, hy, hc⟩ := each k (by omega)
      refine ⟨l ++ [y], by simp [h1], ?_, fun i z hz => ?_⟩
      · intro z hz
        rcases List.mem_append.1 hz with hz | hz
        · exact h2 z hz
        · rw [List.mem_singleton.1 hz]; exact hy
      · by_cases hi : i < l.length
        · rw [List.getElem?_append_left hi] at hz; exact h3 i z hz
        · have hik : i = k := by
            have := (List.getElem?_eq_some_iff.1 hz).1
            simp at this
            omega
          subst hik
          rw [List.getElem?_append_right (by omega), h1, Nat.sub_self] at hz
          simp only [List.getElem?_cons_zero, Option.some.injEq] at hz
          subst hz
          exact hc
  obtain ⟨l, h1, h2, h3⟩ := mk len (Nat.le_refl _)
  exact ⟨some a, cap, l, by rw [h1], ⟨by omega, fun i y hi => ⟨a, rfl, h3 i y hi⟩⟩, h2, by rw [h1]; exact hB'⟩
theorem fieldSlice (hf : Fields enc P w base spare held m fs cs) (i : Nat) (hi : (fs[i]?).map (fun f => (f.type, f.offset, P.cellsOf f.type)) = some (ft, o, 1))
    (ht : P.underlying ft = some (.slice e)) (hE : P.cellsOf e = E.sz) (hop : OpenP P e E ok) (hB : P.bytesOf e = B) : ∃ A cap l, cs.drop o = .slice A (List.length l) cap :: cs.drop (o + 1) ∧ Rd w E A cap l ∧ (∀ y ∈ l, ok y) ∧ l.length * B ≤ 140737488351232 := by
  obtain ⟨f, h1, h2⟩ := Option.map_eq_some_iff.1 hi
  simp only [Prod.mk.injEq] at h2
  obtain ⟨rfl, rfl, h3⟩ := h2
  obtain ⟨x, h4, hw⟩ := hf i f h1
  rw [h3] at h4
  obtain ⟨A, cap, l, h5, h6⟩ := slice_open ht hE hop hB h4 hw
  refine ⟨A, cap, l, ?_, h6⟩
  conv => lhs; rw [← List.take_append_drop 1 (cs.drop f.offset)]
  rw [h5, List.drop_drop]
  rfl
end
theorem okWide_struct {P : Program} {w : World} {r : Reach} {b0 : Nat} {v : Value} {fs : Array Field} (ht : P.underlying t = some (.struct fs)) (h : Value.okWide P w r b0 t v) : ∃ cs, v = .agg cs := by
  unfold Value.okWide at h
  rw [ht] at h
  obtain ⟨cs, h1, _⟩ := h
  exact ⟨cs, h1⟩
theorem light_of {H : Type} {ts : List TypeId} {ds : List (DataW H)} {j : Nat} {d : DataW H} {ps : List MemPlace} (hsz : (DataW.weightsEach P ts ds).all (· ≤ reachBytes) = true) (hj : ts[j]? = some t) (hdj : ds[j]? = some d) : Light P t (d, ps) := fun n hn => by
  simpa using List.all_eq_true.1 hsz _ (DataW.weights_mem_each hj hdj n hn)
theorem open_struct {H : Type} {enc : TypeId × Value → H} {w : World} {base b0 : Nat} {spare : Nat → Bool} {held : Bool} {r : Reach} {v : Value} {d : DataW H} {ps : List MemPlace} {fs : Array Field} (hop : OpenP P t E ok) (ht : P.underlying t = some (.struct fs)) (hval : Value.okWide P w r b0 t v) (hd : DataW.Trod enc P w base spare held t v d ps)
    {ts : List TypeId} {ds : List (DataW H)} {j : Nat} (hsz : (DataW.weightsEach P ts ds).all (· ≤ reachBytes) = true) (hj : ts[j]? = some t) (hdj : ds[j]? = some d) :
    ∃ y, v = .agg (E.enc y).toArray ∧ ok y := by
  obtain ⟨cs, rfl⟩ := okWide_struct ht hval
  obtain ⟨fuel, hf⟩ := hd
  obtain ⟨y, h1, h2⟩ := hop H enc w base spare held fuel _ _ hf (light_of hsz hj hdj)
  refine ⟨y, ?_, h2⟩
  have h1 : cs.toList = _ := h1
  rw [← h1]
/-- A slice that came in. -/
theorem open_rowP {H : Type} {enc : TypeId × Value → H} {w : World} {base b0 : Nat} {spare : Nat → Bool} {held : Bool} {r : Reach} {v : Value} {d : DataW H} {ps : List MemPlace} {B : Nat} {ts : List TypeId} {ds : List (DataW H)} {j : Nat} (hop : OpenP P e E ok) (ht : P.underlying t = some (.slice e)) (hE : P.cellsOf e = E.sz) (hB : P.bytesOf e = B) (hval : Value.okWide P w r b0 t v) (hd : DataW.Trod enc P w base spare held t v d ps)
    (hsz : (DataW.weightsEach P ts ds).all (· ≤ reachBytes) = true) (hj : ts[j]? = some t) (hdj : ds[j]? = some d) :
    ∃ A cap l, v = .slice A (List.length l) cap ∧ Rd w E A cap l ∧ (∀ y ∈ l, ok y) ∧ l.length * B ≤ 140737488351232 := by
  obtain ⟨a, len, cap, rfl⟩ := okWide_slice ht hval
  obtain ⟨fuel, hf⟩ := hd
  obtain ⟨A, c, l, h1, h2⟩ := slice_open ht hE hop hB hf (light_of hsz hj hdj)
  refine ⟨A, c, l, ?_, h2⟩
  simpa [Value.cells] using h1
/-- The fields of a struct that came in. -/
theorem open_fields {H : Type} {enc : TypeId × Value → H} {w : World} {base b0 : Nat} {spare : Nat → Bool} {held : Bool} {r : Reach} {v : Value} {d : DataW H} {ps : List MemPlace} {fs : Array Field} (ht : P.underlying t = some (.struct fs)) (hval : Value.okWide P w r b0 t v) (hd : DataW.Trod enc P w base spare held t v d ps)
    {ts : List TypeId} {ds : List (DataW H)} {j : Nat} (hsz : (DataW.weightsEach P ts ds).all (· ≤ reachBytes) = true) (hj : ts[j]? = some t) (hdj : ds[j]? = some d) :
    ∃ cs : Array Value, v = .agg cs ∧ cs.toList.length = P.cellsOf t ∧ ∃ m, Fields enc P w base spare held m fs cs.toList := by
  obtain ⟨cs, rfl⟩ := okWide_struct ht hval
  obtain ⟨fuel, hf⟩ := hd
  exact ⟨cs, rfl, struct_fields ht hf (light_of hsz hj hdj)⟩
end
end Go.Proofs.Ytheccnbamcdpmaa.E
