/- The engine's words, tenth part: arrays, and variables in memory. No condition. -/
import Derived.Test.YtheccnbamcdpmaaE9
namespace Go.Proofs.Ytheccnbamcdpmaa.E
open Go Go.RowKit
/-- Element i of an array. -/
def vx {α : Type} {n : Nat} (d : α) (x : Vector α n) (i : Nat) : α := x.toList.getD i d
def vset {α : Type} {n : Nat} (x : Vector α n) (i : Nat) (v : α) : Vector α n := x.setIfInBounds i v
theorem vx_vset {α : Type} {n : Nat} {d : α} {x : Vector α n} {i j : Nat} {v : α} (hi : i < n) : vx d (vset x i v) j = if j = i then v else vx d x j := by
  unfold vx vset
  simp only [Vector.toList_setIfInBounds, List.getD_eq_getElem?_getD, List.getElem?_set, Vector.length_toList]
  by_cases h : i = j
  · subst h; simp [hi]
  · rw [if_neg h, if_neg (fun e => h e.symm)]
theorem vx_get {α : Type} {n : Nat} {d : α} {x : Vector α n} {i : Nat} (hi : i < n) : vx d x i = x[i] := by
  unfold vx
  simp [List.getD_eq_getElem?_getD, hi]
theorem vx_ext {α : Type} {n : Nat} (d : α) {x y : Vector α n} (h : ∀ i, i < n → vx d x i = vx d y i) : x = y := by
  apply Vector.ext
  intro i hi
  have := h i hi
  rwa [vx_get hi, vx_get hi] at this
theorem vec_range {α β : Type} {n : Nat} (d : α) (x : Vector α n) (g : α → β) : x.toList.map g = (List.range n).map fun j => g (vx d x j) := by
  apply List.ext_getElem
  · simp
  · intro i h1 h2
    have hi : i < n := by simpa using h1
    simp only [List.getElem_map, List.getElem_range]
    rw [vx_get hi]
    simp
/-- Where an array's element lies. -/
theorem vget {cs pre post : List Value} {f : Nat → Value} {n o i : Nat} (he : cs = pre ++ (List.range n).map f ++ post) (ho : pre.length = o) (hi : i < n) : cs[o + i * 1]? = some (f i) := by
  subst he ho
  rw [Nat.mul_one, List.append_assoc, List.getElem?_append_right (by omega), List.getElem?_append_left (by simp; omega)]
  simp [hi]
theorem vafter {cs pre post : List Value} {f : Nat → Value} {n o j : Nat} (he : cs = pre ++ (List.range n).map f ++ post) (ho : pre.length + n + j = o) : cs[o]? = post[j]? := by
  subst he ho
  rw [List.getElem?_append_right (by simp)]
  congr 1
  simp
theorem vput {cs cs' pre post : List Value} {f f' : Nat → Value} {n o i : Nat} {v : Value} (he : cs = pre ++ (List.range n).map f ++ post) (he' : cs' = pre ++ (List.range n).map f' ++ post) (ho : pre.length = o) (hi : i < n)
    (hf : ∀ j, j < n → f' j = if j = i then v else f j) : cs' = cs.take (o + i * 1) ++ [v] ++ cs.drop (o + i * 1 + [v].length) := by
  subst he he' ho
  have e : (List.range n).map f' = (((List.range n).map f).take i ++ [v]) ++ ((List.range n).map f).drop (i + 1) := by
    apply List.ext_getElem?
    intro j
    by_cases hj : j < n
    · have h1 := hf j hj
      rw [List.getElem?_map, List.getElem?_range hj, Option.map_some, h1]
      by_cases h2 : j < i
      · rw [if_neg (by omega), List.getElem?_append_left (by simp; omega), List.getElem?_append_left (by simp; omega), List.getElem?_take, if_pos h2]
        simp [hj]
      · by_cases h3 : j = i
        · subst h3
          rw [if_pos rfl, List.getElem?_append_left (by simp; omega), List.getElem?_append_right (by simp; omega)]
          simp [Nat.min_eq_left (Nat.le_of_lt hj)]
        · rw [if_neg h3, List.getElem?_append_right (by simp; omega), List.getElem?_drop]
          have : i + 1 + (j - (List.take i (List.map f (List.range n)) ++ [v]).length) = j := by simp; omega
          rw [this]
          simp [hj]
    · rw [List.getElem?_eq_none (by simp; omega), List.getElem?_eq_none (by simp; omega)]
  rw [e]
  have e1 : (pre ++ (List.range n).map f ++ post).take (pre.length + i * 1) = pre ++ ((List.range n).map f).take i := by
    rw [Nat.mul_one, List.append_assoc, List.take_length_add_append, List.take_append_of_le_length (by simp; omega)]
  have e2 : (pre ++ (List.range n).map f ++ post).drop (pre.length + i * 1 + [v].length) = ((List.range n).map f).drop (i + 1) ++ post := by
    rw [Nat.mul_one, List.append_assoc, Nat.add_assoc, List.drop_length_add_append, List.drop_append_of_le_length (by simp; omega)]
    rfl
  rw [e1, e2]
  simp only [List.append_assoc]
theorem vx_put {k : IntKind} {n i : Nat} {x : Vector Int n} {v : Int} (hi : i < n) : ∀ j, j < n → (fun j : Nat => Value.int k (vx 0 (vset x i v) j)) j = if j = i then Value.int k v else (fun j : Nat => Value.int k (vx 0 x j)) j := by
  intro j _
  show Value.int k (vx 0 (vset x i v) j) = if j = i then Value.int k v else Value.int k (vx 0 x j)
  rw [vx_vset hi]
  split <;> rfl
theorem vx_putb {n i : Nat} {x : Vector Bool n} {v : Bool} (hi : i < n) : ∀ j, j < n → (fun j : Nat => Value.bool (vx false (vset x i v) j)) j = if j = i then Value.bool v else (fun j : Nat => Value.bool (vx false x j)) j := by
  intro j _
  show Value.bool (vx false (vset x i v) j) = if j = i then Value.bool v else Value.bool (vx false x j)
  rw [vx_vset hi]
  split <;> rfl
/-! ### variables in memory: rows of one -/
theorem one_ok {α : Type} (x : α) : (0 : Int) ≤ 0 ∧ (0 : Int) < (([x] : List α).length : Int) := ⟨Int.le_refl 0, Int.one_pos⟩
theorem one_at (a : Addr) (k : Nat) : a = a.add ((0 : Int).toNat * k + 0) := by simp [Addr.add]
theorem one_off (a : Addr) (k o : Nat) : a.add o = a.add ((0 : Int).toNat * k + o) := by simp
section
variable {P : Program} {L : SL} {α : Type} {E : Enc α} {G : List Nat} {w0 w : World} {A : Option Addr} {cap : Nat} {l : List α} {As : List Asn} {T : TypeId}
theorem x_box1 {elem : TypeId} {v : Operand} {ty : TypeId} {aS : Act} {nS : Nat} (_hs : Slots aS nS L) (hst : St G w0 w As) (E : Enc α) (x : α) (hv : (evD L v).cells.toList = E.enc x) :
    ∃ ad w', (execOp (evD L) (mkO (.box elem v) ty)).run P w = .ok (.value (.pointer (some ad))) w' ∧ St G w0 w' (own elem E (some ad) 1 [x] :: As) := by
  have hc : (evD L v).cells.toList = [x].flatMap E.enc := by rw [hv]; simp
  refine ⟨⟨w.heap.size, 0, none⟩, _, ?_, own_new (E := E) hst elem [x] (evD L v).cells hc (by simp [maxLen])⟩
  refine run_v ?_
  show (Instr.box elem (evD L v)).run P w = _
  simp [Instr.box, newVar, newRow]
theorem x_alloc1 {elem : TypeId} {ty : TypeId} {z : Value} {aS : Act} {nS : Nat} (_hs : Slots aS nS L) (hst : St G w0 w As) (E : Enc α) (x : α) (hz : (P.info? elem).map (·.zero) = some (some z)) (hv : z.cells.toList = E.enc x) :
    ∃ ad w', (execOp (evD L) (mkO (.alloc elem) ty)).run P w = .ok (.value (.pointer (some ad))) w' ∧ St G w0 w' (own elem E (some ad) 1 [x] :: As) := by
  have hc : z.cells.toList = [x].flatMap E.enc := by rw [hv]; simp
  refine ⟨⟨w.heap.size, 0, none⟩, _, ?_, own_new (E := E) hst elem [x] z.cells hc (by simp [maxLen])⟩
  refine run_v ?_
  show (Instr.alloc elem true (.tuple #[])).run P w = _
  obtain ⟨inf, hi, hzz⟩ := Option.map_eq_some_iff.1 hz
  simp [Instr.alloc, zeroValue, typeInfo, hi, hzz, newVar, newRow]
/-- The address of an array's element. -/
theorem x_vidx {t e : TypeId} {x y : Operand} {ty : TypeId} {p : Addr} {n : Nat} {k : IntKind} {i : Int} {sz : Nat} 
 (hb : 0 ≤ i ∧ i < (n : Int)) (ht : P.underlying t = some (.array n e) := by kernel_rfl) (hs : (P.info? e).map (·.size) = some sz := by kernel_rfl) (hx : evD L x = .pointer (some p) := by kernel_rfl) (hy : evD L y = .int k i := by kernel_rfl) :
    (execOp (evD L) (mkO (.indexAddr t x y) ty)).run P w = .ok (.value (.pointer (some (p.add (i.toNat * sz))))) w := by
  obtain ⟨h0, h1⟩ := hb
  refine run_v ?_
  show (Instr.indexAt t (evD L x) (evD L y)).run P w = _
  obtain ⟨inf, hi, hsz⟩ := Option.map_eq_some_iff.1 hs
  rw [hx, hy]
  simp [Instr.indexAt, asIntOf, run_underlying ht, h0, h1, sizeOf, typeInfo, hi, hsz, Instr.sureAddr]
end
end Go.Proofs.Ytheccnbamcdpmaa.E
