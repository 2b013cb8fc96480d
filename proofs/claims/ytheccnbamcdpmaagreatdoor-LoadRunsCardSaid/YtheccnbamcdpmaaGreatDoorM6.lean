/- The engine, the walk and the plain law, part 6. No condition. -/
import Derived.Test.YtheccnbamcdpmaaGreatDoorM5
import Derived.ChangeOld
import Derived.Laws.BitsLemmas
import Derived.OpenShut
import Derived.ProofKit
import Derived.ShutString
import Derived.SizedLaws
import Derived.SliceStrings
namespace Go.Proofs.YtheccnbamcdpmaaGreatDoor.E
set_option linter.unusedVariables false
set_option linter.unusedSimpArgs false
open Go Go.RowKit Go.ChangeShapes Go.WideShapes Go.ChangeAt
/-- A row's slice of whole numbers is no longer than its weight allows. -/
theorem sized_ints {H : Type} {enc : TypeId × Value → H} {P : Program} {W : World} {base : Nat} {spare : Nat → Bool} {held : Bool} {t e : TypeId} {k : IntKind} {a : Option Addr} {len cap : Nat} {d : DataW H} {ps : List MemPlace} {ts : List TypeId} {ds : List (DataW H)} {j : Nat}
    (hsz : (DataW.weightsEach P ts ds).all (· ≤ reachBytes) = true) (ht : ts[j]? = some t) (hd : ds[j]? = some d) (hu : P.underlying t = some (.slice e)) (he : P.underlying e = some (.int k)) (hc : P.cellsOf e = 1) {B : Nat} (hB : P.bytesOf e = B)
    (h : DataW.Trod enc P W base spare held t (.slice a len cap) d ps) : len * B ≤ 140737488351232 := by
  obtain ⟨fuel, hf⟩ := h
  rcases open_ints hu he hc hf with ⟨hcs, _⟩ | ⟨x, l, c, zs, hcs, _, hl, _, hz, hx, _, _⟩
  · simp [Value.cells] at hcs
    obtain ⟨rfl, rfl, rfl⟩ := hcs
    simp
  · simp [Value.cells] at hcs
    obtain ⟨rfl, rfl, rfl⟩ := hcs
    obtain ⟨hx, _⟩ := Prod.mk.inj hx
    subst hx
    have z := sized_slice hsz ht hd hu
    rw [hB] at z
    have hl2 : len ≤ zs.length := by
      rw [hz]
      split
      · exact hl
      · exact Nat.le_refl _
    have h1 : (lits (H := H) k (zs.take len)).length + (lits (H := H) k (zs.drop len)).length = zs.length := by
      simp [lits]
      omega
    rw [h1] at z
    exact Nat.le_trans (Nat.mul_le_mul_right _ hl2) z
abbrev In (k : IntKind) (n : Int) : Prop := (Lit.int k n).wf = true
theorem In.lo {k : IntKind} {n : Int} (h : In k n) : k.min ≤ n := by simp only [In, Lit.wf, Bool.and_eq_true, decide_eq_true_eq] at h; exact h.1
theorem In.hi {k : IntKind} {n : Int} (h : In k n) : n ≤ k.max := by simp only [In, Lit.wf, Bool.and_eq_true, decide_eq_true_eq] at h; exact h.2
section
variable {H : Type} {enc : TypeId × Value → H} {P : Program} {w : World} {base b0 : Nat} {spare : Nat → Bool} {held : Bool} {r : Reach} {t e : TypeId} {k : IntKind} {v : Value} {d : DataW H} {ps : List MemPlace}
/-- A slice of whole numbers that came in. -/
theorem open_row {B : Nat} {ts : List TypeId} {ds : List (DataW H)} {j : Nat} (hval : Value.okWide P w r b0 t v) (hd : DataW.Trod enc P w base spare held t v d ps) (ht : P.underlying t = some (.slice e)) (he : P.underlying e = some (.int k)) (hc : P.cellsOf e = 1)
    (hsz : (DataW.weightsEach P ts ds).all (· ≤ reachBytes) = true) (hj : ts[j]? = some t) (hdj : ds[j]? = some d) (hB : P.bytesOf e = B) :
    ∃ A cap l, v = .slice A l.length cap ∧ Rd w (eI k) A cap l ∧ (∀ n ∈ l, In k n) ∧ l.length * B ≤ 140737488351232 := by
  obtain ⟨a, len, cap, rfl⟩ := okWide_slice ht hval
  have hs := sized_ints hsz hj hdj ht he hc hB hd
  obtain ⟨fuel, hf⟩ := hd
  rcases open_ints ht he hc hf with ⟨hcs, _⟩ | ⟨x, l, c, zs, hcs, _, hl, hm, hz, _, hcell, hwz⟩
  · simp [Value.cells] at hcs
    obtain ⟨rfl, rfl, rfl⟩ := hcs
    exact ⟨none, 0, [], rfl, Rd.nil _ _, by simp, by simp⟩
  · simp [Value.cells] at hcs
    obtain ⟨rfl, rfl, rfl⟩ := hcs
    have hle : len ≤ zs.length := by rw [hz]; split <;> omega
    have hlen : (zs.take len).length = len := by simp; omega
    refine ⟨some x, cap, zs.take len, by rw [hlen], ⟨by rw [hlen]; exact hl, fun i y hi => ⟨x, rfl, fun j u hj => ?_⟩⟩, fun n hn => hwz n (List.mem_of_mem_take hn), by rw [hlen]; exact hs⟩
    have hlt : i < (zs.take len).length := (List.getElem?_eq_some_iff.1 hi).1
    have hy : y = zs.getD i 0 := by
      rw [List.getElem?_take] at hi
      split at hi
      · rw [List.getD_eq_getElem?_getD, hi]; rfl
      · cases hi
    cases j with
    | zero =>
      have hu : u = .int k y := by
        have h' : ([Value.int k y] : List Value)[0]? = some u := hj
        exact (Option.some.inj h').symm
      rw [hu, hy]
      simpa [eI] using hcell i (by omega)
    | succ j =>
      have h' : ([Value.int k y] : List Value)[j + 1]? = some u := hj
      simp at h'
end

def numAt (cs : List Value) (i : Nat) : Int := match cs[i]? with
  | some (.int _ n) => n
  | _ => 0
section
variable {H : Type} {enc : TypeId × Value → H} {P : Program} {w : World} {base b0 : Nat} {spare : Nat → Bool} {held : Bool} {r : Reach} {t e : TypeId} {k : IntKind} {v : Value} {d : DataW H} {ps : List MemPlace}
theorem okWide_array {n : Nat} (ht : P.underlying t = some (.array n e)) (h : Value.okWide P w r b0 t v) : ∃ cs, v = .agg cs := by
  unfold Value.okWide at h
  rw [ht] at h
  obtain ⟨cs, h1, _⟩ := h
  exact ⟨cs, h1⟩
/-- The cells of an array of whole numbers. -/
theorem ints_of {n fuel : Nat} {cs : List Value} {x : DataW H × List MemPlace} (ht : P.underlying t = some (.array n e)) (he : P.underlying e = some (.int k)) (hc : P.cellsOf e = 1) (hct : P.cellsOf t = n) (h : DataW.trod enc P w base spare held fuel t cs = some x) :
    ∃ y : Vector Int n, cs = (List.range n).map (fun j => Value.int k (vx 0 y j)) ∧ ∀ j, j < n → In k (vx 0 y j) := by
  obtain ⟨xs, m, _, _, hl, hx, hall⟩ := DataW.trod_array ht h
  have key : ∀ i, i < n → ∃ z, cs[i]? = some (.int k z) ∧ In k z := by
    intro i hi
    have h1 := hall i hi
    rw [List.getElem?_eq_getElem (by omega), hc, Nat.mul_one] at h1
    obtain ⟨z, h2, _, h3⟩ := DataW.trod_int he h1
    refine ⟨z, ?_, h3⟩
    have h4 : ((cs.drop i).take 1)[0]? = some (.int k z) := by rw [h2]; rfl
    simpa using h4
  refine ⟨Vector.ofFn fun i => numAt cs i, ?_, fun j hj => ?_⟩
  · apply List.ext_getElem?
    intro i
    by_cases hi : i < n
    · obtain ⟨z, hz, _⟩ := key i hi
      rw [List.getElem?_map, List.getElem?_range hi, Option.map_some, vx_ofFn hi, hz]
      simp [numAt, hz]
    · rw [List.getElem?_eq_none (by omega), List.getElem?_eq_none (by simp; omega)]
  · obtain ⟨z, hz, hw⟩ := key j hj
    rw [vx_ofFn hj]
    simpa [numAt, hz] using hw
theorem open_arr {n : Nat} (hval : Value.okWide P w r b0 t v) (hd : DataW.Trod enc P w base spare held t v d ps) (ht : P.underlying t = some (.array n e)) (he : P.underlying e = some (.int k)) (hc : P.cellsOf e = 1) (hct : P.cellsOf t = n) :
    ∃ y : Vector Int n, v = .agg ((List.range n).map (fun j => Value.int k (vx 0 y j))).toArray ∧ ∀ j, j < n → In k (vx 0 y j) := by
  obtain ⟨cs, rfl⟩ := okWide_array ht hval
  obtain ⟨fuel, hf⟩ := hd
  obtain ⟨y, h1, h2⟩ := ints_of ht he hc hct hf
  refine ⟨y, ?_, h2⟩
  have h1 : cs.toList = _ := h1
  rw [← h1]
end

theorem w64_id {x : Int} (h0 : -9223372036854775808 ≤ x) (h1 : x ≤ 9223372036854775807) : w64 x = x := by show IntKind.i64.wrap x = x; rw [IntKind.wrap_i64]; omega
theorem w32_id {x : Int} (h0 : -2147483648 ≤ x) (h1 : x ≤ 2147483647) : w32 x = x := by show IntKind.i32.wrap x = x; rw [IntKind.wrap_i32]; omega
theorem wu32_eq (x : Int) : wu32 x = x % 4294967296 := IntKind.wrap_u32 x
theorem wu8_eq (x : Int) : wu8 x = x % 256 := IntKind.wrap_u8 x
theorem wu16_eq (x : Int) : wu16 x = x % 65536 := by simp [wu16, IntKind.wrap, IntKind.bits, IntKind.signed]
theorem wu64_eq (x : Int) : wu64 x = x % 18446744073709551616 := by simp [wu64, IntKind.wrap, IntKind.bits, IntKind.signed]
theorem wu32_id {x : Int} (h0 : 0 ≤ x) (h1 : x ≤ 4294967295) : wu32 x = x := by rw [wu32_eq]; omega
theorem wu8_id {x : Int} (h0 : 0 ≤ x) (h1 : x ≤ 255) : wu8 x = x := by rw [wu8_eq]; omega
theorem wu16_id {x : Int} (h0 : 0 ≤ x) (h1 : x ≤ 65535) : wu16 x = x := by rw [wu16_eq]; omega
def umax : IntKind → Nat
  | .u8 => 256
  | .u16 => 65536
  | .u32 => 4294967296
  | _ => 1
theorem wrap_nat {k : IntKind} {m : Nat} (h : m < umax k) : k.wrap (m : Int) = (m : Int) := by
  cases k <;> simp only [umax] at h
  case u8 => rw [IntKind.wrap_u8]; omega
  case u16 => have := wu16_eq (m : Int); simp only [wu16] at this; rw [this]; omega
  case u32 => rw [IntKind.wrap_u32]; omega
  all_goals (obtain rfl : m = 0 := by omega); rfl
theorem bv_nat {k : IntKind} {x : Int} (h0 : 0 ≤ x) (h1 : x < (umax k : Int)) : (BitVec.ofInt k.bits x).toNat = x.toNat := by
  obtain ⟨n, rfl⟩ := Int.eq_ofNat_of_zero_le h0
  rw [show ((n : Nat) : Int).toNat = n by omega]
  have h1 : n < umax k := by omega
  rw [BitVec.ofInt_natCast, BitVec.toNat_ofNat]
  apply Nat.mod_eq_of_lt
  cases k <;> simp only [umax, IntKind.bits] at h1 ⊢ <;> omega
theorem umax_bits {k : IntKind} (h : 1 < umax k) : 2 ^ k.bits = umax k := by cases k <;> simp [umax, IntKind.bits] at h ⊢
theorem band_nat {k : IntKind} {x y : Int} (hx0 : 0 ≤ x) (hx : x < (umax k : Int)) (hy0 : 0 ≤ y) (hy : y < (umax k : Int)) : band k x y = ((x.toNat &&& y.toNat : Nat) : Int) := by
  unfold band
  rw [BitVec.toNat_and, bv_nat hx0 hx, bv_nat hy0 hy, wrap_nat]
  exact Nat.lt_of_le_of_lt Nat.and_le_left (by omega)
theorem bor_nat {k : IntKind} {x y : Int} (hk : 1 < umax k) (hx0 : 0 ≤ x) (hx : x < (umax k : Int)) (hy0 : 0 ≤ y) (hy : y < (umax k : Int)) : bor k x y = ((x.toNat ||| y.toNat : Nat) : Int) := by
  unfold bor
  rw [BitVec.toNat_or, bv_nat hx0 hx, bv_nat hy0 hy, wrap_nat]
  rw [← umax_bits hk] at hx hy ⊢
  exact Nat.or_lt_two_pow (by omega) (by omega)
theorem bxor_nat {k : IntKind} {x y : Int} (hk : 1 < umax k) (hx0 : 0 ≤ x) (hx : x < (umax k : Int)) (hy0 : 0 ≤ y) (hy : y < (umax k : Int)) : bxor k x y = ((x.toNat ^^^ y.toNat : Nat) : Int) := by
  unfold bxor
  rw [BitVec.toNat_xor, bv_nat hx0 hx, bv_nat hy0 hy, wrap_nat]
  rw [← umax_bits hk] at hx hy ⊢
  exact Nat.xor_lt_two_pow (by omega) (by omega)
theorem bandn_nat {k : IntKind} {x y : Int} (hk : 1 < umax k) (hx0 : 0 ≤ x) (hx : x < (umax k : Int)) (hy0 : 0 ≤ y) (hy : y < (umax k : Int)) : bandn k x y = ((x.toNat &&& (umax k - 1 - y.toNat) : Nat) : Int) := by
  unfold bandn
  rw [BitVec.toNat_and, BitVec.toNat_not, bv_nat hx0 hx, bv_nat hy0 hy, umax_bits hk, wrap_nat]
  exact Nat.lt_of_le_of_lt Nat.and_le_left (by omega)
theorem and_low (x n : Nat) : x &&& (2 ^ n - 1) = x % 2 ^ n := Nat.and_two_pow_sub_one_eq_mod x n
theorem or_high {x y n : Nat} (h : y < 2 ^ n) : 2 ^ n * x ||| y = 2 ^ n * x + y := (Nat.two_pow_add_eq_or_of_lt h x).symm
/-- The lower bits are taken away. -/
theorem and_high (x n m : Nat) (h : x < 2 ^ (n + m)) : x &&& ((2 ^ m - 1) * 2 ^ n) = x / 2 ^ n * 2 ^ n := by
  apply Nat.eq_of_testBit_eq
  intro i
  rw [Nat.testBit_and, Nat.testBit_mul_two_pow, Nat.testBit_mul_two_pow, Nat.testBit_two_pow_sub_one, Nat.testBit_div_two_pow]
  by_cases hi : n ≤ i
  · have e : n + (i - n) = i := by omega
    simp only [hi, decide_true, Bool.true_and, show i - n + n = i by omega]
    by_cases hm : i - n < m
    · simp [hm]
    · have : x.testBit i = false := Nat.testBit_lt_two_pow (Nat.lt_of_lt_of_le h (Nat.pow_le_pow_right (by omega) (by omega)))
      simp [this]
  · simp [hi]
theorem ixg {l : List Int} {d : Int} {i : Int} : ix d l i = l.getD i.toNat d := rfl
/-- A take's length, spelled out. -/
theorem take_min {α : Type} (l : List α) (m : Int) (hm : 0 ≤ m) : l.take (mnn (l.length : Int) m).toNat = l.take m.toNat := by
  unfold mnn
  split
  · rfl
  · rw [List.take_of_length_le (by omega), List.take_of_length_le (by omega)]
theorem mnn_ok (n m : Int) (hm : 0 ≤ m) (hn : 0 ≤ n) : 0 ≤ mnn n m ∧ mnn n m ≤ n := by unfold mnn; split <;> omega
theorem In.u32 {n : Int} (h : In .u32 n) : 0 ≤ n ∧ n ≤ 4294967295 := bounds_u32 h
theorem In.u16 {n : Int} (h : In .u16 n) : 0 ≤ n ∧ n ≤ 65535 := bounds_u16 h
theorem In.u8 {n : Int} (h : In .u8 n) : 0 ≤ n ∧ n ≤ 255 := bounds_u8 h
theorem In.i64 {n : Int} (h : In .i64 n) : -9223372036854775808 ≤ n ∧ n ≤ 9223372036854775807 := bounds_i64 h
theorem In.i32 {n : Int} (h : In .i32 n) : -2147483648 ≤ n ∧ n ≤ 2147483647 := bounds_i32 h
/-- All elements are of some kind. -/
theorem all_getD {l : List Int} {p : Int → Prop} (h : ∀ n ∈ l, p n) {d : Int} (hd : p d) (i : Nat) : p (l.getD i d) := by
  rw [List.getD_eq_getElem?_getD]
  cases hi : l[i]? with
  | none => exact hd
  | some x => exact h x (List.mem_of_getElem? hi)
theorem all_set {l : List Int} {p : Int → Prop} (h : ∀ n ∈ l, p n) {x : Int} (hx : p x) (i : Nat) : ∀ n ∈ l.set i x, p n := by
  intro n hn
  rcases List.mem_or_eq_of_mem_set hn with h1 | h1
  · exact h n h1
  · exact h1 ▸ hx

/-- No part of it weighs more than a memory bears. -/
def Light {H : Type} (P : Program) (t : TypeId) (x : DataW H × List MemPlace) : Prop := ∀ n ∈ x.1.weights P t, n ≤ reachBytes
/-- How values of type t, without addresses, come in. -/
def OpenP {α : Type} (P : Program) (t : TypeId) (E : Enc α) (ok : α → Prop) : Prop :=
  ∀ (H : Type) (enc : TypeId × Value → H) (w : World) (base : Nat) (spare : Nat → Bool) (held : Bool) (fuel : Nat) (cs : List Value) (x : DataW H × List MemPlace), DataW.trod enc P w base spare held fuel t cs = some x → Light P t x → ∃ y, cs = E.enc y ∧ ok y
section
variable {P : Program} {t e : TypeId} {k : IntKind} {α : Type} {E : Enc α} {ok : α → Prop}
theorem openP_int (he : P.underlying t = some (.int k)) : OpenP P t (eI k) (In k) := by
  intro H enc w base spare held fuel cs x h _
  obtain ⟨n, h1, _, h3⟩ := DataW.trod_int he h
  exact ⟨n, h1, h3⟩
theorem openP_bool (he : P.underlying t = some .bool) : OpenP P t eB fun _ => True := by
  intro H enc w base spare held fuel cs x h _
  obtain ⟨n, h1, _⟩ := DataW.trod_bool he h
  exact ⟨n, h1, trivial⟩
theorem openP_str (he : P.underlying t = some .string) : OpenP P t eS fun s => s.size ≤ 140737488351232 := by
  intro H enc w base spare held fuel cs x h hw
  obtain ⟨n, h1, rfl, h3⟩ := DataW.trod_string he h
  refine ⟨n, h1, ?_⟩
  have := hw n.data.toList.length (by simp [DataW.weights])
  rw [Array.length_toList] at this
  exact this
theorem openP_arr {n : Nat} {E : Enc (Vector Int n)} (ht : P.underlying t = some (.array n e)) (he : P.underlying e = some (.int k)) (hc : P.cellsOf e = 1) (hct : P.cellsOf t = n) (hE : ∀ y, E.enc y = (List.range n).map fun j => Value.int k (vx 0 y j)) :
    OpenP P t E fun y => ∀ j, j < n → In k (vx 0 y j) := by
  intro H enc w base spare held fuel cs x h _
  obtain ⟨y, h1, h2⟩ := ints_of ht he hc hct h
  exact ⟨y, by rw [hE, h1], h2⟩
/-- The parts of a struct come in. -/
def Fields {H : Type} (enc : TypeId × Value → H) (P : Program) (w : World) (base : Nat) (spare : Nat → Bool) (held : Bool) (m : Nat) (fs : Array Field) (cs : List Value) : Prop :=
  ∀ (i : Nat) (f : Field), fs[i]? = some f → ∃ y, DataW.trod enc P w base spare held m f.type ((cs.drop f.offset).take (P.cellsOf f.type)) = some y ∧ Light P f.type y
theorem struct_fields {H : Type} {enc : TypeId × Value → H} {w : World} {base : Nat} {spare : Nat → Bool} {held : Bool} {fuel : Nat} {cs : List Value} {x : DataW H × List MemPlace} {fs : Array Field} (ht : P.underlying t = some (.struct fs))
    (h : DataW.trod enc P w base spare held fuel t cs = some x) (hw : Light P t x) : cs.length = P.cellsOf t ∧ ∃ m, Fields enc P w base spare held m fs cs := by
  obtain ⟨xs, m, _, rfl, hl, hlen, hf⟩ := DataW.trod_struct ht h
  refine ⟨hl, m, fun i f hi => ?_⟩
  have hlt : i < xs.length := by rw [hlen]; exact (Array.getElem?_eq_some_iff.1 hi).1
  refine ⟨xs[i], by rw [hf i f hi, List.getElem?_eq_getElem hlt], fun n hn => hw n ?_⟩
  simp only [DataW.weights, ht]
  exact DataW.weights_mem_each (j := i) (t := f.type) (d := xs[i].1) (by simp [hi]) (by simp [hlt]) n hn
section
variable {H : Type} {enc : TypeId × Value → H} {w : World} {base : Nat} {spare : Nat → Bool} {held : Bool} {m : Nat} {cs : List Value} {fs : Array Field} {ft : TypeId} {o n B : Nat}
theorem fieldOpen (hf : Fields enc P w base spare held m fs cs) (i : Nat) (hi : (fs[i]?).map (fun f => (f.type, f.offset, P.cellsOf f.type)) = some (ft, o, n)) (hE : n = E.sz)
    (hop : OpenP P ft E ok) : ∃ y, cs.drop o = E.enc y ++ cs.drop (o + E.sz) ∧ ok y := by
  obtain ⟨f, h1, h2⟩ := Option.map_eq_some_iff.1 hi
  simp only [Prod.mk.injEq] at h2
  obtain ⟨rfl, rfl, h3⟩ := h2
  obtain ⟨x, h4, hw⟩ := hf i f h1
  rw [h3, hE] at h4
  obtain ⟨y, h5, h6⟩ := hop H enc w base spare held m _ _ h4 hw
  refine ⟨y, ?_, h6⟩
  conv => lhs; rw [← List.take_append_drop E.sz (cs.drop f.offset)]
  rw [h5, List.drop_drop]
theorem weights_mem_all : ∀ {l : List (DataW H)} {d : DataW H}, d ∈ l → ∀ n ∈ d.weights P e, n ∈ DataW.weightsAll P e l
  | d0 :: l, d, hd, n, hn => by
    rw [DataW.weightsAll, List.mem_append]
    rcases List.mem_cons.1 hd with rfl | hd
    · exact .inl hn
    · exact .inr (weights_mem_all hd n hn)
/-- A slice comes in. -/
theorem slice_open {fuel : Nat} {x : DataW H × List MemPlace} (ht : P.underlying t = some (.slice e)) (hE : P.cellsOf e = E.sz) (hop : OpenP P e E ok) (hB : P.bytesOf e = B) (h : DataW.trod enc P w base spare held fuel t cs = some x) (hw : Light P t x) :
    ∃ A cap l, cs = [.slice A (List.length l) cap] ∧ Rd w E A cap l ∧ (∀ y ∈ l, ok y) ∧ l.length * B ≤ 140737488351232 := by
  rcases DataW.trod_slice ht h with ⟨rfl, rfl⟩ | ⟨a, len, cap, elems, rest, n, _, rfl, rfl, hb, hl, hm, hlen, hel, _, _⟩
  · exact ⟨none, 0, [], rfl, Rd.nil _ _, by simp, by simp⟩
  have hwl : ∀ d ∈ elems, Light P e d := fun d hd n hn => hw n (by
    simp only [DataW.weights, ht, List.mem_cons, List.mem_append]
    exact .inr (.inl (weights_mem_all (List.mem_map_of_mem hd) n hn)))
  have hB' : len * B ≤ 140737488351232 := by
    have := hw ((elems.length + rest.length) * B) (by simp [DataW.weights, ht, hB])
    rw [hlen] at this
    exact Nat.le_trans (Nat.mul_le_mul_right _ (by omega)) this
  have each : ∀ i, i < len → ∃ y, ok y ∧ ∀ j u, (E.enc y)[j]? = some u → w.cell? (a.add (i * E.sz + j)) = some u := by
    intro i hi
    have h1 := hel i hi
    have hlt : i < elems.length := by omega
    rw [List.getElem?_eq_getElem hlt, Option.bind_eq_some_iff] at h1
    obtain ⟨ci, hci, hti⟩ := h1
    obtain ⟨y, rfl, hy⟩ := hop H enc w base spare held n _ _ hti (hwl _ (List.getElem_mem hlt))
    refine ⟨y, hy, fun j u hj => ?_⟩
    rw [hE] at hci
    obtain ⟨_, hlc, hc⟩ := World.cells?_some hci
    have hjl : j < E.sz := by rw [← E.len y]; exact (List.getElem?_eq_some_iff.1 hj).1
    have := hc j hjl
    rw [add_add'] at this
    rw [this]
    exact hj
  have mk : ∀ k, k ≤ len → ∃ l : List α, l.length = k ∧ (∀ y ∈ l, ok y) ∧ ∀ i y, l[i]? = some y → ∀ j u, (E.enc y)[j]? = some u → w.cell? (a.add (i * E.sz + j)) = some u := by
    intro k
    induction k with
    | zero => intro _; exact ⟨[], rfl, by simp, by intro i y h; cases h⟩
    | succ k ih =>
      intro hk
      obtain ⟨l, h1, h2, h3⟩ := ih (by omega)
      obtain ⟨y, hy, hc⟩ := each k (by omega)
      refine ⟨l ++ [y], by simp [h1], ?_, fun i z hz => ?_⟩
      · intro z hz
        rcases List.mem_append.1 hz with hz | hz
        · exact h2 z hz
        · rw [List.mem_singleton.1 hz]; exact hy
      · by_cases hi : i < l.length
        · rw [List.getElem?_append_left hi] at hz; exact h3 i z hz
        · have hik : i = k := by
            have := (List.getElem?_eq_some_iff.1 hz).1
            simp at this
            omega
          subst hik
          rw [List.getElem?_append_right (by omega), h1, Nat.sub_self] at hz
          simp only [List.getElem?_cons_zero, Option.some.injEq] at hz
          subst hz
          exact hc
  obtain ⟨l, h1, h2, h3⟩ := mk len (Nat.le_refl _)
  exact ⟨some a, cap, l, by rw [h1], ⟨by omega, fun i y hi => ⟨a, rfl, h3 i y hi⟩⟩, h2, by rw [h1]; exact hB'⟩
theorem fieldSlice (hf : Fields enc P w base spare held m fs cs) (i : Nat) (hi : (fs[i]?).map (fun f => (f.type, f.offset, P.cellsOf f.type)) = some (ft, o, 1))
    (ht : P.underlying ft = some (.slice e)) (hE : P.cellsOf e = E.sz) (hop : OpenP P e E ok) (hB : P.bytesOf e = B) : ∃ A cap l, cs.drop o = .slice A (List.length l) cap :: cs.drop (o + 1) ∧ Rd w E A cap l ∧ (∀ y ∈ l, ok y) ∧ l.length * B ≤ 140737488351232 := by
  obtain ⟨f, h1, h2⟩ := Option.map_eq_some_iff.1 hi
  simp only [Prod.mk.injEq] at h2
  obtain ⟨rfl, rfl, h3⟩ := h2
  obtain ⟨x, h4, hw⟩ := hf i f h1
  rw [h3] at h4
  obtain ⟨A, cap, l, h5, h6⟩ := slice_open ht hE hop hB h4 hw
  refine ⟨A, cap, l, ?_, h6⟩
  conv => lhs; rw [← List.take_append_drop 1 (cs.drop f.offset)]
  rw [h5, List.drop_drop]
  rfl
end
theorem okWide_struct {P : Program} {w : World} {r : Reach} {b0 : Nat} {v : Value} {fs : Array Field} (ht : P.underlying t = some (.struct fs)) (h : Value.okWide P w r b0 t v) : ∃ cs, v = .agg cs := by
  unfold Value.okWide at h
  rw [ht] at h
  obtain ⟨cs, h1, _⟩ := h
  exact ⟨cs, h1⟩
theorem light_of {H : Type} {ts : List TypeId} {ds : List (DataW H)} {j : Nat} {d : DataW H} {ps : List MemPlace} (hsz : (DataW.weightsEach P ts ds).all (· ≤ reachBytes) = true) (hj : ts[j]? = some t) (hdj : ds[j]? = some d) : Light P t (d, ps) := fun n hn => by
  simpa using List.all_eq_true.1 hsz _ (DataW.weights_mem_each hj hdj n hn)
theorem open_struct {H : Type} {enc : TypeId × Value → H} {w : World} {base b0 : Nat} {spare : Nat → Bool} {held : Bool} {r : Reach} {v : Value} {d : DataW H} {ps : List MemPlace} {fs : Array Field} (hop : OpenP P t E ok) (ht : P.underlying t = some (.struct fs)) (hval : Value.okWide P w r b0 t v) (hd : DataW.Trod enc P w base spare held t v d ps)
    {ts : List TypeId} {ds : List (DataW H)} {j : Nat} (hsz : (DataW.weightsEach P ts ds).all (· ≤ reachBytes) = true) (hj : ts[j]? = some t) (hdj : ds[j]? = some d) :
    ∃ y, v = .agg (E.enc y).toArray ∧ ok y := by
  obtain ⟨cs, rfl⟩ := okWide_struct ht hval
  obtain ⟨fuel, hf⟩ := hd
  obtain ⟨y, h1, h2⟩ := hop H enc w base spare held fuel _ _ hf (light_of hsz hj hdj)
  refine ⟨y, ?_, h2⟩
  have h1 : cs.toList = _ := h1
  rw [← h1]
/-- A slice that came in. -/
theorem open_rowP {H : Type} {enc : TypeId × Value → H} {w : World} {base b0 : Nat} {spare : Nat → Bool} {held : Bool} {r : Reach} {v : Value} {d : DataW H} {ps : List MemPlace} {B : Nat} {ts : List TypeId} {ds : List (DataW H)} {j : Nat} (hop : OpenP P e E ok) (ht : P.underlying t = some (.slice e)) (hE : P.cellsOf e = E.sz) (hB : P.bytesOf e = B) (hval : Value.okWide P w r b0 t v) (hd : DataW.Trod enc P w base spare held t v d ps)
    (hsz : (DataW.weightsEach P ts ds).all (· ≤ reachBytes) = true) (hj : ts[j]? = some t) (hdj : ds[j]? = some d) :
    ∃ A cap l, v = .slice A (List.length l) cap ∧ Rd w E A cap l ∧ (∀ y ∈ l, ok y) ∧ l.length * B ≤ 140737488351232 := by
  obtain ⟨a, len, cap, rfl⟩ := okWide_slice ht hval
  obtain ⟨fuel, hf⟩ := hd
  obtain ⟨A, c, l, h1, h2⟩ := slice_open ht hE hop hB hf (light_of hsz hj hdj)
  refine ⟨A, c, l, ?_, h2⟩
  simpa [Value.cells] using h1
/-- The fields of a struct that came in. -/
theorem open_fields {H : Type} {enc : TypeId × Value → H} {w : World} {base b0 : Nat} {spare : Nat → Bool} {held : Bool} {r : Reach} {v : Value} {d : DataW H} {ps : List MemPlace} {fs : Array Field} (ht : P.underlying t = some (.struct fs)) (hval : Value.okWide P w r b0 t v) (hd : DataW.Trod enc P w base spare held t v d ps)
    {ts : List TypeId} {ds : List (DataW H)} {j : Nat} (hsz : (DataW.weightsEach P ts ds).all (· ≤ reachBytes) = true) (hj : ts[j]? = some t) (hdj : ds[j]? = some d) :
    ∃ cs : Array Value, v = .agg cs ∧ cs.toList.length = P.cellsOf t ∧ ∃ m, Fields enc P w base spare held m fs cs.toList := by
  obtain ⟨cs, rfl⟩ := okWide_struct ht hval
  obtain ⟨fuel, hf⟩ := hd
  exact ⟨cs, rfl, struct_fields ht hf (light_of hsz hj hdj)⟩
end
end Go.Proofs.YtheccnbamcdpmaaGreatDoor.E
namespace Go.Proofs.YtheccnbamcdpmaaGreatDoor.ZD
set_option linter.unusedVariables false
set_option linter.unusedSimpArgs false
open Go Go.RowKit Go.Proofs.YtheccnbamcdpmaaGreatDoor.E
theorem w64s {x : Int} (h0 : -9000000000000000000 ≤ x) (h1 : x ≤ 9000000000000000000) : w64 x = x := w64_id (by omega) (by omega)
theorem p2 (n : Nat) : ((2 : Int) ^ n) = ((2 ^ n : Nat) : Int) := by rw [Int.natCast_pow]; rfl
theorem p2pos (n : Nat) : 0 < 2 ^ n := Nat.pow_pos (by omega)
theorem p2le {i : Nat} (h : i ≤ 32) : 2 ^ i ≤ 4294967296 := Nat.pow_le_pow_right (n := 2) (by omega) h
theorem shr_nat {k : IntKind} {w i : Nat} (h : i ≤ k.bits) : shr k (w : Int) (i : Int) = ((w / 2 ^ i : Nat) : Int) := by
  unfold shr
  rw [Int.toNat_natCast, Nat.min_eq_left h, p2, Int.fdiv_eq_ediv_of_nonneg _ (Int.natCast_nonneg _)]
  rfl
theorem shl_u32 {w i : Nat} (h : i ≤ 32) (hw : w * 2 ^ i < 4294967296) : shl .u32 (w : Int) (i : Int) = ((w * 2 ^ i : Nat) : Int) := by
  unfold shl
  rw [Int.toNat_natCast, show min i IntKind.u32.bits = i from Nat.min_eq_left h, p2, ← Int.natCast_mul]
  exact wrap_nat (k := .u32) hw
theorem band_one {x : Nat} (h : x < 4294967296) : band .u32 (x : Int) 1 = ((x % 2 : Nat) : Int) := by
  rw [band_nat (by omega) (by simp only [umax]; omega) (by omega) (by decide)]
  rw [Int.toNat_natCast, show (1 : Int).toNat = 1 from rfl, Nat.and_one_is_mod]
theorem bor_u32 {x y : Nat} (hx : x < 4294967296) (hy : y < 4294967296) : bor .u32 (x : Int) (y : Int) = ((x ||| y : Nat) : Int) := by
  rw [bor_nat (by decide) (by omega) (by simp only [umax]; omega) (by omega) (by simp only [umax]; omega)]
  rfl
theorem bandn_u32 {x y : Nat} (hx : x < 4294967296) (hy : y < 4294967296) : bandn .u32 (x : Int) (y : Int) = ((x &&& (4294967295 - y) : Nat) : Int) := by
  rw [bandn_nat (by decide) (by omega) (by simp only [umax]; omega) (by omega) (by simp only [umax]; omega)]
  rfl
/-- A bit that is none is put in. -/
theorem or_bit {v i b : Nat} (h : v / 2 ^ i % 2 = 0) (hb : b ≤ 1) : v ||| b * 2 ^ i = v + b * 2 ^ i := by
  have hp := p2pos i
  have hr : v % 2 ^ i < 2 ^ i := Nat.mod_lt _ hp
  have hv : v = 2 ^ i * (v / 2 ^ i) + v % 2 ^ i := (Nat.div_add_mod v (2 ^ i)).symm
  obtain ⟨m, hm⟩ : ∃ m, v / 2 ^ i = 2 * m := ⟨v / 2 ^ i / 2, by omega⟩
  have e1 : 2 * m ||| b = 2 * m + b := by
    have := or_high (x := m) (y := b) (n := 1) (by omega)
    simpa using this
  have e2 : v ||| b * 2 ^ i = 2 ^ i * (2 * m ||| b) ||| v % 2 ^ i := by
    conv => lhs; rw [hv, ← or_high hr]
    rw [hm, Nat.mul_comm b, Nat.or_assoc, Nat.or_comm (v % 2 ^ i), ← Nat.or_assoc]
    congr 1
    rw [Nat.mul_comm _ (2 * m), Nat.mul_comm _ b, Nat.mul_comm _ (2 * m ||| b), ← Nat.shiftLeft_eq, ← Nat.shiftLeft_eq, ← Nat.shiftLeft_eq, Nat.shiftLeft_or_distrib]
  rw [e2, e1, or_high hr]
  conv => rhs; rw [hv, hm]
  rw [Nat.mul_add, Nat.mul_comm b]
  omega
theorem andn_bit {v i : Nat} (h : v / 2 ^ i % 2 = 0) (hv : v < 4294967296) (hi : i < 32) : v &&& (4294967295 - 2 ^ i) = v := by
  have h2 : 2 ^ i < 2 ^ 32 := Nat.pow_lt_pow_right (by omega) hi
  apply Nat.eq_of_testBit_eq
  intro j
  rw [Nat.testBit_and, show 4294967295 - 2 ^ i = 2 ^ 32 - (2 ^ i + 1) by omega, Nat.testBit_two_pow_sub_succ h2, Nat.testBit_two_pow]
  by_cases hj : j < 32
  · by_cases e : i = j
    · subst e
      have : v.testBit i = false := by rw [Nat.testBit_eq_decide_div_mod_eq, h]; rfl
      simp [this]
    · simp [hj, e]
  · have : v.testBit j = false := Nat.testBit_lt_two_pow (Nat.lt_of_lt_of_le hv (by have : 2 ^ 32 ≤ 2 ^ j := Nat.pow_le_pow_right (by omega) (by omega); omega))
    simp [this]
theorem get_is {w at' n : Nat} (hw : w < 4294967296) (h1 : 1 ≤ n) (h2 : at' + n ≤ 32) : field_Get (w : Int) (at' : Int) (n : Int) = some ((w / 2 ^ at' % 2 ^ n : Nat) : Int) := by
  have key : ∀ k p, p + k = n → loopO field_each.b1 ((at' : Int), (n : Int), ((at' + p : Nat) : Int), ((w / 2 ^ at' % 2 ^ p : Nat) : Int), (w : Int)) = some (((w / 2 ^ at' % 2 ^ n : Nat) : Int), (w : Int)) := by
    intro k
    induction k with
    | zero =>
      intro p hp
      obtain rfl : p = n := by omega
      refine loopO_done ?_
      simp only [field_each.b1]
      have e : w64 (((at' + p : Nat) : Int) - (at' : Int)) = (p : Int) := by rw [w64s (by omega) (by omega)]; omega
      rw [e]
      by_cases h : ((at' + p : Nat) : Int) < 32
      · rw [if_pos h]; simp
      · rw [if_neg h]
    | succ k ih =>
      intro p hp
      rw [← ih (p + 1) (by omega)]
      refine loopO_next ?_
      simp only [field_each.b1, field_Get_1]
      have e : w64 (((at' + p : Nat) : Int) - (at' : Int)) = (p : Int) := by rw [w64s (by omega) (by omega)]; omega
      have hq : w / 2 ^ (at' + p) < 4294967296 := Nat.lt_of_le_of_lt (Nat.div_le_self _ _) hw
      have hb : w / 2 ^ (at' + p) % 2 < 2 := Nat.mod_lt _ (by omega)
      have hp2 : 2 ^ p * 2 ≤ 4294967296 := by rw [← Nat.pow_succ]; exact p2le (by omega)
      have hbp : w / 2 ^ (at' + p) % 2 * 2 ^ p ≤ 1 * 2 ^ p := Nat.mul_le_mul_right _ (by omega)
      have ho : w / 2 ^ at' % 2 ^ p < 2 ^ p := Nat.mod_lt _ (p2pos p)
      rw [if_pos (by omega), e, if_pos (by omega), if_pos (by omega), if_pos (by omega), shr_nat (k := .u32) (by simp only [IntKind.bits]; omega), band_one hq, shl_u32 (by omega) (by omega), bor_u32 (by omega) (by omega), w64s (by omega) (by omega)]
      have e2 : w / 2 ^ at' % 2 ^ p ||| w / 2 ^ (at' + p) % 2 * 2 ^ p = w / 2 ^ at' % 2 ^ (p + 1) := by
        rw [Nat.or_comm, Nat.mul_comm, or_high ho, Nat.mod_pow_succ, Nat.pow_add, ← Nat.div_div_eq_div_mul, Nat.add_comm]
      rw [e2]
      rfl
  have h0 := key n 0 (by omega)
  have hm : mxx (at' : Int) 0 = (at' : Int) := by unfold mxx; rw [if_neg (by omega)]
  simp only [Nat.pow_zero, Nat.mod_one, Nat.add_zero] at h0
  have h0' : loopO field_each.b1 ((at' : Int), (n : Int), (at' : Int), 0, (w : Int)) = some (((w / 2 ^ at' % 2 ^ n : Nat) : Int), (w : Int)) := h0
  unfold field_Get field_each
  rw [if_neg (by omega), if_neg (by omega), if_neg (by rw [w64s (by omega) (by omega)]; omega), hm, h0']
  rfl
theorem set_is {w at' n x : Nat} (hw : w < 4294967296) (hx : x < 4294967296) (h1 : 1 ≤ n) (h2 : at' + n ≤ 32) (hz : w / 2 ^ at' % 2 ^ n = 0) : field_Set (w : Int) (at' : Int) (n : Int) (x : Int) = some ((w + x % 2 ^ n * 2 ^ at' : Nat) : Int) := by
  have hwd : w = 2 ^ at' * (2 ^ n * (w / 2 ^ at' / 2 ^ n)) + w % 2 ^ at' := by
    have e1 := Nat.div_add_mod w (2 ^ at')
    have e2 := Nat.div_add_mod (w / 2 ^ at') (2 ^ n)
    rw [hz, Nat.add_zero] at e2
    rw [e2]; exact e1.symm
  have hlow : w % 2 ^ at' < 2 ^ at' := Nat.mod_lt _ (p2pos _)
  -- the field's place
  have hdiv : ∀ p y, p < n → y < 2 ^ p → (w + y * 2 ^ at') / 2 ^ (at' + p) % 2 = 0 := by
    intro p y hp hy
    have e : (w + y * 2 ^ at') / 2 ^ at' = 2 ^ n * (w / 2 ^ at' / 2 ^ n) + y := by
      conv => lhs; rw [hwd]
      rw [show 2 ^ at' * (2 ^ n * (w / 2 ^ at' / 2 ^ n)) + w % 2 ^ at' + y * 2 ^ at' = w % 2 ^ at' + 2 ^ at' * (2 ^ n * (w / 2 ^ at' / 2 ^ n) + y) by rw [Nat.mul_add, Nat.mul_comm y]; omega]
      rw [Nat.add_mul_div_left _ _ (p2pos _), Nat.div_eq_of_lt hlow, Nat.zero_add]
    rw [Nat.pow_add, ← Nat.div_div_eq_div_mul, e]
    rw [show n = p + (1 + (n - p - 1)) by omega, Nat.pow_add, Nat.mul_assoc, Nat.add_comm, Nat.add_mul_div_left _ _ (p2pos _), Nat.div_eq_of_lt hy, Nat.zero_add, Nat.pow_add, Nat.mul_assoc, Nat.pow_one]
    exact Nat.mul_mod_right _ _
  have hlt : ∀ p y, p ≤ n → y < 2 ^ p → w + y * 2 ^ at' < 4294967296 := by
    intro p y hp hy
    have hy : y < 2 ^ n := Nat.lt_of_lt_of_le hy (Nat.pow_le_pow_right (by omega) hp)
    have hm : y * 2 ^ at' + 2 ^ at' ≤ 2 ^ n * 2 ^ at' := by rw [← Nat.succ_mul]; exact Nat.mul_le_mul_right _ hy
    have hk : 2 ^ at' * (2 ^ n * (w / 2 ^ at' / 2 ^ n)) + 2 ^ n * 2 ^ at' ≤ 4294967296 := by
      have e : 2 ^ at' * (2 ^ n * (w / 2 ^ at' / 2 ^ n)) + 2 ^ n * 2 ^ at' = 2 ^ (at' + n) * (w / 2 ^ (at' + n) + 1) := by
        rw [Nat.div_div_eq_div_mul, ← Nat.pow_add, ← Nat.mul_assoc, ← Nat.pow_add, Nat.mul_add, Nat.mul_one, Nat.mul_comm (2 ^ n), ← Nat.pow_add]
      rw [e]
      have hs : 2 ^ 32 = 2 ^ (at' + n) * 2 ^ (32 - (at' + n)) := by rw [← Nat.pow_add]; congr 1; omega
      have hlt : w / 2 ^ (at' + n) < 2 ^ (32 - (at' + n)) := by
        apply Nat.div_lt_of_lt_mul
        rw [← hs]; exact hw
      calc 2 ^ (at' + n) * (w / 2 ^ (at' + n) + 1) ≤ 2 ^ (at' + n) * 2 ^ (32 - (at' + n)) := Nat.mul_le_mul_left _ hlt
        _ = 4294967296 := by rw [← hs]
    omega
  have key : ∀ k p, p + k = n → loopO field_each_v65.b1 ((at' : Int), (n : Int), ((at' + p : Nat) : Int), ((w + x % 2 ^ p * 2 ^ at' : Nat) : Int), (x : Int)) = some (((w + x % 2 ^ n * 2 ^ at' : Nat) : Int), (x : Int)) := by
    intro k
    induction k with
    | zero =>
      intro p hp
      obtain rfl : p = n := by omega
      refine loopO_done ?_
      simp only [field_each_v65.b1]
      have e : w64 (((at' + p : Nat) : Int) - (at' : Int)) = (p : Int) := by rw [w64s (by omega) (by omega)]; omega
      rw [e]
      by_cases h : ((at' + p : Nat) : Int) < 32
      · rw [if_pos h]; simp
      · rw [if_neg h]
    | succ k ih =>
      intro p hp
      rw [← ih (p + 1) (by omega)]
      refine loopO_next ?_
      simp only [field_each_v65.b1, field_Set_1]
      have e : w64 (((at' + p : Nat) : Int) - (at' : Int)) = (p : Int) := by rw [w64s (by omega) (by omega)]; omega
      have hy : x % 2 ^ p < 2 ^ p := Nat.mod_lt _ (p2pos _)
      have hv := hlt p (x % 2 ^ p) (by omega) hy
      have hd := hdiv p (x % 2 ^ p) (by omega) hy
      have hq : x / 2 ^ p < 4294967296 := Nat.lt_of_le_of_lt (Nat.div_le_self _ _) hx
      have hb : x / 2 ^ p % 2 < 2 := Nat.mod_lt _ (by omega)
      have hi : 2 ^ (at' + p) * 2 ≤ 4294967296 := by rw [← Nat.pow_succ]; exact p2le (by omega)
      have hbp : x / 2 ^ p % 2 * 2 ^ (at' + p) ≤ 1 * 2 ^ (at' + p) := Nat.mul_le_mul_right _ (by omega)
      have hs1 : shl .u32 (1 : Int) ((at' + p : Nat) : Int) = ((1 * 2 ^ (at' + p) : Nat) : Int) := shl_u32 (w := 1) (by omega) (by omega)
      rw [if_pos (by omega), e, if_pos (by omega), if_pos (by omega), if_pos (by omega), if_pos (by omega), hs1, Nat.one_mul, bandn_u32 hv (by omega), andn_bit hd hv (by omega), shr_nat (k := .u32) (by simp only [IntKind.bits]; omega), band_one hq, shl_u32 (by omega) (by omega), bor_u32 hv (by omega), or_bit hd (by omega), w64s (by omega) (by omega)]
      have e2 : w + x % 2 ^ p * 2 ^ at' + x / 2 ^ p % 2 * 2 ^ (at' + p) = w + x % 2 ^ (p + 1) * 2 ^ at' := by
        rw [Nat.mod_pow_succ, Nat.add_mul, Nat.pow_add, Nat.mul_comm (2 ^ p) (x / 2 ^ p % 2), Nat.mul_assoc, Nat.mul_comm (2 ^ p) (2 ^ at'), Nat.add_assoc]
      rw [e2]
      rfl
  have h0 := key n 0 (by omega)
  have hm : mxx (at' : Int) 0 = (at' : Int) := by unfold mxx; rw [if_neg (by omega)]
  simp only [Nat.pow_zero, Nat.mod_one, Nat.zero_mul, Nat.add_zero] at h0
  have h0' : loopO field_each_v65.b1 ((at' : Int), (n : Int), (at' : Int), (w : Int), (x : Int)) = some (((w + x % 2 ^ n * 2 ^ at' : Nat) : Int), (x : Int)) := h0
  unfold field_Set field_each_v65
  rw [if_neg (by omega), if_neg (by omega), if_neg (by rw [w64s (by omega) (by omega)]; omega), hm, h0']
  rfl
end Go.Proofs.YtheccnbamcdpmaaGreatDoor.ZD
namespace Go.Proofs.YtheccnbamcdpmaaGreatDoor.ZD
set_option linter.unusedVariables false
set_option linter.unusedSimpArgs false
open Go Go.RowKit Go.Proofs.YtheccnbamcdpmaaGreatDoor.E
/-- The lowest n bits of a number. -/
def fld (f : Int) (n : Nat) : Nat := (f % ((2 ^ n : Nat) : Int)).toNat
theorem fld_lt (f : Int) (n : Nat) : fld f n < 2 ^ n := by
  unfold fld
  have := Int.emod_lt_of_pos f (show (0 : Int) < ((2 ^ n : Nat) : Int) by have := p2pos n; omega)
  have := Int.emod_nonneg f (show ((2 ^ n : Nat) : Int) ≠ 0 by have := p2pos n; omega)
  omega
theorem fld_int (f : Int) (n : Nat) : ((fld f n : Nat) : Int) = f % ((2 ^ n : Nat) : Int) := by
  unfold fld
  exact Int.toNat_of_nonneg (Int.emod_nonneg f (by have := p2pos n; omega))
theorem fld_w (f : Int) {n : Nat} (h : n ≤ 32) : (wu32 f).toNat % 2 ^ n = fld f n := by
  have hd : ((2 ^ n : Nat) : Int) ∣ 4294967296 := by
    refine ⟨((2 ^ (32 - n) : Nat) : Int), ?_⟩
    rw [← Int.natCast_mul, ← Nat.pow_add, show n + (32 - n) = 32 by omega]
    rfl
  have h1 : f % 4294967296 % ((2 ^ n : Nat) : Int) = f % ((2 ^ n : Nat) : Int) := Int.emod_emod_of_dvd f hd
  have h0 : 0 ≤ f % 4294967296 := Int.emod_nonneg f (by omega)
  have : (((wu32 f).toNat % 2 ^ n : Nat) : Int) = ((fld f n : Nat) : Int) := by
    rw [fld_int, ← h1, wu32_eq, Int.natCast_emod, Int.toNat_of_nonneg h0]
  omega
theorem v3 (a b c : Int) : vset (vset (vset (Vector.replicate 3 0) 0 a) (0 + 1) b) (1 + 1) c = #v[a, b, c] := rfl
theorem lay_step {l : List (Vector Int 3)} {i v a n : Nat} {f : Int} (hv : v < 4294967296) (hz : v / 2 ^ a % 2 ^ n = 0) (h1 : 1 ≤ n) (h2 : a + n ≤ 32) (hl : l[i]? = some #v[(a : Int), (n : Int), f]) (hi : l.length < 1000) :
    loopO isa_lay.b1 ((v : Int), (l.length : Int), (i : Int), l) = loopO isa_lay.b1 (((v + fld f n * 2 ^ a : Nat) : Int), (l.length : Int), ((i + 1 : Nat) : Int), l) := by
  refine loopO_next ?_
  have hlt : i < l.length := (List.getElem?_eq_some_iff.1 hl).1
  have hx : ix (Vector.replicate 3 0) l (i : Int) = #v[(a : Int), (n : Int), f] := by
    show l.getD (i : Int).toNat _ = _
    rw [Int.toNat_natCast, List.getD_eq_getElem?_getD, hl]
    rfl
  have hw : wu32 f = (((wu32 f).toNat : Nat) : Int) := by rw [wu32_eq]; omega
  have hw2 : (wu32 f).toNat < 4294967296 := by rw [wu32_eq]; omega
  have hs := set_is hv hw2 h1 h2 hz
  rw [fld_w f (by omega)] at hs
  simp only [isa_lay.b1]
  rw [if_pos (by omega), if_pos (by omega), hx]
  have e0 : vx 0 (#v[(a : Int), (n : Int), f] : Vector Int 3) (Int.toNat 0) = (a : Int) := rfl
  have e1 : vx 0 (#v[(a : Int), (n : Int), f] : Vector Int 3) (Int.toNat 1) = (n : Int) := rfl
  have e2 : vx 0 (#v[(a : Int), (n : Int), f] : Vector Int 3) (Int.toNat 2) = f := rfl
  rw [e0, e1, e2, hw, hs, w64s (by omega) (by omega)]
  rfl
theorem lay_end {l : List (Vector Int 3)} {v : Int} : loopO isa_lay.b1 (v, (l.length : Int), (l.length : Int), l) = some v := by
  refine loopO_done ?_
  simp only [isa_lay.b1]
  rw [if_neg (by omega)]
def b2n (b : Bool) : Nat := if b then 1 else 0
theorem head_is (f : Nat) (hf : f < 4) (u v : Bool) : isa_head (f : Int) u v = some #v[28, 4, ((4 * f + 2 * b2n u + b2n v : Nat) : Int)] := by
  have h : f = 0 ∨ f = 1 ∨ f = 2 ∨ f = 3 := by omega
  rcases h with rfl | rfl | rfl | rfl <;> cases u <;> cases v <;> rfl
theorem fld_small {x n : Nat} (h : x < 2 ^ n) : fld (x : Int) n = x := by
  unfold fld
  rw [Int.emod_eq_of_lt (by omega) (by omega)]
  rfl
theorem hd_lt (f : Nat) (hf : f < 4) (u v : Bool) : 4 * f + 2 * b2n u + b2n v < 16 := by cases u <;> cases v <;> simp [b2n] <;> omega
section
variable (A B C O M : Int) (U : Bool)
theorem word1 : isa_word ⟨1, O, A, B, C, M, U⟩ = some (((4 * 0 + 2 * b2n U + b2n false) * 268435456 + fld A 4 * 16777216 + fld B 4 * 1048576 + fld O 4 * 65536 + fld C 4 : Nat) : Int) := by
  unfold isa_word
  have hh := head_is 0 (by omega) U false
  have hb := hd_lt 0 (by omega) U false
  have ha := fld_lt A 4; have hb' := fld_lt B 4; have ho := fld_lt O 4; have hc := fld_lt C 4
  simp only [Int.natCast_zero, if_true] at hh ⊢
  rw [hh]
  simp only [v3, Option.bind_some, isa_lay]
  generalize 4 * 0 + 2 * b2n U + b2n false = h at *
  have hq := fld_small (x := h) (n := 4) hb
  have s0 := lay_step (l := [#v[28, 4, (h : Int)], #v[24, 4, A], #v[20, 4, B], #v[16, 4, O], #v[0, 4, C]]) (i := 0) (v := 0) (a := 28) (n := 4) (f := (h : Int)) (by omega) (by decide) (by omega) (by omega) rfl (by simp)
  have s1 := lay_step (l := [#v[28, 4, (h : Int)], #v[24, 4, A], #v[20, 4, B], #v[16, 4, O], #v[0, 4, C]]) (i := 1) (v := 0 + fld (h : Int) 4 * 2 ^ 28) (a := 24) (n := 4) (f := A) (by rw [hq]; omega) (by rw [hq]; omega) (by omega) (by omega) rfl (by simp)
  have s2 := lay_step (l := [#v[28, 4, (h : Int)], #v[24, 4, A], #v[20, 4, B], #v[16, 4, O], #v[0, 4, C]]) (i := 2) (v := 0 + fld (h : Int) 4 * 2 ^ 28 + fld A 4 * 2 ^ 24) (a := 20) (n := 4) (f := B) (by rw [hq]; omega) (by rw [hq]; omega) (by omega) (by omega) rfl (by simp)
  have s3 := lay_step (l := [#v[28, 4, (h : Int)], #v[24, 4, A], #v[20, 4, B], #v[16, 4, O], #v[0, 4, C]]) (i := 3) (v := 0 + fld (h : Int) 4 * 2 ^ 28 + fld A 4 * 2 ^ 24 + fld B 4 * 2 ^ 20) (a := 16) (n := 4) (f := O) (by rw [hq]; omega) (by rw [hq]; omega) (by omega) (by omega) rfl (by simp)
  have s4 := lay_step (l := [#v[28, 4, (h : Int)], #v[24, 4, A], #v[20, 4, B], #v[16, 4, O], #v[0, 4, C]]) (i := 4) (v := 0 + fld (h : Int) 4 * 2 ^ 28 + fld A 4 * 2 ^ 24 + fld B 4 * 2 ^ 20 + fld O 4 * 2 ^ 16) (a := 0) (n := 4) (f := C) (by rw [hq]; omega) (by rw [hq]; omega) (by omega) (by omega) rfl (by simp)
  have e := ((((s0.trans s1).trans s2).trans s3).trans s4).trans (lay_end (l := [#v[28, 4, (h : Int)], #v[24, 4, A], #v[20, 4, B], #v[16, 4, O], #v[0, 4, C]]))
  simp only [Int.natCast_zero] at e
  rw [e]
  simp only [Option.bind_some]
  rw [hq]
  congr 2
  omega
theorem word34 {K : Int} (hK : K = 3 ∨ K = 4) : isa_word ⟨K, O, A, B, C, M, U⟩ = some (((4 * 0 + 2 * b2n true + b2n (decide (K = 4))) * 268435456 + fld A 4 * 16777216 : Nat) : Int) := by
  unfold isa_word
  have hh := head_is 0 (by omega) true (decide (K = 4))
  have hb := hd_lt 0 (by omega) true (decide (K = 4))
  have ha := fld_lt A 4
  have e3 : decide (K = 4) = decide (K = 4) := rfl
  simp only []
  rw [if_neg (by omega)]
  have e4 : ∀ (x : Int) (b b' : Bool) (p q r t : Int) (z1 z2 z3 z4 : Vector Int 3), b = true → b' = true → isa_word.j1 x b K p q r t M U z1 z2 z3 z4 = isa_word.j1 x b' K p q r t M U z1 z2 z3 z4 := by intro x b b' p q r t z1 z2 z3 z4 h h'; rw [h, h']
  have e5 : ∀ {α : Type} (a b : α), (K = 3 → a = b) → (if K = 3 then a else b) = b := by intro α a b h; split; exact h ‹_›; rfl
  simp only [isa_word.j1]
  have e6 : ∀ {α : Type} (a b : α), (if K = 3 then a else if decide (K = 4) = true then a else b) = a := by
    intro α a b
    split
    · rfl
    · rw [if_pos (by simp; omega)]
  simp only [if_true]
  rw [e6]
  clear e4 e5 e6 e3
  simp only [Int.natCast_zero] at hh
  rw [hh]
  simp only [v3, Option.bind_some, isa_lay]
  generalize 4 * 0 + 2 * b2n true + b2n (decide (K = 4)) = h at *
  have hq := fld_small (x := h) (n := 4) hb
  have s0 := lay_step (l := [#v[28, 4, (h : Int)], #v[24, 4, A]]) (i := 0) (v := 0) (a := 28) (n := 4) (f := (h : Int)) (by omega) (by decide) (by omega) (by omega) rfl (by simp)
  have s1 := lay_step (l := [#v[28, 4, (h : Int)], #v[24, 4, A]]) (i := 1) (v := 0 + fld (h : Int) 4 * 2 ^ 28) (a := 24) (n := 4) (f := A) (by rw [hq]; omega) (by rw [hq]; omega) (by omega) (by omega) rfl (by simp)
  have e := (s0.trans s1).trans (lay_end (l := [#v[28, 4, (h : Int)], #v[24, 4, A]]))
  simp only [Int.natCast_zero] at e
  rw [e]
  simp only [Option.bind_some]
  rw [hq]
  congr 2
  omega
theorem word2 : isa_word ⟨2, O, A, B, C, M, U⟩ = some (((4 * 1 + 2 * b2n U + b2n (decide (M < 0))) * 268435456 + fld A 4 * 16777216 + fld B 4 * 1048576 + fld O 4 * 65536 + fld M 16 : Nat) : Int) := by
  unfold isa_word
  have hh := head_is 1 (by omega) U (decide (M < 0))
  have hb := hd_lt 1 (by omega) U (decide (M < 0))
  have ha := fld_lt A 4; have hb' := fld_lt B 4; have ho := fld_lt O 4; have hc := fld_lt M 16
  simp only
  rw [if_neg (by omega), if_neg (by omega)]
  simp only [isa_word.j1]
  rw [if_neg (by simp), if_pos trivial]
  have hh : isa_head 1 U (decide (M < 0)) = _ := hh
  rw [hh]
  simp only [v3, Option.bind_some, isa_lay]
  generalize 4 * 1 + 2 * b2n U + b2n (decide (M < 0)) = h at *
  have hq := fld_small (x := h) (n := 4) hb
  have s0 := lay_step (l := [#v[28, 4, (h : Int)], #v[24, 4, A], #v[20, 4, B], #v[16, 4, O], #v[0, 16, M]]) (i := 0) (v := 0) (a := 28) (n := 4) (f := (h : Int)) (by omega) (by decide) (by omega) (by omega) rfl (by simp)
  have s1 := lay_step (l := [#v[28, 4, (h : Int)], #v[24, 4, A], #v[20, 4, B], #v[16, 4, O], #v[0, 16, M]]) (i := 1) (v := 0 + fld (h : Int) 4 * 2 ^ 28) (a := 24) (n := 4) (f := A) (by rw [hq]; omega) (by rw [hq]; omega) (by omega) (by omega) rfl (by simp)
  have s2 := lay_step (l := [#v[28, 4, (h : Int)], #v[24, 4, A], #v[20, 4, B], #v[16, 4, O], #v[0, 16, M]]) (i := 2) (v := 0 + fld (h : Int) 4 * 2 ^ 28 + fld A 4 * 2 ^ 24) (a := 20) (n := 4) (f := B) (by rw [hq]; omega) (by rw [hq]; omega) (by omega) (by omega) rfl (by simp)
  have s3 := lay_step (l := [#v[28, 4, (h : Int)], #v[24, 4, A], #v[20, 4, B], #v[16, 4, O], #v[0, 16, M]]) (i := 3) (v := 0 + fld (h : Int) 4 * 2 ^ 28 + fld A 4 * 2 ^ 24 + fld B 4 * 2 ^ 20) (a := 16) (n := 4) (f := O) (by rw [hq]; omega) (by rw [hq]; omega) (by omega) (by omega) rfl (by simp)
  have s4 := lay_step (l := [#v[28, 4, (h : Int)], #v[24, 4, A], #v[20, 4, B], #v[16, 4, O], #v[0, 16, M]]) (i := 4) (v := 0 + fld (h : Int) 4 * 2 ^ 28 + fld A 4 * 2 ^ 24 + fld B 4 * 2 ^ 20 + fld O 4 * 2 ^ 16) (a := 0) (n := 16) (f := M) (by rw [hq]; omega) (by rw [hq]; omega) (by omega) (by omega) rfl (by simp)
  have e := ((((s0.trans s1).trans s2).trans s3).trans s4).trans (lay_end (l := [#v[28, 4, (h : Int)], #v[24, 4, A], #v[20, 4, B], #v[16, 4, O], #v[0, 16, M]]))
  simp only [Int.natCast_zero] at e
  rw [e]
  simp only [Option.bind_some]
  rw [hq]
  congr 2
  omega
theorem word5 : isa_word ⟨5, O, A, B, C, M, U⟩ = some (((4 * 2 + 2 * b2n (decide (O ≥ 2)) + b2n (decide (Int.tmod O 2 = 1))) * 268435456 + fld A 4 * 16777216 + fld B 4 * 1048576 + fld M 20 : Nat) : Int) := by
  unfold isa_word
  have hh := head_is 2 (by omega) (decide (O ≥ 2)) (decide (Int.tmod O 2 = 1))
  have hb := hd_lt 2 (by omega) (decide (O ≥ 2)) (decide (Int.tmod O 2 = 1))
  have ha := fld_lt A 4; have hb' := fld_lt B 4; have hc := fld_lt M 20
  simp only
  rw [if_neg (by omega), if_neg (by omega)]
  simp only [isa_word.j1]
  rw [if_neg (by simp), if_neg (by omega), if_pos trivial]
  have hh : isa_head 2 (decide (O ≥ 2)) (decide (Int.tmod O 2 = 1)) = _ := hh
  rw [hh]
  simp only [v3, Option.bind_some, isa_lay]
  generalize 4 * 2 + 2 * b2n (decide (O ≥ 2)) + b2n (decide (Int.tmod O 2 = 1)) = h at *
  have hq := fld_small (x := h) (n := 4) hb
  have s0 := lay_step (l := [#v[28, 4, (h : Int)], #v[24, 4, A], #v[20, 4, B], #v[0, 20, M]]) (i := 0) (v := 0) (a := 28) (n := 4) (f := (h : Int)) (by omega) (by decide) (by omega) (by omega) rfl (by simp)
  have s1 := lay_step (l := [#v[28, 4, (h : Int)], #v[24, 4, A], #v[20, 4, B], #v[0, 20, M]]) (i := 1) (v := 0 + fld (h : Int) 4 * 2 ^ 28) (a := 24) (n := 4) (f := A) (by rw [hq]; omega) (by rw [hq]; omega) (by omega) (by omega) rfl (by simp)
  have s2 := lay_step (l := [#v[28, 4, (h : Int)], #v[24, 4, A], #v[20, 4, B], #v[0, 20, M]]) (i := 2) (v := 0 + fld (h : Int) 4 * 2 ^ 28 + fld A 4 * 2 ^ 24) (a := 20) (n := 4) (f := B) (by rw [hq]; omega) (by rw [hq]; omega) (by omega) (by omega) rfl (by simp)
  have s3 := lay_step (l := [#v[28, 4, (h : Int)], #v[24, 4, A], #v[20, 4, B], #v[0, 20, M]]) (i := 3) (v := 0 + fld (h : Int) 4 * 2 ^ 28 + fld A 4 * 2 ^ 24 + fld B 4 * 2 ^ 20) (a := 0) (n := 20) (f := M) (by rw [hq]; omega) (by rw [hq]; omega) (by omega) (by omega) rfl (by simp)
  have e := (((s0.trans s1).trans s2).trans s3).trans (lay_end (l := [#v[28, 4, (h : Int)], #v[24, 4, A], #v[20, 4, B], #v[0, 20, M]]))
  simp only [Int.natCast_zero] at e
  rw [e]
  simp only [Option.bind_some]
  rw [hq]
  congr 2
  omega
theorem word6 : isa_word ⟨6, O, A, B, C, M, U⟩ = some (((4 * 3 + 2 * b2n false + b2n U) * 268435456 + fld O 4 * 16777216 + fld C 4 : Nat) : Int) := by
  unfold isa_word
  have hh := head_is 3 (by omega) false U
  have hb := hd_lt 3 (by omega) false U
  have ha := fld_lt O 4; have hc := fld_lt C 4
  simp only
  rw [if_neg (by omega), if_neg (by omega)]
  simp only [isa_word.j1]
  rw [if_neg (by simp), if_neg (by omega), if_neg (by omega), if_pos trivial]
  have hh : isa_head 3 false U = _ := hh
  rw [hh]
  simp only [v3, Option.bind_some, isa_lay]
  generalize 4 * 3 + 2 * b2n false + b2n U = h at *
  have hq := fld_small (x := h) (n := 4) hb
  have s0 := lay_step (l := [#v[28, 4, (h : Int)], #v[24, 4, O], #v[0, 4, C]]) (i := 0) (v := 0) (a := 28) (n := 4) (f := (h : Int)) (by omega) (by decide) (by omega) (by omega) rfl (by simp)
  have s1 := lay_step (l := [#v[28, 4, (h : Int)], #v[24, 4, O], #v[0, 4, C]]) (i := 1) (v := 0 + fld (h : Int) 4 * 2 ^ 28) (a := 24) (n := 4) (f := O) (by rw [hq]; omega) (by rw [hq]; omega) (by omega) (by omega) rfl (by simp)
  have s2 := lay_step (l := [#v[28, 4, (h : Int)], #v[24, 4, O], #v[0, 4, C]]) (i := 2) (v := 0 + fld (h : Int) 4 * 2 ^ 28 + fld O 4 * 2 ^ 24) (a := 0) (n := 4) (f := C) (by rw [hq]; omega) (by rw [hq]; omega) (by omega) (by omega) rfl (by simp)
  have e := ((s0.trans s1).trans s2).trans (lay_end (l := [#v[28, 4, (h : Int)], #v[24, 4, O], #v[0, 4, C]]))
  simp only [Int.natCast_zero] at e
  rw [e]
  simp only [Option.bind_some]
  rw [hq]
  congr 2
  omega
theorem word7 : isa_word ⟨7, O, A, B, C, M, U⟩ = some (((4 * 3 + 2 * b2n true + b2n U) * 268435456 + fld O 4 * 16777216 + fld M 24 : Nat) : Int) := by
  unfold isa_word
  have hh := head_is 3 (by omega) true U
  have hb := hd_lt 3 (by omega) true U
  have ha := fld_lt O 4; have hc := fld_lt M 24
  simp only
  rw [if_neg (by omega), if_neg (by omega)]
  simp only [isa_word.j1]
  rw [if_neg (by simp), if_neg (by omega), if_neg (by omega), if_neg (by omega)]
  have hh : isa_head 3 true U = _ := hh
  rw [hh]
  simp only [v3, Option.bind_some, isa_lay]
  generalize 4 * 3 + 2 * b2n true + b2n U = h at *
  have hq := fld_small (x := h) (n := 4) hb
  have s0 := lay_step (l := [#v[28, 4, (h : Int)], #v[24, 4, O], #v[0, 24, M]]) (i := 0) (v := 0) (a := 28) (n := 4) (f := (h : Int)) (by omega) (by decide) (by omega) (by omega) rfl (by simp)
  have s1 := lay_step (l := [#v[28, 4, (h : Int)], #v[24, 4, O], #v[0, 24, M]]) (i := 1) (v := 0 + fld (h : Int) 4 * 2 ^ 28) (a := 24) (n := 4) (f := O) (by rw [hq]; omega) (by rw [hq]; omega) (by omega) (by omega) rfl (by simp)
  have s2 := lay_step (l := [#v[28, 4, (h : Int)], #v[24, 4, O], #v[0, 24, M]]) (i := 2) (v := 0 + fld (h : Int) 4 * 2 ^ 28 + fld O 4 * 2 ^ 24) (a := 0) (n := 24) (f := M) (by rw [hq]; omega) (by rw [hq]; omega) (by omega) (by omega) rfl (by simp)
  have e := ((s0.trans s1).trans s2).trans (lay_end (l := [#v[28, 4, (h : Int)], #v[24, 4, O], #v[0, 24, M]]))
  simp only [Int.natCast_zero] at e
  rw [e]
  simp only [Option.bind_some]
  rw [hq]
  congr 2
  omega
end
/-! ### read -/
def dg (w a n : Nat) : Int := ((w / 2 ^ a % 2 ^ n : Nat) : Int)
theorem read1_is {w a n : Nat} (hw : w < 4294967296) (h1 : 1 ≤ n) (h2 : a + n ≤ 32) : isa_read_1 (a : Int) (n : Int) (w : Int) = some (dg w a n) := by
  unfold isa_read_1
  rw [get_is hw h1 h2]
  simp only [Option.bind_some]
  have : w / 2 ^ a % 2 ^ n ≤ w := Nat.le_trans (Nat.mod_le _ _) (Nat.div_le_self _ _)
  rw [w64s (by omega) (by omega)]
  rfl
def sg (w n : Nat) : Int := if w % 2 ^ n ≥ 2 ^ (n - 1) then ((w % 2 ^ n : Nat) : Int) - ((2 ^ n : Nat) : Int) else ((w % 2 ^ n : Nat) : Int)
theorem signed20 {w : Nat} : field_Signed (w : Int) 20 = some (sg w 20) := by
  unfold field_Signed
  have hk : field_known 20 = some 20 := rfl
  rw [hk]
  simp only [Option.bind_some]
  have e : w64 (32 - 20) = 12 := rfl
  rw [e, if_pos (by omega), if_pos (by omega)]
  have e1 : shl .u32 (w : Int) 12 = ((w : Int) * 4096) % 4294967296 := by
    unfold shl; rw [IntKind.wrap_u32]; rfl
  have e2 : ∀ y : Int, shr .i32 y 12 = y / 4096 := by
    intro y; unfold shr; show y.fdiv 4096 = _; exact Int.fdiv_eq_ediv_of_nonneg _ (by omega)
  have e3 : ∀ y : Int, w32 y = (y + 2147483648) % 4294967296 - 2147483648 := by intro y; show IntKind.i32.wrap y = _; rw [IntKind.wrap_i32]
  rw [e1, e2, e3]
  unfold sg
  rw [show (2 : Nat) ^ 20 = 1048576 by decide, show (2 : Nat) ^ (20 - 1) = 524288 by decide, w64s (by omega) (by omega)]
  refine congrArg some ?_
  by_cases h : w % 1048576 ≥ 524288
  · rw [if_pos h]; omega
  · rw [if_neg h]; omega
theorem signed24 {w : Nat} : field_Signed (w : Int) 24 = some (sg w 24) := by
  unfold field_Signed
  have hk : field_known 24 = some 24 := rfl
  rw [hk]
  simp only [Option.bind_some]
  have e : w64 (32 - 24) = 8 := rfl
  rw [e, if_pos (by omega), if_pos (by omega)]
  have e1 : shl .u32 (w : Int) 8 = ((w : Int) * 256) % 4294967296 := by
    unfold shl; rw [IntKind.wrap_u32]; rfl
  have e2 : ∀ y : Int, shr .i32 y 8 = y / 256 := by
    intro y; unfold shr; show y.fdiv 256 = _; exact Int.fdiv_eq_ediv_of_nonneg _ (by omega)
  have e3 : ∀ y : Int, w32 y = (y + 2147483648) % 4294967296 - 2147483648 := by intro y; show IntKind.i32.wrap y = _; rw [IntKind.wrap_i32]
  rw [e1, e2, e3]
  unfold sg
  rw [show (2 : Nat) ^ 24 = 16777216 by decide, show (2 : Nat) ^ (24 - 1) = 8388608 by decide, w64s (by omega) (by omega)]
  refine congrArg some ?_
  by_cases h : w % 16777216 ≥ 8388608
  · rw [if_pos h]; omega
  · rw [if_neg h]; omega
/-- The instruction that a word looks like. -/
def rd (w : Nat) : Sapi_Instr :=
  if dg w 30 2 = 0 then
    (if dg w 29 1 = 1 ∧ dg w 16 4 = 0 then ⟨3 + dg w 28 1, 0, dg w 24 4, 0, 0, 0, false⟩ else ⟨1, dg w 16 4, dg w 24 4, dg w 20 4, dg w 0 4, 0, decide (dg w 29 1 = 1)⟩)
  else if dg w 30 2 = 1 then ⟨2, dg w 16 4, dg w 24 4, dg w 20 4, 0, dg w 0 16 - dg w 28 1 * 65536, decide (dg w 29 1 = 1)⟩
  else if dg w 30 2 = 2 then ⟨5, dg w 29 1 * 2 + dg w 28 1, dg w 24 4, dg w 20 4, 0, sg w 20, false⟩
  else if dg w 29 1 = 1 then ⟨7, dg w 24 4, 0, 0, 0, sg w 24, decide (dg w 28 1 = 1)⟩
  else ⟨6, dg w 24 4, 0, 0, dg w 0 4, 0, decide (dg w 28 1 = 1)⟩
theorem dg_lt (w a n : Nat) : 0 ≤ dg w a n ∧ dg w a n < ((2 ^ n : Nat) : Int) := by
  unfold dg
  have := Nat.mod_lt (w / 2 ^ a) (p2pos n)
  omega
theorem read_is {w : Nat} (hw : w < 4294967296) : isa_read (w : Int) = some (rd w) := by
  have g29 : isa_read_1 29 1 (w : Int) = some (dg w 29 1) := read1_is (a := 29) (n := 1) hw (by omega) (by omega)
  have g28 : isa_read_1 28 1 (w : Int) = some (dg w 28 1) := read1_is (a := 28) (n := 1) hw (by omega) (by omega)
  have g24 : isa_read_1 24 4 (w : Int) = some (dg w 24 4) := read1_is (a := 24) (n := 4) hw (by omega) (by omega)
  have g20 : isa_read_1 20 4 (w : Int) = some (dg w 20 4) := read1_is (a := 20) (n := 4) hw (by omega) (by omega)
  have g16 : isa_read_1 16 4 (w : Int) = some (dg w 16 4) := read1_is (a := 16) (n := 4) hw (by omega) (by omega)
  have g30 : isa_read_1 30 2 (w : Int) = some (dg w 30 2) := read1_is (a := 30) (n := 2) hw (by omega) (by omega)
  have g4 : isa_read_1 0 4 (w : Int) = some (dg w 0 4) := read1_is (a := 0) (n := 4) hw (by omega) (by omega)
  have g0 : isa_read_1 0 16 (w : Int) = some (dg w 0 16) := read1_is (a := 0) (n := 16) hw (by omega) (by omega)
  have b28 := dg_lt w 28 1; have b29 := dg_lt w 29 1; have b16 := dg_lt w 0 16
  simp only [show (2 : Nat) ^ 1 = 2 by decide, show (2 : Nat) ^ 16 = 65536 by decide] at b28 b29 b16
  unfold isa_read rd
  simp only [g29, g28, g24, g20, g16, g30, g4, g0, signed20, signed24, Option.bind_some, isa_read.j1]
  by_cases h0 : dg w 30 2 = 0
  · rw [if_pos h0, if_pos h0]
    by_cases h1 : dg w 29 1 = 1
    · rw [if_pos h1]
      by_cases h2 : dg w 16 4 = 0
      · rw [if_pos (by simp [h2]), if_pos ⟨h1, h2⟩, w64s (by omega) (by omega)]
      · rw [if_neg (by simp [h2]), if_neg (fun h => h2 h.2)]
    · rw [if_neg h1, if_neg (by simp), if_neg (fun h => h1 h.1)]
  · rw [if_neg h0, if_neg h0]
    by_cases h1 : dg w 30 2 = 1
    · rw [if_pos h1, if_pos h1]
      have e : shl .i64 (dg w 28 1) 16 = dg w 28 1 * 65536 := (show shl .i64 (dg w 28 1) 16 = w64 (dg w 28 1 * 65536) from rfl).trans (w64s (by omega) (by omega))
      rw [e, w64s (by omega) (by omega)]
    · rw [if_neg h1, if_neg h1]
      by_cases h2 : dg w 30 2 = 2
      · rw [if_pos h2, if_pos h2, w64s (x := dg w 29 1 * 2) (by omega) (by omega), w64s (by omega) (by omega)]
      · rw [if_neg h2, if_neg h2]
        by_cases h3 : dg w 29 1 = 1
        · rw [if_pos h3, if_pos h3]
        · rw [if_neg h3, if_neg h3]
end Go.Proofs.YtheccnbamcdpmaaGreatDoor.ZD
namespace Go.Proofs.YtheccnbamcdpmaaGreatDoor.ZD
set_option linter.unusedVariables false
set_option linter.unusedSimpArgs false
open Go Go.RowKit Go.Proofs.YtheccnbamcdpmaaGreatDoor.E
theorem digits {W h a r : Nat} (e : W = h * 268435456 + a * 16777216 + r) (hh : h < 16) (ha : a < 16) (hr : r < 16777216) :
    W < 4294967296 ∧ dg W 30 2 = ((h / 4 : Nat) : Int) ∧ dg W 29 1 = ((h / 2 % 2 : Nat) : Int) ∧ dg W 28 1 = ((h % 2 : Nat) : Int) ∧ dg W 24 4 = (a : Int) ∧ dg W 20 4 = ((r / 1048576 : Nat) : Int) ∧ dg W 16 4 = ((r / 65536 % 16 : Nat) : Int) ∧
      dg W 0 4 = ((r % 16 : Nat) : Int) ∧ dg W 0 16 = ((r % 65536 : Nat) : Int) ∧ W % 2 ^ 20 = r % 1048576 ∧ W % 2 ^ 24 = r := by
  unfold dg
  simp only [show (2 : Nat) ^ 30 = 1073741824 by decide, show (2 : Nat) ^ 29 = 536870912 by decide, show (2 : Nat) ^ 28 = 268435456 by decide, show (2 : Nat) ^ 24 = 16777216 by decide, show (2 : Nat) ^ 20 = 1048576 by decide, show (2 : Nat) ^ 16 = 65536 by decide, show (2 : Nat) ^ 4 = 16 by decide, show (2 : Nat) ^ 2 = 4 by decide, show (2 : Nat) ^ 1 = 2 by decide, show (2 : Nat) ^ 0 = 1 by decide, Nat.div_one]
  subst e
  refine ⟨?_, ?_, ?_, ?_, ?_, ?_, ?_, ?_, ?_, ?_, ?_⟩ <;> omega
theorem between_is (n lo hi : Int) : isa_between n lo hi = some (decide (lo ≤ n ∧ n ≤ hi)) := by
  unfold isa_between
  by_cases h : n ≥ lo
  · rw [if_pos h]; congr 1; by_cases h2 : n ≤ hi <;> simp [h2]; omega
  · rw [if_neg h]; congr 1; simp; omega
def MayP (i : Sapi_Instr) : Prop :=
  (0 ≤ i.A ∧ i.A ≤ 15) ∧ (0 ≤ i.B ∧ i.B ≤ 15) ∧ (0 ≤ i.C ∧ i.C ≤ 15) ∧
  ((i.Kind = 1 ∧ i.Imm = 0 ∧ 0 ≤ i.Op ∧ i.Op ≤ 11 ∧ (i.Op = 0 → i.B = 0 ∧ i.U = false) ∧ (i.U = true → 8 ≤ i.Op ∧ i.Op ≤ 10)) ∨
   (i.Kind = 2 ∧ i.C = 0 ∧ 0 ≤ i.Op ∧ i.Op ≤ 11 ∧ -65536 ≤ i.Imm ∧ i.Imm ≤ 65535 ∧ (i.Op = 0 → i.B = 0 ∧ (i.U = true → 0 ≤ i.Imm)) ∧ (i.U = true → i.Op = 0 ∨ (8 ≤ i.Op ∧ i.Op ≤ 10))) ∨
   ((i.Kind = 3 ∨ i.Kind = 4) ∧ i.Op = 0 ∧ i.B = 0 ∧ i.C = 0 ∧ i.Imm = 0 ∧ i.U = false) ∨
   (i.Kind = 5 ∧ i.C = 0 ∧ i.U = false ∧ 0 ≤ i.Op ∧ i.Op ≤ 3 ∧ -524288 ≤ i.Imm ∧ i.Imm ≤ 524287) ∨
   (i.Kind = 6 ∧ i.A = 0 ∧ i.B = 0 ∧ i.Imm = 0 ∧ 0 ≤ i.Op ∧ i.Op ≤ 15) ∨
   (i.Kind = 7 ∧ i.A = 0 ∧ i.B = 0 ∧ i.C = 0 ∧ 0 ≤ i.Op ∧ i.Op ≤ 15 ∧ -8388608 ≤ i.Imm ∧ i.Imm ≤ 8388607))
noncomputable instance (i : Sapi_Instr) : Decidable (MayP i) := Classical.propDecidable _
/-- What May tells, once the word has been read back. -/
def mayR (i j : Sapi_Instr) : Bool :=
  if i.Kind = j.Kind ∧ i.Op = j.Op ∧ i.A = j.A ∧ i.B = j.B ∧ i.C = j.C ∧ i.Imm = j.Imm ∧ i.U = j.U then
    (if i.Kind = 1 ∨ i.Kind = 2 then
      (if i.Op = 0 then decide (i.B = 0 ∧ (i.Kind = 2 ∨ i.U = false) ∧ (i.U = false ∨ i.Imm ≥ 0))
      else if i.Op > 11 then false else decide (i.U = false ∨ (8 ≤ i.Op ∧ i.Op ≤ 10)))
    else true)
  else false
theorem may_read {i j : Sapi_Instr} {W : Nat} (hK : 1 ≤ i.Kind ∧ i.Kind ≤ 7) (hO : 0 ≤ i.Op ∧ i.Op ≤ 15) (hw : isa_word i = some (W : Int)) (hr : isa_read (W : Int) = some j) : isa_May i = some (mayR i j) := by
  unfold isa_May
  rw [between_is, between_is, decide_eq_true hK, decide_eq_true hO]
  simp only [Option.bind_some, if_true]
  rw [hw]
  simp only [Option.bind_some]
  rw [hr]
  simp only [Option.bind_some, isa_May.j1]
  unfold mayR
  by_cases hE : i.Kind = j.Kind ∧ i.Op = j.Op ∧ i.A = j.A ∧ i.B = j.B ∧ i.C = j.C ∧ i.Imm = j.Imm ∧ i.U = j.U
  · rw [if_neg (by obtain ⟨h1, h2, h3, h4, h5, h6, h7⟩ := hE; simp [h1, h2, h3, h4, h5, h6, h7]), if_pos hE]
    clear hE hr hw
    obtain ⟨K, O, A, B, C, M, U⟩ := i
    simp only at *
    by_cases h1 : K = 1
    · subst h1
      by_cases h2 : O = 0
      · by_cases h3 : B = 0 <;> cases U <;> simp [h2, h3]
      · by_cases h4 : O > 11
        · simp [h2, h4]
        · cases U <;> simp [h2, h4, between_is]
    · by_cases h2 : K = 2
      · subst h2
        by_cases h2 : O = 0
        · by_cases h3 : B = 0 <;> cases U <;> simp [h2, h3]
        · by_cases h4 : O > 11
          · simp [h2, h4]
          · cases U <;> simp [h2, h4, between_is]
      · simp [h1, h2]
  · rw [if_pos ?_, if_neg hE]
    simp only [Bool.not_eq_true', Bool.and_eq_false_imp, beq_iff_eq, beq_eq_false_iff_ne, Bool.and_true, ne_eq]
    intro h1 h2 h3 h4 h5 h6 h7
    exact hE ⟨h1, h2, h3, h4, h5, h6, h7⟩
theorem may_is (i : Sapi_Instr) : isa_May i = some (decide (MayP i)) := by
  by_cases hK : 1 ≤ i.Kind ∧ i.Kind ≤ 7
  · by_cases hO : 0 ≤ i.Op ∧ i.Op ≤ 15
    · obtain ⟨K, O, A, B, C, M, U⟩ := i
      simp only at hK hO
      have fA := fld_int A 4; have fB := fld_int B 4; have fC := fld_int C 4; have fO := fld_int O 4; have f16 := fld_int M 16; have f20 := fld_int M 20; have f24 := fld_int M 24
      have lA := fld_lt A 4; have lB := fld_lt B 4; have lC := fld_lt C 4; have lO := fld_lt O 4; have l16 := fld_lt M 16; have l20 := fld_lt M 20; have l24 := fld_lt M 24
      simp only [show (2 : Nat) ^ 24 = 16777216 by decide, show (2 : Nat) ^ 20 = 1048576 by decide, show (2 : Nat) ^ 16 = 65536 by decide, show (2 : Nat) ^ 4 = 16 by decide] at fA fB fC fO f16 f20 f24 lA lB lC lO l16 l20 l24
      have hk : K = 1 ∨ K = 2 ∨ (K = 3 ∨ K = 4) ∨ K = 5 ∨ K = 6 ∨ K = 7 := by omega
      rcases hk with rfl | rfl | hk | rfl | rfl | rfl
      · have hw := word1 A B C O M U
        obtain ⟨w0, d30, d29, d28, d24, d20, d16, d4, d0, -, -⟩ := digits (W := (4 * 0 + 2 * b2n U + b2n false) * 268435456 + fld A 4 * 16777216 + fld B 4 * 1048576 + fld O 4 * 65536 + fld C 4) (h := 4 * 0 + 2 * b2n U + b2n false) (a := fld A 4) (r := fld B 4 * 1048576 + fld O 4 * 65536 + fld C 4) (by omega) (hd_lt 0 (by omega) _ _) lA (by omega)
        have e20 : (fld B 4 * 1048576 + fld O 4 * 65536 + fld C 4) / 1048576 = fld B 4 := by omega
        have e16 : (fld B 4 * 1048576 + fld O 4 * 65536 + fld C 4) / 65536 % 16 = fld O 4 := by omega
        have e4 : (fld B 4 * 1048576 + fld O 4 * 65536 + fld C 4) % 16 = fld C 4 := by omega
        rw [e20] at d20
        rw [e16] at d16
        rw [e4] at d4
        rw [may_read hK hO hw (read_is w0)]
        congr 1
        unfold rd
        rw [d30, d29, d28, d24, d20, d16, d4]
        clear hw w0 d30 d29 d28 d24 d20 d16 d4 d0 e20 e16 e4 f16 f20 f24 l16 l20 l24
        generalize fld A 4 = a at *
        generalize fld B 4 = b at *
        generalize fld C 4 = c at *
        generalize fld O 4 = o at *
        cases U
        · rw [if_pos (by simp [b2n]), if_neg (by simp [b2n]), Bool.eq_iff_iff]
          unfold mayR MayP
          simp only [b2n]
          by_cases h0 : O = 0
          · simp [h0]; omega
          · by_cases h11 : O > 11
            · simp [h0, h11]; try omega
            · simp [h0, h11]; omega
        · by_cases hz : o = 0
          · rw [if_pos (by simp [b2n]), if_pos (by simp [b2n, hz]), Bool.eq_iff_iff]
            unfold mayR MayP
            simp
            omega
          · rw [if_pos (by simp [b2n]), if_neg (by simp [b2n]; omega), Bool.eq_iff_iff]
            unfold mayR MayP
            simp only [b2n]
            by_cases h0 : O = 0
            · simp [h0]; try omega
            · by_cases h11 : O > 11
              · simp [h0, h11]; try omega
              · simp [h0, h11]; omega
      · have hw := word2 A B C O M U
        obtain ⟨w0, d30, d29, d28, d24, d20, d16, d4, d0, -, -⟩ := digits (W := (4 * 1 + 2 * b2n U + b2n (decide (M < 0))) * 268435456 + fld A 4 * 16777216 + fld B 4 * 1048576 + fld O 4 * 65536 + fld M 16) (h := 4 * 1 + 2 * b2n U + b2n (decide (M < 0))) (a := fld A 4) (r := fld B 4 * 1048576 + fld O 4 * 65536 + fld M 16) (by omega) (hd_lt 1 (by omega) _ _) lA (by omega)
        have e20 : (fld B 4 * 1048576 + fld O 4 * 65536 + fld M 16) / 1048576 = fld B 4 := by omega
        have e16 : (fld B 4 * 1048576 + fld O 4 * 65536 + fld M 16) / 65536 % 16 = fld O 4 := by omega
        have e0 : (fld B 4 * 1048576 + fld O 4 * 65536 + fld M 16) % 65536 = fld M 16 := by omega
        rw [e20] at d20
        rw [e16] at d16
        rw [e0] at d0
        rw [may_read hK hO hw (read_is w0)]
        congr 1
        unfold rd
        rw [d30, d29, d28, d24, d20, d16, d0]
        clear hw w0 d30 d29 d28 d24 d20 d16 d4 d0 e20 e16 e0 f20 f24 l20 l24
        generalize fld A 4 = a at *
        generalize fld B 4 = b at *
        generalize fld C 4 = c at *
        generalize fld O 4 = o at *
        generalize fld M 16 = m at *
        by_cases hM : M < 0 <;> cases U
        all_goals
          rw [if_neg (by simp [b2n, hM]), if_pos (by simp [b2n, hM]), Bool.eq_iff_iff]
          unfold mayR MayP
          simp only [b2n, hM]
          by_cases h0 : O = 0
          · simp [h0]; try omega
          · by_cases h11 : O > 11
            · simp [h0, h11]; try omega
            · simp [h0, h11]; try omega
      · have hw := word34 A B C O M U hk
        obtain ⟨w0, d30, d29, d28, d24, d20, d16, d4, d0, -, -⟩ := digits (W := (4 * 0 + 2 * b2n true + b2n (decide (K = 4))) * 268435456 + fld A 4 * 16777216) (h := 4 * 0 + 2 * b2n true + b2n (decide (K = 4))) (a := fld A 4) (r := 0) (by omega) (hd_lt 0 (by omega) _ _) lA (by omega)
        rw [may_read hK hO hw (read_is w0)]
        congr 1
        unfold rd
        rw [d30, d29, d28, d24, d20, d16, d4]
        clear hw w0 d30 d29 d28 d24 d20 d16 d4 d0 f20 f24 f16 l20 l24 l16
        generalize fld A 4 = a at *
        rcases hk with rfl | rfl
        all_goals
          rw [if_pos (by simp [b2n]), if_pos (by simp [b2n]), Bool.eq_iff_iff]
          unfold mayR MayP
          simp only [b2n]
          cases U <;> simp <;> omega
      · have e20 : (fld B 4 * 1048576 + fld M 20) / 1048576 = fld B 4 := by omega
        have e0 : (fld B 4 * 1048576 + fld M 20) % 1048576 = fld M 20 := by omega
        have hw := word5 A B C O M U
        obtain ⟨w0, d30, d29, d28, d24, d20, d16, d4, d0, q20, -⟩ := digits (W := (4 * 2 + 2 * b2n (decide (O ≥ 2)) + b2n (decide (Int.tmod O 2 = 1))) * 268435456 + fld A 4 * 16777216 + fld B 4 * 1048576 + fld M 20) (h := 4 * 2 + 2 * b2n (decide (O ≥ 2)) + b2n (decide (Int.tmod O 2 = 1))) (a := fld A 4) (r := fld B 4 * 1048576 + fld M 20) (by omega) (hd_lt 2 (by omega) _ _) lA (by omega)
        rw [e20] at d20
        rw [e0] at q20
        rw [may_read hK hO hw (read_is w0)]
        congr 1
        unfold rd sg
        rw [q20, d30, d29, d28, d24, d20, show (2 : Nat) ^ 20 = 1048576 from rfl, show (2 : Nat) ^ (20 - 1) = 524288 from rfl]
        have ht : O.tmod 2 = O % 2 := Int.tmod_eq_emod_of_nonneg hO.1
        rw [ht]
        clear hw w0 d30 d29 d28 d24 d20 d16 d4 d0 e20 e0 q20 f24 f16 l24 l16 ht
        generalize fld A 4 = a at *
        generalize fld B 4 = b at *
        generalize fld M 20 = m at *
        by_cases hO2 : O ≥ 2 <;> by_cases hO1 : O % 2 = 1
        all_goals
          have x1 : b2n (decide (O ≥ 2)) = if O ≥ 2 then 1 else 0 := by simp [b2n]
          have x2 : b2n (decide (O % 2 = 1)) = if O % 2 = 1 then 1 else 0 := by simp [b2n]
          rw [x1, x2]
          clear x1 x2
          simp only [hO2, hO1, if_true, if_false]
          rw [if_neg (by decide), if_neg (by decide), if_pos (by decide), Bool.eq_iff_iff]
          unfold mayR MayP
          by_cases hm : m ≥ 524288 <;> cases U <;> simp [hm] <;> omega
      · have hw := word6 A B C O M U
        obtain ⟨w0, d30, d29, d28, d24, d20, d16, d4, d0, -, -⟩ := digits (W := (4 * 3 + 2 * b2n false + b2n U) * 268435456 + fld O 4 * 16777216 + fld C 4) (h := 4 * 3 + 2 * b2n false + b2n U) (a := fld O 4) (r := fld C 4) (by omega) (hd_lt 3 (by omega) _ _) lO (by omega)
        rw [may_read hK hO hw (read_is w0)]
        congr 1
        unfold rd
        rw [d30, d29, d28, d24, d20, d4]
        clear hw w0 d30 d29 d28 d24 d20 d16 d4 d0 f20 f24 f16 l20 l24 l16
        generalize fld O 4 = o at *
        generalize fld C 4 = c at *
        cases U
        all_goals
          rw [if_neg (by simp [b2n]), if_neg (by simp [b2n]), if_neg (by simp [b2n]), if_neg (by simp [b2n]), Bool.eq_iff_iff]
          unfold mayR MayP
          simp [b2n]
          omega
      · have hw := word7 A B C O M U
        obtain ⟨w0, d30, d29, d28, d24, d20, d16, d4, d0, -, q24⟩ := digits (W := (4 * 3 + 2 * b2n true + b2n U) * 268435456 + fld O 4 * 16777216 + fld M 24) (h := 4 * 3 + 2 * b2n true + b2n U) (a := fld O 4) (r := fld M 24) (by omega) (hd_lt 3 (by omega) _ _) lO (by omega)
        rw [may_read hK hO hw (read_is w0)]
        congr 1
        unfold rd sg
        rw [q24, d30, d29, d28, d24, show (2 : Nat) ^ 24 = 16777216 from rfl, show (2 : Nat) ^ (24 - 1) = 8388608 from rfl]
        clear hw w0 d30 d29 d28 d24 d20 d16 d4 d0 q24 f20 f16 l20 l16
        generalize fld O 4 = o at *
        generalize fld M 24 = m at *
        cases U
        all_goals
          rw [if_neg (by simp [b2n]), if_neg (by simp [b2n]), if_neg (by simp [b2n]), if_pos (by simp [b2n]), Bool.eq_iff_iff]
          unfold mayR MayP
          by_cases hm : m ≥ 8388608
          · simp [b2n, hm]; omega
          · simp [b2n, hm]; omega
    · unfold isa_May
      rw [between_is, between_is, decide_eq_true hK, decide_eq_false hO]
      simp only [Option.bind_some, if_true, Bool.false_eq_true, if_false, isa_May.j1]
      congr 1
      symm
      rw [decide_eq_false_iff_not]
      unfold MayP
      omega
  · unfold isa_May
    rw [between_is, decide_eq_false hK]
    simp only [Option.bind_some, if_true, Bool.false_eq_true, if_false, isa_May.j1]
    congr 1
    symm
    rw [decide_eq_false_iff_not]
    unfold MayP
    omega
end Go.Proofs.YtheccnbamcdpmaaGreatDoor.ZD
namespace Go.Proofs.YtheccnbamcdpmaaGreatDoor.ZD
set_option linter.unusedVariables false
set_option linter.unusedSimpArgs false
open Go Go.RowKit Go.Proofs.YtheccnbamcdpmaaGreatDoor.E
theorem reg_is (n : Int) : rivetref03_reg n = some (decide (0 ≤ n ∧ n ≤ 15)) := by
  unfold rivetref03_reg
  by_cases h : n ≥ 0
  · rw [if_pos h]; congr 1; by_cases h2 : n ≤ 15 <;> simp [h2]; omega
  · rw [if_neg h]; congr 1; simp; omega
theorem fits20 (v : Int) : rivetref02_Fits v 20 = some (decide (-524288 ≤ v ∧ v ≤ 524287)) := by
  unfold rivetref02_Fits
  have e : w64 (mnn (mxx 20 1) 32 - 1) = 19 := by kernel_rfl
  have e1 : shl .i64 (-1) 19 = -524288 := by kernel_rfl
  have e2 : shl .i64 1 19 = 524288 := by kernel_rfl
  rw [e, e1, e2, if_pos (by omega)]
  by_cases h : v ≥ -524288
  · rw [if_pos h, if_pos (by omega)]; congr 1; by_cases h2 : v ≤ 524287 <;> simp [h2] <;> omega
  · rw [if_neg h]; congr 1; simp; omega
theorem fits24 (v : Int) : rivetref02_Fits v 24 = some (decide (-8388608 ≤ v ∧ v ≤ 8388607)) := by
  unfold rivetref02_Fits
  have e : w64 (mnn (mxx 24 1) 32 - 1) = 23 := by kernel_rfl
  have e1 : shl .i64 (-1) 23 = -8388608 := by kernel_rfl
  have e2 : shl .i64 1 23 = 8388608 := by kernel_rfl
  rw [e, e1, e2, if_pos (by omega)]
  by_cases h : v ≥ -8388608
  · rw [if_pos h, if_pos (by omega)]; congr 1; by_cases h2 : v ≤ 8388607 <;> simp [h2] <;> omega
  · rw [if_neg h]; congr 1; simp; omega
theorem some_dec {b : Bool} {p : Prop} [Decidable p] (h : b = true ↔ p) : some b = some (decide p) := by
  by_cases hp : p
  · rw [decide_eq_true hp, h.2 hp]
  · rw [decide_eq_false hp]
    cases b
    · rfl
    · exact absurd (h.1 rfl) hp
section
variable (A B C O M : Int) (U : Bool)
set_option maxHeartbeats 4000000 in
theorem refmayJ {K : Int} {b : Bool} (hb : b = decide (8 ≤ O ∧ O ≤ 10)) (hA : 0 ≤ A ∧ A ≤ 15) (hB : 0 ≤ B ∧ B ≤ 15) (hC : 0 ≤ C ∧ C ≤ 15) : rivetref03_May.j1 b K O A B C M U K A false = some (decide (MayP ⟨K, O, A, B, C, M, U⟩)) := by
  have hk : K = 1 ∨ K = 2 ∨ (K = 3 ∨ K = 4) ∨ K = 5 ∨ K = 6 ∨ K = 7 ∨ (K < 1 ∨ 7 < K) := by omega
  rcases hk with rfl | rfl | hk | rfl | rfl | rfl | hk
  · simp only [rivetref03_May.j1, rivetref03_May.j2, if_true]
    by_cases h1 : O < 0
    · rw [if_pos h1]; refine some_dec ?_; simp [MayP]; omega
    · rw [if_neg h1]
      by_cases h2 : O > 11
      · rw [if_pos h2]; refine some_dec ?_; simp [MayP]; omega
      · rw [if_neg h2]
        subst hb
        by_cases h3 : O = 0 <;> by_cases h4 : 8 ≤ O ∧ O ≤ 10 <;> cases U <;> simp only [h3, h4, rivetref03_May.j3, rivetref03_May.j4, if_true, if_false, decide_true, decide_false, Bool.false_eq_true, and_self] <;> refine some_dec ?_ <;> simp [MayP] <;> omega
  · simp only [rivetref03_May.j1, rivetref03_May.j2]
    rw [if_neg (by omega)]
    simp only [decide_true, if_true]
    by_cases h1 : O < 0
    · rw [if_pos h1]; refine some_dec ?_; simp [MayP]; omega
    · rw [if_neg h1]
      by_cases h2 : O > 11
      · rw [if_pos h2]; refine some_dec ?_; simp [MayP]; omega
      · rw [if_neg h2]
        subst hb
        by_cases h3 : O = 0 <;> by_cases h4 : 8 ≤ O ∧ O ≤ 10 <;> cases U <;> simp only [h3, h4, rivetref03_May.j3, rivetref03_May.j4, rivetref03_May.j5, rivetref03_May.j6, if_true, if_false, decide_true, decide_false, Bool.false_eq_true, and_self] <;> (repeat' split) <;> refine some_dec ?_ <;> simp_all [MayP] <;> omega
  · have e3 : rivetref03_May.j1 b K O A B C M U K A false = rivetref03_May.j7 K true K O A B C M U K A false := by
      rcases hk with rfl | rfl <;> rfl
    rw [e3]
    simp only [rivetref03_May.j7, if_true]
    refine some_dec ?_
    rcases hk with rfl | rfl <;> cases U <;> simp [MayP] <;> omega
  · have e3 : rivetref03_May.j1 b 5 O A B C M U 5 A false = rivetref03_May.j7 5 false 5 O A B C M U 5 A false := rfl
    rw [e3]
    simp only [rivetref03_May.j7, fits20, Option.bind_some, if_true, Bool.false_eq_true, if_false]
    by_cases hc : C = 0
    · cases U
      · rw [if_pos (by simp [hc])]
        by_cases h0 : O ≥ 0
        · rw [if_pos h0]
          by_cases h3 : O ≤ 3
          · rw [if_pos h3]; refine some_dec ?_; simp [MayP]; omega
          · rw [if_neg h3]; refine some_dec ?_; simp [MayP]; omega
        · rw [if_neg h0]; refine some_dec ?_; simp [MayP]; omega
      · rw [if_neg (by simp)]; refine some_dec ?_; simp [MayP]
    · rw [if_neg (by simp; omega)]; refine some_dec ?_; simp [MayP]; omega
  · have e3 : rivetref03_May.j1 b 6 O A B C M U 6 A false = rivetref03_May.j7 6 false 6 O A B C M U 6 A false := rfl
    rw [e3]
    simp only [rivetref03_May.j7, reg_is, Option.bind_some, if_true, Bool.false_eq_true, if_false]
    rw [if_neg (show ¬ (6 : Int) = 5 by decide)]
    by_cases hc : A = 0 ∧ B = 0 ∧ M = 0
    · obtain ⟨rfl, rfl, rfl⟩ := hc
      rw [if_pos (by simp)]; refine some_dec ?_; simp [MayP]; omega
    · rw [if_neg (by simp; omega)]; refine some_dec ?_; simp [MayP]; omega
  · have e3 : rivetref03_May.j1 b 7 O A B C M U 7 A false = rivetref03_May.j7 7 false 7 O A B C M U 7 A false := rfl
    rw [e3]
    simp only [rivetref03_May.j7, reg_is, fits24, Option.bind_some, if_true, Bool.false_eq_true, if_false]
    rw [if_neg (show ¬ (7 : Int) = 5 by decide), if_neg (show ¬ (7 : Int) = 6 by decide)]
    by_cases hc : A = 0 ∧ B = 0 ∧ C = 0
    · obtain ⟨rfl, rfl, rfl⟩ := hc
      rw [if_pos (by simp)]
      by_cases h0 : 0 ≤ O ∧ O ≤ 15
      · rw [if_pos (by simpa using h0)]; refine some_dec ?_; simp [MayP]; omega
      · rw [if_neg (by simpa using h0)]; refine some_dec ?_; simp [MayP]; omega
    · rw [if_neg (by simp; omega)]; refine some_dec ?_; simp [MayP]; omega
  · have h1 : K ≠ 1 := by omega
    have h2 : K ≠ 2 := by omega
    have h3 : K ≠ 3 := by omega
    have h4 : K ≠ 4 := by omega
    have h5 : K ≠ 5 := by omega
    have h6 : K ≠ 6 := by omega
    have h7 : K ≠ 7 := by omega
    simp [rivetref03_May.j1, rivetref03_May.j2, rivetref03_May.j7, h1, h2, h3, h4, h5, h6, h7, MayP]
end
set_option maxHeartbeats 4000000 in
theorem refmay_is (i : Sapi_Instr) : rivetref03_May i = some (decide (MayP i)) := by
  obtain ⟨K, O, A, B, C, M, U⟩ := i
  unfold rivetref03_May
  simp only [reg_is, Option.bind_some]
  by_cases hA : 0 ≤ A ∧ A ≤ 15
  · by_cases hB : 0 ≤ B ∧ B ≤ 15
    · by_cases hC : 0 ≤ C ∧ C ≤ 15
      · rw [decide_eq_true hA, decide_eq_true hB, decide_eq_true hC]
        simp only [if_true]
        by_cases h : O ≥ 8
        · rw [if_pos h]
          exact refmayJ A B C O M U (by by_cases h2 : O ≤ 10 <;> simp [h2]; omega) hA hB hC
        · rw [if_neg h]
          exact refmayJ A B C O M U (by symm; simp; omega) hA hB hC
      · rw [decide_eq_true hA, decide_eq_true hB, decide_eq_false hC]
        show some false = _
        refine some_dec ⟨fun h => (by cases h), fun h => ?_⟩
        exfalso
        unfold MayP at h
        simp only at h
        omega
    · rw [decide_eq_true hA, decide_eq_false hB]
      show some false = _
      refine some_dec ⟨fun h => (by cases h), fun h => ?_⟩
      exfalso
      unfold MayP at h
      simp only at h
      omega
  · rw [decide_eq_false hA]
    show some false = _
    refine some_dec ⟨fun h => (by cases h), fun h => ?_⟩
    exfalso
    unfold MayP at h
    simp only at h
    omega
/-! ### the top bit -/
theorem top_bit {x : Nat} (h : x < 4294967296) : decide (shr .u32 (x : Int) 31 = 1) = x.testBit 31 := by
  show decide ((x : Int).fdiv (2 ^ 31) = 1) = _
  rw [Int.fdiv_eq_ediv_of_nonneg _ (by decide), Nat.testBit_eq_decide_div_mod_eq, Bool.eq_iff_iff, decide_eq_true_eq, decide_eq_true_eq]
  have e1 : (2 : Int) ^ 31 = 2147483648 := by decide
  have e2 : (2 : Nat) ^ 31 = 2147483648 := by decide
  rw [e1, e2]
  omega
theorem bit31 {x : Nat} (h : x < 4294967296) : x.testBit 31 = decide (x ≥ 2147483648) := by
  rw [Nat.testBit_eq_decide_div_mod_eq, Bool.eq_iff_iff, decide_eq_true_eq, decide_eq_true_eq]
  have e2 : (2 : Nat) ^ 31 = 2147483648 := by decide
  rw [e2]
  omega
theorem bxor_u32 {x y : Nat} (hx : x < 4294967296) (hy : y < 4294967296) : bxor .u32 (x : Int) (y : Int) = ((x ^^^ y : Nat) : Int) := by
  rw [bxor_nat (by decide) (by omega) (by simp only [umax]; omega) (by omega) (by simp only [umax]; omega)]
  rfl
theorem band_u32 {x y : Nat} (hx : x < 4294967296) (hy : y < 4294967296) : band .u32 (x : Int) (y : Int) = ((x &&& y : Nat) : Int) := by
  rw [band_nat (by omega) (by simp only [umax]; omega) (by omega) (by simp only [umax]; omega)]
  rfl
theorem xor_lt {x y : Nat} (hx : x < 4294967296) (hy : y < 4294967296) : x ^^^ y < 4294967296 := Nat.xor_lt_two_pow (n := 32) hx hy
theorem and_lt {x y : Nat} (hx : x < 4294967296) : x &&& y < 4294967296 := Nat.lt_of_le_of_lt Nat.and_le_left hx
theorem or_lt {x y : Nat} (hx : x < 4294967296) (hy : y < 4294967296) : x ||| y < 4294967296 := Nat.or_lt_two_pow (n := 32) hx hy
def b2i (b : Bool) : Int := if b then 1 else 0
/-- Sum, carry, overflow. -/
def addS (a b : Int) (c : Bool) : Int × Bool × Bool :=
  ((a + b + b2i c) % 4294967296, decide (a + b + b2i c ≥ 4294967296), decide ((a < 2147483648 ∧ b < 2147483648 ∧ a + b + b2i c ≥ 2147483648) ∨ (a ≥ 2147483648 ∧ b ≥ 2147483648 ∧ a + b + b2i c - 4294967296 < 2147483648)))
def subS (a b : Int) (c : Bool) : Int × Bool × Bool :=
  ((a - b - b2i c) % 4294967296, decide (a - b - b2i c < 0), decide ((a < 2147483648 ∧ b ≥ 2147483648 ∧ a - b - b2i c + 4294967296 ≥ 2147483648) ∨ (a ≥ 2147483648 ∧ b < 2147483648 ∧ a - b - b2i c < 2147483648)))
theorem add_is {a b : Int} (a0 : 0 ≤ a) (a1 : a ≤ 4294967295) (b0 : 0 ≤ b) (b1 : b ≤ 4294967295) (c : Bool) : word_Add a b c = some (addS a b c) := by
  obtain ⟨x, rfl⟩ := Int.eq_ofNat_of_zero_le a0
  obtain ⟨y, rfl⟩ := Int.eq_ofNat_of_zero_le b0
  unfold word_Add word_one
  have hc : (if c = true then some (1 : Int) else some 0) = some (b2i c) := by cases c <;> rfl
  have hc1 : 0 ≤ b2i c ∧ b2i c ≤ 1 := by cases c <;> simp [b2i]
  rw [hc]
  simp only [Option.bind_some, math_bits_Add32]
  rw [wu64_eq (x : Int), wu64_eq (y : Int), wu64_eq (b2i c), Int.emod_eq_of_lt a0 (by omega), Int.emod_eq_of_lt b0 (by omega), Int.emod_eq_of_lt hc1.1 (by omega), wu64_eq ((x : Int) + y), Int.emod_eq_of_lt (a := (x : Int) + y) (by omega) (by omega), wu64_eq, Int.emod_eq_of_lt (by omega) (by omega)]
  have e : wu32 ((x : Int) + y + b2i c) = (((x + y + (b2i c).toNat) % 4294967296 : Nat) : Int) := by rw [wu32_eq]; omega
  have e32 : (2 : Int) ^ 32 = 4294967296 := by decide
  have ec : decide (wu32 (shr .u64 ((x : Int) + y + b2i c) 32) = 1) = decide ((x : Int) + y + b2i c ≥ 4294967296) := by
    show decide (wu32 (((x : Int) + y + b2i c).fdiv (2 ^ 32)) = 1) = _
    rw [e32, Int.fdiv_eq_ediv_of_nonneg _ (by omega), wu32_eq, Bool.eq_iff_iff, decide_eq_true_eq, decide_eq_true_eq]
    omega
  have hs : (x + y + (b2i c).toNat) % 4294967296 < 4294967296 := Nat.mod_lt _ (by omega)
  rw [ec, e, bxor_u32 (by omega) hs, bxor_u32 (by omega) hs, band_u32 (xor_lt (by omega) hs) (xor_lt (by omega) hs), top_bit (and_lt (xor_lt (by omega) hs)), Nat.testBit_and, Nat.testBit_xor, Nat.testBit_xor, bit31 hs, bit31 (x := x) (by omega), bit31 (x := y) (by omega)]
  unfold addS
  congr 1
  refine Prod.ext ?_ (Prod.ext rfl ?_)
  · simp only; omega
  · simp only
    rw [Bool.eq_iff_iff, decide_eq_true_eq]
    by_cases h1 : x ≥ 2147483648 <;> by_cases h2 : y ≥ 2147483648 <;> by_cases h3 : (x + y + (b2i c).toNat) % 4294967296 ≥ 2147483648 <;> simp [h1, h2, h3] <;> omega
theorem sub_is {a b : Int} (a0 : 0 ≤ a) (a1 : a ≤ 4294967295) (b0 : 0 ≤ b) (b1 : b ≤ 4294967295) (c : Bool) : word_Sub a b c = some (subS a b c) := by
  obtain ⟨x, rfl⟩ := Int.eq_ofNat_of_zero_le a0
  obtain ⟨y, rfl⟩ := Int.eq_ofNat_of_zero_le b0
  unfold word_Sub word_one
  have hc : (if c = true then some (1 : Int) else some 0) = some (b2i c) := by cases c <;> rfl
  have hc1 : 0 ≤ b2i c ∧ b2i c ≤ 1 := by cases c <;> simp [b2i]
  rw [hc]
  simp only [Option.bind_some, math_bits_Sub32]
  have e : wu32 (wu32 ((x : Int) - y) - b2i c) = ((((x : Int) - y - b2i c) % 4294967296).toNat : Int) := by rw [wu32_eq, wu32_eq]; omega
  rw [e]
  have hs : (((x : Int) - y - b2i c) % 4294967296).toNat < 4294967296 := by omega
  generalize hd : (((x : Int) - y - b2i c) % 4294967296).toNat = d at *
  have hff : (if IntKind.signed .u32 = true then -1 else (((2 ^ IntKind.bits .u32) - 1) : Int)) = ((4294967295 : Nat) : Int) := by decide
  have hx : x < 4294967296 := by omega
  have hy : y < 4294967296 := by omega
  rw [hff, bxor_u32 (by omega) hx, bxor_u32 hx hy, bxor_u32 (x := 4294967295) (by omega) (xor_lt hx hy), band_u32 (xor_lt (by omega) hx) hy, band_u32 (xor_lt (by omega) (xor_lt hx hy)) hs, bor_u32 (and_lt (xor_lt (by omega) hx)) (and_lt (xor_lt (by omega) (xor_lt hx hy))), bxor_u32 hx hs, band_u32 (xor_lt hx hy) (xor_lt hx hs), top_bit (and_lt (xor_lt hx hy)), top_bit (or_lt (and_lt (xor_lt (by omega) hx)) (and_lt (xor_lt (by omega) (xor_lt hx hy))))]
  simp only [Nat.testBit_or, Nat.testBit_and, Nat.testBit_xor, bit31 hx, bit31 hy, bit31 hs]
  have e31 : (4294967295 : Nat).testBit 31 = true := by decide
  rw [e31]
  unfold subS
  congr 1
  refine Prod.ext ?_ (Prod.ext ?_ ?_)
  · simp only; omega
  · simp only
    rw [Bool.eq_iff_iff, decide_eq_true_eq]
    by_cases h1 : x ≥ 2147483648 <;> by_cases h2 : y ≥ 2147483648 <;> by_cases h3 : d ≥ 2147483648 <;> simp [h1, h2, h3] <;> omega
  · simp only
    rw [Bool.eq_iff_iff, decide_eq_true_eq]
    by_cases h1 : x ≥ 2147483648 <;> by_cases h2 : y ≥ 2147483648 <;> by_cases h3 : d ≥ 2147483648 <;> simp [h1, h2, h3] <;> omega
end Go.Proofs.YtheccnbamcdpmaaGreatDoor.ZD
namespace Go.Proofs.YtheccnbamcdpmaaGreatDoor.ZD
set_option linter.unusedVariables false
set_option linter.unusedSimpArgs false
open Go Go.RowKit Go.Proofs.YtheccnbamcdpmaaGreatDoor.E
def sgn (a : Int) : Int := if a ≥ 2147483648 then a - 4294967296 else a
theorem w32_sgn {a : Int} (a0 : 0 ≤ a) (a1 : a ≤ 4294967295) : w64 (w32 a) = sgn a := by
  have e : w32 a = (a + 2147483648) % 4294967296 - 2147483648 := IntKind.wrap_i32 a
  rw [e, w64s (by omega) (by omega)]
  unfold sgn
  split <;> omega
theorem sgn_in {a : Int} (a0 : 0 ≤ a) (a1 : a ≤ 4294967295) : -2147483648 ≤ sgn a ∧ sgn a ≤ 2147483647 := by unfold sgn; split <;> omega
/-! ### shifts -/
def shiftN (kind : Int) (a k : Nat) : Int :=
  if kind = 1 then (((a * 2 ^ k) % 4294967296 : Nat) : Int)
  else if kind = 2 then (sgn (a : Int) / ((2 ^ k : Nat) : Int)) % 4294967296
  else if kind = 3 then ((a / 2 ^ k + a % 2 ^ k * 2 ^ (32 - k) : Nat) : Int)
  else (a : Int)
def shiftS (kind a n : Int) : Int := shiftN kind a.toNat (n % 32).toNat
theorem pow_split {k : Nat} (h : k ≤ 32) : 2 ^ k * 2 ^ (32 - k) = 4294967296 := by
  rw [← Nat.pow_add, show k + (32 - k) = 32 by omega]
theorem rot_lt {a k : Nat} (ha : a < 4294967296) (hk : k ≤ 32) : a / 2 ^ k + a % 2 ^ k * 2 ^ (32 - k) < 4294967296 := by
  have hp := pow_split hk
  have h1 : a / 2 ^ k < 2 ^ (32 - k) := Nat.div_lt_of_lt_mul (by rw [hp]; exact ha)
  have h2 : a % 2 ^ k < 2 ^ k := Nat.mod_lt _ (p2pos k)
  have h3 : (a % 2 ^ k + 1) * 2 ^ (32 - k) ≤ 2 ^ k * 2 ^ (32 - k) := Nat.mul_le_mul_right _ h2
  rw [Nat.add_mul, hp] at h3
  omega
theorem rot_s : ∀ k : Nat, k < 32 → band .u64 (wu64 (w64 (0 - (k : Int)))) 31 = (((32 - k) % 32 : Nat) : Int) := by decide
theorem rot_t : ∀ s : Nat, s < 32 → wu64 (32 - (s : Int)) = ((32 - s : Nat) : Int) := by decide
theorem shl_u32' {w i : Nat} (h : i ≤ 32) : shl .u32 (w : Int) (i : Int) = ((w * 2 ^ i % 4294967296 : Nat) : Int) := by
  unfold shl
  rw [Int.toNat_natCast, show min i IntKind.u32.bits = i from Nat.min_eq_left h, p2, ← Int.natCast_mul, IntKind.wrap_u32]
  rfl
theorem rotate_is {a k : Nat} (ha : a < 4294967296) (hk : k < 32) : math_bits_RotateLeft32 (a : Int) (w64 (0 - (k : Int))) = some ((a / 2 ^ k + a % 2 ^ k * 2 ^ (32 - k) : Nat) : Int) := by
  unfold math_bits_RotateLeft32
  rw [rot_s k hk]
  have hs : (32 - k) % 32 < 32 := Nat.mod_lt _ (by omega)
  rw [rot_t _ hs, if_pos (by omega), shl_u32' (by omega), shr_nat (k := .u32) (by show 32 - (32 - k) % 32 ≤ 32; omega)]
  refine congrArg some ?_
  by_cases h0 : k = 0
  · subst h0
    have e : a / 2 ^ (32 - (32 - 0) % 32) = 0 := Nat.div_eq_of_lt (by simpa using ha)
    rw [e]
    have e2 : a * 2 ^ ((32 - 0) % 32) % 4294967296 = a := by simp; omega
    rw [e2, bor_u32 ha (by omega)]
    simp [Nat.mod_one]
  · have e1 : (32 - k) % 32 = 32 - k := Nat.mod_eq_of_lt (by omega)
    have e2 : 32 - (32 - k) = k := by omega
    rw [e1, e2]
    have hp := pow_split (show k ≤ 32 by omega)
    have e3 : a * 2 ^ (32 - k) % 4294967296 = a % 2 ^ k * 2 ^ (32 - k) := by rw [← hp, Nat.mul_mod_mul_right]
    have h1 : a / 2 ^ k < 2 ^ (32 - k) := Nat.div_lt_of_lt_mul (by rw [hp]; exact ha)
    have hl := rot_lt ha (show k ≤ 32 by omega)
    rw [e3, bor_u32 (by omega) (by omega), Nat.mul_comm (a % 2 ^ k), or_high h1, Nat.add_comm]
theorem shift_is {kind a n : Int} (a0 : 0 ≤ a) (a1 : a ≤ 4294967295) (n0 : 0 ≤ n) : word_Shift kind a n = some (shiftS kind a n) := by
  obtain ⟨x, rfl⟩ := Int.eq_ofNat_of_zero_le a0
  unfold word_Shift shiftS
  have hk0 : 0 ≤ n % 32 := Int.emod_nonneg _ (by omega)
  have hk1 : n % 32 < 32 := Int.emod_lt_of_pos _ (by omega)
  have e : w64 (n.tmod 32) = (((n % 32).toNat : Nat) : Int) := by rw [Int.tmod_eq_emod_of_nonneg n0, w64s (by omega) (by omega)]; omega
  rw [e]
  have hk : (n % 32).toNat < 32 := by omega
  generalize (n % 32).toNat = k at *
  unfold shiftN
  rw [Int.toNat_natCast]
  by_cases h1 : kind = 1
  · rw [if_pos h1, if_pos h1, if_pos (by omega), shl_u32' (by omega)]
  · rw [if_neg h1, if_neg h1]
    by_cases h2 : kind = 2
    · rw [if_pos h2, if_pos h2, if_pos (by omega)]
      have hw := w32_sgn a0 a1
      have hw2 : w32 (x : Int) = sgn (x : Int) := by
        have hb : w32 (x : Int) = ((x : Int) + 2147483648) % 4294967296 - 2147483648 := IntKind.wrap_i32 _
        rw [w64s (by omega) (by omega)] at hw
        exact hw
      rw [hw2, wu32_eq]
      unfold shr
      rw [Int.toNat_natCast, show min k IntKind.i32.bits = k from Nat.min_eq_left (by show k ≤ 32; omega), p2, Int.fdiv_eq_ediv_of_nonneg _ (Int.natCast_nonneg _)]
    · rw [if_neg h2, if_neg h2]
      by_cases h3 : kind = 3
      · rw [if_pos h3, if_pos h3, rotate_is (by omega) hk]
        rfl
      · rw [if_neg h3, if_neg h3]
theorem shiftN_in {kind : Int} {a k : Nat} (ha : a < 4294967296) (hk : k < 32) : 0 ≤ shiftN kind a k ∧ shiftN kind a k ≤ 4294967295 := by
  unfold shiftN
  split
  · omega
  · split
    · omega
    · split
      · have := rot_lt ha (show k ≤ 32 by omega)
        generalize a / 2 ^ k + a % 2 ^ k * 2 ^ (32 - k) = z at *
        omega
      · omega
theorem ref_step {kind : Int} {a j : Nat} (ha : a < 4294967296) (hj : j < 32) :
    (kind = 1 → wu32 ((w64 ((w64 (shiftN 1 a j)) * 2)).tmod 4294967296) = shiftN 1 a (j + 1)) ∧
    (kind = 2 → wu32 ((wu32 ((shiftN 2 a j).tdiv 2)) + (wu32 ((wu32 ((shiftN 2 a j).tdiv 2147483648)) * 2147483648))) = shiftN 2 a (j + 1)) ∧
    (kind = 3 → wu32 ((wu32 ((shiftN 3 a j).tdiv 2)) + (wu32 (((shiftN 3 a j).tmod 2) * 2147483648))) = shiftN 3 a (j + 1)) := by
  refine ⟨fun _ => ?_, fun _ => ?_, fun _ => ?_⟩
  · have hb := shiftN_in (kind := 1) ha hj
    rw [w64s (x := shiftN 1 a j) (by omega) (by omega), w64s (by omega) (by omega), Int.tmod_eq_emod_of_nonneg (by omega), wu32_eq]
    unfold shiftN
    rw [if_pos rfl, if_pos rfl, Nat.pow_succ, ← Nat.mul_assoc]
    generalize a * 2 ^ j = y
    omega
  · have hb := shiftN_in (kind := 2) ha hj
    rw [Int.tdiv_eq_ediv_of_nonneg hb.1, Int.tdiv_eq_ediv_of_nonneg hb.1]
    have e1 : ∀ m, shiftN 2 a m = (sgn (a : Int) / ((2 ^ m : Nat) : Int)) % 4294967296 := by
      intro m; unfold shiftN; rw [if_neg (by decide), if_pos rfl]
    rw [e1 j] at hb ⊢
    rw [e1 (j + 1), Nat.pow_succ, Int.natCast_mul, ← Int.ediv_ediv_of_nonneg (Int.natCast_nonneg _)]
    have hs := sgn_in (a := (a : Int)) (by omega) (by omega)
    have hp : (0 : Int) < ((2 ^ j : Nat) : Int) := by have := p2pos j; omega
    have hz1 : -2147483648 ≤ sgn (a : Int) / ((2 ^ j : Nat) : Int) := by
      refine Int.le_ediv_of_mul_le hp ?_
      omega
    have hz2 : sgn (a : Int) / ((2 ^ j : Nat) : Int) ≤ 2147483647 := by
      by_cases h : 0 ≤ sgn (a : Int)
      · exact Int.le_trans (Int.ediv_le_self _ h) hs.2
      · have : sgn (a : Int) / ((2 ^ j : Nat) : Int) < 0 := Int.ediv_neg_of_neg_of_pos (by omega) hp
        omega
    generalize sgn (a : Int) / ((2 ^ j : Nat) : Int) = z at *
    rw [wu32_eq, wu32_eq, wu32_eq, wu32_eq]
    show _ = z / (2 : Int) % 4294967296
    omega
  · have hb := shiftN_in (kind := 3) ha hj
    rw [Int.tdiv_eq_ediv_of_nonneg hb.1, Int.tmod_eq_emod_of_nonneg hb.1]
    have e1 : ∀ m, shiftN 3 a m = ((a / 2 ^ m + a % 2 ^ m * 2 ^ (32 - m) : Nat) : Int) := by
      intro m; unfold shiftN; rw [if_neg (by decide), if_neg (by decide), if_pos rfl]
    have hl := rot_lt ha (show j + 1 ≤ 32 by omega)
    rw [e1 j] at hb ⊢
    rw [e1 (j + 1)]
    have e2 : 2 ^ (32 - j) = 2 ^ (32 - (j + 1)) * 2 := by rw [← Nat.pow_succ]; congr 1; omega
    have e3 : a / 2 ^ (j + 1) = a / 2 ^ j / 2 := by rw [Nat.pow_succ, Nat.div_div_eq_div_mul]
    have e4 : a % 2 ^ (j + 1) = a % 2 ^ j + 2 ^ j * (a / 2 ^ j % 2) := Nat.mod_pow_succ
    have e5 : 2 ^ j * 2 ^ (32 - (j + 1)) = 2147483648 := by
      rw [← Nat.pow_add, show j + (32 - (j + 1)) = 31 by omega]
    have e6 : (a % 2 ^ j + 2 ^ j * (a / 2 ^ j % 2)) * 2 ^ (32 - (j + 1)) = a % 2 ^ j * 2 ^ (32 - (j + 1)) + 2147483648 * (a / 2 ^ j % 2) := by
      rw [Nat.add_mul, Nat.mul_assoc, Nat.mul_comm (a / 2 ^ j % 2), ← Nat.mul_assoc, e5]
    rw [e3, e4, e6] at hl ⊢
    rw [e2, ← Nat.mul_assoc] at hb ⊢
    clear e1 e2 e3 e4 e5 e6
    generalize a % 2 ^ j * 2 ^ (32 - (j + 1)) = r at *
    generalize a / 2 ^ j = q at *
    have x1 : ((q + r * 2 : Nat) : Int) / 2 = ((q / 2 + r : Nat) : Int) := by omega
    have x2 : ((q + r * 2 : Nat) : Int) % 2 = ((q % 2 : Nat) : Int) := by omega
    rw [x1, x2, wu32_id (x := ((q / 2 + r : Nat) : Int)) (by omega) (by omega), wu32_id (x := ((q % 2 : Nat) : Int) * 2147483648) (by omega) (by omega), wu32_id (by omega) (by omega)]
    omega
theorem shiftN_zero (kind : Int) {a : Nat} (ha : a < 4294967296) : shiftN kind a 0 = (a : Int) := by
  unfold shiftN
  split
  · simp; omega
  · split
    · have : ((2 ^ 0 : Nat) : Int) = 1 := rfl
      rw [this, Int.ediv_one]
      unfold sgn
      split <;> omega
    · split
      · simp [Nat.mod_one]
      · rfl
theorem refshift_is {kind a n : Int} (a0 : 0 ≤ a) (a1 : a ≤ 4294967295) (n0 : 0 ≤ n) : rivetref01_Shift kind a n = some (shiftS kind a n) := by
  obtain ⟨x, rfl⟩ := Int.eq_ofNat_of_zero_le a0
  unfold rivetref01_Shift shiftS
  have e : w64 (n.tmod 32) = (((n % 32).toNat : Nat) : Int) := by
    have hk0 : 0 ≤ n % 32 := Int.emod_nonneg _ (by omega)
    have hk1 : n % 32 < 32 := Int.emod_lt_of_pos _ (by omega)
    rw [Int.tmod_eq_emod_of_nonneg n0, w64s (by omega) (by omega)]; omega
  have hk : (n % 32).toNat < 32 := by omega
  have hx : x < 4294967296 := by omega
  rw [Int.toNat_natCast]
  have key : ∀ m j, j + m = (n % 32).toNat → loopO rivetref01_Shift.b1 (kind, shiftN kind x j, n, (j : Int)) = some (shiftN kind x (n % 32).toNat) := by
    intro m
    induction m with
    | zero =>
      intro j hj
      obtain rfl : j = (n % 32).toNat := by omega
      refine loopO_done ?_
      simp only [rivetref01_Shift.b1]
      rw [e, if_neg (by omega)]
    | succ m ih =>
      intro j hj
      rw [← ih (j + 1) (by omega)]
      refine loopO_next ?_
      simp only [rivetref01_Shift.b1]
      obtain ⟨s1, s2, s3⟩ := ref_step (kind := kind) (a := x) (j := j) hx (by omega)
      have ej : w64 ((j : Int) + 1) = ((j + 1 : Nat) : Int) := by rw [w64s (by omega) (by omega)]; omega
      rw [e, if_pos (by omega), ej]
      by_cases h1 : kind = 1
      · rw [if_pos h1]; subst h1; rw [s1 rfl]
      · rw [if_neg h1]
        by_cases h2 : kind = 2
        · rw [if_pos h2]; subst h2; rw [s2 rfl]
        · rw [if_neg h2]
          by_cases h3 : kind = 3
          · rw [if_pos h3]; subst h3; rw [s3 rfl]
          · rw [if_neg h3]
            have : ∀ m, shiftN kind x m = (x : Int) := by intro m; unfold shiftN; rw [if_neg h1, if_neg h2, if_neg h3]
            rw [this, this]
  have h0 := key (n % 32).toNat 0 (by omega)
  rw [shiftN_zero kind hx] at h0
  simp only [Int.natCast_zero] at h0
  rw [h0]
  rfl
/-! ### products -/
def mulS (a b : Int) (u : Bool) : Int × Int := ((if u = true then a * b else sgn a * sgn b) % 4294967296, (if u = true then a * b else sgn a * sgn b) / 4294967296 % 4294967296)
theorem mul_bound {x y m : Int} (hx0 : -m ≤ x) (hx1 : x ≤ m) (hy0 : -m ≤ y) (hy1 : y ≤ m) (hm : 0 ≤ m) : -(m * m) ≤ x * y ∧ x * y ≤ m * m := by
  have h : (x * y).natAbs ≤ (m * m).natAbs := by
    rw [Int.natAbs_mul, Int.natAbs_mul]
    exact Nat.mul_le_mul (by omega) (by omega)
  have hmm : 0 ≤ m * m := Int.mul_nonneg hm hm
  omega
theorem mul_is {a b : Int} (a0 : 0 ≤ a) (a1 : a ≤ 4294967295) (b0 : 0 ≤ b) (b1 : b ≤ 4294967295) (u : Bool) : word_Mul a b u = some (mulS a b u) := by
  unfold word_Mul mulS
  have e32 : (2 : Int) ^ 32 = 4294967296 := by decide
  have es : ∀ z : Int, shr .u64 z 32 = z / 4294967296 := by intro z; show z.fdiv (2 ^ 32) = _; rw [e32]; exact Int.fdiv_eq_ediv_of_nonneg _ (by omega)
  have sa := sgn_in a0 a1
  have sb := sgn_in b0 b1
  rw [es, es, w32_sgn a0 a1, w32_sgn b0 b1]
  cases u
  · rw [if_neg (by simp), if_neg (by simp)]
    obtain ⟨h1, h2⟩ := mul_bound (m := 2147483648) (show -2147483648 ≤ sgn a by omega) (by omega) (show -2147483648 ≤ sgn b by omega) (by omega) (by omega)
    generalize sgn a * sgn b = p at *
    rw [w64s (by omega) (by omega)]
    simp only [wu64_eq, wu32_eq]
    refine congrArg some (Prod.ext ?_ ?_) <;> simp only <;> omega
  · rw [if_pos rfl, if_pos rfl]
    obtain ⟨h1, h2⟩ := mul_bound (m := 4294967295) (show -4294967295 ≤ a by omega) a1 (show -4294967295 ≤ b by omega) b1 (by omega)
    have h0 : 0 ≤ a * b := Int.mul_nonneg a0 b0
    rw [wu64_eq a, wu64_eq b, Int.emod_eq_of_lt a0 (by omega), Int.emod_eq_of_lt b0 (by omega)]
    generalize a * b = p at *
    simp only [wu64_eq, wu32_eq]
    refine congrArg some (Prod.ext ?_ ?_) <;> simp only <;> omega
theorem refsigned_is {a : Int} (a0 : 0 ≤ a) (a1 : a ≤ 4294967295) : rivetref01_signed a = some (sgn a) := by
  unfold rivetref01_signed sgn
  rw [w64s (x := a) (by omega) (by omega)]
  split
  · rw [w64s (by omega) (by omega)]
  · rfl
theorem refmul_is {a b : Int} (a0 : 0 ≤ a) (a1 : a ≤ 4294967295) (b0 : 0 ≤ b) (b1 : b ≤ 4294967295) (u : Bool) : rivetref01_Mul a b u = some (mulS a b u) := by
  unfold rivetref01_Mul rivetref01_Mul.j1
  rw [refsigned_is a0 a1, refsigned_is b0 b1, w64s (x := a) (by omega) (by omega), w64s (x := b) (by omega) (by omega)]
  simp only [Int.tmod_eq_emod_of_nonneg a0, Int.tmod_eq_emod_of_nonneg b0, Int.tdiv_eq_ediv_of_nonneg a0, Int.tdiv_eq_ediv_of_nonneg b0]
  have hx := Int.emod_nonneg a (show (65536 : Int) ≠ 0 by omega)
  have hx1 := Int.emod_lt_of_pos a (show (0 : Int) < 65536 by omega)
  have hu := Int.emod_nonneg b (show (65536 : Int) ≠ 0 by omega)
  have hu1 := Int.emod_lt_of_pos b (show (0 : Int) < 65536 by omega)
  have hy : 0 ≤ a / 65536 ∧ a / 65536 ≤ 65535 := by omega
  have hv : 0 ≤ b / 65536 ∧ b / 65536 ≤ 65535 := by omega
  have ha : a = 65536 * (a / 65536) + a % 65536 := by omega
  have hb : b = 65536 * (b / 65536) + b % 65536 := by omega
  rw [w64s (x := a / 65536) (by omega) (by omega), w64s (x := b / 65536) (by omega) (by omega)]
  have p1 := mul_bound (m := 65535) (show -65535 ≤ a % 65536 by omega) (by omega) (show -65535 ≤ b % 65536 by omega) (by omega) (by omega)
  have p2 := mul_bound (m := 65535) (show -65535 ≤ a % 65536 by omega) (by omega) (show -65535 ≤ b / 65536 by omega) (by omega) (by omega)
  have p3 := mul_bound (m := 65535) (show -65535 ≤ a / 65536 by omega) (by omega) (show -65535 ≤ b % 65536 by omega) (by omega) (by omega)
  have p4 := mul_bound (m := 65535) (show -65535 ≤ a / 65536 by omega) (by omega) (show -65535 ≤ b / 65536 by omega) (by omega) (by omega)
  have q1 := Int.mul_nonneg hx hu
  have q2 := Int.mul_nonneg hx hv.1
  have q3 := Int.mul_nonneg hy.1 hu
  have q4 := Int.mul_nonneg hy.1 hv.1
  have hab : a * b = 4294967296 * (a / 65536 * (b / 65536)) + 65536 * (a % 65536 * (b / 65536)) + 65536 * (a / 65536 * (b % 65536)) + a % 65536 * (b % 65536) := by
    conv => lhs; rw [ha, hb]
    rw [Int.add_mul, Int.mul_add, Int.mul_add]
    have t1 : 65536 * (a / 65536) * (65536 * (b / 65536)) = 4294967296 * (a / 65536 * (b / 65536)) := by
      rw [Int.mul_assoc, Int.mul_left_comm (a / 65536) 65536, ← Int.mul_assoc]
      rfl
    have t2 : 65536 * (a / 65536) * (b % 65536) = 65536 * (a / 65536 * (b % 65536)) := Int.mul_assoc _ _ _
    have t3 : a % 65536 * (65536 * (b / 65536)) = 65536 * (a % 65536 * (b / 65536)) := Int.mul_left_comm _ _ _
    rw [t1, t2, t3]
    omega
  generalize hP1 : a % 65536 * (b % 65536) = P1 at *
  generalize hP2 : a % 65536 * (b / 65536) = P2 at *
  generalize hP3 : a / 65536 * (b % 65536) = P3 at *
  generalize hP4 : a / 65536 * (b / 65536) = P4 at *
  have b1' : P1 ≤ 4294836225 ∧ P2 ≤ 4294836225 ∧ P3 ≤ 4294836225 ∧ P4 ≤ 4294836225 := by omega
  rw [w64s (x := P1) (by omega) (by omega), w64s (x := P2) (by omega) (by omega), w64s (x := P3) (by omega) (by omega), w64s (x := P4) (by omega) (by omega), Int.tdiv_eq_ediv_of_nonneg (a := P1) q1, w64s (x := P1 / 65536) (by omega) (by omega), w64s (x := P2 + P3) (by omega) (by omega), w64s (x := P2 + P3 + P1 / 65536) (by omega) (by omega), Int.tdiv_eq_ediv_of_nonneg (a := P2 + P3 + P1 / 65536) (by omega), Int.tmod_eq_emod_of_nonneg (a := P2 + P3 + P1 / 65536) (by omega), Int.tmod_eq_emod_of_nonneg (a := P1) q1]
  rw [w64s (x := (P2 + P3 + P1 / 65536) / 65536) (by omega) (by omega), w64s (x := P4 + (P2 + P3 + P1 / 65536) / 65536) (by omega) (by omega), w64s (x := (P2 + P3 + P1 / 65536) % 65536 * 65536) (by omega) (by omega), w64s (x := P1 % 65536 + (P2 + P3 + P1 / 65536) % 65536 * 65536) (by omega) (by omega)]
  unfold mulS
  cases u
  · rw [if_neg (by simp), if_neg (by simp)]
    simp only [Option.bind_some]
    have hsab : sgn a * sgn b = a * b - (if a ≥ 2147483648 then 4294967296 * b else 0) - (if b ≥ 2147483648 then 4294967296 * a else 0) + (if a ≥ 2147483648 ∧ b ≥ 2147483648 then 18446744073709551616 else 0) := by
      unfold sgn
      by_cases h1 : a ≥ 2147483648 <;> by_cases h2 : b ≥ 2147483648
      · simp only [h1, h2, if_true, and_self, Int.sub_mul, Int.mul_sub]; omega
      · simp only [h1, h2, if_true, if_false, and_false, Int.sub_mul]; omega
      · simp only [h1, h2, if_true, if_false, false_and, Int.mul_sub]; omega
      · simp only [h1, h2, if_false, and_self]; omega
    rw [hsab, hab]
    have s1 : (sgn a < 0) ↔ a ≥ 2147483648 := by unfold sgn; split <;> omega
    have s2 : (sgn b < 0) ↔ b ≥ 2147483648 := by unfold sgn; split <;> omega
    by_cases h1 : a ≥ 2147483648
    · rw [if_pos (s1.2 h1), if_pos h1, w64s (x := P4 + (P2 + P3 + P1 / 65536) / 65536 - b) (by omega) (by omega)]
      by_cases h2 : b ≥ 2147483648
      · rw [if_pos (s2.2 h2), if_pos h2, if_pos ⟨h1, h2⟩, w64s (x := P4 + (P2 + P3 + P1 / 65536) / 65536 - b - a) (by omega) (by omega), w64s (by omega) (by omega), Int.tmod_eq_emod_of_nonneg (by omega)]
        simp only [wu32_eq]
        refine congrArg some (Prod.ext ?_ ?_) <;> simp only <;> omega
      · rw [if_neg (fun h => h2 (s2.1 h)), if_neg h2, if_neg (fun h => h2 h.2), w64s (by omega) (by omega), Int.tmod_eq_emod_of_nonneg (by omega)]
        simp only [wu32_eq]
        refine congrArg some (Prod.ext ?_ ?_) <;> simp only <;> omega
    · rw [if_neg (fun h => h1 (s1.1 h)), if_neg h1]
      by_cases h2 : b ≥ 2147483648
      · rw [if_pos (s2.2 h2), if_pos h2, if_neg (fun h => h1 h.1), w64s (x := P4 + (P2 + P3 + P1 / 65536) / 65536 - a) (by omega) (by omega), w64s (by omega) (by omega), Int.tmod_eq_emod_of_nonneg (by omega)]
        simp only [wu32_eq]
        refine congrArg some (Prod.ext ?_ ?_) <;> simp only <;> omega
      · rw [if_neg (fun h => h2 (s2.1 h)), if_neg h2, if_neg (fun h => h2 h.2), w64s (by omega) (by omega), Int.tmod_eq_emod_of_nonneg (by omega)]
        simp only [wu32_eq]
        refine congrArg some (Prod.ext ?_ ?_) <;> simp only <;> omega
  · rw [if_pos rfl, if_pos rfl, hab, w64s (by omega) (by omega), Int.tmod_eq_emod_of_nonneg (by omega)]
    simp only [wu32_eq]
    refine congrArg some (Prod.ext ?_ ?_) <;> simp only <;> omega
/-! ### quotients -/
def divS (a b : Int) : Int × Int × Bool := if sgn b ≤ 0 then (0, 0, false) else (sgn a / sgn b % 4294967296, sgn a % sgn b, true)
theorem quo_le {n d : Int} (hd : 0 < d) : -n.natAbs ≤ n.tdiv d ∧ n.tdiv d ≤ n.natAbs ∧ -d < n.tmod d ∧ n.tmod d < d ∧ d * n.tdiv d + n.tmod d = n := by
  have h1 := Int.natAbs_tdiv_le_natAbs n d
  have h2 := Int.tmod_lt_of_pos n hd
  have h3 := Int.lt_tmod_of_pos n hd
  have h4 := Int.mul_tdiv_add_tmod n d
  refine ⟨by omega, by omega, h3, h2, h4⟩
theorem floor_of {n d : Int} (hd : 0 < d) : n / d = (if n.tmod d < 0 then n.tdiv d - 1 else n.tdiv d) ∧ n % d = (if n.tmod d < 0 then n.tmod d + d else n.tmod d) := by
  obtain ⟨_, _, h3, h4, h5⟩ := quo_le (n := n) hd
  rw [Int.ediv_emod_unique hd]
  by_cases h : n.tmod d < 0
  · rw [if_pos h, if_pos h, Int.mul_sub]; omega
  · rw [if_neg h, if_neg h]; omega
theorem div_is {a b : Int} (a0 : 0 ≤ a) (a1 : a ≤ 4294967295) (b0 : 0 ≤ b) (b1 : b ≤ 4294967295) : word_Div a b = some (divS a b) := by
  unfold word_Div divS
  have sa := sgn_in a0 a1
  have sb := sgn_in b0 b1
  rw [w32_sgn a0 a1, w32_sgn b0 b1]
  by_cases h : sgn b ≤ 0
  · rw [if_pos h, if_pos h]
  · rw [if_neg h, if_neg h, if_pos (by omega), if_pos (by omega)]
    obtain ⟨q1, q2, q3, q4, _⟩ := quo_le (n := sgn a) (d := sgn b) (by omega)
    obtain ⟨f1, f2⟩ := floor_of (n := sgn a) (d := sgn b) (by omega)
    rw [f1, f2, w64s (x := (sgn a).tdiv (sgn b)) (by omega) (by omega)]
    by_cases h2 : (sgn a).tmod (sgn b) < 0
    · rw [if_pos h2, if_pos h2, if_pos h2, w64s (by omega) (by omega), w64s (by omega) (by omega), wu32_eq, wu32_id (by omega) (by omega)]
    · rw [if_neg h2, if_neg h2, if_neg h2, wu32_eq, wu32_id (by omega) (by omega)]
theorem refdiv_is {a b : Int} (a0 : 0 ≤ a) (a1 : a ≤ 4294967295) (b0 : 0 ≤ b) (b1 : b ≤ 4294967295) : rivetref01_Div a b = some (divS a b) := by
  unfold rivetref01_Div divS
  have sa := sgn_in a0 a1
  have sb := sgn_in b0 b1
  rw [refsigned_is a0 a1, refsigned_is b0 b1]
  simp only [Option.bind_some]
  by_cases h : sgn b ≤ 0
  · rw [if_pos h, if_pos h]
  · rw [if_neg h, if_neg h, if_pos (by omega), if_pos (by omega)]
    obtain ⟨q1, q2, q3, q4, _⟩ := quo_le (n := sgn a) (d := sgn b) (by omega)
    obtain ⟨f1, f2⟩ := floor_of (n := sgn a) (d := sgn b) (by omega)
    rw [f1, f2, w64s (x := (sgn a).tdiv (sgn b)) (by omega) (by omega)]
    by_cases h2 : (sgn a).tmod (sgn b) < 0
    · rw [if_pos h2, if_pos h2, if_pos h2, w64s (x := (sgn a).tdiv (sgn b) - 1) (by omega) (by omega), w64s (x := (sgn a).tmod (sgn b) + sgn b) (by omega) (by omega), w64s (by omega) (by omega), Int.tmod_eq_emod_of_nonneg (by omega), wu32_eq, wu32_id (by omega) (by omega)]
      refine congrArg some (Prod.ext ?_ rfl)
      simp only
      omega
    · rw [if_neg h2, if_neg h2, if_neg h2, w64s (x := (sgn a).tdiv (sgn b) + 4294967296) (by omega) (by omega), Int.tmod_eq_emod_of_nonneg (by omega), wu32_eq, wu32_id (by omega) (by omega)]
      refine congrArg some (Prod.ext ?_ rfl)
      simp only
      omega
end Go.Proofs.YtheccnbamcdpmaaGreatDoor.ZD
namespace Go.Proofs.YtheccnbamcdpmaaGreatDoor.ZD
open Go Go.RowKit Go.Proofs.YtheccnbamcdpmaaGreatDoor.E
def okSrivetlaw12_Parts (x : Srivetlaw12_Parts) : Prop := ((∀ n ∈ x.Words, In .u32 n) ∧ x.Words.length * 4 ≤ 140737488351232) ∧ ((∀ n ∈ x.Bits, In .u8 n) ∧ x.Bits.length * 1 ≤ 140737488351232) ∧ ((∀ n ∈ x.Names, n.size ≤ 140737488351232) ∧ x.Names.length * 16 ≤ 140737488351232)
def okSrivetlaw12_Where (x : Srivetlaw12_Where) : Prop := In .i64 x.Base ∧ In .i64 x.Mem ∧ ((∀ n ∈ x.In, In .u32 n) ∧ x.In.length * 4 ≤ 140737488351232)
end Go.Proofs.YtheccnbamcdpmaaGreatDoor.ZD

namespace Go.Proofs.YtheccnbamcdpmaaGreatDoor.ZD
set_option linter.unusedVariables false
set_option linter.unusedSimpArgs false
open Go Go.RowKit Go.Proofs.YtheccnbamcdpmaaGreatDoor.E
/-- A word. -/
abbrev W (x : Int) : Prop := 0 ≤ x ∧ x ≤ 4294967295
structure OkR (s : Sapi_Regs) : Prop where
  r : ∀ j : Int, 0 ≤ j → j < 16 → W (vx 0 s.R j.toNat)
  h : W s.H
def showS (s : Sapi_Regs) (x : Int) : Sapi_Regs := { s with N := decide (x ≥ 2147483648), Z := decide (x = 0) }
def setA (t : Sapi_Regs) (A x : Int) : Sapi_Regs := showS { t with R := vset t.R A.toNat x } x
theorem show_is (s : Sapi_Regs) {x : Int} (h : W x) : alu_Show s x = some (showS s x) := by
  unfold alu_Show showS
  have e : decide (shr .u32 x 31 = 1) = decide (x ≥ 2147483648) := by
    have e31 : (2 : Int) ^ 31 = 2147483648 := by decide
    show decide (x.fdiv (2 ^ 31) = 1) = _
    rw [e31, Int.fdiv_eq_ediv_of_nonneg _ (by omega), Bool.eq_iff_iff, decide_eq_true_eq, decide_eq_true_eq]
    have := h.1; have := h.2
    omega
  rw [e]
theorem refshow_is (s : Sapi_Regs) (x : Int) : rivetref04_Show s x = some (showS s x) := by
  rfl
def flagsS (s : Sapi_Regs) : Int := 2147483648 * b2i s.N + 1073741824 * b2i s.Z + 536870912 * b2i s.C + 268435456 * b2i s.V
theorem flags_is (s : Sapi_Regs) : alu_flags s = some (flagsS s) := by
  obtain ⟨R, H, n, z, c, v⟩ := s
  unfold alu_flags flagsS
  have key : loopO alu_flags.b1 (0, vset (vset (vset (vset (Vector.replicate 4 false) 0 n) (0 + 1) z) (1 + 1) c) (2 + 1) v, 0) = some (2147483648 * b2i n + 1073741824 * b2i z + 536870912 * b2i c + 268435456 * b2i v) := by
    cases n <;> cases z <;> cases c <;> cases v
    all_goals
      rw [loopO_next (s' := (_, _, 1)) (by rfl), loopO_next (s' := (_, _, 2)) (by rfl), loopO_next (s' := (_, _, 3)) (by rfl), loopO_next (s' := (_, _, 4)) (by rfl), loopO_done (by rfl)]
      rfl
  rw [key]
  rfl
theorem refbit_is (b : Bool) (n : Nat) (hn : n < 32) : rivetref04_bit b (n : Int) = some (b2i b * ((2 ^ n : Nat) : Int)) := by
  unfold rivetref04_bit
  cases b
  · simp [b2i]
  · have h2 : 2 ^ n < 4294967296 := Nat.pow_lt_pow_right (a := 2) (n := 32) (by omega) hn
    have := shl_u32 (w := 1) (i := n) (by omega) (by omega)
    simp only [if_true]
    rw [if_pos (by omega)]
    have e : shl .u32 1 (n : Int) = ((1 * 2 ^ n : Nat) : Int) := this
    rw [e, b2i, if_pos rfl, Nat.one_mul, Int.one_mul]
def condS (s : Sapi_Regs) (k : Int) : Bool :=
  if k = 0 then s.N else if k = 1 then s.Z else if k = 2 then s.C else if k = 3 then s.V else if k = 4 then s.C || s.Z else if k = 5 then s.N != s.V else if k = 6 then (s.N != s.V) || s.Z else true
def condB (n z c v : Bool) (k : Int) : Bool :=
  if k = 0 then n else if k = 1 then z else if k = 2 then c else if k = 3 then v else if k = 4 then c || z else if k = 5 then n != v else if k = 6 then (n != v) || z else true
def takenS (s : Sapi_Regs) (k : Int) : Bool := if k < 0 ∨ k > 15 then false else condS s (k % 8) != decide (k > 7)
set_option maxHeartbeats 4000000 in
theorem taken_is (s : Sapi_Regs) (k : Int) : alu_Taken s k = some (takenS s k) := by
  unfold alu_Taken takenS
  by_cases h0 : k < 0
  · rw [if_pos h0, if_pos (.inl h0)]
  · rw [if_neg h0]
    by_cases h1 : k > 15
    · rw [if_pos h1, if_pos (.inr h1)]
    · rw [if_neg h1, if_neg (show ¬ (k < 0 ∨ k > 15) by omega)]
      obtain ⟨R, H, n, z, c, v⟩ := s
      have hk : k = 0 ∨ k = 1 ∨ k = 2 ∨ k = 3 ∨ k = 4 ∨ k = 5 ∨ k = 6 ∨ k = 7 ∨ k = 8 ∨ k = 9 ∨ k = 10 ∨ k = 11 ∨ k = 12 ∨ k = 13 ∨ k = 14 ∨ k = 15 := by omega
      have e : ∀ k, condS ⟨R, H, n, z, c, v⟩ k = condB n z c v k := fun _ => rfl
      rw [e]
      dsimp only []
      clear e h0 h1
      rcases hk with rfl | rfl | rfl | rfl | rfl | rfl | rfl | rfl | rfl | rfl | rfl | rfl | rfl | rfl | rfl | rfl <;> (cases n <;> cases z <;> cases c <;> cases v <;> (show _ = _; kernel_rfl))
set_option maxHeartbeats 4000000 in
theorem reftaken_is (s : Sapi_Regs) (k : Int) : rivetref04_Taken s k = some (takenS s k) := by
  unfold rivetref04_Taken takenS
  by_cases h0 : k < 0
  · rw [if_pos h0, if_pos (.inl h0)]
  · rw [if_neg h0]
    by_cases h1 : k > 15
    · rw [if_pos h1, if_pos (.inr h1)]
    · rw [if_neg h1, if_neg (show ¬ (k < 0 ∨ k > 15) by omega)]
      obtain ⟨R, H, n, z, c, v⟩ := s
      have hk : k = 0 ∨ k = 1 ∨ k = 2 ∨ k = 3 ∨ k = 4 ∨ k = 5 ∨ k = 6 ∨ k = 7 ∨ k = 8 ∨ k = 9 ∨ k = 10 ∨ k = 11 ∨ k = 12 ∨ k = 13 ∨ k = 14 ∨ k = 15 := by omega
      have e : ∀ k, condS ⟨R, H, n, z, c, v⟩ k = condB n z c v k := fun _ => rfl
      rw [e]
      dsimp only []
      clear e h0 h1
      rcases hk with rfl | rfl | rfl | rfl | rfl | rfl | rfl | rfl | rfl | rfl | rfl | rfl | rfl | rfl | rfl | rfl <;> (cases n <;> cases z <;> cases c <;> cases v <;> (show _ = _; kernel_rfl))
/-- An operation of b and n. -/
def opS (s : Sapi_Regs) (op b n : Int) (u : Bool) : Option (Int × Sapi_Regs) :=
  if op = 0 then some (if u = true then n * 65536 % 4294967296 else n, s)
  else if op = 1 ∨ op = 2 ∨ op = 3 then some (shiftS op b n, s)
  else if op = 4 then some (band .u32 b n, s)
  else if op = 5 then some (bandn .u32 b n, s)
  else if op = 6 then some (bor .u32 b n, s)
  else if op = 7 then some (bxor .u32 b n, s)
  else if op = 8 then some ((addS b n (u && s.C)).1, { s with C := (addS b n (u && s.C)).2.1, V := (addS b n (u && s.C)).2.2 })
  else if op = 9 then some ((subS b n (u && s.C)).1, { s with C := (subS b n (u && s.C)).2.1, V := (subS b n (u && s.C)).2.2 })
  else if op = 10 then some ((mulS b n u).1, { s with H := (mulS b n u).2 })
  else if (divS b n).2.2 = true then some ((divS b n).1, { s with H := (divS b n).2.1 }) else none
/-- The number that an operation works with. -/
def numS (s : Sapi_Regs) (i : Sapi_Instr) : Int := if i.Kind = 2 then i.Imm % 4294967296 else vx 0 s.R i.C.toNat
noncomputable def doS (s : Sapi_Regs) (i : Sapi_Instr) : Sapi_Regs × Int :=
  if ¬ MayP i ∨ i.Kind ≥ 5 then (s, 0)
  else if i.Kind = 3 then (setA s i.A s.H, 0)
  else if i.Kind = 4 then (setA s i.A (flagsS s), 0)
  else match opS s i.Op (vx 0 s.R i.B.toNat) (numS s i) i.U with
    | some (x, t) => (setA t i.A x, 0)
    | none => (s, 5)
theorem W_shift {k a n : Int} (ha : W a) : W (shiftS k a n) := by
  have h0 : 0 ≤ n % 32 := Int.emod_nonneg _ (by omega)
  have h1 : n % 32 < 32 := Int.emod_lt_of_pos _ (by omega)
  exact shiftN_in (by have := ha.2; omega) (by omega)
theorem W_nat {x : Nat} (h : x < 4294967296) : W (x : Int) := ⟨by omega, by omega⟩
theorem W_band {a b : Int} (ha : W a) (hb : W b) : W (band .u32 a b) := by
  obtain ⟨x, rfl⟩ := Int.eq_ofNat_of_zero_le ha.1
  obtain ⟨y, rfl⟩ := Int.eq_ofNat_of_zero_le hb.1
  have hx : x < 4294967296 := by have := ha.2; omega
  have hy : y < 4294967296 := by have := hb.2; omega
  rw [band_u32 hx hy]
  exact W_nat (and_lt hx)
theorem W_bandn {a b : Int} (ha : W a) (hb : W b) : W (bandn .u32 a b) := by
  obtain ⟨x, rfl⟩ := Int.eq_ofNat_of_zero_le ha.1
  obtain ⟨y, rfl⟩ := Int.eq_ofNat_of_zero_le hb.1
  have hx : x < 4294967296 := by have := ha.2; omega
  have hy : y < 4294967296 := by have := hb.2; omega
  rw [bandn_u32 hx hy]
  exact W_nat (and_lt hx)
theorem W_bor {a b : Int} (ha : W a) (hb : W b) : W (bor .u32 a b) := by
  obtain ⟨x, rfl⟩ := Int.eq_ofNat_of_zero_le ha.1
  obtain ⟨y, rfl⟩ := Int.eq_ofNat_of_zero_le hb.1
  have hx : x < 4294967296 := by have := ha.2; omega
  have hy : y < 4294967296 := by have := hb.2; omega
  rw [bor_u32 hx hy]
  exact W_nat (or_lt hx hy)
theorem W_bxor {a b : Int} (ha : W a) (hb : W b) : W (bxor .u32 a b) := by
  obtain ⟨x, rfl⟩ := Int.eq_ofNat_of_zero_le ha.1
  obtain ⟨y, rfl⟩ := Int.eq_ofNat_of_zero_le hb.1
  have hx : x < 4294967296 := by have := ha.2; omega
  have hy : y < 4294967296 := by have := hb.2; omega
  rw [bxor_u32 hx hy]
  exact W_nat (xor_lt hx hy)
theorem W_mod (x : Int) : W (x % 4294967296) := ⟨Int.emod_nonneg _ (by omega), by have := Int.emod_lt_of_pos x (show (0 : Int) < 4294967296 by omega); omega⟩
theorem W_flags (s : Sapi_Regs) : W (flagsS s) := by
  unfold flagsS
  have h : ∀ b : Bool, 0 ≤ b2i b ∧ b2i b ≤ 1 := by intro b; cases b <;> simp [b2i]
  have := h s.N; have := h s.Z; have := h s.C; have := h s.V
  exact ⟨by omega, by omega⟩
theorem j2_is {K O A B C M : Int} {U : Bool} {r : Vector Int 16} {b1 b2 b3 b4 : Bool} (hA : 0 ≤ A ∧ A ≤ 15) (t : Sapi_Regs) {x : Int} (h : W x) : alu_Do.j2 x K O A B C M U r b1 b2 b3 b4 t = some (setA t A x, 0) := by
  unfold alu_Do.j2
  rw [if_pos (by omega), show_is _ h]
  rfl
theorem units_is : alu_units = some (1, 2, 3) := rfl
theorem W_num {s : Sapi_Regs} {i : Sapi_Instr} (h : OkR s) (hC : 0 ≤ i.C ∧ i.C ≤ 15) : W (numS s i) := by
  unfold numS
  split
  · exact W_mod _
  · exact h.r i.C hC.1 (by omega)
theorem j1_is {K O A B C M : Int} {U : Bool} {r : Vector Int 16} {b1 b2 b3 b4 : Bool} {s : Sapi_Regs} (hs : OkR s) (hA : 0 ≤ A ∧ A ≤ 15) (hB : 0 ≤ B ∧ B ≤ 15) (hO : 0 ≤ O ∧ O ≤ 11) {n : Int} (hn : W n) :
    alu_Do.j1 n s.R s.H s.N s.Z s.C s.V K O A B C M U r b1 b2 b3 b4 s.R s.H s.N s.Z s.C s.V = some (match opS s O (vx 0 s.R B.toNat) n U with
      | some (x, t) => (setA t A x, 0)
      | none => (s, 5)) := by
  have hb := hs.r B hB.1 (by omega)
  unfold alu_Do.j1
  rw [units_is]
  simp only [Option.bind_some]
  rw [if_pos (show (0 : Int) ≤ O ∧ O < 12 by omega)]
  simp only [if_pos (show (0 : Int) ≤ B ∧ B < 16 by omega)]
  generalize hbv : vx 0 s.R B.toNat = b at *
  unfold opS
  by_cases h0 : O = 0
  · rw [if_pos h0, if_pos h0]
    unfold alu_units_2
    cases U
    · rw [if_neg (by simp), if_neg (by simp)]
      simp only [Option.bind_some, if_true]
      exact j2_is hA _ hn
    · rw [if_pos rfl, if_pos rfl]
      simp only [Option.bind_some, if_true]
      exact j2_is hA _ (W_mod _)
  rw [if_neg h0, if_neg h0]
  by_cases h1 : O = 1
  · rw [if_pos h1, if_pos (.inl h1), h1]
    unfold alu_plain_1 alu_units_1_1
    rw [shift_is hb.1 hb.2 hn.1]
    simp only [Option.bind_some, if_true]
    exact j2_is hA _ (W_shift hb)
  rw [if_neg h1]
  by_cases h2 : O = 2
  · rw [if_pos h2, if_pos (.inr (.inl h2)), h2]
    unfold alu_plain_1 alu_units_1_1
    rw [shift_is hb.1 hb.2 hn.1]
    simp only [Option.bind_some, if_true]
    exact j2_is hA _ (W_shift hb)
  rw [if_neg h2]
  by_cases h3 : O = 3
  · rw [if_pos h3, if_pos (.inr (.inr h3)), h3]
    unfold alu_plain_1 alu_units_1_1
    rw [shift_is hb.1 hb.2 hn.1]
    simp only [Option.bind_some, if_true]
    exact j2_is hA _ (W_shift hb)
  rw [if_neg h3, if_neg (show ¬ (O = 1 ∨ O = 2 ∨ O = 3) by omega)]
  by_cases h4 : O = 4
  · rw [if_pos h4, if_pos h4]
    unfold alu_plain_1_v90 alu_units_3
    simp only [Option.bind_some, if_true]
    exact j2_is hA _ (W_band hb hn)
  rw [if_neg h4, if_neg h4]
  by_cases h5 : O = 5
  · rw [if_pos h5, if_pos h5]
    unfold alu_plain_1_v92 alu_units_4
    simp only [Option.bind_some, if_true]
    exact j2_is hA _ (W_bandn hb hn)
  rw [if_neg h5, if_neg h5]
  by_cases h6 : O = 6
  · rw [if_pos h6, if_pos h6]
    unfold alu_plain_1_v94 alu_units_5
    simp only [Option.bind_some, if_true]
    exact j2_is hA _ (W_bor hb hn)
  rw [if_neg h6, if_neg h6]
  by_cases h7 : O = 7
  · rw [if_pos h7, if_pos h7]
    unfold alu_plain_1_v96 alu_units_6
    simp only [Option.bind_some, if_true]
    exact j2_is hA _ (W_bxor hb hn)
  rw [if_neg h7, if_neg h7]
  by_cases h8 : O = 8
  · rw [if_pos h8, if_pos h8]
    unfold alu_units_7
    cases U
    · simp only [Bool.false_and]
      rw [if_neg (by simp), add_is hb.1 hb.2 hn.1 hn.2]
      have hq : W (addS b n false).1 := W_mod _
      generalize addS b n false = d at *
      obtain ⟨q, m, ok⟩ := d
      simp only [Option.bind_some, if_true]
      exact j2_is hA _ hq
    · simp only [Bool.true_and]
      rw [if_pos trivial, add_is hb.1 hb.2 hn.1 hn.2]
      have hq : W (addS b n s.C).1 := W_mod _
      generalize addS b n s.C = d at *
      obtain ⟨q, m, ok⟩ := d
      simp only [Option.bind_some, if_true]
      exact j2_is hA _ hq
  rw [if_neg h8, if_neg h8]
  by_cases h9 : O = 9
  · rw [if_pos h9, if_pos h9]
    unfold alu_units_8
    cases U
    · simp only [Bool.false_and]
      rw [if_neg (by simp), sub_is hb.1 hb.2 hn.1 hn.2]
      have hq : W (subS b n false).1 := W_mod _
      generalize subS b n false = d at *
      obtain ⟨q, m, ok⟩ := d
      simp only [Option.bind_some, if_true]
      exact j2_is hA _ hq
    · simp only [Bool.true_and]
      rw [if_pos trivial, sub_is hb.1 hb.2 hn.1 hn.2]
      have hq : W (subS b n s.C).1 := W_mod _
      generalize subS b n s.C = d at *
      obtain ⟨q, m, ok⟩ := d
      simp only [Option.bind_some, if_true]
      exact j2_is hA _ hq
  rw [if_neg h9, if_neg h9]
  by_cases h10 : O = 10
  · rw [if_pos h10, if_pos h10]
    unfold alu_units_9
    rw [mul_is hb.1 hb.2 hn.1 hn.2]
    have hq : W (mulS b n U).1 := W_mod _
    generalize mulS b n U = d at *
    obtain ⟨q, m⟩ := d
    simp only [Option.bind_some, if_true]
    exact j2_is hA _ hq
  rw [if_neg h10, if_neg h10, if_pos (by omega)]
  unfold alu_units_10
  rw [div_is hb.1 hb.2 hn.1 hn.2]
  have hq : W (divS b n).1 := by
    unfold divS
    split
    · exact ⟨by simp, by simp⟩
    · exact W_mod _
  generalize divS b n = d at *
  obtain ⟨q, m, ok⟩ := d
  simp only [Option.bind_some]
  cases ok
  · rfl
  · simp only [if_true]
    exact j2_is hA _ hq
theorem do_is {s : Sapi_Regs} {i : Sapi_Instr} (hs : OkR s) : alu_Do s i = some (doS s i) := by
  unfold alu_Do doS
  rw [may_is]
  simp only [Option.bind_some]
  by_cases hm : MayP i
  · rw [decide_eq_true hm, if_pos rfl]
    by_cases h5 : i.Kind ≥ 5
    · rw [if_pos h5, if_pos (.inr h5)]
    · rw [if_neg h5, if_neg (show ¬ (¬ MayP i ∨ i.Kind ≥ 5) from fun h => h.elim (fun h => h hm) h5)]
      have hm' := hm
      unfold MayP at hm'
      obtain ⟨hA, hB, hC, hK⟩ := hm'
      by_cases h3 : i.Kind = 3
      · rw [if_pos h3, if_pos h3, j2_is hA _ hs.h]
      · rw [if_neg h3, if_neg h3]
        by_cases h4 : i.Kind = 4
        · rw [if_pos h4, if_pos h4, flags_is]
          simp only [Option.bind_some]
          rw [j2_is hA _ (W_flags s)]
        · rw [if_neg h4, if_neg h4, if_pos (by omega)]
          have hO : 0 ≤ i.Op ∧ i.Op ≤ 11 := by omega
          by_cases h2 : i.Kind = 2
          · rw [if_pos h2, wu32_eq, j1_is hs hA hB hO (W_mod _)]
            unfold numS
            rw [if_pos h2]
          · rw [if_neg h2, j1_is hs hA hB hO (hs.r i.C hC.1 (by omega))]
            unfold numS
            rw [if_neg h2]
  · rw [decide_eq_false hm, if_neg (by simp), if_pos (.inl hm)]
end Go.Proofs.YtheccnbamcdpmaaGreatDoor.ZD
namespace Go.Proofs.YtheccnbamcdpmaaGreatDoor.ZD
set_option linter.unusedVariables false
set_option linter.unusedSimpArgs false
open Go Go.RowKit Go.Proofs.YtheccnbamcdpmaaGreatDoor.E
theorem or_xor {x y : Nat} (hx : x < 4294967296) (hy : y < 4294967296) : (((x ||| y : Nat) : Int) - ((x &&& y : Nat) : Int)) % 4294967296 = ((x ^^^ y : Nat) : Int) := by
  have ha : x &&& y < 4294967296 := and_lt hx
  have hb : x ^^^ y < 4294967296 := xor_lt hx hy
  have h := BitVec.add_eq_or_of_and_eq_zero (BitVec.ofNat 32 (x &&& y)) (BitVec.ofNat 32 (x ^^^ y)) (by
    apply BitVec.eq_of_toNat_eq
    rw [BitVec.toNat_and, BitVec.toNat_ofNat, BitVec.toNat_ofNat, Nat.mod_eq_of_lt ha, Nat.mod_eq_of_lt hb]
    show _ = 0
    apply Nat.eq_of_testBit_eq
    intro i
    rw [Nat.testBit_and, Nat.testBit_and, Nat.testBit_xor, Nat.zero_testBit]
    cases x.testBit i <;> cases y.testBit i <;> rfl)
  have h2 := congrArg BitVec.toNat h
  rw [BitVec.toNat_add, BitVec.toNat_or, BitVec.toNat_ofNat, BitVec.toNat_ofNat, Nat.mod_eq_of_lt ha, Nat.mod_eq_of_lt hb] at h2
  have h3 : x ||| y = (x &&& y) ||| (x ^^^ y) := by
    apply Nat.eq_of_testBit_eq
    intro i
    rw [Nat.testBit_or, Nat.testBit_or, Nat.testBit_and, Nat.testBit_xor]
    cases x.testBit i <;> cases y.testBit i <;> rfl
  rw [h3, ← h2]
  have e : (2 : Nat) ^ 32 = 4294967296 := by rfl
  rw [e]
  generalize x &&& y = p at *
  generalize x ^^^ y = q at *
  clear h h2 h3 e
  omega
theorem ref_xor {a b : Int} (ha : W a) (hb : W b) : wu32 (bor .u32 a b - band .u32 a b) = bxor .u32 a b := by
  obtain ⟨x, rfl⟩ := Int.eq_ofNat_of_zero_le ha.1
  obtain ⟨y, rfl⟩ := Int.eq_ofNat_of_zero_le hb.1
  have hx : x < 4294967296 := by have := ha.2; omega
  have hy : y < 4294967296 := by have := hb.2; omega
  rw [wu32_eq, bor_u32 hx hy, band_u32 hx hy, bxor_u32 hx hy, or_xor hx hy]
theorem ref_andn {a b : Int} (ha : W a) (hb : W b) : band .u32 a (wu32 (4294967295 - b)) = bandn .u32 a b := by
  obtain ⟨x, rfl⟩ := Int.eq_ofNat_of_zero_le ha.1
  obtain ⟨y, rfl⟩ := Int.eq_ofNat_of_zero_le hb.1
  have hx : x < 4294967296 := by have := ha.2; omega
  have hy : y < 4294967296 := by have := hb.2; omega
  have e : wu32 (4294967295 - (y : Int)) = ((4294967295 - y : Nat) : Int) := by rw [wu32_eq]; omega
  rw [e, band_u32 hx (by omega), bandn_u32 hx hy]
theorem refj2_is {K O A B C M : Int} {U : Bool} {r : Vector Int 16} {b1 b2 b3 b4 : Bool} (hA : 0 ≤ A ∧ A ≤ 15) (t : Sapi_Regs) (x : Int) : rivetref04_Do.j2 x K O A B C M U r b1 b2 b3 b4 t.R t.H t.N t.Z t.C t.V = some (setA t A x, 0) := by
  unfold rivetref04_Do.j2
  rw [if_pos (by omega), refshow_is]
  rfl
theorem refflags0 : ∀ n z c v : Bool, bor .u32 (bor .u32 (bor .u32 (b2i n * ((2 ^ 31 : Nat) : Int)) (b2i z * ((2 ^ 30 : Nat) : Int))) (b2i c * ((2 ^ 29 : Nat) : Int))) (b2i v * ((2 ^ 28 : Nat) : Int)) = 2147483648 * b2i n + 1073741824 * b2i z + 536870912 * b2i c + 268435456 * b2i v := by decide +kernel
theorem refflags (s : Sapi_Regs) : bor .u32 (bor .u32 (bor .u32 (b2i s.N * ((2 ^ 31 : Nat) : Int)) (b2i s.Z * ((2 ^ 30 : Nat) : Int))) (b2i s.C * ((2 ^ 29 : Nat) : Int))) (b2i s.V * ((2 ^ 28 : Nat) : Int)) = flagsS s := refflags0 s.N s.Z s.C s.V
theorem refone_is (c : Bool) : rivetref01_one c = some (b2i c) := by cases c <;> rfl
theorem refout_is (x : Int) : rivetref01_out x = some (decide (x < -2147483648 ∨ x > 2147483647)) := by
  unfold rivetref01_out
  by_cases h : x < -2147483648
  · rw [if_pos h, decide_eq_true (.inl h)]
  · rw [if_neg h]
    have e : (x < -2147483648 ∨ x > 2147483647) ↔ x > 2147483647 := by omega
    simp only [e]
    rfl
theorem refadd_is {a b : Int} (a0 : 0 ≤ a) (a1 : a ≤ 4294967295) (b0 : 0 ≤ b) (b1 : b ≤ 4294967295) (c : Bool) : rivetref01_Add a b c = some (addS a b c) := by
  unfold rivetref01_Add addS
  have hc1 : 0 ≤ b2i c ∧ b2i c ≤ 1 := by cases c <;> simp [b2i]
  have ha := sgn_in a0 a1
  have hb := sgn_in b0 b1
  rw [refone_is, refsigned_is a0 a1, refsigned_is b0 b1]
  simp only [Option.bind_some]
  rw [w64s (x := sgn a + sgn b) (by omega) (by omega), w64s (x := sgn a + sgn b + b2i c) (by omega) (by omega), refout_is, w64s (x := a) (by omega) (by omega), w64s (x := b) (by omega) (by omega), w64s (x := a + b) (by omega) (by omega), w64s (x := a + b + b2i c) (by omega) (by omega), wu32_eq, Int.tmod_eq_emod_of_nonneg (by omega)]
  simp only [Option.bind_some]
  congr 1
  refine Prod.ext ?_ (Prod.ext ?_ ?_)
  · simp only; omega
  · rfl
  · simp only
    rw [decide_eq_decide]
    unfold sgn
    split <;> split <;> omega
theorem refsub_is {a b : Int} (a0 : 0 ≤ a) (a1 : a ≤ 4294967295) (b0 : 0 ≤ b) (b1 : b ≤ 4294967295) (c : Bool) : rivetref01_Sub a b c = some (subS a b c) := by
  unfold rivetref01_Sub subS
  have hc1 : 0 ≤ b2i c ∧ b2i c ≤ 1 := by cases c <;> simp [b2i]
  have ha := sgn_in a0 a1
  have hb := sgn_in b0 b1
  rw [refone_is, refsigned_is a0 a1, refsigned_is b0 b1]
  simp only [Option.bind_some]
  rw [w64s (x := sgn a - sgn b) (by omega) (by omega), w64s (x := sgn a - sgn b - b2i c) (by omega) (by omega), refout_is, w64s (x := a) (by omega) (by omega), w64s (x := b) (by omega) (by omega), w64s (x := a - b) (by omega) (by omega), w64s (x := a - b - b2i c) (by omega) (by omega), w64s (x := a - b - b2i c + 8589934592) (by omega) (by omega), wu32_eq, Int.tmod_eq_emod_of_nonneg (by omega)]
  simp only [Option.bind_some]
  congr 1
  refine Prod.ext ?_ (Prod.ext ?_ ?_)
  · simp only; omega
  · rfl
  · simp only
    rw [decide_eq_decide]
    unfold sgn
    split <;> split <;> omega
theorem refj1_is {K O A B C M : Int} {U : Bool} {r : Vector Int 16} {b1 b2 b3 b4 : Bool} {s : Sapi_Regs} {b n : Int} (hb : W b) (hA : 0 ≤ A ∧ A ≤ 15) (hk : K = 1 ∨ K = 2) (hO : 0 ≤ O ∧ O ≤ 11) (hn : W n) :
    rivetref04_Do.j1 b n s.R s.H s.N s.Z s.C s.V K O A B C M U r b1 b2 b3 b4 = some (match opS s O b n U with
      | some (x, t) => (setA t A x, 0)
      | none => (s, 5)) := by
  unfold rivetref04_Do.j1
  rw [if_neg (by omega), if_neg (by omega)]
  unfold opS
  by_cases h0 : O = 0
  · rw [if_pos h0, if_pos h0]
    cases U
    · rw [if_neg (by simp), if_neg (by simp)]; exact refj2_is hA s _
    · rw [if_pos rfl, if_pos rfl]; exact refj2_is hA s _
  rw [if_neg h0, if_neg h0]
  by_cases h3 : O ≤ 3
  · rw [if_pos h3, refshift_is hb.1 hb.2 hn.1, if_pos (by omega)]
    simp only [Option.bind_some]
    exact refj2_is hA s _
  rw [if_neg h3, if_neg (show ¬ (O = 1 ∨ O = 2 ∨ O = 3) by omega)]
  by_cases h4 : O = 4
  · rw [if_pos h4, if_pos h4]; exact refj2_is hA s _
  rw [if_neg h4, if_neg h4]
  by_cases h5 : O = 5
  · rw [if_pos h5, if_pos h5, ref_andn hb hn]; exact refj2_is hA s _
  rw [if_neg h5, if_neg h5]
  by_cases h6 : O = 6
  · rw [if_pos h6, if_pos h6]; exact refj2_is hA s _
  rw [if_neg h6, if_neg h6]
  by_cases h7 : O = 7
  · rw [if_pos h7, if_pos h7, ref_xor hb hn]; exact refj2_is hA s _
  rw [if_neg h7, if_neg h7]
  by_cases h8 : O = 8
  · rw [if_pos h8, if_pos h8]
    cases U
    · simp only [Bool.false_and]
      rw [if_neg (by simp), refadd_is hb.1 hb.2 hn.1 hn.2]
      generalize addS b n false = d at *
      obtain ⟨q, m, ok⟩ := d
      simp only [Option.bind_some]
      exact refj2_is hA { s with C := m, V := ok } q
    · simp only [Bool.true_and]
      rw [if_pos trivial, refadd_is hb.1 hb.2 hn.1 hn.2]
      generalize addS b n s.C = d at *
      obtain ⟨q, m, ok⟩ := d
      simp only [Option.bind_some]
      exact refj2_is hA { s with C := m, V := ok } q
  rw [if_neg h8, if_neg h8]
  by_cases h9 : O = 9
  · rw [if_pos h9, if_pos h9]
    cases U
    · simp only [Bool.false_and]
      rw [if_neg (by simp), refsub_is hb.1 hb.2 hn.1 hn.2]
      generalize subS b n false = d at *
      obtain ⟨q, m, ok⟩ := d
      simp only [Option.bind_some]
      exact refj2_is hA { s with C := m, V := ok } q
    · simp only [Bool.true_and]
      rw [if_pos trivial, refsub_is hb.1 hb.2 hn.1 hn.2]
      generalize subS b n s.C = d at *
      obtain ⟨q, m, ok⟩ := d
      simp only [Option.bind_some]
      exact refj2_is hA { s with C := m, V := ok } q
  rw [if_neg h9, if_neg h9]
  by_cases h10 : O = 10
  · rw [if_pos h10, if_pos h10, refmul_is hb.1 hb.2 hn.1 hn.2]
    generalize mulS b n U = d at *
    obtain ⟨q, m⟩ := d
    simp only [Option.bind_some]
    exact refj2_is hA { s with H := m } q
  rw [if_neg h10, if_neg h10, refdiv_is hb.1 hb.2 hn.1 hn.2]
  generalize divS b n = d at *
  obtain ⟨q, m, ok⟩ := d
  simp only [Option.bind_some]
  cases ok
  · rfl
  · simp only [if_true]
    exact refj2_is hA { s with H := m } q
theorem refj34_is {K O A B C M : Int} {U : Bool} {r : Vector Int 16} {b1 b2 b3 b4 : Bool} {s : Sapi_Regs} {b n : Int} (hA : 0 ≤ A ∧ A ≤ 15) (hk : K = 3 ∨ K = 4) :
    rivetref04_Do.j1 b n s.R s.H s.N s.Z s.C s.V K O A B C M U r b1 b2 b3 b4 = some (setA s A (if K = 3 then s.H else flagsS s), 0) := by
  unfold rivetref04_Do.j1
  by_cases h3 : K = 3
  · rw [if_pos h3, if_pos h3]; exact refj2_is hA s _
  · rw [if_neg h3, if_neg h3, if_pos (by omega)]
    have e31 := refbit_is s.N 31 (by omega); have e30 := refbit_is s.Z 30 (by omega); have e29 := refbit_is s.C 29 (by omega); have e28 := refbit_is s.V 28 (by omega)
    have e31 : rivetref04_bit s.N 31 = _ := e31
    have e30 : rivetref04_bit s.Z 30 = _ := e30
    have e29 : rivetref04_bit s.C 29 = _ := e29
    have e28 : rivetref04_bit s.V 28 = _ := e28
    rw [e31, e30, e29, e28]
    simp only [Option.bind_some]
    rw [refflags s]
    exact refj2_is hA s _
theorem refdo_is {s : Sapi_Regs} {i : Sapi_Instr} (hs : OkR s) : rivetref04_Do s i = some (doS s i) := by
  unfold rivetref04_Do doS
  rw [refmay_is]
  simp only [Option.bind_some]
  by_cases hm : MayP i
  · rw [decide_eq_true hm, if_pos rfl]
    have hm' := hm
    unfold MayP at hm'
    obtain ⟨hA, hB, hC, hK⟩ := hm'
    by_cases h5 : i.Kind ≥ 5
    · rw [if_pos (show ¬ MayP i ∨ i.Kind ≥ 5 from .inr h5)]
      have h : i.Kind = 5 ∨ i.Kind = 6 ∨ i.Kind = 7 := by omega
      rcases h with h | h | h
      · rw [if_pos h]
      · rw [if_neg (by omega), if_pos h]
      · rw [if_neg (by omega), if_neg (by omega), if_pos h]
    · rw [if_neg (show ¬ i.Kind = 5 by omega), if_neg (show ¬ i.Kind = 6 by omega), if_neg (show ¬ i.Kind = 7 by omega), if_neg (show ¬ (¬ MayP i ∨ i.Kind ≥ 5) from fun h => h.elim (fun h => h hm) h5), if_pos (show (0 : Int) ≤ i.B ∧ i.B < 16 by omega), if_pos (show (0 : Int) ≤ i.C ∧ i.C < 16 by omega)]
      have hb := hs.r i.B hB.1 (by omega)
      by_cases h34 : i.Kind = 3 ∨ i.Kind = 4
      · rw [if_neg (show ¬ i.Kind = 2 by omega), refj34_is hA h34]
        by_cases h3 : i.Kind = 3
        · rw [if_pos h3, if_pos h3]
        · rw [if_neg h3, if_neg h3, if_pos (by omega)]
      · rw [if_neg (show ¬ i.Kind = 3 by omega), if_neg (show ¬ i.Kind = 4 by omega)]
        have hO : 0 ≤ i.Op ∧ i.Op ≤ 11 := by omega
        by_cases h2 : i.Kind = 2
        · rw [if_pos h2, wu32_eq, refj1_is hb hA (by omega) hO (W_mod _)]
          unfold numS
          rw [if_pos h2]
          all_goals (cases opS s i.Op (vx 0 s.R i.B.toNat) (i.Imm % 4294967296) i.U <;> rfl)
        · rw [if_neg h2, refj1_is hb hA (by omega) hO (hs.r i.C hC.1 (by omega))]
          unfold numS
          rw [if_neg h2]
          all_goals (cases opS s i.Op (vx 0 s.R i.B.toNat) (vx 0 s.R i.C.toNat) i.U <;> rfl)
  · rw [decide_eq_false hm, if_neg (by simp), if_pos (.inl hm)]
end Go.Proofs.YtheccnbamcdpmaaGreatDoor.ZD
namespace Go.Proofs.YtheccnbamcdpmaaGreatDoor.ZD
set_option linter.unusedVariables false
set_option linter.unusedSimpArgs false
open Go Go.RowKit Go.Proofs.YtheccnbamcdpmaaGreatDoor.E
noncomputable def wordN (i : Sapi_Instr) : Nat := ((isa_word i).getD 0).toNat
theorem wordN_of {i : Sapi_Instr} {n : Nat} (h : isa_word i = some (n : Int)) (hn : n < 4294967296) : isa_word i = some (wordN i : Int) ∧ wordN i < 4294967296 := by
  have : wordN i = n := by unfold wordN; rw [h]; rfl
  rw [this]
  exact ⟨h, hn⟩
theorem word_some {i : Sapi_Instr} (h : 1 ≤ i.Kind ∧ i.Kind ≤ 7) : isa_word i = some (wordN i : Int) ∧ wordN i < 4294967296 := by
  obtain ⟨K, O, A, B, C, M, U⟩ := i
  simp only at h
  have lA := fld_lt A 4; have lB := fld_lt B 4; have lC := fld_lt C 4; have lO := fld_lt O 4; have l16 := fld_lt M 16; have l20 := fld_lt M 20; have l24 := fld_lt M 24
  simp only [show (2 : Nat) ^ 24 = 16777216 by decide, show (2 : Nat) ^ 20 = 1048576 by decide, show (2 : Nat) ^ 16 = 65536 by decide, show (2 : Nat) ^ 4 = 16 by decide] at lA lB lC lO l16 l20 l24
  have hk : K = 1 ∨ K = 2 ∨ (K = 3 ∨ K = 4) ∨ K = 5 ∨ K = 6 ∨ K = 7 := by omega
  rcases hk with rfl | rfl | hk | rfl | rfl | rfl
  · have := hd_lt 0 (by omega) U false; exact wordN_of (word1 A B C O M U) (by omega)
  · have := hd_lt 1 (by omega) U (decide (M < 0)); exact wordN_of (word2 A B C O M U) (by omega)
  · have := hd_lt 0 (by omega) true (decide (K = 4)); exact wordN_of (word34 A B C O M U hk) (by omega)
  · have := hd_lt 2 (by omega) (decide (O ≥ 2)) (decide (Int.tmod O 2 = 1)); exact wordN_of (word5 A B C O M U) (by omega)
  · have := hd_lt 3 (by omega) false U; exact wordN_of (word6 A B C O M U) (by omega)
  · have := hd_lt 3 (by omega) true U; exact wordN_of (word7 A B C O M U) (by omega)
theorem MayP.kind {i : Sapi_Instr} (h : MayP i) : 1 ≤ i.Kind ∧ i.Kind ≤ 7 := by obtain ⟨_, _, _, h⟩ := h; omega
theorem MayP.op {i : Sapi_Instr} (h : MayP i) : 0 ≤ i.Op ∧ i.Op ≤ 15 := by obtain ⟨_, _, _, h⟩ := h; omega
/-- A word that is an instruction's is read back. -/
theorem read_word {i : Sapi_Instr} (h : MayP i) : rd (wordN i) = i := by
  obtain ⟨h1, h2⟩ := word_some h.kind
  have h3 := may_read h.kind h.op h1 (read_is h2)
  rw [may_is, decide_eq_true h] at h3
  have h4 : mayR i (rd (wordN i)) = true := (Option.some.inj h3).symm
  unfold mayR at h4
  by_cases hE : i.Kind = (rd (wordN i)).Kind ∧ i.Op = (rd (wordN i)).Op ∧ i.A = (rd (wordN i)).A ∧ i.B = (rd (wordN i)).B ∧ i.C = (rd (wordN i)).C ∧ i.Imm = (rd (wordN i)).Imm ∧ i.U = (rd (wordN i)).U
  · obtain ⟨e1, e2, e3, e4, e5, e6, e7⟩ := hE
    generalize rd (wordN i) = j at *
    cases i; cases j
    simp only at *
    subst e1 e2 e3 e4 e5 e6 e7
    rfl
  · rw [if_neg hE] at h4; cases h4
/-- What Decode tells. -/
noncomputable def decS (w : Int) : Sapi_Instr × Bool := if MayP (rd w.toNat) ∧ wordN (rd w.toNat) = w.toNat then (rd w.toNat, true) else (⟨0, 0, 0, 0, 0, 0, false⟩, false)
theorem dec_is {w : Int} (h : W w) : isa_Decode w = some (decS w) := by
  obtain ⟨n, rfl⟩ := Int.eq_ofNat_of_zero_le h.1
  have hn : n < 4294967296 := by have := h.2; omega
  unfold isa_Decode decS
  rw [read_is hn, Option.bind_some, may_is, Option.bind_some, Int.toNat_natCast]
  by_cases hm : MayP (rd n)
  · rw [decide_eq_true hm, if_pos rfl, (word_some hm.kind).1, Option.bind_some]
    by_cases he : wordN (rd n) = n
    · rw [if_pos (by rw [he]), if_pos ⟨hm, he⟩]
    · rw [if_neg (by omega), if_neg (fun hh => he hh.2)]
  · rw [decide_eq_false hm, if_neg (by simp), if_neg (fun hh => hm hh.1)]
theorem dec_ok {w : Int} (h : (decS w).2 = true) : MayP (decS w).1 ∧ (decS w).1 = rd w.toNat := by
  unfold decS at h ⊢
  split
  · rename_i hh; exact ⟨hh.1, rfl⟩
  · rename_i hh; rw [if_neg hh] at h; cases h
theorem shr_dg {w a : Nat} (hw : w < 4294967296) (h : a ≤ 32) (n : Nat) (h2 : 32 ≤ a + n) : shr .u32 (w : Int) (a : Int) = dg w a n := by
  rw [shr_nat (k := .u32) (by simp only [IntKind.bits]; omega)]
  unfold dg
  have hp : 2 ^ 32 ≤ 2 ^ a * 2 ^ n := by rw [← Nat.pow_add]; exact Nat.pow_le_pow_right (by omega) h2
  have : w / 2 ^ a < 2 ^ n := by
    apply Nat.div_lt_of_lt_mul
    have e : (2 : Nat) ^ 32 = 4294967296 := by decide
    omega
  rw [Nat.mod_eq_of_lt this]
theorem band_dg {w a : Nat} (hw : w < 4294967296) (h : a ≤ 32) (n : Nat) (hn : n ≤ 16) : band .u32 (shr .u32 (w : Int) (a : Int)) ((2 ^ n - 1 : Nat) : Int) = dg w a n := by
  rw [shr_nat (k := .u32) (by simp only [IntKind.bits]; omega)]
  have h1 : w / 2 ^ a < 4294967296 := Nat.lt_of_le_of_lt (Nat.div_le_self _ _) hw
  have h2 : 2 ^ n - 1 < 4294967296 := by have := Nat.pow_le_pow_right (n := 2) (by omega) hn; have e : (2 : Nat) ^ 16 = 65536 := by decide
                                         omega
  rw [band_u32 h1 h2, and_low]
  rfl
theorem band_dg0 {w : Nat} (hw : w < 4294967296) (n : Nat) (hn : n ≤ 16) : band .u32 (w : Int) ((2 ^ n - 1 : Nat) : Int) = dg w 0 n := by
  have h2 : 2 ^ n - 1 < 4294967296 := by have := Nat.pow_le_pow_right (n := 2) (by omega) hn; have e : (2 : Nat) ^ 16 = 65536 := by decide
                                         omega
  rw [band_u32 hw h2, and_low]
  unfold dg
  rw [Nat.pow_zero, Nat.div_one]
theorem rsigned20 {w : Nat} (hw : w < 4294967296) : rivetref02_Signed (w : Int) 20 = some (sg w 20) := by
  unfold rivetref02_Signed
  have e : mnn (mxx 20 1) 32 = 20 := by decide
  have e1 : shl .i64 1 20 = 1048576 := by kernel_rfl
  have e2 : shl .i64 1 19 = 524288 := by kernel_rfl
  have e3 : w64 (20 - 1) = 19 := by kernel_rfl
  rw [e, e1, e3, e2, if_pos (by omega), if_pos (by omega), if_pos (by omega), w64s (x := (w : Int)) (by omega) (by omega), Int.tmod_eq_emod_of_nonneg (by omega)]
  unfold sg
  rw [show (2 : Nat) ^ 20 = 1048576 by decide, show (2 : Nat) ^ (20 - 1) = 524288 by decide]
  by_cases h : w % 1048576 ≥ 524288
  · rw [if_pos (by omega), if_pos (by omega), if_pos h, w64s (by omega) (by omega)]; congr 1
  · rw [if_neg (by omega), if_neg h]; congr 1
theorem rsigned24 {w : Nat} (hw : w < 4294967296) : rivetref02_Signed (w : Int) 24 = some (sg w 24) := by
  unfold rivetref02_Signed
  have e : mnn (mxx 24 1) 32 = 24 := by decide
  have e1 : shl .i64 1 24 = 16777216 := by kernel_rfl
  have e2 : shl .i64 1 23 = 8388608 := by kernel_rfl
  have e3 : w64 (24 - 1) = 23 := by kernel_rfl
  rw [e, e1, e3, e2, if_pos (by omega), if_pos (by omega), if_pos (by omega), w64s (x := (w : Int)) (by omega) (by omega), Int.tmod_eq_emod_of_nonneg (by omega)]
  unfold sg
  rw [show (2 : Nat) ^ 24 = 16777216 by decide, show (2 : Nat) ^ (24 - 1) = 8388608 by decide]
  by_cases h : w % 16777216 ≥ 8388608
  · rw [if_pos (by omega), if_pos (by omega), if_pos h, w64s (by omega) (by omega)]; congr 1
  · rw [if_neg (by omega), if_neg h]; congr 1
theorem r3one_is (b : Bool) : rivetref03_one b = some (b2i b) := by cases b <;> rfl
set_option maxHeartbeats 4000000 in
theorem guess_is {w : Nat} (hw : w < 4294967296) : rivetref03_guess (w : Int) = some (rd w) := by
  have g30 : shr .u32 (w : Int) 30 = dg w 30 2 := shr_dg (a := 30) hw (by omega) 2 (by omega)
  have g29 : band .u32 (shr .u32 (w : Int) 29) 1 = dg w 29 1 := band_dg (a := 29) hw (by omega) 1 (by omega)
  have g28 : band .u32 (shr .u32 (w : Int) 28) 1 = dg w 28 1 := band_dg (a := 28) hw (by omega) 1 (by omega)
  have g24 : band .u32 (shr .u32 (w : Int) 24) 15 = dg w 24 4 := band_dg (a := 24) hw (by omega) 4 (by omega)
  have g20 : band .u32 (shr .u32 (w : Int) 20) 15 = dg w 20 4 := band_dg (a := 20) hw (by omega) 4 (by omega)
  have g16 : band .u32 (shr .u32 (w : Int) 16) 15 = dg w 16 4 := band_dg (a := 16) hw (by omega) 4 (by omega)
  have g0 : band .u32 (w : Int) 15 = dg w 0 4 := band_dg0 hw 4 (by omega)
  have g00 : band .u32 (w : Int) 65535 = dg w 0 16 := band_dg0 hw 16 (by omega)
  have b28 := dg_lt w 28 1; have b29 := dg_lt w 29 1; have b16 := dg_lt w 0 16; have b24 := dg_lt w 24 4; have b20 := dg_lt w 20 4; have b160 := dg_lt w 16 4; have b0 := dg_lt w 0 4
  simp only [show (2 : Nat) ^ 1 = 2 by decide, show (2 : Nat) ^ 4 = 16 by decide, show (2 : Nat) ^ 16 = 65536 by decide] at b28 b29 b16 b24 b20 b160 b0
  unfold rivetref03_guess rd
  simp only [g30, g29, g28, g24, g20, g16, g0, g00, rsigned20 hw, rsigned24 hw, r3one_is, rivetref03_guess.j1, Option.bind_some]
  rw [w64s (x := dg w 24 4) (by omega) (by omega), w64s (x := dg w 20 4) (by omega) (by omega), w64s (x := dg w 16 4) (by omega) (by omega), w64s (x := dg w 0 4) (by omega) (by omega), w64s (x := dg w 0 16) (by omega) (by omega)]
  have n29 : dg w 29 1 = 0 ∨ dg w 29 1 = 1 := by omega
  have n28 : dg w 28 1 = 0 ∨ dg w 28 1 = 1 := by omega
  by_cases h0 : dg w 30 2 = 0
  · rw [if_pos h0, if_pos h0]
    rcases n29 with h1 | h1 <;> rcases n28 with h2 | h2 <;> by_cases h3 : dg w 16 4 = 0 <;> simp [h1, h2, h3]
  · rw [if_neg h0, if_neg h0]
    by_cases h1 : dg w 30 2 = 1
    · rw [if_pos h1, if_pos h1]
      rcases n28 with h2 | h2
      · simp [h2]
      · rw [if_pos h2, h2, w64s (by omega) (by omega), Int.one_mul]
    · rw [if_neg h1, if_neg h1]
      by_cases h2 : dg w 30 2 = 2
      · rw [if_pos h2, if_pos h2]
        rcases n29 with h1 | h1 <;> rcases n28 with h2 | h2 <;> rw [h1, h2] <;> rfl
      · rw [if_neg h2, if_neg h2]
        split <;> rfl
end Go.Proofs.YtheccnbamcdpmaaGreatDoor.ZD
namespace Go.Proofs.YtheccnbamcdpmaaGreatDoor.ZD
set_option linter.unusedVariables false
set_option linter.unusedSimpArgs false
open Go Go.RowKit Go.Proofs.YtheccnbamcdpmaaGreatDoor.E
theorem wordN_eq {i : Sapi_Instr} {n : Nat} (h : isa_word i = some (n : Int)) : wordN i = n := by unfold wordN; rw [h]; rfl
theorem shl29 {a : Nat} (h : a < 8) : shl .u32 (a : Int) 29 = ((a * 536870912 : Nat) : Int) := shl_u32 (i := 29) (by omega) (by omega)
theorem shl28 {a : Nat} (h : a < 16) : shl .u32 (a : Int) 28 = ((a * 268435456 : Nat) : Int) := shl_u32 (i := 28) (by omega) (by omega)
theorem shl24 {a : Nat} (h : a < 256) : shl .u32 (a : Int) 24 = ((a * 16777216 : Nat) : Int) := shl_u32 (i := 24) (by omega) (by omega)
theorem shl20 {a : Nat} (h : a < 4096) : shl .u32 (a : Int) 20 = ((a * 1048576 : Nat) : Int) := shl_u32 (i := 20) (by omega) (by omega)
theorem shl16 {a : Nat} (h : a < 65536) : shl .u32 (a : Int) 16 = ((a * 65536 : Nat) : Int) := shl_u32 (i := 16) (by omega) (by omega)
theorem bor_add {x y m : Nat} (n : Nat) (hm : 2 ^ n = m) (hx : x % m = 0) (hy : y < m) (h1 : x < 4294967296) (h2 : y < 4294967296) : bor .u32 (x : Int) (y : Int) = ((x + y : Nat) : Int) := by
  rw [bor_u32 h1 h2]
  have e : x = 2 ^ n * (x / m) := by rw [hm]; exact (Nat.mul_div_cancel' (Nat.dvd_of_mod_eq_zero hx)).symm
  conv => lhs; rw [e]
  rw [or_high (by omega), ← e]
theorem bor30 {y : Nat} (hy : y < 1073741824) : bor .u32 1073741824 (y : Int) = ((1073741824 + y : Nat) : Int) := bor_add 30 (m := 1073741824) (by decide) (by decide) hy (by decide) (by omega)
theorem bor29 {y : Nat} (hy : y < 536870912) : bor .u32 536870912 (y : Int) = ((536870912 + y : Nat) : Int) := bor_add 29 (m := 536870912) (by decide) (by decide) hy (by decide) (by omega)
theorem bor328 {y : Nat} (hy : y < 268435456) : bor .u32 805306368 (y : Int) = ((805306368 + y : Nat) : Int) := bor_add 28 (m := 268435456) (by decide) (by decide) hy (by decide) (by omega)
theorem bor31 {y : Nat} (hy : y < 2147483648) : bor .u32 2147483648 (y : Int) = ((2147483648 + y : Nat) : Int) := bor_add 31 (m := 2147483648) (by decide) (by decide) hy (by decide) (by omega)
theorem bor330 {y : Nat} (hy : y < 1073741824) : bor .u32 3221225472 (y : Int) = ((3221225472 + y : Nat) : Int) := bor_add 30 (m := 1073741824) (by decide) (by decide) hy (by decide) (by omega)
theorem bor729 {y : Nat} (hy : y < 536870912) : bor .u32 3758096384 (y : Int) = ((3758096384 + y : Nat) : Int) := bor_add 29 (m := 536870912) (by decide) (by decide) hy (by decide) (by omega)
theorem b2i_nat (b : Bool) : b2i b = ((b2n b : Nat) : Int) := by cases b <;> rfl
theorem b2n_lt (b : Bool) : b2n b < 2 := by cases b <;> decide
theorem refenc_no {i : Sapi_Instr} (h : ¬ MayP i) : rivetref03_Encode i = some (0, 1) := by
  unfold rivetref03_Encode
  rw [refmay_is, decide_eq_false h]
  rfl
theorem tmod_fld {M : Int} {n m : Nat} (hm : 2 ^ n = m) (h : n ≤ 32) : Int.tmod (wu32 M) (m : Int) = ((fld M n : Nat) : Int) := by
  have h0 : 0 ≤ wu32 M := by rw [wu32_eq]; omega
  rw [Int.tmod_eq_emod_of_nonneg h0, ← hm, ← fld_w M h]
  rw [Int.natCast_emod, Int.toNat_of_nonneg h0]
set_option maxHeartbeats 4000000 in
theorem refenc_is {i : Sapi_Instr} (h : MayP i) : rivetref03_Encode i = some ((wordN i : Int), 0) := by
  have hm := h
  obtain ⟨K, O, A, B, C, M, U⟩ := i
  unfold rivetref03_Encode
  rw [refmay_is, decide_eq_true hm]
  simp only [Option.bind_some, if_true, r3one_is]
  unfold MayP at h
  simp only at h
  obtain ⟨hA, hB, hC, hk⟩ := h
  have hO : 0 ≤ O ∧ O ≤ 15 := by omega
  obtain ⟨a, rfl⟩ := Int.eq_ofNat_of_zero_le hA.1
  obtain ⟨b, rfl⟩ := Int.eq_ofNat_of_zero_le hB.1
  obtain ⟨c, rfl⟩ := Int.eq_ofNat_of_zero_le hC.1
  obtain ⟨o, rfl⟩ := Int.eq_ofNat_of_zero_le hO.1
  have fa : fld (a : Int) 4 = a := fld_small (by omega)
  have fb : fld (b : Int) 4 = b := fld_small (by omega)
  have fc : fld (c : Int) 4 = c := fld_small (by omega)
  have fo : fld (o : Int) 4 = o := fld_small (by omega)
  have wa : wu32 (a : Int) = (a : Int) := wu32_id (by omega) (by omega)
  have wb : wu32 (b : Int) = (b : Int) := wu32_id (by omega) (by omega)
  have wc : wu32 (c : Int) = (c : Int) := wu32_id (by omega) (by omega)
  have wo : wu32 (o : Int) = (o : Int) := wu32_id (by omega) (by omega)
  have hu := b2n_lt U
  have e0 : b2n false = 0 := rfl
  have e1 : b2n true = 1 := rfl
  have m16 : Int.tmod (wu32 M) 65536 = ((fld M 16 : Nat) : Int) := tmod_fld (m := 65536) (by decide) (by omega)
  have m20 : Int.tmod (wu32 M) 1048576 = ((fld M 20 : Nat) : Int) := tmod_fld (m := 1048576) (by decide) (by omega)
  have m24 : Int.tmod (wu32 M) 16777216 = ((fld M 24 : Nat) : Int) := tmod_fld (m := 16777216) (by decide) (by omega)
  have l16 := fld_lt M 16; have l20 := fld_lt M 20; have l24 := fld_lt M 24
  simp only [show (2 : Nat) ^ 24 = 16777216 by decide, show (2 : Nat) ^ 20 = 1048576 by decide, show (2 : Nat) ^ 16 = 65536 by decide] at l16 l20 l24
  rw [wa, wb, wc, wo, m16, m20, m24, b2i_nat, b2i_nat, b2i_nat, b2i_nat]
  have hk2 : K = 1 ∨ K = 2 ∨ K = 3 ∨ K = 4 ∨ K = 5 ∨ K = 6 ∨ K = 7 := by omega
  clear hm hk
  have h1 := b2n_lt (decide (M < 0)); have h2 := b2n_lt (decide ((o : Int) ≥ 2)); have h3 := b2n_lt (decide (Int.tmod (o : Int) 2 = 1))
  have q1 : ∀ k : Int, b2n (decide (k = k)) = 1 := fun k => by simp [b2n]
  have q3 : b2n (decide ((3 : Int) = 4)) = 0 := rfl
  rcases hk2 with rfl | rfl | rfl | rfl | rfl | rfl | rfl
  · rw [if_pos rfl, wordN_eq (word1 _ _ _ _ _ _), fa, fb, fc, fo, e0, shl29 (by omega), shl24 (by omega), shl20 (by omega), shl16 (by omega), bor_add 28 (m := 268435456) (by decide) (by omega) (by omega) (by omega) (by omega), bor_add 24 (m := 16777216) (by decide) (by omega) (by omega) (by omega) (by omega), bor_add 20 (m := 1048576) (by decide) (by omega) (by omega) (by omega) (by omega), bor_add 16 (m := 65536) (by decide) (by omega) (by omega) (by omega) (by omega)]
    refine congrArg some (Prod.ext (congrArg (fun n : Nat => (n : Int)) ?_) rfl)
    omega
  · rw [if_neg (show ¬ (2 : Int) = 1 by decide), if_pos rfl, wordN_eq (word2 _ _ _ _ _ _), fa, fb, fo, shl29 (by omega), shl28 (by omega), shl24 (by omega), shl20 (by omega), shl16 (by omega), bor30 (by omega), bor_add 29 (m := 536870912) (by decide) (by omega) (by omega) (by omega) (by omega), bor_add 28 (m := 268435456) (by decide) (by omega) (by omega) (by omega) (by omega), bor_add 24 (m := 16777216) (by decide) (by omega) (by omega) (by omega) (by omega), bor_add 20 (m := 1048576) (by decide) (by omega) (by omega) (by omega) (by omega), bor_add 16 (m := 65536) (by decide) (by omega) (by omega) (by omega) (by omega)]
    refine congrArg some (Prod.ext (congrArg (fun n : Nat => (n : Int)) ?_) rfl)
    omega
  · rw [if_neg (show ¬ (3 : Int) = 1 by decide), if_neg (show ¬ (3 : Int) = 2 by decide), if_pos rfl, wordN_eq (word34 _ _ _ _ _ _ (.inl rfl)), fa, e1, q3, shl24 (by omega), bor29 (by omega)]
  · rw [if_neg (show ¬ (4 : Int) = 1 by decide), if_neg (show ¬ (4 : Int) = 2 by decide), if_neg (show ¬ (4 : Int) = 3 by decide), if_pos rfl, wordN_eq (word34 _ _ _ _ _ _ (.inr rfl)), fa, e1, q1, shl24 (by omega), bor328 (by omega)]
  · rw [if_neg (show ¬ (5 : Int) = 1 by decide), if_neg (show ¬ (5 : Int) = 2 by decide), if_neg (show ¬ (5 : Int) = 3 by decide), if_neg (show ¬ (5 : Int) = 4 by decide), if_pos rfl, wordN_eq (word5 _ _ _ _ _ _), fa, fb, shl29 (by omega), shl28 (by omega), shl24 (by omega), shl20 (by omega), bor31 (by omega), bor_add 29 (m := 536870912) (by decide) (by omega) (by omega) (by omega) (by omega), bor_add 28 (m := 268435456) (by decide) (by omega) (by omega) (by omega) (by omega), bor_add 24 (m := 16777216) (by decide) (by omega) (by omega) (by omega) (by omega), bor_add 20 (m := 1048576) (by decide) (by omega) (by omega) (by omega) (by omega)]
    refine congrArg some (Prod.ext (congrArg (fun n : Nat => (n : Int)) ?_) rfl)
    omega
  · rw [if_neg (show ¬ (6 : Int) = 1 by decide), if_neg (show ¬ (6 : Int) = 2 by decide), if_neg (show ¬ (6 : Int) = 3 by decide), if_neg (show ¬ (6 : Int) = 4 by decide), if_neg (show ¬ (6 : Int) = 5 by decide), if_pos rfl, wordN_eq (word6 _ _ _ _ _ _), fo, fc, e0, shl28 (by omega), shl24 (by omega), bor330 (by omega), bor_add 28 (m := 268435456) (by decide) (by omega) (by omega) (by omega) (by omega), bor_add 24 (m := 16777216) (by decide) (by omega) (by omega) (by omega) (by omega)]
    refine congrArg some (Prod.ext (congrArg (fun n : Nat => (n : Int)) ?_) rfl)
    omega
  · rw [if_neg (show ¬ (7 : Int) = 1 by decide), if_neg (show ¬ (7 : Int) = 2 by decide), if_neg (show ¬ (7 : Int) = 3 by decide), if_neg (show ¬ (7 : Int) = 4 by decide), if_neg (show ¬ (7 : Int) = 5 by decide), if_neg (show ¬ (7 : Int) = 6 by decide), wordN_eq (word7 _ _ _ _ _ _), fo, e1, shl28 (by omega), shl24 (by omega), bor729 (by omega), bor_add 28 (m := 268435456) (by decide) (by omega) (by omega) (by omega) (by omega), bor_add 24 (m := 16777216) (by decide) (by omega) (by omega) (by omega) (by omega)]
    refine congrArg some (Prod.ext (congrArg (fun n : Nat => (n : Int)) ?_) rfl)
    omega
/-- The reference's Decode tells the same. -/
theorem refdec_is {w : Int} (h : W w) : rivetref03_Decode w = some (decS w) := by
  obtain ⟨n, rfl⟩ := Int.eq_ofNat_of_zero_le h.1
  have hn : n < 4294967296 := by have := h.2; omega
  unfold rivetref03_Decode decS
  rw [guess_is hn, Option.bind_some, Int.toNat_natCast]
  by_cases hm : MayP (rd n)
  · rw [refenc_is hm]
    simp only [Option.bind_some, if_true]
    by_cases he : wordN (rd n) = n
    · rw [if_pos (by rw [he]), if_pos ⟨hm, he⟩]
    · rw [if_neg (by omega), if_neg (fun hh => he hh.2)]
  · rw [refenc_no hm, if_neg (fun hh => hm hh.1)]
    rfl
end Go.Proofs.YtheccnbamcdpmaaGreatDoor.ZD
namespace Go.Proofs.YtheccnbamcdpmaaGreatDoor.ZD
set_option linter.unusedVariables false
set_option linter.unusedSimpArgs false
open Go Go.RowKit Go.Proofs.YtheccnbamcdpmaaGreatDoor.E
/-- The j-th byte of a word. -/
def byt (x : Int) (j : Nat) : Int := x / ((256 ^ j : Nat) : Int) % 256
/-- Both memories hold these words. -/
structure MR (L : List Int) (m : Smemory_Memory) (y : Srivetref05_Memory) : Prop where
  n : m.n = (L.length : Int)
  le : L.length ≤ 4096
  w : ∀ i, i < L.length → vx 0 m.w i = L.getD i 0
  ok : ∀ i, i < L.length → W (L.getD i 0)
  len : y.B.length = 4 * L.length
  b : ∀ p, p < 4 * L.length → y.B.getD p 0 = byt (L.getD (p / 4) 0) (p % 4)
section
variable {L : List Int} {m : Smemory_Memory} {y : Srivetref05_Memory}
/-- How an address stands: 0, or a trap. -/
def trapS (L : List Int) (a : Int) (al : Bool) : Int := if al = true ∧ a % 4 ≠ 0 then 4 else if a / 4 ≥ (L.length : Int) then 3 else 0
theorem at_is (h : MR L m y) {a : Int} (ha : W a) {al : Int} (hal : al = 4 ∨ al = 1) : memory_Memory_at m a al = some (if trapS L a (decide (al = 4)) = 0 then .inr (a / 4, m) else .inl (trapS L a (decide (al = 4)), m)) := by
  have e : wu32 (Int.tdiv a 4) = a / 4 := by rw [Int.tdiv_eq_ediv_of_nonneg ha.1, wu32_id (by omega) (by have := ha.2; omega)]
  have hl := h.le
  unfold memory_Memory_at
  rw [if_pos (by omega), e, w64s (by have := ha.1; omega) (by have := ha.2; omega), h.n, Int.tmod_eq_emod_of_nonneg ha.1]
  unfold trapS
  rcases hal with rfl | rfl
  · by_cases h1 : a % 4 = 0
    · rw [if_pos h1]
      by_cases h2 : a / 4 ≥ (L.length : Int)
      · rw [if_pos h2]; simp [h1, h2]
      · rw [if_neg h2, if_pos (by have := ha.1; omega)]; simp [h1, h2]
    · rw [if_neg h1]; simp [h1]
  · rw [if_pos (Int.emod_one a)]
    by_cases h2 : a / 4 ≥ (L.length : Int)
    · rw [if_pos h2]; simp [h2]
    · rw [if_neg h2, if_pos (by have := ha.1; omega)]; simp [h2]
/-- What is loaded. -/
def ldW (L : List Int) (a : Int) : Int × Int := if trapS L a true = 0 then (L.getD (a / 4).toNat 0, 0) else (0, trapS L a true)
theorem trap_lt {a : Int} {al : Bool} (ha : W a) (h : trapS L a al = 0) : (a / 4).toNat < L.length := by
  unfold trapS at h
  split at h
  · omega
  · split at h
    · omega
    · have := ha.1; omega
theorem word_is (h : MR L m y) {a : Int} (ha : W a) : memory_Memory_Word m a = some ((ldW L a).1, (ldW L a).2, m) := by
  unfold memory_Memory_Word ldW
  rw [at_is h ha (.inl rfl)]
  by_cases ht : trapS L a true = 0
  · simp only [decide_true, ht, if_true, Option.bind_some]
    rw [h.w _ (trap_lt ha ht)]
  · simp only [decide_true, ht, if_false, Option.bind_some]
theorem reftrap_is (h : MR L m y) {a : Int} (ha : W a) (al : Bool) : rivetref05_Memory_trap y a al = some (trapS L a al, y) := by
  have hl := h.le
  have hlen : (y.B.length : Int) = 4 * L.length := by have := h.len; omega
  have hj : rivetref05_Memory_trap.j1 a y = some (if a / 4 ≥ (L.length : Int) then 3 else 0, y) := by
    unfold rivetref05_Memory_trap.j1
    rw [w64s (by have := ha.1; omega) (by have := ha.2; omega), hlen]
    by_cases h2 : a / 4 ≥ (L.length : Int)
    · rw [if_pos (by omega), if_pos h2]
    · rw [if_neg (by omega), if_neg h2]
  unfold rivetref05_Memory_trap trapS
  rw [hj, Int.tmod_eq_emod_of_nonneg ha.1]
  cases al
  · simp
  · by_cases h1 : a % 4 = 0 <;> simp [h1]
theorem cut_ix {B : List Int} {k j n : Nat} (hj : j < n) : ix 0 (List.drop k (List.take (k + n) B)) (j : Int) = B.getD (k + j) 0 := by
  show (List.drop k (List.take (k + n) B)).getD (j : Int).toNat 0 = _
  rw [Int.toNat_natCast, List.getD_eq_getElem?_getD, List.getD_eq_getElem?_getD, List.getElem?_drop, List.getElem?_take, if_pos (by omega)]
theorem byt_lt (x : Int) (j : Nat) : 0 ≤ byt x j ∧ byt x j ≤ 255 := by unfold byt; omega
theorem byt_sum {x : Int} (h : W x) : byt x 0 + byt x 1 * 256 + byt x 2 * 65536 + byt x 3 * 16777216 = x := by
  have h1 := h.1
  have h2 := h.2
  unfold byt
  simp only [show (256 : Nat) ^ 0 = 1 by decide, show (256 : Nat) ^ 1 = 256 by decide, show (256 : Nat) ^ 2 = 65536 by decide, show (256 : Nat) ^ 3 = 16777216 by decide]
  omega
theorem get_word (h : MR L m y) {k : Nat} (hk : k < L.length) : rivetref05_Memory_get y (k : Int) = some (L.getD k 0, y) := by
  have hl := h.le
  have hlen : (y.B.length : Int) = 4 * L.length := by have := h.len; omega
  have e0 : w64 (4 * (k : Int)) = ((4 * k : Nat) : Int) := by rw [w64s (by omega) (by omega)]; omega
  have e1 : w64 (((4 * k : Nat) : Int) + 4) = ((4 * k + 4 : Nat) : Int) := by rw [w64s (by omega) (by omega)]; omega
  have hc : (List.drop (4 * k) (List.take (4 * k + 4) y.B)).length = 4 := by rw [List.length_drop, List.length_take, h.len]; omega
  unfold rivetref05_Memory_get
  rw [e0, e1, Int.toNat_natCast, Int.toNat_natCast, hc, if_pos (by omega), if_pos (by omega), if_pos (by omega), if_pos (by omega), if_pos (by omega)]
  have x0 : ix 0 (List.drop (4 * k) (List.take (4 * k + 4) y.B)) 0 = byt (L.getD k 0) 0 := (cut_ix (j := 0) (by omega)).trans ((h.b _ (by omega)).trans (by rw [show (4 * k + 0) / 4 = k by omega, show (4 * k + 0) % 4 = 0 by omega]))
  have x1 : ix 0 (List.drop (4 * k) (List.take (4 * k + 4) y.B)) 1 = byt (L.getD k 0) 1 := (cut_ix (j := 1) (by omega)).trans ((h.b _ (by omega)).trans (by rw [show (4 * k + 1) / 4 = k by omega, show (4 * k + 1) % 4 = 1 by omega]))
  have x2 : ix 0 (List.drop (4 * k) (List.take (4 * k + 4) y.B)) 2 = byt (L.getD k 0) 2 := (cut_ix (j := 2) (by omega)).trans ((h.b _ (by omega)).trans (by rw [show (4 * k + 2) / 4 = k by omega, show (4 * k + 2) % 4 = 2 by omega]))
  have x3 : ix 0 (List.drop (4 * k) (List.take (4 * k + 4) y.B)) 3 = byt (L.getD k 0) 3 := (cut_ix (j := 3) (by omega)).trans ((h.b _ (by omega)).trans (by rw [show (4 * k + 3) / 4 = k by omega, show (4 * k + 3) % 4 = 3 by omega]))
  rw [x0, x1, x2, x3]
  have hs := byt_sum (h.ok k hk)
  have hw := h.ok k hk
  have y0 := byt_lt (L.getD k 0) 0; have y1 := byt_lt (L.getD k 0) 1; have y2 := byt_lt (L.getD k 0) 2; have y3 := byt_lt (L.getD k 0) 3
  simp only [wu32_eq]
  refine congrArg some (Prod.ext ?_ rfl)
  have w1 := hw.1; have w2 := hw.2
  simp only
  omega
theorem refword_is (h : MR L m y) {a : Int} (ha : W a) : rivetref05_Memory_Word y a = some ((ldW L a).1, (ldW L a).2, y) := by
  unfold rivetref05_Memory_Word ldW
  rw [reftrap_is h ha]
  simp only [Option.bind_some]
  by_cases ht : trapS L a true = 0
  · have hlt := trap_lt ha ht
    have e : w64 (Int.tdiv (w64 a) 4) = (((a / 4).toNat : Nat) : Int) := by
      have h1 := ha.1; have h2 := ha.2
      rw [w64s (x := a) (by omega) (by omega), Int.tdiv_eq_ediv_of_nonneg h1, w64s (by omega) (by omega)]; omega
    rw [if_pos ht, if_pos ht, e, get_word h hlt, ht]
    rfl
  · rw [if_neg ht, if_neg ht]
end
end Go.Proofs.YtheccnbamcdpmaaGreatDoor.ZD
namespace Go.Proofs.YtheccnbamcdpmaaGreatDoor.ZD
set_option linter.unusedVariables false
set_option linter.unusedSimpArgs false
open Go Go.RowKit Go.Proofs.YtheccnbamcdpmaaGreatDoor.E
section
variable {L : List Int} {m : Smemory_Memory} {y : Srivetref05_Memory}
theorem getD_set (l : List Int) (i j : Nat) (x : Int) (h : i < l.length) : (l.set i x).getD j 0 = if j = i then x else l.getD j 0 := by
  rw [List.getD_eq_getElem?_getD, List.getD_eq_getElem?_getD, List.getElem?_set]
  by_cases e : i = j
  · subst e; rw [if_pos rfl, if_pos h, if_pos rfl]; rfl
  · rw [if_neg e, if_neg (fun h => e h.symm)]
/-- What is stored. -/
def stL (L : List Int) (a x : Int) : List Int := L.set (a / 4).toNat x
/-- Four bytes of one word. -/
theorem set_word (h : MR L m y) {k : Nat} (hk : k < L.length) {x : Int} (hx : W x) : ∃ y', rivetref05_Memory_set y (k : Int) x = some y' ∧ MR (L.set k x) ⟨vset m.w k x, m.n⟩ y' := by
  have hl := h.le
  have hlen := h.len
  have hx1 := hx.1; have hx2 := hx.2
  have step : ∀ (j : Nat) (v : Int) (B : List Int), j < 4 → W v → B.length = y.B.length → loopO rivetref05_Memory_set.b1 ((k : Int), v, (j : Int), ⟨B⟩) = loopO rivetref05_Memory_set.b1 ((k : Int), v / 256, ((j + 1 : Nat) : Int), ⟨B.set (4 * k + j) (v % 256)⟩) := by
    intro j v B hj hv hB
    have hv1 := hv.1; have hv2 := hv.2
    refine loopO_next ?_
    simp only [rivetref05_Memory_set.b1]
    have e0 : w64 (4 * (k : Int)) = ((4 * k : Nat) : Int) := by rw [w64s (by omega) (by omega)]; omega
    have e1 : w64 (((4 * k : Nat) : Int) + (j : Int)) = ((4 * k + j : Nat) : Int) := by rw [w64s (by omega) (by omega)]; omega
    rw [if_pos (by omega), e0, e1, if_pos (by omega), w64s (by omega) (by omega), Int.tdiv_eq_ediv_of_nonneg hv1, Int.tmod_eq_emod_of_nonneg hv1, wu32_id (by omega) (by omega), wu8_id (by omega) (by omega), Int.toNat_natCast]
    rfl
  have s0 := step 0 x y.B (by omega) hx rfl
  have s1 := step 1 (x / 256) (y.B.set (4 * k + 0) (x % 256)) (by omega) ⟨by omega, by omega⟩ (by simp)
  have s2 := step 2 (x / 256 / 256) ((y.B.set (4 * k + 0) (x % 256)).set (4 * k + 1) (x / 256 % 256)) (by omega) ⟨by omega, by omega⟩ (by simp)
  have s3 := step 3 (x / 256 / 256 / 256) (((y.B.set (4 * k + 0) (x % 256)).set (4 * k + 1) (x / 256 % 256)).set (4 * k + 2) (x / 256 / 256 % 256)) (by omega) ⟨by omega, by omega⟩ (by simp)
  have s4 : ∀ v B, loopO rivetref05_Memory_set.b1 ((k : Int), v, ((3 + 1 : Nat) : Int), ⟨B⟩) = some (⟨B⟩ : Srivetref05_Memory) := by
    intro v B
    refine loopO_done ?_
    simp only [rivetref05_Memory_set.b1]
    rw [if_neg (by omega)]
  have e := (((s0.trans s1).trans s2).trans s3).trans (s4 _ _)
  refine ⟨_, by unfold rivetref05_Memory_set; rw [show (y : Srivetref05_Memory) = ⟨y.B⟩ from rfl, show (0 : Int) = ((0 : Nat) : Int) from rfl, e]; rfl, ?_⟩
  refine ⟨by rw [h.n]; simp, by simpa using h.le, fun i hi => ?_, fun i hi => ?_, by simp [h.len], fun p hp => ?_⟩
  · have hi : i < L.length := by simpa using hi
    show vx 0 (vset m.w k x) i = _
    rw [vx_vset (by omega), getD_set _ _ _ _ hk, h.w i hi]
  · have hi : i < L.length := by simpa using hi
    rw [getD_set _ _ _ _ hk]
    split
    · exact hx
    · exact h.ok i hi
  · have hp : p < 4 * L.length := by simpa using hp
    show List.getD ((((y.B.set (4 * k + 0) (x % 256)).set (4 * k + 1) (x / 256 % 256)).set (4 * k + 2) (x / 256 / 256 % 256)).set (4 * k + 3) (x / 256 / 256 / 256 % 256)) p 0 = _
    rw [getD_set _ _ _ _ (by simp; omega), getD_set _ _ _ _ (by simp; omega), getD_set _ _ _ _ (by simp; omega), getD_set _ _ _ _ (by omega), getD_set _ _ _ _ hk]
    have hd : p / 4 = k ↔ (p = 4 * k + 0 ∨ p = 4 * k + 1 ∨ p = 4 * k + 2 ∨ p = 4 * k + 3) := by omega
    by_cases hpk : p / 4 = k
    · rw [if_pos hpk]
      unfold byt
      rcases hd.1 hpk with rfl | rfl | rfl | rfl
      · rw [if_neg (by omega), if_neg (by omega), if_neg (by omega), if_pos rfl, show (4 * k + 0) % 4 = 0 by omega]; simp
      · rw [if_neg (by omega), if_neg (by omega), if_pos rfl, show (4 * k + 1) % 4 = 1 by omega]; simp
      · rw [if_neg (by omega), if_pos rfl, show (4 * k + 2) % 4 = 2 by omega, show (256 : Nat) ^ 2 = 65536 by decide]; omega
      · rw [if_pos rfl, show (4 * k + 3) % 4 = 3 by omega, show (256 : Nat) ^ 3 = 16777216 by decide]; omega
    · rw [if_neg hpk, if_neg (by omega), if_neg (by omega), if_neg (by omega), if_neg (by omega)]
      exact h.b p hp
/-- A word stored. -/
def swL (L : List Int) (a x : Int) : List Int := if trapS L a true = 0 then L.set (a / 4).toNat x else L
theorem setword_is (h : MR L m y) {a x : Int} (ha : W a) (hx : W x) : ∃ m' y', memory_Memory_SetWord m a x = some (trapS L a true, m') ∧ rivetref05_Memory_SetWord y a x = some (trapS L a true, y') ∧ MR (swL L a x) m' y' := by
  unfold memory_Memory_SetWord rivetref05_Memory_SetWord swL
  rw [at_is h ha (.inl rfl), reftrap_is h ha]
  simp only [Option.bind_some, decide_true]
  by_cases ht : trapS L a true = 0
  · have hlt := trap_lt ha ht
    have e : w64 (Int.tdiv (w64 a) 4) = (((a / 4).toNat : Nat) : Int) := by
      have h1 := ha.1; have h2 := ha.2
      rw [w64s (x := a) (by omega) (by omega), Int.tdiv_eq_ediv_of_nonneg h1, w64s (by omega) (by omega)]; omega
    obtain ⟨y', h1, h2⟩ := set_word h hlt hx
    refine ⟨⟨vset m.w (a / 4).toNat x, m.n⟩, y', by simp only [ht, if_true], ?_, by rw [if_pos ht]; exact h2⟩
    rw [if_pos ht, e, h1]
    rfl
  · exact ⟨m, y, by simp only [ht, if_false], by rw [if_neg ht], by rw [if_neg ht]; exact h⟩
end
end Go.Proofs.YtheccnbamcdpmaaGreatDoor.ZD
namespace Go.Proofs.YtheccnbamcdpmaaGreatDoor.ZD
set_option linter.unusedVariables false
set_option linter.unusedSimpArgs false
open Go Go.RowKit Go.Proofs.YtheccnbamcdpmaaGreatDoor.E
section
variable {L : List Int} {m : Smemory_Memory} {y : Srivetref05_Memory}
/-- A byte that is loaded. -/
def ldB (L : List Int) (a : Int) : Int × Int := if trapS L a false = 0 then (byt (L.getD (a / 4).toNat 0) (a % 4).toNat, 0) else (0, trapS L a false)
theorem sh_is {a : Int} (ha : W a) : wu32 (Int.tmod a 4 * 8) = (((a % 4).toNat * 8 : Nat) : Int) := by
  have h1 := ha.1
  rw [Int.tmod_eq_emod_of_nonneg h1, wu32_id (by omega) (by omega)]
  omega
theorem p256 (j : Nat) : 2 ^ (j * 8) = 256 ^ j := by rw [Nat.mul_comm, Nat.pow_mul]
theorem byte_is (h : MR L m y) {a : Int} (ha : W a) : memory_Memory_Byte m a = some ((ldB L a).1, (ldB L a).2, m) := by
  unfold memory_Memory_Byte ldB
  rw [at_is h ha (.inr rfl)]
  have e : decide ((1 : Int) = 4) = false := rfl
  rw [e]
  by_cases ht : trapS L a false = 0
  · have hlt := trap_lt ha ht
    simp only [ht, if_true, Option.bind_some]
    rw [sh_is ha, if_pos (by omega), h.w _ hlt]
    have hw := h.ok _ hlt
    generalize L.getD (a / 4).toNat 0 = x at *
    obtain ⟨n, rfl⟩ := Int.eq_ofNat_of_zero_le hw.1
    have hj : (a % 4).toNat < 4 := by have := ha.1; omega
    generalize (a % 4).toNat = j at *
    rw [shr_nat (k := .u32) (by simp only [IntKind.bits]; omega), wu8_eq, p256]
    refine congrArg some (Prod.ext ?_ rfl)
    unfold byt
    simp only
    rw [Int.natCast_ediv]
  · simp only [ht, if_false, Option.bind_some]
theorem refbyte_is (h : MR L m y) {a : Int} (ha : W a) : rivetref05_Memory_Byte y a = some ((ldB L a).1, (ldB L a).2, y) := by
  have h1 := ha.1
  unfold rivetref05_Memory_Byte ldB
  rw [reftrap_is h ha]
  simp only [Option.bind_some]
  by_cases ht : trapS L a false = 0
  · have hlt := trap_lt ha ht
    have hlen := h.len
    rw [if_pos ht, if_pos ht, if_pos (by omega), ht]
    have e : ix 0 y.B a = byt (L.getD (a / 4).toNat 0) (a % 4).toNat := by
      show y.B.getD a.toNat 0 = _
      rw [h.b _ (by omega), show a.toNat / 4 = (a / 4).toNat by omega, show a.toNat % 4 = (a % 4).toNat by omega]
    rw [e]
  · rw [if_neg ht, if_neg ht]
end
end Go.Proofs.YtheccnbamcdpmaaGreatDoor.ZD
namespace Go.Proofs.YtheccnbamcdpmaaGreatDoor.ZD
set_option linter.unusedVariables false
set_option linter.unusedSimpArgs false
open Go Go.RowKit Go.Proofs.YtheccnbamcdpmaaGreatDoor.E
def setb (x b k : Int) : Int := bor .u32 (bandn .u32 x (shl .u32 255 k)) (shl .u32 (wu32 b) k)
def sb (n c j : Nat) : Nat := (n &&& (4294967295 - 255 * 2 ^ j)) ||| (c * 2 ^ j)
theorem mask_bit : ∀ j, j = 0 ∨ j = 8 ∨ j = 16 ∨ j = 24 → ∀ i, i < 32 → (4294967295 - 255 * 2 ^ j).testBit i = !decide (j ≤ i ∧ i < j + 8) := by
  rintro j (rfl | rfl | rfl | rfl) <;> decide
theorem sb_bit {n c j : Nat} (hj : j = 0 ∨ j = 8 ∨ j = 16 ∨ j = 24) (hn : n < 2 ^ 32) (hc : c < 2 ^ 8) (i : Nat) : (sb n c j).testBit i = if j ≤ i ∧ i < j + 8 then c.testBit (i - j) else n.testBit i := by
  unfold sb
  rw [Nat.testBit_or, Nat.testBit_and, Nat.testBit_mul_two_pow]
  by_cases h : j ≤ i ∧ i < j + 8
  · rw [if_pos h, mask_bit j hj i (by omega)]
    simp [h.1, h.2]
  · rw [if_neg h]
    have hcb : (decide (j ≤ i) && c.testBit (i - j)) = false := by
      by_cases h1 : j ≤ i
      · have : c.testBit (i - j) = false := Nat.testBit_lt_two_pow (Nat.lt_of_lt_of_le hc (Nat.pow_le_pow_right (by omega) (by omega)))
        simp [this]
      · simp [h1]
    rw [hcb, Bool.or_false]
    by_cases h2 : i < 32
    · rw [mask_bit j hj i h2]
      simp [h]
    · have : n.testBit i = false := Nat.testBit_lt_two_pow (Nat.lt_of_lt_of_le hn (Nat.pow_le_pow_right (by omega) (by omega)))
      simp [this]
theorem sb_get {n c j k : Nat} (hj : j = 0 ∨ j = 8 ∨ j = 16 ∨ j = 24) (hk : k = 0 ∨ k = 8 ∨ k = 16 ∨ k = 24) (hn : n < 2 ^ 32) (hc : c < 2 ^ 8) : sb n c j / 2 ^ k % 2 ^ 8 = if k = j then c else n / 2 ^ k % 2 ^ 8 := by
  apply Nat.eq_of_testBit_eq
  intro i
  rw [Nat.testBit_mod_two_pow, Nat.testBit_div_two_pow, sb_bit hj hn hc]
  by_cases hi : i < 8
  · by_cases e : k = j
    · subst e
      rw [if_pos rfl, if_pos (by omega), show i + k - k = i by omega]
      simp [hi]
    · rw [if_neg e, if_neg (by omega), Nat.testBit_mod_two_pow, Nat.testBit_div_two_pow]
  · have h1 : (decide (i < 8)) = false := by simp [hi]
    rw [h1, Bool.false_and]
    symm
    split
    · exact Nat.testBit_lt_two_pow (Nat.lt_of_lt_of_le hc (Nat.pow_le_pow_right (by omega) (by omega)))
    · rw [Nat.testBit_mod_two_pow, h1, Bool.false_and]
theorem sb_lt {n c j : Nat} (hj : j = 0 ∨ j = 8 ∨ j = 16 ∨ j = 24) (hc : c < 2 ^ 8) : sb n c j < 2 ^ 32 := by
  unfold sb
  apply Nat.or_lt_two_pow
  · exact Nat.lt_of_le_of_lt Nat.and_le_right (by omega)
  · rcases hj with rfl | rfl | rfl | rfl <;> omega
theorem setb_nat {n c k : Nat} (hn : n < 4294967296) (hc : c < 256) (hk : k < 4) : setb (n : Int) (c : Int) ((8 * k : Nat) : Int) = (sb n c (8 * k) : Nat) := by
  have hp : 2 ^ (8 * k) ≤ 16777216 := by
    have hk : k = 0 ∨ k = 1 ∨ k = 2 ∨ k = 3 := by omega
    rcases hk with rfl | rfl | rfl | rfl <;> decide
  have h1 : c * 2 ^ (8 * k) ≤ 255 * 16777216 := Nat.mul_le_mul (by omega) hp
  unfold setb sb
  rw [wu32_id (by omega) (by omega)]
  show bor .u32 (bandn .u32 (n : Int) (shl .u32 ((255 : Nat) : Int) ((8 * k : Nat) : Int))) _ = _
  rw [shl_u32 (by omega) (by omega), shl_u32 (by omega) (by omega), bandn_u32 hn (by omega), bor_u32 (Nat.lt_of_le_of_lt Nat.and_le_left hn) (by omega)]
theorem byt_nat {n k : Nat} : byt (n : Int) k = ((n / 2 ^ (8 * k) % 2 ^ 8 : Nat) : Int) := by
  unfold byt
  rw [Nat.mul_comm 8 k, p256, show (2 : Nat) ^ 8 = 256 by decide]
  omega
theorem setb_byt {x b : Int} {j k : Nat} (hx : W x) (hb : 0 ≤ b ∧ b ≤ 255) (hj : j < 4) (hk : k < 4) : W (setb x b ((j * 8 : Nat) : Int)) ∧ byt (setb x b ((j * 8 : Nat) : Int)) k = if k = j then b else byt x k := by
  obtain ⟨n, rfl⟩ := Int.eq_ofNat_of_zero_le hx.1
  obtain ⟨c, rfl⟩ := Int.eq_ofNat_of_zero_le hb.1
  have hn : n < 4294967296 := by have := hx.2; omega
  have hc : c < 256 := by have := hb.2; omega
  rw [Nat.mul_comm j 8, setb_nat hn hc hj]
  have hlt : sb n c (8 * j) < 2 ^ 32 := sb_lt (by omega) hc
  have e32 : (2 : Nat) ^ 32 = 4294967296 := by decide
  refine ⟨⟨by omega, by omega⟩, ?_⟩
  rw [byt_nat, sb_get (by omega) (by omega) (by omega) hc, byt_nat]
  by_cases h : k = j
  · rw [if_pos h, if_pos (by omega)]
  · rw [if_neg h, if_neg (by omega)]
section
variable {L : List Int} {m : Smemory_Memory} {y : Srivetref05_Memory}
/-- A byte stored. -/
def sbL (L : List Int) (a x : Int) : List Int := if trapS L a false = 0 then L.set (a / 4).toNat (setb (L.getD (a / 4).toNat 0) x (((a % 4).toNat * 8 : Nat) : Int)) else L
theorem setbyte_is (h : MR L m y) {a x : Int} (ha : W a) (hx : 0 ≤ x ∧ x ≤ 255) : ∃ m' y', memory_Memory_SetByte m a x = some (trapS L a false, m') ∧ rivetref05_Memory_SetByte y a x = some (trapS L a false, y') ∧ MR (sbL L a x) m' y' := by
  have h1 := ha.1
  unfold memory_Memory_SetByte rivetref05_Memory_SetByte sbL
  rw [at_is h ha (.inr rfl), reftrap_is h ha]
  have e : decide ((1 : Int) = 4) = false := rfl
  rw [e]
  simp only [Option.bind_some]
  by_cases ht : trapS L a false = 0
  · have hlt := trap_lt ha ht
    have hlen := h.len
    have hw := h.ok _ hlt
    have hj : (a % 4).toNat < 4 := by omega
    refine ⟨⟨vset m.w (a / 4).toNat (setb (L.getD (a / 4).toNat 0) x (((a % 4).toNat * 8 : Nat) : Int)), m.n⟩, ⟨y.B.set a.toNat x⟩, ?_, ?_, ?_⟩
    · simp only [ht, if_true]
      rw [sh_is ha, if_pos (by omega), if_pos (by omega), h.w _ hlt]
      rfl
    · rw [if_pos ht, if_pos (by omega)]
    · rw [if_pos ht]
      refine ⟨by rw [h.n]; simp, by simpa using h.le, fun i hi => ?_, fun i hi => ?_, by simp [h.len], fun p hp => ?_⟩
      · have hi : i < L.length := by simpa using hi
        have hl := h.le
        show vx 0 (vset m.w (a / 4).toNat _) i = _
        rw [vx_vset (by omega), getD_set _ _ _ _ hlt, h.w i hi]
      · have hi : i < L.length := by simpa using hi
        rw [getD_set _ _ _ _ hlt]
        split
        · exact (setb_byt hw hx hj (k := 0) (by omega)).1
        · exact h.ok i hi
      · have hp : p < 4 * L.length := by simpa using hp
        show (y.B.set a.toNat x).getD p 0 = _
        rw [getD_set _ _ _ _ (by omega), getD_set _ _ _ _ hlt]
        by_cases hq : p / 4 = (a / 4).toNat
        · rw [if_pos hq, (setb_byt hw hx hj (k := p % 4) (by omega)).2]
          by_cases hr : p = a.toNat
          · rw [if_pos hr, if_pos (by omega)]
          · rw [if_neg hr, if_neg (by omega), h.b p hp, hq]
        · rw [if_neg hq, if_neg (by omega)]
          exact h.b p hp
  · exact ⟨m, y, by simp only [ht, if_false], by rw [if_neg ht], by rw [if_neg ht]; exact h⟩
end
end Go.Proofs.YtheccnbamcdpmaaGreatDoor.ZD
namespace Go.Proofs.YtheccnbamcdpmaaGreatDoor.ZD
set_option linter.unusedVariables false
set_option linter.unusedSimpArgs false
open Go Go.RowKit Go.Proofs.YtheccnbamcdpmaaGreatDoor.E
theorem rep_getD (n i : Nat) : (List.replicate n (0 : Int)).getD i 0 = 0 := by
  rw [List.getD_eq_getElem?_getD, List.getElem?_replicate]
  split <;> rfl
theorem new_is {n : Nat} (h : n ≤ 4096) : memory_New (n : Int) = some (.inr ⟨Vector.replicate 4096 0, n⟩) ∧ rivetref05_New (n : Int) = some (.inr ⟨List.replicate (4 * n) 0⟩) ∧ MR (List.replicate n 0) ⟨Vector.replicate 4096 0, n⟩ ⟨List.replicate (4 * n) 0⟩ := by
  refine ⟨?_, ?_, ?_⟩
  · unfold memory_New
    rw [if_neg (by omega), if_neg (by omega)]
  · unfold rivetref05_New
    have e : w64 (4 * (n : Int)) = ((4 * n : Nat) : Int) := by rw [w64s (by omega) (by omega)]; omega
    rw [if_neg (by omega), if_neg (by omega), e, if_pos (by omega), Int.toNat_natCast]
  · refine ⟨by simp, by simpa using h, fun i hi => ?_, fun i hi => ?_, by simp, fun p hp => ?_⟩
    · have hi : i < n := by simpa using hi
      rw [rep_getD]
      show (Vector.replicate 4096 (0 : Int)).toList.getD i 0 = 0
      rw [Vector.toList_replicate, rep_getD]
    · rw [rep_getD]; exact ⟨by simp, by simp⟩
    · rw [rep_getD, rep_getD]
      unfold byt
      simp
section
variable {L : List Int} {m : Smemory_Memory} {y : Srivetref05_Memory}
/-- Words set at the head. -/
theorem refset_loop {l : List Int} (hl : ∀ n ∈ l, W n) : ∀ (r i : Nat) {L : List Int} {m : Smemory_Memory} {y : Srivetref05_Memory}, MR L m y → l.length ≤ L.length → i + r = l.length →
    ∃ L' m' y', loopO rivetref05_Memory_Place.b1 (0, (i : Int), y, l) = some y' ∧ MR L' m' y' ∧ m'.n = m.n ∧ L'.length = L.length ∧ ∀ j, L'.getD j 0 = if i ≤ j ∧ j < l.length then l.getD j 0 else L.getD j 0
  | 0, i, L, m, y, h, hle, e => by
    refine ⟨L, m, y, loopO_done ?_, h, rfl, rfl, fun j => by rw [if_neg (by omega)]⟩
    simp only [rivetref05_Memory_Place.b1]
    rw [if_neg (by omega)]
  | r + 1, i, L, m, y, h, hle, e => by
    have hL := h.le
    have hx : W (ix 0 l (i : Int)) := by
      show W (l.getD (i : Int).toNat 0)
      rw [Int.toNat_natCast, List.getD_eq_getElem?_getD, List.getElem?_eq_getElem (by omega)]
      exact hl _ (List.getElem_mem _)
    obtain ⟨y1, h1, h2⟩ := set_word h (k := i) (by omega) hx
    obtain ⟨L', m', y', k1, k2, k3, k4, k5⟩ := refset_loop hl r (i + 1) h2 (by simpa using hle) (by omega)
    refine ⟨L', m', y', ?_, k2, k3, by rw [k4]; simp, fun j => ?_⟩
    · rw [← k1]
      refine loopO_next ?_
      simp only [rivetref05_Memory_Place.b1]
      have e1 : w64 (0 + (i : Int)) = (i : Int) := by rw [w64s (by omega) (by omega)]; omega
      have e2 : w64 ((i : Int) + 1) = ((i + 1 : Nat) : Int) := by rw [w64s (by omega) (by omega)]; omega
      rw [if_pos (by omega), if_pos (by omega), e1, h1, e2]
      rfl
    · rw [k5, getD_set _ _ _ _ (by omega)]
      by_cases c1 : i + 1 ≤ j ∧ j < l.length
      · rw [if_pos c1, if_pos (by omega)]
      · rw [if_neg c1]
        by_cases c2 : j = i
        · subst c2
          rw [if_pos rfl, if_pos (by omega)]
          show l.getD (j : Int).toNat 0 = _
          rw [Int.toNat_natCast]
        · rw [if_neg c2, if_neg (by omega)]
end
end Go.Proofs.YtheccnbamcdpmaaGreatDoor.ZD
namespace Go.Proofs.YtheccnbamcdpmaaGreatDoor.ZD
set_option linter.unusedVariables false
set_option linter.unusedSimpArgs false
open Go Go.RowKit Go.Proofs.YtheccnbamcdpmaaGreatDoor.E
section
variable {L : List Int} {m : Smemory_Memory} {y : Srivetref05_Memory}
theorem cutL (h : MR L m y) : (List.drop (Int.toNat 0) (List.take (Int.toNat m.n) (Vector.toList m.w))) = L := by
  have hl := h.le
  rw [h.n]
  show List.drop 0 (List.take (L.length : Int).toNat m.w.toList) = L
  rw [Int.toNat_natCast, List.drop_zero]
  apply List.ext_getElem
  · simp; omega
  · intro i h1 h2
    have := h.w i h2
    have e1 : vx 0 m.w i = m.w.toList[i]'(by simp; omega) := by
      show m.w.toList.getD i 0 = _
      rw [List.getD_eq_getElem?_getD, List.getElem?_eq_getElem (by simp; omega)]
      rfl
    have e2 : L.getD i 0 = L[i] := by rw [List.getD_eq_getElem?_getD, List.getElem?_eq_getElem h2]; rfl
    rw [List.getElem_take, ← e1, this, e2]
theorem place_is (h : MR L m y) {l : List Int} (hl : ∀ n ∈ l, W n) (hle : l.length ≤ L.length) : ∃ L' m' y', memory_Memory_Place m 0 l = some (0, m') ∧ rivetref05_Memory_Place y 0 l = some (0, y') ∧ MR L' m' y' ∧ L'.length = L.length ∧ ∀ j, L'.getD j 0 = if j < l.length then l.getD j 0 else L.getD j 0 := by
  have hL := h.le
  have hn := h.n
  obtain ⟨L', m', y', k1, k2, k3, k4, k5⟩ := refset_loop hl l.length 0 h hle (by omega)
  refine ⟨L', ⟨vcopy m.w 0 l, m.n⟩, y', ?_, ?_, ⟨by rw [k4]; exact hn, k2.le, fun i hi => ?_, k2.ok, k2.len, k2.b⟩, k4, fun j => by rw [k5]; simp⟩
  · unfold memory_Memory_Place
    rw [cutL h, if_neg (by omega), if_neg (by omega), w64s (by omega) (by omega), if_neg (by omega), if_pos (by omega), if_pos (by show 0 + L.length ≤ 4096; omega), List.take_of_length_le hle]
    rfl
  · have hlen := h.len
    unfold rivetref05_Memory_Place
    have e : w64 (Int.tdiv (y.B.length : Int) 4) = (L.length : Int) := by rw [Int.tdiv_eq_ediv_of_nonneg (by omega), w64s (by omega) (by omega)]; omega
    rw [e, if_neg (by omega), if_neg (by omega), w64s (by omega) (by omega), if_neg (by omega)]
    have k1 : loopO rivetref05_Memory_Place.b1 (0, 0, y, l) = some y' := k1
    rw [k1]
    rfl
  · show vx 0 (vcopy m.w 0 l) i = _
    rw [vx_vcopy (by omega), k5]
    by_cases c : i < l.length
    · rw [if_pos (by omega), if_pos (by omega), Nat.sub_zero]
    · rw [if_neg (by omega), if_neg (by omega)]
      exact h.w i (by omega)
theorem words_is (h : MR L m y) : memory_Memory_Words m = some (m, L) ∧ rivetref05_Memory_Words y = some (y, L) := by
  have hL := h.le
  have hn := h.n
  constructor
  · unfold memory_Memory_Words slices_Clone_uint32_uint32
    rw [cutL h, if_pos (by omega), if_pos (by simp; omega)]
    rfl
  · have hlen := h.len
    have key : ∀ r i, i + r = L.length → loopO rivetref05_Memory_Words.b1 ((i : Int), y, L.take i) = some (y, L) := by
      intro r
      induction r with
      | zero =>
        intro i hi
        refine loopO_done ?_
        simp only [rivetref05_Memory_Words.b1]
        rw [Int.tdiv_eq_ediv_of_nonneg (by omega), w64s (by omega) (by omega), if_neg (by omega), List.take_of_length_le (by omega)]
      | succ r ih =>
        intro i hi
        rw [← ih (i + 1) (by omega)]
        refine loopO_next ?_
        simp only [rivetref05_Memory_Words.b1]
        rw [Int.tdiv_eq_ediv_of_nonneg (by omega), w64s (by omega) (by omega), if_pos (by omega), get_word h (by omega)]
        simp only [Option.bind_some]
        rw [if_pos (by simp; omega), w64s (by omega) (by omega)]
        have e : L.take i ++ [L.getD i 0] = L.take (i + 1) := by
          rw [List.take_add_one, List.getD_eq_getElem?_getD, List.getElem?_eq_getElem (by omega)]
          rfl
        rw [e]
        rfl
    have k := key L.length 0 (by omega)
    have k : loopO rivetref05_Memory_Words.b1 (0, y, ([] : List Int)) = some (y, L) := k
    unfold rivetref05_Memory_Words
    rw [k]
    rfl
theorem same_is (a b : List Int) (h : a.length < 1000000) : rivetref05_Same a b = some (decide (a = b)) := by
  unfold rivetref05_Same
  by_cases hl : a.length = b.length
  · rw [if_pos (by omega)]
    have key : ∀ r i, i + r = a.length → (∀ j, j < i → a.getD j 0 = b.getD j 0) → loopO rivetref05_Same.b1 ((i : Int), a, b) = some (if a = b then .done () else .ret false) := by
      intro r
      induction r with
      | zero =>
        intro i hi hj
        have e : a = b := by
          apply List.ext_getElem hl
          intro j h1 h2
          have := hj j (by omega)
          rw [List.getD_eq_getElem?_getD, List.getD_eq_getElem?_getD, List.getElem?_eq_getElem h1, List.getElem?_eq_getElem h2] at this
          exact this
        refine loopO_done ?_
        simp only [rivetref05_Same.b1]
        rw [if_neg (by omega), if_pos e]
      | succ r ih =>
        intro i hi hj
        by_cases c : a.getD i 0 = b.getD i 0
        · rw [← ih (i + 1) (by omega) fun j hj' => by
            by_cases e : j = i
            · rw [e]; exact c
            · exact hj j (by omega)]
          refine loopO_next ?_
          simp only [rivetref05_Same.b1]
          rw [if_pos (by omega), if_pos (by omega), if_pos (by omega), if_pos (show ix 0 a (i : Int) = ix 0 b (i : Int) from c), w64s (by omega) (by omega)]
          rfl
        · refine loopO_done ?_
          simp only [rivetref05_Same.b1]
          rw [if_pos (by omega), if_pos (by omega), if_pos (by omega), if_neg (show ¬ ix 0 a (i : Int) = ix 0 b (i : Int) from c), if_neg (fun e => c (by rw [e]))]
    have k : loopO rivetref05_Same.b1 (0, a, b) = _ := key a.length 0 (by omega) (fun j hj => by omega)
    rw [k]
    by_cases e : a = b
    · simp [e]
    · simp [e]
  · rw [if_neg (by omega), decide_eq_false (fun e => hl (by rw [e]))]
end
end Go.Proofs.YtheccnbamcdpmaaGreatDoor.ZD
namespace Go.Proofs.YtheccnbamcdpmaaGreatDoor.ZD
set_option linter.unusedVariables false
set_option linter.unusedSimpArgs false
open Go Go.RowKit Go.Proofs.YtheccnbamcdpmaaGreatDoor.E
/-! ### registers stay words -/
theorem okR_set {s : Sapi_Regs} (h : OkR s) {A : Int} (hA : A ≤ 15) {x : Int} (hx : W x) : OkR { s with R := vset s.R A.toNat x } := by
  refine ⟨fun j h0 h1 => ?_, h.h⟩
  show W (vx 0 (vset s.R A.toNat x) j.toNat)
  rw [vx_vset (by omega)]
  split
  · exact hx
  · exact h.r j h0 h1
theorem okR_show {s : Sapi_Regs} (h : OkR s) (x : Int) : OkR (showS s x) := ⟨h.r, h.h⟩
theorem okR_setA {s : Sapi_Regs} (h : OkR s) {A : Int} (hA : A ≤ 15) {x : Int} (hx : W x) : OkR (setA s A x) := okR_show (okR_set h hA hx) x
theorem W_add {a b : Int} (c : Bool) : W (addS a b c).1 := W_mod _
theorem W_sub {a b : Int} (c : Bool) : W (subS a b c).1 := W_mod _
theorem opS_ok {s t : Sapi_Regs} {op b n x : Int} {u : Bool} (hs : OkR s) (hb : W b) (hn : W n) (e : opS s op b n u = some (x, t)) : W x ∧ OkR t := by
  unfold opS at e
  split at e
  · cases e
    refine ⟨?_, hs⟩
    split
    · exact W_mod _
    · exact hn
  split at e
  · cases e; exact ⟨W_shift hb, hs⟩
  split at e
  · cases e; exact ⟨W_band hb hn, hs⟩
  split at e
  · cases e; exact ⟨W_bandn hb hn, hs⟩
  split at e
  · cases e; exact ⟨W_bor hb hn, hs⟩
  split at e
  · cases e; exact ⟨W_bxor hb hn, hs⟩
  split at e
  · cases e; exact ⟨W_add _, hs.r, hs.h⟩
  split at e
  · cases e; exact ⟨W_sub _, hs.r, hs.h⟩
  split at e
  · cases e; exact ⟨W_mod _, hs.r, W_mod _⟩
  split at e
  · rename_i hd
    cases e
    unfold divS at hd ⊢
    by_cases h0 : sgn n ≤ 0
    · rw [if_pos h0] at hd; cases hd
    · rw [if_neg h0]
      have h1 := sgn_in hn.1 hn.2
      have h2 := Int.emod_nonneg (sgn b) (b := sgn n) (by omega)
      have h3 := Int.emod_lt_of_pos (sgn b) (b := sgn n) (by omega)
      exact ⟨W_mod _, hs.r, h2, show sgn b % sgn n ≤ 4294967295 by omega⟩
  · cases e
theorem doS_ok {s : Sapi_Regs} {i : Sapi_Instr} (hs : OkR s) : OkR (doS s i).1 ∧ ((doS s i).2 = 0 ∨ (doS s i).2 = 5) := by
  unfold doS
  split
  · exact ⟨hs, .inl rfl⟩
  · rename_i hm
    have hm : MayP i := by
      refine Classical.byContradiction fun hh => hm (.inl hh)
    split
    · exact ⟨okR_setA hs hm.1.2 hs.h, .inl rfl⟩
    · split
      · exact ⟨okR_setA hs hm.1.2 (W_flags s), .inl rfl⟩
      · split
        · rename_i x t e
          obtain ⟨h1, h2⟩ := opS_ok hs (hs.r _ hm.2.1.1 (by have := hm.2.1.2; omega)) (W_num hs hm.2.2.1) e
          exact ⟨okR_setA h2 hm.1.2 h1, .inl rfl⟩
        · exact ⟨hs, .inr rfl⟩
/-! ### a machine -/
/-- Words, registers, place, how it stands, inputs, outputs. -/
structure MS where
  L : List Int
  s : Sapi_Regs
  pc : Int
  st : Int
  inp : List Int
  out : List Int
/-- Both machines stand so. -/
structure MM (M : MS) (m : Smachine_Machine) (y : Srivetref06_Machine) : Prop where
  ex : ∃ mm yy, m = ⟨some mm, M.s, M.pc, M.st, M.inp, M.out⟩ ∧ y = ⟨some yy, M.s, M.pc, M.st, M.inp, M.out⟩ ∧ MR M.L mm yy
structure Good (k : Nat) (M : MS) : Prop where
  s : OkR M.s
  pc : W M.pc
  inp : ∀ x ∈ M.inp, W x
  out : M.out.length ≤ k
/-- What is loaded: it, how it stands, and what is left of the inputs. -/
def ldS (M : MS) (op a : Int) : Int × Int × List Int :=
  if op = 1 then ((ldB M.L a).1, (ldB M.L a).2, M.inp) else if a = 4294967232 then (M.inp.getD 0 0, 0, M.inp.drop 1) else ((ldW M.L a).1, (ldW M.L a).2, M.inp)
/-- What is stored: how it stands, words, outputs. -/
def stS (M : MS) (op a x : Int) : Int × List Int × List Int :=
  if op = 3 then (trapS M.L a false, sbL M.L a (x % 256), M.out) else if a = 4294967236 then (0, M.L, M.out ++ [x]) else if a = 4294967240 then (1, M.L, M.out) else (trapS M.L a true, swL M.L a x, M.out)
theorem W_getD {l : List Int} (h : ∀ x ∈ l, W x) (i : Nat) : W (l.getD i 0) := by
  rw [List.getD_eq_getElem?_getD]
  cases e : l[i]? with
  | none => exact ⟨by simp, by simp⟩
  | some v => exact h v (List.mem_of_getElem? e)
theorem ldW_ok {L : List Int} {m : Smemory_Memory} {y : Srivetref05_Memory} (h : MR L m y) {a : Int} (ha : W a) : W (ldW L a).1 := by
  unfold ldW
  split
  · rename_i ht; exact h.ok _ (trap_lt ha ht)
  · exact ⟨Int.le_refl 0, show (0 : Int) ≤ 4294967295 by decide⟩
theorem ldB_ok (L : List Int) (a : Int) : 0 ≤ (ldB L a).1 ∧ (ldB L a).1 ≤ 255 := by
  unfold ldB
  split
  · exact byt_lt _ _
  · exact ⟨Int.le_refl 0, show (0 : Int) ≤ 255 by decide⟩
theorem trapS_in (L : List Int) (a : Int) (al : Bool) : trapS L a al = 0 ∨ trapS L a al = 3 ∨ trapS L a al = 4 := by
  unfold trapS
  split
  · exact .inr (.inr rfl)
  · split
    · exact .inr (.inl rfl)
    · exact .inl rfl
theorem ld2 (L : List Int) (a : Int) : (ldW L a).2 = trapS L a true := by
  unfold ldW
  split
  · rename_i h; exact h.symm
  · rfl
theorem ldb2 (L : List Int) (a : Int) : (ldB L a).2 = trapS L a false := by
  unfold ldB
  split
  · rename_i h; exact h.symm
  · rfl
section
variable {M : MS} {k : Nat} {mm : Smemory_Memory} {yy : Srivetref05_Memory}
theorem load_is (hm : MR M.L mm yy) (hg : Good k M) {op a : Int} (ha : W a) :
    machine_Machine_load ⟨some mm, M.s, M.pc, M.st, M.inp, M.out⟩ op a = some ((ldS M op a).1, (ldS M op a).2.1, ⟨some mm, M.s, M.pc, M.st, (ldS M op a).2.2, M.out⟩) := by
  unfold machine_Machine_load ldS
  by_cases h1 : op = 1
  · rw [if_pos h1, if_pos h1]
    have hb := ldB_ok M.L a
    simp only [Option.bind_some, byte_is hm ha]
    rw [wu32_id hb.1 (by omega)]
  · rw [if_neg h1, if_neg h1]
    by_cases h2 : a = 4294967232
    · rw [if_pos h2, if_pos h2]
      cases hi : M.inp with
      | nil => rw [if_pos (by rfl)]; rfl
      | cons x r =>
        rw [if_neg (by simp only [List.length_cons]; omega), if_pos ⟨by omega, by simp only [List.length_cons]; omega⟩, if_pos ⟨by omega, by simp only [List.length_cons]; omega⟩]
        rfl
    · rw [if_neg h2, if_neg h2]
      simp only [Option.bind_some, word_is hm ha]
theorem store_is (hm : MR M.L mm yy) (hg : Good k M) (hk : k < 1000000) {op a x : Int} (ha : W a) (hx : W x) :
    ∃ mm' yy', machine_Machine_store ⟨some mm, M.s, M.pc, M.st, M.inp, M.out⟩ op a x = some ((stS M op a x).1, ⟨some mm', M.s, M.pc, M.st, M.inp, (stS M op a x).2.2⟩) ∧ MR (stS M op a x).2.1 mm' yy' ∧
      (op = 3 → rivetref05_Memory_SetByte yy a (wu8 (Int.tmod x 256)) = some ((stS M op a x).1, yy')) ∧ (op ≠ 3 → a ≠ 4294967236 → a ≠ 4294967240 → rivetref05_Memory_SetWord yy a x = some ((stS M op a x).1, yy')) ∧ (op ≠ 3 → a = 4294967236 ∨ a = 4294967240 → yy' = yy) := by
  unfold machine_Machine_store stS
  have hx0 := hx.1
  by_cases h1 : op = 3
  · rw [if_pos h1, if_pos h1]
    obtain ⟨m', y', e1, e2, e3⟩ := setbyte_is hm ha (x := x % 256) ⟨by omega, by omega⟩
    have w1 : wu8 x = x % 256 := IntKind.wrap_u8 x
    have w2 : wu8 (Int.tmod x 256) = x % 256 := by
      rw [Int.tmod_eq_emod_of_nonneg hx0]
      show IntKind.u8.wrap _ = _
      rw [IntKind.wrap_u8]; omega
    refine ⟨m', y', ?_, e3, fun _ => ?_, fun h => absurd h1 h, fun h => absurd h1 h⟩
    · simp only [Option.bind_some, w1, e1]
    · rw [w2]; exact e2
  · rw [if_neg h1, if_neg h1]
    by_cases h2 : a = 4294967236
    · rw [if_pos h2, if_pos h2]
      have ho := hg.out
      refine ⟨mm, yy, ?_, hm, fun h => absurd h h1, fun _ h => absurd h2 h, fun _ _ => rfl⟩
      rw [if_pos (by simp only [List.length_cons, List.length_nil]; omega)]
    · rw [if_neg h2, if_neg h2]
      by_cases h3 : a = 4294967240
      · rw [if_pos h3, if_pos h3]
        exact ⟨mm, yy, rfl, hm, fun h => absurd h h1, fun _ _ h => absurd h3 h, fun _ _ => rfl⟩
      · rw [if_neg h3, if_neg h3]
        obtain ⟨m', y', e1, e2, e3⟩ := setword_is hm ha hx
        refine ⟨m', y', ?_, e3, fun h => absurd h h1, fun _ _ _ => e2, fun _ h => by rcases h with h | h; exact absurd h h2; exact absurd h h3⟩
        simp only [Option.bind_some, e1]
end
end Go.Proofs.YtheccnbamcdpmaaGreatDoor.ZD
namespace Go.Proofs.YtheccnbamcdpmaaGreatDoor.ZD
set_option linter.unusedVariables false
set_option linter.unusedSimpArgs false
open Go Go.RowKit Go.Proofs.YtheccnbamcdpmaaGreatDoor.E
def nextS (M : MS) : Int := (M.pc + 4) % 4294967296
def adrS (M : MS) (i : Sapi_Instr) : Int := (vx 0 M.s.R i.B.toNat + i.Imm) % 4294967296
/-- What an instruction does to a machine that runs. -/
noncomputable def runS (M : MS) (i : Sapi_Instr) : MS :=
  if i.Kind = 5 then
    if i.Op ≥ 2 then
      ⟨(stS M i.Op (adrS M i) (vx 0 M.s.R i.A.toNat)).2.1, M.s, if (stS M i.Op (adrS M i) (vx 0 M.s.R i.A.toNat)).1 ≤ 1 then nextS M else M.pc, (stS M i.Op (adrS M i) (vx 0 M.s.R i.A.toNat)).1, M.inp, (stS M i.Op (adrS M i) (vx 0 M.s.R i.A.toNat)).2.2⟩
    else if (ldS M i.Op (adrS M i)).2.1 = 0 then ⟨M.L, setA M.s i.A (ldS M i.Op (adrS M i)).1, nextS M, 0, (ldS M i.Op (adrS M i)).2.2, M.out⟩
    else ⟨M.L, M.s, M.pc, (ldS M i.Op (adrS M i)).2.1, (ldS M i.Op (adrS M i)).2.2, M.out⟩
  else if i.Kind = 6 ∨ i.Kind = 7 then
    if takenS M.s i.Op = true then
      ⟨M.L, if i.U = true then { M.s with R := vset M.s.R 15 (nextS M) } else M.s, if i.Kind = 7 then (M.pc + 4 + 4 * i.Imm) % 4294967296 else vx 0 M.s.R i.C.toNat, 0, M.inp, M.out⟩
    else ⟨M.L, M.s, nextS M, 0, M.inp, M.out⟩
  else ⟨M.L, (doS M.s i).1, if (doS M.s i).2 ≤ 1 then nextS M else M.pc, (doS M.s i).2, M.inp, M.out⟩
noncomputable def stepS (M : MS) : MS :=
  if M.st = 0 then
    if (ldW M.L M.pc).2 = 0 then
      if (decS (ldW M.L M.pc).1).2 = true then runS M (decS (ldW M.L M.pc).1).1 else ⟨M.L, M.s, M.pc, 2, M.inp, M.out⟩
    else ⟨M.L, M.s, M.pc, (ldW M.L M.pc).2, M.inp, M.out⟩
  else M
/-- What the reference does behind decoding. -/
noncomputable def refT (y : Srivetref06_Machine) (i : Sapi_Instr) : Option (Int × Srivetref06_Machine) :=
  (if i.Kind = 5 then ((rivetref06_Machine_move y i).bind fun ⟨t6, t7⟩ => rivetref06_Machine_Step.j3 t6 (wu32 (y.PC + 4)) t7) else (if i.Kind = 6 then rivetref06_Machine_Step.j1 0 (wu32 (y.PC + 4)) true y i.Kind i.Op i.A i.B i.C i.Imm i.U else rivetref06_Machine_Step.j1 0 (wu32 (y.PC + 4)) (decide (i.Kind = 7)) y i.Kind i.Op i.A i.B i.C i.Imm i.U))
theorem wu32_add2 (x y : Int) : wu32 (x + wu32 y) = (x + y) % 4294967296 := by rw [wu32_eq, wu32_eq]; omega
theorem j3_is {t n : Int} (ht : 0 ≤ t) (y : Srivetref06_Machine) : rivetref06_Machine_Step.j3 t n y = some (t, ⟨y.M, y.S, if t ≤ 1 then n else y.PC, t, y.In, y.Out⟩) := by
  unfold rivetref06_Machine_Step.j3
  by_cases h0 : t = 0
  · rw [if_pos h0, if_pos (by omega)]
  · rw [if_neg h0]
    by_cases h1 : t = 1
    · rw [if_pos h1, if_pos (by omega)]
    · rw [if_neg h1, if_neg (by omega)]
section
variable {M : MS} {k : Nat} {mm : Smemory_Memory} {yy : Srivetref05_Memory} {i : Sapi_Instr}
/-- What is to be shown of an instruction. -/
def RunOk (k : Nat) (M : MS) (mm : Smemory_Memory) (yy : Srivetref05_Memory) (i : Sapi_Instr) : Prop :=
  ∃ to mm' yy', machine_Machine_do ⟨some mm, M.s, M.pc, M.st, M.inp, M.out⟩ i = some (to, (runS M i).st, ⟨some mm', (runS M i).s, M.pc, M.st, (runS M i).inp, (runS M i).out⟩) ∧
    (if (runS M i).st ≤ 1 then to else M.pc) = (runS M i).pc ∧
    refT ⟨some yy, M.s, M.pc, M.st, M.inp, M.out⟩ i = some ((runS M i).st, ⟨some yy', (runS M i).s, (runS M i).pc, (runS M i).st, (runS M i).inp, (runS M i).out⟩) ∧ MR (runS M i).L mm' yy' ∧ Good (k + 1) (runS M i)
theorem stS_in (M : MS) (op a x : Int) : 0 ≤ (stS M op a x).1 := by
  unfold stS
  have := trapS_in M.L a true
  have := trapS_in M.L a false
  split
  · dsimp only; omega
  · split
    · exact Int.le_refl 0
    · split
      · exact Int.zero_le_ofNat 1
      · dsimp only; omega
theorem good_pc (hg : Good k M) : W (nextS M) := ⟨by unfold nextS; omega, by unfold nextS; omega⟩
theorem run_store (hm : MR M.L mm yy) (hg : Good k M) (hk : k < 1000000) (hi : MayP i) (hK : i.Kind = 5) (hop : i.Op ≥ 2) : RunOk k M mm yy i := by
  have ha : W (adrS M i) := ⟨by unfold adrS; omega, by unfold adrS; omega⟩
  have hx : W (vx 0 M.s.R i.A.toNat) := hg.s.r _ hi.1.1 (by have := hi.1.2; omega)
  have hO : i.Op ≤ 3 := by obtain ⟨_, _, _, h⟩ := hi; omega
  have hA := hi.1
  have hB := hi.2.1
  obtain ⟨mm', yy', e1, e2, e3, e4, e5⟩ := store_is hm hg hk ha hx (op := i.Op)
  have hp : wu32 (vx 0 M.s.R (Int.toNat i.B) + wu32 i.Imm) = adrS M i := wu32_add2 _ _
  have hn : wu32 (M.pc + 4) = nextS M := wu32_eq _
  have h0 := stS_in M i.Op (adrS M i) (vx 0 M.s.R i.A.toNat)
  have hr : runS M i = ⟨(stS M i.Op (adrS M i) (vx 0 M.s.R i.A.toNat)).2.1, M.s, if (stS M i.Op (adrS M i) (vx 0 M.s.R i.A.toNat)).1 ≤ 1 then nextS M else M.pc, (stS M i.Op (adrS M i) (vx 0 M.s.R i.A.toNat)).1, M.inp, (stS M i.Op (adrS M i) (vx 0 M.s.R i.A.toNat)).2.2⟩ := by
    unfold runS
    rw [if_pos hK, if_pos hop]
  unfold RunOk
  rw [hr]
  refine ⟨nextS M, mm', yy', ?_, rfl, ?_, e2, ⟨hg.s, ?_, hg.inp, ?_⟩⟩
  · unfold machine_Machine_do
    rw [if_pos hK, if_pos ⟨hB.1, by omega⟩, if_pos hop, if_pos ⟨hA.1, by omega⟩]
    simp only [hp, hn, e1, Option.bind_some]
  · unfold refT
    rw [if_pos hK]
    have hmove : rivetref06_Machine_move ⟨some yy, M.s, M.pc, M.st, M.inp, M.out⟩ i = some ((stS M i.Op (adrS M i) (vx 0 M.s.R i.A.toNat)).1, ⟨some yy', M.s, M.pc, M.st, M.inp, (stS M i.Op (adrS M i) (vx 0 M.s.R i.A.toNat)).2.2⟩) := by
      unfold rivetref06_Machine_move
      rw [if_pos ⟨hB.1, by omega⟩, if_pos ⟨hA.1, by omega⟩, if_neg (by omega), if_neg (by omega)]
      simp only [hp]
      by_cases h3 : i.Op = 3
      · rw [if_pos h3]
        simp only [Option.bind_some, e3 h3]
        unfold stS
        rw [if_pos h3]
      · rw [if_neg h3]
        by_cases h4 : adrS M i = 4294967236
        · have ho := hg.out
          rw [if_pos h4, if_pos (by simp only [List.length_cons, List.length_nil]; omega), e5 h3 (.inl h4)]
          unfold stS
          rw [if_neg h3, if_pos h4]
        · rw [if_neg h4]
          by_cases h5 : adrS M i = 4294967240
          · rw [if_pos h5, e5 h3 (.inr h5)]
            unfold stS
            rw [if_neg h3, if_neg h4, if_pos h5]
          · rw [if_neg h5]
            simp only [Option.bind_some, e4 h3 h4 h5]
            unfold stS
            rw [if_neg h3, if_neg h4, if_neg h5]
    rw [hmove]
    show rivetref06_Machine_Step.j3 _ _ _ = _
    rw [j3_is h0]
    simp only [hn]
  · show W (if _ then _ else _)
    split
    · exact good_pc hg
    · exact hg.pc
  · show (stS M i.Op (adrS M i) (vx 0 M.s.R i.A.toNat)).2.2.length ≤ k + 1
    have := hg.out
    unfold stS
    split
    · dsimp only; omega
    · split
      · simp only [List.length_append, List.length_cons, List.length_nil]; omega
      · split
        · dsimp only; omega
        · dsimp only; omega
theorem ldS1 {op a : Int} (h : op = 1) : ldS M op a = ((ldB M.L a).1, (ldB M.L a).2, M.inp) := if_pos h
theorem ldS2 {op a : Int} (h : ¬ op = 1) (h2 : a = 4294967232) : ldS M op a = (M.inp.getD 0 0, 0, M.inp.drop 1) := (if_neg h).trans (if_pos h2)
theorem ldS3 {op a : Int} (h : ¬ op = 1) (h2 : ¬ a = 4294967232) : ldS M op a = ((ldW M.L a).1, (ldW M.L a).2, M.inp) := (if_neg h).trans (if_neg h2)
theorem ldS_ok (hm : MR M.L mm yy) (hg : Good k M) (op : Int) {a : Int} (ha : W a) : W (ldS M op a).1 ∧ (∀ x ∈ (ldS M op a).2.2, W x) ∧ ((ldS M op a).2.1 = 0 ∨ 2 ≤ (ldS M op a).2.1) := by
  have h1 := ldB_ok M.L a
  have t1 := trapS_in M.L a true
  have t2 := trapS_in M.L a false
  by_cases c1 : op = 1
  · rw [ldS1 c1, ldb2]
    exact ⟨⟨h1.1, show (ldB M.L a).1 ≤ 4294967295 by omega⟩, hg.inp, show trapS M.L a false = 0 ∨ 2 ≤ trapS M.L a false by omega⟩
  · by_cases c2 : a = 4294967232
    · rw [ldS2 c1 c2]
      exact ⟨W_getD hg.inp 0, fun x hx => hg.inp x (List.mem_of_mem_drop hx), .inl rfl⟩
    · rw [ldS3 c1 c2, ld2]
      exact ⟨ldW_ok hm ha, hg.inp, show trapS M.L a true = 0 ∨ 2 ≤ trapS M.L a true by omega⟩
theorem run_load (hm : MR M.L mm yy) (hg : Good k M) (hi : MayP i) (hK : i.Kind = 5) (hop : ¬ i.Op ≥ 2) : RunOk k M mm yy i := by
  have ha : W (adrS M i) := ⟨by unfold adrS; omega, by unfold adrS; omega⟩
  have hO : 0 ≤ i.Op := by obtain ⟨_, _, _, h⟩ := hi; omega
  have hA := hi.1
  have hB := hi.2.1
  have e1 := load_is hm hg (op := i.Op) ha
  obtain ⟨q1, q2, q3⟩ := ldS_ok hm hg i.Op ha
  have hp : wu32 (vx 0 M.s.R (Int.toNat i.B) + wu32 i.Imm) = adrS M i := wu32_add2 _ _
  have hn : wu32 (M.pc + 4) = nextS M := wu32_eq _
  have ho := hg.out
  have hr : runS M i = if (ldS M i.Op (adrS M i)).2.1 = 0 then ⟨M.L, setA M.s i.A (ldS M i.Op (adrS M i)).1, nextS M, 0, (ldS M i.Op (adrS M i)).2.2, M.out⟩ else ⟨M.L, M.s, M.pc, (ldS M i.Op (adrS M i)).2.1, (ldS M i.Op (adrS M i)).2.2, M.out⟩ := by
    unfold runS
    rw [if_pos hK, if_neg hop]
  have hmove : rivetref06_Machine_move ⟨some yy, M.s, M.pc, M.st, M.inp, M.out⟩ i = some ((ldS M i.Op (adrS M i)).2.1, ⟨some yy, if (ldS M i.Op (adrS M i)).2.1 = 0 then setA M.s i.A (ldS M i.Op (adrS M i)).1 else M.s, M.pc, M.st, (ldS M i.Op (adrS M i)).2.2, M.out⟩) := by
    unfold rivetref06_Machine_move
    rw [if_pos ⟨hB.1, by omega⟩, if_pos ⟨hA.1, by omega⟩]
    have hj : ∀ (v t : Int) (l : List Int), W v → rivetref06_Machine_move.j1 v t ⟨some yy, M.s, M.pc, M.st, l, M.out⟩ i.Kind i.Op i.A i.B i.C i.Imm i.U = some (t, ⟨some yy, if t = 0 then setA M.s i.A v else M.s, M.pc, M.st, l, M.out⟩) := by
      intro v t l hv
      unfold rivetref06_Machine_move.j1
      by_cases h0 : t = 0
      · rw [if_pos h0, if_pos ⟨hA.1, by omega⟩, if_pos h0, refshow_is]
        rfl
      · rw [if_neg h0, if_neg h0]
    simp only [hp]
    by_cases h0 : i.Op = 0
    · rw [if_pos h0]
      simp only [Option.bind_some, refword_is hm ha]
      have hn1 : ¬ i.Op = 1 := by omega
      by_cases h1 : adrS M i = 4294967232
      · rw [if_pos h1, ldS2 hn1 h1]
        cases hin : M.inp with
        | nil =>
          rw [if_neg (by simp), hj _ _ _ ⟨Int.le_refl 0, by decide⟩]
          rfl
        | cons x r =>
          have hx : W x := hg.inp x (by rw [hin]; simp)
          rw [if_pos (by simp only [List.length_cons]; omega), if_pos ⟨by omega, by simp only [List.length_cons]; omega⟩, if_pos ⟨by omega, by simp only [List.length_cons]; omega⟩]
          exact hj _ _ _ hx
      · rw [if_neg h1, ldS3 hn1 h1]
        exact hj _ _ _ (ldW_ok hm ha)
    · have h1 : i.Op = 1 := by omega
      rw [if_neg h0, if_pos h1, ldS1 h1]
      have hb := ldB_ok M.L (adrS M i)
      simp only [Option.bind_some, refbyte_is hm ha]
      simp only [wu32_id hb.1 (show (ldB M.L (adrS M i)).1 ≤ 4294967295 by omega)]
      by_cases h2 : (ldB M.L (adrS M i)).2 = 0
      · rw [if_pos h2, if_pos ⟨hA.1, by omega⟩, if_pos h2, refshow_is]
        rfl
      · rw [if_neg h2, if_neg h2]
  unfold RunOk
  rw [hr]
  by_cases h0 : (ldS M i.Op (adrS M i)).2.1 = 0
  · rw [if_pos h0]
    refine ⟨nextS M, mm, yy, ?_, rfl, ?_, hm, ⟨okR_setA hg.s hA.2 q1, good_pc hg, q2, by dsimp only; omega⟩⟩
    · unfold machine_Machine_do
      rw [if_pos hK, if_pos ⟨hB.1, by omega⟩, if_neg hop]
      simp only [hp, hn, e1, Option.bind_some]
      rw [if_pos h0, if_pos ⟨hA.1, by omega⟩, show_is _ q1, h0]
      rfl
    · unfold refT
      rw [if_pos hK, hmove]
      show rivetref06_Machine_Step.j3 _ _ _ = _
      rw [j3_is (by omega)]
      simp only [hn, h0, if_true]
      rfl
  · rw [if_neg h0]
    refine ⟨nextS M, mm, yy, ?_, by dsimp only; rw [if_neg (by omega)], ?_, hm, ⟨hg.s, hg.pc, q2, by dsimp only; omega⟩⟩
    · unfold machine_Machine_do
      rw [if_pos hK, if_pos ⟨hB.1, by omega⟩, if_neg hop]
      simp only [hp, hn, e1, Option.bind_some]
      rw [if_neg h0]
    · unfold refT
      rw [if_pos hK, hmove]
      show rivetref06_Machine_Step.j3 _ _ _ = _
      rw [j3_is (by omega)]
      simp only [if_neg h0]
      rw [if_neg (by omega)]
theorem run_branch (hm : MR M.L mm yy) (hg : Good k M) (hi : MayP i) (hst : M.st = 0) (hK : i.Kind = 6 ∨ i.Kind = 7) : RunOk k M mm yy i := by
  have hC := hi.2.2.1
  have hI : i.Kind = 7 → -8388608 ≤ i.Imm ∧ i.Imm ≤ 8388607 := by obtain ⟨_, _, _, h⟩ := hi; omega
  have hn : wu32 (M.pc + 4) = nextS M := wu32_eq _
  have ho := hg.out
  have hpc := hg.pc
  have hto : i.Kind = 7 → wu32 (nextS M + wu32 (wu32 i.Imm * 4)) = (M.pc + 4 + 4 * i.Imm) % 4294967296 := fun h => by
    rw [wu32_eq, wu32_eq, wu32_eq]; unfold nextS; omega
  have hto2 : i.Kind = 7 → wu32 (nextS M + wu32 (w64 (4 * i.Imm))) = (M.pc + 4 + 4 * i.Imm) % 4294967296 := fun h => by
    have := hI h
    rw [w64s (by omega) (by omega), wu32_eq, wu32_eq]; unfold nextS; omega
  have hr : runS M i = if takenS M.s i.Op = true then ⟨M.L, if i.U = true then { M.s with R := vset M.s.R 15 (nextS M) } else M.s, if i.Kind = 7 then (M.pc + 4 + 4 * i.Imm) % 4294967296 else vx 0 M.s.R i.C.toNat, 0, M.inp, M.out⟩ else ⟨M.L, M.s, nextS M, 0, M.inp, M.out⟩ := by
    unfold runS
    rw [if_neg (by omega), if_pos hK]
  have hdo : machine_Machine_do ⟨some mm, M.s, M.pc, M.st, M.inp, M.out⟩ i = machine_Machine_do.j1 (nextS M) true ⟨some mm, M.s, M.pc, M.st, M.inp, M.out⟩ i.Kind i.Op i.A i.B i.C i.Imm i.U := by
    unfold machine_Machine_do
    rw [if_neg (by omega)]
    by_cases h6 : i.Kind = 6
    · rw [if_pos h6]; simp only [hn]
    · rw [if_neg h6, decide_eq_true (by omega : i.Kind = 7)]; simp only [hn]
  have hrf : refT ⟨some yy, M.s, M.pc, M.st, M.inp, M.out⟩ i = rivetref06_Machine_Step.j1 0 (nextS M) true ⟨some yy, M.s, M.pc, M.st, M.inp, M.out⟩ i.Kind i.Op i.A i.B i.C i.Imm i.U := by
    unfold refT
    rw [if_neg (by omega)]
    by_cases h6 : i.Kind = 6
    · rw [if_pos h6]; simp only [hn]
    · rw [if_neg h6, decide_eq_true (by omega : i.Kind = 7)]; simp only [hn]
  unfold RunOk
  rw [hr, hdo, hrf]
  unfold machine_Machine_do.j1 rivetref06_Machine_Step.j1
  rw [if_pos rfl, if_pos rfl, taken_is, reftaken_is]
  simp only [Option.bind_some]
  have hC2 : (0 : Int) ≤ i.C ∧ i.C < 16 := ⟨hC.1, by omega⟩
  by_cases ht : takenS M.s i.Op = true
  · rw [if_pos ht, if_pos ht, if_pos ht, if_pos hC2]
    have hW : W (nextS M) := good_pc hg
    have hs' : OkR (if i.U = true then { M.s with R := vset M.s.R 15 (nextS M) } else M.s) := by
      split
      · exact okR_set hg.s (A := 15) (by decide) hW
      · exact hg.s
    by_cases h7 : i.Kind = 7
    · have h6 : ¬ i.Kind = 6 := by omega
      rw [if_pos h7, if_pos h7, if_neg h6, hto h7, hto2 h7]
      refine ⟨(M.pc + 4 + 4 * i.Imm) % 4294967296, mm, yy, ?_, rfl, ?_, hm, ⟨hs', ⟨by dsimp only; omega, by dsimp only; omega⟩, hg.inp, by dsimp only; omega⟩⟩
      · unfold machine_Machine_do.j2
        cases i.U <;> rfl
      · unfold rivetref06_Machine_Step.j2
        cases i.U
        · simp only [Bool.false_eq_true, if_false, j3_is (Int.le_refl 0)]; rfl
        · simp only [if_true, j3_is (Int.le_refl 0)]; rfl
    · have h6 : i.Kind = 6 := by omega
      rw [if_neg h7, if_neg h7, if_pos h6, if_pos hC2]
      refine ⟨vx 0 M.s.R i.C.toNat, mm, yy, ?_, rfl, ?_, hm, ⟨hs', hg.s.r _ hC.1 (by omega), hg.inp, by dsimp only; omega⟩⟩
      · unfold machine_Machine_do.j2
        cases i.U <;> rfl
      · unfold rivetref06_Machine_Step.j2
        cases i.U
        · simp only [Bool.false_eq_true, if_false, j3_is (Int.le_refl 0)]; rfl
        · simp only [if_true, j3_is (Int.le_refl 0)]; rfl
  · rw [if_neg ht, if_neg ht, if_neg ht]
    refine ⟨nextS M, mm, yy, rfl, rfl, ?_, hm, ⟨hg.s, good_pc hg, hg.inp, by dsimp only; omega⟩⟩
    rw [j3_is (Int.le_refl 0)]; rfl
theorem run_op (hm : MR M.L mm yy) (hg : Good k M) (hi : MayP i) (hK : i.Kind ≠ 5 ∧ i.Kind ≠ 6 ∧ i.Kind ≠ 7) : RunOk k M mm yy i := by
  have hn : wu32 (M.pc + 4) = nextS M := wu32_eq _
  have ho := hg.out
  have hd := doS_ok (i := i) hg.s
  have hr : runS M i = ⟨M.L, (doS M.s i).1, if (doS M.s i).2 ≤ 1 then nextS M else M.pc, (doS M.s i).2, M.inp, M.out⟩ := by
    unfold runS
    rw [if_neg hK.1, if_neg (by omega)]
  unfold RunOk
  rw [hr]
  refine ⟨nextS M, mm, yy, ?_, rfl, ?_, hm, ⟨hd.1, ?_, hg.inp, by dsimp only; omega⟩⟩
  · unfold machine_Machine_do machine_Machine_do.j1
    rw [if_neg hK.1, if_neg hK.2.1, decide_eq_false hK.2.2, if_neg (by simp)]
    have := do_is (i := i) hg.s
    simp only [this, Option.bind_some, hn]
  · unfold refT rivetref06_Machine_Step.j1
    rw [if_neg hK.1, if_neg hK.2.1, decide_eq_false hK.2.2, if_neg (by simp)]
    have := refdo_is (i := i) hg.s
    simp only [this, Option.bind_some, hn]
    rw [j3_is (by omega)]
  · show W (if _ then _ else _)
    split
    · exact good_pc hg
    · exact hg.pc
theorem run_is (hm : MR M.L mm yy) (hg : Good k M) (hk : k < 1000000) (hst : M.st = 0) (hi : MayP i) : RunOk k M mm yy i := by
  by_cases h5 : i.Kind = 5
  · by_cases hop : i.Op ≥ 2
    · exact run_store hm hg hk hi h5 hop
    · exact run_load hm hg hi h5 hop
  · by_cases h67 : i.Kind = 6 ∨ i.Kind = 7
    · exact run_branch hm hg hi hst h67
    · exact run_op hm hg hi ⟨h5, by omega, by omega⟩
theorem step_is {m : Smachine_Machine} {y : Srivetref06_Machine} (h : MM M m y) (hg : Good k M) (hk : k < 1000000) :
    ∃ m' y', machine_Machine_Step m = some ((stepS M).st, m') ∧ rivetref06_Machine_Step y = some ((stepS M).st, y') ∧ MM (stepS M) m' y' ∧ Good (k + 1) (stepS M) := by
  obtain ⟨mm, yy, rfl, rfl, hm⟩ := h.ex
  have ho := hg.out
  have hg1 : ∀ (pc' st' : Int), W pc' → Good (k + 1) ⟨M.L, M.s, pc', st', M.inp, M.out⟩ := fun _ _ hp => ⟨hg.s, hp, hg.inp, by dsimp only; omega⟩
  unfold machine_Machine_Step rivetref06_Machine_Step stepS
  by_cases hst : M.st = 0
  · rw [if_pos hst]
    have hw := ldW_ok hm hg.pc
    simp only [hst, if_true, Option.bind_some, word_is hm hg.pc, refword_is hm hg.pc, refdec_is hw]
    by_cases ht : (ldW M.L M.pc).2 = 0
    · simp only [ht, if_true, dec_is hw, Option.bind_some]
      by_cases hd : (decS (ldW M.L M.pc).1).2 = true
      · simp only [hd, if_true]
        obtain ⟨to, mm', yy', e1, e2, e3, e4, e5⟩ := run_is hm hg hk hst (dec_ok hd).1
        rw [hst] at e1 e3
        unfold refT at e3
        simp only [e1, Option.bind_some]
        rw [show (_ : Option (Int × Srivetref06_Machine)) = _ from e3]
        by_cases h1 : (runS M (decS (ldW M.L M.pc).1).1).st ≤ 1
        · rw [if_pos h1] at e2 ⊢
          exact ⟨_, _, rfl, rfl, ⟨mm', yy', by rw [e2], rfl, e4⟩, e5⟩
        · rw [if_neg h1] at e2 ⊢
          exact ⟨_, _, rfl, rfl, ⟨mm', yy', by rw [← e2], rfl, e4⟩, e5⟩
      · simp only [hd, if_false]
        exact ⟨_, _, rfl, rfl, ⟨mm, yy, rfl, rfl, hm⟩, hg1 _ _ hg.pc⟩
    · simp only [ht, if_false]
      exact ⟨_, _, rfl, rfl, ⟨mm, yy, rfl, rfl, hm⟩, hg1 _ _ hg.pc⟩
  · rw [if_neg hst]
    simp only [if_neg hst]
    exact ⟨_, _, rfl, rfl, ⟨mm, yy, rfl, rfl, hm⟩, ⟨hg.s, hg.pc, hg.inp, by omega⟩⟩
end
end Go.Proofs.YtheccnbamcdpmaaGreatDoor.ZD
namespace Go.Proofs.YtheccnbamcdpmaaGreatDoor.ZD
set_option linter.unusedVariables false
set_option linter.unusedSimpArgs false
open Go Go.RowKit Go.Proofs.YtheccnbamcdpmaaGreatDoor.E
theorem drop_at {l : List Int} {i : Nat} (h : i < l.length) : l.drop i = l.getD i 0 :: l.drop (i + 1) := by
  rw [List.drop_eq_getElem_cons h, List.getD_eq_getElem?_getD, List.getElem?_eq_getElem h]
  rfl
theorem ixn (l : List Int) (i : Nat) : ix 0 l (i : Int) = l.getD i 0 := rfl
theorem getD_mem {l : List Int} {i : Nat} (h : i < l.length) : l.getD i 0 ∈ l := by
  rw [List.getD_eq_getElem?_getD, List.getElem?_eq_getElem h]; exact List.getElem_mem h
/-- Sites rise, from p on, and are below N. -/
def rise (N : Int) : Int → List Int → Bool
  | _, [] => true
  | p, s :: r => decide (p < s ∧ s < N ∧ s ≤ 65534) && rise N s r
theorem rise_all {N : Int} : ∀ {p : Int} {l : List Int}, rise N p l = true → -1 ≤ p → ∀ s ∈ l, p < s ∧ 0 ≤ s ∧ s < N ∧ s ≤ 65534
  | _, [], _, _, s, hs => by cases hs
  | p, x :: r, h, hp, s, hs => by
    simp only [rise, Bool.and_eq_true, decide_eq_true_eq] at h
    rcases List.mem_cons.1 hs with h1 | h1
    · subst h1; omega
    · have := rise_all h.2 (by omega) s h1; omega
theorem rise_of {N : Int} : ∀ {p : Int} {s : List Int}, s.Pairwise (· < ·) → (∀ x ∈ s, p < x ∧ x < N ∧ x ≤ 65534) → rise N p s = true
  | _, [], _, _ => rfl
  | p, x :: r, h1, h2 => by
    have h3 := List.pairwise_cons.1 h1
    have h4 := h2 x (by simp)
    simp only [rise, Bool.and_eq_true, decide_eq_true_eq]
    exact ⟨h4, rise_of h3.2 fun y hy => ⟨h3.1 y hy, (h2 y (List.mem_cons_of_mem _ hy)).2⟩⟩
theorem rise_no {N p x : Int} {r : List Int} (h : ¬ (p < x ∧ x < N ∧ x ≤ 65534)) : rise N p (x :: r) = false := by
  unfold rise
  rw [decide_eq_false h]
  rfl
theorem rise_yes {N p x : Int} {r : List Int} (h : p < x ∧ x < N ∧ x ≤ 65534) : rise N p (x :: r) = rise N x r := by
  conv => lhs; unfold rise
  rw [decide_eq_true h, Bool.true_and]
theorem pack1 {l0 l1 : List Int} (h1 : l1.length ≤ 4000000000000000000) : ∀ (n : Nat) (p : Int) (i : Nat), i + n = l1.length →
    loopO chain_Pack.b1 (p, (l1.length : Int), (i : Int), l0, l1) = some (if rise (l0.length : Int) p (l1.drop i) = true then .done (l0, l1) else .ret (0, 7, []))
  | 0, p, i, hi => by
    refine loopO_done ?_
    simp only [chain_Pack.b1]
    rw [if_neg (by omega), List.drop_of_length_le (by omega)]
    rfl
  | n + 1, p, i, hi => by
    have hlt : i < l1.length := by omega
    rw [drop_at hlt]
    by_cases c1 : l1.getD i 0 ≤ p
    · refine loopO_done ?_
      simp only [chain_Pack.b1]
      rw [if_pos (by omega), if_pos ⟨by omega, by omega⟩, ixn, if_pos c1, rise_no (by omega)]
      rfl
    · by_cases c2 : l1.getD i 0 ≥ (l0.length : Int)
      · refine loopO_done ?_
        simp only [chain_Pack.b1]
        rw [if_pos (by omega), if_pos ⟨by omega, by omega⟩, ixn, if_neg c1, if_pos c2, rise_no (by omega)]
        rfl
      · by_cases c3 : l1.getD i 0 > 65534
        · refine loopO_done ?_
          simp only [chain_Pack.b1]
          rw [if_pos (by omega), if_pos ⟨by omega, by omega⟩, ixn, if_neg c1, if_neg c2, if_pos c3, rise_no (by omega)]
          rfl
        · rw [rise_yes (by omega), ← pack1 h1 n (l1.getD i 0) (i + 1) (by omega)]
          refine loopO_next ?_
          simp only [chain_Pack.b1]
          rw [if_pos (by omega), if_pos ⟨by omega, by omega⟩, ixn, if_neg c1, if_neg c2, if_neg c3, w64s (by omega) (by omega)]
          rfl
theorem pack2 {l1 : List Int} (h1 : l1.length ≤ 4000000000000000000) {N : Nat} (hs : ∀ s ∈ l1, 0 ≤ s ∧ s < (N : Int) ∧ s ≤ 65534) : ∀ (n : Nat) (h : Int) (i : Nat) (out : List Int), i + n = l1.length → out.length = N →
    ∃ r, loopO chain_Pack.b2 (h, (l1.length : Int), (i : Int), l1, out) = some r ∧ (r = .ret (0, 8, []) ∨ ∃ a, r = .done a)
  | 0, h, i, out, hi, ho => by
    refine ⟨_, loopO_done (r := .done (h, out)) ?_, .inr ⟨_, rfl⟩⟩
    simp only [chain_Pack.b2]
    rw [if_neg (by omega)]
  | n + 1, h, i, out, hi, ho => by
    have hlt : i < l1.length := by omega
    have hb := hs _ (getD_mem hlt)
    have hb2 : (0 : Int) ≤ l1.getD i 0 ∧ l1.getD i 0 < (out.length : Int) := by omega
    by_cases c : ix 0 out (l1.getD i 0) > 65535
    · refine ⟨_, loopO_done (r := .ret (0, 8, [])) ?_, .inl rfl⟩
      simp only [chain_Pack.b2]
      rw [if_pos (by omega), if_pos ⟨by omega, by omega⟩, ixn, if_pos hb2, if_pos c]
    · obtain ⟨r, k1, k2⟩ := pack2 h1 hs n (w64 (l1.getD i 0 + 1)) (i + 1) (out.set (Int.toNat (l1.getD i 0)) (bor .u32 (shl .u32 (ix 0 out (l1.getD i 0)) 16) (wu32 h))) (by omega) (by simpa using ho)
      refine ⟨r, ?_, k2⟩
      rw [← k1]
      refine loopO_next ?_
      simp only [chain_Pack.b2]
      rw [if_pos (by omega), if_pos ⟨by omega, by omega⟩, ixn, if_pos hb2, if_neg c, if_pos hb2, if_pos hb2, w64s (x := (i : Int) + 1) (by omega) (by omega)]
      rfl
theorem pack_err {l s : List Int} (h1 : s.length ≤ 4000000000000000000) (h0 : l.length ≤ 1000000000000) : ∃ x e w, chain_Pack l s = some (x, e, w) ∧ (e = 7 ↔ rise (l.length : Int) (-1) s = false) := by
  unfold chain_Pack
  have k := pack1 (l0 := l) h1 s.length (-1) 0 (by omega)
  rw [show ((0 : Nat) : Int) = 0 from rfl, List.drop_zero] at k
  rw [k]
  cases hr : rise (l.length : Int) (-1) s with
  | false => exact ⟨0, 7, [], rfl, by simp⟩
  | true =>
    have hc : slices_Clone_uint32_uint32 l = some l := by
      unfold slices_Clone_uint32_uint32
      rw [if_pos (by simp only [List.length_nil]; omega)]
      rfl
    obtain ⟨r, k1, k2⟩ := pack2 h1 (N := l.length) (fun x hx => by have := rise_all hr (by omega) x hx; omega) s.length 0 0 l (by omega) rfl
    have k1 : loopO chain_Pack.b2 (0, (s.length : Int), 0, s, l) = some r := k1
    simp only [if_true, Option.bind_some, hc, k1]
    rcases k2 with rfl | ⟨⟨a, b⟩, rfl⟩
    · exact ⟨0, 8, [], rfl, by decide⟩
    · exact ⟨a, 0, b, rfl, by decide⟩
theorem rise_ref {N : Int} {l : List Int} (h1 : l.length ≤ 4000000000000000000) : ∀ (n : Nat) (p : Int) (i : Nat), i + n = l.length → -1 ≤ p → (i = 0 → p = -1) → (0 < i → p = l.getD (i - 1) 0) →
    loopO rivetref08_Rise.b1 (N, (i : Int), l) = some (if rise N p (l.drop i) = true then .done () else .ret false)
  | 0, p, i, hi, _, _, _ => by
    refine loopO_done ?_
    simp only [rivetref08_Rise.b1]
    rw [if_neg (by omega), List.drop_of_length_le (by omega)]
    rfl
  | n + 1, p, i, hi, hp, hp0, hp1 => by
    have hlt : i < l.length := by omega
    have hb : (0 : Int) ≤ (i : Int) ∧ (i : Int) < (l.length : Int) := by omega
    rw [drop_at hlt]
    by_cases c1 : l.getD i 0 < 0
    · refine loopO_done ?_
      simp only [rivetref08_Rise.b1]
      rw [if_pos hb.2, if_pos hb, ixn, if_pos c1, rise_no (by omega)]
      rfl
    · by_cases c2 : l.getD i 0 ≥ N
      · refine loopO_done ?_
        simp only [rivetref08_Rise.b1]
        rw [if_pos hb.2, if_pos hb, ixn, if_neg c1, if_pos hb, if_pos c2, rise_no (by omega)]
        rfl
      · by_cases c3 : l.getD i 0 > 65534
        · refine loopO_done ?_
          simp only [rivetref08_Rise.b1]
          rw [if_pos hb.2, if_pos hb, ixn, if_neg c1, if_pos hb, if_neg c2, if_pos hb, if_pos c3, rise_no (by omega)]
          rfl
        · by_cases c4 : (i : Int) > 0
          · have hq : ix 0 l (w64 ((i : Int) - 1)) = p := by
              rw [w64s (by omega) (by omega), hp1 (by omega), show ((i : Int) - 1) = ((i - 1 : Nat) : Int) by omega, ixn]
            have hb4 : (0 : Int) ≤ w64 ((i : Int) - 1) ∧ w64 ((i : Int) - 1) < (l.length : Int) := by rw [w64s (by omega) (by omega)]; omega
            by_cases c5 : l.getD i 0 ≤ p
            · refine loopO_done ?_
              simp only [rivetref08_Rise.b1]
              rw [if_pos hb.2, if_pos hb, ixn, if_neg c1, if_pos hb, if_neg c2, if_pos hb, if_neg c3, if_pos c4, if_pos hb, if_pos hb4, hq, if_pos c5, rise_no (by omega)]
              rfl
            · rw [rise_yes (by omega), ← rise_ref h1 n (l.getD i 0) (i + 1) (by omega) (by omega) (by omega) (fun _ => by rw [Nat.add_sub_cancel])]
              refine loopO_next ?_
              simp only [rivetref08_Rise.b1]
              rw [if_pos hb.2, if_pos hb, ixn, if_neg c1, if_pos hb, if_neg c2, if_pos hb, if_neg c3, if_pos c4, if_pos hb, if_pos hb4, hq, if_neg c5, w64s (by omega) (by omega)]
              rfl
          · have := hp0 (by omega)
            rw [rise_yes (by omega), ← rise_ref h1 n (l.getD i 0) (i + 1) (by omega) (by omega) (by omega) (fun _ => by rw [Nat.add_sub_cancel])]
            refine loopO_next ?_
            simp only [rivetref08_Rise.b1]
            rw [if_pos hb.2, if_pos hb, ixn, if_neg c1, if_pos hb, if_neg c2, if_pos hb, if_neg c3, if_neg c4, w64s (by omega) (by omega)]
            rfl
theorem rise_is (N : Int) {l : List Int} (h1 : l.length ≤ 4000000000000000000) : rivetref08_Rise l N = some (rise N (-1) l) := by
  have k := rise_ref (N := N) h1 l.length (-1) 0 (by omega) (by omega) (fun _ => rfl) (by omega)
  rw [show ((0 : Nat) : Int) = 0 from rfl, List.drop_zero] at k
  unfold rivetref08_Rise
  rw [k]
  cases hr : rise N (-1) l <;> rfl
/-! ### sites that are made -/
structure Ris (h : Int) (n : Nat) (s : List Int) : Prop where
  up : s.Pairwise (· < ·)
  lo : ∀ x ∈ s, h ≤ x
  hi : ∀ x ∈ s, x < (n : Int)
theorem Ris.tail {h : Int} {n : Nat} {x : Int} {r : List Int} (g : Ris h n (x :: r)) : Ris (x + 1) n r := by
  have := List.pairwise_cons.1 g.up
  exact ⟨this.2, fun y hy => by have := this.1 y hy; omega, fun y hy => g.hi y (List.mem_cons_of_mem _ hy)⟩
theorem Ris.add {i : Nat} {s : List Int} (h : Ris 0 i s) : Ris 0 (i + 1) (s ++ [(i : Int)]) := by
  refine ⟨List.pairwise_append.2 ⟨h.up, List.pairwise_singleton _ _, fun a ha b hb => ?_⟩, fun y hy => ?_, fun y hy => ?_⟩
  · rw [List.mem_singleton.1 hb]; exact h.hi a ha
  · rcases List.mem_append.1 hy with h1 | h1
    · exact h.lo y h1
    · rw [List.mem_singleton.1 h1]; omega
  · rcases List.mem_append.1 hy with h1 | h1
    · have := h.hi y h1; omega
    · rw [List.mem_singleton.1 h1]; omega
theorem Ris.weak {i j : Nat} {s : List Int} (h : Ris 0 i s) (hij : i ≤ j) : Ris 0 j s := ⟨h.up, h.lo, fun x hx => by have := h.hi x hx; omega⟩
theorem fit8_loop {bits : List Int} {N : Nat} (hN : N ≤ 1000) : ∀ (n i : Nat) (s : List Int), i + n = N → Ris 0 i s → s.length ≤ i → ∃ r, loopO rivetref08_Fit.b1 ((N : Int), (i : Int), bits, s) = some r ∧ Ris 0 N r
  | 0, i, s, hi, hr, hl => by
    refine ⟨s, loopO_done ?_, hr.weak (by omega)⟩
    simp only [rivetref08_Fit.b1]
    rw [if_neg (by omega)]
  | n + 1, i, s, hi, hr, hl => by
    by_cases hb : (i : Int) < (bits.length : Int)
    · by_cases c : band .u8 (ix 0 bits (i : Int)) 1 = 1
      · obtain ⟨r, k1, k2⟩ := fit8_loop hN n (i + 1) (s ++ [(i : Int)]) (by omega) hr.add (by simp; omega)
        refine ⟨r, ?_, k2⟩
        rw [← k1]
        refine loopO_next ?_
        simp only [rivetref08_Fit.b1]
        rw [if_pos (by omega), if_pos hb, if_pos ⟨by omega, hb⟩, if_pos c, if_pos (by simp only [List.length_cons, List.length_nil]; omega), w64s (by omega) (by omega)]
        rfl
      · obtain ⟨r, k1, k2⟩ := fit8_loop hN n (i + 1) s (by omega) (hr.weak (by omega)) (by omega)
        refine ⟨r, ?_, k2⟩
        rw [← k1]
        refine loopO_next ?_
        simp only [rivetref08_Fit.b1]
        rw [if_pos (by omega), if_pos hb, if_pos ⟨by omega, hb⟩, if_neg c, w64s (by omega) (by omega)]
        rfl
    · refine ⟨s, loopO_done ?_, hr.weak (by omega)⟩
      simp only [rivetref08_Fit.b1]
      rw [if_pos (by omega), if_neg hb]
theorem fit8_is (bits : List Int) {N : Nat} (hN : N ≤ 1000) : ∃ s, rivetref08_Fit bits (N : Int) = some s ∧ Ris 0 N s := by
  obtain ⟨r, k1, k2⟩ := fit8_loop (bits := bits) hN N 0 [] (by omega) ⟨List.Pairwise.nil, by simp, by simp⟩ (by simp)
  refine ⟨r, ?_, k2⟩
  unfold rivetref08_Fit
  have k1 : loopO rivetref08_Fit.b1 ((N : Int), 0, bits, ([] : List Int)) = some r := k1
  rw [k1]
  rfl
end Go.Proofs.YtheccnbamcdpmaaGreatDoor.ZD
namespace Go.Proofs.YtheccnbamcdpmaaGreatDoor.ZD
set_option linter.unusedVariables false
set_option linter.unusedSimpArgs false
open Go Go.RowKit Go.Proofs.YtheccnbamcdpmaaGreatDoor.E
abbrev By (l : List Int) : Prop := ∀ x ∈ l, 0 ≤ x ∧ x ≤ 255
abbrev Wd (l : List Int) : Prop := ∀ x ∈ l, 0 ≤ x ∧ x ≤ 4294967295
theorem wu8_eq (x : Int) : wu8 x = x % 256 := IntKind.wrap_u8 x
theorem getD_in {l : List Int} {p : Int → Prop} (h : ∀ x ∈ l, p x) {i : Nat} (hi : i < l.length) : p (l.getD i 0) := by
  rw [List.getD_eq_getElem?_getD, List.getElem?_eq_getElem hi]
  exact h _ (List.getElem_mem hi)
theorem take_one {l : List Int} {i : Nat} (hi : i < l.length) : l.take (i + 1) = l.take i ++ [l.getD i 0] := by
  rw [List.take_add_one, List.getElem?_eq_getElem hi, List.getD_eq_getElem?_getD, List.getElem?_eq_getElem hi]
  rfl
theorem toL_eq (s t : ByteArray) : (s.toList == t.toList) = decide (s = t) := by
  rw [ByteArray.toList_eq, ByteArray.toList_eq, Bool.eq_iff_iff, beq_iff_eq, decide_eq_true_eq]
  constructor
  · intro h; exact ByteArray.ext (Array.toList_inj.1 h)
  · intro h; rw [h]
theorem bytesL_by (s : ByteArray) : By (bytesL s) := by
  intro x hx
  obtain ⟨b, _, rfl⟩ := List.mem_map.1 hx
  have := b.toNat_lt
  omega
theorem bytesL_nums {l : List Int} (h : By l) : bytesL (strOfNums l) = l := by
  unfold bytesL
  rw [strOfNums_data, List.map_map]
  conv => rhs; rw [← List.map_id l]
  apply List.map_congr_left
  intro x hx
  have := h x hx
  show ((UInt8.ofNat x.toNat).toNat : Int) = x
  rw [UInt8.toNat_ofNat']
  omega
theorem nums_bytesL (s : ByteArray) : strOfNums (bytesL s) = s := by
  apply ByteArray.ext
  apply Array.toList_inj.1
  rw [strOfNums_data]
  unfold bytesL
  rw [List.map_map]
  conv => rhs; rw [← List.map_id s.data.toList]
  apply List.map_congr_left
  intro x _
  simp
theorem nums_eq {a b : List Int} (ha : By a) (hb : By b) : strOfNums a = strOfNums b ↔ a = b := by
  constructor
  · intro h
    have := congrArg bytesL h
    rwa [bytesL_nums ha, bytesL_nums hb] at this
  · intro h; rw [h]
theorem bytesL_inj {s t : ByteArray} : bytesL s = bytesL t ↔ s = t := by
  constructor
  · intro h
    rw [← nums_bytesL s, ← nums_bytesL t, h]
  · intro h; rw [h]
theorem sx_at (s : ByteArray) (i : Nat) : sx s (i : Int) = (bytesL s).getD i 0 := by
  unfold sx bytesL
  rw [Int.toNat_natCast, List.getD_eq_getElem?_getD, List.getElem?_map]
  by_cases h : i < s.size
  · rw [dif_pos h, List.getElem?_eq_getElem (by rw [Array.length_toList]; exact h)]
    simp [ByteArray.getElem_eq_getElem_data]
  · rw [dif_neg h, List.getElem?_eq_none (by rw [Array.length_toList]; exact Nat.le_of_not_lt h)]
    rfl
theorem bytesL_cut (s : ByteArray) (a b : Nat) : bytesL (s.extract a b) = ((bytesL s).drop a).take (b - a) := by
  unfold bytesL
  have : (s.extract a b).data.toList = (s.data.toList.drop a).take (b - a) := by
    rw [ByteArray.data_extract, Array.toList_extract, List.extract_eq_take_drop]
  rw [this, List.map_take, List.map_drop]
/-! ### what a byte is -/
def letter (c : Int) : Bool := decide ((65 ≤ c ∧ c ≤ 90) ∨ (97 ≤ c ∧ c ≤ 122))
def digit (c : Int) : Bool := decide (48 ≤ c ∧ c ≤ 57)
def okc (c : Int) : Bool := decide (((65 ≤ c ∧ c ≤ 90) ∨ (97 ≤ c ∧ c ≤ 122)) ∨ (48 ≤ c ∧ c ≤ 57) ∨ c = 95)
theorem refletter_is (c : Int) : rivetref07_letter c = some (letter c) := by
  unfold rivetref07_letter letter
  by_cases h1 : c ≥ 65 <;> by_cases h2 : c ≤ 90 <;> by_cases h3 : c ≥ 97 <;> simp [h1, h2, h3] <;> omega
theorem refdigit_is (c : Int) : rivetref07_digit c = some (digit c) := by
  unfold rivetref07_digit digit
  by_cases h1 : c ≥ 48 <;> simp [h1] <;> omega
theorem is_is (c : Int) (b : Bool) : le_is c b = some (if b = true then letter c else okc c) := by
  unfold le_is letter okc
  by_cases h1 : c ≥ 65 <;> by_cases h2 : c ≤ 90 <;> by_cases h3 : c ≥ 97 <;> by_cases h4 : c ≤ 122 <;> by_cases h5 : c = 95 <;> by_cases h6 : c ≥ 48 <;> by_cases h7 : c ≤ 57 <;> cases b <;> simp [h1, h2, h3, h4, h5, h6, h7] <;> omega
/-! ### strings.Trim of digits -/
abbrev cut : ByteArray := ⟨#[48, 49, 50, 51, 52, 53, 54, 55, 56, 57]⟩
def setV : Vector Bool 256 := vset (vset (vset (vset (vset (vset (vset (vset (vset (vset (Vector.replicate 256 false) 48 true) 49 true) 50 true) 51 true) 52 true) 53 true) 54 true) 55 true) 56 true) 57 true
theorem ascii_is : strings_makeASCIISet cut = some (setV, true) := by
  unfold strings_makeASCIISet
  have step : ∀ (v : Vector Bool 256) (i : Nat), i < 10 → strings_makeASCIISet.b1 (cut, (i : Int), v) = some (.inl (cut, ((i + 1 : Nat) : Int), vset v (48 + i) true)) := by
    intro v i hi
    have hsz : (cut.size : Int) = 10 := rfl
    have hx : sx cut (i : Int) = ((48 + i : Nat) : Int) := by
      have : i = 0 ∨ i = 1 ∨ i = 2 ∨ i = 3 ∨ i = 4 ∨ i = 5 ∨ i = 6 ∨ i = 7 ∨ i = 8 ∨ i = 9 := by omega
      rcases this with rfl | rfl | rfl | rfl | rfl | rfl | rfl | rfl | rfl | rfl <;> rfl
    unfold strings_makeASCIISet.b1
    simp only
    rw [hsz, hx, if_pos (by omega), if_pos (by omega), if_neg (by omega), if_pos (by omega), w64s (by omega) (by omega), Int.toNat_natCast]
    rfl
  have e0 : (cut, (0 : Int), ((Vector.replicate 256 false) : Vector Bool 256)) = (cut, ((0 : Nat) : Int), (Vector.replicate 256 false)) := rfl
  rw [e0, loopO_next (step _ 0 (by omega)), loopO_next (step _ 1 (by omega)), loopO_next (step _ 2 (by omega)), loopO_next (step _ 3 (by omega)), loopO_next (step _ 4 (by omega)), loopO_next (step _ 5 (by omega)), loopO_next (step _ 6 (by omega)), loopO_next (step _ 7 (by omega)), loopO_next (step _ 8 (by omega)), loopO_next (step _ 9 (by omega)), loopO_done (r := .done setV) (by unfold strings_makeASCIISet.b1; simp only; rw [if_neg (by decide)]; rfl)]
  rfl
theorem setV_at {c : Int} (h0 : 0 ≤ c) (h1 : c ≤ 255) : vx false setV c.toNat = digit c := by
  unfold setV digit
  simp only [vx_vset (show (48 : Nat) < 256 by omega), vx_vset (show (49 : Nat) < 256 by omega), vx_vset (show (50 : Nat) < 256 by omega), vx_vset (show (51 : Nat) < 256 by omega), vx_vset (show (52 : Nat) < 256 by omega), vx_vset (show (53 : Nat) < 256 by omega), vx_vset (show (54 : Nat) < 256 by omega), vx_vset (show (55 : Nat) < 256 by omega), vx_vset (show (56 : Nat) < 256 by omega), vx_vset (show (57 : Nat) < 256 by omega)]
  have hz : vx false (Vector.replicate 256 false) c.toNat = false := by
    unfold vx
    rw [Vector.toList_replicate, List.getD_eq_getElem?_getD, List.getElem?_replicate]
    split <;> rfl
  rw [hz, Bool.eq_iff_iff, decide_eq_true_eq]
  repeat' split
  all_goals simp
  all_goals omega
theorem snoc_at {l : List Int} {n : Nat} (h : l.length = n + 1) : l = l.take n ++ [l.getD n 0] := by
  have := take_one (l := l) (i := n) (by omega)
  rw [List.take_of_length_le (by omega)] at this
  exact this
theorem right_is : ∀ (n : Nat) (y : ByteArray), y.size = n → n ≤ 1000 → ∃ y', loopO strings_trimRightASCII.b1 (y, setV) = some (y', setV) ∧ y'.size ≤ n ∧ ((y'.size = 0 ∧ (bytesL y).all digit = true) ∨ (0 < y'.size ∧ digit ((bytesL y').getD (y'.size - 1) 0) = false ∧ (bytesL y).all digit = false))
  | 0, y, hs, hn => by
    refine ⟨y, loopO_done (by unfold strings_trimRightASCII.b1; simp only; rw [if_neg (by omega)]), by omega, .inl ⟨hs, ?_⟩⟩
    have : bytesL y = [] := List.eq_nil_of_length_eq_zero (by rw [bytesL_length]; exact hs)
    rw [this]; rfl
  | n + 1, y, hs, hn => by
    have hb : (bytesL y).length = n + 1 := by rw [bytesL_length]; exact hs
    have hc := getD_in (bytesL_by y) (show n < (bytesL y).length by omega)
    have e1 : w64 ((y.size : Int) - 1) = (n : Int) := by rw [w64s (by omega) (by omega)]; omega
    have hall : (bytesL y).all digit = (((bytesL y).take n).all digit && digit ((bytesL y).getD n 0)) := by
      conv => lhs; rw [snoc_at hb]
      simp
    have hcut : bytesL (y.extract 0 n) = (bytesL y).take n := by rw [bytesL_cut]; simp
    by_cases hd : digit ((bytesL y).getD n 0) = true
    · obtain ⟨y', h1, hz, h2⟩ := right_is n (y.extract 0 n) (by rw [← bytesL_length, hcut, List.length_take]; omega) (by omega)
      refine ⟨y', ?_, by omega, ?_⟩
      · rw [loopO_next (s' := (y.extract 0 n, setV))]
        · exact h1
        · unfold strings_trimRightASCII.b1 strings_asciiSet_contains
          simp only
          rw [e1, sx_at, if_pos (by omega), if_pos (by omega), if_pos (by omega), setV_at hc.1 hc.2, hd, Option.bind_some, if_pos rfl, if_pos (by omega)]
          rfl
      · rw [hall, hd, Bool.and_true, ← hcut]; exact h2
    · have hd : digit ((bytesL y).getD n 0) = false := by simpa using hd
      refine ⟨y, loopO_done ?_, by omega, .inr ⟨by omega, ?_, ?_⟩⟩
      · unfold strings_trimRightASCII.b1 strings_asciiSet_contains
        simp only
        rw [e1, sx_at, if_pos (by omega), if_pos (by omega), if_pos (by omega), setV_at hc.1 hc.2, hd, Option.bind_some, if_neg (by simp)]
      · rw [hs]; exact hd
      · rw [hall, hd, Bool.and_false]
theorem left_is : ∀ (n : Nat) (y : ByteArray), y.size = n + 1 → n ≤ 1000 → digit ((bytesL y).getD n 0) = false → ∃ y', loopO strings_trimLeftASCII.b1 (y, setV) = some (y', setV) ∧ 0 < y'.size
  | n, y, hs, hn, hl => by
    have hb : (bytesL y).length = n + 1 := by rw [bytesL_length]; exact hs
    have hc := getD_in (bytesL_by y) (show 0 < (bytesL y).length by omega)
    have hx : sx y 0 = (bytesL y).getD 0 0 := sx_at y 0
    by_cases hd : digit ((bytesL y).getD 0 0) = true
    · cases n with
      | zero => rw [hd] at hl; cases hl
      | succ m =>
        have hcut : bytesL (y.extract 1 y.size) = (bytesL y).drop 1 := by rw [bytesL_cut, List.take_of_length_le (by rw [List.length_drop]; omega)]
        obtain ⟨y', h1, h2⟩ := left_is m (y.extract 1 y.size) (by rw [← bytesL_length, hcut, List.length_drop]; omega) (by omega) (by
          rw [hcut, List.getD_eq_getElem?_getD, List.getElem?_drop]
          rw [List.getD_eq_getElem?_getD] at hl
          rw [Nat.add_comm 1 m]
          exact hl)
        refine ⟨y', ?_, h2⟩
        rw [loopO_next (s' := (y.extract 1 y.size, setV))]
        · exact h1
        · unfold strings_trimLeftASCII.b1 strings_asciiSet_contains
          simp only
          rw [hx, if_pos (by omega), if_pos (by omega), if_pos (by omega), setV_at hc.1 hc.2, hd, Option.bind_some, if_pos rfl, if_pos (by omega)]
          rfl
    · have hd : digit ((bytesL y).getD 0 0) = false := by simpa using hd
      refine ⟨y, loopO_done ?_, by omega⟩
      unfold strings_trimLeftASCII.b1 strings_asciiSet_contains
      simp only
      rw [hx, if_pos (by omega), if_pos (by omega), if_pos (by omega), setV_at hc.1 hc.2, hd, Option.bind_some, if_neg (by simp)]
theorem hemp (t : ByteArray) : (t.toList == (⟨#[]⟩ : ByteArray).toList) = decide (t.size = 0) := by
  rw [toL_eq, decide_eq_decide]
  constructor
  · intro h; rw [h]; rfl
  · intro h
    apply ByteArray.ext
    exact Array.eq_empty_of_size_eq_zero h
theorem trim_is {y : ByteArray} (h0 : 0 < y.size) (h1 : y.size ≤ 1000) : ∃ t, strings_Trim y cut = some t ∧ (t.toList == (⟨#[]⟩ : ByteArray).toList) = (bytesL y).all digit := by
  unfold strings_Trim
  rw [hemp, if_neg (by rw [decide_eq_true_eq]; omega), hemp, if_neg (by decide), if_neg (by decide)]
  unfold strings_Trim.j1
  rw [if_neg (by simp), ascii_is]
  simp only [Option.bind_some, if_true]
  obtain ⟨y', r1, rz, r2⟩ := right_is y.size y rfl h1
  unfold strings_trimRightASCII
  rw [r1]
  simp only [Option.bind_some]
  unfold strings_trimLeftASCII
  rcases r2 with ⟨z0, za⟩ | ⟨z0, zd, za⟩
  · rw [loopO_done (r := (y', setV)) (by unfold strings_trimLeftASCII.b1; simp only; rw [if_neg (by omega)])]
    refine ⟨y', rfl, ?_⟩
    rw [hemp, za, decide_eq_true z0]
  · obtain ⟨y2, l1, l2⟩ := left_is (y'.size - 1) y' (by omega) (by omega) zd
    rw [l1]
    refine ⟨y2, rfl, ?_⟩
    rw [hemp, za, decide_eq_false (by omega)]
/-- A loop that asks of each place, the rest of its state as it was. -/
theorem all_loop {S R D : Type} {f : S → Option (S ⊕ Ex R D)} {n : Nat} {p : Nat → Bool} (h : Nat → S) (bad : Nat → R) (dn : D) (h1 : ∀ i, i < n → f (h i) = some (if p i = true then .inl (h (i + 1)) else .inr (.ret (bad i)))) (h2 : f (h n) = some (.inr (.done dn))) :
    ∃ i, loopO f (h 0) = some (if (List.range n).all p = true then .done dn else .ret (bad i)) ∧ ((List.range n).all p = true ∨ (i < n ∧ p i = false ∧ ∀ j, j < i → p j = true)) := by
  have key : ∀ (m i : Nat), i + m = n → (∀ j, j < i → p j = true) → ∃ k, loopO f (h i) = some (if (List.range' i m).all p = true then .done dn else .ret (bad k)) ∧ ((List.range' i m).all p = true ∨ (k < n ∧ p k = false ∧ ∀ j, j < k → p j = true)) := by
    intro m
    induction m with
    | zero =>
      intro i hi _
      have : i = n := by omega
      subst this
      exact ⟨0, loopO_done h2, .inl rfl⟩
    | succ m ih =>
      intro i hi hj
      rw [List.range'_succ, List.all_cons]
      cases hp : p i with
      | true =>
        obtain ⟨k, k1, k2⟩ := ih (i + 1) (by omega) (fun j hj' => by
          by_cases e : j = i
          · rw [e]; exact hp
          · exact hj j (by omega))
        refine ⟨k, ?_, by rw [Bool.true_and]; exact k2⟩
        rw [loopO_next (s' := h (i + 1)) (by rw [h1 i (by omega), hp, if_pos rfl]), Bool.true_and]
        exact k1
      | false => exact ⟨i, by rw [loopO_done (r := .ret (bad i)) (by rw [h1 i (by omega), hp, if_neg (by simp)]), Bool.false_and, if_neg (by simp)], .inr ⟨by omega, hp, hj⟩⟩
  have := key n 0 (by omega) (fun j hj => by omega)
  rw [List.range_eq_range']
  exact this
theorem all_loop' {S R D : Type} {f : S → Option (S ⊕ Ex R D)} {n : Nat} {p : Nat → Bool} (h : Nat → S) (bad : R) (dn : D) (h1 : ∀ i, i < n → f (h i) = some (if p i = true then .inl (h (i + 1)) else .inr (.ret bad))) (h2 : f (h n) = some (.inr (.done dn))) :
    loopO f (h 0) = some (if (List.range n).all p = true then .done dn else .ret bad) := by
  obtain ⟨i, h3, _⟩ := all_loop h (fun _ => bad) dn h1 h2
  exact h3
def regS (l : List Int) : Bool := decide (l.length = 2 ∨ l.length = 3) && decide (l.getD 0 0 = 82) && (l.drop 1).all digit
def nameS (l : List Int) : Bool := decide (1 ≤ l.length ∧ l.length ≤ 12) && letter (l.getD 0 0) && l.all okc && !regS l
theorem list_all {l : List Int} (q : Int → Bool) : l.all q = (List.range l.length).all fun i => q (l.getD i 0) := by
  rw [Bool.eq_iff_iff, List.all_eq_true, List.all_eq_true]
  constructor
  · intro h i hi
    exact getD_in (p := fun x => q x = true) h (List.mem_range.1 hi)
  · intro h x hx
    obtain ⟨i, hi, rfl⟩ := List.getElem_of_mem hx
    have := h i (List.mem_range.2 hi)
    rwa [List.getD_eq_getElem?_getD, List.getElem?_eq_getElem hi] at this
theorem letter_ok {c : Int} (h : letter c = true) : okc c = true := by
  unfold letter okc at *
  rw [decide_eq_true_eq] at *
  exact .inl h
theorem reg2 {l : List Int} (h : l.length = 2) : (l.drop 1).all digit = digit (l.getD 1 0) := by
  obtain ⟨a, b, rfl⟩ : ∃ a b, l = [a, b] := by
    match l, h with
    | [a, b], _ => exact ⟨a, b, rfl⟩
  simp
theorem reg3 {l : List Int} (h : l.length = 3) : (l.drop 1).all digit = (digit (l.getD 1 0) && digit (l.getD 2 0)) := by
  obtain ⟨a, b, c, rfl⟩ : ∃ a b c, l = [a, b, c] := by
    match l, h with
    | [a, b, c], _ => exact ⟨a, b, c, rfl⟩
  simp
theorem refregister_is (s : ByteArray) : rivetref07_Register s = some (regS (bytesL s)) := by
  have hL := bytesL_length s
  unfold rivetref07_Register regS
  have x0 : sx s 0 = (bytesL s).getD 0 0 := sx_at s 0
  have x1 : sx s 1 = (bytesL s).getD 1 0 := sx_at s 1
  have x2 : sx s 2 = (bytesL s).getD 2 0 := sx_at s 2
  by_cases h2 : (s.size : Int) < 2
  · rw [if_pos h2, decide_eq_false (by omega)]; rfl
  · rw [if_neg h2]
    by_cases h3 : (s.size : Int) > 3
    · rw [if_pos h3, decide_eq_false (by omega)]; rfl
    · rw [if_neg h3, if_pos (by omega), decide_eq_true (show (bytesL s).length = 2 ∨ (bytesL s).length = 3 by omega), x0]
      by_cases hr : (bytesL s).getD 0 0 = 82
      · rw [if_pos hr, decide_eq_true hr, if_pos (by omega), x1, x2, refdigit_is, refdigit_is]
        simp only [Option.bind_some]
        by_cases hz : (s.size : Int) = 2
        · rw [reg2 (by omega), if_pos hz]
          cases digit ((bytesL s).getD 1 0) <;> rfl
        · rw [reg3 (by omega), if_neg hz, if_pos (show (0 : Int) ≤ 2 ∧ (2 : Int) < (s.size : Int) by omega)]
          cases digit ((bytesL s).getD 1 0) <;> rfl
      · rw [if_neg hr, decide_eq_false hr]
        simp
theorem okc_eq (c : Int) : okc c = (letter c || digit c || decide (c = 95)) := by
  unfold okc letter digit
  rw [Bool.eq_iff_iff, Bool.or_eq_true, Bool.or_eq_true, decide_eq_true_eq, decide_eq_true_eq, decide_eq_true_eq, decide_eq_true_eq]
  omega
theorem refname_is {s : ByteArray} : rivetref07_Name s = some (nameS (bytesL s)) := by
  have hL := bytesL_length s
  unfold rivetref07_Name nameS
  have x0 : sx s 0 = (bytesL s).getD 0 0 := sx_at s 0
  by_cases h1 : (s.size : Int) < 1
  · rw [if_pos h1, decide_eq_false (by omega)]; rfl
  · rw [if_neg h1]
    by_cases h2 : (s.size : Int) > 12
    · rw [if_pos h2, decide_eq_false (by omega)]; rfl
    · rw [if_neg h2, if_pos (by omega), x0, refletter_is, decide_eq_true (show 1 ≤ (bytesL s).length ∧ (bytesL s).length ≤ 12 by omega)]
      simp only [Option.bind_some]
      cases hl : letter ((bytesL s).getD 0 0) with
      | false => rw [if_neg (by simp)]; simp
      | true =>
        rw [if_pos rfl, refregister_is]
        simp only [Option.bind_some]
        cases hr : regS (bytesL s) with
        | true => simp
        | false =>
          have k := all_loop' (f := rivetref07_Name.b1) (n := s.size) (p := fun i => okc ((bytesL s).getD i 0)) (fun i => (s, (i : Int))) false () (fun i hi => by
            unfold rivetref07_Name.b1
            simp only
            rw [if_pos (by omega), if_pos (by omega), if_pos (by omega), if_pos (by omega), sx_at, refletter_is, refdigit_is]
            simp only [Option.bind_some]
            rw [w64s (by omega) (by omega), okc_eq]
            generalize (bytesL s).getD i 0 = c
            by_cases h95 : c = 95
            · rw [if_pos h95, decide_eq_true h95]
              cases letter c <;> cases digit c <;> rfl
            · rw [if_neg h95, decide_eq_false h95]
              cases letter c <;> cases digit c <;> rfl) (by
            unfold rivetref07_Name.b1
            simp only
            rw [if_neg (by omega)])
          rw [if_neg (by simp), show loopO rivetref07_Name.b1 (s, 0) = _ from k, list_all okc, hL]
          cases (List.range s.size).all fun i => okc ((bytesL s).getD i 0) <;> rfl
theorem name_is {s : ByteArray} : le_Name s = some (nameS (bytesL s)) := by
  have hL := bytesL_length s
  unfold le_Name nameS
  have x0 : sx s 0 = (bytesL s).getD 0 0 := sx_at s 0
  by_cases h1 : (s.size : Int) = 0
  · rw [if_pos h1, decide_eq_false (by omega)]; rfl
  · rw [if_neg h1]
    by_cases h2 : (s.size : Int) > 12
    · rw [if_pos h2, decide_eq_false (show ¬ (1 ≤ (bytesL s).length ∧ (bytesL s).length ≤ 12) by omega)]; rfl
    · rw [if_neg h2, decide_eq_true (show 1 ≤ (bytesL s).length ∧ (bytesL s).length ≤ 12 by omega)]
      have k := all_loop' (f := le_Name.b1) (n := s.size) (p := fun i => if i = 0 then letter ((bytesL s).getD i 0) else okc ((bytesL s).getD i 0)) (fun i => (s, (s.size : Int), (i : Int))) false s (fun i hi => by
        unfold le_Name.b1
        simp only
        rw [if_pos (by omega), if_pos (by omega), sx_at, is_is]
        simp only [Option.bind_some]
        rw [w64s (by omega) (by omega)]
        by_cases hz : i = 0
        · subst hz
          simp only [if_true]
          cases letter ((bytesL s).getD 0 0) <;> rfl
        · have hd : decide ((i : Int) = 0) = false := decide_eq_false (by omega)
          simp only [hd, if_neg hz, Bool.false_eq_true, if_false]
          cases okc ((bytesL s).getD i 0) <;> rfl) (by
        unfold le_Name.b1
        simp only
        rw [if_neg (by omega)])
      have hall : ((List.range s.size).all fun i => if i = 0 then letter ((bytesL s).getD i 0) else okc ((bytesL s).getD i 0)) = (letter ((bytesL s).getD 0 0) && (bytesL s).all okc) := by
        rw [list_all okc, hL, Bool.eq_iff_iff, Bool.and_eq_true, List.all_eq_true, List.all_eq_true]
        constructor
        · intro h
          have g0 := h 0 (List.mem_range.2 (by omega))
          rw [if_pos rfl] at g0
          refine ⟨g0, fun i hi => ?_⟩
          have := h i hi
          by_cases hz : i = 0
          · subst hz; exact letter_ok g0
          · rwa [if_neg hz] at this
        · rintro ⟨g0, g⟩ i hi
          by_cases hz : i = 0
          · subst hz; rw [if_pos rfl]; exact g0
          · rw [if_neg hz]; exact g i hi
      rw [show loopO le_Name.b1 (s, (s.size : Int), 0) = _ from k, hall]
      cases ha : letter ((bytesL s).getD 0 0) && (bytesL s).all okc with
      | false => rw [if_neg (by simp), Bool.true_and, ha, Bool.false_and]; rfl
      | true =>
        rw [if_pos rfl, Bool.true_and, ha, Bool.true_and]
        simp only [Option.bind_some]
        rw [if_pos (by omega), x0]
        have hcut : bytesL (s.extract 1 s.size) = (bytesL s).drop 1 := by rw [bytesL_cut, List.take_of_length_le (by rw [List.length_drop]; omega)]
        have hcz : (s.extract 1 s.size).size = s.size - 1 := by rw [← bytesL_length, hcut, List.length_drop, hL]
        have e1 : (Int.toNat 1) = 1 := rfl
        have e2 : (Int.toNat (s.size : Int)) = s.size := Int.toNat_natCast _
        unfold regS
        by_cases hr : (bytesL s).getD 0 0 = 82
        · rw [if_pos hr, decide_eq_true hr]
          by_cases h23 : (s.size : Int) = 2 ∨ (s.size : Int) = 3
          · obtain ⟨t, t1, t2⟩ := trim_is (y := s.extract 1 s.size) (by omega) (by omega)
            rw [decide_eq_true (show (bytesL s).length = 2 ∨ (bytesL s).length = 3 by omega)]
            rw [hcut] at t2
            rcases h23 with h3 | h3
            · rw [if_pos h3, if_pos (by omega), e1, e2, t1]
              simp only [Option.bind_some, t2]
              simp
            · rw [if_neg (by omega), if_pos h3, if_pos (by omega), e1, e2, t1]
              simp only [Option.bind_some, t2]
              simp
          · rw [if_neg (by omega), if_neg (by omega), decide_eq_false (show ¬ ((bytesL s).length = 2 ∨ (bytesL s).length = 3) by omega)]
            rfl
        · rw [if_neg hr, decide_eq_false hr]
          simp
end Go.Proofs.YtheccnbamcdpmaaGreatDoor.ZD
namespace Go.Proofs.YtheccnbamcdpmaaGreatDoor.ZD
set_option linter.unusedVariables false
set_option linter.unusedSimpArgs false
open Go Go.RowKit Go.Proofs.YtheccnbamcdpmaaGreatDoor.E
abbrev sy (l : List Sapi_Sym) (i : Nat) : Sapi_Sym := l.getD i dSapi_Sym
theorem ixs (l : List Sapi_Sym) (i : Nat) : ix dSapi_Sym l (i : Int) = sy l i := rfl
def le2 (s t : ByteArray) : Bool := Op.bytesLess s.toList t.toList || s.toList == t.toList
def siteOk (o : Sapi_Obj) (i : Nat) : Bool := decide (o.Words.getD (o.Sites.getD i 0).toNat 0 ≤ 4 * (o.Words.length : Int))
def nmOk (l : List Sapi_Sym) (i : Nat) : Bool := nameS (bytesL (sy l i).Name) && !(decide (0 < i) && le2 (sy l i).Name (sy l (i - 1)).Name)
def atOk (n : Nat) (x : Int) : Bool := decide (0 ≤ x ∧ x ≤ 4 * (n : Int) ∧ x % 4 = 0)
def mayS (o : Sapi_Obj) : Int :=
  if 1024 < o.Words.length ∨ 64 < o.Syms.length then 2 else
  if rise (o.Words.length : Int) (-1) o.Sites = false then 7 else
  if (List.range o.Sites.length).all (siteOk o) = false then 8 else
  if (List.range o.Syms.length).all (nmOk o.Syms) = false then 9 else
  if (List.range o.Syms.length).all (fun i => atOk o.Words.length (sy o.Syms i).At) = false then 8 else 0
/-- What is known of an object that comes in. -/
structure Ob (o : Sapi_Obj) : Prop where
  w : Wd o.Words
  wl : o.Words.length ≤ 1000000000000
  sl : o.Sites.length ≤ 1000000000000
  yl : o.Syms.length ≤ 1000000000000
section
variable {o : Sapi_Obj}
theorem rise_at {N : Int} {l : List Int} (h : rise N (-1) l = true) {i : Nat} (hi : i < l.length) : 0 ≤ l.getD i 0 ∧ l.getD i 0 < N := by
  have h1 := rise_all h (by omega) (l.getD i 0) (getD_mem hi)
  exact ⟨h1.2.1, h1.2.2.1⟩
theorem site_word (h : Ob o) (hr : rise (o.Words.length : Int) (-1) o.Sites = true) {i : Nat} (hi : i < o.Sites.length) : 0 ≤ o.Words.getD (o.Sites.getD i 0).toNat 0 ∧ o.Words.getD (o.Sites.getD i 0).toNat 0 ≤ 4294967295 := by
  have h1 := rise_at hr hi
  exact getD_in h.w (i := (o.Sites.getD i 0).toNat) (by omega)
theorem ob_sites (h : Ob o) (hn : o.Words.length ≤ 1024) (hr : rise (o.Words.length : Int) (-1) o.Sites = true) : slices_ContainsFunc_int_int o.Sites (4 * (o.Words.length : Int)) o.Words o.Syms = some (!(List.range o.Sites.length).all (siteOk o)) := by
  have hsl := h.sl
  obtain ⟨k, k1, k2⟩ := all_loop (f := slices_IndexFunc_int_int.b1) (n := o.Sites.length) (p := siteOk o) (fun i => ((o.Sites.length : Int), (i : Int), o.Sites, 4 * (o.Words.length : Int), o.Words, o.Syms)) (fun i => (i : Int)) () (fun i hi => by
    have h1 := rise_at hr hi
    have h2 := site_word h hr hi
    unfold slices_IndexFunc_int_int.b1 object_May_1
    simp only
    rw [if_pos (by omega), if_pos (by omega), ixn, if_pos h1]
    simp only [Option.bind_some]
    have e2 : ix 0 o.Words (o.Sites.getD i 0) = o.Words.getD (o.Sites.getD i 0).toNat 0 := rfl
    rw [e2, w64s (x := o.Words.getD _ _) (by omega) (by omega), w64s (x := (i : Int) + 1) (by omega) (by omega)]
    unfold siteOk
    by_cases hc : o.Words.getD (o.Sites.getD i 0).toNat 0 > 4 * (o.Words.length : Int)
    · rw [decide_eq_true hc, if_pos rfl, decide_eq_false (by omega), if_neg (by simp)]
    · rw [decide_eq_false hc, if_neg (by simp), decide_eq_true (by omega), if_pos rfl]; rfl) (by
    unfold slices_IndexFunc_int_int.b1
    simp only
    rw [if_neg (by omega)])
  unfold slices_ContainsFunc_int_int slices_IndexFunc_int_int
  rw [show loopO slices_IndexFunc_int_int.b1 ((o.Sites.length : Int), 0, o.Sites, 4 * (o.Words.length : Int), o.Words, o.Syms) = _ from k1]
  cases ha : (List.range o.Sites.length).all (siteOk o) with
  | true => rfl
  | false =>
    simp only [Bool.false_eq_true, if_false, Option.bind_some]
    rw [decide_eq_true (by omega)]
    rfl
theorem sym_prev {i : Nat} (hi : (i : Int) > 0) (hb : (i : Int) < 1000000000001) : w64 ((i : Int) - 1) = ((i - 1 : Nat) : Int) := by rw [w64s (by omega) (by omega)]; omega
theorem ob_names (h : Ob o) : object_May_3 o.Words o.Sites o.Syms = some ((List.range o.Syms.length).all (nmOk o.Syms)) := by
  have hyl := h.yl
  have k := all_loop' (f := object_May_3.b1) (n := o.Syms.length) (p := nmOk o.Syms) (fun i => ((o.Syms.length : Int), (i : Int), o.Words, o.Sites, o.Syms)) false () (fun i hi => by
    unfold object_May_3.b1 nmOk
    simp only
    rw [if_pos (by omega), if_pos (by omega), ixs, name_is]
    simp only [Option.bind_some]
    rw [w64s (x := (i : Int) + 1) (by omega) (by omega)]
    cases nameS (bytesL (sy o.Syms i).Name) with
    | false => rfl
    | true =>
      rw [if_pos rfl]
      by_cases h0 : (i : Int) > 0
      · rw [if_pos h0, sym_prev h0 (by omega), if_pos (by omega), ixs, decide_eq_true (show 0 < i by omega)]
        show (if le2 _ _ = true then _ else _) = _
        cases le2 (sy o.Syms i).Name (sy o.Syms (i - 1)).Name <;> rfl
      · rw [if_neg h0, decide_eq_false (show ¬ 0 < i by omega)]; rfl) (by
    unfold object_May_3.b1
    simp only
    rw [if_neg (by omega)])
  unfold object_May_3
  rw [show loopO object_May_3.b1 ((o.Syms.length : Int), 0, o.Words, o.Sites, o.Syms) = _ from k]
  cases (List.range o.Syms.length).all (nmOk o.Syms) <;> rfl
theorem odd_is (s : Sapi_Sym) {n : Nat} : object_May_2 s (4 * (n : Int)) = some (!atOk n s.At) := by
  unfold object_May_2 atOk
  by_cases h1 : s.At < 0
  · rw [if_pos h1, decide_eq_false (by omega)]; rfl
  · by_cases h2 : s.At > 4 * (n : Int)
    · rw [if_neg h1, if_pos h2, decide_eq_false (by omega)]; rfl
    · rw [if_neg h1, if_neg h2, Int.tmod_eq_emod_of_nonneg (by omega)]
      by_cases h3 : s.At % 4 = 0
      · rw [decide_eq_true h3, decide_eq_true (by omega)]
      · rw [decide_eq_false h3, decide_eq_false (by omega)]
theorem ob_ats (h : Ob o) : slices_ContainsFunc_rivet_api_Sym_rivet_api_Sym o.Syms (4 * (o.Words.length : Int)) = some (!(List.range o.Syms.length).all (fun i => atOk o.Words.length (sy o.Syms i).At)) := by
  have hyl := h.yl
  obtain ⟨k, k1, k2⟩ := all_loop (f := slices_IndexFunc_rivet_api_Sym_rivet_api_Sym.b1) (n := o.Syms.length) (p := fun i => atOk o.Words.length (sy o.Syms i).At) (fun i => ((o.Syms.length : Int), (i : Int), o.Syms, 4 * (o.Words.length : Int))) (fun i => (i : Int)) () (fun i hi => by
    unfold slices_IndexFunc_rivet_api_Sym_rivet_api_Sym.b1
    simp only
    rw [if_pos (by omega), if_pos (by omega), ixs, odd_is, w64s (x := (i : Int) + 1) (by omega) (by omega)]
    simp only [Option.bind_some]
    cases atOk o.Words.length (sy o.Syms i).At <;> rfl) (by
    unfold slices_IndexFunc_rivet_api_Sym_rivet_api_Sym.b1
    simp only
    rw [if_neg (by omega)])
  unfold slices_ContainsFunc_rivet_api_Sym_rivet_api_Sym slices_IndexFunc_rivet_api_Sym_rivet_api_Sym
  rw [show loopO slices_IndexFunc_rivet_api_Sym_rivet_api_Sym.b1 ((o.Syms.length : Int), 0, o.Syms, 4 * (o.Words.length : Int)) = _ from k1]
  cases ha : (List.range o.Syms.length).all (fun i => atOk o.Words.length (sy o.Syms i).At) with
  | true => rfl
  | false =>
    simp only [Bool.false_eq_true, if_false, Option.bind_some]
    rw [decide_eq_true (by omega)]
    rfl
theorem obmay_is (h : Ob o) : object_May o = some (mayS o) := by
  have hw := h.wl
  have hs := h.sl
  have hy := h.yl
  unfold object_May mayS
  by_cases hb : 1024 < o.Words.length ∨ 64 < o.Syms.length
  · rw [if_pos hb]
    by_cases h1 : 1024 < o.Words.length
    · rw [if_pos (by omega)]
    · rw [if_neg (by omega), if_pos (by omega)]
  · rw [if_neg hb, if_neg (by omega), if_neg (by omega)]
    have hn : o.Words.length ≤ 1024 := by omega
    obtain ⟨x, e, w, p1, p2⟩ := pack_err (l := o.Words) (s := o.Sites) (by omega) (by omega)
    rw [p1, Option.bind_some]
    simp only
    cases hr : rise (o.Words.length : Int) (-1) o.Sites with
    | false =>
      have he := p2.2 hr
      rw [if_pos he, he]; rfl
    | true =>
      have he : ¬ e = 7 := fun c => by rw [p2.1 c] at hr; cases hr
      rw [if_neg he, if_neg (by simp), w64s (x := 4 * (o.Words.length : Int)) (by omega) (by omega), ob_sites h hn hr]
      simp only [Option.bind_some]
      cases (List.range o.Sites.length).all (siteOk o) with
      | false => rfl
      | true =>
        rw [if_neg (by simp), if_neg (by simp), ob_names h]
        simp only [Option.bind_some]
        cases (List.range o.Syms.length).all (nmOk o.Syms) with
        | false => rfl
        | true =>
          rw [if_pos rfl, if_neg (by simp), ob_ats h]
          simp only [Option.bind_some]
          cases (List.range o.Syms.length).all (fun i => atOk o.Words.length (sy o.Syms i).At) <;> rfl
theorem refobmay_is (h : Ob o) : rivetref09_May o = some (mayS o) := by
  have hw := h.wl
  have hs := h.sl
  have hy := h.yl
  unfold rivetref09_May mayS
  by_cases hb : 1024 < o.Words.length ∨ 64 < o.Syms.length
  · rw [if_pos hb]
    by_cases h1 : 1024 < o.Words.length
    · rw [if_pos (by omega)]
    · rw [if_neg (by omega), if_pos (by omega)]
  · rw [if_neg hb, if_neg (by omega), if_neg (by omega)]
    have hn : o.Words.length ≤ 1024 := by omega
    have e4 : w64 (4 * (o.Words.length : Int)) = 4 * (o.Words.length : Int) := w64s (by omega) (by omega)
    rw [rise_is _ (by omega), Option.bind_some]
    cases hr : rise (o.Words.length : Int) (-1) o.Sites with
    | false => rfl
    | true =>
      rw [if_pos rfl, if_neg (by simp)]
      have k1 := all_loop' (f := rivetref09_May.b1) (n := o.Sites.length) (p := siteOk o) (fun i => ((o.Words.length : Int), (i : Int), o.Words, o.Sites, o.Syms)) 8 ((o.Words.length : Int), o.Words, o.Sites, o.Syms) (fun i hi => by
        have h1 := rise_at hr hi
        have h2 := site_word h hr hi
        unfold rivetref09_May.b1
        simp only
        have e2 : ix 0 o.Words (o.Sites.getD i 0) = o.Words.getD (o.Sites.getD i 0).toNat 0 := rfl
        rw [if_pos (by omega), if_pos (by omega), ixn, if_pos h1, e2, w64s (x := o.Words.getD _ _) (by omega) (by omega), e4, w64s (x := (i : Int) + 1) (by omega) (by omega)]
        unfold siteOk
        by_cases hc : o.Words.getD (o.Sites.getD i 0).toNat 0 > 4 * (o.Words.length : Int)
        · rw [if_pos hc, decide_eq_false (by omega)]; rfl
        · rw [if_neg hc, decide_eq_true (by omega)]; rfl) (by
        unfold rivetref09_May.b1
        simp only
        rw [if_neg (by omega)])
      rw [show loopO rivetref09_May.b1 ((o.Words.length : Int), 0, o.Words, o.Sites, o.Syms) = _ from k1]
      cases (List.range o.Sites.length).all (siteOk o) with
      | false => rfl
      | true =>
        rw [if_pos rfl, if_neg (by simp)]
        simp only [Option.bind_some]
        have k2 := all_loop' (f := rivetref09_May.b2) (n := o.Syms.length) (p := nmOk o.Syms) (fun i => ((o.Words.length : Int), (i : Int), o.Words, o.Sites, o.Syms)) 9 ((o.Words.length : Int), o.Words, o.Sites, o.Syms) (fun i hi => by
          unfold rivetref09_May.b2 nmOk
          simp only
          rw [if_pos (by omega), if_pos (by omega), ixs, refname_is]
          simp only [Option.bind_some]
          rw [w64s (x := (i : Int) + 1) (by omega) (by omega)]
          cases nameS (bytesL (sy o.Syms i).Name) with
          | false => rfl
          | true =>
            rw [if_pos rfl]
            by_cases h0 : (i : Int) > 0
            · rw [if_pos h0, if_pos (by omega), sym_prev h0 (by omega), if_pos (by omega), ixs, decide_eq_true (show 0 < i by omega)]
              show (if le2 _ _ = true then _ else _) = _
              cases le2 (sy o.Syms i).Name (sy o.Syms (i - 1)).Name <;> rfl
            · rw [if_neg h0, decide_eq_false (show ¬ 0 < i by omega)]; rfl) (by
          unfold rivetref09_May.b2
          simp only
          rw [if_neg (by omega)])
        rw [show loopO rivetref09_May.b2 ((o.Words.length : Int), 0, o.Words, o.Sites, o.Syms) = _ from k2]
        cases (List.range o.Syms.length).all (nmOk o.Syms) with
        | false => rfl
        | true =>
          rw [if_pos rfl, if_neg (by simp)]
          simp only [Option.bind_some]
          have k3 := all_loop' (f := rivetref09_May.b3) (n := o.Syms.length) (p := fun i => atOk o.Words.length (sy o.Syms i).At) (fun i => ((o.Words.length : Int), (i : Int), o.Words, o.Sites, o.Syms)) 8 () (fun i hi => by
            unfold rivetref09_May.b3 atOk
            simp only
            rw [if_pos (by omega), if_pos (by omega), ixs, e4, w64s (x := (i : Int) + 1) (by omega) (by omega)]
            by_cases h1 : (sy o.Syms i).At < 0
            · rw [if_pos h1, decide_eq_false (by omega)]; rfl
            · by_cases h2 : (sy o.Syms i).At > 4 * (o.Words.length : Int)
              · rw [if_neg h1, if_pos h2, decide_eq_false (by omega)]; rfl
              · rw [if_neg h1, if_neg h2, Int.tmod_eq_emod_of_nonneg (by omega)]
                by_cases h3 : (sy o.Syms i).At % 4 = 0
                · rw [if_pos h3, decide_eq_true (by omega)]; rfl
                · rw [if_neg h3, decide_eq_false (by omega)]; rfl) (by
            unfold rivetref09_May.b3
            simp only
            rw [if_neg (by omega)])
          rw [show loopO rivetref09_May.b3 ((o.Words.length : Int), 0, o.Words, o.Sites, o.Syms) = _ from k3]
          cases (List.range o.Syms.length).all (fun i => atOk o.Words.length (sy o.Syms i).At) <;> rfl
end
end Go.Proofs.YtheccnbamcdpmaaGreatDoor.ZD
namespace Go.Proofs.YtheccnbamcdpmaaGreatDoor.ZD
set_option linter.unusedVariables false
set_option linter.unusedSimpArgs false
open Go Go.RowKit Go.Proofs.YtheccnbamcdpmaaGreatDoor.E
abbrev tab12 : ByteArray := ⟨#[97, 98, 99, 88, 89, 90, 95, 48, 49, 57, 82, 109]⟩
structure Made (v : ByteArray) (n : Nat) : Prop where
  lo : 1 ≤ v.size
  hi : v.size ≤ n
  ok : (bytesL v).all okc = true
  first : 97 ≤ (bytesL v).getD 0 0 ∧ (bytesL v).getD 0 0 ≤ 122
  low : ∀ x ∈ (bytesL v).drop 1, x ≤ 109
theorem bytesL_append (a b : ByteArray) : bytesL (a ++ b) = bytesL a ++ bytesL b := by
  unfold bytesL
  rw [ByteArray.data_append, Array.toList_append, List.map_append]
theorem tab_at {k : Nat} (h : k < 12) : (bytesL (tab12.extract k (k + 1))).all okc = true ∧ (bytesL (tab12.extract k (k + 1))).length = 1 ∧ (bytesL (tab12.extract k (k + 1))).all (fun x => decide (x ≤ 109)) = true := by
  rw [bytesL_cut, show k + 1 - k = 1 by omega]
  have : k = 0 ∨ k = 1 ∨ k = 2 ∨ k = 3 ∨ k = 4 ∨ k = 5 ∨ k = 6 ∨ k = 7 ∨ k = 8 ∨ k = 9 ∨ k = 10 ∨ k = 11 := by omega
  rcases this with rfl | rfl | rfl | rfl | rfl | rfl | rfl | rfl | rfl | rfl | rfl | rfl <;> decide +kernel
theorem fit_loop {a0 : ByteArray} (hz : a0.size ≤ 140737488351232) : ∀ (m i : Nat) (v : ByteArray), i + m = 6 → Made v (i + 1) → ∃ r, loopO rivetref07_Fit.b1 (a0, tab12, v, (i : Int)) = some r ∧ Made r 7 := by
  intro m
  induction m with
  | zero =>
    intro i v h hv
    refine ⟨v, loopO_done ?_, ⟨hv.lo, by have := hv.hi; omega, hv.ok, hv.first, hv.low⟩⟩
    unfold rivetref07_Fit.b1
    simp only
    by_cases hi : (i : Int) < (a0.size : Int)
    · rw [if_pos hi, if_neg (by omega)]
    · rw [if_neg hi]
  | succ m ih =>
    intro i v h hv
    by_cases hi : (i : Int) < (a0.size : Int)
    · have hx := getD_in (bytesL_by a0) (show i < (bytesL a0).length by rw [bytesL_length]; omega)
      obtain ⟨c, hc⟩ := Int.eq_ofNat_of_zero_le hx.1
      have ht := tab_at (show c % 12 < 12 by omega)
      have hsz : (tab12.extract (c % 12) (c % 12 + 1)).size = 1 := by rw [← bytesL_length]; exact ht.2.1
      have hts : (tab12.size : Int) = 12 := rfl
      obtain ⟨r, h1, h2⟩ := ih (i + 1) (v ++ tab12.extract (c % 12) (c % 12 + 1)) (by omega) (by
        have hl : (bytesL (v ++ tab12.extract (c % 12) (c % 12 + 1))).length = v.size + 1 := by rw [bytesL_append, List.length_append, bytesL_length, ht.2.1]
        refine ⟨by rw [← bytesL_length, hl]; omega, by rw [← bytesL_length, hl]; have := hv.hi; omega, ?_, ?_, ?_⟩
        · rw [bytesL_append, List.all_append, hv.ok, ht.1]; rfl
        · have hlo := hv.lo
          rw [bytesL_append, List.getD_eq_getElem?_getD, List.getElem?_append_left (by rw [bytesL_length]; omega), ← List.getD_eq_getElem?_getD]
          exact hv.first
        · have hlo := hv.lo
          intro x hx
          rw [bytesL_append, List.drop_append_of_le_length (by rw [bytesL_length]; omega)] at hx
          rcases List.mem_append.1 hx with hx | hx
          · exact hv.low x hx
          · simpa using List.all_eq_true.1 ht.2.2 x hx)
      refine ⟨r, ?_, h2⟩
      rw [loopO_next (s' := (a0, tab12, v ++ tab12.extract (c % 12) (c % 12 + 1), ((i + 1 : Nat) : Int)))]
      · exact h1
      · have hvi := hv.hi
        unfold rivetref07_Fit.b1
        simp only
        have e1 : (w64 (sx a0 (i : Int))).tmod 12 = ((c % 12 : Nat) : Int) := by
          rw [sx_at, hc, w64s (by omega) (by omega), Int.tmod_eq_emod_of_nonneg (by omega)]
          omega
        have e2 : w64 (((c % 12 : Nat) : Int) + 1) = ((c % 12 + 1 : Nat) : Int) := by rw [w64s (by omega) (by omega)]; omega
        rw [if_pos hi, if_pos (show (i : Int) < 6 by omega), if_pos (show (0 : Int) ≤ (i : Int) ∧ (i : Int) < (a0.size : Int) by omega), if_pos (show (0 : Int) ≤ (i : Int) ∧ (i : Int) < (a0.size : Int) by omega), e1, e2, hts, Int.toNat_natCast, Int.toNat_natCast, hsz, if_pos (by omega), if_pos (by omega), w64s (by omega) (by omega)]
        rfl
    · refine ⟨v, loopO_done ?_, ⟨hv.lo, by have := hv.hi; omega, hv.ok, hv.first, hv.low⟩⟩
      unfold rivetref07_Fit.b1
      simp only
      rw [if_neg hi]
theorem made_name {v : ByteArray} (h : Made v 7) : nameS (bytesL v) = true := by
  have h1 := h.lo
  have h2 := h.hi
  have h3 := h.first
  unfold nameS
  rw [bytesL_length, decide_eq_true (show 1 ≤ v.size ∧ v.size ≤ 12 by omega), h.ok]
  have e1 : letter ((bytesL v).getD 0 0) = true := by unfold letter; rw [decide_eq_true_eq]; omega
  have e2 : regS (bytesL v) = false := by
    unfold regS
    rw [decide_eq_false (show ¬ (bytesL v).getD 0 0 = 82 by omega)]
    simp
  rw [e1, e2]
  rfl
theorem fitname_is {a0 : ByteArray} (hz : a0.size ≤ 140737488351232) : ∃ v, rivetref07_Fit a0 = some v ∧ Made v 7 := by
  unfold rivetref07_Fit
  obtain ⟨c, hc⟩ : ∃ c : Nat, c < 26 ∧ wu8 (97 + wu8 ((a0.size : Int).tmod 26)) = ((97 + c : Nat) : Int) := by
    refine ⟨a0.size % 26, by omega, ?_⟩
    rw [Int.tmod_eq_emod_of_nonneg (by omega), wu8_eq, wu8_eq]
    omega
  rw [hc.2]
  have hb : By [((97 + c : Nat) : Int)] := by
    intro x hx
    simp only [List.mem_cons, List.not_mem_nil, or_false] at hx
    omega
  have hL := bytesL_nums hb
  obtain ⟨r, h1, h2⟩ := fit_loop hz 6 0 (strOfNums [((97 + c : Nat) : Int)]) (by omega) (by
    have hs : (strOfNums [((97 + c : Nat) : Int)]).size = 1 := by rw [← bytesL_length, hL]; rfl
    refine ⟨by omega, by omega, ?_, ?_, ?_⟩
    · rw [hL]
      simp only [List.all_cons, List.all_nil, Bool.and_true]
      unfold okc
      rw [decide_eq_true_eq]
      omega
    · rw [hL]
      show 97 ≤ ((97 + c : Nat) : Int) ∧ ((97 + c : Nat) : Int) ≤ 122
      omega
    · rw [hL]; simp)
  have e0 : ((0 : Nat) : Int) = 0 := rfl
  rw [e0] at h1
  rw [h1]
  exact ⟨r, rfl, h2⟩
/-! ### order -/
theorem less_irr : ∀ l : List UInt8, Op.bytesLess l l = false
  | [] => rfl
  | a :: l => by simp [Op.bytesLess, less_irr l]
theorem less_trans : ∀ {a b c : List UInt8}, Op.bytesLess a b = true → Op.bytesLess b c = true → Op.bytesLess a c = true
  | _, _, [], _, h => by cases h' : (by assumption : List UInt8) <;> simp [Op.bytesLess] at h
  | [], _, _ :: _, _, _ => rfl
  | a :: x, [], c :: z, h, _ => by simp [Op.bytesLess] at h
  | a :: x, b :: y, c :: z, h, k => by
    simp only [Op.bytesLess, Bool.or_eq_true, decide_eq_true_eq, Bool.and_eq_true, beq_iff_eq] at h k ⊢
    rcases h with h | ⟨rfl, h⟩
    · rcases k with k | ⟨rfl, k⟩
      · exact .inl (UInt8.lt_trans h k)
      · exact .inl h
    · rcases k with k | ⟨rfl, k⟩
      · exact .inl k
      · exact .inr ⟨rfl, less_trans h k⟩
theorem less_tri : ∀ {a b : List UInt8}, Op.bytesLess a b = false → a ≠ b → Op.bytesLess b a = true
  | [], [], _, h => absurd rfl h
  | [], _ :: _, h, _ => by simp [Op.bytesLess] at h
  | _ :: _, [], _, _ => rfl
  | a :: x, b :: y, h, hne => by
    simp only [Op.bytesLess, Bool.or_eq_false_iff, decide_eq_false_iff_not, Bool.and_eq_false_iff, beq_eq_false_iff_ne] at h
    simp only [Op.bytesLess, Bool.or_eq_true, decide_eq_true_eq, Bool.and_eq_true, beq_iff_eq]
    by_cases hab : a = b
    · subst hab
      refine .inr ⟨rfl, less_tri (h.2.resolve_left (by simp)) fun e => hne (by rw [e])⟩
    · refine .inl ?_
      have h1 := h.1
      rw [UInt8.lt_iff_toNat_lt] at h1 ⊢
      have : a.toNat ≠ b.toNat := fun e => hab (UInt8.toNat_inj.1 e)
      omega
def ls (s t : ByteArray) : Prop := Op.bytesLess s.toList t.toList = true
theorem ls.trans {a b c : ByteArray} (h : ls a b) (k : ls b c) : ls a c := less_trans h k
theorem ls.irr (a : ByteArray) : ¬ ls a a := by unfold ls; rw [less_irr]; simp
theorem le2_false {s t : ByteArray} (h : ls t s) : le2 s t = false := by
  unfold le2
  rw [Bool.or_eq_false_iff]
  constructor
  · cases hc : Op.bytesLess s.toList t.toList with
    | false => rfl
    | true => exact absurd (less_trans h hc) (by rw [less_irr]; simp)
  · rw [toL_eq, decide_eq_false_iff_not]
    rintro rfl
    exact ls.irr _ h
theorem le2_true {s t : ByteArray} (h : s = t) : le2 s t = true := by
  unfold le2
  rw [Bool.or_eq_true]
  exact .inr (by rw [toL_eq]; simpa using h)
/-- What an object that is made is. -/
structure Fitted (o : Sapi_Obj) : Prop where
  w : Wd o.Words
  wl : o.Words.length ≤ 40
  ris : Ris 0 o.Words.length o.Sites
  val : ∀ x ∈ o.Sites, o.Words.getD x.toNat 0 ≤ 4 * (o.Words.length : Int)
  yl : o.Syms.length ≤ 8
  nm : ∀ s ∈ o.Syms, Made s.Name 7
  up : o.Syms.Pairwise fun a b => ls a.Name b.Name
  at' : ∀ s ∈ o.Syms, atOk o.Words.length s.At = true
theorem ris_len {n : Nat} {s : List Int} (h : Ris 0 n s) : s.length ≤ n := by
  rcases Nat.lt_or_ge n s.length with hc | hc
  · exfalso
    have key : ∀ (k : Nat) (hk : k < s.length), (k : Int) ≤ s[k] := by
      intro k
      induction k with
      | zero => intro hk; exact h.lo _ (List.getElem_mem hk)
      | succ k ih =>
        intro hk
        have a := ih (by omega)
        have b := List.pairwise_iff_getElem.1 h.up k (k + 1) (by omega) hk (by omega)
        omega
    have a := key n hc
    have b := h.hi s[n] (List.getElem_mem hc)
    omega
  · exact hc
theorem Fitted.ob {o : Sapi_Obj} (h : Fitted o) : Ob o := by
  have h1 := h.wl
  have h2 := h.yl
  have h3 := ris_len h.ris
  exact ⟨h.w, by omega, by omega, by omega⟩
theorem sy_at {l : List Sapi_Sym} {i : Nat} (h : i < l.length) : sy l i = l[i] := by
  unfold sy
  rw [List.getD_eq_getElem?_getD, List.getElem?_eq_getElem h]
  rfl
theorem sy_mem {l : List Sapi_Sym} {i : Nat} (h : i < l.length) : sy l i ∈ l := by
  rw [sy_at h]
  exact List.getElem_mem h
/-- What may be: told by what holds. -/
theorem may_ok {o : Sapi_Obj} (h1 : o.Words.length ≤ 1024) (h2 : o.Syms.length ≤ 64) (h3 : Ris 0 o.Words.length o.Sites) (h4 : ∀ x ∈ o.Sites, o.Words.getD x.toNat 0 ≤ 4 * (o.Words.length : Int)) (h5 : ∀ s ∈ o.Syms, nameS (bytesL s.Name) = true)
    (h6 : o.Syms.Pairwise fun a b => ls a.Name b.Name) (h7 : ∀ s ∈ o.Syms, atOk o.Words.length s.At = true) : mayS o = 0 := by
  unfold mayS
  have hr : rise (o.Words.length : Int) (-1) o.Sites = true := rise_of h3.up fun x hx => by have := h3.lo x hx; have := h3.hi x hx; omega
  have hs : (List.range o.Sites.length).all (siteOk o) = true := List.all_eq_true.2 fun i hi => by
    have hi : i < o.Sites.length := by simpa using hi
    unfold siteOk
    rw [decide_eq_true_eq]
    refine h4 _ ?_
    rw [List.getD_eq_getElem?_getD, List.getElem?_eq_getElem hi]
    exact List.getElem_mem hi
  have hn : (List.range o.Syms.length).all (nmOk o.Syms) = true := List.all_eq_true.2 fun i hi => by
    have hi : i < o.Syms.length := by simpa using hi
    unfold nmOk
    rw [h5 _ (sy_mem hi), Bool.true_and]
    by_cases h0 : 0 < i
    · have := List.pairwise_iff_getElem.1 h6 (i - 1) i (by omega) hi (by omega)
      rw [sy_at hi, sy_at (show i - 1 < o.Syms.length by omega), le2_false this]
      simp
    · rw [decide_eq_false h0]; rfl
  have ha : (List.range o.Syms.length).all (fun i => atOk o.Words.length (sy o.Syms i).At) = true := List.all_eq_true.2 fun i hi => by
    have hi : i < o.Syms.length := by simpa using hi
    exact h7 _ (sy_mem hi)
  rw [if_neg (by omega), hr, if_neg (by simp), hs, if_neg (by simp), hn, if_neg (by simp), ha, if_neg (by simp)]
theorem Fitted.may {o : Sapi_Obj} (h : Fitted o) : mayS o = 0 := by
  have := h.wl
  have := h.yl
  exact may_ok (by omega) (by omega) h.ris h.val (fun s hs => made_name (h.nm s hs)) h.up h.at'
/-! ### the made words -/
theorem set_getD {l : List Int} {i j : Nat} {v : Int} (hi : i < l.length) : (l.set i v).getD j 0 = if j = i then v else l.getD j 0 := by
  simp only [List.getD_eq_getElem?_getD, List.getElem?_set]
  by_cases h : i = j
  · subst h; simp [hi]
  · rw [if_neg h, if_neg (fun e => h e.symm)]
theorem fit_words {s : List Int} {N : Nat} (ns : List ByteArray) (hN : N ≤ 1000) (hs : Ris 0 N s) : ∀ (n i : Nat) (u : List Int), i + n = s.length → u.length = N → Wd u → (∀ j, j < i → u.getD (s.getD j 0).toNat 0 ≤ 4 * (N : Int)) →
    ∃ w', loopO rivetref09_Fit.b1 ((N : Int), (i : Int), ns, u, s) = some ((N : Int), ns, w', s) ∧ w'.length = N ∧ Wd w' ∧ ∀ x ∈ s, w'.getD x.toNat 0 ≤ 4 * (N : Int)
  | 0, i, u, hi, hl, hw, hv => by
    refine ⟨u, loopO_done ?_, hl, hw, fun x hx => ?_⟩
    · simp only [rivetref09_Fit.b1]
      rw [if_neg (by omega)]
    · obtain ⟨j, hj, rfl⟩ := List.getElem_of_mem hx
      have := hv j (by omega)
      rwa [List.getD_eq_getElem?_getD (l := s), List.getElem?_eq_getElem hj] at this
  | n + 1, i, u, hi, hl, hw, hv => by
    have hsl := ris_len hs
    have hlt : i < s.length := by omega
    have hx := hs.lo _ (getD_mem hlt)
    have hx2 := hs.hi _ (getD_mem hlt)
    have hg := getD_in hw (i := (s.getD i 0).toNat) (by omega)
    have e3 : wu32 (w64 (w64 (4 * (N : Int)) + 1)) = 4 * (N : Int) + 1 := by
      rw [w64s (x := 4 * _) (by omega) (by omega), w64s (by omega) (by omega), wu32_id (by omega) (by omega)]
    have e2 : ix 0 u (s.getD i 0) = u.getD (s.getD i 0).toNat 0 := rfl
    have hm0 := Int.emod_nonneg (u.getD (s.getD i 0).toNat 0) (show 4 * (N : Int) + 1 ≠ 0 by omega)
    have hm1 := Int.emod_lt_of_pos (u.getD (s.getD i 0).toNat 0) (show 0 < 4 * (N : Int) + 1 by omega)
    obtain ⟨w', k1, k2⟩ := fit_words ns hN hs n (i + 1) (u.set (s.getD i 0).toNat (u.getD (s.getD i 0).toNat 0 % (4 * (N : Int) + 1))) (by omega) (by simpa using hl) (fun x hx => by
      rcases List.mem_or_eq_of_mem_set hx with h | h
      · exact hw x h
      · rw [h]; omega) (fun j hj => by
      rw [set_getD (by omega)]
      split
      · omega
      · rename_i hne
        rcases Nat.lt_or_ge j i with h | h
        · exact hv j h
        · have : j = i := by omega
          subst this
          exact absurd rfl hne)
    refine ⟨w', ?_, k2⟩
    rw [← k1]
    refine loopO_next ?_
    simp only [rivetref09_Fit.b1]
    rw [if_pos (by omega), if_pos (by omega), if_pos (by omega), ixn, if_pos (by omega), e3, if_pos (by omega), if_pos (by omega), e2, w64s (by omega) (by omega), Int.tmod_eq_emod_of_nonneg hg.1]
    rfl
/-! ### the made names -/
section
variable {n : Nat} {ns : List ByteArray} {u s : List Int}
theorem fit_place {l : List Sapi_Sym} (hl : l.length ≤ 1000) (i0 : Int) (t : ByteArray) : ∃ k : Nat, loopO rivetref09_Fit.b2 ((n : Int), i0, t, 0, ns, u, s, l) = some ((n : Int), i0, t, (k : Int), ns, u, s, l) ∧ k ≤ l.length ∧ (∀ i, i < k → ls (sy l i).Name t) ∧ (k < l.length → ¬ ls (sy l k).Name t) := by
  have key : ∀ (m i : Nat), i + m = l.length → (∀ j, j < i → ls (sy l j).Name t) → ∃ k : Nat, loopO rivetref09_Fit.b2 ((n : Int), i0, t, (i : Int), ns, u, s, l) = some ((n : Int), i0, t, (k : Int), ns, u, s, l) ∧ k ≤ l.length ∧ (∀ i, i < k → ls (sy l i).Name t) ∧ (k < l.length → ¬ ls (sy l k).Name t) := by
    intro m
    induction m with
    | zero =>
      intro i h hb
      refine ⟨i, loopO_done ?_, by omega, hb, fun h => by omega⟩
      simp only [rivetref09_Fit.b2]
      rw [if_neg (by omega)]
    | succ m ih =>
      intro i h hb
      cases hc : Op.bytesLess (sy l i).Name.toList t.toList with
      | true =>
        obtain ⟨k, k1, k2⟩ := ih (i + 1) (by omega) fun j hj => by
          by_cases hji : j = i
          · rw [hji]; exact hc
          · exact hb j (by omega)
        refine ⟨k, ?_, k2⟩
        rw [← k1]
        refine loopO_next ?_
        simp only [rivetref09_Fit.b2]
        rw [if_pos (by omega), if_pos (by omega), ixs, hc, if_pos rfl, w64s (by omega) (by omega)]; rfl
      | false =>
        refine ⟨i, loopO_done ?_, by omega, hb, fun _ hk => ?_⟩
        · simp only [rivetref09_Fit.b2]
          rw [if_pos (by omega), if_pos (by omega), ixs, hc]; rfl
        · unfold ls at hk; rw [hc] at hk; cases hk
  exact key l.length 0 (by omega) fun j hj => by omega
/-- The names so far. -/
structure Nms (n : Nat) (i : Nat) (l : List Sapi_Sym) : Prop where
  len : l.length ≤ i
  nm : ∀ s ∈ l, Made s.Name 7
  up : l.Pairwise fun a b => ls a.Name b.Name
  at' : ∀ s ∈ l, atOk n s.At = true
theorem Nms.put {n i k : Nat} {l : List Sapi_Sym} {s : Sapi_Sym} (h : Nms n i l) (hm : Made s.Name 7) (ha : atOk n s.At = true) (hk : k ≤ l.length) (h1 : ∀ i, i < k → ls (sy l i).Name s.Name) (h2 : ∀ i, k ≤ i → i < l.length → ls s.Name (sy l i).Name) : Nms n (i + 1) (l.take k ++ s :: l.drop k) := by
  have hlen := h.len
  refine ⟨by rw [List.length_append, List.length_cons, List.length_take, List.length_drop]; omega, ?_, ?_, ?_⟩
  · intro x hx
    rcases List.mem_append.1 hx with hx | hx
    · exact h.nm x (List.mem_of_mem_take hx)
    · rcases List.mem_cons.1 hx with rfl | hx
      · exact hm
      · exact h.nm x (List.mem_of_mem_drop hx)
  · have hlt : ∀ a ∈ l.take k, ls a.Name s.Name := fun a ha' => by
      obtain ⟨j, hj, rfl⟩ := List.getElem_of_mem ha'
      have hj' : j < k ∧ j < l.length := by rw [List.length_take] at hj; omega
      have := h1 j hj'.1
      rw [sy_at hj'.2] at this
      simpa using this
    have hgt : ∀ b ∈ l.drop k, ls s.Name b.Name := fun b hb => by
      obtain ⟨j, hj, rfl⟩ := List.getElem_of_mem hb
      have hj' : k + j < l.length := by rw [List.length_drop] at hj; omega
      have := h2 (k + j) (by omega) hj'
      rw [sy_at hj'] at this
      simpa using this
    refine List.pairwise_append.2 ⟨h.up.sublist (List.take_sublist _ _), List.pairwise_cons.2 ⟨hgt, h.up.sublist (List.drop_sublist _ _)⟩, fun a ha' b hb => ?_⟩
    rcases List.mem_cons.1 hb with rfl | hb
    · exact hlt a ha'
    · exact (hlt a ha').trans (hgt b hb)
  · intro x hx
    rcases List.mem_append.1 hx with hx | hx
    · exact h.at' x (List.mem_of_mem_take hx)
    · rcases List.mem_cons.1 hx with rfl | hx
      · exact ha
      · exact h.at' x (List.mem_of_mem_drop hx)
theorem fit_round {i : Nat} {l : List Sapi_Sym} (hn : n ≤ 40) (hz : ∀ x ∈ ns, x.size ≤ 140737488351232) (hi : i < ns.length) (hi8 : i < 8) (h : Nms n i l) :
    ∃ l', rivetref09_Fit.b4 ((n : Int), (i : Int), ns, u, s, l) = some (.inl ((n : Int), ((i + 1 : Nat) : Int), ns, u, s, l')) ∧ Nms n (i + 1) l' := by
  have hlen := h.len
  have e0 : ix eS.d ns (i : Int) = ns[i] := by show ns.getD i _ = _; simp [hi]
  have hsz := hz ns[i] (List.getElem_mem hi)
  obtain ⟨v, hv, hm⟩ := fitname_is hsz
  obtain ⟨k, hk, hkl, hlo, hhi⟩ := fit_place (n := n) (ns := ns) (u := u) (s := s) (l := l) (by omega) (i : Int) v
  have ei : w64 ((i : Int) + 1) = ((i + 1 : Nat) : Int) := by rw [w64s (by omega) (by omega)]; omega
  simp only [rivetref09_Fit.b4]
  rw [if_pos (by omega), if_pos (by omega), if_pos (by omega), e0, hv, Option.bind_some, hk, Option.bind_some]
  simp only
  have put : (k < l.length → (sy l k).Name ≠ v) → ∃ l', rivetref09_Fit.j3 (n : Int) (i : Int) v (k : Int) ns u s l = some (.inl ((n : Int), ((i + 1 : Nat) : Int), ns, u, s, l')) ∧ Nms n (i + 1) l' := by
    intro hne
    have e1 : w64 ((n : Int) + 1) = ((n + 1 : Nat) : Int) := by rw [w64s (by omega) (by omega)]; omega
    have e2 : w64 ((ns[i].size : Int) + (i : Int)) = ((ns[i].size + i : Nat) : Int) := by rw [w64s (by omega) (by omega)]; omega
    have e3 : (((ns[i].size + i : Nat) : Int).tmod ((n + 1 : Nat) : Int)) = (((ns[i].size + i) % (n + 1) : Nat) : Int) := by rw [Int.tmod_eq_emod_of_nonneg (by omega)]; omega
    have hmod := Nat.mod_lt (ns[i].size + i) (show 0 < n + 1 by omega)
    unfold rivetref09_Fit.j3
    rw [if_pos (by omega), e0, e1, if_pos (by omega), if_pos (by omega), e2, e3, w64s (x := 4 * _) (by omega) (by omega), if_pos (by simp; omega), if_pos (by omega), if_pos (by simp; omega), if_pos (by simp; omega), ei]
    refine ⟨_, rfl, ?_⟩
    rw [Int.toNat_natCast, List.nil_append]
    refine h.put (s := ⟨v, 4 * (((ns[i].size + i) % (n + 1) : Nat) : Int)⟩) hm ?_ hkl hlo fun j hj hjl => ?_
    · unfold atOk
      rw [decide_eq_true_eq]
      simp only
      omega
    · have hkl' : k < l.length := by omega
      have hk1 : ls v (sy l k).Name := by
        refine less_tri ?_ ?_
        · cases hc : Op.bytesLess (sy l k).Name.toList v.toList with
          | false => rfl
          | true => exact absurd hc (hhi hkl')
        · intro he
          have := toL_eq (sy l k).Name v
          rw [he] at this
          exact hne hkl' (by simpa using this.symm)
      by_cases hjk : j = k
      · rw [hjk]; exact hk1
      · have := List.pairwise_iff_getElem.1 h.up k j hkl' hjl (by omega)
        rw [sy_at hjl]
        rw [sy_at hkl'] at hk1
        exact hk1.trans this
  by_cases hkl' : k < l.length
  · rw [if_pos (by omega), if_pos (by omega), ixs, toL_eq]
    by_cases he : (sy l k).Name = v
    · rw [decide_eq_true he, if_pos rfl, ei]
      exact ⟨l, rfl, ⟨by omega, h.nm, h.up, h.at'⟩⟩
    · rw [decide_eq_false he, if_neg (by simp)]
      exact put fun _ => he
  · rw [if_neg (by omega)]
    exact put fun hc => absurd hc hkl'
theorem fit_names (hn : n ≤ 40) (hz : ∀ x ∈ ns, x.size ≤ 140737488351232) : ∃ l, loopO rivetref09_Fit.b4 ((n : Int), 0, ns, u, s, ([] : List Sapi_Sym)) = some (u, s, l) ∧ Nms n 8 l := by
  have key : ∀ (m i : Nat) (l : List Sapi_Sym), i + m = 8 → Nms n i l → ∃ l', loopO rivetref09_Fit.b4 ((n : Int), (i : Int), ns, u, s, l) = some (u, s, l') ∧ Nms n 8 l' := by
    intro m
    induction m with
    | zero =>
      intro i l h hl
      refine ⟨l, loopO_done ?_, ⟨by have := hl.len; omega, hl.nm, hl.up, hl.at'⟩⟩
      simp only [rivetref09_Fit.b4]
      by_cases c : (i : Int) < (ns.length : Int)
      · rw [if_pos c, if_neg (by omega)]
      · rw [if_neg c]
    | succ m ih =>
      intro i l h hl
      by_cases hi : i < ns.length
      · obtain ⟨l', h1, h2⟩ := fit_round (u := u) (s := s) hn hz hi (by omega) hl
        rw [loopO_next h1]
        exact ih (i + 1) l' (by omega) h2
      · refine ⟨l, loopO_done ?_, ⟨by have := hl.len; omega, hl.nm, hl.up, hl.at'⟩⟩
        simp only [rivetref09_Fit.b4]
        rw [if_neg (by omega)]
  exact key 8 0 [] (by omega) ⟨by simp, by simp, List.Pairwise.nil, by simp⟩
end
theorem fitobj_is {w b : List Int} {ns : List ByteArray} (hw : Wd w) (hz : ∀ s ∈ ns, s.size ≤ 140737488351232) : ∃ o : Sapi_Obj, rivetref09_Fit w b ns = some (o.Words, o.Sites, o.Syms) ∧ Fitted o := by
  have m := mnn_ok (w.length : Int) 40 (by omega) (by omega)
  have hw2 : Wd (w.take (mnn (w.length : Int) 40).toNat) := fun x hx => hw x (List.mem_of_mem_take hx)
  have hl2 : (w.take (mnn (w.length : Int) 40).toNat).length ≤ 40 := by
    rw [take_min w 40 (by omega), List.length_take]; omega
  unfold rivetref09_Fit
  rw [if_pos m, List.nil_append]
  generalize w.take (mnn (w.length : Int) 40).toNat = u at *
  rw [if_pos (by simp; omega)]
  obtain ⟨s, h1, h2⟩ := fit8_is b (N := u.length) (by omega)
  obtain ⟨u', h3, h4, h5, h6⟩ := fit_words ns (N := u.length) (by omega) h2 s.length 0 u (by omega) rfl hw2 (fun j hj => by omega)
  obtain ⟨l, h7, h8⟩ := fit_names (n := u.length) (ns := ns) (u := u') (s := s) (by omega) hz
  have h3 : loopO rivetref09_Fit.b1 ((u.length : Int), 0, ns, u, s) = some ((u.length : Int), ns, u', s) := h3
  rw [h1, Option.bind_some, h3, Option.bind_some]
  simp only
  rw [h7]
  refine ⟨⟨u', s, l⟩, rfl, h5, by rw [h4]; exact hl2, by rw [h4]; exact h2, ?_, h8.len, h8.nm, h8.up, ?_⟩
  · simp only [h4]; exact h6
  · simp only [h4]; exact h8.at'
end Go.Proofs.YtheccnbamcdpmaaGreatDoor.ZD
