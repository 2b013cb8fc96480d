/- The engine, the walk and the plain law, part 8. No condition. -/
import Derived.Test.YtlpiomnmaiddbaaGreatDoorM7
import Derived.ChangeOld
import Derived.Laws.BitsLemmas
import Derived.OpenShut
import Derived.ProofKit
import Derived.ShutString
import Derived.SizedLaws
import Derived.SliceStrings
namespace Go.Proofs.YtlpiomnmaiddbaaGreatDoor.E
set_option linter.unusedVariables false
set_option linter.unusedSimpArgs false
open Go Go.RowKit Go.ChangeShapes Go.WideShapes Go.ChangeAt
/-- A row's slice of whole numbers is no longer than its weight allows. -/
theorem sized_ints {H : Type} {enc : TypeId × Value → H} {P : Program} {W : World} {base : Nat} {spare : Nat → Bool} {held : Bool} {t e : TypeId} {k : IntKind} {a : Option Addr} {len cap : Nat} {d : DataW H} {ps : List MemPlace} {ts : List TypeId} {ds : List (DataW H)} {j : Nat}
    (hsz : (DataW.weightsEach P ts ds).all (· ≤ reachBytes) = true) (ht : ts[j]? = some t) (hd : ds[j]? = some d) (hu : P.underlying t = some (.slice e)) (he : P.underlying e = some (.int k)) (hc : P.cellsOf e = 1) {B : Nat} (hB : P.bytesOf e = B)
    (h : DataW.Trod enc P W base spare held t (.slice a len cap) d ps) : len * B ≤ 140737488351232 := by
  obtain ⟨fuel, hf⟩ := h
  rcases open_ints hu he hc hf with ⟨hcs, _⟩ | ⟨x, l, c, zs, hcs, _, hl, _, hz, hx, _, _⟩
  · simp [Value.cells] at hcs
    obtain ⟨rfl, rfl, rfl⟩ := hcs
    simp
  · simp [Value.cells] at hcs
    obtain ⟨rfl, rfl, rfl⟩ := hcs
    obtain ⟨hx, _⟩ := Prod.mk.inj hx
    subst hx
    have z := sized_slice hsz ht hd hu
    rw [hB] at z
    have hl2 : len ≤ zs.length := by
      rw [hz]
      split
      · exact hl
      · exact Nat.le_refl _
    have h1 : (lits (H := H) k (zs.take len)).length + (lits (H := H) k (zs.drop len)).length = zs.length := by
      simp [lits]
      omega
    rw [h1] at z
    exact Nat.le_trans (Nat.mul_le_mul_right _ hl2) z
abbrev In (k : IntKind) (n : Int) : Prop := (Lit.int k n).wf = true
theorem In.lo {k : IntKind} {n : Int} (h : In k n) : k.min ≤ n := by simp only [In, Lit.wf, Bool.and_eq_true, decide_eq_true_eq] at h; exact h.1
theorem In.hi {k : IntKind} {n : Int} (h : In k n) : n ≤ k.max := by simp only [In, Lit.wf, Bool.and_eq_true, decide_eq_true_eq] at h; exact h.2
section
variable {H : Type} {enc : TypeId × Value → H} {P : Program} {w : World} {base b0 : Nat} {spare : Nat → Bool} {held : Bool} {r : Reach} {t e : TypeId} {k : IntKind} {v : Value} {d : DataW H} {ps : List MemPlace}
/-- A slice of whole numbers that came in. -/
theorem open_row {B : Nat} {ts : List TypeId} {ds : List (DataW H)} {j : Nat} (hval : Value.okWide P w r b0 t v) (hd : DataW.Trod enc P w base spare held t v d ps) (ht : P.underlying t = some (.slice e)) (he : P.underlying e = some (.int k)) (hc : P.cellsOf e = 1)
    (hsz : (DataW.weightsEach P ts ds).all (· ≤ reachBytes) = true) (hj : ts[j]? = some t) (hdj : ds[j]? = some d) (hB : P.bytesOf e = B) :
    ∃ A cap l, v = .slice A l.length cap ∧ Rd w (eI k) A cap l ∧ (∀ n ∈ l, In k n) ∧ l.length * B ≤ 140737488351232 := by
  obtain ⟨a, len, cap, rfl⟩ := okWide_slice ht hval
  have hs := sized_ints hsz hj hdj ht he hc hB hd
  obtain ⟨fuel, hf⟩ := hd
  rcases open_ints ht he hc hf with ⟨hcs, _⟩ | ⟨x, l, c, zs, hcs, _, hl, hm, hz, _, hcell, hwz⟩
  · simp [Value.cells] at hcs
    obtain ⟨rfl, rfl, rfl⟩ := hcs
    exact ⟨none, 0, [], rfl, Rd.nil _ _, by simp, by simp⟩
  · simp [Value.cells] at hcs
    obtain ⟨rfl, rfl, rfl⟩ := hcs
    have hle : len ≤ zs.length := by rw [hz]; split <;> omega
    have hlen : (zs.take len).length = len := by simp; omega
    refine ⟨some x, cap, zs.take len, by rw [hlen], ⟨by rw [hlen]; exact hl, fun i y hi => ⟨x, rfl, fun j u hj => ?_⟩⟩, fun n hn => hwz n (List.mem_of_mem_take hn), by rw [hlen]; exact hs⟩
    have hlt : i < (zs.take len).length := (List.getElem?_eq_some_iff.1 hi).1
    have hy : y = zs.getD i 0 := by
      rw [List.getElem?_take] at hi
      split at hi
      · rw [List.getD_eq_getElem?_getD, hi]; rfl
      · cases hi
    cases j with
    | zero =>
      have hu : u = .int k y := by
        have h' : ([Value.int k y] : List Value)[0]? = some u := hj
        exact (Option.some.inj h').symm
      rw [hu, hy]
      simpa [eI] using hcell i (by omega)
    | succ j =>
      have h' : ([Value.int k y] : List Value)[j + 1]? = some u := hj
      simp at h'
end

def numAt (cs : List Value) (i : Nat) : Int := match cs[i]? with
  | some (.int _ n) => n
  | _ => 0
section
variable {H : Type} {enc : TypeId × Value → H} {P : Program} {w : World} {base b0 : Nat} {spare : Nat → Bool} {held : Bool} {r : Reach} {t e : TypeId} {k : IntKind} {v : Value} {d : DataW H} {ps : List MemPlace}
theorem okWide_array {n : Nat} (ht : P.underlying t = some (.array n e)) (h : Value.okWide P w r b0 t v) : ∃ cs, v = .agg cs := by
  unfold Value.okWide at h
  rw [ht] at h
  obtain ⟨cs, h1, _⟩ := h
  exact ⟨cs, h1⟩
/-- The cells of an array of whole numbers. -/
theorem ints_of {n fuel : Nat} {cs : List Value} {x : DataW H × List MemPlace} (ht : P.underlying t = some (.array n e)) (he : P.underlying e = some (.int k)) (hc : P.cellsOf e = 1) (hct : P.cellsOf t = n) (h : DataW.trod enc P w base spare held fuel t cs = some x) :
    ∃ y : Vector Int n, cs = (List.range n).map (fun j => Value.int k (vx 0 y j)) ∧ ∀ j, j < n → In k (vx 0 y j) := by
  obtain ⟨xs, m, _, _, hl, hx, hall⟩ := DataW.trod_array ht h
  have key : ∀ i, i < n → ∃ z, cs[i]? = some (.int k z) ∧ In k z := by
    intro i hi
    have h1 := hall i hi
    rw [List.getElem?_eq_getElem (by omega), hc, Nat.mul_one] at h1
    obtain ⟨z, h2, _, h3⟩ := DataW.trod_int he h1
    refine ⟨z, ?_, h3⟩
    have h4 : ((cs.drop i).take 1)[0]? = some (.int k z) := by rw [h2]; rfl
    simpa using h4
  refine ⟨Vector.ofFn fun i => numAt cs i, ?_, fun j hj => ?_⟩
  · apply List.ext_getElem?
    intro i
    by_cases hi : i < n
    · obtain ⟨z, hz, _⟩ := key i hi
      rw [List.getElem?_map, List.getElem?_range hi, Option.map_some, vx_ofFn hi, hz]
      simp [numAt, hz]
    · rw [List.getElem?_eq_none (by omega), List.getElem?_eq_none (by simp; omega)]
  · obtain ⟨z, hz, hw⟩ := key j hj
    rw [vx_ofFn hj]
    simpa [numAt, hz] using hw
theorem open_arr {n : Nat} (hval : Value.okWide P w r b0 t v) (hd : DataW.Trod enc P w base spare held t v d ps) (ht : P.underlying t = some (.array n e)) (he : P.underlying e = some (.int k)) (hc : P.cellsOf e = 1) (hct : P.cellsOf t = n) :
    ∃ y : Vector Int n, v = .agg ((List.range n).map (fun j => Value.int k (vx 0 y j))).toArray ∧ ∀ j, j < n → In k (vx 0 y j) := by
  obtain ⟨cs, rfl⟩ := okWide_array ht hval
  obtain ⟨fuel, hf⟩ := hd
  obtain ⟨y, h1, h2⟩ := ints_of ht he hc hct hf
  refine ⟨y, ?_, h2⟩
  have h1 : cs.toList = _ := h1
  rw [← h1]
end

theorem w64_id {x : Int} (h0 : -9223372036854775808 ≤ x) (h1 : x ≤ 9223372036854775807) : w64 x = x := by show IntKind.i64.wrap x = x; rw [IntKind.wrap_i64]; omega
theorem w32_id {x : Int} (h0 : -2147483648 ≤ x) (h1 : x ≤ 2147483647) : w32 x = x := by show IntKind.i32.wrap x = x; rw [IntKind.wrap_i32]; omega
theorem wu32_eq (x : Int) : wu32 x = x % 4294967296 := IntKind.wrap_u32 x
theorem wu8_eq (x : Int) : wu8 x = x % 256 := IntKind.wrap_u8 x
theorem wu16_eq (x : Int) : wu16 x = x % 65536 := by simp [wu16, IntKind.wrap, IntKind.bits, IntKind.signed]
theorem wu64_eq (x : Int) : wu64 x = x % 18446744073709551616 := by simp [wu64, IntKind.wrap, IntKind.bits, IntKind.signed]
theorem wu32_id {x : Int} (h0 : 0 ≤ x) (h1 : x ≤ 4294967295) : wu32 x = x := by rw [wu32_eq]; omega
theorem wu8_id {x : Int} (h0 : 0 ≤ x) (h1 : x ≤ 255) : wu8 x = x := by rw [wu8_eq]; omega
theorem wu16_id {x : Int} (h0 : 0 ≤ x) (h1 : x ≤ 65535) : wu16 x = x := by rw [wu16_eq]; omega
def umax : IntKind → Nat
  | .u8 => 256
  | .u16 => 65536
  | .u32 => 4294967296
  | _ => 1
theorem wrap_nat {k : IntKind} {m : Nat} (h : m < umax k) : k.wrap (m : Int) = (m : Int) := by
  cases k <;> simp only [umax] at h
  case u8 => rw [IntKind.wrap_u8]; omega
  case u16 => have := wu16_eq (m : Int); simp only [wu16] at this; rw [this]; omega
  case u32 => rw [IntKind.wrap_u32]; omega
  all_goals (obtain rfl : m = 0 := by omega); rfl
theorem bv_nat {k : IntKind} {x : Int} (h0 : 0 ≤ x) (h1 : x < (umax k : Int)) : (BitVec.ofInt k.bits x).toNat = x.toNat := by
  obtain ⟨n, rfl⟩ := Int.eq_ofNat_of_zero_le h0
  rw [show ((n : Nat) : Int).toNat = n by omega]
  have h1 : n < umax k := by omega
  rw [BitVec.ofInt_natCast, BitVec.toNat_ofNat]
  apply Nat.mod_eq_of_lt
  cases k <;> simp only [umax, IntKind.bits] at h1 ⊢ <;> omega
theorem umax_bits {k : IntKind} (h : 1 < umax k) : 2 ^ k.bits = umax k := by cases k <;> simp [umax, IntKind.bits] at h ⊢
theorem band_nat {k : IntKind} {x y : Int} (hx0 : 0 ≤ x) (hx : x < (umax k : Int)) (hy0 : 0 ≤ y) (hy : y < (umax k : Int)) : band k x y = ((x.toNat &&& y.toNat : Nat) : Int) := by
  unfold band
  rw [BitVec.toNat_and, bv_nat hx0 hx, bv_nat hy0 hy, wrap_nat]
  exact Nat.lt_of_le_of_lt Nat.and_le_left (by omega)
theorem bor_nat {k : IntKind} {x y : Int} (hk : 1 < umax k) (hx0 : 0 ≤ x) (hx : x < (umax k : Int)) (hy0 : 0 ≤ y) (hy : y < (umax k : Int)) : bor k x y = ((x.toNat ||| y.toNat : Nat) : Int) := by
  unfold bor
  rw [BitVec.toNat_or, bv_nat hx0 hx, bv_nat hy0 hy, wrap_nat]
  rw [← umax_bits hk] at hx hy ⊢
  exact Nat.or_lt_two_pow (by omega) (by omega)
theorem bxor_nat {k : IntKind} {x y : Int} (hk : 1 < umax k) (hx0 : 0 ≤ x) (hx : x < (umax k : Int)) (hy0 : 0 ≤ y) (hy : y < (umax k : Int)) : bxor k x y = ((x.toNat ^^^ y.toNat : Nat) : Int) := by
  unfold bxor
  rw [BitVec.toNat_xor, bv_nat hx0 hx, bv_nat hy0 hy, wrap_nat]
  rw [← umax_bits hk] at hx hy ⊢
  exact Nat.xor_lt_two_pow (by omega) (by omega)
theorem bandn_nat {k : IntKind} {x y : Int} (hk : 1 < umax k) (hx0 : 0 ≤ x) (hx : x < (umax k : Int)) (hy0 : 0 ≤ y) (hy : y < (umax k : Int)) : bandn k x y = ((x.toNat &&& (umax k - 1 - y.toNat) : Nat) : Int) := by
  unfold bandn
  rw [BitVec.toNat_and, BitVec.toNat_not, bv_nat hx0 hx, bv_nat hy0 hy, umax_bits hk, wrap_nat]
  exact Nat.lt_of_le_of_lt Nat.and_le_left (by omega)
theorem and_low (x n : Nat) : x &&& (2 ^ n - 1) = x % 2 ^ n := Nat.and_two_pow_sub_one_eq_mod x n
theorem or_high {x y n : Nat} (h : y < 2 ^ n) : 2 ^ n * x ||| y = 2 ^ n * x + y := (Nat.two_pow_add_eq_or_of_lt h x).symm
/-- The lower bits are taken away. -/
theorem and_high (x n m : Nat) (h : x < 2 ^ (n + m)) : x &&& ((2 ^ m - 1) * 2 ^ n) = x / 2 ^ n * 2 ^ n := by
  apply Nat.eq_of_testBit_eq
  intro i
  rw [Nat.testBit_and, Nat.testBit_mul_two_pow, Nat.testBit_mul_two_pow, Nat.testBit_two_pow_sub_one, Nat.testBit_div_two_pow]
  by_cases hi : n ≤ i
  · have e : n + (i - n) = i := by omega
    simp only [hi, decide_true, Bool.true_and, show i - n + n = i by omega]
    by_cases hm : i - n < m
    · simp [hm]
    · have : x.testBit i = false := Nat.testBit_lt_two_pow (Nat.lt_of_lt_of_le h (Nat.pow_le_pow_right (by omega) (by omega)))
      simp [this]
  · simp [hi]
theorem ixg {l : List Int} {d : Int} {i : Int} : ix d l i = l.getD i.toNat d := rfl
/-- A take's length, spelled out. -/
theorem take_min {α : Type} (l : List α) (m : Int) (hm : 0 ≤ m) : l.take (mnn (l.length : Int) m).toNat = l.take m.toNat := by
  unfold mnn
  split
  · rfl
  · rw [List.take_of_length_le (by omega), List.take_of_length_le (by omega)]
theorem mnn_ok (n m : Int) (hm : 0 ≤ m) (hn : 0 ≤ n) : 0 ≤ mnn n m ∧ mnn n m ≤ n := by unfold mnn; split <;> omega
theorem In.u32 {n : Int} (h : In .u32 n) : 0 ≤ n ∧ n ≤ 4294967295 := bounds_u32 h
theorem In.u16 {n : Int} (h : In .u16 n) : 0 ≤ n ∧ n ≤ 65535 := bounds_u16 h
theorem In.u8 {n : Int} (h : In .u8 n) : 0 ≤ n ∧ n ≤ 255 := bounds_u8 h
theorem In.i64 {n : Int} (h : In .i64 n) : -9223372036854775808 ≤ n ∧ n ≤ 9223372036854775807 := bounds_i64 h
theorem In.i32 {n : Int} (h : In .i32 n) : -2147483648 ≤ n ∧ n ≤ 2147483647 := bounds_i32 h
/-- All elements are of some kind. -/
theorem all_getD {l : List Int} {p : Int → Prop} (h : ∀ n ∈ l, p n) {d : Int} (hd : p d) (i : Nat) : p (l.getD i d) := by
  rw [List.getD_eq_getElem?_getD]
  cases hi : l[i]? with
  | none => exact hd
  | some x => exact h x (List.mem_of_getElem? hi)
theorem all_set {l : List Int} {p : Int → Prop} (h : ∀ n ∈ l, p n) {x : Int} (hx : p x) (i : Nat) : ∀ n ∈ l.set i x, p n := by
  intro n hn
  rcases List.mem_or_eq_of_mem_set hn with h1 | h1
  · exact h n h1
  · exact h1 ▸ hx

/-- No part of it weighs more than a memory bears. -/
def Light {H : Type} (P : Program) (t : TypeId) (x : DataW H × List MemPlace) : Prop := ∀ n ∈ x.1.weights P t, n ≤ reachBytes
/-- How values of type t, without addresses, come in. -/
def OpenP {α : Type} (P : Program) (t : TypeId) (E : Enc α) (ok : α → Prop) : Prop :=
  ∀ (H : Type) (enc : TypeId × Value → H) (w : World) (base : Nat) (spare : Nat → Bool) (held : Bool) (fuel : Nat) (cs : List Value) (x : DataW H × List MemPlace), DataW.trod enc P w base spare held fuel t cs = some x → Light P t x → ∃ y, cs = E.enc y ∧ ok y
section
variable {P : Program} {t e : TypeId} {k : IntKind} {α : Type} {E : Enc α} {ok : α → Prop}
theorem openP_int (he : P.underlying t = some (.int k)) : OpenP P t (eI k) (In k) := by
  intro H enc w base spare held fuel cs x h _
  obtain ⟨n, h1, _, h3⟩ := DataW.trod_int he h
  exact ⟨n, h1, h3⟩
theorem openP_bool (he : P.underlying t = some .bool) : OpenP P t eB fun _ => True := by
  intro H enc w base spare held fuel cs x h _
  obtain ⟨n, h1, _⟩ := DataW.trod_bool he h
  exact ⟨n, h1, trivial⟩
theorem openP_str (he : P.underlying t = some .string) : OpenP P t eS fun s => s.size ≤ 140737488351232 := by
  intro H enc w base spare held fuel cs x h hw
  obtain ⟨n, h1, rfl, h3⟩ := DataW.trod_string he h
  refine ⟨n, h1, ?_⟩
  have := hw n.data.toList.length (by simp [DataW.weights])
  rw [Array.length_toList] at this
  exact this
theorem openP_arr {n : Nat} {E : Enc (Vector Int n)} (ht : P.underlying t = some (.array n e)) (he : P.underlying e = some (.int k)) (hc : P.cellsOf e = 1) (hct : P.cellsOf t = n) (hE : ∀ y, E.enc y = (List.range n).map fun j => Value.int k (vx 0 y j)) :
    OpenP P t E fun y => ∀ j, j < n → In k (vx 0 y j) := by
  intro H enc w base spare held fuel cs x h _
  obtain ⟨y, h1, h2⟩ := ints_of ht he hc hct h
  exact ⟨y, by rw [hE, h1], h2⟩
/-- The parts of a struct come in. -/
def Fields {H : Type} (enc : TypeId × Value → H) (P : Program) (w : World) (base : Nat) (spare : Nat → Bool) (held : Bool) (m : Nat) (fs : Array Field) (cs : List Value) : Prop :=
  ∀ (i : Nat) (f : Field), fs[i]? = some f → ∃ y, DataW.trod enc P w base spare held m f.type ((cs.drop f.offset).take (P.cellsOf f.type)) = some y ∧ Light P f.type y
theorem struct_fields {H : Type} {enc : TypeId × Value → H} {w : World} {base : Nat} {spare : Nat → Bool} {held : Bool} {fuel : Nat} {cs : List Value} {x : DataW H × List MemPlace} {fs : Array Field} (ht : P.underlying t = some (.struct fs))
    (h : DataW.trod enc P w base spare held fuel t cs = some x) (hw : Light P t x) : cs.length = P.cellsOf t ∧ ∃ m, Fields enc P w base spare held m fs cs := by
  obtain ⟨xs, m, _, rfl, hl, hlen, hf⟩ := DataW.trod_struct ht h
  refine ⟨hl, m, fun i f hi => ?_⟩
  have hlt : i < xs.length := by rw [hlen]; exact (Array.getElem?_eq_some_iff.1 hi).1
  refine ⟨xs[i], by rw [hf i f hi, List.getElem?_eq_getElem hlt], fun n hn => hw n ?_⟩
  simp only [DataW.weights, ht]
  exact DataW.weights_mem_each (j := i) (t := f.type) (d := xs[i].1) (by simp [hi]) (by simp [hlt]) n hn
section
variable {H : Type} {enc : TypeId × Value → H} {w : World} {base : Nat} {spare : Nat → Bool} {held : Bool} {m : Nat} {cs : List Value} {fs : Array Field} {ft : TypeId} {o n B : Nat}
theorem fieldOpen (hf : Fields enc P w base spare held m fs cs) (i : Nat) (hi : (fs[i]?).map (fun f => (f.type, f.offset, P.cellsOf f.type)) = some (ft, o, n)) (hE : n = E.sz)
    (hop : OpenP P ft E ok) : ∃ y, cs.drop o = E.enc y ++ cs.drop (o + E.sz) ∧ ok y := by
  obtain ⟨f, h1, h2⟩ := Option.map_eq_some_iff.1 hi
  simp only [Prod.mk.injEq] at h2
  obtain ⟨rfl, rfl, h3⟩ := h2
  obtain ⟨x, h4, hw⟩ := hf i f h1
  rw [h3, hE] at h4
  obtain ⟨y, h5, h6⟩ := hop H enc w base spare held m _ _ h4 hw
  refine ⟨y, ?_, h6⟩
  conv => lhs; rw [← List.take_append_drop E.sz (cs.drop f.offset)]
  rw [h5, List.drop_drop]
theorem weights_mem_all : ∀ {l : List (DataW H)} {d : DataW H}, d ∈ l → ∀ n ∈ d.weights P e, n ∈ DataW.weightsAll P e l
  | d0 :: l, d, hd, n, hn => by
    rw [DataW.weightsAll, List.mem_append]
    rcases List.mem_cons.1 hd with rfl | hd
    · exact .inl hn
    · exact .inr (weights_mem_all hd n hn)
/-- A slice comes in. -/
theorem slice_open {fuel : Nat} {x : DataW H × List MemPlace} (ht : P.underlying t = some (.slice e)) (hE : P.cellsOf e = E.sz) (hop : OpenP P e E ok) (hB : P.bytesOf e = B) (h : DataW.trod enc P w base spare held fuel t cs = some x) (hw : Light P t x) :
    ∃ A cap l, cs = [.slice A (List.length l) cap] ∧ Rd w E A cap l ∧ (∀ y ∈ l, ok y) ∧ l.length * B ≤ 140737488351232 := by
  rcases DataW.trod_slice ht h with ⟨rfl, rfl⟩ | ⟨a, len, cap, elems, rest, n, _, rfl, rfl, hb, hl, hm, hlen, hel, _, _⟩
  · exact ⟨none, 0, [], rfl, Rd.nil _ _, by simp, by simp⟩
  have hwl : ∀ d ∈ elems, Light P e d := fun d hd n hn => hw n (by
    simp only [DataW.weights, ht, List.mem_cons, List.mem_append]
    exact .inr (.inl (weights_mem_all (List.mem_map_of_mem hd) n hn)))
  have hB' : len * B ≤ 140737488351232 := by
    have := hw ((elems.length + rest.length) * B) (by simp [DataW.weights, ht, hB])
    rw [hlen] at this
    exact Nat.le_trans (Nat.mul_le_mul_right _ (by omega)) this
  have each : ∀ i, i < len → ∃ y, ok y ∧ ∀ j u, (E.enc y)[j]? = some u → w.cell? (a.add (i * E.sz + j)) = some u := by
    intro i hi
    have h1 := hel i hi
    have hlt : i < elems.length := by omega
    rw [List.getElem?_eq_getElem hlt, Option.bind_eq_some_iff] at h1
    obtain ⟨ci, hci, hti⟩ := h1
    obtain ⟨y, rfl, hy⟩ := hop H enc w base spare held n _ _ hti (hwl _ (List.getElem_mem hlt))
    refine ⟨y, hy, fun j u hj => ?_⟩
    rw [hE] at hci
    obtain ⟨_, hlc, hc⟩ := World.cells?_some hci
    have hjl : j < E.sz := by rw [← E.len y]; exact (List.getElem?_eq_some_iff.1 hj).1
    have := hc j hjl
    rw [add_add'] at this
    rw [this]
    exact hj
  have mk : ∀ k, k ≤ len → ∃ l : List α, l.length = k ∧ (∀ y ∈ l, ok y) ∧ ∀ i y, l[i]? = some y → ∀ j u, (E.enc y)[j]? = some u → w.cell? (a.add (i * E.sz + j)) = some u := by
    intro k
    induction k with
    | zero => intro _; exact ⟨[], rfl, by simp, by intro i y h; cases h⟩
    | succ k ih =>
      intro hk
      obtain ⟨l, h1, h2, h3⟩ := ih (by omega)
      obtain ⟨y, hy, hc⟩ := each k (by omega)
      refine ⟨l ++ [y], by simp [h1], ?_, fun i z hz => ?_⟩
      · intro z hz
        rcases List.mem_append.1 hz with hz | hz
        · exact h2 z hz
        · rw [List.mem_singleton.1 hz]; exact hy
      · by_cases hi : i < l.length
        · rw [List.getElem?_append_left hi] at hz; exact h3 i z hz
        · have hik : i = k := by
            have := (List.getElem?_eq_some_iff.1 hz).1
            simp at this
            omega
          subst hik
          rw [List.getElem?_append_right (by omega), h1, Nat.sub_self] at hz
          simp only [List.getElem?_cons_zero, Option.some.injEq] at hz
          subst hz
          exact hc
  obtain ⟨l, h1, h2, h3⟩ := mk len (Nat.le_refl _)
  exact ⟨some a, cap, l, by rw [h1], ⟨by omega, fun i y hi => ⟨a, rfl, h3 i y hi⟩⟩, h2, by rw [h1]; exact hB'⟩
theorem fieldSlice (hf : Fields enc P w base spare held m fs cs) (i : Nat) (hi : (fs[i]?).map (fun f => (f.type, f.offset, P.cellsOf f.type)) = some (ft, o, 1))
    (ht : P.underlying ft = some (.slice e)) (hE : P.cellsOf e = E.sz) (hop : OpenP P e E ok) (hB : P.bytesOf e = B) : ∃ A cap l, cs.drop o = .slice A (List.length l) cap :: cs.drop (o + 1) ∧ Rd w E A cap l ∧ (∀ y ∈ l, ok y) ∧ l.length * B ≤ 140737488351232 := by
  obtain ⟨f, h1, h2⟩ := Option.map_eq_some_iff.1 hi
  simp only [Prod.mk.injEq] at h2
  obtain ⟨rfl, rfl, h3⟩ := h2
  obtain ⟨x, h4, hw⟩ := hf i f h1
  rw [h3] at h4
  obtain ⟨A, cap, l, h5, h6⟩ := slice_open ht hE hop hB h4 hw
  refine ⟨A, cap, l, ?_, h6⟩
  conv => lhs; rw [← List.take_append_drop 1 (cs.drop f.offset)]
  rw [h5, List.drop_drop]
  rfl
end
theorem okWide_struct {P : Program} {w : World} {r : Reach} {b0 : Nat} {v : Value} {fs : Array Field} (ht : P.underlying t = some (.struct fs)) (h : Value.okWide P w r b0 t v) : ∃ cs, v = .agg cs := by
  unfold Value.okWide at h
  rw [ht] at h
  obtain ⟨cs, h1, _⟩ := h
  exact ⟨cs, h1⟩
theorem light_of {H : Type} {ts : List TypeId} {ds : List (DataW H)} {j : Nat} {d : DataW H} {ps : List MemPlace} (hsz : (DataW.weightsEach P ts ds).all (· ≤ reachBytes) = true) (hj : ts[j]? = some t) (hdj : ds[j]? = some d) : Light P t (d, ps) := fun n hn => by
  simpa using List.all_eq_true.1 hsz _ (DataW.weights_mem_each hj hdj n hn)
theorem open_struct {H : Type} {enc : TypeId × Value → H} {w : World} {base b0 : Nat} {spare : Nat → Bool} {held : Bool} {r : Reach} {v : Value} {d : DataW H} {ps : List MemPlace} {fs : Array Field} (hop : OpenP P t E ok) (ht : P.underlying t = some (.struct fs)) (hval : Value.okWide P w r b0 t v) (hd : DataW.Trod enc P w base spare held t v d ps)
    {ts : List TypeId} {ds : List (DataW H)} {j : Nat} (hsz : (DataW.weightsEach P ts ds).all (· ≤ reachBytes) = true) (hj : ts[j]? = some t) (hdj : ds[j]? = some d) :
    ∃ y, v = .agg (E.enc y).toArray ∧ ok y := by
  obtain ⟨cs, rfl⟩ := okWide_struct ht hval
  obtain ⟨fuel, hf⟩ := hd
  obtain ⟨y, h1, h2⟩ := hop H enc w base spare held fuel _ _ hf (light_of hsz hj hdj)
  refine ⟨y, ?_, h2⟩
  have h1 : cs.toList = _ := h1
  rw [← h1]
/-- A slice that came in. -/
theorem open_rowP {H : Type} {enc : TypeId × Value → H} {w : World} {base b0 : Nat} {spare : Nat → Bool} {held : Bool} {r : Reach} {v : Value} {d : DataW H} {ps : List MemPlace} {B : Nat} {ts : List TypeId} {ds : List (DataW H)} {j : Nat} (hop : OpenP P e E ok) (ht : P.underlying t = some (.slice e)) (hE : P.cellsOf e = E.sz) (hB : P.bytesOf e = B) (hval : Value.okWide P w r b0 t v) (hd : DataW.Trod enc P w base spare held t v d ps)
    (hsz : (DataW.weightsEach P ts ds).all (· ≤ reachBytes) = true) (hj : ts[j]? = some t) (hdj : ds[j]? = some d) :
    ∃ A cap l, v = .slice A (List.length l) cap ∧ Rd w E A cap l ∧ (∀ y ∈ l, ok y) ∧ l.length * B ≤ 140737488351232 := by
  obtain ⟨a, len, cap, rfl⟩ := okWide_slice ht hval
  obtain ⟨fuel, hf⟩ := hd
  obtain ⟨A, c, l, h1, h2⟩ := slice_open ht hE hop hB hf (light_of hsz hj hdj)
  refine ⟨A, c, l, ?_, h2⟩
  simpa [Value.cells] using h1
/-- The fields of a struct that came in. -/
theorem open_fields {H : Type} {enc : TypeId × Value → H} {w : World} {base b0 : Nat} {spare : Nat → Bool} {held : Bool} {r : Reach} {v : Value} {d : DataW H} {ps : List MemPlace} {fs : Array Field} (ht : P.underlying t = some (.struct fs)) (hval : Value.okWide P w r b0 t v) (hd : DataW.Trod enc P w base spare held t v d ps)
    {ts : List TypeId} {ds : List (DataW H)} {j : Nat} (hsz : (DataW.weightsEach P ts ds).all (· ≤ reachBytes) = true) (hj : ts[j]? = some t) (hdj : ds[j]? = some d) :
    ∃ cs : Array Value, v = .agg cs ∧ cs.toList.length = P.cellsOf t ∧ ∃ m, Fields enc P w base spare held m fs cs.toList := by
  obtain ⟨cs, rfl⟩ := okWide_struct ht hval
  obtain ⟨fuel, hf⟩ := hd
  exact ⟨cs, rfl, struct_fields ht hf (light_of hsz hj hdj)⟩
end
end Go.Proofs.YtlpiomnmaiddbaaGreatDoor.E
namespace Go.Proofs.YtlpiomnmaiddbaaGreatDoor.LA
set_option linter.unusedVariables false
set_option linter.unusedSimpArgs false
open Go Go.RowKit Go.Proofs.YtlpiomnmaiddbaaGreatDoor.E
theorem w64s {x : Int} (h0 : -9000000000000000000 ≤ x) (h1 : x ≤ 9000000000000000000) : w64 x = x := w64_id (by omega) (by omega)
theorem p2 (n : Nat) : ((2 : Int) ^ n) = ((2 ^ n : Nat) : Int) := by rw [Int.natCast_pow]; rfl
theorem p2pos (n : Nat) : 0 < 2 ^ n := Nat.pow_pos (by omega)
theorem p2le {i : Nat} (h : i ≤ 32) : 2 ^ i ≤ 4294967296 := Nat.pow_le_pow_right (n := 2) (by omega) h
theorem shr_nat {k : IntKind} {w i : Nat} (h : i ≤ k.bits) : shr k (w : Int) (i : Int) = ((w / 2 ^ i : Nat) : Int) := by
  unfold shr
  rw [Int.toNat_natCast, Nat.min_eq_left h, p2, Int.fdiv_eq_ediv_of_nonneg _ (Int.natCast_nonneg _)]
  rfl
theorem shl_u32 {w i : Nat} (h : i ≤ 32) (hw : w * 2 ^ i < 4294967296) : shl .u32 (w : Int) (i : Int) = ((w * 2 ^ i : Nat) : Int) := by
  unfold shl
  rw [Int.toNat_natCast, show min i IntKind.u32.bits = i from Nat.min_eq_left h, p2, ← Int.natCast_mul]
  exact wrap_nat (k := .u32) hw
theorem band_one {x : Nat} (h : x < 4294967296) : band .u32 (x : Int) 1 = ((x % 2 : Nat) : Int) := by
  rw [band_nat (by omega) (by simp only [umax]; omega) (by omega) (by decide)]
  rw [Int.toNat_natCast, show (1 : Int).toNat = 1 from rfl, Nat.and_one_is_mod]
theorem bor_u32 {x y : Nat} (hx : x < 4294967296) (hy : y < 4294967296) : bor .u32 (x : Int) (y : Int) = ((x ||| y : Nat) : Int) := by
  rw [bor_nat (by decide) (by omega) (by simp only [umax]; omega) (by omega) (by simp only [umax]; omega)]
  rfl
theorem bandn_u32 {x y : Nat} (hx : x < 4294967296) (hy : y < 4294967296) : bandn .u32 (x : Int) (y : Int) = ((x &&& (4294967295 - y) : Nat) : Int) := by
  rw [bandn_nat (by decide) (by omega) (by simp only [umax]; omega) (by omega) (by simp only [umax]; omega)]
  rfl
/-- A bit that is none is put in. -/
theorem or_bit {v i b : Nat} (h : v / 2 ^ i % 2 = 0) (hb : b ≤ 1) : v ||| b * 2 ^ i = v + b * 2 ^ i := by
  have hp := p2pos i
  have hr : v % 2 ^ i < 2 ^ i := Nat.mod_lt _ hp
  have hv : v = 2 ^ i * (v / 2 ^ i) + v % 2 ^ i := (Nat.div_add_mod v (2 ^ i)).symm
  obtain ⟨m, hm⟩ : ∃ m, v / 2 ^ i = 2 * m := ⟨v / 2 ^ i / 2, by omega⟩
  have e1 : 2 * m ||| b = 2 * m + b := by
    have := or_high (x := m) (y := b) (n := 1) (by omega)
    simpa using this
  have e2 : v ||| b * 2 ^ i = 2 ^ i * (2 * m ||| b) ||| v % 2 ^ i := by
    conv => lhs; rw [hv, ← or_high hr]
    rw [hm, Nat.mul_comm b, Nat.or_assoc, Nat.or_comm (v % 2 ^ i), ← Nat.or_assoc]
    congr 1
    rw [Nat.mul_comm _ (2 * m), Nat.mul_comm _ b, Nat.mul_comm _ (2 * m ||| b), ← Nat.shiftLeft_eq, ← Nat.shiftLeft_eq, ← Nat.shiftLeft_eq, Nat.shiftLeft_or_distrib]
  rw [e2, e1, or_high hr]
  conv => rhs; rw [hv, hm]
  rw [Nat.mul_add, Nat.mul_comm b]
  omega
theorem andn_bit {v i : Nat} (h : v / 2 ^ i % 2 = 0) (hv : v < 4294967296) (hi : i < 32) : v &&& (4294967295 - 2 ^ i) = v := by
  have h2 : 2 ^ i < 2 ^ 32 := Nat.pow_lt_pow_right (by omega) hi
  apply Nat.eq_of_testBit_eq
  intro j
  rw [Nat.testBit_and, show 4294967295 - 2 ^ i = 2 ^ 32 - (2 ^ i + 1) by omega, Nat.testBit_two_pow_sub_succ h2, Nat.testBit_two_pow]
  by_cases hj : j < 32
  · by_cases e : i = j
    · subst e
      have : v.testBit i = false := by rw [Nat.testBit_eq_decide_div_mod_eq, h]; rfl
      simp [this]
    · simp [hj, e]
  · have : v.testBit j = false := Nat.testBit_lt_two_pow (Nat.lt_of_lt_of_le hv (by have : 2 ^ 32 ≤ 2 ^ j := Nat.pow_le_pow_right (by omega) (by omega); omega))
    simp [this]
theorem get_is {w at' n : Nat} (hw : w < 4294967296) (h1 : 1 ≤ n) (h2 : at' + n ≤ 32) : field_Get (w : Int) (at' : Int) (n : Int) = some ((w / 2 ^ at' % 2 ^ n : Nat) : Int) := by
  have key : ∀ k p, p + k = n → loopO field_each.b1 ((at' : Int), (n : Int), ((at' + p : Nat) : Int), ((w / 2 ^ at' % 2 ^ p : Nat) : Int), (w : Int)) = some (((w / 2 ^ at' % 2 ^ n : Nat) : Int), (w : Int)) := by
    intro k
    induction k with
    | zero =>
      intro p hp
      obtain rfl : p = n := by omega
      refine loopO_done ?_
      simp only [field_each.b1]
      have e : w64 (((at' + p : Nat) : Int) - (at' : Int)) = (p : Int) := by rw [w64s (by omega) (by omega)]; omega
      rw [e]
      by_cases h : ((at' + p : Nat) : Int) < 32
      · rw [if_pos h]; simp
      · rw [if_neg h]
    | succ k ih =>
      intro p hp
      rw [← ih (p + 1) (by omega)]
      refine loopO_next ?_
      simp only [field_each.b1, field_Get_1]
      have e : w64 (((at' + p : Nat) : Int) - (at' : Int)) = (p : Int) := by rw [w64s (by omega) (by omega)]; omega
      have hq : w / 2 ^ (at' + p) < 4294967296 := Nat.lt_of_le_of_lt (Nat.div_le_self _ _) hw
      have hb : w / 2 ^ (at' + p) % 2 < 2 := Nat.mod_lt _ (by omega)
      have hp2 : 2 ^ p * 2 ≤ 4294967296 := by rw [← Nat.pow_succ]; exact p2le (by omega)
      have hbp : w / 2 ^ (at' + p) % 2 * 2 ^ p ≤ 1 * 2 ^ p := Nat.mul_le_mul_right _ (by omega)
      have ho : w / 2 ^ at' % 2 ^ p < 2 ^ p := Nat.mod_lt _ (p2pos p)
      rw [if_pos (by omega), e, if_pos (by omega), if_pos (by omega), if_pos (by omega), shr_nat (k := .u32) (by simp only [IntKind.bits]; omega), band_one hq, shl_u32 (by omega) (by omega), bor_u32 (by omega) (by omega), w64s (by omega) (by omega)]
      have e2 : w / 2 ^ at' % 2 ^ p ||| w / 2 ^ (at' + p) % 2 * 2 ^ p = w / 2 ^ at' % 2 ^ (p + 1) := by
        rw [Nat.or_comm, Nat.mul_comm, or_high ho, Nat.mod_pow_succ, Nat.pow_add, ← Nat.div_div_eq_div_mul, Nat.add_comm]
      rw [e2]
      rfl
  have h0 := key n 0 (by omega)
  have hm : mxx (at' : Int) 0 = (at' : Int) := by unfold mxx; rw [if_neg (by omega)]
  simp only [Nat.pow_zero, Nat.mod_one, Nat.add_zero] at h0
  have h0' : loopO field_each.b1 ((at' : Int), (n : Int), (at' : Int), 0, (w : Int)) = some (((w / 2 ^ at' % 2 ^ n : Nat) : Int), (w : Int)) := h0
  unfold field_Get field_each
  rw [if_neg (by omega), if_neg (by omega), if_neg (by rw [w64s (by omega) (by omega)]; omega), hm, h0']
  rfl
theorem set_is {w at' n x : Nat} (hw : w < 4294967296) (hx : x < 4294967296) (h1 : 1 ≤ n) (h2 : at' + n ≤ 32) (hz : w / 2 ^ at' % 2 ^ n = 0) : field_Set (w : Int) (at' : Int) (n : Int) (x : Int) = some ((w + x % 2 ^ n * 2 ^ at' : Nat) : Int) := by
  have hwd : w = 2 ^ at' * (2 ^ n * (w / 2 ^ at' / 2 ^ n)) + w % 2 ^ at' := by
    have e1 := Nat.div_add_mod w (2 ^ at')
    have e2 := Nat.div_add_mod (w / 2 ^ at') (2 ^ n)
    rw [hz, Nat.add_zero] at e2
    rw [e2]; exact e1.symm
  have hlow : w % 2 ^ at' < 2 ^ at' := Nat.mod_lt _ (p2pos _)
  -- the field's place
  have hdiv : ∀ p y, p < n → y < 2 ^ p → (w + y * 2 ^ at') / 2 ^ (at' + p) % 2 = 0 := by
    intro p y hp hy
    have e : (w + y * 2 ^ at') / 2 ^ at' = 2 ^ n * (w / 2 ^ at' / 2 ^ n) + y := by
      conv => lhs; rw [hwd]
      rw [show 2 ^ at' * (2 ^ n * (w / 2 ^ at' / 2 ^ n)) + w % 2 ^ at' + y * 2 ^ at' = w % 2 ^ at' + 2 ^ at' * (2 ^ n * (w / 2 ^ at' / 2 ^ n) + y) by rw [Nat.mul_add, Nat.mul_comm y]; omega]
      rw [Nat.add_mul_div_left _ _ (p2pos _), Nat.div_eq_of_lt hlow, Nat.zero_add]
    rw [Nat.pow_add, ← Nat.div_div_eq_div_mul, e]
    rw [show n = p + (1 + (n - p - 1)) by omega, Nat.pow_add, Nat.mul_assoc, Nat.add_comm, Nat.add_mul_div_left _ _ (p2pos _), Nat.div_eq_of_lt hy, Nat.zero_add, Nat.pow_add, Nat.mul_assoc, Nat.pow_one]
    exact Nat.mul_mod_right _ _
  have hlt : ∀ p y, p ≤ n → y < 2 ^ p → w + y * 2 ^ at' < 4294967296 := by
    intro p y hp hy
    have hy : y < 2 ^ n := Nat.lt_of_lt_of_le hy (Nat.pow_le_pow_right (by omega) hp)
    have hm : y * 2 ^ at' + 2 ^ at' ≤ 2 ^ n * 2 ^ at' := by rw [← Nat.succ_mul]; exact Nat.mul_le_mul_right _ hy
    have hk : 2 ^ at' * (2 ^ n * (w / 2 ^ at' / 2 ^ n)) + 2 ^ n * 2 ^ at' ≤ 4294967296 := by
      have e : 2 ^ at' * (2 ^ n * (w / 2 ^ at' / 2 ^ n)) + 2 ^ n * 2 ^ at' = 2 ^ (at' + n) * (w / 2 ^ (at' + n) + 1) := by
        rw [Nat.div_div_eq_div_mul, ← Nat.pow_add, ← Nat.mul_assoc, ← Nat.pow_add, Nat.mul_add, Nat.mul_one, Nat.mul_comm (2 ^ n), ← Nat.pow_add]
      rw [e]
      have hs : 2 ^ 32 = 2 ^ (at' + n) * 2 ^ (32 - (at' + n)) := by rw [← Nat.pow_add]; congr 1; omega
      have hlt : w / 2 ^ (at' + n) < 2 ^ (32 - (at' + n)) := by
        apply Nat.div_lt_of_lt_mul
        rw [← hs]; exact hw
      calc 2 ^ (at' + n) * (w / 2 ^ (at' + n) + 1) ≤ 2 ^ (at' + n) * 2 ^ (32 - (at' + n)) := Nat.mul_le_mul_left _ hlt
        _ = 4294967296 := by rw [← hs]
    omega
  have key : ∀ k p, p + k = n → loopO field_each_v41.b1 ((at' : Int), (n : Int), ((at' + p : Nat) : Int), ((w + x % 2 ^ p * 2 ^ at' : Nat) : Int), (x : Int)) = some (((w + x % 2 ^ n * 2 ^ at' : Nat) : Int), (x : Int)) := by
    intro k
    induction k with
    | zero =>
      intro p hp
      obtain rfl : p = n := by omega
      refine loopO_done ?_
      simp only [field_each_v41.b1]
      have e : w64 (((at' + p : Nat) : Int) - (at' : Int)) = (p : Int) := by rw [w64s (by omega) (by omega)]; omega
      rw [e]
      by_cases h : ((at' + p : Nat) : Int) < 32
      · rw [if_pos h]; simp
      · rw [if_neg h]
    | succ k ih =>
      intro p hp
      rw [← ih (p + 1) (by omega)]
      refine loopO_next ?_
      simp only [field_each_v41.b1, field_Set_1]
      have e : w64 (((at' + p : Nat) : Int) - (at' : Int)) = (p : Int) := by rw [w64s (by omega) (by omega)]; omega
      have hy : x % 2 ^ p < 2 ^ p := Nat.mod_lt _ (p2pos _)
      have hv := hlt p (x % 2 ^ p) (by omega) hy
      have hd := hdiv p (x % 2 ^ p) (by omega) hy
      have hq : x / 2 ^ p < 4294967296 := Nat.lt_of_le_of_lt (Nat.div_le_self _ _) hx
      have hb : x / 2 ^ p % 2 < 2 := Nat.mod_lt _ (by omega)
      have hi : 2 ^ (at' + p) * 2 ≤ 4294967296 := by rw [← Nat.pow_succ]; exact p2le (by omega)
      have hbp : x / 2 ^ p % 2 * 2 ^ (at' + p) ≤ 1 * 2 ^ (at' + p) := Nat.mul_le_mul_right _ (by omega)
      have hs1 : shl .u32 (1 : Int) ((at' + p : Nat) : Int) = ((1 * 2 ^ (at' + p) : Nat) : Int) := shl_u32 (w := 1) (by omega) (by omega)
      rw [if_pos (by omega), e, if_pos (by omega), if_pos (by omega), if_pos (by omega), if_pos (by omega), hs1, Nat.one_mul, bandn_u32 hv (by omega), andn_bit hd hv (by omega), shr_nat (k := .u32) (by simp only [IntKind.bits]; omega), band_one hq, shl_u32 (by omega) (by omega), bor_u32 hv (by omega), or_bit hd (by omega), w64s (by omega) (by omega)]
      have e2 : w + x % 2 ^ p * 2 ^ at' + x / 2 ^ p % 2 * 2 ^ (at' + p) = w + x % 2 ^ (p + 1) * 2 ^ at' := by
        rw [Nat.mod_pow_succ, Nat.add_mul, Nat.pow_add, Nat.mul_comm (2 ^ p) (x / 2 ^ p % 2), Nat.mul_assoc, Nat.mul_comm (2 ^ p) (2 ^ at'), Nat.add_assoc]
      rw [e2]
      rfl
  have h0 := key n 0 (by omega)
  have hm : mxx (at' : Int) 0 = (at' : Int) := by unfold mxx; rw [if_neg (by omega)]
  simp only [Nat.pow_zero, Nat.mod_one, Nat.zero_mul, Nat.add_zero] at h0
  have h0' : loopO field_each_v41.b1 ((at' : Int), (n : Int), (at' : Int), (w : Int), (x : Int)) = some (((w + x % 2 ^ n * 2 ^ at' : Nat) : Int), (x : Int)) := h0
  unfold field_Set field_each_v41
  rw [if_neg (by omega), if_neg (by omega), if_neg (by rw [w64s (by omega) (by omega)]; omega), hm, h0']
  rfl
end Go.Proofs.YtlpiomnmaiddbaaGreatDoor.LA
namespace Go.Proofs.YtlpiomnmaiddbaaGreatDoor.LA
set_option linter.unusedVariables false
set_option linter.unusedSimpArgs false
open Go Go.RowKit Go.Proofs.YtlpiomnmaiddbaaGreatDoor.E
/-- The lowest n bits of a number. -/
def fld (f : Int) (n : Nat) : Nat := (f % ((2 ^ n : Nat) : Int)).toNat
theorem fld_lt (f : Int) (n : Nat) : fld f n < 2 ^ n := by
  unfold fld
  have := Int.emod_lt_of_pos f (show (0 : Int) < ((2 ^ n : Nat) : Int) by have := p2pos n; omega)
  have := Int.emod_nonneg f (show ((2 ^ n : Nat) : Int) ≠ 0 by have := p2pos n; omega)
  omega
theorem fld_int (f : Int) (n : Nat) : ((fld f n : Nat) : Int) = f % ((2 ^ n : Nat) : Int) := by
  unfold fld
  exact Int.toNat_of_nonneg (Int.emod_nonneg f (by have := p2pos n; omega))
theorem fld_w (f : Int) {n : Nat} (h : n ≤ 32) : (wu32 f).toNat % 2 ^ n = fld f n := by
  have hd : ((2 ^ n : Nat) : Int) ∣ 4294967296 := by
    refine ⟨((2 ^ (32 - n) : Nat) : Int), ?_⟩
    rw [← Int.natCast_mul, ← Nat.pow_add, show n + (32 - n) = 32 by omega]
    rfl
  have h1 : f % 4294967296 % ((2 ^ n : Nat) : Int) = f % ((2 ^ n : Nat) : Int) := Int.emod_emod_of_dvd f hd
  have h0 : 0 ≤ f % 4294967296 := Int.emod_nonneg f (by omega)
  have : (((wu32 f).toNat % 2 ^ n : Nat) : Int) = ((fld f n : Nat) : Int) := by
    rw [fld_int, ← h1, wu32_eq, Int.natCast_emod, Int.toNat_of_nonneg h0]
  omega
theorem v3 (a b c : Int) : vset (vset (vset (Vector.replicate 3 0) 0 a) (0 + 1) b) (1 + 1) c = #v[a, b, c] := rfl
theorem lay_step {l : List (Vector Int 3)} {i v a n : Nat} {f : Int} (hv : v < 4294967296) (hz : v / 2 ^ a % 2 ^ n = 0) (h1 : 1 ≤ n) (h2 : a + n ≤ 32) (hl : l[i]? = some #v[(a : Int), (n : Int), f]) (hi : l.length < 1000) :
    loopO isa_lay.b1 ((v : Int), (l.length : Int), (i : Int), l) = loopO isa_lay.b1 (((v + fld f n * 2 ^ a : Nat) : Int), (l.length : Int), ((i + 1 : Nat) : Int), l) := by
  refine loopO_next ?_
  have hlt : i < l.length := (List.getElem?_eq_some_iff.1 hl).1
  have hx : ix (Vector.replicate 3 0) l (i : Int) = #v[(a : Int), (n : Int), f] := by
    show l.getD (i : Int).toNat _ = _
    rw [Int.toNat_natCast, List.getD_eq_getElem?_getD, hl]
    rfl
  have hw : wu32 f = (((wu32 f).toNat : Nat) : Int) := by rw [wu32_eq]; omega
  have hw2 : (wu32 f).toNat < 4294967296 := by rw [wu32_eq]; omega
  have hs := set_is hv hw2 h1 h2 hz
  rw [fld_w f (by omega)] at hs
  simp only [isa_lay.b1]
  rw [if_pos (by omega), if_pos (by omega), hx]
  have e0 : vx 0 (#v[(a : Int), (n : Int), f] : Vector Int 3) (Int.toNat 0) = (a : Int) := rfl
  have e1 : vx 0 (#v[(a : Int), (n : Int), f] : Vector Int 3) (Int.toNat 1) = (n : Int) := rfl
  have e2 : vx 0 (#v[(a : Int), (n : Int), f] : Vector Int 3) (Int.toNat 2) = f := rfl
  rw [e0, e1, e2, hw, hs, w64s (by omega) (by omega)]
  rfl
theorem lay_end {l : List (Vector Int 3)} {v : Int} : loopO isa_lay.b1 (v, (l.length : Int), (l.length : Int), l) = some v := by
  refine loopO_done ?_
  simp only [isa_lay.b1]
  rw [if_neg (by omega)]
def b2n (b : Bool) : Nat := if b then 1 else 0
theorem head_is (f : Nat) (hf : f < 4) (u v : Bool) : isa_head (f : Int) u v = some #v[28, 4, ((4 * f + 2 * b2n u + b2n v : Nat) : Int)] := by
  have h : f = 0 ∨ f = 1 ∨ f = 2 ∨ f = 3 := by omega
  rcases h with rfl | rfl | rfl | rfl <;> cases u <;> cases v <;> rfl
theorem fld_small {x n : Nat} (h : x < 2 ^ n) : fld (x : Int) n = x := by
  unfold fld
  rw [Int.emod_eq_of_lt (by omega) (by omega)]
  rfl
theorem hd_lt (f : Nat) (hf : f < 4) (u v : Bool) : 4 * f + 2 * b2n u + b2n v < 16 := by cases u <;> cases v <;> simp [b2n] <;> omega
section
variable (A B C O M : Int) (U : Bool)
theorem word1 : isa_word ⟨1, O, A, B, C, M, U⟩ = some (((4 * 0 + 2 * b2n U + b2n false) * 268435456 + fld A 4 * 16777216 + fld B 4 * 1048576 + fld O 4 * 65536 + fld C 4 : Nat) : Int) := by
  unfold isa_word
  have hh := head_is 0 (by omega) U false
  have hb := hd_lt 0 (by omega) U false
  have ha := fld_lt A 4; have hb' := fld_lt B 4; have ho := fld_lt O 4; have hc := fld_lt C 4
  simp only [Int.natCast_zero, if_true] at hh ⊢
  rw [hh]
  simp only [v3, Option.bind_some, isa_lay]
  generalize 4 * 0 + 2 * b2n U + b2n false = h at *
  have hq := fld_small (x := h) (n := 4) hb
  have s0 := lay_step (l := [#v[28, 4, (h : Int)], #v[24, 4, A], #v[20, 4, B], #v[16, 4, O], #v[0, 4, C]]) (i := 0) (v := 0) (a := 28) (n := 4) (f := (h : Int)) (by omega) (by decide) (by omega) (by omega) rfl (by simp)
  have s1 := lay_step (l := [#v[28, 4, (h : Int)], #v[24, 4, A], #v[20, 4, B], #v[16, 4, O], #v[0, 4, C]]) (i := 1) (v := 0 + fld (h : Int) 4 * 2 ^ 28) (a := 24) (n := 4) (f := A) (by rw [hq]; omega) (by rw [hq]; omega) (by omega) (by omega) rfl (by simp)
  have s2 := lay_step (l := [#v[28, 4, (h : Int)], #v[24, 4, A], #v[20, 4, B], #v[16, 4, O], #v[0, 4, C]]) (i := 2) (v := 0 + fld (h : Int) 4 * 2 ^ 28 + fld A 4 * 2 ^ 24) (a := 20) (n := 4) (f := B) (by rw [hq]; omega) (by rw [hq]; omega) (by omega) (by omega) rfl (by simp)
  have s3 := lay_step (l := [#v[28, 4, (h : Int)], #v[24, 4, A], #v[20, 4, B], #v[16, 4, O], #v[0, 4, C]]) (i := 3) (v := 0 + fld (h : Int) 4 * 2 ^ 28 + fld A 4 * 2 ^ 24 + fld B 4 * 2 ^ 20) (a := 16) (n := 4) (f := O) (by rw [hq]; omega) (by rw [hq]; omega) (by omega) (by omega) rfl (by simp)
  have s4 := lay_step (l := [#v[28, 4, (h : Int)], #v[24, 4, A], #v[20, 4, B], #v[16, 4, O], #v[0, 4, C]]) (i := 4) (v := 0 + fld (h : Int) 4 * 2 ^ 28 + fld A 4 * 2 ^ 24 + fld B 4 * 2 ^ 20 + fld O 4 * 2 ^ 16) (a := 0) (n := 4) (f := C) (by rw [hq]; omega) (by rw [hq]; omega) (by omega) (by omega) rfl (by simp)
  have e := ((((s0.trans s1).trans s2).trans s3).trans s4).trans (lay_end (l := [#v[28, 4, (h : Int)], #v[24, 4, A], #v[20, 4, B], #v[16, 4, O], #v[0, 4, C]]))
  simp only [Int.natCast_zero] at e
  rw [e]
  simp only [Option.bind_some]
  rw [hq]
  congr 2
  omega
theorem word34 {K : Int} (hK : K = 3 ∨ K = 4) : isa_word ⟨K, O, A, B, C, M, U⟩ = some (((4 * 0 + 2 * b2n true + b2n (decide (K = 4))) * 268435456 + fld A 4 * 16777216 : Nat) : Int) := by
  unfold isa_word
  have hh := head_is 0 (by omega) true (decide (K = 4))
  have hb := hd_lt 0 (by omega) true (decide (K = 4))
  have ha := fld_lt A 4
  have e3 : decide (K = 4) = decide (K = 4) := rfl
  simp only []
  rw [if_neg (by omega)]
  have e4 : ∀ (x : Int) (b b' : Bool) (p q r t : Int) (z1 z2 z3 z4 : Vector Int 3), b = true → b' = true → isa_word.j1 x b K p q r t M U z1 z2 z3 z4 = isa_word.j1 x b' K p q r t M U z1 z2 z3 z4 := by intro x b b' p q r t z1 z2 z3 z4 h h'; rw [h, h']
  have e5 : ∀ {α : Type} (a b : α), (K = 3 → a = b) → (if K = 3 then a else b) = b := by intro α a b h; split; exact h ‹_›; rfl
  simp only [isa_word.j1]
  have e6 : ∀ {α : Type} (a b : α), (if K = 3 then a else if decide (K = 4) = true then a else b) = a := by
    intro α a b
    split
    · rfl
    · rw [if_pos (by simp; omega)]
  simp only [if_true]
  rw [e6]
  clear e4 e5 e6 e3
  simp only [Int.natCast_zero] at hh
  rw [hh]
  simp only [v3, Option.bind_some, isa_lay]
  generalize 4 * 0 + 2 * b2n true + b2n (decide (K = 4)) = h at *
  have hq := fld_small (x := h) (n := 4) hb
  have s0 := lay_step (l := [#v[28, 4, (h : Int)], #v[24, 4, A]]) (i := 0) (v := 0) (a := 28) (n := 4) (f := (h : Int)) (by omega) (by decide) (by omega) (by omega) rfl (by simp)
  have s1 := lay_step (l := [#v[28, 4, (h : Int)], #v[24, 4, A]]) (i := 1) (v := 0 + fld (h : Int) 4 * 2 ^ 28) (a := 24) (n := 4) (f := A) (by rw [hq]; omega) (by rw [hq]; omega) (by omega) (by omega) rfl (by simp)
  have e := (s0.trans s1).trans (lay_end (l := [#v[28, 4, (h : Int)], #v[24, 4, A]]))
  simp only [Int.natCast_zero] at e
  rw [e]
  simp only [Option.bind_some]
  rw [hq]
  congr 2
  omega
theorem word2 : isa_word ⟨2, O, A, B, C, M, U⟩ = some (((4 * 1 + 2 * b2n U + b2n (decide (M < 0))) * 268435456 + fld A 4 * 16777216 + fld B 4 * 1048576 + fld O 4 * 65536 + fld M 16 : Nat) : Int) := by
  unfold isa_word
  have hh := head_is 1 (by omega) U (decide (M < 0))
  have hb := hd_lt 1 (by omega) U (decide (M < 0))
  have ha := fld_lt A 4; have hb' := fld_lt B 4; have ho := fld_lt O 4; have hc := fld_lt M 16
  simp only
  rw [if_neg (by omega), if_neg (by omega)]
  simp only [isa_word.j1]
  rw [if_neg (by simp), if_pos trivial]
  have hh : isa_head 1 U (decide (M < 0)) = _ := hh
  rw [hh]
  simp only [v3, Option.bind_some, isa_lay]
  generalize 4 * 1 + 2 * b2n U + b2n (decide (M < 0)) = h at *
  have hq := fld_small (x := h) (n := 4) hb
  have s0 := lay_step (l := [#v[28, 4, (h : Int)], #v[24, 4, A], #v[20, 4, B], #v[16, 4, O], #v[0, 16, M]]) (i := 0) (v := 0) (a := 28) (n := 4) (f := (h : Int)) (by omega) (by decide) (by omega) (by omega) rfl (by simp)
  have s1 := lay_step (l := [#v[28, 4, (h : Int)], #v[24, 4, A], #v[20, 4, B], #v[16, 4, O], #v[0, 16, M]]) (i := 1) (v := 0 + fld (h : Int) 4 * 2 ^ 28) (a := 24) (n := 4) (f := A) (by rw [hq]; omega) (by rw [hq]; omega) (by omega) (by omega) rfl (by simp)
  have s2 := lay_step (l := [#v[28, 4, (h : Int)], #v[24, 4, A], #v[20, 4, B], #v[16, 4, O], #v[0, 16, M]]) (i := 2) (v := 0 + fld (h : Int) 4 * 2 ^ 28 + fld A 4 * 2 ^ 24) (a := 20) (n := 4) (f := B) (by rw [hq]; omega) (by rw [hq]; omega) (by omega) (by omega) rfl (by simp)
  have s3 := lay_step (l := [#v[28, 4, (h : Int)], #v[24, 4, A], #v[20, 4, B], #v[16, 4, O], #v[0, 16, M]]) (i := 3) (v := 0 + fld (h : Int) 4 * 2 ^ 28 + fld A 4 * 2 ^ 24 + fld B 4 * 2 ^ 20) (a := 16) (n := 4) (f := O) (by rw [hq]; omega) (by rw [hq]; omega) (by omega) (by omega) rfl (by simp)
  have s4 := lay_step (l := [#v[28, 4, (h : Int)], #v[24, 4, A], #v[20, 4, B], #v[16, 4, O], #v[0, 16, M]]) (i := 4) (v := 0 + fld (h : Int) 4 * 2 ^ 28 + fld A 4 * 2 ^ 24 + fld B 4 * 2 ^ 20 + fld O 4 * 2 ^ 16) (a := 0) (n := 16) (f := M) (by rw [hq]; omega) (by rw [hq]; omega) (by omega) (by omega) rfl (by simp)
  have e := ((((s0.trans s1).trans s2).trans s3).trans s4).trans (lay_end (l := [#v[28, 4, (h : Int)], #v[24, 4, A], #v[20, 4, B], #v[16, 4, O], #v[0, 16, M]]))
  simp only [Int.natCast_zero] at e
  rw [e]
  simp only [Option.bind_some]
  rw [hq]
  congr 2
  omega
theorem word5 : isa_word ⟨5, O, A, B, C, M, U⟩ = some (((4 * 2 + 2 * b2n (decide (O ≥ 2)) + b2n (decide (Int.tmod O 2 = 1))) * 268435456 + fld A 4 * 16777216 + fld B 4 * 1048576 + fld M 20 : Nat) : Int) := by
  unfold isa_word
  have hh := head_is 2 (by omega) (decide (O ≥ 2)) (decide (Int.tmod O 2 = 1))
  have hb := hd_lt 2 (by omega) (decide (O ≥ 2)) (decide (Int.tmod O 2 = 1))
  have ha := fld_lt A 4; have hb' := fld_lt B 4; have hc := fld_lt M 20
  simp only
  rw [if_neg (by omega), if_neg (by omega)]
  simp only [isa_word.j1]
  rw [if_neg (by simp), if_neg (by omega), if_pos trivial]
  have hh : isa_head 2 (decide (O ≥ 2)) (decide (Int.tmod O 2 = 1)) = _ := hh
  rw [hh]
  simp only [v3, Option.bind_some, isa_lay]
  generalize 4 * 2 + 2 * b2n (decide (O ≥ 2)) + b2n (decide (Int.tmod O 2 = 1)) = h at *
  have hq := fld_small (x := h) (n := 4) hb
  have s0 := lay_step (l := [#v[28, 4, (h : Int)], #v[24, 4, A], #v[20, 4, B], #v[0, 20, M]]) (i := 0) (v := 0) (a := 28) (n := 4) (f := (h : Int)) (by omega) (by decide) (by omega) (by omega) rfl (by simp)
  have s1 := lay_step (l := [#v[28, 4, (h : Int)], #v[24, 4, A], #v[20, 4, B], #v[0, 20, M]]) (i := 1) (v := 0 + fld (h : Int) 4 * 2 ^ 28) (a := 24) (n := 4) (f := A) (by rw [hq]; omega) (by rw [hq]; omega) (by omega) (by omega) rfl (by simp)
  have s2 := lay_step (l := [#v[28, 4, (h : Int)], #v[24, 4, A], #v[20, 4, B], #v[0, 20, M]]) (i := 2) (v := 0 + fld (h : Int) 4 * 2 ^ 28 + fld A 4 * 2 ^ 24) (a := 20) (n := 4) (f := B) (by rw [hq]; omega) (by rw [hq]; omega) (by omega) (by omega) rfl (by simp)
  have s3 := lay_step (l := [#v[28, 4, (h : Int)], #v[24, 4, A], #v[20, 4, B], #v[0, 20, M]]) (i := 3) (v := 0 + fld (h : Int) 4 * 2 ^ 28 + fld A 4 * 2 ^ 24 + fld B 4 * 2 ^ 20) (a := 0) (n := 20) (f := M) (by rw [hq]; omega) (by rw [hq]; omega) (by omega) (by omega) rfl (by simp)
  have e := (((s0.trans s1).trans s2).trans s3).trans (lay_end (l := [#v[28, 4, (h : Int)], #v[24, 4, A], #v[20, 4, B], #v[0, 20, M]]))
  simp only [Int.natCast_zero] at e
  rw [e]
  simp only [Option.bind_some]
  rw [hq]
  congr 2
  omega
theorem word6 : isa_word ⟨6, O, A, B, C, M, U⟩ = some (((4 * 3 + 2 * b2n false + b2n U) * 268435456 + fld O 4 * 16777216 + fld C 4 : Nat) : Int) := by
  unfold isa_word
  have hh := head_is 3 (by omega) false U
  have hb := hd_lt 3 (by omega) false U
  have ha := fld_lt O 4; have hc := fld_lt C 4
  simp only
  rw [if_neg (by omega), if_neg (by omega)]
  simp only [isa_word.j1]
  rw [if_neg (by simp), if_neg (by omega), if_neg (by omega), if_pos trivial]
  have hh : isa_head 3 false U = _ := hh
  rw [hh]
  simp only [v3, Option.bind_some, isa_lay]
  generalize 4 * 3 + 2 * b2n false + b2n U = h at *
  have hq := fld_small (x := h) (n := 4) hb
  have s0 := lay_step (l := [#v[28, 4, (h : Int)], #v[24, 4, O], #v[0, 4, C]]) (i := 0) (v := 0) (a := 28) (n := 4) (f := (h : Int)) (by omega) (by decide) (by omega) (by omega) rfl (by simp)
  have s1 := lay_step (l := [#v[28, 4, (h : Int)], #v[24, 4, O], #v[0, 4, C]]) (i := 1) (v := 0 + fld (h : Int) 4 * 2 ^ 28) (a := 24) (n := 4) (f := O) (by rw [hq]; omega) (by rw [hq]; omega) (by omega) (by omega) rfl (by simp)
  have s2 := lay_step (l := [#v[28, 4, (h : Int)], #v[24, 4, O], #v[0, 4, C]]) (i := 2) (v := 0 + fld (h : Int) 4 * 2 ^ 28 + fld O 4 * 2 ^ 24) (a := 0) (n := 4) (f := C) (by rw [hq]; omega) (by rw [hq]; omega) (by omega) (by omega) rfl (by simp)
  have e := ((s0.trans s1).trans s2).trans (lay_end (l := [#v[28, 4, (h : Int)], #v[24, 4, O], #v[0, 4, C]]))
  simp only [Int.natCast_zero] at e
  rw [e]
  simp only [Option.bind_some]
  rw [hq]
  congr 2
  omega
theorem word7 : isa_word ⟨7, O, A, B, C, M, U⟩ = some (((4 * 3 + 2 * b2n true + b2n U) * 268435456 + fld O 4 * 16777216 + fld M 24 : Nat) : Int) := by
  unfold isa_word
  have hh := head_is 3 (by omega) true U
  have hb := hd_lt 3 (by omega) true U
  have ha := fld_lt O 4; have hc := fld_lt M 24
  simp only
  rw [if_neg (by omega), if_neg (by omega)]
  simp only [isa_word.j1]
  rw [if_neg (by simp), if_neg (by omega), if_neg (by omega), if_neg (by omega)]
  have hh : isa_head 3 true U = _ := hh
  rw [hh]
  simp only [v3, Option.bind_some, isa_lay]
  generalize 4 * 3 + 2 * b2n true + b2n U = h at *
  have hq := fld_small (x := h) (n := 4) hb
  have s0 := lay_step (l := [#v[28, 4, (h : Int)], #v[24, 4, O], #v[0, 24, M]]) (i := 0) (v := 0) (a := 28) (n := 4) (f := (h : Int)) (by omega) (by decide) (by omega) (by omega) rfl (by simp)
  have s1 := lay_step (l := [#v[28, 4, (h : Int)], #v[24, 4, O], #v[0, 24, M]]) (i := 1) (v := 0 + fld (h : Int) 4 * 2 ^ 28) (a := 24) (n := 4) (f := O) (by rw [hq]; omega) (by rw [hq]; omega) (by omega) (by omega) rfl (by simp)
  have s2 := lay_step (l := [#v[28, 4, (h : Int)], #v[24, 4, O], #v[0, 24, M]]) (i := 2) (v := 0 + fld (h : Int) 4 * 2 ^ 28 + fld O 4 * 2 ^ 24) (a := 0) (n := 24) (f := M) (by rw [hq]; omega) (by rw [hq]; omega) (by omega) (by omega) rfl (by simp)
  have e := ((s0.trans s1).trans s2).trans (lay_end (l := [#v[28, 4, (h : Int)], #v[24, 4, O], #v[0, 24, M]]))
  simp only [Int.natCast_zero] at e
  rw [e]
  simp only [Option.bind_some]
  rw [hq]
  congr 2
  omega
end
/-! ### read -/
def dg (w a n : Nat) : Int := ((w / 2 ^ a % 2 ^ n : Nat) : Int)
theorem read1_is {w a n : Nat} (hw : w < 4294967296) (h1 : 1 ≤ n) (h2 : a + n ≤ 32) : isa_read_1 (a : Int) (n : Int) (w : Int) = some (dg w a n) := by
  unfold isa_read_1
  rw [get_is hw h1 h2]
  simp only [Option.bind_some]
  have : w / 2 ^ a % 2 ^ n ≤ w := Nat.le_trans (Nat.mod_le _ _) (Nat.div_le_self _ _)
  rw [w64s (by omega) (by omega)]
  rfl
def sg (w n : Nat) : Int := if w % 2 ^ n ≥ 2 ^ (n - 1) then ((w % 2 ^ n : Nat) : Int) - ((2 ^ n : Nat) : Int) else ((w % 2 ^ n : Nat) : Int)
theorem signed20 {w : Nat} : field_Signed (w : Int) 20 = some (sg w 20) := by
  unfold field_Signed
  have hk : field_known 20 = some 20 := rfl
  rw [hk]
  simp only [Option.bind_some]
  have e : w64 (32 - 20) = 12 := rfl
  rw [e, if_pos (by omega), if_pos (by omega)]
  have e1 : shl .u32 (w : Int) 12 = ((w : Int) * 4096) % 4294967296 := by
    unfold shl; rw [IntKind.wrap_u32]; rfl
  have e2 : ∀ y : Int, shr .i32 y 12 = y / 4096 := by
    intro y; unfold shr; show y.fdiv 4096 = _; exact Int.fdiv_eq_ediv_of_nonneg _ (by omega)
  have e3 : ∀ y : Int, w32 y = (y + 2147483648) % 4294967296 - 2147483648 := by intro y; show IntKind.i32.wrap y = _; rw [IntKind.wrap_i32]
  rw [e1, e2, e3]
  unfold sg
  rw [show (2 : Nat) ^ 20 = 1048576 by decide, show (2 : Nat) ^ (20 - 1) = 524288 by decide, w64s (by omega) (by omega)]
  refine congrArg some ?_
  by_cases h : w % 1048576 ≥ 524288
  · rw [if_pos h]; omega
  · rw [if_neg h]; omega
theorem signed24 {w : Nat} : field_Signed (w : Int) 24 = some (sg w 24) := by
  unfold field_Signed
  have hk : field_known 24 = some 24 := rfl
  rw [hk]
  simp only [Option.bind_some]
  have e : w64 (32 - 24) = 8 := rfl
  rw [e, if_pos (by omega), if_pos (by omega)]
  have e1 : shl .u32 (w : Int) 8 = ((w : Int) * 256) % 4294967296 := by
    unfold shl; rw [IntKind.wrap_u32]; rfl
  have e2 : ∀ y : Int, shr .i32 y 8 = y / 256 := by
    intro y; unfold shr; show y.fdiv 256 = _; exact Int.fdiv_eq_ediv_of_nonneg _ (by omega)
  have e3 : ∀ y : Int, w32 y = (y + 2147483648) % 4294967296 - 2147483648 := by intro y; show IntKind.i32.wrap y = _; rw [IntKind.wrap_i32]
  rw [e1, e2, e3]
  unfold sg
  rw [show (2 : Nat) ^ 24 = 16777216 by decide, show (2 : Nat) ^ (24 - 1) = 8388608 by decide, w64s (by omega) (by omega)]
  refine congrArg some ?_
  by_cases h : w % 16777216 ≥ 8388608
  · rw [if_pos h]; omega
  · rw [if_neg h]; omega
/-- The instruction that a word looks like. -/
def rd (w : Nat) : Sapi_Instr :=
  if dg w 30 2 = 0 then
    (if dg w 29 1 = 1 ∧ dg w 16 4 = 0 then ⟨3 + dg w 28 1, 0, dg w 24 4, 0, 0, 0, false⟩ else ⟨1, dg w 16 4, dg w 24 4, dg w 20 4, dg w 0 4, 0, decide (dg w 29 1 = 1)⟩)
  else if dg w 30 2 = 1 then ⟨2, dg w 16 4, dg w 24 4, dg w 20 4, 0, dg w 0 16 - dg w 28 1 * 65536, decide (dg w 29 1 = 1)⟩
  else if dg w 30 2 = 2 then ⟨5, dg w 29 1 * 2 + dg w 28 1, dg w 24 4, dg w 20 4, 0, sg w 20, false⟩
  else if dg w 29 1 = 1 then ⟨7, dg w 24 4, 0, 0, 0, sg w 24, decide (dg w 28 1 = 1)⟩
  else ⟨6, dg w 24 4, 0, 0, dg w 0 4, 0, decide (dg w 28 1 = 1)⟩
theorem dg_lt (w a n : Nat) : 0 ≤ dg w a n ∧ dg w a n < ((2 ^ n : Nat) : Int) := by
  unfold dg
  have := Nat.mod_lt (w / 2 ^ a) (p2pos n)
  omega
theorem read_is {w : Nat} (hw : w < 4294967296) : isa_read (w : Int) = some (rd w) := by
  have g29 : isa_read_1 29 1 (w : Int) = some (dg w 29 1) := read1_is (a := 29) (n := 1) hw (by omega) (by omega)
  have g28 : isa_read_1 28 1 (w : Int) = some (dg w 28 1) := read1_is (a := 28) (n := 1) hw (by omega) (by omega)
  have g24 : isa_read_1 24 4 (w : Int) = some (dg w 24 4) := read1_is (a := 24) (n := 4) hw (by omega) (by omega)
  have g20 : isa_read_1 20 4 (w : Int) = some (dg w 20 4) := read1_is (a := 20) (n := 4) hw (by omega) (by omega)
  have g16 : isa_read_1 16 4 (w : Int) = some (dg w 16 4) := read1_is (a := 16) (n := 4) hw (by omega) (by omega)
  have g30 : isa_read_1 30 2 (w : Int) = some (dg w 30 2) := read1_is (a := 30) (n := 2) hw (by omega) (by omega)
  have g4 : isa_read_1 0 4 (w : Int) = some (dg w 0 4) := read1_is (a := 0) (n := 4) hw (by omega) (by omega)
  have g0 : isa_read_1 0 16 (w : Int) = some (dg w 0 16) := read1_is (a := 0) (n := 16) hw (by omega) (by omega)
  have b28 := dg_lt w 28 1; have b29 := dg_lt w 29 1; have b16 := dg_lt w 0 16
  simp only [show (2 : Nat) ^ 1 = 2 by decide, show (2 : Nat) ^ 16 = 65536 by decide] at b28 b29 b16
  unfold isa_read rd
  simp only [g29, g28, g24, g20, g16, g30, g4, g0, signed20, signed24, Option.bind_some, isa_read.j1]
  by_cases h0 : dg w 30 2 = 0
  · rw [if_pos h0, if_pos h0]
    by_cases h1 : dg w 29 1 = 1
    · rw [if_pos h1]
      by_cases h2 : dg w 16 4 = 0
      · rw [if_pos (by simp [h2]), if_pos ⟨h1, h2⟩, w64s (by omega) (by omega)]
      · rw [if_neg (by simp [h2]), if_neg (fun h => h2 h.2)]
    · rw [if_neg h1, if_neg (by simp), if_neg (fun h => h1 h.1)]
  · rw [if_neg h0, if_neg h0]
    by_cases h1 : dg w 30 2 = 1
    · rw [if_pos h1, if_pos h1]
      have e : shl .i64 (dg w 28 1) 16 = dg w 28 1 * 65536 := (show shl .i64 (dg w 28 1) 16 = w64 (dg w 28 1 * 65536) from rfl).trans (w64s (by omega) (by omega))
      rw [e, w64s (by omega) (by omega)]
    · rw [if_neg h1, if_neg h1]
      by_cases h2 : dg w 30 2 = 2
      · rw [if_pos h2, if_pos h2, w64s (x := dg w 29 1 * 2) (by omega) (by omega), w64s (by omega) (by omega)]
      · rw [if_neg h2, if_neg h2]
        by_cases h3 : dg w 29 1 = 1
        · rw [if_pos h3, if_pos h3]
        · rw [if_neg h3, if_neg h3]
end Go.Proofs.YtlpiomnmaiddbaaGreatDoor.LA
namespace Go.Proofs.YtlpiomnmaiddbaaGreatDoor.LA
set_option linter.unusedVariables false
set_option linter.unusedSimpArgs false
open Go Go.RowKit Go.Proofs.YtlpiomnmaiddbaaGreatDoor.E
theorem digits {W h a r : Nat} (e : W = h * 268435456 + a * 16777216 + r) (hh : h < 16) (ha : a < 16) (hr : r < 16777216) :
    W < 4294967296 ∧ dg W 30 2 = ((h / 4 : Nat) : Int) ∧ dg W 29 1 = ((h / 2 % 2 : Nat) : Int) ∧ dg W 28 1 = ((h % 2 : Nat) : Int) ∧ dg W 24 4 = (a : Int) ∧ dg W 20 4 = ((r / 1048576 : Nat) : Int) ∧ dg W 16 4 = ((r / 65536 % 16 : Nat) : Int) ∧
      dg W 0 4 = ((r % 16 : Nat) : Int) ∧ dg W 0 16 = ((r % 65536 : Nat) : Int) ∧ W % 2 ^ 20 = r % 1048576 ∧ W % 2 ^ 24 = r := by
  unfold dg
  simp only [show (2 : Nat) ^ 30 = 1073741824 by decide, show (2 : Nat) ^ 29 = 536870912 by decide, show (2 : Nat) ^ 28 = 268435456 by decide, show (2 : Nat) ^ 24 = 16777216 by decide, show (2 : Nat) ^ 20 = 1048576 by decide, show (2 : Nat) ^ 16 = 65536 by decide, show (2 : Nat) ^ 4 = 16 by decide, show (2 : Nat) ^ 2 = 4 by decide, show (2 : Nat) ^ 1 = 2 by decide, show (2 : Nat) ^ 0 = 1 by decide, Nat.div_one]
  subst e
  refine ⟨?_, ?_, ?_, ?_, ?_, ?_, ?_, ?_, ?_, ?_, ?_⟩ <;> omega
theorem between_is (n lo hi : Int) : isa_between n lo hi = some (decide (lo ≤ n ∧ n ≤ hi)) := by
  unfold isa_between
  by_cases h : n ≥ lo
  · rw [if_pos h]; congr 1; by_cases h2 : n ≤ hi <;> simp [h2]; omega
  · rw [if_neg h]; congr 1; simp; omega
def MayP (i : Sapi_Instr) : Prop :=
  (0 ≤ i.A ∧ i.A ≤ 15) ∧ (0 ≤ i.B ∧ i.B ≤ 15) ∧ (0 ≤ i.C ∧ i.C ≤ 15) ∧
  ((i.Kind = 1 ∧ i.Imm = 0 ∧ 0 ≤ i.Op ∧ i.Op ≤ 11 ∧ (i.Op = 0 → i.B = 0 ∧ i.U = false) ∧ (i.U = true → 8 ≤ i.Op ∧ i.Op ≤ 10)) ∨
   (i.Kind = 2 ∧ i.C = 0 ∧ 0 ≤ i.Op ∧ i.Op ≤ 11 ∧ -65536 ≤ i.Imm ∧ i.Imm ≤ 65535 ∧ (i.Op = 0 → i.B = 0 ∧ (i.U = true → 0 ≤ i.Imm)) ∧ (i.U = true → i.Op = 0 ∨ (8 ≤ i.Op ∧ i.Op ≤ 10))) ∨
   ((i.Kind = 3 ∨ i.Kind = 4) ∧ i.Op = 0 ∧ i.B = 0 ∧ i.C = 0 ∧ i.Imm = 0 ∧ i.U = false) ∨
   (i.Kind = 5 ∧ i.C = 0 ∧ i.U = false ∧ 0 ≤ i.Op ∧ i.Op ≤ 3 ∧ -524288 ≤ i.Imm ∧ i.Imm ≤ 524287) ∨
   (i.Kind = 6 ∧ i.A = 0 ∧ i.B = 0 ∧ i.Imm = 0 ∧ 0 ≤ i.Op ∧ i.Op ≤ 15) ∨
   (i.Kind = 7 ∧ i.A = 0 ∧ i.B = 0 ∧ i.C = 0 ∧ 0 ≤ i.Op ∧ i.Op ≤ 15 ∧ -8388608 ≤ i.Imm ∧ i.Imm ≤ 8388607))
noncomputable instance (i : Sapi_Instr) : Decidable (MayP i) := Classical.propDecidable _
/-- What May tells, once the word has been read back. -/
def mayR (i j : Sapi_Instr) : Bool :=
  if i.Kind = j.Kind ∧ i.Op = j.Op ∧ i.A = j.A ∧ i.B = j.B ∧ i.C = j.C ∧ i.Imm = j.Imm ∧ i.U = j.U then
    (if i.Kind = 1 ∨ i.Kind = 2 then
      (if i.Op = 0 then decide (i.B = 0 ∧ (i.Kind = 2 ∨ i.U = false) ∧ (i.U = false ∨ i.Imm ≥ 0))
      else if i.Op > 11 then false else decide (i.U = false ∨ (8 ≤ i.Op ∧ i.Op ≤ 10)))
    else true)
  else false
theorem may_read {i j : Sapi_Instr} {W : Nat} (hK : 1 ≤ i.Kind ∧ i.Kind ≤ 7) (hO : 0 ≤ i.Op ∧ i.Op ≤ 15) (hw : isa_word i = some (W : Int)) (hr : isa_read (W : Int) = some j) : isa_May i = some (mayR i j) := by
  unfold isa_May
  rw [between_is, between_is, decide_eq_true hK, decide_eq_true hO]
  simp only [Option.bind_some, if_true]
  rw [hw]
  simp only [Option.bind_some]
  rw [hr]
  simp only [Option.bind_some, isa_May.j1]
  unfold mayR
  by_cases hE : i.Kind = j.Kind ∧ i.Op = j.Op ∧ i.A = j.A ∧ i.B = j.B ∧ i.C = j.C ∧ i.Imm = j.Imm ∧ i.U = j.U
  · rw [if_neg (by obtain ⟨h1, h2, h3, h4, h5, h6, h7⟩ := hE; simp [h1, h2, h3, h4, h5, h6, h7]), if_pos hE]
    clear hE hr hw
    obtain ⟨K, O, A, B, C, M, U⟩ := i
    simp only at *
    by_cases h1 : K = 1
    · subst h1
      by_cases h2 : O = 0
      · by_cases h3 : B = 0 <;> cases U <;> simp [h2, h3]
      · by_cases h4 : O > 11
        · simp [h2, h4]
        · cases U <;> simp [h2, h4, between_is]
    · by_cases h2 : K = 2
      · subst h2
        by_cases h2 : O = 0
        · by_cases h3 : B = 0 <;> cases U <;> simp [h2, h3]
        · by_cases h4 : O > 11
          · simp [h2, h4]
          · cases U <;> simp [h2, h4, between_is]
      · simp [h1, h2]
  · rw [if_pos ?_, if_neg hE]
    simp only [Bool.not_eq_true', Bool.and_eq_false_imp, beq_iff_eq, beq_eq_false_iff_ne, Bool.and_true, ne_eq]
    intro h1 h2 h3 h4 h5 h6 h7
    exact hE ⟨h1, h2, h3, h4, h5, h6, h7⟩
theorem may_is (i : Sapi_Instr) : isa_May i = some (decide (MayP i)) := by
  by_cases hK : 1 ≤ i.Kind ∧ i.Kind ≤ 7
  · by_cases hO : 0 ≤ i.Op ∧ i.Op ≤ 15
    · obtain ⟨K, O, A, B, C, M, U⟩ := i
      simp only at hK hO
      have fA := fld_int A 4; have fB := fld_int B 4; have fC := fld_int C 4; have fO := fld_int O 4; have f16 := fld_int M 16; have f20 := fld_int M 20; have f24 := fld_int M 24
      have lA := fld_lt A 4; have lB := fld_lt B 4; have lC := fld_lt C 4; have lO := fld_lt O 4; have l16 := fld_lt M 16; have l20 := fld_lt M 20; have l24 := fld_lt M 24
      simp only [show (2 : Nat) ^ 24 = 16777216 by decide, show (2 : Nat) ^ 20 = 1048576 by decide, show (2 : Nat) ^ 16 = 65536 by decide, show (2 : Nat) ^ 4 = 16 by decide] at fA fB fC fO f16 f20 f24 lA lB lC lO l16 l20 l24
      have hk : K = 1 ∨ K = 2 ∨ (K = 3 ∨ K = 4) ∨ K = 5 ∨ K = 6 ∨ K = 7 := by omega
      rcases hk with rfl | rfl | hk | rfl | rfl | rfl
      · have hw := word1 A B C O M U
        obtain ⟨w0, d30, d29, d28, d24, d20, d16, d4, d0, -, -⟩ := digits (W := (4 * 0 + 2 * b2n U + b2n false) * 268435456 + fld A 4 * 16777216 + fld B 4 * 1048576 + fld O 4 * 65536 + fld C 4) (h := 4 * 0 + 2 * b2n U + b2n false) (a := fld A 4) (r := fld B 4 * 1048576 + fld O 4 * 65536 + fld C 4) (by omega) (hd_lt 0 (by omega) _ _) lA (by omega)
        have e20 : (fld B 4 * 1048576 + fld O 4 * 65536 + fld C 4) / 1048576 = fld B 4 := by omega
        have e16 : (fld B 4 * 1048576 + fld O 4 * 65536 + fld C 4) / 65536 % 16 = fld O 4 := by omega
        have e4 : (fld B 4 * 1048576 + fld O 4 * 65536 + fld C 4) % 16 = fld C 4 := by omega
        rw [e20] at d20
        rw [e16] at d16
        rw [e4] at d4
        rw [may_read hK hO hw (read_is w0)]
        congr 1
        unfold rd
        rw [d30, d29, d28, d24, d20, d16, d4]
        clear hw w0 d30 d29 d28 d24 d20 d16 d4 d0 e20 e16 e4 f16 f20 f24 l16 l20 l24
        generalize fld A 4 = a at *
        generalize fld B 4 = b at *
        generalize fld C 4 = c at *
        generalize fld O 4 = o at *
        cases U
        · rw [if_pos (by simp [b2n]), if_neg (by simp [b2n]), Bool.eq_iff_iff]
          unfold mayR MayP
          simp only [b2n]
          by_cases h0 : O = 0
          · simp [h0]; omega
          · by_cases h11 : O > 11
            · simp [h0, h11]; try omega
            · simp [h0, h11]; omega
        · by_cases hz : o = 0
          · rw [if_pos (by simp [b2n]), if_pos (by simp [b2n, hz]), Bool.eq_iff_iff]
            unfold mayR MayP
            simp
            omega
          · rw [if_pos (by simp [b2n]), if_neg (by simp [b2n]; omega), Bool.eq_iff_iff]
            unfold mayR MayP
            simp only [b2n]
            by_cases h0 : O = 0
            · simp [h0]; try omega
            · by_cases h11 : O > 11
              · simp [h0, h11]; try omega
              · simp [h0, h11]; omega
      · have hw := word2 A B C O M U
        obtain ⟨w0, d30, d29, d28, d24, d20, d16, d4, d0, -, -⟩ := digits (W := (4 * 1 + 2 * b2n U + b2n (decide (M < 0))) * 268435456 + fld A 4 * 16777216 + fld B 4 * 1048576 + fld O 4 * 65536 + fld M 16) (h := 4 * 1 + 2 * b2n U + b2n (decide (M < 0))) (a := fld A 4) (r := fld B 4 * 1048576 + fld O 4 * 65536 + fld M 16) (by omega) (hd_lt 1 (by omega) _ _) lA (by omega)
        have e20 : (fld B 4 * 1048576 + fld O 4 * 65536 + fld M 16) / 1048576 = fld B 4 := by omega
        have e16 : (fld B 4 * 1048576 + fld O 4 * 65536 + fld M 16) / 65536 % 16 = fld O 4 := by omega
        have e0 : (fld B 4 * 1048576 + fld O 4 * 65536 + fld M 16) % 65536 = fld M 16 := by omega
        rw [e20] at d20
        rw [e16] at d16
        rw [e0] at d0
        rw [may_read hK hO hw (read_is w0)]
        congr 1
        unfold rd
        rw [d30, d29, d28, d24, d20, d16, d0]
        clear hw w0 d30 d29 d28 d24 d20 d16 d4 d0 e20 e16 e0 f20 f24 l20 l24
        generalize fld A 4 = a at *
        generalize fld B 4 = b at *
        generalize fld C 4 = c at *
        generalize fld O 4 = o at *
        generalize fld M 16 = m at *
        by_cases hM : M < 0 <;> cases U
        all_goals
          rw [if_neg (by simp [b2n, hM]), if_pos (by simp [b2n, hM]), Bool.eq_iff_iff]
          unfold mayR MayP
          simp only [b2n, hM]
          by_cases h0 : O = 0
          · simp [h0]; try omega
          · by_cases h11 : O > 11
            · simp [h0, h11]; try omega
            · simp [h0, h11]; try omega
      · have hw := word34 A B C O M U hk
        obtain ⟨w0, d30, d29, d28, d24, d20, d16, d4, d0, -, -⟩ := digits (W := (4 * 0 + 2 * b2n true + b2n (decide (K = 4))) * 268435456 + fld A 4 * 16777216) (h := 4 * 0 + 2 * b2n true + b2n (decide (K = 4))) (a := fld A 4) (r := 0) (by omega) (hd_lt 0 (by omega) _ _) lA (by omega)
        rw [may_read hK hO hw (read_is w0)]
        congr 1
        unfold rd
        rw [d30, d29, d28, d24, d20, d16, d4]
        clear hw w0 d30 d29 d28 d24 d20 d16 d4 d0 f20 f24 f16 l20 l24 l16
        generalize fld A 4 = a at *
        rcases hk with rfl | rfl
        all_goals
          rw [if_pos (by simp [b2n]), if_pos (by simp [b2n]), Bool.eq_iff_iff]
          unfold mayR MayP
          simp only [b2n]
          cases U <;> simp <;> omega
      · have e20 : (fld B 4 * 1048576 + fld M 20) / 1048576 = fld B 4 := by omega
        have e0 : (fld B 4 * 1048576 + fld M 20) % 1048576 = fld M 20 := by omega
        have hw := word5 A B C O M U
        obtain ⟨w0, d30, d29, d28, d24, d20, d16, d4, d0, q20, -⟩ := digits (W := (4 * 2 + 2 * b2n (decide (O ≥ 2)) + b2n (decide (Int.tmod O 2 = 1))) * 268435456 + fld A 4 * 16777216 + fld B 4 * 1048576 + fld M 20) (h := 4 * 2 + 2 * b2n (decide (O ≥ 2)) + b2n (decide (Int.tmod O 2 = 1))) (a := fld A 4) (r := fld B 4 * 1048576 + fld M 20) (by omega) (hd_lt 2 (by omega) _ _) lA (by omega)
        rw [e20] at d20
        rw [e0] at q20
        rw [may_read hK hO hw (read_is w0)]
        congr 1
        unfold rd sg
        rw [q20, d30, d29, d28, d24, d20, show (2 : Nat) ^ 20 = 1048576 from rfl, show (2 : Nat) ^ (20 - 1) = 524288 from rfl]
        have ht : O.tmod 2 = O % 2 := Int.tmod_eq_emod_of_nonneg hO.1
        rw [ht]
        clear hw w0 d30 d29 d28 d24 d20 d16 d4 d0 e20 e0 q20 f24 f16 l24 l16 ht
        generalize fld A 4 = a at *
        generalize fld B 4 = b at *
        generalize fld M 20 = m at *
        by_cases hO2 : O ≥ 2 <;> by_cases hO1 : O % 2 = 1
        all_goals
          have x1 : b2n (decide (O ≥ 2)) = if O ≥ 2 then 1 else 0 := by simp [b2n]
          have x2 : b2n (decide (O % 2 = 1)) = if O % 2 = 1 then 1 else 0 := by simp [b2n]
          rw [x1, x2]
          clear x1 x2
          simp only [hO2, hO1, if_true, if_false]
          rw [if_neg (by decide), if_neg (by decide), if_pos (by decide), Bool.eq_iff_iff]
          unfold mayR MayP
          by_cases hm : m ≥ 524288 <;> cases U <;> simp [hm] <;> omega
      · have hw := word6 A B C O M U
        obtain ⟨w0, d30, d29, d28, d24, d20, d16, d4, d0, -, -⟩ := digits (W := (4 * 3 + 2 * b2n false + b2n U) * 268435456 + fld O 4 * 16777216 + fld C 4) (h := 4 * 3 + 2 * b2n false + b2n U) (a := fld O 4) (r := fld C 4) (by omega) (hd_lt 3 (by omega) _ _) lO (by omega)
        rw [may_read hK hO hw (read_is w0)]
        congr 1
        unfold rd
        rw [d30, d29, d28, d24, d20, d4]
        clear hw w0 d30 d29 d28 d24 d20 d16 d4 d0 f20 f24 f16 l20 l24 l16
        generalize fld O 4 = o at *
        generalize fld C 4 = c at *
        cases U
        all_goals
          rw [if_neg (by simp [b2n]), if_neg (by simp [b2n]), if_neg (by simp [b2n]), if_neg (by simp [b2n]), Bool.eq_iff_iff]
          unfold mayR MayP
          simp [b2n]
          omega
      · have hw := word7 A B C O M U
        obtain ⟨w0, d30, d29, d28, d24, d20, d16, d4, d0, -, q24⟩ := digits (W := (4 * 3 + 2 * b2n true + b2n U) * 268435456 + fld O 4 * 16777216 + fld M 24) (h := 4 * 3 + 2 * b2n true + b2n U) (a := fld O 4) (r := fld M 24) (by omega) (hd_lt 3 (by omega) _ _) lO (by omega)
        rw [may_read hK hO hw (read_is w0)]
        congr 1
        unfold rd sg
        rw [q24, d30, d29, d28, d24, show (2 : Nat) ^ 24 = 16777216 from rfl, show (2 : Nat) ^ (24 - 1) = 8388608 from rfl]
        clear hw w0 d30 d29 d28 d24 d20 d16 d4 d0 q24 f20 f16 l20 l16
        generalize fld O 4 = o at *
        generalize fld M 24 = m at *
        cases U
        all_goals
          rw [if_neg (by simp [b2n]), if_neg (by simp [b2n]), if_neg (by simp [b2n]), if_pos (by simp [b2n]), Bool.eq_iff_iff]
          unfold mayR MayP
          by_cases hm : m ≥ 8388608
          · simp [b2n, hm]; omega
          · simp [b2n, hm]; omega
    · unfold isa_May
      rw [between_is, between_is, decide_eq_true hK, decide_eq_false hO]
      simp only [Option.bind_some, if_true, Bool.false_eq_true, if_false, isa_May.j1]
      congr 1
      symm
      rw [decide_eq_false_iff_not]
      unfold MayP
      omega
  · unfold isa_May
    rw [between_is, decide_eq_false hK]
    simp only [Option.bind_some, if_true, Bool.false_eq_true, if_false, isa_May.j1]
    congr 1
    symm
    rw [decide_eq_false_iff_not]
    unfold MayP
    omega
end Go.Proofs.YtlpiomnmaiddbaaGreatDoor.LA
namespace Go.Proofs.YtlpiomnmaiddbaaGreatDoor.LA
open Go Go.RowKit Go.Proofs.YtlpiomnmaiddbaaGreatDoor.E
def okSapi_Sym (x : Sapi_Sym) : Prop := (x.Name.size ≤ 140737488351232) ∧ In .i64 x.At
def okSapi_Obj (x : Sapi_Obj) : Prop := ((∀ n ∈ x.Words, In .u32 n) ∧ x.Words.length * 4 ≤ 140737488351232) ∧ ((∀ n ∈ x.Sites, In .i64 n) ∧ x.Sites.length * 8 ≤ 140737488351232) ∧ ((∀ n ∈ x.Syms, okSapi_Sym n) ∧ x.Syms.length * 24 ≤ 140737488351232)
end Go.Proofs.YtlpiomnmaiddbaaGreatDoor.LA

namespace Go.Proofs.YtlpiomnmaiddbaaGreatDoor.LA
set_option linter.unusedVariables false
set_option linter.unusedSimpArgs false
open Go Go.RowKit Go.Proofs.YtlpiomnmaiddbaaGreatDoor.E
abbrev W (x : Int) : Prop := 0 ≤ x ∧ x ≤ 4294967295
def sgn (a : Int) : Int := if a ≥ 2147483648 then a - 4294967296 else a
theorem w32_sgn {a : Int} (a0 : 0 ≤ a) (a1 : a ≤ 4294967295) : w64 (w32 a) = sgn a := by
  have e : w32 a = (a + 2147483648) % 4294967296 - 2147483648 := IntKind.wrap_i32 a
  rw [e, w64s (by omega) (by omega)]
  unfold sgn
  split <;> omega
theorem sgn_in {a : Int} (a0 : 0 ≤ a) (a1 : a ≤ 4294967295) : -2147483648 ≤ sgn a ∧ sgn a ≤ 2147483647 := by unfold sgn; split <;> omega
noncomputable def wordN (i : Sapi_Instr) : Nat := ((isa_word i).getD 0).toNat
theorem wordN_of {i : Sapi_Instr} {n : Nat} (h : isa_word i = some (n : Int)) (hn : n < 4294967296) : isa_word i = some (wordN i : Int) ∧ wordN i < 4294967296 := by
  have : wordN i = n := by unfold wordN; rw [h]; rfl
  rw [this]
  exact ⟨h, hn⟩
theorem word_some {i : Sapi_Instr} (h : 1 ≤ i.Kind ∧ i.Kind ≤ 7) : isa_word i = some (wordN i : Int) ∧ wordN i < 4294967296 := by
  obtain ⟨K, O, A, B, C, M, U⟩ := i
  simp only at h
  have lA := fld_lt A 4; have lB := fld_lt B 4; have lC := fld_lt C 4; have lO := fld_lt O 4; have l16 := fld_lt M 16; have l20 := fld_lt M 20; have l24 := fld_lt M 24
  simp only [show (2 : Nat) ^ 24 = 16777216 by decide, show (2 : Nat) ^ 20 = 1048576 by decide, show (2 : Nat) ^ 16 = 65536 by decide, show (2 : Nat) ^ 4 = 16 by decide] at lA lB lC lO l16 l20 l24
  have hk : K = 1 ∨ K = 2 ∨ (K = 3 ∨ K = 4) ∨ K = 5 ∨ K = 6 ∨ K = 7 := by omega
  rcases hk with rfl | rfl | hk | rfl | rfl | rfl
  · have := hd_lt 0 (by omega) U false; exact wordN_of (word1 A B C O M U) (by omega)
  · have := hd_lt 1 (by omega) U (decide (M < 0)); exact wordN_of (word2 A B C O M U) (by omega)
  · have := hd_lt 0 (by omega) true (decide (K = 4)); exact wordN_of (word34 A B C O M U hk) (by omega)
  · have := hd_lt 2 (by omega) (decide (O ≥ 2)) (decide (Int.tmod O 2 = 1)); exact wordN_of (word5 A B C O M U) (by omega)
  · have := hd_lt 3 (by omega) false U; exact wordN_of (word6 A B C O M U) (by omega)
  · have := hd_lt 3 (by omega) true U; exact wordN_of (word7 A B C O M U) (by omega)
theorem MayP.kind {i : Sapi_Instr} (h : MayP i) : 1 ≤ i.Kind ∧ i.Kind ≤ 7 := by obtain ⟨_, _, _, h⟩ := h; omega
theorem MayP.op {i : Sapi_Instr} (h : MayP i) : 0 ≤ i.Op ∧ i.Op ≤ 15 := by obtain ⟨_, _, _, h⟩ := h; omega
/-- A word that is an instruction's is read back. -/
theorem read_word {i : Sapi_Instr} (h : MayP i) : rd (wordN i) = i := by
  obtain ⟨h1, h2⟩ := word_some h.kind
  have h3 := may_read h.kind h.op h1 (read_is h2)
  rw [may_is, decide_eq_true h] at h3
  have h4 : mayR i (rd (wordN i)) = true := (Option.some.inj h3).symm
  unfold mayR at h4
  by_cases hE : i.Kind = (rd (wordN i)).Kind ∧ i.Op = (rd (wordN i)).Op ∧ i.A = (rd (wordN i)).A ∧ i.B = (rd (wordN i)).B ∧ i.C = (rd (wordN i)).C ∧ i.Imm = (rd (wordN i)).Imm ∧ i.U = (rd (wordN i)).U
  · obtain ⟨e1, e2, e3, e4, e5, e6, e7⟩ := hE
    generalize rd (wordN i) = j at *
    cases i; cases j
    simp only at *
    subst e1 e2 e3 e4 e5 e6 e7
    rfl
  · rw [if_neg hE] at h4; cases h4
/-- What Decode tells. -/
noncomputable def decS (w : Int) : Sapi_Instr × Bool := if MayP (rd w.toNat) ∧ wordN (rd w.toNat) = w.toNat then (rd w.toNat, true) else (⟨0, 0, 0, 0, 0, 0, false⟩, false)
theorem dec_is {w : Int} (h : W w) : isa_Decode w = some (decS w) := by
  obtain ⟨n, rfl⟩ := Int.eq_ofNat_of_zero_le h.1
  have hn : n < 4294967296 := by have := h.2; omega
  unfold isa_Decode decS
  rw [read_is hn, Option.bind_some, may_is, Option.bind_some, Int.toNat_natCast]
  by_cases hm : MayP (rd n)
  · rw [decide_eq_true hm, if_pos rfl, (word_some hm.kind).1, Option.bind_some]
    by_cases he : wordN (rd n) = n
    · rw [if_pos (by rw [he]), if_pos ⟨hm, he⟩]
    · rw [if_neg (by omega), if_neg (fun hh => he hh.2)]
  · rw [decide_eq_false hm, if_neg (by simp), if_neg (fun hh => hm hh.1)]
theorem dec_ok {w : Int} (h : (decS w).2 = true) : MayP (decS w).1 ∧ (decS w).1 = rd w.toNat := by
  unfold decS at h ⊢
  split
  · rename_i hh; exact ⟨hh.1, rfl⟩
  · rename_i hh; rw [if_neg hh] at h; cases h
end Go.Proofs.YtlpiomnmaiddbaaGreatDoor.LA
namespace Go.Proofs.YtlpiomnmaiddbaaGreatDoor.LA
set_option linter.unusedVariables false
set_option linter.unusedSimpArgs false
open Go Go.RowKit Go.Proofs.YtlpiomnmaiddbaaGreatDoor.E
theorem drop_at {l : List Int} {i : Nat} (h : i < l.length) : l.drop i = l.getD i 0 :: l.drop (i + 1) := by
  rw [List.drop_eq_getElem_cons h, List.getD_eq_getElem?_getD, List.getElem?_eq_getElem h]
  rfl
theorem ixn (l : List Int) (i : Nat) : ix 0 l (i : Int) = l.getD i 0 := rfl
theorem getD_mem {l : List Int} {i : Nat} (h : i < l.length) : l.getD i 0 ∈ l := by
  rw [List.getD_eq_getElem?_getD, List.getElem?_eq_getElem h]; exact List.getElem_mem h
/-- Sites rise, from p on, and are below N. -/
def rise (N : Int) : Int → List Int → Bool
  | _, [] => true
  | p, s :: r => decide (p < s ∧ s < N ∧ s ≤ 65534) && rise N s r
theorem rise_all {N : Int} : ∀ {p : Int} {l : List Int}, rise N p l = true → -1 ≤ p → ∀ s ∈ l, p < s ∧ 0 ≤ s ∧ s < N ∧ s ≤ 65534
  | _, [], _, _, s, hs => by cases hs
  | p, x :: r, h, hp, s, hs => by
    simp only [rise, Bool.and_eq_true, decide_eq_true_eq] at h
    rcases List.mem_cons.1 hs with h1 | h1
    · subst h1; omega
    · have := rise_all h.2 (by omega) s h1; omega
theorem rise_of {N : Int} : ∀ {p : Int} {s : List Int}, s.Pairwise (· < ·) → (∀ x ∈ s, p < x ∧ x < N ∧ x ≤ 65534) → rise N p s = true
  | _, [], _, _ => rfl
  | p, x :: r, h1, h2 => by
    have h3 := List.pairwise_cons.1 h1
    have h4 := h2 x (by simp)
    simp only [rise, Bool.and_eq_true, decide_eq_true_eq]
    exact ⟨h4, rise_of h3.2 fun y hy => ⟨h3.1 y hy, (h2 y (List.mem_cons_of_mem _ hy)).2⟩⟩
theorem rise_no {N p x : Int} {r : List Int} (h : ¬ (p < x ∧ x < N ∧ x ≤ 65534)) : rise N p (x :: r) = false := by
  unfold rise
  rw [decide_eq_false h]
  rfl
theorem rise_yes {N p x : Int} {r : List Int} (h : p < x ∧ x < N ∧ x ≤ 65534) : rise N p (x :: r) = rise N x r := by
  conv => lhs; unfold rise
  rw [decide_eq_true h, Bool.true_and]
theorem pack1 {l0 l1 : List Int} (h1 : l1.length ≤ 4000000000000000000) : ∀ (n : Nat) (p : Int) (i : Nat), i + n = l1.length →
    loopO chain_Pack.b1 (p, (l1.length : Int), (i : Int), l0, l1) = some (if rise (l0.length : Int) p (l1.drop i) = true then .done (l0, l1) else .ret (0, 7, []))
  | 0, p, i, hi => by
    refine loopO_done ?_
    simp only [chain_Pack.b1]
    rw [if_neg (by omega), List.drop_of_length_le (by omega)]
    rfl
  | n + 1, p, i, hi => by
    have hlt : i < l1.length := by omega
    rw [drop_at hlt]
    by_cases c1 : l1.getD i 0 ≤ p
    · refine loopO_done ?_
      simp only [chain_Pack.b1]
      rw [if_pos (by omega), if_pos ⟨by omega, by omega⟩, ixn, if_pos c1, rise_no (by omega)]
      rfl
    · by_cases c2 : l1.getD i 0 ≥ (l0.length : Int)
      · refine loopO_done ?_
        simp only [chain_Pack.b1]
        rw [if_pos (by omega), if_pos ⟨by omega, by omega⟩, ixn, if_neg c1, if_pos c2, rise_no (by omega)]
        rfl
      · by_cases c3 : l1.getD i 0 > 65534
        · refine loopO_done ?_
          simp only [chain_Pack.b1]
          rw [if_pos (by omega), if_pos ⟨by omega, by omega⟩, ixn, if_neg c1, if_neg c2, if_pos c3, rise_no (by omega)]
          rfl
        · rw [rise_yes (by omega), ← pack1 h1 n (l1.getD i 0) (i + 1) (by omega)]
          refine loopO_next ?_
          simp only [chain_Pack.b1]
          rw [if_pos (by omega), if_pos ⟨by omega, by omega⟩, ixn, if_neg c1, if_neg c2, if_neg c3, w64s (by omega) (by omega)]
          rfl
theorem pack2 {l1 : List Int} (h1 : l1.length ≤ 4000000000000000000) {N : Nat} (hs : ∀ s ∈ l1, 0 ≤ s ∧ s < (N : Int) ∧ s ≤ 65534) : ∀ (n : Nat) (h : Int) (i : Nat) (out : List Int), i + n = l1.length → out.length = N →
    ∃ r, loopO chain_Pack.b2 (h, (l1.length : Int), (i : Int), l1, out) = some r ∧ (r = .ret (0, 8, []) ∨ ∃ a, r = .done a)
  | 0, h, i, out, hi, ho => by
    refine ⟨_, loopO_done (r := .done (h, out)) ?_, .inr ⟨_, rfl⟩⟩
    simp only [chain_Pack.b2]
    rw [if_neg (by omega)]
  | n + 1, h, i, out, hi, ho => by
    have hlt : i < l1.length := by omega
    have hb := hs _ (getD_mem hlt)
    have hb2 : (0 : Int) ≤ l1.getD i 0 ∧ l1.getD i 0 < (out.length : Int) := by omega
    by_cases c : ix 0 out (l1.getD i 0) > 65535
    · refine ⟨_, loopO_done (r := .ret (0, 8, [])) ?_, .inl rfl⟩
      simp only [chain_Pack.b2]
      rw [if_pos (by omega), if_pos ⟨by omega, by omega⟩, ixn, if_pos hb2, if_pos c]
    · obtain ⟨r, k1, k2⟩ := pack2 h1 hs n (w64 (l1.getD i 0 + 1)) (i + 1) (out.set (Int.toNat (l1.getD i 0)) (bor .u32 (shl .u32 (ix 0 out (l1.getD i 0)) 16) (wu32 h))) (by omega) (by simpa using ho)
      refine ⟨r, ?_, k2⟩
      rw [← k1]
      refine loopO_next ?_
      simp only [chain_Pack.b2]
      rw [if_pos (by omega), if_pos ⟨by omega, by omega⟩, ixn, if_pos hb2, if_neg c, if_pos hb2, if_pos hb2, w64s (x := (i : Int) + 1) (by omega) (by omega)]
      rfl
theorem pack_err {l s : List Int} (h1 : s.length ≤ 4000000000000000000) (h0 : l.length ≤ 1000000000000) : ∃ x e w, chain_Pack l s = some (x, e, w) ∧ (e = 7 ↔ rise (l.length : Int) (-1) s = false) := by
  unfold chain_Pack
  have k := pack1 (l0 := l) h1 s.length (-1) 0 (by omega)
  rw [show ((0 : Nat) : Int) = 0 from rfl, List.drop_zero] at k
  rw [k]
  cases hr : rise (l.length : Int) (-1) s with
  | false => exact ⟨0, 7, [], rfl, by simp⟩
  | true =>
    have hc : slices_Clone_uint32_uint32 l = some l := by
      unfold slices_Clone_uint32_uint32
      rw [if_pos (by simp only [List.length_nil]; omega)]
      rfl
    obtain ⟨r, k1, k2⟩ := pack2 h1 (N := l.length) (fun x hx => by have := rise_all hr (by omega) x hx; omega) s.length 0 0 l (by omega) rfl
    have k1 : loopO chain_Pack.b2 (0, (s.length : Int), 0, s, l) = some r := k1
    simp only [if_true, Option.bind_some, hc, k1]
    rcases k2 with rfl | ⟨⟨a, b⟩, rfl⟩
    · exact ⟨0, 8, [], rfl, by decide⟩
    · exact ⟨a, 0, b, rfl, by decide⟩
theorem rise_ref {N : Int} {l : List Int} (h1 : l.length ≤ 4000000000000000000) : ∀ (n : Nat) (p : Int) (i : Nat), i + n = l.length → -1 ≤ p → (i = 0 → p = -1) → (0 < i → p = l.getD (i - 1) 0) →
    loopO rivetref08_Rise.b1 (N, (i : Int), l) = some (if rise N p (l.drop i) = true then .done () else .ret false)
  | 0, p, i, hi, _, _, _ => by
    refine loopO_done ?_
    simp only [rivetref08_Rise.b1]
    rw [if_neg (by omega), List.drop_of_length_le (by omega)]
    rfl
  | n + 1, p, i, hi, hp, hp0, hp1 => by
    have hlt : i < l.length := by omega
    have hb : (0 : Int) ≤ (i : Int) ∧ (i : Int) < (l.length : Int) := by omega
    rw [drop_at hlt]
    by_cases c1 : l.getD i 0 < 0
    · refine loopO_done ?_
      simp only [rivetref08_Rise.b1]
      rw [if_pos hb.2, if_pos hb, ixn, if_pos c1, rise_no (by omega)]
      rfl
    · by_cases c2 : l.getD i 0 ≥ N
      · refine loopO_done ?_
        simp only [rivetref08_Rise.b1]
        rw [if_pos hb.2, if_pos hb, ixn, if_neg c1, if_pos hb, if_pos c2, rise_no (by omega)]
        rfl
      · by_cases c3 : l.getD i 0 > 65534
        · refine loopO_done ?_
          simp only [rivetref08_Rise.b1]
          rw [if_pos hb.2, if_pos hb, ixn, if_neg c1, if_pos hb, if_neg c2, if_pos hb, if_pos c3, rise_no (by omega)]
          rfl
        · by_cases c4 : (i : Int) > 0
          · have hq : ix 0 l (w64 ((i : Int) - 1)) = p := by
              rw [w64s (by omega) (by omega), hp1 (by omega), show ((i : Int) - 1) = ((i - 1 : Nat) : Int) by omega, ixn]
            have hb4 : (0 : Int) ≤ w64 ((i : Int) - 1) ∧ w64 ((i : Int) - 1) < (l.length : Int) := by rw [w64s (by omega) (by omega)]; omega
            by_cases c5 : l.getD i 0 ≤ p
            · refine loopO_done ?_
              simp only [rivetref08_Rise.b1]
              rw [if_pos hb.2, if_pos hb, ixn, if_neg c1, if_pos hb, if_neg c2, if_pos hb, if_neg c3, if_pos c4, if_pos hb, if_pos hb4, hq, if_pos c5, rise_no (by omega)]
              rfl
            · rw [rise_yes (by omega), ← rise_ref h1 n (l.getD i 0) (i + 1) (by omega) (by omega) (by omega) (fun _ => by rw [Nat.add_sub_cancel])]
              refine loopO_next ?_
              simp only [rivetref08_Rise.b1]
              rw [if_pos hb.2, if_pos hb, ixn, if_neg c1, if_pos hb, if_neg c2, if_pos hb, if_neg c3, if_pos c4, if_pos hb, if_pos hb4, hq, if_neg c5, w64s (by omega) (by omega)]
              rfl
          · have := hp0 (by omega)
            rw [rise_yes (by omega), ← rise_ref h1 n (l.getD i 0) (i + 1) (by omega) (by omega) (by omega) (fun _ => by rw [Nat.add_sub_cancel])]
            refine loopO_next ?_
            simp only [rivetref08_Rise.b1]
            rw [if_pos hb.2, if_pos hb, ixn, if_neg c1, if_pos hb, if_neg c2, if_pos hb, if_neg c3, if_neg c4, w64s (by omega) (by omega)]
            rfl
theorem rise_is (N : Int) {l : List Int} (h1 : l.length ≤ 4000000000000000000) : rivetref08_Rise l N = some (rise N (-1) l) := by
  have k := rise_ref (N := N) h1 l.length (-1) 0 (by omega) (by omega) (fun _ => rfl) (by omega)
  rw [show ((0 : Nat) : Int) = 0 from rfl, List.drop_zero] at k
  unfold rivetref08_Rise
  rw [k]
  cases hr : rise N (-1) l <;> rfl
/-! ### sites that are made -/
structure Ris (h : Int) (n : Nat) (s : List Int) : Prop where
  up : s.Pairwise (· < ·)
  lo : ∀ x ∈ s, h ≤ x
  hi : ∀ x ∈ s, x < (n : Int)
theorem Ris.tail {h : Int} {n : Nat} {x : Int} {r : List Int} (g : Ris h n (x :: r)) : Ris (x + 1) n r := by
  have := List.pairwise_cons.1 g.up
  exact ⟨this.2, fun y hy => by have := this.1 y hy; omega, fun y hy => g.hi y (List.mem_cons_of_mem _ hy)⟩
theorem Ris.add {i : Nat} {s : List Int} (h : Ris 0 i s) : Ris 0 (i + 1) (s ++ [(i : Int)]) := by
  refine ⟨List.pairwise_append.2 ⟨h.up, List.pairwise_singleton _ _, fun a ha b hb => ?_⟩, fun y hy => ?_, fun y hy => ?_⟩
  · rw [List.mem_singleton.1 hb]; exact h.hi a ha
  · rcases List.mem_append.1 hy with h1 | h1
    · exact h.lo y h1
    · rw [List.mem_singleton.1 h1]; omega
  · rcases List.mem_append.1 hy with h1 | h1
    · have := h.hi y h1; omega
    · rw [List.mem_singleton.1 h1]; omega
theorem Ris.weak {i j : Nat} {s : List Int} (h : Ris 0 i s) (hij : i ≤ j) : Ris 0 j s := ⟨h.up, h.lo, fun x hx => by have := h.hi x hx; omega⟩
end Go.Proofs.YtlpiomnmaiddbaaGreatDoor.LA
namespace Go.Proofs.YtlpiomnmaiddbaaGreatDoor.LA
set_option linter.unusedVariables false
set_option linter.unusedSimpArgs false
open Go Go.RowKit Go.Proofs.YtlpiomnmaiddbaaGreatDoor.E
abbrev By (l : List Int) : Prop := ∀ x ∈ l, 0 ≤ x ∧ x ≤ 255
abbrev Wd (l : List Int) : Prop := ∀ x ∈ l, 0 ≤ x ∧ x ≤ 4294967295
theorem wu8_eq (x : Int) : wu8 x = x % 256 := IntKind.wrap_u8 x
theorem getD_in {l : List Int} {p : Int → Prop} (h : ∀ x ∈ l, p x) {i : Nat} (hi : i < l.length) : p (l.getD i 0) := by
  rw [List.getD_eq_getElem?_getD, List.getElem?_eq_getElem hi]
  exact h _ (List.getElem_mem hi)
theorem take_one {l : List Int} {i : Nat} (hi : i < l.length) : l.take (i + 1) = l.take i ++ [l.getD i 0] := by
  rw [List.take_add_one, List.getElem?_eq_getElem hi, List.getD_eq_getElem?_getD, List.getElem?_eq_getElem hi]
  rfl
theorem toL_eq (s t : ByteArray) : (s.toList == t.toList) = decide (s = t) := by
  rw [ByteArray.toList_eq, ByteArray.toList_eq, Bool.eq_iff_iff, beq_iff_eq, decide_eq_true_eq]
  constructor
  · intro h; exact ByteArray.ext (Array.toList_inj.1 h)
  · intro h; rw [h]
theorem bytesL_by (s : ByteArray) : By (bytesL s) := by
  intro x hx
  obtain ⟨b, _, rfl⟩ := List.mem_map.1 hx
  have := b.toNat_lt
  omega
theorem bytesL_nums {l : List Int} (h : By l) : bytesL (strOfNums l) = l := by
  unfold bytesL
  rw [strOfNums_data, List.map_map]
  conv => rhs; rw [← List.map_id l]
  apply List.map_congr_left
  intro x hx
  have := h x hx
  show ((UInt8.ofNat x.toNat).toNat : Int) = x
  rw [UInt8.toNat_ofNat']
  omega
theorem nums_bytesL (s : ByteArray) : strOfNums (bytesL s) = s := by
  apply ByteArray.ext
  apply Array.toList_inj.1
  rw [strOfNums_data]
  unfold bytesL
  rw [List.map_map]
  conv => rhs; rw [← List.map_id s.data.toList]
  apply List.map_congr_left
  intro x _
  simp
theorem nums_eq {a b : List Int} (ha : By a) (hb : By b) : strOfNums a = strOfNums b ↔ a = b := by
  constructor
  · intro h
    have := congrArg bytesL h
    rwa [bytesL_nums ha, bytesL_nums hb] at this
  · intro h; rw [h]
theorem bytesL_inj {s t : ByteArray} : bytesL s = bytesL t ↔ s = t := by
  constructor
  · intro h
    rw [← nums_bytesL s, ← nums_bytesL t, h]
  · intro h; rw [h]
theorem sx_at (s : ByteArray) (i : Nat) : sx s (i : Int) = (bytesL s).getD i 0 := by
  unfold sx bytesL
  rw [Int.toNat_natCast, List.getD_eq_getElem?_getD, List.getElem?_map]
  by_cases h : i < s.size
  · rw [dif_pos h, List.getElem?_eq_getElem (by rw [Array.length_toList]; exact h)]
    simp [ByteArray.getElem_eq_getElem_data]
  · rw [dif_neg h, List.getElem?_eq_none (by rw [Array.length_toList]; exact Nat.le_of_not_lt h)]
    rfl
theorem bytesL_cut (s : ByteArray) (a b : Nat) : bytesL (s.extract a b) = ((bytesL s).drop a).take (b - a) := by
  unfold bytesL
  have : (s.extract a b).data.toList = (s.data.toList.drop a).take (b - a) := by
    rw [ByteArray.data_extract, Array.toList_extract, List.extract_eq_take_drop]
  rw [this, List.map_take, List.map_drop]
/-! ### what a byte is -/
def letter (c : Int) : Bool := decide ((65 ≤ c ∧ c ≤ 90) ∨ (97 ≤ c ∧ c ≤ 122))
def digit (c : Int) : Bool := decide (48 ≤ c ∧ c ≤ 57)
def okc (c : Int) : Bool := decide (((65 ≤ c ∧ c ≤ 90) ∨ (97 ≤ c ∧ c ≤ 122)) ∨ (48 ≤ c ∧ c ≤ 57) ∨ c = 95)
theorem refletter_is (c : Int) : rivetref07_letter c = some (letter c) := by
  unfold rivetref07_letter letter
  by_cases h1 : c ≥ 65 <;> by_cases h2 : c ≤ 90 <;> by_cases h3 : c ≥ 97 <;> simp [h1, h2, h3] <;> omega
theorem refdigit_is (c : Int) : rivetref07_digit c = some (digit c) := by
  unfold rivetref07_digit digit
  by_cases h1 : c ≥ 48 <;> simp [h1] <;> omega
theorem is_is (c : Int) (b : Bool) : le_is c b = some (if b = true then letter c else okc c) := by
  unfold le_is letter okc
  by_cases h1 : c ≥ 65 <;> by_cases h2 : c ≤ 90 <;> by_cases h3 : c ≥ 97 <;> by_cases h4 : c ≤ 122 <;> by_cases h5 : c = 95 <;> by_cases h6 : c ≥ 48 <;> by_cases h7 : c ≤ 57 <;> cases b <;> simp [h1, h2, h3, h4, h5, h6, h7] <;> omega
/-! ### strings.Trim of digits -/
abbrev cut : ByteArray := ⟨#[48, 49, 50, 51, 52, 53, 54, 55, 56, 57]⟩
def setV : Vector Bool 256 := vset (vset (vset (vset (vset (vset (vset (vset (vset (vset (Vector.replicate 256 false) 48 true) 49 true) 50 true) 51 true) 52 true) 53 true) 54 true) 55 true) 56 true) 57 true
theorem ascii_is : strings_makeASCIISet cut = some (setV, true) := by
  unfold strings_makeASCIISet
  have step : ∀ (v : Vector Bool 256) (i : Nat), i < 10 → strings_makeASCIISet.b1 (cut, (i : Int), v) = some (.inl (cut, ((i + 1 : Nat) : Int), vset v (48 + i) true)) := by
    intro v i hi
    have hsz : (cut.size : Int) = 10 := rfl
    have hx : sx cut (i : Int) = ((48 + i : Nat) : Int) := by
      have : i = 0 ∨ i = 1 ∨ i = 2 ∨ i = 3 ∨ i = 4 ∨ i = 5 ∨ i = 6 ∨ i = 7 ∨ i = 8 ∨ i = 9 := by omega
      rcases this with rfl | rfl | rfl | rfl | rfl | rfl | rfl | rfl | rfl | rfl <;> rfl
    unfold strings_makeASCIISet.b1
    simp only
    rw [hsz, hx, if_pos (by omega), if_pos (by omega), if_neg (by omega), if_pos (by omega), w64s (by omega) (by omega), Int.toNat_natCast]
    rfl
  have e0 : (cut, (0 : Int), ((Vector.replicate 256 false) : Vector Bool 256)) = (cut, ((0 : Nat) : Int), (Vector.replicate 256 false)) := rfl
  rw [e0, loopO_next (step _ 0 (by omega)), loopO_next (step _ 1 (by omega)), loopO_next (step _ 2 (by omega)), loopO_next (step _ 3 (by omega)), loopO_next (step _ 4 (by omega)), loopO_next (step _ 5 (by omega)), loopO_next (step _ 6 (by omega)), loopO_next (step _ 7 (by omega)), loopO_next (step _ 8 (by omega)), loopO_next (step _ 9 (by omega)), loopO_done (r := .done setV) (by unfold strings_makeASCIISet.b1; simp only; rw [if_neg (by decide)]; rfl)]
  rfl
theorem setV_at {c : Int} (h0 : 0 ≤ c) (h1 : c ≤ 255) : vx false setV c.toNat = digit c := by
  unfold setV digit
  simp only [vx_vset (show (48 : Nat) < 256 by omega), vx_vset (show (49 : Nat) < 256 by omega), vx_vset (show (50 : Nat) < 256 by omega), vx_vset (show (51 : Nat) < 256 by omega), vx_vset (show (52 : Nat) < 256 by omega), vx_vset (show (53 : Nat) < 256 by omega), vx_vset (show (54 : Nat) < 256 by omega), vx_vset (show (55 : Nat) < 256 by omega), vx_vset (show (56 : Nat) < 256 by omega), vx_vset (show (57 : Nat) < 256 by omega)]
  have hz : vx false (Vector.replicate 256 false) c.toNat = false := by
    unfold vx
    rw [Vector.toList_replicate, List.getD_eq_getElem?_getD, List.getElem?_replicate]
    split <;> rfl
  rw [hz, Bool.eq_iff_iff, decide_eq_true_eq]
  repeat' split
  all_goals simp
  all_goals omega
theorem snoc_at {l : List Int} {n : Nat} (h : l.length = n + 1) : l = l.take n ++ [l.getD n 0] := by
  have := take_one (l := l) (i := n) (by omega)
  rw [List.take_of_length_le (by omega)] at this
  exact this
theorem right_is : ∀ (n : Nat) (y : ByteArray), y.size = n → n ≤ 1000 → ∃ y', loopO strings_trimRightASCII.b1 (y, setV) = some (y', setV) ∧ y'.size ≤ n ∧ ((y'.size = 0 ∧ (bytesL y).all digit = true) ∨ (0 < y'.size ∧ digit ((bytesL y').getD (y'.size - 1) 0) = false ∧ (bytesL y).all digit = false))
  | 0, y, hs, hn => by
    refine ⟨y, loopO_done (by unfold strings_trimRightASCII.b1; simp only; rw [if_neg (by omega)]), by omega, .inl ⟨hs, ?_⟩⟩
    have : bytesL y = [] := List.eq_nil_of_length_eq_zero (by rw [bytesL_length]; exact hs)
    rw [this]; rfl
  | n + 1, y, hs, hn => by
    have hb : (bytesL y).length = n + 1 := by rw [bytesL_length]; exact hs
    have hc := getD_in (bytesL_by y) (show n < (bytesL y).length by omega)
    have e1 : w64 ((y.size : Int) - 1) = (n : Int) := by rw [w64s (by omega) (by omega)]; omega
    have hall : (bytesL y).all digit = (((bytesL y).take n).all digit && digit ((bytesL y).getD n 0)) := by
      conv => lhs; rw [snoc_at hb]
      simp
    have hcut : bytesL (y.extract 0 n) = (bytesL y).take n := by rw [bytesL_cut]; simp
    by_cases hd : digit ((bytesL y).getD n 0) = true
    · obtain ⟨y', h1, hz, h2⟩ := right_is n (y.extract 0 n) (by rw [← bytesL_length, hcut, List.length_take]; omega) (by omega)
      refine ⟨y', ?_, by omega, ?_⟩
      · rw [loopO_next (s' := (y.extract 0 n, setV))]
        · exact h1
        · unfold strings_trimRightASCII.b1 strings_asciiSet_contains
          simp only
          rw [e1, sx_at, if_pos (by omega), if_pos (by omega), if_pos (by omega), setV_at hc.1 hc.2, hd, Option.bind_some, if_pos rfl, if_pos (by omega)]
          rfl
      · rw [hall, hd, Bool.and_true, ← hcut]; exact h2
    · have hd : digit ((bytesL y).getD n 0) = false := by simpa using hd
      refine ⟨y, loopO_done ?_, by omega, .inr ⟨by omega, ?_, ?_⟩⟩
      · unfold strings_trimRightASCII.b1 strings_asciiSet_contains
        simp only
        rw [e1, sx_at, if_pos (by omega), if_pos (by omega), if_pos (by omega), setV_at hc.1 hc.2, hd, Option.bind_some, if_neg (by simp)]
      · rw [hs]; exact hd
      · rw [hall, hd, Bool.and_false]
theorem left_is : ∀ (n : Nat) (y : ByteArray), y.size = n + 1 → n ≤ 1000 → digit ((bytesL y).getD n 0) = false → ∃ y', loopO strings_trimLeftASCII.b1 (y, setV) = some (y', setV) ∧ 0 < y'.size
  | n, y, hs, hn, hl => by
    have hb : (bytesL y).length = n + 1 := by rw [bytesL_length]; exact hs
    have hc := getD_in (bytesL_by y) (show 0 < (bytesL y).length by omega)
    have hx : sx y 0 = (bytesL y).getD 0 0 := sx_at y 0
    by_cases hd : digit ((bytesL y).getD 0 0) = true
    · cases n with
      | zero => rw [hd] at hl; cases hl
      | succ m =>
        have hcut : bytesL (y.extract 1 y.size) = (bytesL y).drop 1 := by rw [bytesL_cut, List.take_of_length_le (by rw [List.length_drop]; omega)]
        obtain ⟨y', h1, h2⟩ := left_is m (y.extract 1 y.size) (by rw [← bytesL_length, hcut, List.length_drop]; omega) (by omega) (by
          rw [hcut, List.getD_eq_getElem?_getD, List.getElem?_drop]
          rw [List.getD_eq_getElem?_getD] at hl
          rw [Nat.add_comm 1 m]
          exact hl)
        refine ⟨y', ?_, h2⟩
        rw [loopO_next (s' := (y.extract 1 y.size, setV))]
        · exact h1
        · unfold strings_trimLeftASCII.b1 strings_asciiSet_contains
          simp only
          rw [hx, if_pos (by omega), if_pos (by omega), if_pos (by omega), setV_at hc.1 hc.2, hd, Option.bind_some, if_pos rfl, if_pos (by omega)]
          rfl
    · have hd : digit ((bytesL y).getD 0 0) = false := by simpa using hd
      refine ⟨y, loopO_done ?_, by omega⟩
      unfold strings_trimLeftASCII.b1 strings_asciiSet_contains
      simp only
      rw [hx, if_pos (by omega), if_pos (by omega), if_pos (by omega), setV_at hc.1 hc.2, hd, Option.bind_some, if_neg (by simp)]
theorem hemp (t : ByteArray) : (t.toList == (⟨#[]⟩ : ByteArray).toList) = decide (t.size = 0) := by
  rw [toL_eq, decide_eq_decide]
  constructor
  · intro h; rw [h]; rfl
  · intro h
    apply ByteArray.ext
    exact Array.eq_empty_of_size_eq_zero h
theorem trim_is {y : ByteArray} (h0 : 0 < y.size) (h1 : y.size ≤ 1000) : ∃ t, strings_Trim y cut = some t ∧ (t.toList == (⟨#[]⟩ : ByteArray).toList) = (bytesL y).all digit := by
  unfold strings_Trim
  rw [hemp, if_neg (by rw [decide_eq_true_eq]; omega), hemp, if_neg (by decide), if_neg (by decide)]
  unfold strings_Trim.j1
  rw [if_neg (by simp), ascii_is]
  simp only [Option.bind_some, if_true]
  obtain ⟨y', r1, rz, r2⟩ := right_is y.size y rfl h1
  unfold strings_trimRightASCII
  rw [r1]
  simp only [Option.bind_some]
  unfold strings_trimLeftASCII
  rcases r2 with ⟨z0, za⟩ | ⟨z0, zd, za⟩
  · rw [loopO_done (r := (y', setV)) (by unfold strings_trimLeftASCII.b1; simp only; rw [if_neg (by omega)])]
    refine ⟨y', rfl, ?_⟩
    rw [hemp, za, decide_eq_true z0]
  · obtain ⟨y2, l1, l2⟩ := left_is (y'.size - 1) y' (by omega) (by omega) zd
    rw [l1]
    refine ⟨y2, rfl, ?_⟩
    rw [hemp, za, decide_eq_false (by omega)]
/-- A loop that asks of each place, the rest of its state as it was. -/
theorem all_loop {S R D : Type} {f : S → Option (S ⊕ Ex R D)} {n : Nat} {p : Nat → Bool} (h : Nat → S) (bad : Nat → R) (dn : D) (h1 : ∀ i, i < n → f (h i) = some (if p i = true then .inl (h (i + 1)) else .inr (.ret (bad i)))) (h2 : f (h n) = some (.inr (.done dn))) :
    ∃ i, loopO f (h 0) = some (if (List.range n).all p = true then .done dn else .ret (bad i)) ∧ ((List.range n).all p = true ∨ (i < n ∧ p i = false ∧ ∀ j, j < i → p j = true)) := by
  have key : ∀ (m i : Nat), i + m = n → (∀ j, j < i → p j = true) → ∃ k, loopO f (h i) = some (if (List.range' i m).all p = true then .done dn else .ret (bad k)) ∧ ((List.range' i m).all p = true ∨ (k < n ∧ p k = false ∧ ∀ j, j < k → p j = true)) := by
    intro m
    induction m with
    | zero =>
      intro i hi _
      have : i = n := by omega
      subst this
      exact ⟨0, loopO_done h2, .inl rfl⟩
    | succ m ih =>
      intro i hi hj
      rw [List.range'_succ, List.all_cons]
      cases hp : p i with
      | true =>
        obtain ⟨k, k1, k2⟩ := ih (i + 1) (by omega) (fun j hj' => by
          by_cases e : j = i
          · rw [e]; exact hp
          · exact hj j (by omega))
        refine ⟨k, ?_, by rw [Bool.true_and]; exact k2⟩
        rw [loopO_next (s' := h (i + 1)) (by rw [h1 i (by omega), hp, if_pos rfl]), Bool.true_and]
        exact k1
      | false => exact ⟨i, by rw [loopO_done (r := .ret (bad i)) (by rw [h1 i (by omega), hp, if_neg (by simp)]), Bool.false_and, if_neg (by simp)], .inr ⟨by omega, hp, hj⟩⟩
  have := key n 0 (by omega) (fun j hj => by omega)
  rw [List.range_eq_range']
  exact this
theorem all_loop' {S R D : Type} {f : S → Option (S ⊕ Ex R D)} {n : Nat} {p : Nat → Bool} (h : Nat → S) (bad : R) (dn : D) (h1 : ∀ i, i < n → f (h i) = some (if p i = true then .inl (h (i + 1)) else .inr (.ret bad))) (h2 : f (h n) = some (.inr (.done dn))) :
    loopO f (h 0) = some (if (List.range n).all p = true then .done dn else .ret bad) := by
  obtain ⟨i, h3, _⟩ := all_loop h (fun _ => bad) dn h1 h2
  exact h3
def regS (l : List Int) : Bool := decide (l.length = 2 ∨ l.length = 3) && decide (l.getD 0 0 = 82) && (l.drop 1).all digit
def nameS (l : List Int) : Bool := decide (1 ≤ l.length ∧ l.length ≤ 12) && letter (l.getD 0 0) && l.all okc && !regS l
theorem list_all {l : List Int} (q : Int → Bool) : l.all q = (List.range l.length).all fun i => q (l.getD i 0) := by
  rw [Bool.eq_iff_iff, List.all_eq_true, List.all_eq_true]
  constructor
  · intro h i hi
    exact getD_in (p := fun x => q x = true) h (List.mem_range.1 hi)
  · intro h x hx
    obtain ⟨i, hi, rfl⟩ := List.getElem_of_mem hx
    have := h i (List.mem_range.2 hi)
    rwa [List.getD_eq_getElem?_getD, List.getElem?_eq_getElem hi] at this
theorem letter_ok {c : Int} (h : letter c = true) : okc c = true := by
  unfold letter okc at *
  rw [decide_eq_true_eq] at *
  exact .inl h
theorem reg2 {l : List Int} (h : l.length = 2) : (l.drop 1).all digit = digit (l.getD 1 0) := by
  obtain ⟨a, b, rfl⟩ : ∃ a b, l = [a, b] := by
    match l, h with
    | [a, b], _ => exact ⟨a, b, rfl⟩
  simp
theorem reg3 {l : List Int} (h : l.length = 3) : (l.drop 1).all digit = (digit (l.getD 1 0) && digit (l.getD 2 0)) := by
  obtain ⟨a, b, c, rfl⟩ : ∃ a b c, l = [a, b, c] := by
    match l, h with
    | [a, b, c], _ => exact ⟨a, b, c, rfl⟩
  simp
theorem refregister_is (s : ByteArray) : rivetref07_Register s = some (regS (bytesL s)) := by
  have hL := bytesL_length s
  unfold rivetref07_Register regS
  have x0 : sx s 0 = (bytesL s).getD 0 0 := sx_at s 0
  have x1 : sx s 1 = (bytesL s).getD 1 0 := sx_at s 1
  have x2 : sx s 2 = (bytesL s).getD 2 0 := sx_at s 2
  by_cases h2 : (s.size : Int) < 2
  · rw [if_pos h2, decide_eq_false (by omega)]; rfl
  · rw [if_neg h2]
    by_cases h3 : (s.size : Int) > 3
    · rw [if_pos h3, decide_eq_false (by omega)]; rfl
    · rw [if_neg h3, if_pos (by omega), decide_eq_true (show (bytesL s).length = 2 ∨ (bytesL s).length = 3 by omega), x0]
      by_cases hr : (bytesL s).getD 0 0 = 82
      · rw [if_pos hr, decide_eq_true hr, if_pos (by omega), x1, x2, refdigit_is, refdigit_is]
        simp only [Option.bind_some]
        by_cases hz : (s.size : Int) = 2
        · rw [reg2 (by omega), if_pos hz]
          cases digit ((bytesL s).getD 1 0) <;> rfl
        · rw [reg3 (by omega), if_neg hz, if_pos (show (0 : Int) ≤ 2 ∧ (2 : Int) < (s.size : Int) by omega)]
          cases digit ((bytesL s).getD 1 0) <;> rfl
      · rw [if_neg hr, decide_eq_false hr]
        simp
theorem okc_eq (c : Int) : okc c = (letter c || digit c || decide (c = 95)) := by
  unfold okc letter digit
  rw [Bool.eq_iff_iff, Bool.or_eq_true, Bool.or_eq_true, decide_eq_true_eq, decide_eq_true_eq, decide_eq_true_eq, decide_eq_true_eq]
  omega
theorem refname_is {s : ByteArray} : rivetref07_Name s = some (nameS (bytesL s)) := by
  have hL := bytesL_length s
  unfold rivetref07_Name nameS
  have x0 : sx s 0 = (bytesL s).getD 0 0 := sx_at s 0
  by_cases h1 : (s.size : Int) < 1
  · rw [if_pos h1, decide_eq_false (by omega)]; rfl
  · rw [if_neg h1]
    by_cases h2 : (s.size : Int) > 12
    · rw [if_pos h2, decide_eq_false (by omega)]; rfl
    · rw [if_neg h2, if_pos (by omega), x0, refletter_is, decide_eq_true (show 1 ≤ (bytesL s).length ∧ (bytesL s).length ≤ 12 by omega)]
      simp only [Option.bind_some]
      cases hl : letter ((bytesL s).getD 0 0) with
      | false => rw [if_neg (by simp)]; simp
      | true =>
        rw [if_pos rfl, refregister_is]
        simp only [Option.bind_some]
        cases hr : regS (bytesL s) with
        | true => simp
        | false =>
          have k := all_loop' (f := rivetref07_Name.b1) (n := s.size) (p := fun i => okc ((bytesL s).getD i 0)) (fun i => (s, (i : Int))) false () (fun i hi => by
            unfold rivetref07_Name.b1
            simp only
            rw [if_pos (by omega), if_pos (by omega), if_pos (by omega), if_pos (by omega), sx_at, refletter_is, refdigit_is]
            simp only [Option.bind_some]
            rw [w64s (by omega) (by omega), okc_eq]
            generalize (bytesL s).getD i 0 = c
            by_cases h95 : c = 95
            · rw [if_pos h95, decide_eq_true h95]
              cases letter c <;> cases digit c <;> rfl
            · rw [if_neg h95, decide_eq_false h95]
              cases letter c <;> cases digit c <;> rfl) (by
            unfold rivetref07_Name.b1
            simp only
            rw [if_neg (by omega)])
          rw [if_neg (by simp), show loopO rivetref07_Name.b1 (s, 0) = _ from k, list_all okc, hL]
          cases (List.range s.size).all fun i => okc ((bytesL s).getD i 0) <;> rfl
theorem name_is {s : ByteArray} : le_Name s = some (nameS (bytesL s)) := by
  have hL := bytesL_length s
  unfold le_Name nameS
  have x0 : sx s 0 = (bytesL s).getD 0 0 := sx_at s 0
  by_cases h1 : (s.size : Int) = 0
  · rw [if_pos h1, decide_eq_false (by omega)]; rfl
  · rw [if_neg h1]
    by_cases h2 : (s.size : Int) > 12
    · rw [if_pos h2, decide_eq_false (show ¬ (1 ≤ (bytesL s).length ∧ (bytesL s).length ≤ 12) by omega)]; rfl
    · rw [if_neg h2, decide_eq_true (show 1 ≤ (bytesL s).length ∧ (bytesL s).length ≤ 12 by omega)]
      have k := all_loop' (f := le_Name.b1) (n := s.size) (p := fun i => if i = 0 then letter ((bytesL s).getD i 0) else okc ((bytesL s).getD i 0)) (fun i => (s, (s.size : Int), (i : Int))) false s (fun i hi => by
        unfold le_Name.b1
        simp only
        rw [if_pos (by omega), if_pos (by omega), sx_at, is_is]
        simp only [Option.bind_some]
        rw [w64s (by omega) (by omega)]
        by_cases hz : i = 0
        · subst hz
          simp only [if_true]
          cases letter ((bytesL s).getD 0 0) <;> rfl
        · have hd : decide ((i : Int) = 0) = false := decide_eq_false (by omega)
          simp only [hd, if_neg hz, Bool.false_eq_true, if_false]
          cases okc ((bytesL s).getD i 0) <;> rfl) (by
        unfold le_Name.b1
        simp only
        rw [if_neg (by omega)])
      have hall : ((List.range s.size).all fun i => if i = 0 then letter ((bytesL s).getD i 0) else okc ((bytesL s).getD i 0)) = (letter ((bytesL s).getD 0 0) && (bytesL s).all okc) := by
        rw [list_all okc, hL, Bool.eq_iff_iff, Bool.and_eq_true, List.all_eq_true, List.all_eq_true]
        constructor
        · intro h
          have g0 := h 0 (List.mem_range.2 (by omega))
          rw [if_pos rfl] at g0
          refine ⟨g0, fun i hi => ?_⟩
          have := h i hi
          by_cases hz : i = 0
          · subst hz; exact letter_ok g0
          · rwa [if_neg hz] at this
        · rintro ⟨g0, g⟩ i hi
          by_cases hz : i = 0
          · subst hz; rw [if_pos rfl]; exact g0
          · rw [if_neg hz]; exact g i hi
      rw [show loopO le_Name.b1 (s, (s.size : Int), 0) = _ from k, hall]
      cases ha : letter ((bytesL s).getD 0 0) && (bytesL s).all okc with
      | false => rw [if_neg (by simp), Bool.true_and, ha, Bool.false_and]; rfl
      | true =>
        rw [if_pos rfl, Bool.true_and, ha, Bool.true_and]
        simp only [Option.bind_some]
        rw [if_pos (by omega), x0]
        have hcut : bytesL (s.extract 1 s.size) = (bytesL s).drop 1 := by rw [bytesL_cut, List.take_of_length_le (by rw [List.length_drop]; omega)]
        have hcz : (s.extract 1 s.size).size = s.size - 1 := by rw [← bytesL_length, hcut, List.length_drop, hL]
        have e1 : (Int.toNat 1) = 1 := rfl
        have e2 : (Int.toNat (s.size : Int)) = s.size := Int.toNat_natCast _
        unfold regS
        by_cases hr : (bytesL s).getD 0 0 = 82
        · rw [if_pos hr, decide_eq_true hr]
          by_cases h23 : (s.size : Int) = 2 ∨ (s.size : Int) = 3
          · obtain ⟨t, t1, t2⟩ := trim_is (y := s.extract 1 s.size) (by omega) (by omega)
            rw [decide_eq_true (show (bytesL s).length = 2 ∨ (bytesL s).length = 3 by omega)]
            rw [hcut] at t2
            rcases h23 with h3 | h3
            · rw [if_pos h3, if_pos (by omega), e1, e2, t1]
              simp only [Option.bind_some, t2]
              simp
            · rw [if_neg (by omega), if_pos h3, if_pos (by omega), e1, e2, t1]
              simp only [Option.bind_some, t2]
              simp
          · rw [if_neg (by omega), if_neg (by omega), decide_eq_false (show ¬ ((bytesL s).length = 2 ∨ (bytesL s).length = 3) by omega)]
            rfl
        · rw [if_neg hr, decide_eq_false hr]
          simp
end Go.Proofs.YtlpiomnmaiddbaaGreatDoor.LA
namespace Go.Proofs.YtlpiomnmaiddbaaGreatDoor.LA
set_option linter.unusedVariables false
set_option linter.unusedSimpArgs false
open Go Go.RowKit Go.Proofs.YtlpiomnmaiddbaaGreatDoor.E
abbrev sy (l : List Sapi_Sym) (i : Nat) : Sapi_Sym := l.getD i dSapi_Sym
theorem ixs (l : List Sapi_Sym) (i : Nat) : ix dSapi_Sym l (i : Int) = sy l i := rfl
def le2 (s t : ByteArray) : Bool := Op.bytesLess s.toList t.toList || s.toList == t.toList
def siteOk (o : Sapi_Obj) (i : Nat) : Bool := decide (o.Words.getD (o.Sites.getD i 0).toNat 0 ≤ 4 * (o.Words.length : Int))
def nmOk (l : List Sapi_Sym) (i : Nat) : Bool := nameS (bytesL (sy l i).Name) && !(decide (0 < i) && le2 (sy l i).Name (sy l (i - 1)).Name)
def atOk (n : Nat) (x : Int) : Bool := decide (0 ≤ x ∧ x ≤ 4 * (n : Int) ∧ x % 4 = 0)
def mayS (o : Sapi_Obj) : Int :=
  if 1024 < o.Words.length ∨ 64 < o.Syms.length then 2 else
  if rise (o.Words.length : Int) (-1) o.Sites = false then 7 else
  if (List.range o.Sites.length).all (siteOk o) = false then 8 else
  if (List.range o.Syms.length).all (nmOk o.Syms) = false then 9 else
  if (List.range o.Syms.length).all (fun i => atOk o.Words.length (sy o.Syms i).At) = false then 8 else 0
/-- What is known of an object that comes in. -/
structure Ob (o : Sapi_Obj) : Prop where
  w : Wd o.Words
  wl : o.Words.length ≤ 1000000000000
  sl : o.Sites.length ≤ 1000000000000
  yl : o.Syms.length ≤ 1000000000000
section
variable {o : Sapi_Obj}
theorem rise_at {N : Int} {l : List Int} (h : rise N (-1) l = true) {i : Nat} (hi : i < l.length) : 0 ≤ l.getD i 0 ∧ l.getD i 0 < N := by
  have h1 := rise_all h (by omega) (l.getD i 0) (getD_mem hi)
  exact ⟨h1.2.1, h1.2.2.1⟩
theorem site_word (h : Ob o) (hr : rise (o.Words.length : Int) (-1) o.Sites = true) {i : Nat} (hi : i < o.Sites.length) : 0 ≤ o.Words.getD (o.Sites.getD i 0).toNat 0 ∧ o.Words.getD (o.Sites.getD i 0).toNat 0 ≤ 4294967295 := by
  have h1 := rise_at hr hi
  exact getD_in h.w (i := (o.Sites.getD i 0).toNat) (by omega)
theorem ob_sites (h : Ob o) (hn : o.Words.length ≤ 1024) (hr : rise (o.Words.length : Int) (-1) o.Sites = true) : slices_ContainsFunc_int_int o.Sites (4 * (o.Words.length : Int)) o.Words o.Syms = some (!(List.range o.Sites.length).all (siteOk o)) := by
  have hsl := h.sl
  obtain ⟨k, k1, k2⟩ := all_loop (f := slices_IndexFunc_int_int.b1) (n := o.Sites.length) (p := siteOk o) (fun i => ((o.Sites.length : Int), (i : Int), o.Sites, 4 * (o.Words.length : Int), o.Words, o.Syms)) (fun i => (i : Int)) () (fun i hi => by
    have h1 := rise_at hr hi
    have h2 := site_word h hr hi
    unfold slices_IndexFunc_int_int.b1 object_May_1
    simp only
    rw [if_pos (by omega), if_pos (by omega), ixn, if_pos h1]
    simp only [Option.bind_some]
    have e2 : ix 0 o.Words (o.Sites.getD i 0) = o.Words.getD (o.Sites.getD i 0).toNat 0 := rfl
    rw [e2, w64s (x := o.Words.getD _ _) (by omega) (by omega), w64s (x := (i : Int) + 1) (by omega) (by omega)]
    unfold siteOk
    by_cases hc : o.Words.getD (o.Sites.getD i 0).toNat 0 > 4 * (o.Words.length : Int)
    · rw [decide_eq_true hc, if_pos rfl, decide_eq_false (by omega), if_neg (by simp)]
    · rw [decide_eq_false hc, if_neg (by simp), decide_eq_true (by omega), if_pos rfl]; rfl) (by
    unfold slices_IndexFunc_int_int.b1
    simp only
    rw [if_neg (by omega)])
  unfold slices_ContainsFunc_int_int slices_IndexFunc_int_int
  rw [show loopO slices_IndexFunc_int_int.b1 ((o.Sites.length : Int), 0, o.Sites, 4 * (o.Words.length : Int), o.Words, o.Syms) = _ from k1]
  cases ha : (List.range o.Sites.length).all (siteOk o) with
  | true => rfl
  | false =>
    simp only [Bool.false_eq_true, if_false, Option.bind_some]
    rw [decide_eq_true (by omega)]
    rfl
theorem sym_prev {i : Nat} (hi : (i : Int) > 0) (hb : (i : Int) < 1000000000001) : w64 ((i : Int) - 1) = ((i - 1 : Nat) : Int) := by rw [w64s (by omega) (by omega)]; omega
theorem ob_names (h : Ob o) : object_May_3 o.Words o.Sites o.Syms = some ((List.range o.Syms.length).all (nmOk o.Syms)) := by
  have hyl := h.yl
  have k := all_loop' (f := object_May_3.b1) (n := o.Syms.length) (p := nmOk o.Syms) (fun i => ((o.Syms.length : Int), (i : Int), o.Words, o.Sites, o.Syms)) false () (fun i hi => by
    unfold object_May_3.b1 nmOk
    simp only
    rw [if_pos (by omega), if_pos (by omega), ixs, name_is]
    simp only [Option.bind_some]
    rw [w64s (x := (i : Int) + 1) (by omega) (by omega)]
    cases nameS (bytesL (sy o.Syms i).Name) with
    | false => rfl
    | true =>
      rw [if_pos rfl]
      by_cases h0 : (i : Int) > 0
      · rw [if_pos h0, sym_prev h0 (by omega), if_pos (by omega), ixs, decide_eq_true (show 0 < i by omega)]
        show (if le2 _ _ = true then _ else _) = _
        cases le2 (sy o.Syms i).Name (sy o.Syms (i - 1)).Name <;> rfl
      · rw [if_neg h0, decide_eq_false (show ¬ 0 < i by omega)]; rfl) (by
    unfold object_May_3.b1
    simp only
    rw [if_neg (by omega)])
  unfold object_May_3
  rw [show loopO object_May_3.b1 ((o.Syms.length : Int), 0, o.Words, o.Sites, o.Syms) = _ from k]
  cases (List.range o.Syms.length).all (nmOk o.Syms) <;> rfl
theorem odd_is (s : Sapi_Sym) {n : Nat} : object_May_2 s (4 * (n : Int)) = some (!atOk n s.At) := by
  unfold object_May_2 atOk
  by_cases h1 : s.At < 0
  · rw [if_pos h1, decide_eq_false (by omega)]; rfl
  · by_cases h2 : s.At > 4 * (n : Int)
    · rw [if_neg h1, if_pos h2, decide_eq_false (by omega)]; rfl
    · rw [if_neg h1, if_neg h2, Int.tmod_eq_emod_of_nonneg (by omega)]
      by_cases h3 : s.At % 4 = 0
      · rw [decide_eq_true h3, decide_eq_true (by omega)]
      · rw [decide_eq_false h3, decide_eq_false (by omega)]
theorem ob_ats (h : Ob o) : slices_ContainsFunc_rivet_api_Sym_rivet_api_Sym o.Syms (4 * (o.Words.length : Int)) = some (!(List.range o.Syms.length).all (fun i => atOk o.Words.length (sy o.Syms i).At)) := by
  have hyl := h.yl
  obtain ⟨k, k1, k2⟩ := all_loop (f := slices_IndexFunc_rivet_api_Sym_rivet_api_Sym.b1) (n := o.Syms.length) (p := fun i => atOk o.Words.length (sy o.Syms i).At) (fun i => ((o.Syms.length : Int), (i : Int), o.Syms, 4 * (o.Words.length : Int))) (fun i => (i : Int)) () (fun i hi => by
    unfold slices_IndexFunc_rivet_api_Sym_rivet_api_Sym.b1
    simp only
    rw [if_pos (by omega), if_pos (by omega), ixs, odd_is, w64s (x := (i : Int) + 1) (by omega) (by omega)]
    simp only [Option.bind_some]
    cases atOk o.Words.length (sy o.Syms i).At <;> rfl) (by
    unfold slices_IndexFunc_rivet_api_Sym_rivet_api_Sym.b1
    simp only
    rw [if_neg (by omega)])
  unfold slices_ContainsFunc_rivet_api_Sym_rivet_api_Sym slices_IndexFunc_rivet_api_Sym_rivet_api_Sym
  rw [show loopO slices_IndexFunc_rivet_api_Sym_rivet_api_Sym.b1 ((o.Syms.length : Int), 0, o.Syms, 4 * (o.Words.length : Int)) = _ from k1]
  cases ha : (List.range o.Syms.length).all (fun i => atOk o.Words.length (sy o.Syms i).At) with
  | true => rfl
  | false =>
    simp only [Bool.false_eq_true, if_false, Option.bind_some]
    rw [decide_eq_true (by omega)]
    rfl
theorem obmay_is (h : Ob o) : object_May o = some (mayS o) := by
  have hw := h.wl
  have hs := h.sl
  have hy := h.yl
  unfold object_May mayS
  by_cases hb : 1024 < o.Words.length ∨ 64 < o.Syms.length
  · rw [if_pos hb]
    by_cases h1 : 1024 < o.Words.length
    · rw [if_pos (by omega)]
    · rw [if_neg (by omega), if_pos (by omega)]
  · rw [if_neg hb, if_neg (by omega), if_neg (by omega)]
    have hn : o.Words.length ≤ 1024 := by omega
    obtain ⟨x, e, w, p1, p2⟩ := pack_err (l := o.Words) (s := o.Sites) (by omega) (by omega)
    rw [p1, Option.bind_some]
    simp only
    cases hr : rise (o.Words.length : Int) (-1) o.Sites with
    | false =>
      have he := p2.2 hr
      rw [if_pos he, he]; rfl
    | true =>
      have he : ¬ e = 7 := fun c => by rw [p2.1 c] at hr; cases hr
      rw [if_neg he, if_neg (by simp), w64s (x := 4 * (o.Words.length : Int)) (by omega) (by omega), ob_sites h hn hr]
      simp only [Option.bind_some]
      cases (List.range o.Sites.length).all (siteOk o) with
      | false => rfl
      | true =>
        rw [if_neg (by simp), if_neg (by simp), ob_names h]
        simp only [Option.bind_some]
        cases (List.range o.Syms.length).all (nmOk o.Syms) with
        | false => rfl
        | true =>
          rw [if_pos rfl, if_neg (by simp), ob_ats h]
          simp only [Option.bind_some]
          cases (List.range o.Syms.length).all (fun i => atOk o.Words.length (sy o.Syms i).At) <;> rfl
theorem refobmay_is (h : Ob o) : rivetref09_May o = some (mayS o) := by
  have hw := h.wl
  have hs := h.sl
  have hy := h.yl
  unfold rivetref09_May mayS
  by_cases hb : 1024 < o.Words.length ∨ 64 < o.Syms.length
  · rw [if_pos hb]
    by_cases h1 : 1024 < o.Words.length
    · rw [if_pos (by omega)]
    · rw [if_neg (by omega), if_pos (by omega)]
  · rw [if_neg hb, if_neg (by omega), if_neg (by omega)]
    have hn : o.Words.length ≤ 1024 := by omega
    have e4 : w64 (4 * (o.Words.length : Int)) = 4 * (o.Words.length : Int) := w64s (by omega) (by omega)
    rw [rise_is _ (by omega), Option.bind_some]
    cases hr : rise (o.Words.length : Int) (-1) o.Sites with
    | false => rfl
    | true =>
      rw [if_pos rfl, if_neg (by simp)]
      have k1 := all_loop' (f := rivetref09_May.b1) (n := o.Sites.length) (p := siteOk o) (fun i => ((o.Words.length : Int), (i : Int), o.Words, o.Sites, o.Syms)) 8 ((o.Words.length : Int), o.Words, o.Sites, o.Syms) (fun i hi => by
        have h1 := rise_at hr hi
        have h2 := site_word h hr hi
        unfold rivetref09_May.b1
        simp only
        have e2 : ix 0 o.Words (o.Sites.getD i 0) = o.Words.getD (o.Sites.getD i 0).toNat 0 := rfl
        rw [if_pos (by omega), if_pos (by omega), ixn, if_pos h1, e2, w64s (x := o.Words.getD _ _) (by omega) (by omega), e4, w64s (x := (i : Int) + 1) (by omega) (by omega)]
        unfold siteOk
        by_cases hc : o.Words.getD (o.Sites.getD i 0).toNat 0 > 4 * (o.Words.length : Int)
        · rw [if_pos hc, decide_eq_false (by omega)]; rfl
        · rw [if_neg hc, decide_eq_true (by omega)]; rfl) (by
        unfold rivetref09_May.b1
        simp only
        rw [if_neg (by omega)])
      rw [show loopO rivetref09_May.b1 ((o.Words.length : Int), 0, o.Words, o.Sites, o.Syms) = _ from k1]
      cases (List.range o.Sites.length).all (siteOk o) with
      | false => rfl
      | true =>
        rw [if_pos rfl, if_neg (by simp)]
        simp only [Option.bind_some]
        have k2 := all_loop' (f := rivetref09_May.b2) (n := o.Syms.length) (p := nmOk o.Syms) (fun i => ((o.Words.length : Int), (i : Int), o.Words, o.Sites, o.Syms)) 9 ((o.Words.length : Int), o.Words, o.Sites, o.Syms) (fun i hi => by
          unfold rivetref09_May.b2 nmOk
          simp only
          rw [if_pos (by omega), if_pos (by omega), ixs, refname_is]
          simp only [Option.bind_some]
          rw [w64s (x := (i : Int) + 1) (by omega) (by omega)]
          cases nameS (bytesL (sy o.Syms i).Name) with
          | false => rfl
          | true =>
            rw [if_pos rfl]
            by_cases h0 : (i : Int) > 0
            · rw [if_pos h0, if_pos (by omega), sym_prev h0 (by omega), if_pos (by omega), ixs, decide_eq_true (show 0 < i by omega)]
              show (if le2 _ _ = true then _ else _) = _
              cases le2 (sy o.Syms i).Name (sy o.Syms (i - 1)).Name <;> rfl
            · rw [if_neg h0, decide_eq_false (show ¬ 0 < i by omega)]; rfl) (by
          unfold rivetref09_May.b2
          simp only
          rw [if_neg (by omega)])
        rw [show loopO rivetref09_May.b2 ((o.Words.length : Int), 0, o.Words, o.Sites, o.Syms) = _ from k2]
        cases (List.range o.Syms.length).all (nmOk o.Syms) with
        | false => rfl
        | true =>
          rw [if_pos rfl, if_neg (by simp)]
          simp only [Option.bind_some]
          have k3 := all_loop' (f := rivetref09_May.b3) (n := o.Syms.length) (p := fun i => atOk o.Words.length (sy o.Syms i).At) (fun i => ((o.Words.length : Int), (i : Int), o.Words, o.Sites, o.Syms)) 8 () (fun i hi => by
            unfold rivetref09_May.b3 atOk
            simp only
            rw [if_pos (by omega), if_pos (by omega), ixs, e4, w64s (x := (i : Int) + 1) (by omega) (by omega)]
            by_cases h1 : (sy o.Syms i).At < 0
            · rw [if_pos h1, decide_eq_false (by omega)]; rfl
            · by_cases h2 : (sy o.Syms i).At > 4 * (o.Words.length : Int)
              · rw [if_neg h1, if_pos h2, decide_eq_false (by omega)]; rfl
              · rw [if_neg h1, if_neg h2, Int.tmod_eq_emod_of_nonneg (by omega)]
                by_cases h3 : (sy o.Syms i).At % 4 = 0
                · rw [if_pos h3, decide_eq_true (by omega)]; rfl
                · rw [if_neg h3, decide_eq_false (by omega)]; rfl) (by
            unfold rivetref09_May.b3
            simp only
            rw [if_neg (by omega)])
          rw [show loopO rivetref09_May.b3 ((o.Words.length : Int), 0, o.Words, o.Sites, o.Syms) = _ from k3]
          cases (List.range o.Syms.length).all (fun i => atOk o.Words.length (sy o.Syms i).At) <;> rfl
end
end Go.Proofs.YtlpiomnmaiddbaaGreatDoor.LA
namespace Go.Proofs.YtlpiomnmaiddbaaGreatDoor.LA
set_option linter.unusedVariables false
set_option linter.unusedSimpArgs false
open Go Go.RowKit Go.Proofs.YtlpiomnmaiddbaaGreatDoor.E
abbrev tab12 : ByteArray := ⟨#[97, 98, 99, 88, 89, 90, 95, 48, 49, 57, 82, 109]⟩
structure Made (v : ByteArray) (n : Nat) : Prop where
  lo : 1 ≤ v.size
  hi : v.size ≤ n
  ok : (bytesL v).all okc = true
  first : 97 ≤ (bytesL v).getD 0 0 ∧ (bytesL v).getD 0 0 ≤ 122
  low : ∀ x ∈ (bytesL v).drop 1, x ≤ 109
theorem bytesL_append (a b : ByteArray) : bytesL (a ++ b) = bytesL a ++ bytesL b := by
  unfold bytesL
  rw [ByteArray.data_append, Array.toList_append, List.map_append]
theorem tab_at {k : Nat} (h : k < 12) : (bytesL (tab12.extract k (k + 1))).all okc = true ∧ (bytesL (tab12.extract k (k + 1))).length = 1 ∧ (bytesL (tab12.extract k (k + 1))).all (fun x => decide (x ≤ 109)) = true := by
  rw [bytesL_cut, show k + 1 - k = 1 by omega]
  have : k = 0 ∨ k = 1 ∨ k = 2 ∨ k = 3 ∨ k = 4 ∨ k = 5 ∨ k = 6 ∨ k = 7 ∨ k = 8 ∨ k = 9 ∨ k = 10 ∨ k = 11 := by omega
  rcases this with rfl | rfl | rfl | rfl | rfl | rfl | rfl | rfl | rfl | rfl | rfl | rfl <;> decide +kernel
theorem made_name {v : ByteArray} (h : Made v 7) : nameS (bytesL v) = true := by
  have h1 := h.lo
  have h2 := h.hi
  have h3 := h.first
  unfold nameS
  rw [bytesL_length, decide_eq_true (show 1 ≤ v.size ∧ v.size ≤ 12 by omega), h.ok]
  have e1 : letter ((bytesL v).getD 0 0) = true := by unfold letter; rw [decide_eq_true_eq]; omega
  have e2 : regS (bytesL v) = false := by
    unfold regS
    rw [decide_eq_false (show ¬ (bytesL v).getD 0 0 = 82 by omega)]
    simp
  rw [e1, e2]
  rfl
/-! ### order -/
theorem less_irr : ∀ l : List UInt8, Op.bytesLess l l = false
  | [] => rfl
  | a :: l => by simp [Op.bytesLess, less_irr l]
theorem less_trans : ∀ {a b c : List UInt8}, Op.bytesLess a b = true → Op.bytesLess b c = true → Op.bytesLess a c = true
  | _, _, [], _, h => by cases h' : (by assumption : List UInt8) <;> simp [Op.bytesLess] at h
  | [], _, _ :: _, _, _ => rfl
  | a :: x, [], c :: z, h, _ => by simp [Op.bytesLess] at h
  | a :: x, b :: y, c :: z, h, k => by
    simp only [Op.bytesLess, Bool.or_eq_true, decide_eq_true_eq, Bool.and_eq_true, beq_iff_eq] at h k ⊢
    rcases h with h | ⟨rfl, h⟩
    · rcases k with k | ⟨rfl, k⟩
      · exact .inl (UInt8.lt_trans h k)
      · exact .inl h
    · rcases k with k | ⟨rfl, k⟩
      · exact .inl k
      · exact .inr ⟨rfl, less_trans h k⟩
theorem less_tri : ∀ {a b : List UInt8}, Op.bytesLess a b = false → a ≠ b → Op.bytesLess b a = true
  | [], [], _, h => absurd rfl h
  | [], _ :: _, h, _ => by simp [Op.bytesLess] at h
  | _ :: _, [], _, _ => rfl
  | a :: x, b :: y, h, hne => by
    simp only [Op.bytesLess, Bool.or_eq_false_iff, decide_eq_false_iff_not, Bool.and_eq_false_iff, beq_eq_false_iff_ne] at h
    simp only [Op.bytesLess, Bool.or_eq_true, decide_eq_true_eq, Bool.and_eq_true, beq_iff_eq]
    by_cases hab : a = b
    · subst hab
      refine .inr ⟨rfl, less_tri (h.2.resolve_left (by simp)) fun e => hne (by rw [e])⟩
    · refine .inl ?_
      have h1 := h.1
      rw [UInt8.lt_iff_toNat_lt] at h1 ⊢
      have : a.toNat ≠ b.toNat := fun e => hab (UInt8.toNat_inj.1 e)
      omega
def ls (s t : ByteArray) : Prop := Op.bytesLess s.toList t.toList = true
theorem ls.trans {a b c : ByteArray} (h : ls a b) (k : ls b c) : ls a c := less_trans h k
theorem ls.irr (a : ByteArray) : ¬ ls a a := by unfold ls; rw [less_irr]; simp
theorem le2_false {s t : ByteArray} (h : ls t s) : le2 s t = false := by
  unfold le2
  rw [Bool.or_eq_false_iff]
  constructor
  · cases hc : Op.bytesLess s.toList t.toList with
    | false => rfl
    | true => exact absurd (less_trans h hc) (by rw [less_irr]; simp)
  · rw [toL_eq, decide_eq_false_iff_not]
    rintro rfl
    exact ls.irr _ h
theorem le2_true {s t : ByteArray} (h : s = t) : le2 s t = true := by
  unfold le2
  rw [Bool.or_eq_true]
  exact .inr (by rw [toL_eq]; simpa using h)
/-- What an object that is made is. -/
structure Fitted (o : Sapi_Obj) : Prop where
  w : Wd o.Words
  wl : o.Words.length ≤ 40
  ris : Ris 0 o.Words.length o.Sites
  val : ∀ x ∈ o.Sites, o.Words.getD x.toNat 0 ≤ 4 * (o.Words.length : Int)
  yl : o.Syms.length ≤ 8
  nm : ∀ s ∈ o.Syms, Made s.Name 7
  up : o.Syms.Pairwise fun a b => ls a.Name b.Name
  at' : ∀ s ∈ o.Syms, atOk o.Words.length s.At = true
theorem ris_len {n : Nat} {s : List Int} (h : Ris 0 n s) : s.length ≤ n := by
  rcases Nat.lt_or_ge n s.length with hc | hc
  · exfalso
    have key : ∀ (k : Nat) (hk : k < s.length), (k : Int) ≤ s[k] := by
      intro k
      induction k with
      | zero => intro hk; exact h.lo _ (List.getElem_mem hk)
      | succ k ih =>
        intro hk
        have a := ih (by omega)
        have b := List.pairwise_iff_getElem.1 h.up k (k + 1) (by omega) hk (by omega)
        omega
    have a := key n hc
    have b := h.hi s[n] (List.getElem_mem hc)
    omega
  · exact hc
theorem Fitted.ob {o : Sapi_Obj} (h : Fitted o) : Ob o := by
  have h1 := h.wl
  have h2 := h.yl
  have h3 := ris_len h.ris
  exact ⟨h.w, by omega, by omega, by omega⟩
theorem sy_at {l : List Sapi_Sym} {i : Nat} (h : i < l.length) : sy l i = l[i] := by
  unfold sy
  rw [List.getD_eq_getElem?_getD, List.getElem?_eq_getElem h]
  rfl
theorem sy_mem {l : List Sapi_Sym} {i : Nat} (h : i < l.length) : sy l i ∈ l := by
  rw [sy_at h]
  exact List.getElem_mem h
/-- What may be: told by what holds. -/
theorem may_ok {o : Sapi_Obj} (h1 : o.Words.length ≤ 1024) (h2 : o.Syms.length ≤ 64) (h3 : Ris 0 o.Words.length o.Sites) (h4 : ∀ x ∈ o.Sites, o.Words.getD x.toNat 0 ≤ 4 * (o.Words.length : Int)) (h5 : ∀ s ∈ o.Syms, nameS (bytesL s.Name) = true)
    (h6 : o.Syms.Pairwise fun a b => ls a.Name b.Name) (h7 : ∀ s ∈ o.Syms, atOk o.Words.length s.At = true) : mayS o = 0 := by
  unfold mayS
  have hr : rise (o.Words.length : Int) (-1) o.Sites = true := rise_of h3.up fun x hx => by have := h3.lo x hx; have := h3.hi x hx; omega
  have hs : (List.range o.Sites.length).all (siteOk o) = true := List.all_eq_true.2 fun i hi => by
    have hi : i < o.Sites.length := by simpa using hi
    unfold siteOk
    rw [decide_eq_true_eq]
    refine h4 _ ?_
    rw [List.getD_eq_getElem?_getD, List.getElem?_eq_getElem hi]
    exact List.getElem_mem hi
  have hn : (List.range o.Syms.length).all (nmOk o.Syms) = true := List.all_eq_true.2 fun i hi => by
    have hi : i < o.Syms.length := by simpa using hi
    unfold nmOk
    rw [h5 _ (sy_mem hi), Bool.true_and]
    by_cases h0 : 0 < i
    · have := List.pairwise_iff_getElem.1 h6 (i - 1) i (by omega) hi (by omega)
      rw [sy_at hi, sy_at (show i - 1 < o.Syms.length by omega), le2_false this]
      simp
    · rw [decide_eq_false h0]; rfl
  have ha : (List.range o.Syms.length).all (fun i => atOk o.Words.length (sy o.Syms i).At) = true := List.all_eq_true.2 fun i hi => by
    have hi : i < o.Syms.length := by simpa using hi
    exact h7 _ (sy_mem hi)
  rw [if_neg (by omega), hr, if_neg (by simp), hs, if_neg (by simp), hn, if_neg (by simp), ha, if_neg (by simp)]
theorem Fitted.may {o : Sapi_Obj} (h : Fitted o) : mayS o = 0 := by
  have := h.wl
  have := h.yl
  exact may_ok (by omega) (by omega) h.ris h.val (fun s hs => made_name (h.nm s hs)) h.up h.at'
/-! ### the made words -/
theorem set_getD {l : List Int} {i j : Nat} {v : Int} (hi : i < l.length) : (l.set i v).getD j 0 = if j = i then v else l.getD j 0 := by
  simp only [List.getD_eq_getElem?_getD, List.getElem?_set]
  by_cases h : i = j
  · subst h; simp [hi]
  · rw [if_neg h, if_neg (fun e => h e.symm)]
/-! ### the made names -/
section
variable {n : Nat} {ns : List ByteArray} {u s : List Int}
/-- The names so far. -/
structure Nms (n : Nat) (i : Nat) (l : List Sapi_Sym) : Prop where
  len : l.length ≤ i
  nm : ∀ s ∈ l, Made s.Name 7
  up : l.Pairwise fun a b => ls a.Name b.Name
  at' : ∀ s ∈ l, atOk n s.At = true
theorem Nms.put {n i k : Nat} {l : List Sapi_Sym} {s : Sapi_Sym} (h : Nms n i l) (hm : Made s.Name 7) (ha : atOk n s.At = true) (hk : k ≤ l.length) (h1 : ∀ i, i < k → ls (sy l i).Name s.Name) (h2 : ∀ i, k ≤ i → i < l.length → ls s.Name (sy l i).Name) : Nms n (i + 1) (l.take k ++ s :: l.drop k) := by
  have hlen := h.len
  refine ⟨by rw [List.length_append, List.length_cons, List.length_take, List.length_drop]; omega, ?_, ?_, ?_⟩
  · intro x hx
    rcases List.mem_append.1 hx with hx | hx
    · exact h.nm x (List.mem_of_mem_take hx)
    · rcases List.mem_cons.1 hx with rfl | hx
      · exact hm
      · exact h.nm x (List.mem_of_mem_drop hx)
  · have hlt : ∀ a ∈ l.take k, ls a.Name s.Name := fun a ha' => by
      obtain ⟨j, hj, rfl⟩ := List.getElem_of_mem ha'
      have hj' : j < k ∧ j < l.length := by rw [List.length_take] at hj; omega
      have := h1 j hj'.1
      rw [sy_at hj'.2] at this
      simpa using this
    have hgt : ∀ b ∈ l.drop k, ls s.Name b.Name := fun b hb => by
      obtain ⟨j, hj, rfl⟩ := List.getElem_of_mem hb
      have hj' : k + j < l.length := by rw [List.length_drop] at hj; omega
      have := h2 (k + j) (by omega) hj'
      rw [sy_at hj'] at this
      simpa using this
    refine List.pairwise_append.2 ⟨h.up.sublist (List.take_sublist _ _), List.pairwise_cons.2 ⟨hgt, h.up.sublist (List.drop_sublist _ _)⟩, fun a ha' b hb => ?_⟩
    rcases List.mem_cons.1 hb with rfl | hb
    · exact hlt a ha'
    · exact (hlt a ha').trans (hgt b hb)
  · intro x hx
    rcases List.mem_append.1 hx with hx | hx
    · exact h.at' x (List.mem_of_mem_take hx)
    · rcases List.mem_cons.1 hx with rfl | hx
      · exact ha
      · exact h.at' x (List.mem_of_mem_drop hx)
end
end Go.Proofs.YtlpiomnmaiddbaaGreatDoor.LA
namespace Go.Proofs.YtlpiomnmaiddbaaGreatDoor.LA
set_option linter.unusedVariables false
set_option linter.unusedSimpArgs false
open Go Go.RowKit Go.Proofs.YtlpiomnmaiddbaaGreatDoor.E
/-! ### the keys of a map -/
theorem dmap_is : ∀ h : List Int, ∃ es : List (Lit × DataW Unit), dmap h = .map es ∧ (∀ p ∈ es, ∃ x, p.1 = .int .i64 x) ∧ (∀ x, x ∈ es.map (fun p => Go.intOf p.1) ↔ x ∈ h) ∧ (es.map fun p => Go.intOf p.1).Nodup
  | [] => ⟨[], rfl, by simp, by simp, List.nodup_nil⟩
  | k :: r => by
    obtain ⟨es, h1, h2, h3, h4⟩ := dmap_is r
    have hk : ∀ p ∈ es, (ChangeMaps.notKey (Lit.int .i64 k) p = true ↔ Go.intOf p.1 ≠ k) := fun p hp => by
      obtain ⟨x, hx⟩ := h2 p hp
      unfold ChangeMaps.notKey
      rw [hx]
      simp [Lit.sameKey, Go.intOf]
    have hp := Go.WideShapes.insert_perm (Lit.int .i64 k, (DataW.lit (.bool true) : DataW Unit)) (es.filter (ChangeMaps.notKey (Lit.int .i64 k)))
    refine ⟨ChangeMaps.putKey (.int .i64 k) (.lit (.bool true)) es, by show (dmap r).put _ _ = _; rw [h1, DataW.put_eq], fun p q => ?_, fun x => ?_, ?_⟩
    · rcases List.mem_cons.1 ((hp.mem_iff).1 q) with e | q
      · rw [e]; exact ⟨k, rfl⟩
      · exact h2 p (List.mem_filter.1 q).1
    · unfold ChangeMaps.putKey
      rw [(hp.map _).mem_iff, List.map_cons, List.mem_cons, List.mem_cons]
      constructor
      · rintro (e | e)
        · exact .inl e
        · obtain ⟨p, p1, p2⟩ := List.mem_map.1 e
          exact .inr ((h3 x).1 (List.mem_map.2 ⟨p, (List.mem_filter.1 p1).1, p2⟩))
      · rintro (e | e)
        · exact .inl e
        · by_cases hxk : x = k
          · exact .inl hxk
          · obtain ⟨p, p1, p2⟩ := List.mem_map.1 ((h3 x).2 e)
            exact .inr (List.mem_map.2 ⟨p, List.mem_filter.2 ⟨p1, (hk p p1).2 (by rw [p2]; exact hxk)⟩, p2⟩)
    · unfold ChangeMaps.putKey
      rw [(hp.map _).nodup_iff, List.map_cons]
      refine List.nodup_cons.2 ⟨fun hm => ?_, ?_⟩
      · obtain ⟨p, p1, p2⟩ := List.mem_map.1 hm
        have p3 := List.mem_filter.1 p1
        exact (hk p p3.1).1 p3.2 p2
      · exact h4.sublist (List.filter_sublist.map _)
theorem keysS_mem {h : List Int} {x : Int} : x ∈ keysS h ↔ x ∈ h := by
  obtain ⟨es, h1, h2, h3, h4⟩ := dmap_is h
  unfold keysS
  rw [List.mem_mergeSort, h1]
  exact h3 x
theorem keysS_up (h : List Int) : (keysS h).Pairwise (· < ·) := by
  obtain ⟨es, h1, h2, h3, h4⟩ := dmap_is h
  have hs : (keysS h).Pairwise fun a b => decide (a ≤ b) = true := List.pairwise_mergeSort (fun a b c h1 h2 => by simp only [decide_eq_true_eq] at *; omega) (fun a b => by simp only [Bool.or_eq_true, decide_eq_true_eq]; omega) _
  have hn : (keysS h).Nodup := by
    unfold keysS
    rw [(List.mergeSort_perm _ _).nodup_iff, h1]
    exact h4
  refine (hs.and hn).imp fun {a b} hab => ?_
  have := of_decide_eq_true hab.1
  have := hab.2
  omega
/-- Rows that rise are told by what is in them. -/
theorem up_ext : ∀ {a b : List Int}, a.Pairwise (· < ·) → b.Pairwise (· < ·) → (∀ x, x ∈ a ↔ x ∈ b) → a = b
  | [], [], _, _, _ => rfl
  | [], y :: b, _, _, h => absurd ((h y).2 List.mem_cons_self) List.not_mem_nil
  | x :: a, [], _, _, h => absurd ((h x).1 List.mem_cons_self) List.not_mem_nil
  | x :: a, y :: b, ha, hb, h => by
    have ha' := List.pairwise_cons.1 ha
    have hb' := List.pairwise_cons.1 hb
    have e : x = y := by
      rcases List.mem_cons.1 ((h x).1 List.mem_cons_self) with e | e
      · exact e
      · rcases List.mem_cons.1 ((h y).2 List.mem_cons_self) with e' | e'
        · exact e'.symm
        · have := hb'.1 x e; have := ha'.1 y e'; omega
    subst e
    congr 1
    refine up_ext ha'.2 hb'.2 fun z => ⟨fun hz => ?_, fun hz => ?_⟩
    · rcases List.mem_cons.1 ((h z).1 (List.mem_cons_of_mem _ hz)) with e | e
      · have := ha'.1 z hz; omega
      · exact e
    · rcases List.mem_cons.1 ((h z).2 (List.mem_cons_of_mem _ hz)) with e | e
      · have := hb'.1 z hz; omega
      · exact e
/-! ### is a number in a row -/
theorem index_loop {x : Int} {l : List Int} (hl : l.length ≤ 1000000000000) : ∀ (n i : Nat), i + n = l.length → ∃ k : Nat, loopO slices_Index_int_int.b1 (x, (l.length : Int), (i : Int), l) = some (if x ∈ l.drop i then .ret (k : Int) else .done ())
  | 0, i, hi => by
    refine ⟨0, loopO_done ?_⟩
    simp only [slices_Index_int_int.b1]
    rw [if_neg (by omega), List.drop_of_length_le (by omega), if_neg List.not_mem_nil]
  | n + 1, i, hi => by
    have hlt : i < l.length := by omega
    by_cases c : x = l.getD i 0
    · refine ⟨i, loopO_done ?_⟩
      simp only [slices_Index_int_int.b1]
      rw [if_pos (by omega), if_pos (by omega), ixn, if_pos c, drop_at hlt, if_pos (by rw [c]; exact List.mem_cons_self)]
    · obtain ⟨k, hk⟩ := index_loop (x := x) hl n (i + 1) (by omega)
      refine ⟨k, ?_⟩
      have e : (x ∈ l.drop i) = (x ∈ l.drop (i + 1)) := by rw [drop_at hlt]; exact propext ⟨fun h => (List.mem_cons.1 h).resolve_left c, fun h => List.mem_cons_of_mem _ h⟩
      have q : loopO slices_Index_int_int.b1 (x, (l.length : Int), (i : Int), l) = loopO slices_Index_int_int.b1 (x, (l.length : Int), ((i + 1 : Nat) : Int), l) := by
        refine loopO_next ?_
        simp only [slices_Index_int_int.b1]
        rw [if_pos (by omega), if_pos (by omega), ixn, if_neg c, w64s (by omega) (by omega)]
        rfl
      rw [q, hk]
      simp only [e]
theorem contains_is {l : List Int} (hl : l.length ≤ 1000000000000) (x : Int) : slices_Contains_int_int l x = some (decide (x ∈ l)) := by
  obtain ⟨k, hk⟩ := index_loop (x := x) hl l.length 0 (by omega)
  have hk : loopO slices_Index_int_int.b1 (x, (l.length : Int), 0, l) = some (if x ∈ l.drop 0 then .ret (k : Int) else .done ()) := hk
  unfold slices_Contains_int_int slices_Index_int_int
  rw [hk, List.drop_zero]
  by_cases c : x ∈ l
  · rw [if_pos c, decide_eq_true c]
    show some (decide ((k : Int) ≥ 0)) = _
    rw [decide_eq_true (by omega)]
  · rw [if_neg c, decide_eq_false c]
    rfl
theorem same8_is (a b : List Int) (h : a.length ≤ 1000000000000) : rivetref08_Same a b = some (decide (a = b)) := by
  unfold rivetref08_Same
  by_cases hl : a.length = b.length
  · rw [if_pos (by omega)]
    have key : ∀ r i, i + r = a.length → loopO rivetref08_Same.b1 ((i : Int), a, b) = some (if a.drop i = b.drop i then .done () else .ret false) := by
      intro r
      induction r with
      | zero =>
        intro i hi
        refine loopO_done ?_
        simp only [rivetref08_Same.b1]
        rw [if_neg (by omega), List.drop_of_length_le (by omega), List.drop_of_length_le (by omega), if_pos rfl]
      | succ r ih =>
        intro i hi
        by_cases c : a.getD i 0 = b.getD i 0
        · have e : (a.drop i = b.drop i) = (a.drop (i + 1) = b.drop (i + 1)) := by rw [drop_at (l := a) (by omega), drop_at (l := b) (by omega), c]; exact propext ⟨fun h => (List.cons.inj h).2, fun h => by rw [h]⟩
          simp only [e]
          rw [← ih (i + 1) (by omega)]
          refine loopO_next ?_
          simp only [rivetref08_Same.b1]
          rw [if_pos (by omega), if_pos (by omega), if_pos (by omega), ixn, ixn, if_pos c, w64s (by omega) (by omega)]
          rfl
        · refine loopO_done ?_
          simp only [rivetref08_Same.b1]
          rw [if_pos (by omega), if_pos (by omega), if_pos (by omega), ixn, ixn, if_neg c, if_neg]
          rw [drop_at (l := a) (by omega), drop_at (l := b) (by omega)]
          exact fun e => c (List.cons.inj e).1
    have hk : loopO rivetref08_Same.b1 (0, a, b) = some (if a.drop 0 = b.drop 0 then .done () else .ret false) := key a.length 0 (by omega)
    rw [hk, List.drop_zero, List.drop_zero]
    by_cases c : a = b
    · rw [if_pos c, decide_eq_true c]; rfl
    · rw [if_neg c, decide_eq_false c]; rfl
  · rw [if_neg (by omega), decide_eq_false (fun e => hl (by rw [e]))]
end Go.Proofs.YtlpiomnmaiddbaaGreatDoor.LA
namespace Go.Proofs.YtlpiomnmaiddbaaGreatDoor.LA
set_option linter.unusedVariables false
set_option linter.unusedSimpArgs false
open Go Go.RowKit Go.Proofs.YtlpiomnmaiddbaaGreatDoor.E
theorem rise_pair {N : Int} : ∀ {p : Int} {s : List Int}, rise N p s = true → -1 ≤ p → s.Pairwise (· < ·)
  | p, [], _, _ => List.Pairwise.nil
  | p, x :: r, h, hp => by
    by_cases c : p < x ∧ x < N ∧ x ≤ 65534
    · rw [rise_yes c] at h
      exact List.pairwise_cons.2 ⟨fun y hy => (rise_all h (by omega) y hy).1, rise_pair h (by omega)⟩
    · rw [rise_no c] at h; cases h
theorem imm7 {i : Sapi_Instr} (h : MayP i) (hk : i.Kind = 7) : -8388608 ≤ i.Imm ∧ i.Imm ≤ 8388607 := by
  obtain ⟨_, _, _, h⟩ := h
  omega
/-- Where a word's branch goes. -/
noncomputable def jmpS (w s : List Int) (i : Nat) : Option Int :=
  if (i : Int) ∈ s then none else
  if (decS (w.getD i 0)).2 = true ∧ (decS (w.getD i 0)).1.Kind = 7 ∧ 0 ≤ (i : Int) + 1 + (decS (w.getD i 0)).1.Imm ∧ (i : Int) + 1 + (decS (w.getD i 0)).1.Imm ≤ (w.length : Int) then
    some (4 * ((i : Int) + 1 + (decS (w.getD i 0)).1.Imm)) else none
def jres : Option Int → Int × Bool
  | some t => (t, true)
  | none => (0, false)
theorem jmpS_in {w s : List Int} {i : Nat} {t : Int} (h : jmpS w s i = some t) : 0 ≤ t ∧ t ≤ 4 * (w.length : Int) ∧ t % 4 = 0 := by
  unfold jmpS at h
  split at h
  · cases h
  · split at h
    · rename_i hh
      cases h
      omega
    · cases h
theorem jump_is {o : Sapi_Obj} (h : Ob o) {i : Nat} (hi : i < o.Words.length) : label_Jump o (i : Int) = some (jres (jmpS o.Words o.Sites i)) := by
  have hw := getD_in h.w hi
  have hl := h.wl
  unfold label_Jump jmpS
  rw [if_neg (by omega), if_neg (by omega), contains_is h.sl, Option.bind_some]
  by_cases c : (i : Int) ∈ o.Sites
  · rw [decide_eq_true c, if_pos rfl, if_pos c]; rfl
  · rw [decide_eq_false c, if_neg (by simp), if_neg c, if_pos (by omega), ixn, dec_is hw, Option.bind_some]
    generalize hd : decS (o.Words.getD i 0) = d
    have hm : d.2 = true → MayP d.1 := fun e => by rw [← hd] at e ⊢; exact (dec_ok e).1
    obtain ⟨d1, d2⟩ := d
    simp only
    by_cases c2 : d2 = true
    · rw [if_pos c2]
      by_cases c3 : d1.Kind = 7
      · have hb := imm7 (hm c2) c3
        simp only at hb
        rw [if_pos c3, w64s (x := (i : Int) + 1) (by omega) (by omega), w64s (x := (i : Int) + 1 + d1.Imm) (by omega) (by omega), w64s (x := 4 * ((i : Int) + 1 + d1.Imm)) (by omega) (by omega), w64s (x := 4 * (o.Words.length : Int)) (by omega) (by omega)]
        by_cases c4 : 0 ≤ (i : Int) + 1 + d1.Imm ∧ (i : Int) + 1 + d1.Imm ≤ (o.Words.length : Int)
        · rw [if_neg (by omega), if_neg (by omega), if_pos ⟨c2, c3, c4⟩]; rfl
        · rw [if_neg (show ¬ (d2 = true ∧ d1.Kind = 7 ∧ 0 ≤ (i : Int) + 1 + d1.Imm ∧ (i : Int) + 1 + d1.Imm ≤ (o.Words.length : Int)) from fun e => c4 e.2.2)]
          by_cases c5 : 4 * ((i : Int) + 1 + d1.Imm) < 0
          · rw [if_pos c5]; rfl
          · rw [if_neg c5, if_pos (by omega)]; rfl
      · rw [if_neg c3, if_neg (fun e => c3 e.2.1)]; rfl
    · rw [if_neg c2, if_neg (fun e => c2 e.1)]; rfl
theorem jump_out {o : Sapi_Obj} {i : Int} (hi : ¬ (0 ≤ i ∧ i < (o.Words.length : Int))) : label_Jump o i = some (0, false) := by
  unfold label_Jump
  by_cases c : i < 0
  · rw [if_pos c]
  · rw [if_neg c, if_pos (by omega)]
/-! ### all places -/
/-- The place that a site's word says. -/
def siteS (w : List Int) (s : Int) : Int := if w.getD s.toNat 0 % 4 = 0 then w.getD s.toNat 0 else 0
theorem ixi (l : List Int) (i : Int) : ix 0 l i = l.getD i.toNat 0 := rfl
theorem of1 {w s : List Int} {y : List Sapi_Sym} (hw : Wd w) (hs : ∀ x ∈ s, 0 ≤ x ∧ x < (w.length : Int)) (hl : s.length ≤ 65536) : ∀ (n i : Nat) (p : List Int), i + n = s.length → p.length ≤ i →
    ∃ q, loopO label_Of.b1 ((s.length : Int), (i : Int), w, s, y, p) = some (w, s, y, q) ∧ q.length ≤ s.length ∧ ∀ x, x ∈ q ↔ x ∈ p ∨ ∃ z ∈ s.drop i, x = siteS w z
  | 0, i, p, hi, hp => by
    refine ⟨p, loopO_done ?_, by omega, fun x => ?_⟩
    · simp only [label_Of.b1]
      rw [if_neg (by omega)]
    · rw [List.drop_of_length_le (by omega)]
      simp
  | n + 1, i, p, hi, hp => by
    have hlt : i < s.length := by omega
    have hz := hs _ (getD_mem hlt)
    have hv := getD_in hw (i := (s.getD i 0).toNat) (by omega)
    obtain ⟨q, q1, q2, q3⟩ := of1 (y := y) hw hs hl n (i + 1) (siteS w (s.getD i 0) :: p) (by omega) (by simp; omega)
    refine ⟨q, ?_, q2, fun x => ?_⟩
    · rw [← q1]
      refine loopO_next ?_
      simp only [label_Of.b1]
      rw [if_pos (by omega), if_pos (by omega), ixn, if_pos (by omega), ixi, w64s (x := w.getD (s.getD i 0).toNat 0) (by omega) (by omega), Int.tmod_eq_emod_of_nonneg (by omega), w64s (x := (i : Int) + 1) (by omega) (by omega)]
      unfold siteS
      by_cases c : w.getD (s.getD i 0).toNat 0 % 4 = 0
      · rw [if_pos c, if_pos c, if_pos (by omega)]
        rfl
      · rw [if_neg c, if_neg c, if_pos (by omega)]
        rfl
    · rw [q3, drop_at hlt, List.mem_cons]
      constructor
      · rintro ((e | e) | ⟨z, e1, e2⟩)
        · exact .inr ⟨_, List.mem_cons_self, e⟩
        · exact .inl e
        · exact .inr ⟨z, List.mem_cons_of_mem _ e1, e2⟩
      · rintro (e | ⟨z, e1, e2⟩)
        · exact .inl (.inr e)
        · rcases List.mem_cons.1 e1 with rfl | e1
          · exact .inl (.inl e2)
          · exact .inr ⟨z, e1, e2⟩
theorem of2 {w s : List Int} {y : List Sapi_Sym} (h : Ob ⟨w, s, y⟩) (hl : w.length ≤ 65536) : ∀ (n i : Nat) (p : List Int), i + n = w.length → p.length ≤ 65536 + i →
    ∃ q, loopO label_Of.b2 ((w.length : Int), (i : Int), w, s, y, p) = some q ∧ q.length ≤ 65536 + w.length ∧ ∀ x, x ∈ q ↔ x ∈ p ∨ ∃ j, i ≤ j ∧ j < w.length ∧ jmpS w s j = some x
  | 0, i, p, hi, hp => by
    refine ⟨p, loopO_done ?_, by omega, fun x => ?_⟩
    · simp only [label_Of.b2]
      rw [if_neg (by omega)]
    · constructor
      · exact .inl
      · rintro (e | ⟨j, e1, e2, _⟩)
        · exact e
        · omega
  | n + 1, i, p, hi, hp => by
    have hj := jump_is h (i := i) (show i < w.length by omega)
    cases c : jmpS w s i with
    | none =>
      obtain ⟨q, q1, q2, q3⟩ := of2 h hl n (i + 1) p (by omega) (by omega)
      refine ⟨q, ?_, q2, fun x => ?_⟩
      · rw [← q1]
        refine loopO_next ?_
        simp only [label_Of.b2]
        rw [if_pos (by omega), hj]
        simp only [c, jres, Option.bind_some]
        rw [if_neg (by simp), w64s (by omega) (by omega)]
        rfl
      · rw [q3]
        constructor
        · rintro (e | ⟨j, e1, e2, e3⟩)
          · exact .inl e
          · exact .inr ⟨j, by omega, e2, e3⟩
        · rintro (e | ⟨j, e1, e2, e3⟩)
          · exact .inl e
          · by_cases hji : j = i
            · subst hji; rw [c] at e3; cases e3
            · exact .inr ⟨j, by omega, e2, e3⟩
    | some t =>
      have ht := jmpS_in c
      obtain ⟨q, q1, q2, q3⟩ := of2 h hl n (i + 1) (t :: p) (by omega) (by simp; omega)
      refine ⟨q, ?_, q2, fun x => ?_⟩
      · rw [← q1]
        refine loopO_next ?_
        simp only [label_Of.b2]
        rw [if_pos (by omega), hj]
        simp only [c, jres, Option.bind_some]
        rw [if_pos trivial, if_pos (by omega), w64s (by omega) (by omega)]
        rfl
      · rw [q3, List.mem_cons]
        constructor
        · rintro ((e | e) | ⟨j, e1, e2, e3⟩)
          · exact .inr ⟨i, Nat.le_refl _, by omega, by rw [c, e]⟩
          · exact .inl e
          · exact .inr ⟨j, by omega, e2, e3⟩
        · rintro (e | ⟨j, e1, e2, e3⟩)
          · exact .inl (.inr e)
          · by_cases hji : j = i
            · subst hji; rw [c] at e3; cases e3; exact .inl (.inl rfl)
            · exact .inr ⟨j, by omega, e2, e3⟩
/-- What needs a label. -/
def Needs (w s : List Int) (x : Int) : Prop := (∃ z ∈ s, x = siteS w z) ∨ ∃ j, j < w.length ∧ jmpS w s j = some x
/-- Rising, and of what needs a label. -/
structure Lab (w s l : List Int) : Prop where
  up : l.Pairwise (· < ·)
  mem : ∀ x, x ∈ l ↔ Needs w s x
theorem Lab.eq {w s l m : List Int} (h : Lab w s l) (k : Lab w s m) : l = m := up_ext h.up k.up fun x => (h.mem x).trans (k.mem x).symm
theorem mayS_rise {o : Sapi_Obj} (hm : mayS o = 0) : o.Words.length ≤ 1024 ∧ rise (o.Words.length : Int) (-1) o.Sites = true := by
  unfold mayS at hm
  split at hm
  · cases hm
  · split at hm
    · cases hm
    · rename_i h1 h2
      exact ⟨by omega, by simpa using h2⟩
theorem of_is {o : Sapi_Obj} (h : Ob o) (hm : mayS o = 0) : ∃ l, label_Of o = some (0, l) ∧ Lab o.Words o.Sites l := by
  obtain ⟨w, s, y⟩ := o
  obtain ⟨h1, h2⟩ := mayS_rise hm
  simp only at h1 h2
  have hs : ∀ x ∈ s, 0 ≤ x ∧ x < (w.length : Int) := fun x hx => ⟨(rise_all h2 (by omega) x hx).2.1, (rise_all h2 (by omega) x hx).2.2.1⟩
  have hsl := ris_len (n := w.length) ⟨rise_pair h2 (by omega), fun x hx => (hs x hx).1, fun x hx => (hs x hx).2⟩
  obtain ⟨p, p1, p2, p3⟩ := of1 (y := y) h.w hs (by omega) s.length 0 [] (by omega) (by simp)
  obtain ⟨q, q1, q2, q3⟩ := of2 h (by omega) w.length 0 p (by omega) (by omega)
  have p1 : loopO label_Of.b1 ((s.length : Int), 0, w, s, y, []) = some (w, s, y, p) := p1
  have q1 : loopO label_Of.b2 ((w.length : Int), 0, w, s, y, p) = some q := q1
  refine ⟨keysS q, ?_, keysS_up q, fun x => ?_⟩
  · unfold label_Of
    rw [obmay_is h, hm, Option.bind_some, if_pos rfl]
    simp only [p1, Option.bind_some, q1, maps_Keys_map_int_bool_int_bool, slices_Sorted_int]
    rw [if_pos (by omega)]
    rfl
  · rw [keysS_mem, q3, p3]
    unfold Needs
    constructor
    · rintro ((e | e) | ⟨j, e1, e2, e3⟩)
      · cases e
      · exact .inl e
      · exact .inr ⟨j, e2, e3⟩
    · rintro (e | ⟨j, e2, e3⟩)
      · exact .inl (.inr e)
      · exact .inr ⟨j, Nat.zero_le _, e2, e3⟩
theorem of_no {o : Sapi_Obj} (h : Ob o) (hm : mayS o ≠ 0) : label_Of o = some (mayS o, []) := by
  unfold label_Of
  rw [obmay_is h, Option.bind_some, if_neg hm]
end Go.Proofs.YtlpiomnmaiddbaaGreatDoor.LA
namespace Go.Proofs.YtlpiomnmaiddbaaGreatDoor.LA
set_option linter.unusedVariables false
set_option linter.unusedSimpArgs false
open Go Go.RowKit Go.Proofs.YtlpiomnmaiddbaaGreatDoor.E
theorem band64 (x : Int) (n : Nat) (hn : n ≤ 62) : band .i64 x ((2 ^ n - 1 : Nat) : Int) = x % ((2 ^ n : Nat) : Int) := by
  have hp := p2pos n
  have hle : 2 ^ n ≤ 2 ^ 62 := Nat.pow_le_pow_right (by omega) hn
  have h62 : (2 : Nat) ^ 62 = 4611686018427387904 := by rfl
  unfold band
  rw [BitVec.toNat_and, BitVec.toNat_ofInt, BitVec.toNat_ofInt]
  have e64 : (((2 : Nat) ^ IntKind.i64.bits : Nat) : Int) = 18446744073709551616 := by rfl
  rw [e64]
  have e2 : (((2 ^ n - 1 : Nat) : Int) % 18446744073709551616).toNat = 2 ^ n - 1 := by
    rw [Int.emod_eq_of_lt (by omega) (by omega)]
    rfl
  rw [e2, and_low]
  have hd : ((2 ^ n : Nat) : Int) ∣ 18446744073709551616 := by
    refine ⟨((2 ^ (64 - n) : Nat) : Int), ?_⟩
    rw [← Int.natCast_mul, ← Nat.pow_add, show n + (64 - n) = 64 by omega]
    rfl
  have h1 : x % 18446744073709551616 % ((2 ^ n : Nat) : Int) = x % ((2 ^ n : Nat) : Int) := Int.emod_emod_of_dvd x hd
  have h0 : 0 ≤ x % 18446744073709551616 := Int.emod_nonneg x (by omega)
  have e3 : (((x % 18446744073709551616).toNat % 2 ^ n : Nat) : Int) = x % ((2 ^ n : Nat) : Int) := by
    rw [← h1, Int.natCast_emod, Int.toNat_of_nonneg h0]
  rw [e3]
  have b0 := Int.emod_nonneg x (show ((2 ^ n : Nat) : Int) ≠ 0 by omega)
  have b1 := Int.emod_lt_of_pos x (show (0 : Int) < ((2 ^ n : Nat) : Int) by omega)
  exact w64_id (by omega) (by omega)
theorem b15 (x : Int) : band .i64 x 15 = x % 16 := band64 x 4 (by omega)
theorem b3 (x : Int) : band .i64 x 3 = x % 4 := band64 x 2 (by omega)
theorem b16 (x : Int) : band .i64 x 65535 = x % 65536 := band64 x 16 (by omega)
theorem b17 (x : Int) : band .i64 x 131071 = x % 131072 := band64 x 17 (by omega)
theorem b20 (x : Int) : band .i64 x 1048575 = x % 1048576 := band64 x 20 (by omega)
theorem b24 (x : Int) : band .i64 x 16777215 = x % 16777216 := band64 x 24 (by omega)
theorem u8_15 {x : Int} (h0 : 0 ≤ x) (h1 : x ≤ 255) : w64 (band .u8 x 15) = x % 16 := by
  have e : band .u8 x 15 = x % 16 := by
    rw [band_nat h0 (by simp only [umax]; omega) (by omega) (by decide)]
    have := and_low x.toNat 4
    rw [show (15 : Int).toNat = 2 ^ 4 - 1 from rfl, this]
    omega
  rw [e, w64s (by omega) (by omega)]
theorem tmod_in (x : Int) {n : Int} (hn : 0 < n) (hn2 : n < 1000) : 0 ≤ (w64 (x.tmod n + n)).tmod n ∧ (w64 (x.tmod n + n)).tmod n < n := by
  have h2 := Int.tmod_lt_of_pos x hn
  have h3 := Int.lt_tmod_of_pos x hn
  rw [w64s (by omega) (by omega), Int.tmod_eq_emod_of_nonneg (by omega)]
  exact ⟨Int.emod_nonneg _ (by omega), Int.emod_lt_of_pos _ hn⟩
end Go.Proofs.YtlpiomnmaiddbaaGreatDoor.LA
namespace Go.Proofs.YtlpiomnmaiddbaaGreatDoor.LA
set_option linter.unusedVariables false
set_option linter.unusedSimpArgs false
open Go Go.RowKit Go.Proofs.YtlpiomnmaiddbaaGreatDoor.E
theorem dec_word {i : Sapi_Instr} (h : MayP i) : decS (wordN i : Int) = (i, true) := by
  unfold decS
  rw [Int.toNat_natCast, read_word h, if_pos ⟨h, rfl⟩]
theorem word7N (O M : Int) : wordN ⟨7, O, 0, 0, 0, M, false⟩ = 3758096384 + fld O 4 * 16777216 + fld M 24 := by
  unfold wordN
  rw [word7]
  have : b2n true = 1 := rfl
  have : b2n false = 0 := rfl
  simp only [Option.getD_some, Int.toNat_natCast]
  omega
theorem may7 {M : Int} (h : -8388608 ≤ M ∧ M ≤ 8388607) : MayP ⟨7, 7, 0, 0, 0, M, false⟩ := by
  exact ⟨⟨by simp, by simp⟩, ⟨by simp, by simp⟩, ⟨by simp, by simp⟩, .inr (.inr (.inr (.inr (.inr ⟨rfl, rfl, rfl, rfl, by simp, by simp, h.1, h.2⟩))))⟩
/-! ### names of places -/
def tab16 : ByteArray := ⟨#[48, 49, 50, 51, 52, 53, 54, 55, 56, 57, 65, 66, 67, 68, 69, 70]⟩
def hx (k : Nat) : Int := (bytesL tab16).getD k 0
def name4 (a : Nat) : List Int := [95, hx (a / 4096 % 16), hx (a / 256 % 16), hx (a / 16 % 16), hx (a % 16)]
theorem name_step {a s : Nat} {l : List Int} (hs : s ≤ 12) (hl : l.length ≤ 1000) : label_Name.b1 ((a : Int), (s : Int), l) = some (.inl ((a : Int), (s : Int) - 4, l ++ [hx (a / 2 ^ s % 16)])) := by
  have hsh : shr .i64 (a : Int) (s : Int) = ((a / 2 ^ s : Nat) : Int) := shr_nat (k := .i64) (by show s ≤ 64; omega)
  have hb : band .i64 ((a / 2 ^ s : Nat) : Int) 15 = ((a / 2 ^ s : Nat) : Int) % 16 := band64 _ 4 (by omega)
  have hz : (ByteArray.size (⟨#[48, 49, 50, 51, 52, 53, 54, 55, 56, 57, 65, 66, 67, 68, 69, 70]⟩ : ByteArray) : Int) = 16 := rfl
  simp only [label_Name.b1]
  rw [if_pos (by omega), if_pos (by omega), hsh, hb, hz, if_pos (by omega), if_pos (by simp only [List.length_cons, List.length_nil]; omega), w64s (by omega) (by omega), show ((a / 2 ^ s : Nat) : Int) % 16 = ((a / 2 ^ s % 16 : Nat) : Int) by omega]
  show some (Sum.inl ((a : Int), (s : Int) - 4, l ++ [sx tab16 ((a / 2 ^ s % 16 : Nat) : Int)])) = _
  rw [sx_at]
  rfl
theorem name_is22 (a : Nat) : label_Name (a : Int) = some (strOfNums (name4 a)) := by
  unfold label_Name
  have h1 : loopO label_Name.b1 ((a : Int), 12, [95]) = some (name4 a) := by
    rw [loopO_next (show label_Name.b1 ((a : Int), 12, [95]) = _ from name_step (s := 12) (by omega) (by decide))]
    rw [loopO_next (show label_Name.b1 ((a : Int), (((12 : Nat) : Int) - 4), [95] ++ [hx (a / 2 ^ 12 % 16)]) = _ from name_step (s := 8) (by omega) (by simp))]
    rw [loopO_next (show label_Name.b1 ((a : Int), (((8 : Nat) : Int) - 4), [95] ++ [hx (a / 2 ^ 12 % 16)] ++ [hx (a / 2 ^ 8 % 16)]) = _ from name_step (s := 4) (by omega) (by simp))]
    rw [loopO_next (show label_Name.b1 ((a : Int), (((4 : Nat) : Int) - 4), [95] ++ [hx (a / 2 ^ 12 % 16)] ++ [hx (a / 2 ^ 8 % 16)] ++ [hx (a / 2 ^ 4 % 16)]) = _ from name_step (s := 0) (by omega) (by simp))]
    refine loopO_done ?_
    simp only [label_Name.b1]
    rw [if_neg (by omega)]
    simp [name4]
  rw [h1]
  rfl
theorem hx_in {k : Nat} (h : k < 16) : (48 ≤ hx k ∧ hx k ≤ 57) ∨ (65 ≤ hx k ∧ hx k ≤ 70) := by
  have : ∀ k, k < 16 → (48 ≤ hx k ∧ hx k ≤ 57) ∨ (65 ≤ hx k ∧ hx k ≤ 70) := by decide
  exact this k h
theorem hx_inj {j k : Nat} (hj : j < 16) (hk : k < 16) (e : hx j = hx k) : j = k := by
  have : ∀ j, j < 16 → ∀ k, k < 16 → hx j = hx k → j = k := by decide
  exact this j hj k hk e
/-! ### the example -/
theorem shown_is : rivetlaw22_shown = some true := by
  have hob : Ob ⟨[1090519045, 3892314110], [], []⟩ := ⟨by intro x hx; simp at hx; omega, by decide, by decide, by decide⟩
  have hm : mayS ⟨[1090519045, 3892314110], [], []⟩ = 0 := by decide +kernel
  obtain ⟨l, h1, h2⟩ := of_is hob hm
  have hw : (3892314110 : Int) = (wordN ⟨7, 7, 0, 0, 0, -2, false⟩ : Int) := by rw [word7N]; decide +kernel
  have e1 : jmpS [1090519045, 3892314110] [] 1 = some 0 := by
    unfold jmpS
    rw [if_neg List.not_mem_nil]
    show (if (decS 3892314110).2 = true ∧ (decS 3892314110).1.Kind = 7 ∧ 0 ≤ ((1 : Nat) : Int) + 1 + (decS 3892314110).1.Imm ∧ ((1 : Nat) : Int) + 1 + (decS 3892314110).1.Imm ≤ ((2 : Nat) : Int) then some (4 * (((1 : Nat) : Int) + 1 + (decS 3892314110).1.Imm)) else none) = some 0
    rw [hw, dec_word (may7 (by omega)), if_pos (by simp)]
    rfl
  have e0 : jmpS [1090519045, 3892314110] [] 0 = none := by
    have hr : (rd 1090519045).Kind = 2 := by decide +kernel
    have hk : (decS 1090519045).1.Kind ≠ 7 := by
      unfold decS
      show (if MayP (rd 1090519045) ∧ wordN (rd 1090519045) = 1090519045 then (rd 1090519045, true) else (⟨0, 0, 0, 0, 0, 0, false⟩, false)).1.Kind ≠ 7
      split
      · show (rd 1090519045).Kind ≠ 7
        rw [hr]; decide
      · decide
    unfold jmpS
    rw [if_neg List.not_mem_nil]
    exact if_neg fun h => hk h.2.1
  have el : l = [0] := up_ext h2.up (List.pairwise_singleton _ _) fun x => by
    rw [h2.mem]
    unfold Needs
    constructor
    · rintro (⟨z, hz, _⟩ | ⟨j, h1, h2⟩)
      · cases hz
      · have h1 : j < 2 := h1
        have hj : j = 0 ∨ j = 1 := by omega
        rcases hj with rfl | rfl
        · rw [show jmpS _ _ 0 = none from e0] at h2; cases h2
        · rw [show jmpS _ _ 1 = some 0 from e1] at h2; cases h2; simp
    · intro h
      rw [List.mem_singleton.1 h]
      exact .inr ⟨1, by decide, e1⟩
  subst el
  have hn : label_Name 416 = some (strOfNums (name4 416)) := name_is22 416
  unfold rivetlaw22_shown
  rw [h1]
  simp only [Option.bind_some]
  rw [same8_is _ _ (by decide)]
  simp only [Option.bind_some, decide_true, if_true]
  rw [hn]
  decide +kernel
end Go.Proofs.YtlpiomnmaiddbaaGreatDoor.LA
namespace Go.Proofs.YtlpiomnmaiddbaaGreatDoor.LA
set_option linter.unusedVariables false
set_option linter.unusedSimpArgs false
open Go Go.RowKit Go.Proofs.YtlpiomnmaiddbaaGreatDoor.E
theorem reg_is (n : Int) : rivetref03_reg n = some (decide (0 ≤ n ∧ n ≤ 15)) := by
  unfold rivetref03_reg
  by_cases h : n ≥ 0
  · rw [if_pos h]; congr 1; by_cases h2 : n ≤ 15 <;> simp [h2]; omega
  · rw [if_neg h]; congr 1; simp; omega
theorem fits20 (v : Int) : rivetref02_Fits v 20 = some (decide (-524288 ≤ v ∧ v ≤ 524287)) := by
  unfold rivetref02_Fits
  have e : w64 (mnn (mxx 20 1) 32 - 1) = 19 := by kernel_rfl
  have e1 : shl .i64 (-1) 19 = -524288 := by kernel_rfl
  have e2 : shl .i64 1 19 = 524288 := by kernel_rfl
  rw [e, e1, e2, if_pos (by omega)]
  by_cases h : v ≥ -524288
  · rw [if_pos h, if_pos (by omega)]; congr 1; by_cases h2 : v ≤ 524287 <;> simp [h2] <;> omega
  · rw [if_neg h]; congr 1; simp; omega
theorem fits24 (v : Int) : rivetref02_Fits v 24 = some (decide (-8388608 ≤ v ∧ v ≤ 8388607)) := by
  unfold rivetref02_Fits
  have e : w64 (mnn (mxx 24 1) 32 - 1) = 23 := by kernel_rfl
  have e1 : shl .i64 (-1) 23 = -8388608 := by kernel_rfl
  have e2 : shl .i64 1 23 = 8388608 := by kernel_rfl
  rw [e, e1, e2, if_pos (by omega)]
  by_cases h : v ≥ -8388608
  · rw [if_pos h, if_pos (by omega)]; congr 1; by_cases h2 : v ≤ 8388607 <;> simp [h2] <;> omega
  · rw [if_neg h]; congr 1; simp; omega
theorem some_dec {b : Bool} {p : Prop} [Decidable p] (h : b = true ↔ p) : some b = some (decide p) := by
  by_cases hp : p
  · rw [decide_eq_true hp, h.2 hp]
  · rw [decide_eq_false hp]
    cases b
    · rfl
    · exact absurd (h.1 rfl) hp
section
variable (A B C O M : Int) (U : Bool)
set_option maxHeartbeats 4000000 in
theorem refmayJ {K : Int} {b : Bool} (hb : b = decide (8 ≤ O ∧ O ≤ 10)) (hA : 0 ≤ A ∧ A ≤ 15) (hB : 0 ≤ B ∧ B ≤ 15) (hC : 0 ≤ C ∧ C ≤ 15) : rivetref03_May.j1 b K O A B C M U K A false = some (decide (MayP ⟨K, O, A, B, C, M, U⟩)) := by
  have hk : K = 1 ∨ K = 2 ∨ (K = 3 ∨ K = 4) ∨ K = 5 ∨ K = 6 ∨ K = 7 ∨ (K < 1 ∨ 7 < K) := by omega
  rcases hk with rfl | rfl | hk | rfl | rfl | rfl | hk
  · simp only [rivetref03_May.j1, rivetref03_May.j2, if_true]
    by_cases h1 : O < 0
    · rw [if_pos h1]; refine some_dec ?_; simp [MayP]; omega
    · rw [if_neg h1]
      by_cases h2 : O > 11
      · rw [if_pos h2]; refine some_dec ?_; simp [MayP]; omega
      · rw [if_neg h2]
        subst hb
        by_cases h3 : O = 0 <;> by_cases h4 : 8 ≤ O ∧ O ≤ 10 <;> cases U <;> simp only [h3, h4, rivetref03_May.j3, rivetref03_May.j4, if_true, if_false, decide_true, decide_false, Bool.false_eq_true, and_self] <;> refine some_dec ?_ <;> simp [MayP] <;> omega
  · simp only [rivetref03_May.j1, rivetref03_May.j2]
    rw [if_neg (by omega)]
    simp only [decide_true, if_true]
    by_cases h1 : O < 0
    · rw [if_pos h1]; refine some_dec ?_; simp [MayP]; omega
    · rw [if_neg h1]
      by_cases h2 : O > 11
      · rw [if_pos h2]; refine some_dec ?_; simp [MayP]; omega
      · rw [if_neg h2]
        subst hb
        by_cases h3 : O = 0 <;> by_cases h4 : 8 ≤ O ∧ O ≤ 10 <;> cases U <;> simp only [h3, h4, rivetref03_May.j3, rivetref03_May.j4, rivetref03_May.j5, rivetref03_May.j6, if_true, if_false, decide_true, decide_false, Bool.false_eq_true, and_self] <;> (repeat' split) <;> refine some_dec ?_ <;> simp_all [MayP] <;> omega
  · have e3 : rivetref03_May.j1 b K O A B C M U K A false = rivetref03_May.j7 K true K O A B C M U K A false := by
      rcases hk with rfl | rfl <;> rfl
    rw [e3]
    simp only [rivetref03_May.j7, if_true]
    refine some_dec ?_
    rcases hk with rfl | rfl <;> cases U <;> simp [MayP] <;> omega
  · have e3 : rivetref03_May.j1 b 5 O A B C M U 5 A false = rivetref03_May.j7 5 false 5 O A B C M U 5 A false := rfl
    rw [e3]
    simp only [rivetref03_May.j7, fits20, Option.bind_some, if_true, Bool.false_eq_true, if_false]
    by_cases hc : C = 0
    · cases U
      · rw [if_pos (by simp [hc])]
        by_cases h0 : O ≥ 0
        · rw [if_pos h0]
          by_cases h3 : O ≤ 3
          · rw [if_pos h3]; refine some_dec ?_; simp [MayP]; omega
          · rw [if_neg h3]; refine some_dec ?_; simp [MayP]; omega
        · rw [if_neg h0]; refine some_dec ?_; simp [MayP]; omega
      · rw [if_neg (by simp)]; refine some_dec ?_; simp [MayP]
    · rw [if_neg (by simp; omega)]; refine some_dec ?_; simp [MayP]; omega
  · have e3 : rivetref03_May.j1 b 6 O A B C M U 6 A false = rivetref03_May.j7 6 false 6 O A B C M U 6 A false := rfl
    rw [e3]
    simp only [rivetref03_May.j7, reg_is, Option.bind_some, if_true, Bool.false_eq_true, if_false]
    rw [if_neg (show ¬ (6 : Int) = 5 by decide)]
    by_cases hc : A = 0 ∧ B = 0 ∧ M = 0
    · obtain ⟨rfl, rfl, rfl⟩ := hc
      rw [if_pos (by simp)]; refine some_dec ?_; simp [MayP]; omega
    · rw [if_neg (by simp; omega)]; refine some_dec ?_; simp [MayP]; omega
  · have e3 : rivetref03_May.j1 b 7 O A B C M U 7 A false = rivetref03_May.j7 7 false 7 O A B C M U 7 A false := rfl
    rw [e3]
    simp only [rivetref03_May.j7, reg_is, fits24, Option.bind_some, if_true, Bool.false_eq_true, if_false]
    rw [if_neg (show ¬ (7 : Int) = 5 by decide), if_neg (show ¬ (7 : Int) = 6 by decide)]
    by_cases hc : A = 0 ∧ B = 0 ∧ C = 0
    · obtain ⟨rfl, rfl, rfl⟩ := hc
      rw [if_pos (by simp)]
      by_cases h0 : 0 ≤ O ∧ O ≤ 15
      · rw [if_pos (by simpa using h0)]; refine some_dec ?_; simp [MayP]; omega
      · rw [if_neg (by simpa using h0)]; refine some_dec ?_; simp [MayP]; omega
    · rw [if_neg (by simp; omega)]; refine some_dec ?_; simp [MayP]; omega
  · have h1 : K ≠ 1 := by omega
    have h2 : K ≠ 2 := by omega
    have h3 : K ≠ 3 := by omega
    have h4 : K ≠ 4 := by omega
    have h5 : K ≠ 5 := by omega
    have h6 : K ≠ 6 := by omega
    have h7 : K ≠ 7 := by omega
    simp [rivetref03_May.j1, rivetref03_May.j2, rivetref03_May.j7, h1, h2, h3, h4, h5, h6, h7, MayP]
end
set_option maxHeartbeats 4000000 in
theorem refmay_is (i : Sapi_Instr) : rivetref03_May i = some (decide (MayP i)) := by
  obtain ⟨K, O, A, B, C, M, U⟩ := i
  unfold rivetref03_May
  simp only [reg_is, Option.bind_some]
  by_cases hA : 0 ≤ A ∧ A ≤ 15
  · by_cases hB : 0 ≤ B ∧ B ≤ 15
    · by_cases hC : 0 ≤ C ∧ C ≤ 15
      · rw [decide_eq_true hA, decide_eq_true hB, decide_eq_true hC]
        simp only [if_true]
        by_cases h : O ≥ 8
        · rw [if_pos h]
          exact refmayJ A B C O M U (by by_cases h2 : O ≤ 10 <;> simp [h2]; omega) hA hB hC
        · rw [if_neg h]
          exact refmayJ A B C O M U (by symm; simp; omega) hA hB hC
      · rw [decide_eq_true hA, decide_eq_true hB, decide_eq_false hC]
        show some false = _
        refine some_dec ⟨fun h => (by cases h), fun h => ?_⟩
        exfalso
        unfold MayP at h
        simp only at h
        omega
    · rw [decide_eq_true hA, decide_eq_false hB]
      show some false = _
      refine some_dec ⟨fun h => (by cases h), fun h => ?_⟩
      exfalso
      unfold MayP at h
      simp only at h
      omega
  · rw [decide_eq_false hA]
    show some false = _
    refine some_dec ⟨fun h => (by cases h), fun h => ?_⟩
    exfalso
    unfold MayP at h
    simp only at h
    omega
theorem band_u32 {x y : Nat} (hx : x < 4294967296) (hy : y < 4294967296) : band .u32 (x : Int) (y : Int) = ((x &&& y : Nat) : Int) := by
  rw [band_nat (by omega) (by simp only [umax]; omega) (by omega) (by simp only [umax]; omega)]
  rfl
def b2i (b : Bool) : Int := if b then 1 else 0
theorem shr_dg {w a : Nat} (hw : w < 4294967296) (h : a ≤ 32) (n : Nat) (h2 : 32 ≤ a + n) : shr .u32 (w : Int) (a : Int) = dg w a n := by
  rw [shr_nat (k := .u32) (by simp only [IntKind.bits]; omega)]
  unfold dg
  have hp : 2 ^ 32 ≤ 2 ^ a * 2 ^ n := by rw [← Nat.pow_add]; exact Nat.pow_le_pow_right (by omega) h2
  have : w / 2 ^ a < 2 ^ n := by
    apply Nat.div_lt_of_lt_mul
    have e : (2 : Nat) ^ 32 = 4294967296 := by decide
    omega
  rw [Nat.mod_eq_of_lt this]
theorem band_dg {w a : Nat} (hw : w < 4294967296) (h : a ≤ 32) (n : Nat) (hn : n ≤ 16) : band .u32 (shr .u32 (w : Int) (a : Int)) ((2 ^ n - 1 : Nat) : Int) = dg w a n := by
  rw [shr_nat (k := .u32) (by simp only [IntKind.bits]; omega)]
  have h1 : w / 2 ^ a < 4294967296 := Nat.lt_of_le_of_lt (Nat.div_le_self _ _) hw
  have h2 : 2 ^ n - 1 < 4294967296 := by have := Nat.pow_le_pow_right (n := 2) (by omega) hn; have e : (2 : Nat) ^ 16 = 65536 := by decide
                                         omega
  rw [band_u32 h1 h2, and_low]
  rfl
theorem band_dg0 {w : Nat} (hw : w < 4294967296) (n : Nat) (hn : n ≤ 16) : band .u32 (w : Int) ((2 ^ n - 1 : Nat) : Int) = dg w 0 n := by
  have h2 : 2 ^ n - 1 < 4294967296 := by have := Nat.pow_le_pow_right (n := 2) (by omega) hn; have e : (2 : Nat) ^ 16 = 65536 := by decide
                                         omega
  rw [band_u32 hw h2, and_low]
  unfold dg
  rw [Nat.pow_zero, Nat.div_one]
theorem rsigned20 {w : Nat} (hw : w < 4294967296) : rivetref02_Signed (w : Int) 20 = some (sg w 20) := by
  unfold rivetref02_Signed
  have e : mnn (mxx 20 1) 32 = 20 := by decide
  have e1 : shl .i64 1 20 = 1048576 := by kernel_rfl
  have e2 : shl .i64 1 19 = 524288 := by kernel_rfl
  have e3 : w64 (20 - 1) = 19 := by kernel_rfl
  rw [e, e1, e3, e2, if_pos (by omega), if_pos (by omega), if_pos (by omega), w64s (x := (w : Int)) (by omega) (by omega), Int.tmod_eq_emod_of_nonneg (by omega)]
  unfold sg
  rw [show (2 : Nat) ^ 20 = 1048576 by decide, show (2 : Nat) ^ (20 - 1) = 524288 by decide]
  by_cases h : w % 1048576 ≥ 524288
  · rw [if_pos (by omega), if_pos (by omega), if_pos h, w64s (by omega) (by omega)]; congr 1
  · rw [if_neg (by omega), if_neg h]; congr 1
theorem rsigned24 {w : Nat} (hw : w < 4294967296) : rivetref02_Signed (w : Int) 24 = some (sg w 24) := by
  unfold rivetref02_Signed
  have e : mnn (mxx 24 1) 32 = 24 := by decide
  have e1 : shl .i64 1 24 = 16777216 := by kernel_rfl
  have e2 : shl .i64 1 23 = 8388608 := by kernel_rfl
  have e3 : w64 (24 - 1) = 23 := by kernel_rfl
  rw [e, e1, e3, e2, if_pos (by omega), if_pos (by omega), if_pos (by omega), w64s (x := (w : Int)) (by omega) (by omega), Int.tmod_eq_emod_of_nonneg (by omega)]
  unfold sg
  rw [show (2 : Nat) ^ 24 = 16777216 by decide, show (2 : Nat) ^ (24 - 1) = 8388608 by decide]
  by_cases h : w % 16777216 ≥ 8388608
  · rw [if_pos (by omega), if_pos (by omega), if_pos h, w64s (by omega) (by omega)]; congr 1
  · rw [if_neg (by omega), if_neg h]; congr 1
theorem r3one_is (b : Bool) : rivetref03_one b = some (b2i b) := by cases b <;> rfl
set_option maxHeartbeats 4000000 in
theorem guess_is {w : Nat} (hw : w < 4294967296) : rivetref03_guess (w : Int) = some (rd w) := by
  have g30 : shr .u32 (w : Int) 30 = dg w 30 2 := shr_dg (a := 30) hw (by omega) 2 (by omega)
  have g29 : band .u32 (shr .u32 (w : Int) 29) 1 = dg w 29 1 := band_dg (a := 29) hw (by omega) 1 (by omega)
  have g28 : band .u32 (shr .u32 (w : Int) 28) 1 = dg w 28 1 := band_dg (a := 28) hw (by omega) 1 (by omega)
  have g24 : band .u32 (shr .u32 (w : Int) 24) 15 = dg w 24 4 := band_dg (a := 24) hw (by omega) 4 (by omega)
  have g20 : band .u32 (shr .u32 (w : Int) 20) 15 = dg w 20 4 := band_dg (a := 20) hw (by omega) 4 (by omega)
  have g16 : band .u32 (shr .u32 (w : Int) 16) 15 = dg w 16 4 := band_dg (a := 16) hw (by omega) 4 (by omega)
  have g0 : band .u32 (w : Int) 15 = dg w 0 4 := band_dg0 hw 4 (by omega)
  have g00 : band .u32 (w : Int) 65535 = dg w 0 16 := band_dg0 hw 16 (by omega)
  have b28 := dg_lt w 28 1; have b29 := dg_lt w 29 1; have b16 := dg_lt w 0 16; have b24 := dg_lt w 24 4; have b20 := dg_lt w 20 4; have b160 := dg_lt w 16 4; have b0 := dg_lt w 0 4
  simp only [show (2 : Nat) ^ 1 = 2 by decide, show (2 : Nat) ^ 4 = 16 by decide, show (2 : Nat) ^ 16 = 65536 by decide] at b28 b29 b16 b24 b20 b160 b0
  unfold rivetref03_guess rd
  simp only [g30, g29, g28, g24, g20, g16, g0, g00, rsigned20 hw, rsigned24 hw, r3one_is, rivetref03_guess.j1, Option.bind_some]
  rw [w64s (x := dg w 24 4) (by omega) (by omega), w64s (x := dg w 20 4) (by omega) (by omega), w64s (x := dg w 16 4) (by omega) (by omega), w64s (x := dg w 0 4) (by omega) (by omega), w64s (x := dg w 0 16) (by omega) (by omega)]
  have n29 : dg w 29 1 = 0 ∨ dg w 29 1 = 1 := by omega
  have n28 : dg w 28 1 = 0 ∨ dg w 28 1 = 1 := by omega
  by_cases h0 : dg w 30 2 = 0
  · rw [if_pos h0, if_pos h0]
    rcases n29 with h1 | h1 <;> rcases n28 with h2 | h2 <;> by_cases h3 : dg w 16 4 = 0 <;> simp [h1, h2, h3]
  · rw [if_neg h0, if_neg h0]
    by_cases h1 : dg w 30 2 = 1
    · rw [if_pos h1, if_pos h1]
      rcases n28 with h2 | h2
      · simp [h2]
      · rw [if_pos h2, h2, w64s (by omega) (by omega), Int.one_mul]
    · rw [if_neg h1, if_neg h1]
      by_cases h2 : dg w 30 2 = 2
      · rw [if_pos h2, if_pos h2]
        rcases n29 with h1 | h1 <;> rcases n28 with h2 | h2 <;> rw [h1, h2] <;> rfl
      · rw [if_neg h2, if_neg h2]
        split <;> rfl
theorem wordN_eq {i : Sapi_Instr} {n : Nat} (h : isa_word i = some (n : Int)) : wordN i = n := by unfold wordN; rw [h]; rfl
theorem shl29 {a : Nat} (h : a < 8) : shl .u32 (a : Int) 29 = ((a * 536870912 : Nat) : Int) := shl_u32 (i := 29) (by omega) (by omega)
theorem shl28 {a : Nat} (h : a < 16) : shl .u32 (a : Int) 28 = ((a * 268435456 : Nat) : Int) := shl_u32 (i := 28) (by omega) (by omega)
theorem shl24 {a : Nat} (h : a < 256) : shl .u32 (a : Int) 24 = ((a * 16777216 : Nat) : Int) := shl_u32 (i := 24) (by omega) (by omega)
theorem shl20 {a : Nat} (h : a < 4096) : shl .u32 (a : Int) 20 = ((a * 1048576 : Nat) : Int) := shl_u32 (i := 20) (by omega) (by omega)
theorem shl16 {a : Nat} (h : a < 65536) : shl .u32 (a : Int) 16 = ((a * 65536 : Nat) : Int) := shl_u32 (i := 16) (by omega) (by omega)
theorem bor_add {x y m : Nat} (n : Nat) (hm : 2 ^ n = m) (hx : x % m = 0) (hy : y < m) (h1 : x < 4294967296) (h2 : y < 4294967296) : bor .u32 (x : Int) (y : Int) = ((x + y : Nat) : Int) := by
  rw [bor_u32 h1 h2]
  have e : x = 2 ^ n * (x / m) := by rw [hm]; exact (Nat.mul_div_cancel' (Nat.dvd_of_mod_eq_zero hx)).symm
  conv => lhs; rw [e]
  rw [or_high (by omega), ← e]
theorem bor30 {y : Nat} (hy : y < 1073741824) : bor .u32 1073741824 (y : Int) = ((1073741824 + y : Nat) : Int) := bor_add 30 (m := 1073741824) (by decide) (by decide) hy (by decide) (by omega)
theorem bor29 {y : Nat} (hy : y < 536870912) : bor .u32 536870912 (y : Int) = ((536870912 + y : Nat) : Int) := bor_add 29 (m := 536870912) (by decide) (by decide) hy (by decide) (by omega)
theorem bor328 {y : Nat} (hy : y < 268435456) : bor .u32 805306368 (y : Int) = ((805306368 + y : Nat) : Int) := bor_add 28 (m := 268435456) (by decide) (by decide) hy (by decide) (by omega)
theorem bor31 {y : Nat} (hy : y < 2147483648) : bor .u32 2147483648 (y : Int) = ((2147483648 + y : Nat) : Int) := bor_add 31 (m := 2147483648) (by decide) (by decide) hy (by decide) (by omega)
theorem bor330 {y : Nat} (hy : y < 1073741824) : bor .u32 3221225472 (y : Int) = ((3221225472 + y : Nat) : Int) := bor_add 30 (m := 1073741824) (by decide) (by decide) hy (by decide) (by omega)
theorem bor729 {y : Nat} (hy : y < 536870912) : bor .u32 3758096384 (y : Int) = ((3758096384 + y : Nat) : Int) := bor_add 29 (m := 536870912) (by decide) (by decide) hy (by decide) (by omega)
theorem b2i_nat (b : Bool) : b2i b = ((b2n b : Nat) : Int) := by cases b <;> rfl
theorem b2n_lt (b : Bool) : b2n b < 2 := by cases b <;> decide
theorem refenc_no {i : Sapi_Instr} (h : ¬ MayP i) : rivetref03_Encode i = some (0, 1) := by
  unfold rivetref03_Encode
  rw [refmay_is, decide_eq_false h]
  rfl
theorem tmod_fld {M : Int} {n m : Nat} (hm : 2 ^ n = m) (h : n ≤ 32) : Int.tmod (wu32 M) (m : Int) = ((fld M n : Nat) : Int) := by
  have h0 : 0 ≤ wu32 M := by rw [wu32_eq]; omega
  rw [Int.tmod_eq_emod_of_nonneg h0, ← hm, ← fld_w M h]
  rw [Int.natCast_emod, Int.toNat_of_nonneg h0]
set_option maxHeartbeats 4000000 in
theorem refenc_is {i : Sapi_Instr} (h : MayP i) : rivetref03_Encode i = some ((wordN i : Int), 0) := by
  have hm := h
  obtain ⟨K, O, A, B, C, M, U⟩ := i
  unfold rivetref03_Encode
  rw [refmay_is, decide_eq_true hm]
  simp only [Option.bind_some, if_true, r3one_is]
  unfold MayP at h
  simp only at h
  obtain ⟨hA, hB, hC, hk⟩ := h
  have hO : 0 ≤ O ∧ O ≤ 15 := by omega
  obtain ⟨a, rfl⟩ := Int.eq_ofNat_of_zero_le hA.1
  obtain ⟨b, rfl⟩ := Int.eq_ofNat_of_zero_le hB.1
  obtain ⟨c, rfl⟩ := Int.eq_ofNat_of_zero_le hC.1
  obtain ⟨o, rfl⟩ := Int.eq_ofNat_of_zero_le hO.1
  have fa : fld (a : Int) 4 = a := fld_small (by omega)
  have fb : fld (b : Int) 4 = b := fld_small (by omega)
  have fc : fld (c : Int) 4 = c := fld_small (by omega)
  have fo : fld (o : Int) 4 = o := fld_small (by omega)
  have wa : wu32 (a : Int) = (a : Int) := wu32_id (by omega) (by omega)
  have wb : wu32 (b : Int) = (b : Int) := wu32_id (by omega) (by omega)
  have wc : wu32 (c : Int) = (c : Int) := wu32_id (by omega) (by omega)
  have wo : wu32 (o : Int) = (o : Int) := wu32_id (by omega) (by omega)
  have hu := b2n_lt U
  have e0 : b2n false = 0 := rfl
  have e1 : b2n true = 1 := rfl
  have m16 : Int.tmod (wu32 M) 65536 = ((fld M 16 : Nat) : Int) := tmod_fld (m := 65536) (by decide) (by omega)
  have m20 : Int.tmod (wu32 M) 1048576 = ((fld M 20 : Nat) : Int) := tmod_fld (m := 1048576) (by decide) (by omega)
  have m24 : Int.tmod (wu32 M) 16777216 = ((fld M 24 : Nat) : Int) := tmod_fld (m := 16777216) (by decide) (by omega)
  have l16 := fld_lt M 16; have l20 := fld_lt M 20; have l24 := fld_lt M 24
  simp only [show (2 : Nat) ^ 24 = 16777216 by decide, show (2 : Nat) ^ 20 = 1048576 by decide, show (2 : Nat) ^ 16 = 65536 by decide] at l16 l20 l24
  rw [wa, wb, wc, wo, m16, m20, m24, b2i_nat, b2i_nat, b2i_nat, b2i_nat]
  have hk2 : K = 1 ∨ K = 2 ∨ K = 3 ∨ K = 4 ∨ K = 5 ∨ K = 6 ∨ K = 7 := by omega
  clear hm hk
  have h1 := b2n_lt (decide (M < 0)); have h2 := b2n_lt (decide ((o : Int) ≥ 2)); have h3 := b2n_lt (decide (Int.tmod (o : Int) 2 = 1))
  have q1 : ∀ k : Int, b2n (decide (k = k)) = 1 := fun k => by simp [b2n]
  have q3 : b2n (decide ((3 : Int) = 4)) = 0 := rfl
  rcases hk2 with rfl | rfl | rfl | rfl | rfl | rfl | rfl
  · rw [if_pos rfl, wordN_eq (word1 _ _ _ _ _ _), fa, fb, fc, fo, e0, shl29 (by omega), shl24 (by omega), shl20 (by omega), shl16 (by omega), bor_add 28 (m := 268435456) (by decide) (by omega) (by omega) (by omega) (by omega), bor_add 24 (m := 16777216) (by decide) (by omega) (by omega) (by omega) (by omega), bor_add 20 (m := 1048576) (by decide) (by omega) (by omega) (by omega) (by omega), bor_add 16 (m := 65536) (by decide) (by omega) (by omega) (by omega) (by omega)]
    refine congrArg some (Prod.ext (congrArg (fun n : Nat => (n : Int)) ?_) rfl)
    omega
  · rw [if_neg (show ¬ (2 : Int) = 1 by decide), if_pos rfl, wordN_eq (word2 _ _ _ _ _ _), fa, fb, fo, shl29 (by omega), shl28 (by omega), shl24 (by omega), shl20 (by omega), shl16 (by omega), bor30 (by omega), bor_add 29 (m := 536870912) (by decide) (by omega) (by omega) (by omega) (by omega), bor_add 28 (m := 268435456) (by decide) (by omega) (by omega) (by omega) (by omega), bor_add 24 (m := 16777216) (by decide) (by omega) (by omega) (by omega) (by omega), bor_add 20 (m := 1048576) (by decide) (by omega) (by omega) (by omega) (by omega), bor_add 16 (m := 65536) (by decide) (by omega) (by omega) (by omega) (by omega)]
    refine congrArg some (Prod.ext (congrArg (fun n : Nat => (n : Int)) ?_) rfl)
    omega
  · rw [if_neg (show ¬ (3 : Int) = 1 by decide), if_neg (show ¬ (3 : Int) = 2 by decide), if_pos rfl, wordN_eq (word34 _ _ _ _ _ _ (.inl rfl)), fa, e1, q3, shl24 (by omega), bor29 (by omega)]
  · rw [if_neg (show ¬ (4 : Int) = 1 by decide), if_neg (show ¬ (4 : Int) = 2 by decide), if_neg (show ¬ (4 : Int) = 3 by decide), if_pos rfl, wordN_eq (word34 _ _ _ _ _ _ (.inr rfl)), fa, e1, q1, shl24 (by omega), bor328 (by omega)]
  · rw [if_neg (show ¬ (5 : Int) = 1 by decide), if_neg (show ¬ (5 : Int) = 2 by decide), if_neg (show ¬ (5 : Int) = 3 by decide), if_neg (show ¬ (5 : Int) = 4 by decide), if_pos rfl, wordN_eq (word5 _ _ _ _ _ _), fa, fb, shl29 (by omega), shl28 (by omega), shl24 (by omega), shl20 (by omega), bor31 (by omega), bor_add 29 (m := 536870912) (by decide) (by omega) (by omega) (by omega) (by omega), bor_add 28 (m := 268435456) (by decide) (by omega) (by omega) (by omega) (by omega), bor_add 24 (m := 16777216) (by decide) (by omega) (by omega) (by omega) (by omega), bor_add 20 (m := 1048576) (by decide) (by omega) (by omega) (by omega) (by omega)]
    refine congrArg some (Prod.ext (congrArg (fun n : Nat => (n : Int)) ?_) rfl)
    omega
  · rw [if_neg (show ¬ (6 : Int) = 1 by decide), if_neg (show ¬ (6 : Int) = 2 by decide), if_neg (show ¬ (6 : Int) = 3 by decide), if_neg (show ¬ (6 : Int) = 4 by decide), if_neg (show ¬ (6 : Int) = 5 by decide), if_pos rfl, wordN_eq (word6 _ _ _ _ _ _), fo, fc, e0, shl28 (by omega), shl24 (by omega), bor330 (by omega), bor_add 28 (m := 268435456) (by decide) (by omega) (by omega) (by omega) (by omega), bor_add 24 (m := 16777216) (by decide) (by omega) (by omega) (by omega) (by omega)]
    refine congrArg some (Prod.ext (congrArg (fun n : Nat => (n : Int)) ?_) rfl)
    omega
  · rw [if_neg (show ¬ (7 : Int) = 1 by decide), if_neg (show ¬ (7 : Int) = 2 by decide), if_neg (show ¬ (7 : Int) = 3 by decide), if_neg (show ¬ (7 : Int) = 4 by decide), if_neg (show ¬ (7 : Int) = 5 by decide), if_neg (show ¬ (7 : Int) = 6 by decide), wordN_eq (word7 _ _ _ _ _ _), fo, e1, shl28 (by omega), shl24 (by omega), bor729 (by omega), bor_add 28 (m := 268435456) (by decide) (by omega) (by omega) (by omega) (by omega), bor_add 24 (m := 16777216) (by decide) (by omega) (by omega) (by omega) (by omega)]
    refine congrArg some (Prod.ext (congrArg (fun n : Nat => (n : Int)) ?_) rfl)
    omega
/-- The reference's Decode tells the same. -/
theorem refdec_is {w : Int} (h : W w) : rivetref03_Decode w = some (decS w) := by
  obtain ⟨n, rfl⟩ := Int.eq_ofNat_of_zero_le h.1
  have hn : n < 4294967296 := by have := h.2; omega
  unfold rivetref03_Decode decS
  rw [guess_is hn, Option.bind_some, Int.toNat_natCast]
  by_cases hm : MayP (rd n)
  · rw [refenc_is hm]
    simp only [Option.bind_some, if_true]
    by_cases he : wordN (rd n) = n
    · rw [if_pos (by rw [he]), if_pos ⟨hm, he⟩]
    · rw [if_neg (by omega), if_neg (fun hh => he hh.2)]
  · rw [refenc_no hm, if_neg (fun hh => hm hh.1)]
    rfl
end Go.Proofs.YtlpiomnmaiddbaaGreatDoor.LA
namespace Go.Proofs.YtlpiomnmaiddbaaGreatDoor.LA
set_option linter.unusedVariables false
set_option linter.unusedSimpArgs false
open Go Go.RowKit Go.Proofs.YtlpiomnmaiddbaaGreatDoor.E
/-! ### names of any number -/
theorem shr_int {x : Int} {i : Nat} (h : i ≤ 64) : shr .i64 x (i : Int) = x / ((2 ^ i : Nat) : Int) := by
  unfold shr
  rw [Int.toNat_natCast, Nat.min_eq_left (show i ≤ IntKind.bits .i64 from h), p2, Int.fdiv_eq_ediv_of_nonneg _ (Int.natCast_nonneg _)]
theorem name_stepI {x : Int} {s : Nat} {l : List Int} (hs : s ≤ 12) (hl : l.length ≤ 1000) : label_Name.b1 (x, (s : Int), l) = some (.inl (x, (s : Int) - 4, l ++ [hx (x / ((2 ^ s : Nat) : Int) % 16).toNat])) := by
  have hsh : shr .i64 x (s : Int) = x / ((2 ^ s : Nat) : Int) := shr_int (by omega)
  have hb : band .i64 (x / ((2 ^ s : Nat) : Int)) 15 = x / ((2 ^ s : Nat) : Int) % 16 := band64 _ 4 (by omega)
  have hz : (ByteArray.size (⟨#[48, 49, 50, 51, 52, 53, 54, 55, 56, 57, 65, 66, 67, 68, 69, 70]⟩ : ByteArray) : Int) = 16 := rfl
  have h16 := Int.emod_nonneg (x / ((2 ^ s : Nat) : Int)) (show (16 : Int) ≠ 0 by omega)
  simp only [label_Name.b1]
  rw [if_pos (by omega), if_pos (by omega), hsh, hb, hz]
  generalize hq : x / ((2 ^ s : Nat) : Int) % 16 = q at *
  have hq2 : q < 16 := by rw [← hq]; exact Int.emod_lt_of_pos _ (by omega)
  obtain ⟨n, rfl⟩ := Int.eq_ofNat_of_zero_le h16
  rw [if_pos (by omega), if_pos (by simp only [List.length_cons, List.length_nil]; omega), w64s (by omega) (by omega), Int.toNat_natCast]
  show some (Sum.inl (x, (s : Int) - 4, l ++ [sx tab16 ((n : Nat) : Int)])) = _
  rw [sx_at]
  rfl
theorem name_isI (x : Int) : label_Name x = some (strOfNums (name4 (x % 65536).toNat)) := by
  unfold label_Name
  have h1 : loopO label_Name.b1 (x, 12, [95]) = some (name4 (x % 65536).toNat) := by
    rw [loopO_next (show label_Name.b1 (x, 12, [95]) = _ from name_stepI (s := 12) (by omega) (by decide))]
    rw [loopO_next (show label_Name.b1 (x, (((12 : Nat) : Int) - 4), _) = _ from name_stepI (s := 8) (by omega) (by simp))]
    rw [loopO_next (show label_Name.b1 (x, (((8 : Nat) : Int) - 4), _) = _ from name_stepI (s := 4) (by omega) (by simp))]
    rw [loopO_next (show label_Name.b1 (x, (((4 : Nat) : Int) - 4), _) = _ from name_stepI (s := 0) (by omega) (by simp))]
    refine loopO_done ?_
    simp only [label_Name.b1]
    rw [if_neg (by omega)]
    have e1 : (x / ((2 ^ 12 : Nat) : Int) % 16).toNat = (x % 65536).toNat / 4096 % 16 := by rw [show ((2 ^ 12 : Nat) : Int) = 4096 from rfl]; omega
    have e2 : (x / ((2 ^ 8 : Nat) : Int) % 16).toNat = (x % 65536).toNat / 256 % 16 := by rw [show ((2 ^ 8 : Nat) : Int) = 256 from rfl]; omega
    have e3 : (x / ((2 ^ 4 : Nat) : Int) % 16).toNat = (x % 65536).toNat / 16 % 16 := by rw [show ((2 ^ 4 : Nat) : Int) = 16 from rfl]; omega
    have e4 : (x / ((2 ^ 0 : Nat) : Int) % 16).toNat = (x % 65536).toNat % 16 := by rw [show ((2 ^ 0 : Nat) : Int) = 1 from rfl]; omega
    rw [e1, e2, e3, e4]
    rfl
  rw [h1]
  rfl
theorem name4_by' (a : Nat) : By (name4 a) := by
  intro x hx
  simp only [name4, List.mem_cons, List.not_mem_nil, or_false] at hx
  have h1 := hx_in (k := a / 4096 % 16) (by omega)
  have h2 := hx_in (k := a / 256 % 16) (by omega)
  have h3 := hx_in (k := a / 16 % 16) (by omega)
  have h4 := hx_in (k := a % 16) (by omega)
  rcases hx with rfl | rfl | rfl | rfl | rfl <;> omega
def digs : Nat → Nat → List Int
  | 0, _ => []
  | n + 1, w => digs n (w / 16) ++ [hx (w % 16)]
theorem dig_at {k : Nat} (h : k < 16) : bytesL (tab16.extract k (k + 1)) = [hx k] := by
  have : ∀ k, k < 16 → bytesL (tab16.extract k (k + 1)) = [hx k] := by decide +kernel
  exact this k h
theorem hex_loop : ∀ (n i w : Nat) (out : ByteArray), i + n = 8 → w < 4294967296 → out.size ≤ 100 + i → ∃ r, loopO rivetref11_Hex.b1 ((w : Int), tab16, out, (i : Int)) = some r ∧ bytesL r = digs n w ++ bytesL out
  | 0, i, w, out, hi, hw, ho => by
    refine ⟨out, loopO_done ?_, rfl⟩
    simp only [rivetref11_Hex.b1]
    rw [if_neg (by omega)]
  | n + 1, i, w, out, hi, hw, ho => by
    have hz : tab16.size = 16 := rfl
    have hs : (tab16.extract (w % 16) (w % 16 + 1)).size = 1 := by rw [← bytesL_length, dig_at (by omega)]; rfl
    obtain ⟨r, r1, r2⟩ := hex_loop n (i + 1) (w / 16) (tab16.extract (w % 16) (w % 16 + 1) ++ out) (by omega) (by omega) (by rw [ByteArray.size_append, hs]; omega)
    refine ⟨r, ?_, ?_⟩
    · rw [← r1]
      refine loopO_next ?_
      simp only [rivetref11_Hex.b1]
      have e1 : w64 (Int.tmod (w : Int) 16) = ((w % 16 : Nat) : Int) := by rw [Int.tmod_eq_emod_of_nonneg (by omega), w64s (by omega) (by omega)]; rfl
      have e2 : w64 (((w % 16 : Nat) : Int) + 1) = ((w % 16 + 1 : Nat) : Int) := by rw [w64s (by omega) (by omega)]; rfl
      have e3 : wu32 (Int.tdiv (w : Int) 16) = ((w / 16 : Nat) : Int) := by rw [Int.tdiv_eq_ediv_of_nonneg (by omega), wu32_eq]; omega
      rw [if_pos (by omega), e1, e2, hz, if_pos (by omega), Int.toNat_natCast, Int.toNat_natCast, if_pos (by rw [hs]; omega), e3, w64s (by omega) (by omega)]
      rfl
    · rw [r2, bytesL_append, dig_at (by omega)]
      simp [digs]
theorem refname22_is (x : Int) : rivetref22_Name x = some (strOfNums (name4 (x % 65536).toNat)) := by
  have hb : band .i64 x 65535 = x % 65536 := band64 x 16 (by omega)
  have hu : wu32 (x % 65536) = (((x % 65536).toNat : Nat) : Int) := by rw [wu32_eq]; omega
  generalize ha : (x % 65536).toNat = a at *
  have hal : a < 65536 := by omega
  obtain ⟨r, r1, r2⟩ := hex_loop 8 0 a ⟨#[]⟩ (by omega) (by omega) (by decide)
  have r1 : loopO rivetref11_Hex.b1 ((a : Int), (⟨#[48, 49, 50, 51, 52, 53, 54, 55, 56, 57, 65, 66, 67, 68, 69, 70]⟩ : ByteArray), (⟨#[]⟩ : ByteArray), 0) = some r := r1
  have hr : bytesL r = [hx 0, hx 0, hx 0, hx 0, hx (a / 4096 % 16), hx (a / 256 % 16), hx (a / 16 % 16), hx (a % 16)] := by
    rw [r2]
    simp only [digs, List.nil_append, List.cons_append, Nat.div_div_eq_div_mul]
    rw [show a / (16 * 16 * 16 * 16 * 16 * 16 * 16) % 16 = 0 by omega, show a / (16 * 16 * 16 * 16 * 16 * 16) % 16 = 0 by omega, show a / (16 * 16 * 16 * 16 * 16) % 16 = 0 by omega, show a / (16 * 16 * 16 * 16) % 16 = 0 by omega]
    rfl
  have hsz : r.size = 8 := by rw [← bytesL_length, hr]; rfl
  have hfin : (⟨#[95]⟩ : ByteArray) ++ r.extract 4 8 = strOfNums (name4 a) := by
    rw [← nums_bytesL ((⟨#[95]⟩ : ByteArray) ++ r.extract 4 8), bytesL_append, bytesL_cut, hr]
    rfl
  have hsz2 : ((⟨#[95]⟩ : ByteArray)).size = 1 := rfl
  have hsz3 : (r.extract 4 8).size ≤ 8 := by rw [← bytesL_length, bytesL_cut, List.length_take]; omega
  unfold rivetref22_Name rivetref11_Hex
  rw [hb, hu, r1]
  simp only [Option.bind_some]
  rw [hsz, if_pos (by omega), if_pos (by show (ByteArray.size (⟨#[95]⟩ : ByteArray)) + (r.extract 4 8).size ≤ _; omega)]
  exact congrArg some hfin
/-! ### jumps -/
theorem site_is {o : Sapi_Obj} (h : Ob o) (x : Int) : rivetref22_Site o x = some (decide (x ∈ o.Sites)) := by
  obtain ⟨w, s, y⟩ := o
  have hl : s.length ≤ 1000000000000 := h.sl
  have key : ∀ (n i : Nat), i + n = s.length → loopO rivetref22_Site.b1 (x, (i : Int), w, s, y) = some (if x ∈ s.drop i then .ret true else .done ()) := by
    intro n
    induction n with
    | zero =>
      intro i hi
      refine loopO_done ?_
      simp only [rivetref22_Site.b1]
      rw [if_neg (by omega), List.drop_of_length_le (by omega), if_neg List.not_mem_nil]
    | succ n ih =>
      intro i hi
      have hlt : i < s.length := by omega
      by_cases c : s.getD i 0 = x
      · refine loopO_done ?_
        simp only [rivetref22_Site.b1]
        rw [if_pos (by omega), if_pos (by omega), ixn, if_pos c, drop_at hlt, if_pos (by rw [c]; exact List.mem_cons_self)]
      · have e : (x ∈ s.drop i) = (x ∈ s.drop (i + 1)) := by rw [drop_at hlt]; exact propext ⟨fun h => (List.mem_cons.1 h).resolve_left fun e => c e.symm, fun h => List.mem_cons_of_mem _ h⟩
        simp only [e]
        rw [← ih (i + 1) (by omega)]
        refine loopO_next ?_
        simp only [rivetref22_Site.b1]
        rw [if_pos (by omega), if_pos (by omega), ixn, if_neg c, w64s (by omega) (by omega)]
        rfl
  have hk : loopO rivetref22_Site.b1 (x, 0, w, s, y) = some (if x ∈ s.drop 0 then .ret true else .done ()) := key s.length 0 (by omega)
  unfold rivetref22_Site
  simp only
  rw [hk, List.drop_zero]
  by_cases c : x ∈ s
  · rw [if_pos c, decide_eq_true c]; rfl
  · rw [if_neg c, decide_eq_false c]; rfl
theorem refjump_is {o : Sapi_Obj} (h : Ob o) {i : Nat} (hi : i < o.Words.length) : rivetref22_Jump o (i : Int) = some (jres (jmpS o.Words o.Sites i)) := by
  have hw := getD_in h.w hi
  have hl := h.wl
  unfold rivetref22_Jump jmpS
  rw [if_neg (by omega), if_neg (by omega), site_is h, Option.bind_some]
  by_cases c : (i : Int) ∈ o.Sites
  · rw [decide_eq_true c, if_pos rfl, if_pos c]; rfl
  · rw [decide_eq_false c, if_neg (by simp), if_neg c, if_pos (by omega), ixn, refdec_is hw, Option.bind_some]
    generalize hd : decS (o.Words.getD i 0) = d
    have hm : d.2 = true → MayP d.1 := fun e => by rw [← hd] at e ⊢; exact (dec_ok e).1
    obtain ⟨d1, d2⟩ := d
    simp only
    by_cases c2 : d2 = true
    · rw [if_pos c2]
      by_cases c3 : d1.Kind = 7
      · have hb := imm7 (hm c2) c3
        simp only at hb
        rw [if_pos c3, w64s (x := 4 * (i : Int)) (by omega) (by omega), w64s (x := 4 * (i : Int) + 4) (by omega) (by omega), w64s (x := 4 * d1.Imm) (by omega) (by omega), w64s (x := 4 * (i : Int) + 4 + 4 * d1.Imm) (by omega) (by omega), w64s (x := 4 * (o.Words.length : Int)) (by omega) (by omega)]
        by_cases c4 : 0 ≤ (i : Int) + 1 + d1.Imm ∧ (i : Int) + 1 + d1.Imm ≤ (o.Words.length : Int)
        · rw [if_neg (by omega), if_neg (by omega), if_pos ⟨c2, c3, c4⟩, show 4 * (i : Int) + 4 + 4 * d1.Imm = 4 * ((i : Int) + 1 + d1.Imm) by omega]; rfl
        · rw [if_neg (show ¬ (d2 = true ∧ d1.Kind = 7 ∧ 0 ≤ (i : Int) + 1 + d1.Imm ∧ (i : Int) + 1 + d1.Imm ≤ (o.Words.length : Int)) from fun e => c4 e.2.2)]
          by_cases c5 : 4 * (i : Int) + 4 + 4 * d1.Imm < 0
          · rw [if_pos c5]; rfl
          · rw [if_neg c5, if_pos (by omega)]; rfl
      · rw [if_neg c3, if_neg (fun e => c3 e.2.1)]; rfl
    · rw [if_neg c2, if_neg (fun e => c2 e.1)]; rfl
theorem refjump_out {o : Sapi_Obj} {i : Int} (hi : ¬ (0 ≤ i ∧ i < (o.Words.length : Int))) : rivetref22_Jump o i = some (0, false) := by
  unfold rivetref22_Jump
  by_cases c : i < 0
  · rw [if_pos c]
  · rw [if_neg c, if_pos (by omega)]
theorem jump_same {o : Sapi_Obj} (h : Ob o) (i : Int) : ∃ r, label_Jump o i = some r ∧ rivetref22_Jump o i = some r := by
  by_cases c : 0 ≤ i ∧ i < (o.Words.length : Int)
  · obtain ⟨n, rfl⟩ := Int.eq_ofNat_of_zero_le c.1
    exact ⟨_, jump_is h (by omega), refjump_is h (by omega)⟩
  · exact ⟨_, jump_out c, refjump_out c⟩
/-! ### all places, as the reference has them -/
noncomputable def need1 (w s : List Int) (x : Int) (j : Nat) : Bool := decide (jmpS w s j = some x) || (decide ((j : Int) ∈ s) && (decide (w.getD j 0 = x) || decide (w.getD j 0 % 4 ≠ 0 ∧ x = 0)))
theorem refof1 {w s : List Int} {y : List Sapi_Sym} {x : Int} {l4 : List Int} (h : Ob ⟨w, s, y⟩) (hw : w.length ≤ 1000000) : ∀ (n i : Nat) (b : Bool), i + n = w.length →
    loopO rivetref22_Of.b1 (x, b, (i : Int), w, s, y, l4) = some (x, b || (List.range' i n).any (need1 w s x), w, s, y, l4)
  | 0, i, b, hi => by
    refine loopO_done ?_
    simp only [rivetref22_Of.b1]
    rw [if_neg (by omega)]
    simp
  | n + 1, i, b, hi => by
    have hlt : i < w.length := by omega
    have hj := refjump_is h (i := i) hlt
    have hv : 0 ≤ w.getD i 0 ∧ w.getD i 0 ≤ 4294967295 := getD_in h.w (i := i) hlt
    have hs := site_is h (i : Int)
    rw [List.range'_succ, List.any_cons, ← Bool.or_assoc, ← refof1 (x := x) (l4 := l4) h hw n (i + 1) (b || need1 w s x i) (by omega)]
    refine loopO_next ?_
    simp only [rivetref22_Of.b1]
    rw [if_pos (by omega), hj, Option.bind_some, if_pos (by omega), hs, ixn, w64s (x := w.getD i 0) (by omega) (by omega), w64s (x := (i : Int) + 1) (by omega) (by omega), Int.tmod_eq_emod_of_nonneg hv.1]
    simp only [Option.bind_some]
    have e : ((i + 1 : Nat) : Int) = (i : Int) + 1 := by omega
    rw [e]
    unfold need1
    generalize w.getD i 0 = v at hv ⊢
    cases b with
    | true => simp
    | false =>
      by_cases cs : (i : Int) ∈ s
      · have hj0 : jmpS w s i = none := by unfold jmpS; rw [if_pos cs]
        simp only [hj0, jres, cs, decide_true]
        by_cases c1 : v = x
        · simp [c1]
        · by_cases c2 : v % 4 = 0
          · simp [c1, c2]
          · simp [c1, c2]
      · cases hjm : jmpS w s i with
        | none => simp [jres, cs]
        | some t =>
          by_cases c1 : t = x
          · simp [jres, cs, c1]
          · simp [jres, cs, c1]
theorem refof2 {w s : List Int} {y : List Sapi_Sym} (h : Ob ⟨w, s, y⟩) (hw : w.length ≤ 1000000) : ∀ (m k : Nat) (out : List Int), k + m = w.length + 1 → out.length ≤ k →
    loopO rivetref22_Of.b2 (4 * (k : Int), w, s, y, out) = some (out ++ ((List.range' k m).filter fun k : Nat => (List.range' 0 w.length).any (need1 w s (4 * (k : Int)))).map fun k : Nat => 4 * (k : Int))
  | 0, k, out, hk, ho => by
    refine loopO_done ?_
    simp only [rivetref22_Of.b2]
    rw [if_neg (by rw [w64s (by omega) (by omega)]; omega)]
    simp
  | m + 1, k, out, hk, ho => by
    have h1 : loopO rivetref22_Of.b1 (4 * (k : Int), false, 0, w, s, y, out) = _ := refof1 (x := 4 * (k : Int)) (l4 := out) h hw w.length 0 false (by omega)
    have hn : w64 (4 * (k : Int) + 4) = 4 * ((k + 1 : Nat) : Int) := by rw [w64s (by omega) (by omega)]; omega
    rw [List.range'_succ, List.filter_cons]
    cases c : (List.range' 0 w.length).any (need1 w s (4 * (k : Int))) with
    | true =>
      rw [if_pos rfl, List.map_cons]
      rw [show out ++ (4 * (k : Int)) :: _ = (out ++ [4 * (k : Int)]) ++ _ by rw [List.append_assoc]; rfl, ← refof2 h hw m (k + 1) (out ++ [4 * (k : Int)]) (by omega) (by simp; omega)]
      refine loopO_next ?_
      simp only [rivetref22_Of.b2]
      rw [if_pos (by rw [w64s (by omega) (by omega)]; omega), h1, c]
      simp only [Option.bind_some, Bool.false_or]
      rw [if_pos trivial, if_pos (by simp only [List.length_cons, List.length_nil]; omega), hn]
    | false =>
      rw [if_neg (by simp), ← refof2 h hw m (k + 1) out (by omega) (by omega)]
      refine loopO_next ?_
      simp only [rivetref22_Of.b2]
      rw [if_pos (by rw [w64s (by omega) (by omega)]; omega), h1, c]
      simp only [Option.bind_some, Bool.false_or]
      rw [if_neg (by simp), hn]
theorem mayS_val {o : Sapi_Obj} (hm : mayS o = 0) : ∀ x ∈ o.Sites, o.Words.getD x.toNat 0 ≤ 4 * (o.Words.length : Int) := by
  have hs : (List.range o.Sites.length).all (siteOk o) = true := by
    unfold mayS at hm
    split at hm
    · cases hm
    · split at hm
      · cases hm
      · split at hm
        · cases hm
        · rename_i h; simpa using h
  intro x hx
  obtain ⟨j, h1, h2⟩ := List.getElem_of_mem hx
  have h3 := List.all_eq_true.1 hs j (by simpa using h1)
  unfold siteOk at h3
  have h4 := of_decide_eq_true h3
  rw [show o.Sites.getD j 0 = x by rw [List.getD_eq_getElem?_getD, List.getElem?_eq_getElem h1]; exact h2] at h4
  exact h4
theorem needs_in {w s : List Int} (hw : Wd w) (hs : ∀ x ∈ s, 0 ≤ x ∧ x < (w.length : Int)) (hv : ∀ x ∈ s, w.getD x.toNat 0 ≤ 4 * (w.length : Int)) {x : Int} (h : Needs w s x) : 0 ≤ x ∧ x ≤ 4 * (w.length : Int) ∧ x % 4 = 0 := by
  rcases h with ⟨z, hz, rfl⟩ | ⟨j, _, hj⟩
  · have h1 := hs z hz
    have h2 := hv z hz
    have h3 := getD_in hw (i := z.toNat) (by omega)
    unfold siteS
    split
    · rename_i hh; exact ⟨h3.1, h2, hh⟩
    · omega
  · exact jmpS_in hj
theorem refof_is {o : Sapi_Obj} (h : Ob o) (hm : mayS o = 0) : ∃ l, rivetref22_Of o = some (0, l) ∧ Lab o.Words o.Sites l := by
  obtain ⟨w, s, y⟩ := o
  obtain ⟨h1, h2⟩ := mayS_rise hm
  have hv := mayS_val hm
  simp only at h1 h2 hv
  have hs : ∀ x ∈ s, 0 ≤ x ∧ x < (w.length : Int) := fun x hx => ⟨(rise_all h2 (by omega) x hx).2.1, (rise_all h2 (by omega) x hx).2.2.1⟩
  have k := refof2 h (by omega) (w.length + 1) 0 [] (by omega) (by simp)
  have k : loopO rivetref22_Of.b2 (0, w, s, y, []) = _ := k
  refine ⟨((List.range' 0 (w.length + 1)).filter fun k : Nat => (List.range' 0 w.length).any (need1 w s (4 * (k : Int)))).map fun k : Nat => 4 * (k : Int), ?_, ?_, fun x => ?_⟩
  · unfold rivetref22_Of
    rw [refobmay_is h, hm, Option.bind_some, if_pos rfl]
    simp only [k, Option.bind_some, List.nil_append]
  · refine List.Pairwise.map _ (fun a b h => ?_) ((List.pairwise_lt_range' (s := 0) (n := w.length + 1)).filter _)
    omega
  · simp only [List.mem_map, List.mem_filter, List.mem_range'_1, List.any_eq_true]
    have hd : ∀ j k : Nat, j < w.length → (need1 w s (4 * (k : Int)) j = true ↔ (jmpS w s j = some (4 * (k : Int)) ∨ ((j : Int) ∈ s ∧ 4 * (k : Int) = siteS w (j : Int)))) := fun j k hj => by
      unfold need1 siteS
      rw [Bool.or_eq_true, decide_eq_true_eq, Bool.and_eq_true, decide_eq_true_eq, Bool.or_eq_true, decide_eq_true_eq, decide_eq_true_eq, Int.toNat_natCast]
      have : (w.getD j 0 = 4 * (k : Int) ∨ w.getD j 0 % 4 ≠ 0 ∧ 4 * (k : Int) = 0) ↔ 4 * (k : Int) = if w.getD j 0 % 4 = 0 then w.getD j 0 else 0 := by
        split <;> omega
      rw [this]
    constructor
    · rintro ⟨k, ⟨⟨_, hk⟩, j, ⟨_, hj⟩, hn⟩, rfl⟩
      rcases (hd j k (by omega)).1 hn with e | ⟨e1, e2⟩
      · exact .inr ⟨j, by show j < w.length; omega, e⟩
      · exact .inl ⟨_, e1, e2⟩
    · intro hx
      have hb := needs_in h.w hs hv hx
      have hb : 0 ≤ x ∧ x ≤ 4 * (w.length : Int) ∧ x % 4 = 0 := hb
      refine ⟨(x / 4).toNat, ⟨⟨Nat.zero_le _, by omega⟩, ?_⟩, by omega⟩
      have hx4 : 4 * (((x / 4).toNat : Nat) : Int) = x := by omega
      rcases hx with ⟨z, hz, e⟩ | ⟨j, hj, e⟩
      · have hz2 := hs z hz
        refine ⟨z.toNat, ⟨Nat.zero_le _, by omega⟩, (hd z.toNat _ (by omega)).2 (.inr ?_)⟩
        rw [Int.toNat_of_nonneg hz2.1, hx4]
        exact ⟨hz, e⟩
      · refine ⟨j, ⟨Nat.zero_le _, by have hj : j < w.length := hj; omega⟩, (hd j _ hj).2 (.inl ?_)⟩
        rw [hx4]
        exact e
theorem refof_no {o : Sapi_Obj} (h : Ob o) (hm : mayS o ≠ 0) : rivetref22_Of o = some (mayS o, []) := by
  unfold rivetref22_Of
  rw [refobmay_is h, Option.bind_some, if_neg hm]
/-! ### few -/
theorem few_loop {W S w s : List Int} {Y : List Sapi_Sym} : ∀ (n i : Nat) (out : List Sapi_Sym), i + n = 12 → out.length ≤ i →
    ∃ r, loopO rivetlaw22_few.b1 ((i : Int), W, S, Y, w, s, out) = some (W, S, w, s, r) ∧ r.length ≤ 12
  | 0, i, out, hi, ho => by
    refine ⟨out, loopO_done ?_, by omega⟩
    simp only [rivetlaw22_few.b1]
    by_cases c : (i : Int) < (Y.length : Int)
    · rw [if_pos c, if_neg (by omega)]
    · rw [if_neg c]
  | n + 1, i, out, hi, ho => by
    by_cases c : (i : Int) < (Y.length : Int)
    · have m := mnn_ok ((ix dSapi_Sym Y (i : Int)).Name.size : Int) 20 (by omega) (by omega)
      obtain ⟨r, r1, r2⟩ := few_loop (W := W) (S := S) (w := w) (s := s) (Y := Y) n (i + 1) (out ++ [(⟨ByteArray.extract (Sapi_Sym.Name (ix dSapi_Sym Y (i : Int))) (Int.toNat 0) (Int.toNat (mnn (ByteArray.size (Sapi_Sym.Name (ix dSapi_Sym Y (i : Int))) : Int) 20)), Sapi_Sym.At (ix dSapi_Sym Y (i : Int))⟩ : Sapi_Sym)]) (by omega) (by simp; omega)
      refine ⟨r, ?_, r2⟩
      rw [← r1]
      refine loopO_next ?_
      simp only [rivetlaw22_few.b1]
      rw [if_pos c, if_pos (by omega), if_pos (by omega), if_pos ⟨Int.le_refl 0, m⟩, if_pos (by simp only [List.length_cons, List.length_nil]; omega), w64s (by omega) (by omega)]
      rfl
    · refine ⟨out, loopO_done ?_, by omega⟩
      simp only [rivetlaw22_few.b1]
      rw [if_neg c]
theorem few_is {o : Sapi_Obj} (h : Wd o.Words) : ∃ w s y, rivetlaw22_few o = some (o.Words, o.Sites, w, s, y) ∧ Ob ⟨w, s, y⟩ ∧ w.length ≤ 30 := by
  have m := mnn_ok (o.Words.length : Int) 30 (by omega) (by omega)
  have m2 := mnn_ok (o.Sites.length : Int) 30 (by omega) (by omega)
  obtain ⟨r, r1, r2⟩ := few_loop (W := o.Words) (S := o.Sites) (w := o.Words.take (mnn (o.Words.length : Int) 30).toNat) (s := o.Sites.take (mnn (o.Sites.length : Int) 30).toNat) (Y := o.Syms) 12 0 [] (by omega) (by simp)
  have r1 : loopO rivetlaw22_few.b1 (0, o.Words, o.Sites, o.Syms, o.Words.take (mnn (o.Words.length : Int) 30).toNat, o.Sites.take (mnn (o.Sites.length : Int) 30).toNat, []) = _ := r1
  have l1 : (o.Words.take (mnn (o.Words.length : Int) 30).toNat).length ≤ 30 := by rw [take_min _ 30 (by omega), List.length_take]; omega
  have l2 : (o.Sites.take (mnn (o.Sites.length : Int) 30).toNat).length ≤ 30 := by rw [take_min _ 30 (by omega), List.length_take]; omega
  refine ⟨o.Words.take (mnn (o.Words.length : Int) 30).toNat, o.Sites.take (mnn (o.Sites.length : Int) 30).toNat, r, ?_, ⟨fun x hx => h x (List.mem_of_mem_take hx), ?_, ?_, ?_⟩, l1⟩
  · unfold rivetlaw22_few
    rw [if_pos m, if_pos m2, r1]
    rfl
  · exact Nat.le_trans l1 (by decide)
  · exact Nat.le_trans l2 (by decide)
  · exact Nat.le_trans r2 (by decide)
theorem all1 {v1 : Int} {v5 : Bool} {v8 v10 : Int} {l0 l1 l4 l5 w s : List Int} {y : List Sapi_Sym} (h : Ob ⟨w, s, y⟩) (hw : w.length ≤ 30) : ∀ (n i : Nat), i + n = w.length + 2 →
    loopO rivetlaw22_LabelAll.b1 (v1, v5, v8, v10, (i : Int) - 1, l0, l1, l4, l5, w, s, y) = some (.done (v1, v5, v8, v10, l0, l1, l4, l5, w, s, y))
  | 0, i, hi => by
    refine loopO_done ?_
    simp only [rivetlaw22_LabelAll.b1]
    rw [if_neg (by omega)]
  | n + 1, i, hi => by
    obtain ⟨⟨r1, r2⟩, q1, q2⟩ := jump_same h ((i : Int) - 1)
    rw [← all1 (v1 := v1) (v5 := v5) (v8 := v8) (v10 := v10) (l0 := l0) (l1 := l1) (l4 := l4) (l5 := l5) h hw n (i + 1) (by omega)]
    refine loopO_next ?_
    simp only [rivetlaw22_LabelAll.b1]
    rw [if_pos (by omega), q1, Option.bind_some]
    simp only
    rw [q2, Option.bind_some]
    simp only
    rw [if_pos trivial, if_neg (by simp), w64s (by omega) (by omega), show (i : Int) - 1 + 1 = ((i + 1 : Nat) : Int) - 1 by omega]
theorem Pure.LabelAll (a0 : Sapi_Obj) (a1 : Int) : (okSapi_Obj a0) → (In .i64 a1) → rivetlaw22_LabelAll a0 a1 = some true := by
  intro h0 h1
  obtain ⟨w, s, y, f1, f2, f3⟩ := few_is (o := a0) (fun x hx => (h0.1.1 x hx).u32)
  obtain ⟨⟨r1, r2⟩, q1, q2⟩ := jump_same f2 a1
  have hof : ∃ e l, label_Of ⟨w, s, y⟩ = some (e, l) ∧ rivetref22_Of ⟨w, s, y⟩ = some (e, l) ∧ l.length ≤ 1000000000000 := by
    by_cases hm : mayS ⟨w, s, y⟩ = 0
    · obtain ⟨l, l1, l2⟩ := of_is f2 hm
      obtain ⟨m, m1, m2⟩ := refof_is f2 hm
      have : l = m := l2.eq m2
      subst this
      obtain ⟨e1, e2⟩ := mayS_rise hm
      have hs : ∀ x ∈ s, 0 ≤ x ∧ x < (w.length : Int) := fun x hx => ⟨(rise_all e2 (by omega) x hx).2.1, (rise_all e2 (by omega) x hx).2.2.1⟩
      have hin : ∀ x ∈ l, 0 ≤ x ∧ x ≤ 4 * (w.length : Int) ∧ x % 4 = 0 := fun x hx => needs_in f2.w hs (mayS_val hm) ((l2.mem x).1 hx)
      have := ris_len (n := 4 * w.length + 1) (s := l) ⟨l2.up, fun x hx => (hin x hx).1, fun x hx => by have := hin x hx; omega⟩
      exact ⟨0, l, l1, m1, by omega⟩
    · exact ⟨_, _, of_no f2 hm, refof_no f2 hm, by simp⟩
  obtain ⟨e, l, l1, l2, l3⟩ := hof
  have k := all1 (v1 := a1) (v5 := true) (v8 := e) (v10 := e) (l0 := a0.Words) (l1 := a0.Sites) (l4 := l) (l5 := l) f2 f3 (w.length + 2) 0 (by omega)
  have k : loopO rivetlaw22_LabelAll.b1 (a1, true, e, e, -1, a0.Words, a0.Sites, l, l, w, s, y) = _ := k
  unfold rivetlaw22_LabelAll
  rw [shown_is, f1]
  simp only [Option.bind_some]
  rw [l1]
  simp only [Option.bind_some]
  rw [l2]
  simp only [Option.bind_some]
  rw [k]
  simp only [Option.bind_some]
  rw [q1]
  simp only [Option.bind_some]
  rw [q2]
  simp only [Option.bind_some, if_true]
  rw [same8_is _ _ l3]
  simp only [Option.bind_some, decide_true, if_true, beq_self_eq_true]
  rw [name_isI, refname22_is]
  simp
end Go.Proofs.YtlpiomnmaiddbaaGreatDoor.LA
namespace Go.Proofs.YtlpiomnmaiddbaaGreatDoor.E
set_option linter.unusedVariables false
set_option linter.unusedSimpArgs false
open Go Go.RowKit
theorem vec_enc {n : Nat} {k : IntKind} (y : Vector Int n) : y.toList.map (Value.int k) = (List.range n).map fun j => Value.int k (vx 0 y j) := by
  apply List.ext_getElem
  · simp
  · intro i h1 h2
    have h : i < n := by simpa using h1
    simp [vx, h]
section
variable {X : Cx} {w : World}
/-- A row that came in. -/
structure Ro (X : Cx) (w : World) where
  T : Nat
  l : List (X.τ T)
  A : Option Addr
  cap : Nat
  f : Nat → List Value
  h : ∀ w', Kp [] w w' → X.Rr T f w' A cap l
/-- One of plain data. -/
def roP (T : Nat) (l : List (X.τ T)) (A : Option Addr) (cap : Nat) (h : Rd w (X.E T) A cap l) (hd : X.dp T = false := by rfl) : Ro X w :=
  ⟨T, l, A, cap, fun _ => [], fun w' hk => Rr_of hd (h.move fun a ha hl => hk.block a.block (h.lt ha hl) (by simp))⟩
/-- One whose elements lead on to rows. -/
def roD (T : Nat) (l : List (X.τ T)) (A : Option Addr) (cap : Nat) (f : Nat → List Value) (h : RdD X T f w A cap l) (hd : X.dp T = true := by rfl) : Ro X w :=
  ⟨T, l, A, cap, f, fun w' hk => Rr_of_deep hd (h.move hk)⟩
def roL : Nat → List (Ro X w) → List (Nat × AO X.τ)
  | _, [] => []
  | i, r :: s => (i, .ro r.T r.l) :: roL (i + 1) s
def roR (s : List (Ro X w)) : Rho := fun i => match s[i]? with
  | some r => some ⟨r.A, r.cap, r.l.length, (X.E r.T).sz⟩
  | none => none
theorem roL_ge : ∀ {s : List (Ro X w)} {k : Nat} {o : Nat}, o ∈ (roL k s).map Prod.fst → k ≤ o
  | _ :: s, k, o, h => by
    rcases List.mem_cons.1 h with rfl | h
    · exact Nat.le_refl _
    · exact Nat.le_of_succ_le (roL_ge (s := s) h)
theorem roL_nd : ∀ {s : List (Ro X w)} {k : Nat}, ((roL k s).map Prod.fst).Nodup
  | [], _ => List.nodup_nil
  | _ :: s, k => List.nodup_cons.2 ⟨fun h => by have := roL_ge (s := s) h; omega, roL_nd⟩
theorem roL_at : ∀ {s : List (Ro X w)} {k : Nat} {p : Nat × AO X.τ}, p ∈ roL k s → ∃ i r, p = (k + i, .ro r.T r.l) ∧ s[i]? = some r
  | r :: s, k, p, h => by
    rcases List.mem_cons.1 h with rfl | h
    · exact ⟨0, r, rfl, rfl⟩
    · obtain ⟨i, q, h1, h2⟩ := roL_at (s := s) h
      exact ⟨i + 1, q, by rw [h1, Nat.add_right_comm, Nat.add_assoc], h2⟩
theorem roR_none {s : List (Ro X w)} {i : Nat} (h : s.length ≤ i) : roR s i = none := by
  unfold roR
  rw [List.getElem?_eq_none h]
theorem cov_nil {α : Type} {f : α → Asn} : ∀ {l : List α}, (∀ x ∈ l, f x []) → Cov (l.map f) []
  | [], _ => rfl
  | a :: r, h => ⟨[], [], rfl, h a List.mem_cons_self, cov_nil fun x hx => h x (List.mem_cons_of_mem _ hx)⟩
theorem roRel (s : List (Ro X w)) : RelL X [] w (roR s) (lk' (roL 0 s)) (roL 0 s) w := by
  refine ⟨roL_nd, fun o x => ⟨lk'_mem, lk'_of roL_nd⟩, ?_⟩
  obtain ⟨L, hL, hs⟩ := St.nil w
  cases hL
  refine ⟨[], cov_nil fun p hp => ?_, hs⟩
  obtain ⟨i, r, rfl, h2⟩ := roL_at hp
  refine ⟨rfl, ⟨r.A, r.cap, r.l.length, (X.E r.T).sz⟩, ?_, rfl, rfl, r.f, r.h⟩
  show roR s (0 + i) = _
  unfold roR
  rw [Nat.zero_add, h2]
/-- A law: from what came in to what it answers. -/
theorem CtOk.law {C : Ct X} {F : HLs C.I → Option C.O} (hc : CtOk C F) (s : List (Ro X w)) {h : HLs C.I} {h' : C.O} (hF : F h = some h') {args : List Value}
    (e : (fOs X id (fun _ => 0) C.oi (fAs X id C.ai h).2).1 = roL 0 s) (ha : AVs (roR s) (fAs X id C.ai h).1 args) (hm : Nat.ble s.length C.m = true) :
    Calls X.P C.f args.toArray w fun x w' => ∃ v, x = .returned v ∧ PostL X C.mo [] w (roR s) v w' (C.ao, C.oo) C.al h' :=
  hc h h' hF [] w (roR s) (roL 0 s) args (by rw [e]; exact roRel s) ha fun i hi => roR_none (Nat.le_trans (Nat.le_of_ble_eq_true hm) hi)
theorem CR_row {s : List (Ro X w)} {i : Nat} {r : Ro X w} (h : s[i]? = some r) : CR (roR s) (.sl i) [.slice r.A r.l.length r.cap] := ⟨_, by unfold roR; rw [h], rfl⟩
end
end Go.Proofs.YtlpiomnmaiddbaaGreatDoor.E
