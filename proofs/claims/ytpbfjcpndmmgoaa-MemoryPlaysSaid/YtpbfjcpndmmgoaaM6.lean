/- The engine, the walk and the plain law, part 6. No condition. -/
import Derived.Test.YtpbfjcpndmmgoaaM5
import Derived.ChangeOld
import Derived.Laws.BitsLemmas
import Derived.OpenShut
import Derived.ProofKit
import Derived.ShutString
import Derived.SizedLaws
import Derived.SliceStrings
namespace Go.Proofs.Ytpbfjcpndmmgoaa.E
set_option linter.unusedVariables false
set_option linter.unusedSimpArgs false
open Go Go.RowKit Go.ChangeShapes Go.WideShapes Go.ChangeAt
/-- A row's slice of whole numbers is no longer than its weight allows. -/
theorem sized_ints {H : Type} {enc : TypeId × Value → H} {P : Program} {W : World} {base : Nat} {spare : Nat → Bool} {held : Bool} {t e : TypeId} {k : IntKind} {a : Option Addr} {len cap : Nat} {d : DataW H} {ps : List MemPlace} {ts : List TypeId} {ds : List (DataW H)} {j : Nat}
    (hsz : (DataW.weightsEach P ts ds).all (· ≤ reachBytes) = true) (ht : ts[j]? = some t) (hd : ds[j]? = some d) (hu : P.underlying t = some (.slice e)) (he : P.underlying e = some (.int k)) (hc : P.cellsOf e = 1) {B : Nat} (hB : P.bytesOf e = B)
    (h : DataW.Trod enc P W base spare held t (.slice a len cap) d ps) : len * B ≤ 140737488351232 := by
  obtain ⟨fuel, hf⟩ := h
  rcases open_ints hu he hc hf with ⟨hcs, _⟩ | ⟨x, l, c, zs, hcs, _, hl, _, hz, hx, _, _⟩
  · simp [Value.cells] at hcs
    obtain ⟨rfl, rfl, rfl⟩ := hcs
    simp
  · simp [Value.cells] at hcs
    obtain ⟨rfl, rfl, rfl⟩ := hcs
    obtain ⟨hx, _⟩ := Prod.mk.inj hx
    subst hx
    have z := sized_slice hsz ht hd hu
    rw [hB] at z
    have hl2 : len ≤ zs.length := by
      rw [hz]
      split
      · exact hl
      · exact Nat.le_refl _
    have h1 : (lits (H := H) k (zs.take len)).length + (lits (H := H) k (zs.drop len)).length = zs.length := by
      simp [lits]
      omega
    rw [h1] at z
    exact Nat.le_trans (Nat.mul_le_mul_right _ hl2) z
abbrev In (k : IntKind) (n : Int) : Prop := (Lit.int k n).wf = true
theorem In.lo {k : IntKind} {n : Int} (h : In k n) : k.min ≤ n := by simp only [In, Lit.wf, Bool.and_eq_true, decide_eq_true_eq] at h; exact h.1
theorem In.hi {k : IntKind} {n : Int} (h : In k n) : n ≤ k.max := by simp only [In, Lit.wf, Bool.and_eq_true, decide_eq_true_eq] at h; exact h.2
section
variable {H : Type} {enc : TypeId × Value → H} {P : Program} {w : World} {base b0 : Nat} {spare : Nat → Bool} {held : Bool} {r : Reach} {t e : TypeId} {k : IntKind} {v : Value} {d : DataW H} {ps : List MemPlace}
/-- A slice of whole numbers that came in. -/
theorem open_row {B : Nat} {ts : List TypeId} {ds : List (DataW H)} {j : Nat} (hval : Value.okWide P w r b0 t v) (hd : DataW.Trod enc P w base spare held t v d ps) (ht : P.underlying t = some (.slice e)) (he : P.underlying e = some (.int k)) (hc : P.cellsOf e = 1)
    (hsz : (DataW.weightsEach P ts ds).all (· ≤ reachBytes) = true) (hj : ts[j]? = some t) (hdj : ds[j]? = some d) (hB : P.bytesOf e = B) :
    ∃ A cap l, v = .slice A l.length cap ∧ Rd w (eI k) A cap l ∧ (∀ n ∈ l, In k n) ∧ l.length * B ≤ 140737488351232 := by
  obtain ⟨a, len, cap, rfl⟩ := okWide_slice ht hval
  have hs := sized_ints hsz hj hdj ht he hc hB hd
  obtain ⟨fuel, hf⟩ := hd
  rcases open_ints ht he hc hf with ⟨hcs, _⟩ | ⟨x, l, c, zs, hcs, _, hl, hm, hz, _, hcell, hwz⟩
  · simp [Value.cells] at hcs
    obtain ⟨rfl, rfl, rfl⟩ := hcs
    exact ⟨none, 0, [], rfl, Rd.nil _ _, by simp, by simp⟩
  · simp [Value.cells] at hcs
    obtain ⟨rfl, rfl, rfl⟩ := hcs
    have hle : len ≤ zs.length := by rw [hz]; split <;> omega
    have hlen : (zs.take len).length = len := by simp; omega
    refine ⟨some x, cap, zs.take len, by rw [hlen], ⟨by rw [hlen]; exact hl, fun i y hi => ⟨x, rfl, fun j u hj => ?_⟩⟩, fun n hn => hwz n (List.mem_of_mem_take hn), by rw [hlen]; exact hs⟩
    have hlt : i < (zs.take len).length := (List.getElem?_eq_some_iff.1 hi).1
    have hy : y = zs.getD i 0 := by
      rw [List.getElem?_take] at hi
      split at hi
      · rw [List.getD_eq_getElem?_getD, hi]; rfl
      · cases hi
    cases j with
    | zero =>
      have hu : u = .int k y := by
        have h' : ([Value.int k y] : List Value)[0]? = some u := hj
        exact (Option.some.inj h').symm
      rw [hu, hy]
      simpa [eI] using hcell i (by omega)
    | succ j =>
      have h' : ([Value.int k y] : List Value)[j + 1]? = some u := hj
      simp at h'
end

def numAt (cs : List Value) (i : Nat) : Int := match cs[i]? with
  | some (.int _ n) => n
  | _ => 0
section
variable {H : Type} {enc : TypeId × Value → H} {P : Program} {w : World} {base b0 : Nat} {spare : Nat → Bool} {held : Bool} {r : Reach} {t e : TypeId} {k : IntKind} {v : Value} {d : DataW H} {ps : List MemPlace}
theorem okWide_array {n : Nat} (ht : P.underlying t = some (.array n e)) (h : Value.okWide P w r b0 t v) : ∃ cs, v = .agg cs := by
  unfold Value.okWide at h
  rw [ht] at h
  obtain ⟨cs, h1, _⟩ := h
  exact ⟨cs, h1⟩
/-- The cells of an array of whole numbers. -/
theorem ints_of {n fuel : Nat} {cs : List Value} {x : DataW H × List MemPlace} (ht : P.underlying t = some (.array n e)) (he : P.underlying e = some (.int k)) (hc : P.cellsOf e = 1) (hct : P.cellsOf t = n) (h : DataW.trod enc P w base spare held fuel t cs = some x) :
    ∃ y : Vector Int n, cs = (List.range n).map (fun j => Value.int k (vx 0 y j)) ∧ ∀ j, j < n → In k (vx 0 y j) := by
  obtain ⟨xs, m, _, _, hl, hx, hall⟩ := DataW.trod_array ht h
  have key : ∀ i, i < n → ∃ z, cs[i]? = some (.int k z) ∧ In k z := by
    intro i hi
    have h1 := hall i hi
    rw [List.getElem?_eq_getElem (by omega), hc, Nat.mul_one] at h1
    obtain ⟨z, h2, _, h3⟩ := DataW.trod_int he h1
    refine ⟨z, ?_, h3⟩
    have h4 : ((cs.drop i).take 1)[0]? = some (.int k z) := by rw [h2]; rfl
    simpa using h4
  refine ⟨Vector.ofFn fun i => numAt cs i, ?_, fun j hj => ?_⟩
  · apply List.ext_getElem?
    intro i
    by_cases hi : i < n
    · obtain ⟨z, hz, _⟩ := key i hi
      rw [List.getElem?_map, List.getElem?_range hi, Option.map_some, vx_ofFn hi, hz]
      simp [numAt, hz]
    · rw [List.getElem?_eq_none (by omega), List.getElem?_eq_none (by simp; omega)]
  · obtain ⟨z, hz, hw⟩ := key j hj
    rw [vx_ofFn hj]
    simpa [numAt, hz] using hw
theorem open_arr {n : Nat} (hval : Value.okWide P w r b0 t v) (hd : DataW.Trod enc P w base spare held t v d ps) (ht : P.underlying t = some (.array n e)) (he : P.underlying e = some (.int k)) (hc : P.cellsOf e = 1) (hct : P.cellsOf t = n) :
    ∃ y : Vector Int n, v = .agg ((List.range n).map (fun j => Value.int k (vx 0 y j))).toArray ∧ ∀ j, j < n → In k (vx 0 y j) := by
  obtain ⟨cs, rfl⟩ := okWide_array ht hval
  obtain ⟨fuel, hf⟩ := hd
  obtain ⟨y, h1, h2⟩ := ints_of ht he hc hct hf
  refine ⟨y, ?_, h2⟩
  have h1 : cs.toList = _ := h1
  rw [← h1]
end

theorem w64_id {x : Int} (h0 : -9223372036854775808 ≤ x) (h1 : x ≤ 9223372036854775807) : w64 x = x := by show IntKind.i64.wrap x = x; rw [IntKind.wrap_i64]; omega
theorem w32_id {x : Int} (h0 : -2147483648 ≤ x) (h1 : x ≤ 2147483647) : w32 x = x := by show IntKind.i32.wrap x = x; rw [IntKind.wrap_i32]; omega
theorem wu32_eq (x : Int) : wu32 x = x % 4294967296 := IntKind.wrap_u32 x
theorem wu8_eq (x : Int) : wu8 x = x % 256 := IntKind.wrap_u8 x
theorem wu16_eq (x : Int) : wu16 x = x % 65536 := by simp [wu16, IntKind.wrap, IntKind.bits, IntKind.signed]
theorem wu64_eq (x : Int) : wu64 x = x % 18446744073709551616 := by simp [wu64, IntKind.wrap, IntKind.bits, IntKind.signed]
theorem wu32_id {x : Int} (h0 : 0 ≤ x) (h1 : x ≤ 4294967295) : wu32 x = x := by rw [wu32_eq]; omega
theorem wu8_id {x : Int} (h0 : 0 ≤ x) (h1 : x ≤ 255) : wu8 x = x := by rw [wu8_eq]; omega
theorem wu16_id {x : Int} (h0 : 0 ≤ x) (h1 : x ≤ 65535) : wu16 x = x := by rw [wu16_eq]; omega
def umax : IntKind → Nat
  | .u8 => 256
  | .u16 => 65536
  | .u32 => 4294967296
  | _ => 1
theorem wrap_nat {k : IntKind} {m : Nat} (h : m < umax k) : k.wrap (m : Int) = (m : Int) := by
  cases k <;> simp only [umax] at h
  case u8 => rw [IntKind.wrap_u8]; omega
  case u16 => have := wu16_eq (m : Int); simp only [wu16] at this; rw [this]; omega
  case u32 => rw [IntKind.wrap_u32]; omega
  all_goals (obtain rfl : m = 0 := by omega); rfl
theorem bv_nat {k : IntKind} {x : Int} (h0 : 0 ≤ x) (h1 : x < (umax k : Int)) : (BitVec.ofInt k.bits x).toNat = x.toNat := by
  obtain ⟨n, rfl⟩ := Int.eq_ofNat_of_zero_le h0
  rw [show ((n : Nat) : Int).toNat = n by omega]
  have h1 : n < umax k := by omega
  rw [BitVec.ofInt_natCast, BitVec.toNat_ofNat]
  apply Nat.mod_eq_of_lt
  cases k <;> simp only [umax, IntKind.bits] at h1 ⊢ <;> omega
theorem umax_bits {k : IntKind} (h : 1 < umax k) : 2 ^ k.bits = umax k := by cases k <;> simp [umax, IntKind.bits] at h ⊢
theorem band_nat {k : IntKind} {x y : Int} (hx0 : 0 ≤ x) (hx : x < (umax k : Int)) (hy0 : 0 ≤ y) (hy : y < (umax k : Int)) : band k x y = ((x.toNat &&& y.toNat : Nat) : Int) := by
  unfold band
  rw [BitVec.toNat_and, bv_nat hx0 hx, bv_nat hy0 hy, wrap_nat]
  exact Nat.lt_of_le_of_lt Nat.and_le_left (by omega)
theorem bor_nat {k : IntKind} {x y : Int} (hk : 1 < umax k) (hx0 : 0 ≤ x) (hx : x < (umax k : Int)) (hy0 : 0 ≤ y) (hy : y < (umax k : Int)) : bor k x y = ((x.toNat ||| y.toNat : Nat) : Int) := by
  unfold bor
  rw [BitVec.toNat_or, bv_nat hx0 hx, bv_nat hy0 hy, wrap_nat]
  rw [← umax_bits hk] at hx hy ⊢
  exact Nat.or_lt_two_pow (by omega) (by omega)
theorem bxor_nat {k : IntKind} {x y : Int} (hk : 1 < umax k) (hx0 : 0 ≤ x) (hx : x < (umax k : Int)) (hy0 : 0 ≤ y) (hy : y < (umax k : Int)) : bxor k x y = ((x.toNat ^^^ y.toNat : Nat) : Int) := by
  unfold bxor
  rw [BitVec.toNat_xor, bv_nat hx0 hx, bv_nat hy0 hy, wrap_nat]
  rw [← umax_bits hk] at hx hy ⊢
  exact Nat.xor_lt_two_pow (by omega) (by omega)
theorem bandn_nat {k : IntKind} {x y : Int} (hk : 1 < umax k) (hx0 : 0 ≤ x) (hx : x < (umax k : Int)) (hy0 : 0 ≤ y) (hy : y < (umax k : Int)) : bandn k x y = ((x.toNat &&& (umax k - 1 - y.toNat) : Nat) : Int) := by
  unfold bandn
  rw [BitVec.toNat_and, BitVec.toNat_not, bv_nat hx0 hx, bv_nat hy0 hy, umax_bits hk, wrap_nat]
  exact Nat.lt_of_le_of_lt Nat.and_le_left (by omega)
theorem and_low (x n : Nat) : x &&& (2 ^ n - 1) = x % 2 ^ n := Nat.and_two_pow_sub_one_eq_mod x n
theorem or_high {x y n : Nat} (h : y < 2 ^ n) : 2 ^ n * x ||| y = 2 ^ n * x + y := (Nat.two_pow_add_eq_or_of_lt h x).symm
/-- The lower bits are taken away. -/
theorem and_high (x n m : Nat) (h : x < 2 ^ (n + m)) : x &&& ((2 ^ m - 1) * 2 ^ n) = x / 2 ^ n * 2 ^ n := by
  apply Nat.eq_of_testBit_eq
  intro i
  rw [Nat.testBit_and, Nat.testBit_mul_two_pow, Nat.testBit_mul_two_pow, Nat.testBit_two_pow_sub_one, Nat.testBit_div_two_pow]
  by_cases hi : n ≤ i
  · have e : n + (i - n) = i := by omega
    simp only [hi, decide_true, Bool.true_and, show i - n + n = i by omega]
    by_cases hm : i - n < m
    · simp [hm]
    · have : x.testBit i = false := Nat.testBit_lt_two_pow (Nat.lt_of_lt_of_le h (Nat.pow_le_pow_right (by omega) (by omega)))
      simp [this]
  · simp [hi]
theorem ixg {l : List Int} {d : Int} {i : Int} : ix d l i = l.getD i.toNat d := rfl
/-- A take's length, spelled out. -/
theorem take_min {α : Type} (l : List α) (m : Int) (hm : 0 ≤ m) : l.take (mnn (l.length : Int) m).toNat = l.take m.toNat := by
  unfold mnn
  split
  · rfl
  · rw [List.take_of_length_le (by omega), List.take_of_length_le (by omega)]
theorem mnn_ok (n m : Int) (hm : 0 ≤ m) (hn : 0 ≤ n) : 0 ≤ mnn n m ∧ mnn n m ≤ n := by unfold mnn; split <;> omega
theorem In.u32 {n : Int} (h : In .u32 n) : 0 ≤ n ∧ n ≤ 4294967295 := bounds_u32 h
theorem In.u16 {n : Int} (h : In .u16 n) : 0 ≤ n ∧ n ≤ 65535 := bounds_u16 h
theorem In.u8 {n : Int} (h : In .u8 n) : 0 ≤ n ∧ n ≤ 255 := bounds_u8 h
theorem In.i64 {n : Int} (h : In .i64 n) : -9223372036854775808 ≤ n ∧ n ≤ 9223372036854775807 := bounds_i64 h
theorem In.i32 {n : Int} (h : In .i32 n) : -2147483648 ≤ n ∧ n ≤ 2147483647 := bounds_i32 h
/-- All elements are of some kind. -/
theorem all_getD {l : List Int} {p : Int → Prop} (h : ∀ n ∈ l, p n) {d : Int} (hd : p d) (i : Nat) : p (l.getD i d) := by
  rw [List.getD_eq_getElem?_getD]
  cases hi : l[i]? with
  | none => exact hd
  | some x => exact h x (List.mem_of_getElem? hi)
theorem all_set {l : List Int} {p : Int → Prop} (h : ∀ n ∈ l, p n) {x : Int} (hx : p x) (i : Nat) : ∀ n ∈ l.set i x, p n := by
  intro n hn
  rcases List.mem_or_eq_of_mem_set hn with h1 | h1
  · exact h n h1
  · exact h1 ▸ hx

/-- No part of it weighs more than a memory bears. -/
def Light {H : Type} (P : Program) (t : TypeId) (x : DataW H × List MemPlace) : Prop := ∀ n ∈ x.1.weights P t, n ≤ reachBytes
/-- How values of type t, without addresses, come in. -/
def OpenP {α : Type} (P : Program) (t : TypeId) (E : Enc α) (ok : α → Prop) : Prop :=
  ∀ (H : Type) (enc : TypeId × Value → H) (w : World) (base : Nat) (spare : Nat → Bool) (held : Bool) (fuel : Nat) (cs : List Value) (x : DataW H × List MemPlace), DataW.trod enc P w base spare held fuel t cs = some x → Light P t x → ∃ y, cs = E.enc y ∧ ok y
section
variable {P : Program} {t e : TypeId} {k : IntKind} {α : Type} {E : Enc α} {ok : α → Prop}
theorem openP_int (he : P.underlying t = some (.int k)) : OpenP P t (eI k) (In k) := by
  intro H enc w base spare held fuel cs x h _
  obtain ⟨n, h1, _, h3⟩ := DataW.trod_int he h
  exact ⟨n, h1, h3⟩
theorem openP_bool (he : P.underlying t = some .bool) : OpenP P t eB fun _ => True := by
  intro H enc w base spare held fuel cs x h _
  obtain ⟨n, h1, _⟩ := DataW.trod_bool he h
  exact ⟨n, h1, trivial⟩
theorem openP_str (he : P.underlying t = some .string) : OpenP P t eS fun s => s.size ≤ 140737488351232 := by
  intro H enc w base spare held fuel cs x h hw
  obtain ⟨n, h1, rfl, h3⟩ := DataW.trod_string he h
  refine ⟨n, h1, ?_⟩
  have := hw n.data.toList.length (by simp [DataW.weights])
  rw [Array.length_toList] at this
  exact this
theorem openP_arr {n : Nat} {E : Enc (Vector Int n)} (ht : P.underlying t = some (.array n e)) (he : P.underlying e = some (.int k)) (hc : P.cellsOf e = 1) (hct : P.cellsOf t = n) (hE : ∀ y, E.enc y = (List.range n).map fun j => Value.int k (vx 0 y j)) :
    OpenP P t E fun y => ∀ j, j < n → In k (vx 0 y j) := by
  intro H enc w base spare held fuel cs x h _
  obtain ⟨y, h1, h2⟩ := ints_of ht he hc hct h
  exact ⟨y, by rw [hE, h1], h2⟩
/-- The parts of a struct come in. -/
def Fields {H : Type} (enc : TypeId × Value → H) (P : Program) (w : World) (base : Nat) (spare : Nat → Bool) (held : Bool) (m : Nat) (fs : Array Field) (cs : List Value) : Prop :=
  ∀ (i : Nat) (f : Field), fs[i]? = some f → ∃ y, DataW.trod enc P w base spare held m f.type ((cs.drop f.offset).take (P.cellsOf f.type)) = some y ∧ Light P f.type y
theorem struct_fields {H : Type} {enc : TypeId × Value → H} {w : World} {base : Nat} {spare : Nat → Bool} {held : Bool} {fuel : Nat} {cs : List Value} {x : DataW H × List MemPlace} {fs : Array Field} (ht : P.underlying t = some (.struct fs))
    (h : DataW.trod enc P w base spare held fuel t cs = some x) (hw : Light P t x) : cs.length = P.cellsOf t ∧ ∃ m, Fields enc P w base spare held m fs cs := by
  obtain ⟨xs, m, _, rfl, hl, hlen, hf⟩ := DataW.trod_struct ht h
  refine ⟨hl, m, fun i f hi => ?_⟩
  have hlt : i < xs.length := by rw [hlen]; exact (Array.getElem?_eq_some_iff.1 hi).1
  refine ⟨xs[i], by rw [hf i f hi, List.getElem?_eq_getElem hlt], fun n hn => hw n ?_⟩
  simp only [DataW.weights, ht]
  exact DataW.weights_mem_each (j := i) (t := f.type) (d := xs[i].1) (by simp [hi]) (by simp [hlt]) n hn
section
variable {H : Type} {enc : TypeId × Value → H} {w : World} {base : Nat} {spare : Nat → Bool} {held : Bool} {m : Nat} {cs : List Value} {fs : Array Field} {ft : TypeId} {o n B : Nat}
theorem fieldOpen (hf : Fields enc P w base spare held m fs cs) (i : Nat) (hi : (fs[i]?).map (fun f => (f.type, f.offset, P.cellsOf f.type)) = some (ft, o, n)) (hE : n = E.sz)
    (hop : OpenP P ft E ok) : ∃ y, cs.drop o = E.enc y ++ cs.drop (o + E.sz) ∧ ok y := by
  obtain ⟨f, h1, h2⟩ := Option.map_eq_some_iff.1 hi
  simp only [Prod.mk.injEq] at h2
  obtain ⟨rfl, rfl, h3⟩ := h2
  obtain ⟨x, h4, hw⟩ := hf i f h1
  rw [h3, hE] at h4
  obtain ⟨y, h5, h6⟩ := hop H enc w base spare held m _ _ h4 hw
  refine ⟨y, ?_, h6⟩
  conv => lhs; rw [← List.take_append_drop E.sz (cs.drop f.offset)]
  rw [h5, List.drop_drop]
theorem weights_mem_all : ∀ {l : List (DataW H)} {d : DataW H}, d ∈ l → ∀ n ∈ d.weights P e, n ∈ DataW.weightsAll P e l
  | d0 :: l, d, hd, n, hn => by
    rw [DataW.weightsAll, List.mem_append]
    rcases List.mem_cons.1 hd with rfl | hd
    · exact .inl hn
    · exact .inr (weights_mem_all hd n hn)
/-- A slice comes in. -/
theorem slice_open {fuel : Nat} {x : DataW H × List MemPlace} (ht : P.underlying t = some (.slice e)) (hE : P.cellsOf e = E.sz) (hop : OpenP P e E ok) (hB : P.bytesOf e = B) (h : DataW.trod enc P w base spare held fuel t cs = some x) (hw : Light P t x) :
    ∃ A cap l, cs = [.slice A (List.length l) cap] ∧ Rd w E A cap l ∧ (∀ y ∈ l, ok y) ∧ l.length * B ≤ 140737488351232 := by
  rcases DataW.trod_slice ht h with ⟨rfl, rfl⟩ | ⟨a, len, cap, elems, rest, n, _, rfl, rfl, hb, hl, hm, hlen, hel, _, _⟩
  · exact ⟨none, 0, [], rfl, Rd.nil _ _, by simp, by simp⟩
  have hwl : ∀ d ∈ elems, Light P e d := fun d hd n hn => hw n (by
    simp only [DataW.weights, ht, List.mem_cons, List.mem_append]
    exact .inr (.inl (weights_mem_all (List.mem_map_of_mem hd) n hn)))
  have hB' : len * B ≤ 140737488351232 := by
    have := hw ((elems.length + rest.length) * B) (by simp [DataW.weights, ht, hB])
    rw [hlen] at this
    exact Nat.le_trans (Nat.mul_le_mul_right _ (by omega)) this
  have each : ∀ i, i < len → ∃ y, ok y ∧ ∀ j u, (E.enc y)[j]? = some u → w.cell? (a.add (i * E.sz + j)) = some u := by
    intro i hi
    have h1 := hel i hi
    have hlt : i < elems.length := by omega
    rw [List.getElem?_eq_getElem hlt, Option.bind_eq_some_iff] at h1
    obtain ⟨ci, hci, hti⟩ := h1
    obtain ⟨y, rfl, hy⟩ := hop H enc w base spare held n _ _ hti (hwl _ (List.getElem_mem hlt))
    refine ⟨y, hy, fun j u hj => ?_⟩
    rw [hE] at hci
    obtain ⟨_, hlc, hc⟩ := World.cells?_some hci
    have hjl : j < E.sz := by rw [← E.len y]; exact (List.getElem?_eq_some_iff.1 hj).1
    have := hc j hjl
    rw [add_add'] at this
    rw [this]
    exact hj
  have mk : ∀ k, k ≤ len → ∃ l : List α, l.length = k ∧ (∀ y ∈ l, ok y) ∧ ∀ i y, l[i]? = some y → ∀ j u, (E.enc y)[j]? = some u → w.cell? (a.add (i * E.sz + j)) = some u := by
    intro k
    induction k with
    | zero => intro _; exact ⟨[], rfl, by simp, by intro i y h; cases h⟩
    | succ k ih =>
      intro hk
      obtain ⟨l, h1, h2, h3⟩ := ih (by omega)
      obtain ⟨y, hy, hc⟩ := each k (by omega)
      refine ⟨l ++ [y], by simp [h1], ?_, fun i z hz => ?_⟩
      · intro z hz
        rcases List.mem_append.1 hz with hz | hz
        · exact h2 z hz
        · rw [List.mem_singleton.1 hz]; exact hy
      · by_cases hi : i < l.length
        · rw [List.getElem?_append_left hi] at hz; exact h3 i z hz
        · have hik : i = k := by
            have := (List.getElem?_eq_some_iff.1 hz).1
            simp at this
            omega
          subst hik
          rw [List.getElem?_append_right (by omega), h1, Nat.sub_self] at hz
          simp only [List.getElem?_cons_zero, Option.some.injEq] at hz
          subst hz
          exact hc
  obtain ⟨l, h1, h2, h3⟩ := mk len (Nat.le_refl _)
  exact ⟨some a, cap, l, by rw [h1], ⟨by omega, fun i y hi => ⟨a, rfl, h3 i y hi⟩⟩, h2, by rw [h1]; exact hB'⟩
theorem fieldSlice (hf : Fields enc P w base spare held m fs cs) (i : Nat) (hi : (fs[i]?).map (fun f => (f.type, f.offset, P.cellsOf f.type)) = some (ft, o, 1))
    (ht : P.underlying ft = some (.slice e)) (hE : P.cellsOf e = E.sz) (hop : OpenP P e E ok) (hB : P.bytesOf e = B) : ∃ A cap l, cs.drop o = .slice A (List.length l) cap :: cs.drop (o + 1) ∧ Rd w E A cap l ∧ (∀ y ∈ l, ok y) ∧ l.length * B ≤ 140737488351232 := by
  obtain ⟨f, h1, h2⟩ := Option.map_eq_some_iff.1 hi
  simp only [Prod.mk.injEq] at h2
  obtain ⟨rfl, rfl, h3⟩ := h2
  obtain ⟨x, h4, hw⟩ := hf i f h1
  rw [h3] at h4
  obtain ⟨A, cap, l, h5, h6⟩ := slice_open ht hE hop hB h4 hw
  refine ⟨A, cap, l, ?_, h6⟩
  conv => lhs; rw [← List.take_append_drop 1 (cs.drop f.offset)]
  rw [h5, List.drop_drop]
  rfl
end
theorem okWide_struct {P : Program} {w : World} {r : Reach} {b0 : Nat} {v : Value} {fs : Array Field} (ht : P.underlying t = some (.struct fs)) (h : Value.okWide P w r b0 t v) : ∃ cs, v = .agg cs := by
  unfold Value.okWide at h
  rw [ht] at h
  obtain ⟨cs, h1, _⟩ := h
  exact ⟨cs, h1⟩
theorem light_of {H : Type} {ts : List TypeId} {ds : List (DataW H)} {j : Nat} {d : DataW H} {ps : List MemPlace} (hsz : (DataW.weightsEach P ts ds).all (· ≤ reachBytes) = true) (hj : ts[j]? = some t) (hdj : ds[j]? = some d) : Light P t (d, ps) := fun n hn => by
  simpa using List.all_eq_true.1 hsz _ (DataW.weights_mem_each hj hdj n hn)
theorem open_struct {H : Type} {enc : TypeId × Value → H} {w : World} {base b0 : Nat} {spare : Nat → Bool} {held : Bool} {r : Reach} {v : Value} {d : DataW H} {ps : List MemPlace} {fs : Array Field} (hop : OpenP P t E ok) (ht : P.underlying t = some (.struct fs)) (hval : Value.okWide P w r b0 t v) (hd : DataW.Trod enc P w base spare held t v d ps)
    {ts : List TypeId} {ds : List (DataW H)} {j : Nat} (hsz : (DataW.weightsEach P ts ds).all (· ≤ reachBytes) = true) (hj : ts[j]? = some t) (hdj : ds[j]? = some d) :
    ∃ y, v = .agg (E.enc y).toArray ∧ ok y := by
  obtain ⟨cs, rfl⟩ := okWide_struct ht hval
  obtain ⟨fuel, hf⟩ := hd
  obtain ⟨y, h1, h2⟩ := hop H enc w base spare held fuel _ _ hf (light_of hsz hj hdj)
  refine ⟨y, ?_, h2⟩
  have h1 : cs.toList = _ := h1
  rw [← h1]
/-- A slice that came in. -/
theorem open_rowP {H : Type} {enc : TypeId × Value → H} {w : World} {base b0 : Nat} {spare : Nat → Bool} {held : Bool} {r : Reach} {v : Value} {d : DataW H} {ps : List MemPlace} {B : Nat} {ts : List TypeId} {ds : List (DataW H)} {j : Nat} (hop : OpenP P e E ok) (ht : P.underlying t = some (.slice e)) (hE : P.cellsOf e = E.sz) (hB : P.bytesOf e = B) (hval : Value.okWide P w r b0 t v) (hd : DataW.Trod enc P w base spare held t v d ps)
    (hsz : (DataW.weightsEach P ts ds).all (· ≤ reachBytes) = true) (hj : ts[j]? = some t) (hdj : ds[j]? = some d) :
    ∃ A cap l, v = .slice A (List.length l) cap ∧ Rd w E A cap l ∧ (∀ y ∈ l, ok y) ∧ l.length * B ≤ 140737488351232 := by
  obtain ⟨a, len, cap, rfl⟩ := okWide_slice ht hval
  obtain ⟨fuel, hf⟩ := hd
  obtain ⟨A, c, l, h1, h2⟩ := slice_open ht hE hop hB hf (light_of hsz hj hdj)
  refine ⟨A, c, l, ?_, h2⟩
  simpa [Value.cells] using h1
/-- The fields of a struct that came in. -/
theorem open_fields {H : Type} {enc : TypeId × Value → H} {w : World} {base b0 : Nat} {spare : Nat → Bool} {held : Bool} {r : Reach} {v : Value} {d : DataW H} {ps : List MemPlace} {fs : Array Field} (ht : P.underlying t = some (.struct fs)) (hval : Value.okWide P w r b0 t v) (hd : DataW.Trod enc P w base spare held t v d ps)
    {ts : List TypeId} {ds : List (DataW H)} {j : Nat} (hsz : (DataW.weightsEach P ts ds).all (· ≤ reachBytes) = true) (hj : ts[j]? = some t) (hdj : ds[j]? = some d) :
    ∃ cs : Array Value, v = .agg cs ∧ cs.toList.length = P.cellsOf t ∧ ∃ m, Fields enc P w base spare held m fs cs.toList := by
  obtain ⟨cs, rfl⟩ := okWide_struct ht hval
  obtain ⟨fuel, hf⟩ := hd
  exact ⟨cs, rfl, struct_fields ht hf (light_of hsz hj hdj)⟩
end
end Go.Proofs.Ytpbfjcpndmmgoaa.E
namespace Go.Proofs.Ytpbfjcpndmmgoaa.MP
open Go Go.RowKit Go.Proofs.Ytpbfjcpndmmgoaa.E
def okSrivetlaw05_Call (x : Srivetlaw05_Call) : Prop := In .i64 x.Kind ∧ In .u32 x.At ∧ In .u32 x.X ∧ ((∀ n ∈ x.L, In .u32 n) ∧ x.L.length * 4 ≤ 140737488351232)
end Go.Proofs.Ytpbfjcpndmmgoaa.MP

namespace Go.Proofs.Ytpbfjcpndmmgoaa.MP
set_option linter.unusedVariables false
set_option linter.unusedSimpArgs false
open Go Go.RowKit Go.Proofs.Ytpbfjcpndmmgoaa.E
theorem w64s {x : Int} (h0 : -9000000000000000000 ≤ x) (h1 : x ≤ 9000000000000000000) : w64 x = x := w64_id (by omega) (by omega)
theorem p2 (n : Nat) : ((2 : Int) ^ n) = ((2 ^ n : Nat) : Int) := by rw [Int.natCast_pow]; rfl
theorem shr_nat {k : IntKind} {w i : Nat} (h : i ≤ k.bits) : shr k (w : Int) (i : Int) = ((w / 2 ^ i : Nat) : Int) := by
  unfold shr
  rw [Int.toNat_natCast, Nat.min_eq_left h, p2, Int.fdiv_eq_ediv_of_nonneg _ (Int.natCast_nonneg _)]
  rfl
theorem shl_u32 {w i : Nat} (h : i ≤ 32) (hw : w * 2 ^ i < 4294967296) : shl .u32 (w : Int) (i : Int) = ((w * 2 ^ i : Nat) : Int) := by
  unfold shl
  rw [Int.toNat_natCast, show min i IntKind.u32.bits = i from Nat.min_eq_left h, p2, ← Int.natCast_mul]
  exact wrap_nat (k := .u32) hw
theorem bor_u32 {x y : Nat} (hx : x < 4294967296) (hy : y < 4294967296) : bor .u32 (x : Int) (y : Int) = ((x ||| y : Nat) : Int) := by
  rw [bor_nat (by decide) (by omega) (by simp only [umax]; omega) (by omega) (by simp only [umax]; omega)]
  rfl
theorem bandn_u32 {x y : Nat} (hx : x < 4294967296) (hy : y < 4294967296) : bandn .u32 (x : Int) (y : Int) = ((x &&& (4294967295 - y) : Nat) : Int) := by
  rw [bandn_nat (by decide) (by omega) (by simp only [umax]; omega) (by omega) (by simp only [umax]; omega)]
  rfl
abbrev W (x : Int) : Prop := 0 ≤ x ∧ x ≤ 4294967295
def sgn (a : Int) : Int := if a ≥ 2147483648 then a - 4294967296 else a
theorem w32_sgn {a : Int} (a0 : 0 ≤ a) (a1 : a ≤ 4294967295) : w64 (w32 a) = sgn a := by
  have e : w32 a = (a + 2147483648) % 4294967296 - 2147483648 := IntKind.wrap_i32 a
  rw [e, w64s (by omega) (by omega)]
  unfold sgn
  split <;> omega
theorem sgn_in {a : Int} (a0 : 0 ≤ a) (a1 : a ≤ 4294967295) : -2147483648 ≤ sgn a ∧ sgn a ≤ 2147483647 := by unfold sgn; split <;> omega
/-! ### shifts -/
end Go.Proofs.Ytpbfjcpndmmgoaa.MP
namespace Go.Proofs.Ytpbfjcpndmmgoaa.MP
set_option linter.unusedVariables false
set_option linter.unusedSimpArgs false
open Go Go.RowKit Go.Proofs.Ytpbfjcpndmmgoaa.E
/-- The j-th byte of a word. -/
def byt (x : Int) (j : Nat) : Int := x / ((256 ^ j : Nat) : Int) % 256
/-- Both memories hold these words. -/
structure MR (L : List Int) (m : Smemory_Memory) (y : Srivetref05_Memory) : Prop where
  n : m.n = (L.length : Int)
  le : L.length ≤ 4096
  w : ∀ i, i < L.length → vx 0 m.w i = L.getD i 0
  ok : ∀ i, i < L.length → W (L.getD i 0)
  len : y.B.length = 4 * L.length
  b : ∀ p, p < 4 * L.length → y.B.getD p 0 = byt (L.getD (p / 4) 0) (p % 4)
section
variable {L : List Int} {m : Smemory_Memory} {y : Srivetref05_Memory}
/-- How an address stands: 0, or a trap. -/
def trapS (L : List Int) (a : Int) (al : Bool) : Int := if al = true ∧ a % 4 ≠ 0 then 4 else if a / 4 ≥ (L.length : Int) then 3 else 0
theorem at_is (h : MR L m y) {a : Int} (ha : W a) {al : Int} (hal : al = 4 ∨ al = 1) : memory_Memory_at m a al = some (if trapS L a (decide (al = 4)) = 0 then .inr (a / 4, m) else .inl (trapS L a (decide (al = 4)), m)) := by
  have e : wu32 (Int.tdiv a 4) = a / 4 := by rw [Int.tdiv_eq_ediv_of_nonneg ha.1, wu32_id (by omega) (by have := ha.2; omega)]
  have hl := h.le
  unfold memory_Memory_at
  rw [if_pos (by omega), e, w64s (by have := ha.1; omega) (by have := ha.2; omega), h.n, Int.tmod_eq_emod_of_nonneg ha.1]
  unfold trapS
  rcases hal with rfl | rfl
  · by_cases h1 : a % 4 = 0
    · rw [if_pos h1]
      by_cases h2 : a / 4 ≥ (L.length : Int)
      · rw [if_pos h2]; simp [h1, h2]
      · rw [if_neg h2, if_pos (by have := ha.1; omega)]; simp [h1, h2]
    · rw [if_neg h1]; simp [h1]
  · rw [if_pos (Int.emod_one a)]
    by_cases h2 : a / 4 ≥ (L.length : Int)
    · rw [if_pos h2]; simp [h2]
    · rw [if_neg h2, if_pos (by have := ha.1; omega)]; simp [h2]
/-- What is loaded. -/
def ldW (L : List Int) (a : Int) : Int × Int := if trapS L a true = 0 then (L.getD (a / 4).toNat 0, 0) else (0, trapS L a true)
theorem trap_lt {a : Int} {al : Bool} (ha : W a) (h : trapS L a al = 0) : (a / 4).toNat < L.length := by
  unfold trapS at h
  split at h
  · omega
  · split at h
    · omega
    · have := ha.1; omega
theorem word_is (h : MR L m y) {a : Int} (ha : W a) : memory_Memory_Word m a = some ((ldW L a).1, (ldW L a).2, m) := by
  unfold memory_Memory_Word ldW
  rw [at_is h ha (.inl rfl)]
  by_cases ht : trapS L a true = 0
  · simp only [decide_true, ht, if_true, Option.bind_some]
    rw [h.w _ (trap_lt ha ht)]
  · simp only [decide_true, ht, if_false, Option.bind_some]
theorem reftrap_is (h : MR L m y) {a : Int} (ha : W a) (al : Bool) : rivetref05_Memory_trap y a al = some (trapS L a al, y) := by
  have hl := h.le
  have hlen : (y.B.length : Int) = 4 * L.length := by have := h.len; omega
  have hj : rivetref05_Memory_trap.j1 a y = some (if a / 4 ≥ (L.length : Int) then 3 else 0, y) := by
    unfold rivetref05_Memory_trap.j1
    rw [w64s (by have := ha.1; omega) (by have := ha.2; omega), hlen]
    by_cases h2 : a / 4 ≥ (L.length : Int)
    · rw [if_pos (by omega), if_pos h2]
    · rw [if_neg (by omega), if_neg h2]
  unfold rivetref05_Memory_trap trapS
  rw [hj, Int.tmod_eq_emod_of_nonneg ha.1]
  cases al
  · simp
  · by_cases h1 : a % 4 = 0 <;> simp [h1]
theorem cut_ix {B : List Int} {k j n : Nat} (hj : j < n) : ix 0 (List.drop k (List.take (k + n) B)) (j : Int) = B.getD (k + j) 0 := by
  show (List.drop k (List.take (k + n) B)).getD (j : Int).toNat 0 = _
  rw [Int.toNat_natCast, List.getD_eq_getElem?_getD, List.getD_eq_getElem?_getD, List.getElem?_drop, List.getElem?_take, if_pos (by omega)]
theorem byt_lt (x : Int) (j : Nat) : 0 ≤ byt x j ∧ byt x j ≤ 255 := by unfold byt; omega
theorem byt_sum {x : Int} (h : W x) : byt x 0 + byt x 1 * 256 + byt x 2 * 65536 + byt x 3 * 16777216 = x := by
  have h1 := h.1
  have h2 := h.2
  unfold byt
  simp only [show (256 : Nat) ^ 0 = 1 by decide, show (256 : Nat) ^ 1 = 256 by decide, show (256 : Nat) ^ 2 = 65536 by decide, show (256 : Nat) ^ 3 = 16777216 by decide]
  omega
theorem get_word (h : MR L m y) {k : Nat} (hk : k < L.length) : rivetref05_Memory_get y (k : Int) = some (L.getD k 0, y) := by
  have hl := h.le
  have hlen : (y.B.length : Int) = 4 * L.length := by have := h.len; omega
  have e0 : w64 (4 * (k : Int)) = ((4 * k : Nat) : Int) := by rw [w64s (by omega) (by omega)]; omega
  have e1 : w64 (((4 * k : Nat) : Int) + 4) = ((4 * k + 4 : Nat) : Int) := by rw [w64s (by omega) (by omega)]; omega
  have hc : (List.drop (4 * k) (List.take (4 * k + 4) y.B)).length = 4 := by rw [List.length_drop, List.length_take, h.len]; omega
  unfold rivetref05_Memory_get
  rw [e0, e1, Int.toNat_natCast, Int.toNat_natCast, hc, if_pos (by omega), if_pos (by omega), if_pos (by omega), if_pos (by omega), if_pos (by omega)]
  have x0 : ix 0 (List.drop (4 * k) (List.take (4 * k + 4) y.B)) 0 = byt (L.getD k 0) 0 := (cut_ix (j := 0) (by omega)).trans ((h.b _ (by omega)).trans (by rw [show (4 * k + 0) / 4 = k by omega, show (4 * k + 0) % 4 = 0 by omega]))
  have x1 : ix 0 (List.drop (4 * k) (List.take (4 * k + 4) y.B)) 1 = byt (L.getD k 0) 1 := (cut_ix (j := 1) (by omega)).trans ((h.b _ (by omega)).trans (by rw [show (4 * k + 1) / 4 = k by omega, show (4 * k + 1) % 4 = 1 by omega]))
  have x2 : ix 0 (List.drop (4 * k) (List.take (4 * k + 4) y.B)) 2 = byt (L.getD k 0) 2 := (cut_ix (j := 2) (by omega)).trans ((h.b _ (by omega)).trans (by rw [show (4 * k + 2) / 4 = k by omega, show (4 * k + 2) % 4 = 2 by omega]))
  have x3 : ix 0 (List.drop (4 * k) (List.take (4 * k + 4) y.B)) 3 = byt (L.getD k 0) 3 := (cut_ix (j := 3) (by omega)).trans ((h.b _ (by omega)).trans (by rw [show (4 * k + 3) / 4 = k by omega, show (4 * k + 3) % 4 = 3 by omega]))
  rw [x0, x1, x2, x3]
  have hs := byt_sum (h.ok k hk)
  have hw := h.ok k hk
  have y0 := byt_lt (L.getD k 0) 0; have y1 := byt_lt (L.getD k 0) 1; have y2 := byt_lt (L.getD k 0) 2; have y3 := byt_lt (L.getD k 0) 3
  simp only [wu32_eq]
  refine congrArg some (Prod.ext ?_ rfl)
  have w1 := hw.1; have w2 := hw.2
  simp only
  omega
theorem refword_is (h : MR L m y) {a : Int} (ha : W a) : rivetref05_Memory_Word y a = some ((ldW L a).1, (ldW L a).2, y) := by
  unfold rivetref05_Memory_Word ldW
  rw [reftrap_is h ha]
  simp only [Option.bind_some]
  by_cases ht : trapS L a true = 0
  · have hlt := trap_lt ha ht
    have e : w64 (Int.tdiv (w64 a) 4) = (((a / 4).toNat : Nat) : Int) := by
      have h1 := ha.1; have h2 := ha.2
      rw [w64s (x := a) (by omega) (by omega), Int.tdiv_eq_ediv_of_nonneg h1, w64s (by omega) (by omega)]; omega
    rw [if_pos ht, if_pos ht, e, get_word h hlt, ht]
    rfl
  · rw [if_neg ht, if_neg ht]
end
end Go.Proofs.Ytpbfjcpndmmgoaa.MP
namespace Go.Proofs.Ytpbfjcpndmmgoaa.MP
set_option linter.unusedVariables false
set_option linter.unusedSimpArgs false
open Go Go.RowKit Go.Proofs.Ytpbfjcpndmmgoaa.E
section
variable {L : List Int} {m : Smemory_Memory} {y : Srivetref05_Memory}
theorem getD_set (l : List Int) (i j : Nat) (x : Int) (h : i < l.length) : (l.set i x).getD j 0 = if j = i then x else l.getD j 0 := by
  rw [List.getD_eq_getElem?_getD, List.getD_eq_getElem?_getD, List.getElem?_set]
  by_cases e : i = j
  · subst e; rw [if_pos rfl, if_pos h, if_pos rfl]; rfl
  · rw [if_neg e, if_neg (fun h => e h.symm)]
/-- What is stored. -/
def stL (L : List Int) (a x : Int) : List Int := L.set (a / 4).toNat x
/-- Four bytes of one word. -/
theorem set_word (h : MR L m y) {k : Nat} (hk : k < L.length) {x : Int} (hx : W x) : ∃ y', rivetref05_Memory_set y (k : Int) x = some y' ∧ MR (L.set k x) ⟨vset m.w k x, m.n⟩ y' := by
  have hl := h.le
  have hlen := h.len
  have hx1 := hx.1; have hx2 := hx.2
  have step : ∀ (j : Nat) (v : Int) (B : List Int), j < 4 → W v → B.length = y.B.length → loopO rivetref05_Memory_set.b1 ((k : Int), v, (j : Int), ⟨B⟩) = loopO rivetref05_Memory_set.b1 ((k : Int), v / 256, ((j + 1 : Nat) : Int), ⟨B.set (4 * k + j) (v % 256)⟩) := by
    intro j v B hj hv hB
    have hv1 := hv.1; have hv2 := hv.2
    refine loopO_next ?_
    simp only [rivetref05_Memory_set.b1]
    have e0 : w64 (4 * (k : Int)) = ((4 * k : Nat) : Int) := by rw [w64s (by omega) (by omega)]; omega
    have e1 : w64 (((4 * k : Nat) : Int) + (j : Int)) = ((4 * k + j : Nat) : Int) := by rw [w64s (by omega) (by omega)]; omega
    rw [if_pos (by omega), e0, e1, if_pos (by omega), w64s (by omega) (by omega), Int.tdiv_eq_ediv_of_nonneg hv1, Int.tmod_eq_emod_of_nonneg hv1, wu32_id (by omega) (by omega), wu8_id (by omega) (by omega), Int.toNat_natCast]
    rfl
  have s0 := step 0 x y.B (by omega) hx rfl
  have s1 := step 1 (x / 256) (y.B.set (4 * k + 0) (x % 256)) (by omega) ⟨by omega, by omega⟩ (by simp)
  have s2 := step 2 (x / 256 / 256) ((y.B.set (4 * k + 0) (x % 256)).set (4 * k + 1) (x / 256 % 256)) (by omega) ⟨by omega, by omega⟩ (by simp)
  have s3 := step 3 (x / 256 / 256 / 256) (((y.B.set (4 * k + 0) (x % 256)).set (4 * k + 1) (x / 256 % 256)).set (4 * k + 2) (x / 256 / 256 % 256)) (by omega) ⟨by omega, by omega⟩ (by simp)
  have s4 : ∀ v B, loopO rivetref05_Memory_set.b1 ((k : Int), v, ((3 + 1 : Nat) : Int), ⟨B⟩) = some (⟨B⟩ : Srivetref05_Memory) := by
    intro v B
    refine loopO_done ?_
    simp only [rivetref05_Memory_set.b1]
    rw [if_neg (by omega)]
  have e := (((s0.trans s1).trans s2).trans s3).trans (s4 _ _)
  refine ⟨_, by unfold rivetref05_Memory_set; rw [show (y : Srivetref05_Memory) = ⟨y.B⟩ from rfl, show (0 : Int) = ((0 : Nat) : Int) from rfl, e]; rfl, ?_⟩
  refine ⟨by rw [h.n]; simp, by simpa using h.le, fun i hi => ?_, fun i hi => ?_, by simp [h.len], fun p hp => ?_⟩
  · have hi : i < L.length := by simpa using hi
    show vx 0 (vset m.w k x) i = _
    rw [vx_vset (by omega), getD_set _ _ _ _ hk, h.w i hi]
  · have hi : i < L.length := by simpa using hi
    rw [getD_set _ _ _ _ hk]
    split
    · exact hx
    · exact h.ok i hi
  · have hp : p < 4 * L.length := by simpa using hp
    show List.getD ((((y.B.set (4 * k + 0) (x % 256)).set (4 * k + 1) (x / 256 % 256)).set (4 * k + 2) (x / 256 / 256 % 256)).set (4 * k + 3) (x / 256 / 256 / 256 % 256)) p 0 = _
    rw [getD_set _ _ _ _ (by simp; omega), getD_set _ _ _ _ (by simp; omega), getD_set _ _ _ _ (by simp; omega), getD_set _ _ _ _ (by omega), getD_set _ _ _ _ hk]
    have hd : p / 4 = k ↔ (p = 4 * k + 0 ∨ p = 4 * k + 1 ∨ p = 4 * k + 2 ∨ p = 4 * k + 3) := by omega
    by_cases hpk : p / 4 = k
    · rw [if_pos hpk]
      unfold byt
      rcases hd.1 hpk with rfl | rfl | rfl | rfl
      · rw [if_neg (by omega), if_neg (by omega), if_neg (by omega), if_pos rfl, show (4 * k + 0) % 4 = 0 by omega]; simp
      · rw [if_neg (by omega), if_neg (by omega), if_pos rfl, show (4 * k + 1) % 4 = 1 by omega]; simp
      · rw [if_neg (by omega), if_pos rfl, show (4 * k + 2) % 4 = 2 by omega, show (256 : Nat) ^ 2 = 65536 by decide]; omega
      · rw [if_pos rfl, show (4 * k + 3) % 4 = 3 by omega, show (256 : Nat) ^ 3 = 16777216 by decide]; omega
    · rw [if_neg hpk, if_neg (by omega), if_neg (by omega), if_neg (by omega), if_neg (by omega)]
      exact h.b p hp
/-- A word stored. -/
def swL (L : List Int) (a x : Int) : List Int := if trapS L a true = 0 then L.set (a / 4).toNat x else L
theorem setword_is (h : MR L m y) {a x : Int} (ha : W a) (hx : W x) : ∃ m' y', memory_Memory_SetWord m a x = some (trapS L a true, m') ∧ rivetref05_Memory_SetWord y a x = some (trapS L a true, y') ∧ MR (swL L a x) m' y' := by
  unfold memory_Memory_SetWord rivetref05_Memory_SetWord swL
  rw [at_is h ha (.inl rfl), reftrap_is h ha]
  simp only [Option.bind_some, decide_true]
  by_cases ht : trapS L a true = 0
  · have hlt := trap_lt ha ht
    have e : w64 (Int.tdiv (w64 a) 4) = (((a / 4).toNat : Nat) : Int) := by
      have h1 := ha.1; have h2 := ha.2
      rw [w64s (x := a) (by omega) (by omega), Int.tdiv_eq_ediv_of_nonneg h1, w64s (by omega) (by omega)]; omega
    obtain ⟨y', h1, h2⟩ := set_word h hlt hx
    refine ⟨⟨vset m.w (a / 4).toNat x, m.n⟩, y', by simp only [ht, if_true], ?_, by rw [if_pos ht]; exact h2⟩
    rw [if_pos ht, e, h1]
    rfl
  · exact ⟨m, y, by simp only [ht, if_false], by rw [if_neg ht], by rw [if_neg ht]; exact h⟩
end
end Go.Proofs.Ytpbfjcpndmmgoaa.MP
namespace Go.Proofs.Ytpbfjcpndmmgoaa.MP
set_option linter.unusedVariables false
set_option linter.unusedSimpArgs false
open Go Go.RowKit Go.Proofs.Ytpbfjcpndmmgoaa.E
section
variable {L : List Int} {m : Smemory_Memory} {y : Srivetref05_Memory}
/-- A byte that is loaded. -/
def ldB (L : List Int) (a : Int) : Int × Int := if trapS L a false = 0 then (byt (L.getD (a / 4).toNat 0) (a % 4).toNat, 0) else (0, trapS L a false)
theorem sh_is {a : Int} (ha : W a) : wu32 (Int.tmod a 4 * 8) = (((a % 4).toNat * 8 : Nat) : Int) := by
  have h1 := ha.1
  rw [Int.tmod_eq_emod_of_nonneg h1, wu32_id (by omega) (by omega)]
  omega
theorem p256 (j : Nat) : 2 ^ (j * 8) = 256 ^ j := by rw [Nat.mul_comm, Nat.pow_mul]
theorem byte_is (h : MR L m y) {a : Int} (ha : W a) : memory_Memory_Byte m a = some ((ldB L a).1, (ldB L a).2, m) := by
  unfold memory_Memory_Byte ldB
  rw [at_is h ha (.inr rfl)]
  have e : decide ((1 : Int) = 4) = false := rfl
  rw [e]
  by_cases ht : trapS L a false = 0
  · have hlt := trap_lt ha ht
    simp only [ht, if_true, Option.bind_some]
    rw [sh_is ha, if_pos (by omega), h.w _ hlt]
    have hw := h.ok _ hlt
    generalize L.getD (a / 4).toNat 0 = x at *
    obtain ⟨n, rfl⟩ := Int.eq_ofNat_of_zero_le hw.1
    have hj : (a % 4).toNat < 4 := by have := ha.1; omega
    generalize (a % 4).toNat = j at *
    rw [shr_nat (k := .u32) (by simp only [IntKind.bits]; omega), wu8_eq, p256]
    refine congrArg some (Prod.ext ?_ rfl)
    unfold byt
    simp only
    rw [Int.natCast_ediv]
  · simp only [ht, if_false, Option.bind_some]
theorem refbyte_is (h : MR L m y) {a : Int} (ha : W a) : rivetref05_Memory_Byte y a = some ((ldB L a).1, (ldB L a).2, y) := by
  have h1 := ha.1
  unfold rivetref05_Memory_Byte ldB
  rw [reftrap_is h ha]
  simp only [Option.bind_some]
  by_cases ht : trapS L a false = 0
  · have hlt := trap_lt ha ht
    have hlen := h.len
    rw [if_pos ht, if_pos ht, if_pos (by omega), ht]
    have e : ix 0 y.B a = byt (L.getD (a / 4).toNat 0) (a % 4).toNat := by
      show y.B.getD a.toNat 0 = _
      rw [h.b _ (by omega), show a.toNat / 4 = (a / 4).toNat by omega, show a.toNat % 4 = (a % 4).toNat by omega]
    rw [e]
  · rw [if_neg ht, if_neg ht]
end
end Go.Proofs.Ytpbfjcpndmmgoaa.MP
namespace Go.Proofs.Ytpbfjcpndmmgoaa.MP
set_option linter.unusedVariables false
set_option linter.unusedSimpArgs false
open Go Go.RowKit Go.Proofs.Ytpbfjcpndmmgoaa.E
def setb (x b k : Int) : Int := bor .u32 (bandn .u32 x (shl .u32 255 k)) (shl .u32 (wu32 b) k)
def sb (n c j : Nat) : Nat := (n &&& (4294967295 - 255 * 2 ^ j)) ||| (c * 2 ^ j)
theorem mask_bit : ∀ j, j = 0 ∨ j = 8 ∨ j = 16 ∨ j = 24 → ∀ i, i < 32 → (4294967295 - 255 * 2 ^ j).testBit i = !decide (j ≤ i ∧ i < j + 8) := by
  rintro j (rfl | rfl | rfl | rfl) <;> decide
theorem sb_bit {n c j : Nat} (hj : j = 0 ∨ j = 8 ∨ j = 16 ∨ j = 24) (hn : n < 2 ^ 32) (hc : c < 2 ^ 8) (i : Nat) : (sb n c j).testBit i = if j ≤ i ∧ i < j + 8 then c.testBit (i - j) else n.testBit i := by
  unfold sb
  rw [Nat.testBit_or, Nat.testBit_and, Nat.testBit_mul_two_pow]
  by_cases h : j ≤ i ∧ i < j + 8
  · rw [if_pos h, mask_bit j hj i (by omega)]
    simp [h.1, h.2]
  · rw [if_neg h]
    have hcb : (decide (j ≤ i) && c.testBit (i - j)) = false := by
      by_cases h1 : j ≤ i
      · have : c.testBit (i - j) = false := Nat.testBit_lt_two_pow (Nat.lt_of_lt_of_le hc (Nat.pow_le_pow_right (by omega) (by omega)))
        simp [this]
      · simp [h1]
    rw [hcb, Bool.or_false]
    by_cases h2 : i < 32
    · rw [mask_bit j hj i h2]
      simp [h]
    · have : n.testBit i = false := Nat.testBit_lt_two_pow (Nat.lt_of_lt_of_le hn (Nat.pow_le_pow_right (by omega) (by omega)))
      simp [this]
theorem sb_get {n c j k : Nat} (hj : j = 0 ∨ j = 8 ∨ j = 16 ∨ j = 24) (hk : k = 0 ∨ k = 8 ∨ k = 16 ∨ k = 24) (hn : n < 2 ^ 32) (hc : c < 2 ^ 8) : sb n c j / 2 ^ k % 2 ^ 8 = if k = j then c else n / 2 ^ k % 2 ^ 8 := by
  apply Nat.eq_of_testBit_eq
  intro i
  rw [Nat.testBit_mod_two_pow, Nat.testBit_div_two_pow, sb_bit hj hn hc]
  by_cases hi : i < 8
  · by_cases e : k = j
    · subst e
      rw [if_pos rfl, if_pos (by omega), show i + k - k = i by omega]
      simp [hi]
    · rw [if_neg e, if_neg (by omega), Nat.testBit_mod_two_pow, Nat.testBit_div_two_pow]
  · have h1 : (decide (i < 8)) = false := by simp [hi]
    rw [h1, Bool.false_and]
    symm
    split
    · exact Nat.testBit_lt_two_pow (Nat.lt_of_lt_of_le hc (Nat.pow_le_pow_right (by omega) (by omega)))
    · rw [Nat.testBit_mod_two_pow, h1, Bool.false_and]
theorem sb_lt {n c j : Nat} (hj : j = 0 ∨ j = 8 ∨ j = 16 ∨ j = 24) (hc : c < 2 ^ 8) : sb n c j < 2 ^ 32 := by
  unfold sb
  apply Nat.or_lt_two_pow
  · exact Nat.lt_of_le_of_lt Nat.and_le_right (by omega)
  · rcases hj with rfl | rfl | rfl | rfl <;> omega
theorem setb_nat {n c k : Nat} (hn : n < 4294967296) (hc : c < 256) (hk : k < 4) : setb (n : Int) (c : Int) ((8 * k : Nat) : Int) = (sb n c (8 * k) : Nat) := by
  have hp : 2 ^ (8 * k) ≤ 16777216 := by
    have hk : k = 0 ∨ k = 1 ∨ k = 2 ∨ k = 3 := by omega
    rcases hk with rfl | rfl | rfl | rfl <;> decide
  have h1 : c * 2 ^ (8 * k) ≤ 255 * 16777216 := Nat.mul_le_mul (by omega) hp
  unfold setb sb
  rw [wu32_id (by omega) (by omega)]
  show bor .u32 (bandn .u32 (n : Int) (shl .u32 ((255 : Nat) : Int) ((8 * k : Nat) : Int))) _ = _
  rw [shl_u32 (by omega) (by omega), shl_u32 (by omega) (by omega), bandn_u32 hn (by omega), bor_u32 (Nat.lt_of_le_of_lt Nat.and_le_left hn) (by omega)]
theorem byt_nat {n k : Nat} : byt (n : Int) k = ((n / 2 ^ (8 * k) % 2 ^ 8 : Nat) : Int) := by
  unfold byt
  rw [Nat.mul_comm 8 k, p256, show (2 : Nat) ^ 8 = 256 by decide]
  omega
theorem setb_byt {x b : Int} {j k : Nat} (hx : W x) (hb : 0 ≤ b ∧ b ≤ 255) (hj : j < 4) (hk : k < 4) : W (setb x b ((j * 8 : Nat) : Int)) ∧ byt (setb x b ((j * 8 : Nat) : Int)) k = if k = j then b else byt x k := by
  obtain ⟨n, rfl⟩ := Int.eq_ofNat_of_zero_le hx.1
  obtain ⟨c, rfl⟩ := Int.eq_ofNat_of_zero_le hb.1
  have hn : n < 4294967296 := by have := hx.2; omega
  have hc : c < 256 := by have := hb.2; omega
  rw [Nat.mul_comm j 8, setb_nat hn hc hj]
  have hlt : sb n c (8 * j) < 2 ^ 32 := sb_lt (by omega) hc
  have e32 : (2 : Nat) ^ 32 = 4294967296 := by decide
  refine ⟨⟨by omega, by omega⟩, ?_⟩
  rw [byt_nat, sb_get (by omega) (by omega) (by omega) hc, byt_nat]
  by_cases h : k = j
  · rw [if_pos h, if_pos (by omega)]
  · rw [if_neg h, if_neg (by omega)]
section
variable {L : List Int} {m : Smemory_Memory} {y : Srivetref05_Memory}
/-- A byte stored. -/
def sbL (L : List Int) (a x : Int) : List Int := if trapS L a false = 0 then L.set (a / 4).toNat (setb (L.getD (a / 4).toNat 0) x (((a % 4).toNat * 8 : Nat) : Int)) else L
theorem setbyte_is (h : MR L m y) {a x : Int} (ha : W a) (hx : 0 ≤ x ∧ x ≤ 255) : ∃ m' y', memory_Memory_SetByte m a x = some (trapS L a false, m') ∧ rivetref05_Memory_SetByte y a x = some (trapS L a false, y') ∧ MR (sbL L a x) m' y' := by
  have h1 := ha.1
  unfold memory_Memory_SetByte rivetref05_Memory_SetByte sbL
  rw [at_is h ha (.inr rfl), reftrap_is h ha]
  have e : decide ((1 : Int) = 4) = false := rfl
  rw [e]
  simp only [Option.bind_some]
  by_cases ht : trapS L a false = 0
  · have hlt := trap_lt ha ht
    have hlen := h.len
    have hw := h.ok _ hlt
    have hj : (a % 4).toNat < 4 := by omega
    refine ⟨⟨vset m.w (a / 4).toNat (setb (L.getD (a / 4).toNat 0) x (((a % 4).toNat * 8 : Nat) : Int)), m.n⟩, ⟨y.B.set a.toNat x⟩, ?_, ?_, ?_⟩
    · simp only [ht, if_true]
      rw [sh_is ha, if_pos (by omega), if_pos (by omega), h.w _ hlt]
      rfl
    · rw [if_pos ht, if_pos (by omega)]
    · rw [if_pos ht]
      refine ⟨by rw [h.n]; simp, by simpa using h.le, fun i hi => ?_, fun i hi => ?_, by simp [h.len], fun p hp => ?_⟩
      · have hi : i < L.length := by simpa using hi
        have hl := h.le
        show vx 0 (vset m.w (a / 4).toNat _) i = _
        rw [vx_vset (by omega), getD_set _ _ _ _ hlt, h.w i hi]
      · have hi : i < L.length := by simpa using hi
        rw [getD_set _ _ _ _ hlt]
        split
        · exact (setb_byt hw hx hj (k := 0) (by omega)).1
        · exact h.ok i hi
      · have hp : p < 4 * L.length := by simpa using hp
        show (y.B.set a.toNat x).getD p 0 = _
        rw [getD_set _ _ _ _ (by omega), getD_set _ _ _ _ hlt]
        by_cases hq : p / 4 = (a / 4).toNat
        · rw [if_pos hq, (setb_byt hw hx hj (k := p % 4) (by omega)).2]
          by_cases hr : p = a.toNat
          · rw [if_pos hr, if_pos (by omega)]
          · rw [if_neg hr, if_neg (by omega), h.b p hp, hq]
        · rw [if_neg hq, if_neg (by omega)]
          exact h.b p hp
  · exact ⟨m, y, by simp only [ht, if_false], by rw [if_neg ht], by rw [if_neg ht]; exact h⟩
end
end Go.Proofs.Ytpbfjcpndmmgoaa.MP
namespace Go.Proofs.Ytpbfjcpndmmgoaa.MP
set_option linter.unusedVariables false
set_option linter.unusedSimpArgs false
open Go Go.RowKit Go.Proofs.Ytpbfjcpndmmgoaa.E
theorem rep_getD (n i : Nat) : (List.replicate n (0 : Int)).getD i 0 = 0 := by
  rw [List.getD_eq_getElem?_getD, List.getElem?_replicate]
  split <;> rfl
theorem new_is {n : Nat} (h : n ≤ 4096) : memory_New (n : Int) = some (.inr ⟨Vector.replicate 4096 0, n⟩) ∧ rivetref05_New (n : Int) = some (.inr ⟨List.replicate (4 * n) 0⟩) ∧ MR (List.replicate n 0) ⟨Vector.replicate 4096 0, n⟩ ⟨List.replicate (4 * n) 0⟩ := by
  refine ⟨?_, ?_, ?_⟩
  · unfold memory_New
    rw [if_neg (by omega), if_neg (by omega)]
  · unfold rivetref05_New
    have e : w64 (4 * (n : Int)) = ((4 * n : Nat) : Int) := by rw [w64s (by omega) (by omega)]; omega
    rw [if_neg (by omega), if_neg (by omega), e, if_pos (by omega), Int.toNat_natCast]
  · refine ⟨by simp, by simpa using h, fun i hi => ?_, fun i hi => ?_, by simp, fun p hp => ?_⟩
    · have hi : i < n := by simpa using hi
      rw [rep_getD]
      show (Vector.replicate 4096 (0 : Int)).toList.getD i 0 = 0
      rw [Vector.toList_replicate, rep_getD]
    · rw [rep_getD]; exact ⟨by simp, by simp⟩
    · rw [rep_getD, rep_getD]
      unfold byt
      simp
section
variable {L : List Int} {m : Smemory_Memory} {y : Srivetref05_Memory}
/-- Words set at the head. -/
theorem refset_loop {l : List Int} (hl : ∀ n ∈ l, W n) : ∀ (r i : Nat) {L : List Int} {m : Smemory_Memory} {y : Srivetref05_Memory}, MR L m y → l.length ≤ L.length → i + r = l.length →
    ∃ L' m' y', loopO rivetref05_Memory_Place.b1 (0, (i : Int), y, l) = some y' ∧ MR L' m' y' ∧ m'.n = m.n ∧ L'.length = L.length ∧ ∀ j, L'.getD j 0 = if i ≤ j ∧ j < l.length then l.getD j 0 else L.getD j 0
  | 0, i, L, m, y, h, hle, e => by
    refine ⟨L, m, y, loopO_done ?_, h, rfl, rfl, fun j => by rw [if_neg (by omega)]⟩
    simp only [rivetref05_Memory_Place.b1]
    rw [if_neg (by omega)]
  | r + 1, i, L, m, y, h, hle, e => by
    have hL := h.le
    have hx : W (ix 0 l (i : Int)) := by
      show W (l.getD (i : Int).toNat 0)
      rw [Int.toNat_natCast, List.getD_eq_getElem?_getD, List.getElem?_eq_getElem (by omega)]
      exact hl _ (List.getElem_mem _)
    obtain ⟨y1, h1, h2⟩ := set_word h (k := i) (by omega) hx
    obtain ⟨L', m', y', k1, k2, k3, k4, k5⟩ := refset_loop hl r (i + 1) h2 (by simpa using hle) (by omega)
    refine ⟨L', m', y', ?_, k2, k3, by rw [k4]; simp, fun j => ?_⟩
    · rw [← k1]
      refine loopO_next ?_
      simp only [rivetref05_Memory_Place.b1]
      have e1 : w64 (0 + (i : Int)) = (i : Int) := by rw [w64s (by omega) (by omega)]; omega
      have e2 : w64 ((i : Int) + 1) = ((i + 1 : Nat) : Int) := by rw [w64s (by omega) (by omega)]; omega
      rw [if_pos (by omega), if_pos (by omega), e1, h1, e2]
      rfl
    · rw [k5, getD_set _ _ _ _ (by omega)]
      by_cases c1 : i + 1 ≤ j ∧ j < l.length
      · rw [if_pos c1, if_pos (by omega)]
      · rw [if_neg c1]
        by_cases c2 : j = i
        · subst c2
          rw [if_pos rfl, if_pos (by omega)]
          show l.getD (j : Int).toNat 0 = _
          rw [Int.toNat_natCast]
        · rw [if_neg c2, if_neg (by omega)]
end
end Go.Proofs.Ytpbfjcpndmmgoaa.MP
namespace Go.Proofs.Ytpbfjcpndmmgoaa.MP
set_option linter.unusedVariables false
set_option linter.unusedSimpArgs false
open Go Go.RowKit Go.Proofs.Ytpbfjcpndmmgoaa.E
section
variable {L : List Int} {m : Smemory_Memory} {y : Srivetref05_Memory}
theorem cutL (h : MR L m y) : (List.drop (Int.toNat 0) (List.take (Int.toNat m.n) (Vector.toList m.w))) = L := by
  have hl := h.le
  rw [h.n]
  show List.drop 0 (List.take (L.length : Int).toNat m.w.toList) = L
  rw [Int.toNat_natCast, List.drop_zero]
  apply List.ext_getElem
  · simp; omega
  · intro i h1 h2
    have := h.w i h2
    have e1 : vx 0 m.w i = m.w.toList[i]'(by simp; omega) := by
      show m.w.toList.getD i 0 = _
      rw [List.getD_eq_getElem?_getD, List.getElem?_eq_getElem (by simp; omega)]
      rfl
    have e2 : L.getD i 0 = L[i] := by rw [List.getD_eq_getElem?_getD, List.getElem?_eq_getElem h2]; rfl
    rw [List.getElem_take, ← e1, this, e2]
theorem place_is (h : MR L m y) {l : List Int} (hl : ∀ n ∈ l, W n) (hle : l.length ≤ L.length) : ∃ L' m' y', memory_Memory_Place m 0 l = some (0, m') ∧ rivetref05_Memory_Place y 0 l = some (0, y') ∧ MR L' m' y' ∧ L'.length = L.length ∧ ∀ j, L'.getD j 0 = if j < l.length then l.getD j 0 else L.getD j 0 := by
  have hL := h.le
  have hn := h.n
  obtain ⟨L', m', y', k1, k2, k3, k4, k5⟩ := refset_loop hl l.length 0 h hle (by omega)
  refine ⟨L', ⟨vcopy m.w 0 l, m.n⟩, y', ?_, ?_, ⟨by rw [k4]; exact hn, k2.le, fun i hi => ?_, k2.ok, k2.len, k2.b⟩, k4, fun j => by rw [k5]; simp⟩
  · unfold memory_Memory_Place
    rw [cutL h, if_neg (by omega), if_neg (by omega), w64s (by omega) (by omega), if_neg (by omega), if_pos (by omega), if_pos (by show 0 + L.length ≤ 4096; omega), List.take_of_length_le hle]
    rfl
  · have hlen := h.len
    unfold rivetref05_Memory_Place
    have e : w64 (Int.tdiv (y.B.length : Int) 4) = (L.length : Int) := by rw [Int.tdiv_eq_ediv_of_nonneg (by omega), w64s (by omega) (by omega)]; omega
    rw [e, if_neg (by omega), if_neg (by omega), w64s (by omega) (by omega), if_neg (by omega)]
    have k1 : loopO rivetref05_Memory_Place.b1 (0, 0, y, l) = some y' := k1
    rw [k1]
    rfl
  · show vx 0 (vcopy m.w 0 l) i = _
    rw [vx_vcopy (by omega), k5]
    by_cases c : i < l.length
    · rw [if_pos (by omega), if_pos (by omega), Nat.sub_zero]
    · rw [if_neg (by omega), if_neg (by omega)]
      exact h.w i (by omega)
theorem words_is (h : MR L m y) : memory_Memory_Words m = some (m, L) ∧ rivetref05_Memory_Words y = some (y, L) := by
  have hL := h.le
  have hn := h.n
  constructor
  · unfold memory_Memory_Words slices_Clone_uint32_uint32
    rw [cutL h, if_pos (by omega), if_pos (by simp; omega)]
    rfl
  · have hlen := h.len
    have key : ∀ r i, i + r = L.length → loopO rivetref05_Memory_Words.b1 ((i : Int), y, L.take i) = some (y, L) := by
      intro r
      induction r with
      | zero =>
        intro i hi
        refine loopO_done ?_
        simp only [rivetref05_Memory_Words.b1]
        rw [Int.tdiv_eq_ediv_of_nonneg (by omega), w64s (by omega) (by omega), if_neg (by omega), List.take_of_length_le (by omega)]
      | succ r ih =>
        intro i hi
        rw [← ih (i + 1) (by omega)]
        refine loopO_next ?_
        simp only [rivetref05_Memory_Words.b1]
        rw [Int.tdiv_eq_ediv_of_nonneg (by omega), w64s (by omega) (by omega), if_pos (by omega), get_word h (by omega)]
        simp only [Option.bind_some]
        rw [if_pos (by simp; omega), w64s (by omega) (by omega)]
        have e : L.take i ++ [L.getD i 0] = L.take (i + 1) := by
          rw [List.take_add_one, List.getD_eq_getElem?_getD, List.getElem?_eq_getElem (by omega)]
          rfl
        rw [e]
        rfl
    have k := key L.length 0 (by omega)
    have k : loopO rivetref05_Memory_Words.b1 (0, y, ([] : List Int)) = some (y, L) := k
    unfold rivetref05_Memory_Words
    rw [k]
    rfl
theorem same_is (a b : List Int) (h : a.length < 1000000) : rivetref05_Same a b = some (decide (a = b)) := by
  unfold rivetref05_Same
  by_cases hl : a.length = b.length
  · rw [if_pos (by omega)]
    have key : ∀ r i, i + r = a.length → (∀ j, j < i → a.getD j 0 = b.getD j 0) → loopO rivetref05_Same.b1 ((i : Int), a, b) = some (if a = b then .done () else .ret false) := by
      intro r
      induction r with
      | zero =>
        intro i hi hj
        have e : a = b := by
          apply List.ext_getElem hl
          intro j h1 h2
          have := hj j (by omega)
          rw [List.getD_eq_getElem?_getD, List.getD_eq_getElem?_getD, List.getElem?_eq_getElem h1, List.getElem?_eq_getElem h2] at this
          exact this
        refine loopO_done ?_
        simp only [rivetref05_Same.b1]
        rw [if_neg (by omega), if_pos e]
      | succ r ih =>
        intro i hi hj
        by_cases c : a.getD i 0 = b.getD i 0
        · rw [← ih (i + 1) (by omega) fun j hj' => by
            by_cases e : j = i
            · rw [e]; exact c
            · exact hj j (by omega)]
          refine loopO_next ?_
          simp only [rivetref05_Same.b1]
          rw [if_pos (by omega), if_pos (by omega), if_pos (by omega), if_pos (show ix 0 a (i : Int) = ix 0 b (i : Int) from c), w64s (by omega) (by omega)]
          rfl
        · refine loopO_done ?_
          simp only [rivetref05_Same.b1]
          rw [if_pos (by omega), if_pos (by omega), if_pos (by omega), if_neg (show ¬ ix 0 a (i : Int) = ix 0 b (i : Int) from c), if_neg (fun e => c (by rw [e]))]
    have k : loopO rivetref05_Same.b1 (0, a, b) = _ := key a.length 0 (by omega) (fun j hj => by omega)
    rw [k]
    by_cases e : a = b
    · simp [e]
    · simp [e]
  · rw [if_neg (by omega), decide_eq_false (fun e => hl (by rw [e]))]
end
end Go.Proofs.Ytpbfjcpndmmgoaa.MP
namespace Go.Proofs.Ytpbfjcpndmmgoaa.MP
set_option linter.unusedVariables false
set_option linter.unusedSimpArgs false
open Go Go.RowKit Go.Proofs.Ytpbfjcpndmmgoaa.E
section
variable {L : List Int} {m : Smemory_Memory} {y : Srivetref05_Memory}
theorem refset_at {l : List Int} (hl : ∀ n ∈ l, W n) {p : Nat} : ∀ (r i : Nat) {L : List Int} {m : Smemory_Memory} {y : Srivetref05_Memory}, MR L m y → p + l.length ≤ L.length → i + r = l.length →
    ∃ L' m' y', loopO rivetref05_Memory_Place.b1 ((p : Int), (i : Int), y, l) = some y' ∧ MR L' m' y' ∧ m'.n = m.n ∧ L'.length = L.length ∧ ∀ j, L'.getD j 0 = if p + i ≤ j ∧ j < p + l.length then l.getD (j - p) 0 else L.getD j 0
  | 0, i, L, m, y, h, hle, e => by
    refine ⟨L, m, y, loopO_done ?_, h, rfl, rfl, fun j => by rw [if_neg (by omega)]⟩
    simp only [rivetref05_Memory_Place.b1]
    rw [if_neg (by omega)]
  | r + 1, i, L, m, y, h, hle, e => by
    have hL := h.le
    have hx : W (ix 0 l (i : Int)) := by
      show W (l.getD (i : Int).toNat 0)
      rw [Int.toNat_natCast, List.getD_eq_getElem?_getD, List.getElem?_eq_getElem (by omega)]
      exact hl _ (List.getElem_mem _)
    obtain ⟨y1, h1, h2⟩ := set_word h (k := p + i) (by omega) hx
    obtain ⟨L', m', y', k1, k2, k3, k4, k5⟩ := refset_at hl r (i + 1) h2 (by simpa using hle) (by omega)
    refine ⟨L', m', y', ?_, k2, k3, by rw [k4]; simp, fun j => ?_⟩
    · rw [← k1]
      refine loopO_next ?_
      simp only [rivetref05_Memory_Place.b1]
      have e1 : w64 ((p : Int) + (i : Int)) = ((p + i : Nat) : Int) := by rw [w64s (by omega) (by omega)]; omega
      have e2 : w64 ((i : Int) + 1) = ((i + 1 : Nat) : Int) := by rw [w64s (by omega) (by omega)]; omega
      rw [if_pos (by omega), if_pos (by omega), e1, h1, e2]
      rfl
    · rw [k5, getD_set _ _ _ _ (by omega)]
      by_cases c1 : p + (i + 1) ≤ j ∧ j < p + l.length
      · rw [if_pos c1, if_pos (by omega)]
      · rw [if_neg c1]
        by_cases c2 : j = p + i
        · subst c2
          rw [if_pos rfl, if_pos (by omega), Nat.add_sub_cancel_left]
          show l.getD (i : Int).toNat 0 = _
          rw [Int.toNat_natCast]
        · rw [if_neg c2, if_neg (by omega)]
theorem place_at (h : MR L m y) {p : Nat} {l : List Int} (hl : ∀ n ∈ l, W n) (hle : p + l.length ≤ L.length) : ∃ L' m' y', memory_Memory_Place m (p : Int) l = some (0, m') ∧ rivetref05_Memory_Place y (p : Int) l = some (0, y') ∧ MR L' m' y' ∧ L'.length = L.length ∧
    ∀ j, L'.getD j 0 = if p ≤ j ∧ j < p + l.length then l.getD (j - p) 0 else L.getD j 0 := by
  have hL := h.le
  have hn := h.n
  obtain ⟨L', m', y', k1, k2, k3, k4, k5⟩ := refset_at hl (p := p) l.length 0 h hle (by omega)
  have hc : (List.drop (Int.toNat (p : Int)) (List.take (Int.toNat m.n) (Vector.toList m.w))).length = L.length - p := by
    rw [hn, Int.toNat_natCast, Int.toNat_natCast, List.length_drop, List.length_take, Vector.length_toList]; omega
  refine ⟨L', ⟨vcopy m.w p l, m.n⟩, y', ?_, ?_, ⟨by rw [k4]; exact hn, k2.le, fun i hi => ?_, k2.ok, k2.len, k2.b⟩, k4, fun j => by rw [k5, Nat.add_zero]⟩
  · unfold memory_Memory_Place
    rw [if_neg (by omega), if_neg (by omega), w64s (by omega) (by omega), if_neg (by omega), if_pos (by omega), hc, if_pos (by rw [Int.toNat_natCast]; omega), List.take_of_length_le (by omega), Int.toNat_natCast]
  · have hlen := h.len
    unfold rivetref05_Memory_Place
    have e : w64 (Int.tdiv (y.B.length : Int) 4) = (L.length : Int) := by rw [Int.tdiv_eq_ediv_of_nonneg (by omega), w64s (by omega) (by omega)]; omega
    rw [e, if_neg (by omega), if_neg (by omega), w64s (by omega) (by omega), if_neg (by omega)]
    have k1 : loopO rivetref05_Memory_Place.b1 ((p : Int), 0, y, l) = some y' := k1
    rw [k1]
    rfl
  · show vx 0 (vcopy m.w p l) i = _
    rw [vx_vcopy (by omega), k5]
    by_cases c : p ≤ i ∧ i < p + l.length
    · rw [if_pos (by omega), if_pos (by omega)]
    · rw [if_neg (by omega), if_neg (by omega)]
      exact h.w i (by omega)
theorem place_no (h : MR L m y) {p : Int} {l : List Int} (hp : -4294967296 ≤ p ∧ p ≤ 4294967296) (hlen : l.length ≤ 1000000) (hno : p < 0 ∨ (L.length : Int) < p + l.length) : memory_Memory_Place m p l = some (11, m) ∧ rivetref05_Memory_Place y p l = some (11, y) := by
  have hL := h.le
  have hn := h.n
  have hlen' := h.len
  have e : w64 (Int.tdiv (y.B.length : Int) 4) = (L.length : Int) := by rw [Int.tdiv_eq_ediv_of_nonneg (by omega), w64s (by omega) (by omega)]; omega
  unfold memory_Memory_Place rivetref05_Memory_Place
  rw [e, hn, w64s (x := (L.length : Int) - p) (by omega) (by omega)]
  by_cases h0 : p < 0
  · rw [if_pos h0, if_pos h0]; exact ⟨rfl, rfl⟩
  · rw [if_neg h0, if_neg h0]
    by_cases h1 : p > (L.length : Int)
    · rw [if_pos h1, if_pos h1]; exact ⟨rfl, rfl⟩
    · rw [if_neg h1, if_neg h1, if_pos (by omega), if_pos (by omega)]; exact ⟨rfl, rfl⟩
theorem place_any (h : MR L m y) {p : Int} {l : List Int} (hp : -4294967296 ≤ p ∧ p ≤ 4294967296) (hl : ∀ n ∈ l, W n) (hlen : l.length ≤ 1000000) :
    ∃ e L' m' y', memory_Memory_Place m p l = some (e, m') ∧ rivetref05_Memory_Place y p l = some (e, y') ∧ MR L' m' y' := by
  by_cases hno : p < 0 ∨ (L.length : Int) < p + l.length
  · obtain ⟨h1, h2⟩ := place_no h hp hlen hno
    exact ⟨11, L, m, y, h1, h2, h⟩
  · obtain ⟨n, rfl⟩ := Int.eq_ofNat_of_zero_le (show 0 ≤ p by omega)
    obtain ⟨L', m', y', h1, h2, h3, _⟩ := place_at h (p := n) hl (by omega)
    exact ⟨0, L', m', y', h1, h2, h3⟩
end
end Go.Proofs.Ytpbfjcpndmmgoaa.MP
namespace Go.Proofs.Ytpbfjcpndmmgoaa.MP
set_option linter.unusedVariables false
set_option linter.unusedSimpArgs false
open Go Go.RowKit Go.Proofs.Ytpbfjcpndmmgoaa.E
theorem few_is (l : List Int) : rivetlaw05_few l = some (l, l.take 12) := by
  unfold rivetlaw05_few
  have h := mnn_ok (l.length : Int) 12 (by omega) (by omega)
  rw [if_pos h, take_min l 12 (by omega)]
  rfl
section
variable {L : List Int} {m : Smemory_Memory} {y : Srivetref05_Memory} {i a : Int} {l : List Srivetlaw05_Call}
/-- What a round comes to. -/
def RoundOk (i : Int) (l : List Srivetlaw05_Call) (r : Option ((Int × List Srivetlaw05_Call × Smemory_Memory × Srivetref05_Memory) ⊕ Ex Bool Unit)) : Prop := ∃ L' m' y', r = some (.inl (w64 (i + 1), l, m', y')) ∧ MR L' m' y'
theorem j8_ok (h : MR L m y) : RoundOk i l (rivetlaw05_MemoryPlays.j8 i true l m y) := by
  obtain ⟨e1, e2⟩ := words_is h
  have hle := h.le
  refine ⟨L, m, y, ?_, h⟩
  unfold rivetlaw05_MemoryPlays.j8
  rw [if_pos rfl, e1]
  simp only [Option.bind_some, e2, same_is L L (by omega), decide_true, if_true]
theorem W_ld (h : MR L m y) (ha : W a) : True := trivial
theorem j7_ok (h : MR L m y) (ha : W a) (hi : (0 : Int) ≤ i ∧ i < (l.length : Int)) (hc : okSrivetlaw05_Call (ix dSrivetlaw05_Call l i)) (k : Int) (b : Bool) : RoundOk i l (rivetlaw05_MemoryPlays.j7 i a k b l m y) := by
  have hX : W (ix dSrivetlaw05_Call l i).X := hc.2.2.1.u32
  unfold rivetlaw05_MemoryPlays.j7
  cases b with
  | true =>
    obtain ⟨m', y', e1, e2, e3⟩ := setword_is h ha hX
    rw [if_pos rfl, if_pos hi, e1]
    simp only [Option.bind_some]
    rw [if_pos hi, e2]
    simp only [Option.bind_some, decide_true]
    exact j8_ok e3
  | false =>
    rw [if_neg (by simp)]
    by_cases h6 : k = 6
    · have hw : wu8 (ix dSrivetlaw05_Call l i).X = (ix dSrivetlaw05_Call l i).X % 256 := IntKind.wrap_u8 _
      obtain ⟨m', y', e1, e2, e3⟩ := setbyte_is h ha (x := (ix dSrivetlaw05_Call l i).X % 256) ⟨by omega, by omega⟩
      rw [if_pos h6, if_pos hi, hw, e1]
      simp only [Option.bind_some]
      rw [if_pos hi, e2]
      simp only [Option.bind_some, decide_true]
      exact j8_ok e3
    · have hs := sgn_in ha.1 ha.2
      have hl : ∀ n ∈ (ix dSrivetlaw05_Call l i).L.take 12, W n := fun n hn => (hc.2.2.2.1 n (List.mem_of_mem_take hn)).u32
      obtain ⟨e, L', m', y', e1, e2, e3⟩ := place_any h (p := sgn a) (by omega) hl (by rw [List.length_take]; omega)
      rw [if_neg h6, if_pos hi, few_is, w32_sgn ha.1 ha.2]
      simp only [Option.bind_some, e1]
      rw [if_pos hi]
      simp only [e2, Option.bind_some, decide_true]
      exact j8_ok e3
theorem j6_ok (h : MR L m y) (ha : W a) (hi : (0 : Int) ≤ i ∧ i < (l.length : Int)) (hc : okSrivetlaw05_Call (ix dSrivetlaw05_Call l i)) (k : Int) (b : Bool) : RoundOk i l (rivetlaw05_MemoryPlays.j6 i a k b l m y) := by
  unfold rivetlaw05_MemoryPlays.j6
  cases b with
  | true =>
    rw [if_pos rfl]
    simp only [byte_is h ha, refbyte_is h ha, Option.bind_some, if_true, decide_true]
    exact j8_ok h
  | false =>
    rw [if_neg (by simp)]
    by_cases h4 : k = 4
    · rw [if_pos h4]; exact j7_ok h ha hi hc _ _
    · rw [if_neg h4]; exact j7_ok h ha hi hc _ _
theorem j5_ok (h : MR L m y) (ha : W a) (hi : (0 : Int) ≤ i ∧ i < (l.length : Int)) (hc : okSrivetlaw05_Call (ix dSrivetlaw05_Call l i)) (k : Int) (b : Bool) : RoundOk i l (rivetlaw05_MemoryPlays.j5 i a k b l m y) := by
  unfold rivetlaw05_MemoryPlays.j5
  cases b with
  | true =>
    rw [if_pos rfl]
    simp only [word_is h ha, refword_is h ha, Option.bind_some, if_true, decide_true]
    exact j8_ok h
  | false =>
    rw [if_neg (by simp)]
    by_cases h2 : k = 2
    · rw [if_pos h2]; exact j6_ok h ha hi hc _ _
    · rw [if_neg h2]; exact j6_ok h ha hi hc _ _
theorem j4_ok (h : MR L m y) (ha : W a) (hi : (0 : Int) ≤ i ∧ i < (l.length : Int)) (hc : okSrivetlaw05_Call (ix dSrivetlaw05_Call l i)) : RoundOk i l (rivetlaw05_MemoryPlays.j4 i a l m y) := by
  unfold rivetlaw05_MemoryPlays.j4
  rw [if_pos hi]
  split
  · exact j5_ok h ha hi hc _ _
  · exact j5_ok h ha hi hc _ _
theorem b9_ok (h : MR L m y) (hi : (0 : Int) ≤ i ∧ i < (l.length : Int)) (h30 : i < 30) (hc : okSrivetlaw05_Call (ix dSrivetlaw05_Call l i)) : RoundOk i l (rivetlaw05_MemoryPlays.b9 (i, l, m, y)) := by
  have hA : W (ix dSrivetlaw05_Call l i).At := hc.2.1.u32
  simp only [rivetlaw05_MemoryPlays.b9]
  rw [if_pos hi.2, if_pos h30, if_pos hi, if_pos hi]
  split
  · refine j4_ok h ?_ hi hc
    rw [Int.tmod_eq_emod_of_nonneg hA.1]
    exact ⟨by omega, by omega⟩
  · exact j4_ok h hA hi hc
end
theorem plays_loop {l : List Srivetlaw05_Call} (hl : ∀ n ∈ l, okSrivetlaw05_Call n) : ∀ (n i : Nat) {L : List Int} {m : Smemory_Memory} {y : Srivetref05_Memory}, i + n = 30 → MR L m y → loopO rivetlaw05_MemoryPlays.b9 ((i : Int), l, m, y) = some (.done ())
  | 0, i, L, m, y, e, h => by
    refine loopO_done ?_
    simp only [rivetlaw05_MemoryPlays.b9]
    by_cases hb : (i : Int) < (l.length : Int)
    · rw [if_pos hb, if_neg (by omega)]
    · rw [if_neg hb]
  | n + 1, i, L, m, y, e, h => by
    by_cases hb : (i : Int) < (l.length : Int)
    · have hc : okSrivetlaw05_Call (ix dSrivetlaw05_Call l (i : Int)) := by
        show okSrivetlaw05_Call (l.getD (i : Int).toNat _)
        rw [Int.toNat_natCast, List.getD_eq_getElem?_getD, List.getElem?_eq_getElem (by omega)]
        exact hl _ (List.getElem_mem _)
      obtain ⟨L', m', y', h1, h2⟩ := b9_ok h ⟨by omega, hb⟩ (by omega) hc
      rw [← plays_loop hl n (i + 1) (by omega) h2]
      rw [w64s (by omega) (by omega)] at h1
      exact loopO_next h1
    · refine loopO_done ?_
      simp only [rivetlaw05_MemoryPlays.b9]
      rw [if_neg hb]
theorem ldB0 : ldB [67305985] 1 = (2, 0) := by
  unfold ldB trapS byt
  simp
theorem shown_is : rivetlaw05_shown = some true := by
  obtain ⟨n1, n2, n3⟩ := new_is (n := 1) (by omega)
  obtain ⟨L', m', y', p1, p2, p3, p4, p5⟩ := place_at n3 (p := 0) (l := [67305985]) (fun n hn => by rw [List.mem_singleton.1 hn]; exact ⟨by decide, by decide⟩) (by simp)
  have hL : L' = [67305985] := by
    have h0 := p5 0
    match L', p4, h0 with
    | [z], _, h0 => simp at h0; rw [h0]
  subst hL
  have hb := byte_is p3 (a := 1) ⟨by decide, by decide⟩
  rw [ldB0] at hb
  clear p2 p3 p4 p5 n2 n3
  rw [show ((1 : Nat) : Int) = 1 from rfl] at n1 p1
  rw [show ((0 : Nat) : Int) = 0 from rfl] at p1
  generalize (⟨Vector.replicate 4096 0, 1⟩ : Smemory_Memory) = M at n1 p1
  unfold rivetlaw05_shown
  rw [n1, Option.bind_some]
  show ((memory_Memory_Place M 0 [67305985]).bind _) = _
  rw [p1, Option.bind_some]
  show ((memory_Memory_Byte m' 1).bind _) = _
  rw [hb, Option.bind_some]
  rfl
theorem Pure.MemoryPlays (a0 : Int) (a1 : Int) (a2 : List Srivetlaw05_Call) : (In .u8 a0) → (In .i64 a1) → ((∀ n ∈ a2, okSrivetlaw05_Call n) ∧ a2.length * 40 ≤ 140737488351232) → rivetlaw05_MemoryPlays a0 a1 a2 = some true := by
  intro h0 h1 h2
  have h0 := h0.u8
  have h1 := h1.i64
  have e : w64 (Int.tmod a0 32) = (((a0 % 32).toNat : Nat) : Int) := by
    rw [Int.tmod_eq_emod_of_nonneg h0.1, w64s (by omega) (by omega)]; omega
  obtain ⟨n1, n2, n3⟩ := new_is (n := (a0 % 32).toNat) (by omega)
  have hl := plays_loop h2.1 30 0 (by omega) n3
  have j3 : ∀ v : Int, v < 0 ∨ v > 4096 → rivetlaw05_MemoryPlays.j3 v true 0 a2 (some ⟨Vector.replicate 4096 0, (a0 % 32).toNat⟩) (some ⟨List.replicate (4 * (a0 % 32).toNat) 0⟩) = some true := by
    intro v hv
    have hn : memory_New v = some (.inl ()) := by
      unfold memory_New
      by_cases c : v < 0
      · rw [if_pos c]
      · rw [if_neg c, if_pos (by omega)]
    unfold rivetlaw05_MemoryPlays.j3
    rw [hn]
    have hl : loopO rivetlaw05_MemoryPlays.b9 (0, a2, (⟨Vector.replicate 4096 0, (a0 % 32).toNat⟩ : Smemory_Memory), (⟨List.replicate (4 * (a0 % 32).toNat) 0⟩ : Srivetref05_Memory)) = some (.done ()) := hl
    simp only [Option.bind_some, if_true, optC, hl]
  unfold rivetlaw05_MemoryPlays
  rw [shown_is, e, n1]
  simp only [Option.bind_some]
  unfold rivetlaw05_MemoryPlays.j1
  rw [e, n2]
  simp only [Option.bind_some]
  unfold rivetlaw05_MemoryPlays.j2
  by_cases c1 : a1 ≥ 0
  · rw [if_pos c1]
    by_cases c2 : a1 ≤ 4096
    · rw [if_pos c2, w64s (by omega) (by omega)]
      exact j3 _ (by omega)
    · rw [if_neg c2]
      exact j3 _ (by omega)
  · rw [if_neg c1]
    exact j3 _ (by omega)
end Go.Proofs.Ytpbfjcpndmmgoaa.MP
namespace Go.Proofs.Ytpbfjcpndmmgoaa.E
set_option linter.unusedVariables false
set_option linter.unusedSimpArgs false
open Go Go.RowKit
theorem vec_enc {n : Nat} {k : IntKind} (y : Vector Int n) : y.toList.map (Value.int k) = (List.range n).map fun j => Value.int k (vx 0 y j) := by
  apply List.ext_getElem
  · simp
  · intro i h1 h2
    have h : i < n := by simpa using h1
    simp [vx, h]
section
variable {X : Cx} {w : World}
/-- A row that came in. -/
structure Ro (X : Cx) (w : World) where
  T : Nat
  l : List (X.τ T)
  A : Option Addr
  cap : Nat
  f : Nat → List Value
  h : ∀ w', Kp [] w w' → X.Rr T f w' A cap l
/-- One of plain data. -/
def roP (T : Nat) (l : List (X.τ T)) (A : Option Addr) (cap : Nat) (h : Rd w (X.E T) A cap l) (hd : X.dp T = false := by rfl) : Ro X w :=
  ⟨T, l, A, cap, fun _ => [], fun w' hk => Rr_of hd (h.move fun a ha hl => hk.block a.block (h.lt ha hl) (by simp))⟩
/-- One whose elements lead on to rows. -/
def roD (T : Nat) (l : List (X.τ T)) (A : Option Addr) (cap : Nat) (f : Nat → List Value) (h : RdD X T f w A cap l) (hd : X.dp T = true := by rfl) : Ro X w :=
  ⟨T, l, A, cap, f, fun w' hk => Rr_of_deep hd (h.move hk)⟩
def roL : Nat → List (Ro X w) → List (Nat × AO X.τ)
  | _, [] => []
  | i, r :: s => (i, .ro r.T r.l) :: roL (i + 1) s
def roR (s : List (Ro X w)) : Rho := fun i => match s[i]? with
  | some r => some ⟨r.A, r.cap, r.l.length, (X.E r.T).sz⟩
  | none => none
theorem roL_ge : ∀ {s : List (Ro X w)} {k : Nat} {o : Nat}, o ∈ (roL k s).map Prod.fst → k ≤ o
  | _ :: s, k, o, h => by
    rcases List.mem_cons.1 h with rfl | h
    · exact Nat.le_refl _
    · exact Nat.le_of_succ_le (roL_ge (s := s) h)
theorem roL_nd : ∀ {s : List (Ro X w)} {k : Nat}, ((roL k s).map Prod.fst).Nodup
  | [], _ => List.nodup_nil
  | _ :: s, k => List.nodup_cons.2 ⟨fun h => by have := roL_ge (s := s) h; omega, roL_nd⟩
theorem roL_at : ∀ {s : List (Ro X w)} {k : Nat} {p : Nat × AO X.τ}, p ∈ roL k s → ∃ i r, p = (k + i, .ro r.T r.l) ∧ s[i]? = some r
  | r :: s, k, p, h => by
    rcases List.mem_cons.1 h with rfl | h
    · exact ⟨0, r, rfl, rfl⟩
    · obtain ⟨i, q, h1, h2⟩ := roL_at (s := s) h
      exact ⟨i + 1, q, by rw [h1, Nat.add_right_comm, Nat.add_assoc], h2⟩
theorem roR_none {s : List (Ro X w)} {i : Nat} (h : s.length ≤ i) : roR s i = none := by
  unfold roR
  rw [List.getElem?_eq_none h]
theorem cov_nil {α : Type} {f : α → Asn} : ∀ {l : List α}, (∀ x ∈ l, f x []) → Cov (l.map f) []
  | [], _ => rfl
  | a :: r, h => ⟨[], [], rfl, h a List.mem_cons_self, cov_nil fun x hx => h x (List.mem_cons_of_mem _ hx)⟩
theorem roRel (s : List (Ro X w)) : RelL X [] w (roR s) (lk' (roL 0 s)) (roL 0 s) w := by
  refine ⟨roL_nd, fun o x => ⟨lk'_mem, lk'_of roL_nd⟩, ?_⟩
  obtain ⟨L, hL, hs⟩ := St.nil w
  cases hL
  refine ⟨[], cov_nil fun p hp => ?_, hs⟩
  obtain ⟨i, r, rfl, h2⟩ := roL_at hp
  refine ⟨rfl, ⟨r.A, r.cap, r.l.length, (X.E r.T).sz⟩, ?_, rfl, rfl, r.f, r.h⟩
  show roR s (0 + i) = _
  unfold roR
  rw [Nat.zero_add, h2]
/-- A law: from what came in to what it answers. -/
theorem CtOk.law {C : Ct X} {F : HLs C.I → Option C.O} (hc : CtOk C F) (s : List (Ro X w)) {h : HLs C.I} {h' : C.O} (hF : F h = some h') {args : List Value}
    (e : (fOs X id (fun _ => 0) C.oi (fAs X id C.ai h).2).1 = roL 0 s) (ha : AVs (roR s) (fAs X id C.ai h).1 args) (hm : Nat.ble s.length C.m = true) :
    Calls X.P C.f args.toArray w fun x w' => ∃ v, x = .returned v ∧ PostL X C.mo [] w (roR s) v w' (C.ao, C.oo) C.al h' :=
  hc h h' hF [] w (roR s) (roL 0 s) args (by rw [e]; exact roRel s) ha fun i hi => roR_none (Nat.le_trans (Nat.le_of_ble_eq_true hm) hi)
theorem CR_row {s : List (Ro X w)} {i : Nat} {r : Ro X w} (h : s[i]? = some r) : CR (roR s) (.sl i) [.slice r.A r.l.length r.cap] := ⟨_, by unfold roR; rw [h], rfl⟩
end
end Go.Proofs.Ytpbfjcpndmmgoaa.E
namespace Go.Proofs.Ytpbfjcpndmmgoaa.E
set_option linter.unusedVariables false
set_option linter.unusedSimpArgs false
open Go Go.RowKit Go.ChangeShapes Go.WideShapes Go.ChangeAt
def OpenD (X : Cx) (P : Program) (t : TypeId) (ok : X.τ t → Prop) : Prop :=
  ∀ (H : Type) (enc : TypeId × Value → H) (w : World) (base : Nat) (spare : Nat → Bool) (held : Bool) (fuel : Nat) (cs : List Value) (x : DataW H × List MemPlace), DataW.trod enc P w base spare held fuel t cs = some x → Light P t x →
    ∃ y : X.τ t, RRepL X (fun _ _ _ _ => False) w ((X.ti t).opn y) cs ∧ ok y
section
variable {X : Cx} {P : Program} {t e : TypeId} {ok : X.τ e → Prop} {H : Type} {enc : TypeId × Value → H} {w : World} {base B : Nat} {spare : Nat → Bool} {held : Bool} {cs : List Value}
theorem slice_openD {fuel : Nat} {x : DataW H × List MemPlace} (ht : P.underlying t = some (.slice e)) (hE : P.cellsOf e = (X.ti e).n) (hop : OpenD X P e ok) (hB : P.bytesOf e = B) (h : DataW.trod enc P w base spare held fuel t cs = some x) (hw : Light P t x) :
    ∃ A cap l f, cs = [.slice A (List.length l) cap] ∧ RdD X e f w A cap l ∧ (∀ y ∈ l, ok y) ∧ l.length * B ≤ 140737488351232 := by
  rcases DataW.trod_slice ht h with ⟨rfl, rfl⟩ | ⟨a, len, cap, elems, rest, n, _, rfl, rfl, hb, hl, hm, hlen, hel, _, _⟩
  · exact ⟨none, 0, [], fun _ => [], rfl, ⟨Nat.le_refl 0, fun i x h => by cases h⟩, by simp, by simp⟩
  have hwl : ∀ d ∈ elems, Light P e d := fun d hd n hn => hw n (by
    simp only [DataW.weights, ht, List.mem_cons, List.mem_append]
    exact .inr (.inl (weights_mem_all (List.mem_map_of_mem hd) n hn)))
  have hB' : len * B ≤ 140737488351232 := by
    have := hw ((elems.length + rest.length) * B) (by simp [DataW.weights, ht, hB])
    rw [hlen] at this
    exact Nat.le_trans (Nat.mul_le_mul_right _ (by omega)) this
  have each : ∀ i, i < len → ∃ (y : X.τ e) (ci : List Value), ok y ∧ RRepL X (fun _ _ _ _ => False) w ((X.ti e).opn y) ci ∧ ∀ j u, ci[j]? = some u → w.cell? (a.add (i * (X.ti e).n + j)) = some u := by
    intro i hi
    have h1 := hel i hi
    have hlt : i < elems.length := by omega
    rw [List.getElem?_eq_getElem hlt, Option.bind_eq_some_iff] at h1
    obtain ⟨ci, hci, hti⟩ := h1
    obtain ⟨y, hr, hy⟩ := hop H enc w base spare held n _ _ hti (hwl _ (List.getElem_mem hlt))
    refine ⟨y, ci, hy, hr, fun j u hj => ?_⟩
    rw [hE] at hci
    obtain ⟨_, hlc, hc⟩ := World.cells?_some hci
    have hjl : j < (X.ti e).n := by rw [← hlc]; exact (List.getElem?_eq_some_iff.1 hj).1
    have := hc j hjl
    rw [add_add'] at this
    rw [this]
    exact hj
  have mk : ∀ k, k ≤ len → ∃ (l : List (X.τ e)) (f : Nat → List Value), l.length = k ∧ (∀ y ∈ l, ok y) ∧ ∀ i y, l[i]? = some y → RRepL X (fun _ _ _ _ => False) w ((X.ti e).opn y) (f i) ∧ ∀ j u, (f i)[j]? = some u → w.cell? (a.add (i * (X.ti e).n + j)) = some u := by
    intro k
    induction k with
    | zero => intro _; exact ⟨[], fun _ => [], rfl, by simp, by intro i y h; cases h⟩
    | succ k ih =>
      intro hk
      obtain ⟨l, f, h1, h2, h3⟩ := ih (by omega)
      obtain ⟨y, ci, hy, hr, hc⟩ := each k (by omega)
      refine ⟨l ++ [y], fun i => if i = k then ci else f i, by simp [h1], ?_, fun i z hz => ?_⟩
      · intro z hz
        rcases List.mem_append.1 hz with hz | hz
        · exact h2 z hz
        · rw [List.mem_singleton.1 hz]; exact hy
      · by_cases hi : i < l.length
        · rw [List.getElem?_append_left hi] at hz
          have hne : ¬ i = k := by omega
          simp only [if_neg hne]
          exact h3 i z hz
        · have hik : i = k := by
            have := (List.getElem?_eq_some_iff.1 hz).1
            simp at this
            omega
          subst hik
          rw [List.getElem?_append_right (by omega), h1, Nat.sub_self] at hz
          simp only [List.getElem?_cons_zero, Option.some.injEq] at hz
          subst hz
          simp only [if_true]
          exact ⟨hr, hc⟩
  obtain ⟨l, f, h1, h2, h3⟩ := mk len (Nat.le_refl _)
  exact ⟨some a, cap, l, f, by rw [h1], ⟨by omega, fun i y hi => ⟨a, rfl, h3 i y hi⟩⟩, h2, by rw [h1]; exact hB'⟩
theorem open_rowD {b0 : Nat} {r : Reach} {v : Value} {d : DataW H} {ps : List MemPlace} {ts : List TypeId} {ds : List (DataW H)} {j : Nat} (hop : OpenD X P e ok) (ht : P.underlying t = some (.slice e)) (hE : P.cellsOf e = (X.ti e).n) (hB : P.bytesOf e = B) (hval : Value.okWide P w r b0 t v) (hd : DataW.Trod enc P w base spare held t v d ps)
    (hsz : (DataW.weightsEach P ts ds).all (· ≤ reachBytes) = true) (hj : ts[j]? = some t) (hdj : ds[j]? = some d) :
    ∃ A cap l f, v = .slice A (List.length l) cap ∧ RdD X e f w A cap l ∧ (∀ y ∈ l, ok y) ∧ l.length * B ≤ 140737488351232 := by
  obtain ⟨a, len, cap, rfl⟩ := okWide_slice ht hval
  obtain ⟨fuel, hf⟩ := hd
  obtain ⟨A, c, l, f, h1, h2⟩ := slice_openD ht hE hop hB hf (light_of hsz hj hdj)
  refine ⟨A, c, l, f, ?_, h2⟩
  simpa [Value.cells] using h1
end
end Go.Proofs.Ytpbfjcpndmmgoaa.E
