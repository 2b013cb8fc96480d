/- The plain law of the statement MemoryTraps. No condition. -/
import Derived.Test.YtpbfjcpndmmgoaaM05c
namespace Go.Proofs.Ytpbfjcpndmmgoaa.M05
open Go Go.RowKit Go.Proofs.Ytpbfjcpndmmgoaa.E Go.Proofs.Ytpbfjcpndmmgoaa.T05
theorem set_same {l : List Int} {i : Nat} {v : Int} (h : i < l.length) (hv : v = l.getD i 0) : l.set i v = l := by
  rw [hv, show l.getD i 0 = l[i] by simp [h]]
  exact List.set_getElem_self h
/-- The byte of a word, set again. -/
theorem again_is {x k : Int} (h0 : 0 ≤ x) (h1 : x ≤ 4294967295) (k0 : 0 ≤ k) (k1 : k < 4) : setb x (wu8 (shr .u32 x (k * 8))) (k * 8) = x := by
  obtain ⟨j, rfl⟩ := Int.eq_ofNat_of_zero_le k0
  have k1 : j < 4 := by omega
  have hk : j = 0 ∨ j = 1 ∨ j = 2 ∨ j = 3 := by omega
  have hj : 8 * j = 0 ∨ 8 * j = 8 ∨ 8 * j = 16 ∨ 8 * j = 24 := by omega
  rw [byte_val (by omega) (by omega)]
  have e : ((j : Int) * 8).toNat = 8 * j := by omega
  rw [e]
  have hb : x / 2 ^ (8 * j) % 256 = ((x.toNat / 2 ^ (8 * j) % 2 ^ 8 : Nat) : Int) := by
    obtain ⟨n, rfl⟩ := Int.eq_ofNat_of_zero_le h0
    rcases hk with rfl | rfl | rfl | rfl <;> omega
  rw [hb, setb_val h0 h1 (by omega) (by have := Nat.mod_lt (x.toNat / 2 ^ (8 * j)) (show 0 < 2 ^ 8 by decide); omega) k1, Int.toNat_natCast, sb_same hj (by omega)]
  omega
theorem in32 {l : List Int} (h : ∀ n ∈ l, In .u32 n) : ∀ n ∈ l, 0 ≤ n ∧ n ≤ 4294967295 := fun n hn => (h n hn).u32
theorem in_take {l : List Int} {p : Int → Prop} (h : ∀ n ∈ l, p n) (k : Nat) : ∀ n ∈ l.take k, p n := fun n hn => h n (List.mem_of_mem_take hn)
set_option linter.unusedSimpArgs false in
theorem traps_end {m : Smemory_Memory} {l0 : List Int} {a : Int} (h : Is m (l0.take 12)) (hw : ∀ n ∈ l0.take 12, 0 ≤ n ∧ n ≤ 4294967295) (h0 : 0 ≤ a) (h1 : a ≤ 4294967295) :
    rivetlaw05_MemoryTraps.j5 m a (if a / 4 ≥ ((l0.take 12).length : Int) then 3 else 0) l0 (if a % 4 = 0 then (if a / 4 ≥ ((l0.take 12).length : Int) then 3 else 0) else 4) = some true := by
  have n0 := len12 l0
  have ew := word_is h h0 h1
  have eb := byte_is h h0 h1
  have last : ∀ m2, Is m2 (l0.take 12) → ((memory_Memory_Words m2).bind fun ⟨t146, t147⟩ => (((rivetref05_Same t146 (l0.take (mnn (l0.length : Int) 12 : Int).toNat)).bind fun t155 => (rivetlaw05_MemoryTraps.j6 t147 t155)))) = some true := by
    intro m2 h2
    rw [words_is h2]
    simp only [Option.bind_some]
    rw [take12, same32 (by omega)]
    simp [rivetlaw05_MemoryTraps.j6]
  generalize hl : l0.take 12 = w at *
  have hx := all_getD hw (d := 0) (by omega) (a / 4).toNat
  unfold rivetlaw05_MemoryTraps.j5
  rw [ew]
  by_cases c1 : a % 4 = 0
  · by_cases c2 : a / 4 ≥ (w.length : Int)
    · rw [if_pos c2] at eb
      obtain ⟨m1, s1, i1⟩ := setword_is (x := 0) h h0 h1
      rw [if_neg (by omega)] at i1
      obtain ⟨m2, s2, i2⟩ := setbyte_is (b := 0) i1 h0 h1
      rw [if_neg (by omega)] at i2
      rw [if_pos c1, if_pos c2] at s1
      rw [if_pos c2] at s2
      simp only [if_pos c1, if_pos c2, Option.bind_some]
      rw [eb]
      simp only [Option.bind_some]
      rw [s1]
      simp only [Option.bind_some]
      rw [s2]
      simp only [Option.bind_some, if_true, show ((3 : Int) = 0) = False from by simp, show ((4 : Int) = 0) = False from by simp, if_false]
      exact last m2 i2
    · have hlt : (a / 4).toNat < w.length := by omega
      rw [if_neg c2] at eb
      obtain ⟨m1, s1, i1⟩ := setword_is (x := w.getD (a / 4).toNat 0) h h0 h1
      rw [if_pos (by omega), set_same hlt rfl] at i1
      obtain ⟨m2, s2, i2⟩ := setbyte_is (b := wu8 (shr .u32 (w.getD (a / 4).toNat 0) (a % 4 * 8))) i1 h0 h1
      rw [if_pos (by omega), again_is hx.1 hx.2 (by omega) (by omega), set_same hlt rfl] at i2
      rw [if_pos c1, if_neg c2] at s1
      rw [if_neg c2] at s2
      simp only [if_pos c1, if_neg c2, Option.bind_some]
      rw [eb]
      simp only [Option.bind_some]
      rw [s1]
      simp only [Option.bind_some]
      rw [s2]
      simp only [Option.bind_some, if_true, show ((3 : Int) = 0) = False from by simp, show ((4 : Int) = 0) = False from by simp, if_false]
      exact last m2 i2
  · by_cases c2 : a / 4 ≥ (w.length : Int)
    · rw [if_pos c2] at eb
      obtain ⟨m1, s1, i1⟩ := setword_is (x := 0) h h0 h1
      rw [if_neg (by omega)] at i1
      obtain ⟨m2, s2, i2⟩ := setbyte_is (b := 0) i1 h0 h1
      rw [if_neg (by omega)] at i2
      rw [if_neg c1] at s1
      rw [if_pos c2] at s2
      simp only [if_neg c1, if_pos c2, Option.bind_some]
      rw [eb]
      simp only [Option.bind_some]
      rw [s1]
      simp only [Option.bind_some]
      rw [s2]
      simp only [Option.bind_some, if_true, show ((3 : Int) = 0) = False from by simp, show ((4 : Int) = 0) = False from by simp, if_false]
      exact last m2 i2
    · have hlt : (a / 4).toNat < w.length := by omega
      rw [if_neg c2] at eb
      obtain ⟨m1, s1, i1⟩ := setword_is (x := 0) h h0 h1
      rw [if_neg (by omega)] at i1
      obtain ⟨m2, s2, i2⟩ := setbyte_is (b := wu8 (shr .u32 (w.getD (a / 4).toNat 0) (a % 4 * 8))) i1 h0 h1
      rw [if_pos (by omega), again_is hx.1 hx.2 (by omega) (by omega), set_same hlt rfl] at i2
      rw [if_neg c1] at s1
      rw [if_neg c2] at s2
      simp only [if_neg c1, if_neg c2, Option.bind_some]
      rw [eb]
      simp only [Option.bind_some]
      rw [s1]
      simp only [Option.bind_some]
      rw [s2]
      simp only [Option.bind_some, if_true, show ((3 : Int) = 0) = False from by simp, show ((4 : Int) = 0) = False from by simp, if_false]
      exact last m2 i2
end Go.Proofs.Ytpbfjcpndmmgoaa.M05
namespace Go.Proofs.Ytpbfjcpndmmgoaa.T05
open Go Go.RowKit Go.Proofs.Ytpbfjcpndmmgoaa.E Go.Proofs.Ytpbfjcpndmmgoaa.M05
theorem Pure.MemoryTraps (l0 : List Int) (a1 : Int) : (∀ n ∈ l0, In .u32 n) → l0.length * 4 ≤ 140737488351232 → In .u32 a1 → rivetlaw05_MemoryTraps l0 a1 = some true := by
  intro h0 _ ha
  have ha := ha.u32
  have n0 := len12 l0
  obtain ⟨m, h1, h2⟩ := new_is (l0.take 12).length (by omega)
  obtain ⟨m', h3, h4⟩ := place_all (x := l0.take 12) h2 (by simp)
  have hend := traps_end h4 (in_take (in32 h0) 12) ha.1 ha.2
  unfold rivetlaw05_MemoryTraps
  rw [shown_is, take12]
  simp only [Option.bind_some]
  rw [if_pos (ok12 _), h1]
  simp only [Option.bind_some]
  rw [if_pos trivial, if_pos trivial, h3]
  simp only [Option.bind_some, rivetlaw05_MemoryTraps.j2, rivetlaw05_MemoryTraps.j3]
  rw [if_neg (by simp), take12, w64s (x := a1) (by omega) (by omega), w64s (by omega) (by omega)]
  have e4 : ∀ v, rivetlaw05_MemoryTraps.j4 a1 m' l0 v = rivetlaw05_MemoryTraps.j5 m' a1 v l0 (if a1 % 4 = 0 then v else 4) := by
    intro v
    simp only [rivetlaw05_MemoryTraps.j4]
    rw [Int.tmod_eq_emod_of_nonneg ha.1]
    split <;> rfl
  by_cases c : a1 / 4 ≥ ((l0.take 12).length : Int)
  · rw [if_pos (by omega), e4]
    rw [if_pos c] at hend
    exact hend
  · rw [if_neg (by omega), e4]
    rw [if_neg c] at hend
    exact hend
end Go.Proofs.Ytpbfjcpndmmgoaa.T05
