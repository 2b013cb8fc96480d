/- The plain law of the statement MemoryBack. No condition. -/
import Derived.Test.YtpbfjcpndmmgoaaM05d
namespace Go.Proofs.Ytpbfjcpndmmgoaa.M05
open Go Go.RowKit Go.Proofs.Ytpbfjcpndmmgoaa.E Go.Proofs.Ytpbfjcpndmmgoaa.T05
theorem getD_set {l : List Int} {i j : Nat} {v : Int} (hi : i < l.length) : (l.set i v).getD j 0 = if j = i then v else l.getD j 0 := by
  simp only [List.getD_eq_getElem?_getD, List.getElem?_set]
  by_cases h : i = j
  · subst h; simp [hi]
  · rw [if_neg h, if_neg (fun e => h e.symm)]
theorem bytes_of {x b : Int} {j k : Nat} (h0 : 0 ≤ x) (h1 : x ≤ 4294967295) (b0 : 0 ≤ b) (b1 : b ≤ 255) (hj : j < 4) (hk : k < 4) : wu8 (shr .u32 (setb x b ((j : Int) * 8)) ((k : Int) * 8)) = if k = j then b else wu8 (shr .u32 x ((k : Int) * 8)) := by
  rw [byte_val (by omega) (by omega), byte_val (by omega) (by omega), setb_val h0 h1 b0 b1 hj]
  have e : ((k : Int) * 8).toNat = 8 * k := by omega
  rw [e]
  have h := sb_get (n := x.toNat) (c := b.toNat) (j := 8 * j) (k := 8 * k) (by omega) (by omega) (by omega) (by omega)
  have hz : ∀ n : Nat, ((n : Nat) : Int) / 2 ^ (8 * k) % 256 = ((n / 2 ^ (8 * k) % 2 ^ 8 : Nat) : Int) := by
    intro n
    have hk : k = 0 ∨ k = 1 ∨ k = 2 ∨ k = 3 := by omega
    rcases hk with rfl | rfl | rfl | rfl <;> omega
  rw [hz, h]
  have hx : x / 2 ^ (8 * k) % 256 = ((x.toNat / 2 ^ (8 * k) % 2 ^ 8 : Nat) : Int) := by
    rw [← hz, Int.toNat_of_nonneg h0]
  rw [hx]
  by_cases hjk : k = j
  · rw [if_pos (by omega), if_pos hjk, Int.toNat_of_nonneg b0]
  · rw [if_neg (by omega), if_neg hjk]
section
variable {l0 w' : List Int} {m1 : Smemory_Memory} {k : Nat}
theorem back_inner (h1 : Is m1 w') (hlen : w'.length = (l0.take 12).length) (hle : (l0.take 12).length ≤ 12)
    (hsame : ∀ i j : Nat, i < w'.length → j < 4 → 4 * i + j ≠ k → wu8 (shr .u32 (w'.getD i 0) ((j : Int) * 8)) = wu8 (shr .u32 ((l0.take 12).getD i 0) ((j : Int) * 8))) {i : Nat} (hi : i < w'.length) :
    loopO (fun σ : Smemory_Memory × Int => rivetlaw05_MemoryBack.b136 (i : Int) l0 w' (k : Int) σ.1 σ.2) (m1, 0) = some (.done m1) := by
  obtain ⟨r, h2, h3⟩ := loopO_inv (b := fun σ : Smemory_Memory × Int => rivetlaw05_MemoryBack.b136 (i : Int) l0 w' (k : Int) σ.1 σ.2) (fun σ => ∃ j : Nat, σ = (m1, (j : Int)) ∧ j ≤ 4) (fun σ => (4 - σ.2).toNat) (fun r => r = .done m1) (by
    rintro _ ⟨j, rfl, hj⟩
    simp only [rivetlaw05_MemoryBack.b136]
    by_cases hc : (j : Int) < 4
    · left
      have ha : wu32 (w64 (w64 (4 * (i : Int)) + (j : Int))) = 4 * (i : Int) + (j : Int) := by rw [w64s (x := 4 * (i : Int)) (by omega) (by omega), w64s (by omega) (by omega), wu32_id (by omega) (by omega)]
      have hb := byte_is (a := 4 * (i : Int) + (j : Int)) h1 (by omega) (by omega)
      rw [if_neg (by omega), show ((4 * (i : Int) + (j : Int)) / 4).toNat = i by omega, show (4 * (i : Int) + (j : Int)) % 4 * 8 = (j : Int) * 8 by omega] at hb
      have e8 : w64 (8 * (j : Int)) = (j : Int) * 8 := by rw [w64s (by omega) (by omega)]; omega
      rw [if_pos hc, ha, hb, e8]
      simp only [Option.bind_some, nm]
      rw [take12, if_pos (by omega), if_pos (by omega), if_pos trivial, if_pos (by omega), if_pos (by omega), ixd, Int.toNat_natCast, ixd, Int.toNat_natCast, if_pos rfl]
      have fin : ∃ s', rivetlaw05_MemoryBack.j7 (j : Int) m1 false = some (.inl s') ∧ (∃ j' : Nat, s' = (m1, (j' : Int)) ∧ j' ≤ 4) ∧ (4 - s'.2).toNat < (4 - (j : Int)).toNat := by
        simp only [rivetlaw05_MemoryBack.j7, rivetlaw05_MemoryBack.j8]
        rw [if_neg (by simp), w64s (by omega) (by omega)]
        exact ⟨_, rfl, ⟨j + 1, rfl, by omega⟩, by simp only; omega⟩
      by_cases hk : 4 * (i : Int) + (j : Int) = (k : Int)
      · rw [if_pos hk]
        exact fin
      · rw [if_neg hk, hsame i j hi (by omega) (by omega), bne_self_eq_false]
        exact fin
    · right
      rw [if_neg hc]
      exact ⟨_, rfl, rfl⟩) (m1, 0) ⟨0, rfl, by omega⟩
  rw [h2, h3]
theorem back_outer (h1 : Is m1 w') (hlen : w'.length = (l0.take 12).length) (hle : (l0.take 12).length ≤ 12)
    (hsame : ∀ i j : Nat, i < w'.length → j < 4 → 4 * i + j ≠ k → wu8 (shr .u32 (w'.getD i 0) ((j : Int) * 8)) = wu8 (shr .u32 ((l0.take 12).getD i 0) ((j : Int) * 8))) :
    loopO (fun σ : Smemory_Memory × Int => rivetlaw05_MemoryBack.b127 ((l0.take 12).length : Int) l0 w' (k : Int) σ.1 σ.2) (m1, 0) = some (.done m1) := by
  obtain ⟨r, h2, h3⟩ := loopO_inv (b := fun σ : Smemory_Memory × Int => rivetlaw05_MemoryBack.b127 ((l0.take 12).length : Int) l0 w' (k : Int) σ.1 σ.2) (fun σ => ∃ i : Nat, σ = (m1, (i : Int))) (fun σ => (((l0.take 12).length : Int) - σ.2).toNat) (fun r => r = .done m1) (by
    rintro _ ⟨i, rfl⟩
    simp only [rivetlaw05_MemoryBack.b127]
    by_cases hc : (i : Int) < ((l0.take 12).length : Int)
    · left
      rw [if_pos hc, back_inner h1 hlen hle hsame (i := i) (by omega)]
      simp only [Option.bind_some, rivetlaw05_MemoryBack.j9]
      rw [w64s (by omega) (by omega)]
      exact ⟨_, rfl, ⟨i + 1, rfl⟩, by simp only; omega⟩
    · right
      rw [if_neg hc]
      exact ⟨_, rfl, rfl⟩) (m1, 0) ⟨0, rfl⟩
  rw [h2, h3]
theorem back_words {x : Int} {q n : Nat} {y : Int} (hy : y.tdiv 4 = (q : Int)) (hq : q < w'.length) (hn : n = w'.length) (hle : n ≤ 12) :
    loopO (fun σ : Int => rivetlaw05_MemoryBack.b201 (n : Int) y (w'.set q x) w' σ) 0 = some (.done ()) := by
  obtain ⟨r, h2, h3⟩ := loopO_inv (b := fun σ : Int => rivetlaw05_MemoryBack.b201 (n : Int) y (w'.set q x) w' σ) (fun σ => ∃ i : Nat, σ = (i : Int)) (fun σ => ((n : Int) - σ).toNat) (fun r => r = .done ()) (by
    rintro _ ⟨i, rfl⟩
    simp only [rivetlaw05_MemoryBack.b201, rivetlaw05_MemoryBack.j11]
    by_cases hc : (i : Int) < (n : Int)
    · left
      have fin : ∃ s', rivetlaw05_MemoryBack.j13 (i : Int) false = some (.inl s') ∧ (∃ i' : Nat, s' = (i' : Int)) ∧ ((n : Int) - s').toNat < ((n : Int) - (i : Int)).toNat := by
        simp only [rivetlaw05_MemoryBack.j13, rivetlaw05_MemoryBack.j14]
        rw [if_neg (by simp), w64s (by omega) (by omega)]
        exact ⟨_, rfl, ⟨i + 1, rfl⟩, by omega⟩
      rw [if_pos hc, if_pos (by simp; omega)]
      simp only [rivetlaw05_MemoryBack.j12]
      rw [hy, wu32_id (by omega) (by omega), w64s (by omega) (by omega)]
      by_cases he : (i : Int) = (q : Int)
      · rw [if_pos he]
        exact fin
      · rw [if_neg he, if_pos (by simp; omega), if_pos (by omega), ixd, ixd, Int.toNat_natCast, getD_set hq, if_neg (by omega), bne_self_eq_false]
        exact fin
    · right
      rw [if_neg hc, if_neg (by simp)]
      exact ⟨_, rfl, rfl⟩) 0 ⟨0, rfl⟩
  rw [h2, h3]
end
end Go.Proofs.Ytpbfjcpndmmgoaa.M05
namespace Go.Proofs.Ytpbfjcpndmmgoaa.T05
open Go Go.RowKit Go.Proofs.Ytpbfjcpndmmgoaa.E Go.Proofs.Ytpbfjcpndmmgoaa.M05
theorem Pure.MemoryBack (l0 : List Int) (a1 : Int) (a2 : Int) : (∀ n ∈ l0, In .u32 n) → l0.length * 4 ≤ 140737488351232 → In .u16 a1 → In .u32 a2 → rivetlaw05_MemoryBack l0 a1 a2 = some true := by
  intro h0 _ ha hx
  have ha := ha.u16
  have hx := hx.u32
  have n0 := len12 l0
  have hw := in_take (in32 h0) 12
  obtain ⟨m, h1, h2⟩ := new_is (l0.take 12).length (by omega)
  obtain ⟨m', h3, h4⟩ := place_all (x := l0.take 12) h2 (by simp)
  unfold rivetlaw05_MemoryBack
  rw [shown_is, take12]
  simp only [Option.bind_some, nm]
  rw [if_pos (ok12 _), h1]
  simp only [Option.bind_some]
  rw [if_pos trivial, if_pos trivial, h3]
  simp only [Option.bind_some, rivetlaw05_MemoryBack.j2, rivetlaw05_MemoryBack.j3]
  rw [if_neg (by simp)]
  by_cases hn : ((l0.take 12).length : Int) = 0
  · rw [if_pos hn]
    obtain ⟨p1, s1, i1⟩ := setword_is (a := 0) (x := a2) h4 (by omega) (by omega)
    rw [if_pos (by omega), if_pos (by omega)] at s1
    rw [if_neg (by omega)] at i1
    obtain ⟨p2, s2, i2⟩ := setbyte_is (a := 0) (b := 1) i1 (by omega) (by omega)
    rw [if_pos (by omega)] at s2
    rw [if_neg (by omega)] at i2
    obtain ⟨p3, s3, i3⟩ := setword_is (a := 2) (x := a2) i2 (by omega) (by omega)
    rw [if_neg (by omega)] at s3
    rw [if_neg (by omega)] at i3
    rw [s1]
    simp only [Option.bind_some]
    rw [if_pos trivial, s2]
    simp only [Option.bind_some]
    rw [if_pos trivial, s3]
    simp only [Option.bind_some]
    rw [if_pos trivial, words_is i3]
    simp only [Option.bind_some, rivetlaw05_MemoryBack.j4]
    rw [hn]
    rfl
  · rw [if_neg hn]
    have e4 : w64 (4 * ((l0.take 12).length : Int)) = 4 * ((l0.take 12).length : Int) := w64s (by omega) (by omega)
    rw [e4, if_pos (by omega), w64_id (x := a1) (by omega) (by omega), Int.tmod_eq_emod_of_nonneg ha.1]
    have k0 := Int.emod_nonneg a1 (show 4 * ((l0.take 12).length : Int) ≠ 0 by omega)
    have k1 := Int.emod_lt_of_pos a1 (show 0 < 4 * ((l0.take 12).length : Int) by omega)
    generalize hk : a1 % (4 * ((l0.take 12).length : Int)) = kk at *
    obtain ⟨k, rfl⟩ := Int.eq_ofNat_of_zero_le k0
    rw [wu32_id (x := (k : Int)) (by omega) (by omega)]
    have hq : ((k : Int) / 4).toNat < (l0.take 12).length := by omega
    have b0 : 0 ≤ wu8 a2 ∧ wu8 a2 ≤ 255 := by rw [wu8_eq]; omega
    obtain ⟨m1, s1, i1⟩ := setbyte_is (a := (k : Int)) (b := wu8 a2) h4 (by omega) (by omega)
    rw [if_neg (by omega)] at s1
    rw [if_pos (by omega)] at i1
    have hx0 := all_getD hw (d := 0) (by omega) ((k : Int) / 4).toNat
    have eb := byte_is (a := (k : Int)) i1 (by omega) (by omega)
    have hq4 : (k : Int) % 4 * 8 = ((k % 4 : Nat) : Int) * 8 := by omega
    rw [List.length_set, if_neg (by omega), getD_set hq, if_pos rfl, hq4, bytes_of hx0.1 hx0.2 b0.1 b0.2 (by omega) (by omega), if_pos rfl] at eb
    rw [hq4] at i1
    have ew := words_is i1
    have hlen : ((l0.take 12).set ((k : Int) / 4).toNat (setb ((l0.take 12).getD ((k : Int) / 4).toNat 0) (wu8 a2) (((k % 4 : Nat) : Int) * 8))).length = (l0.take 12).length := List.length_set
    have hsame : ∀ i j : Nat, i < ((l0.take 12).set ((k : Int) / 4).toNat (setb ((l0.take 12).getD ((k : Int) / 4).toNat 0) (wu8 a2) (((k % 4 : Nat) : Int) * 8))).length → j < 4 → 4 * i + j ≠ k → wu8 (shr .u32 (((l0.take 12).set ((k : Int) / 4).toNat (setb ((l0.take 12).getD ((k : Int) / 4).toNat 0) (wu8 a2) (((k % 4 : Nat) : Int) * 8))).getD i 0) ((j : Int) * 8)) = wu8 (shr .u32 ((l0.take 12).getD i 0) ((j : Int) * 8)) := by
      intro i j hi hj hne
      rw [getD_set hq]
      by_cases e : i = ((k : Int) / 4).toNat
      · rw [if_pos e, bytes_of hx0.1 hx0.2 b0.1 b0.2 (by omega) hj, if_neg (by omega), ← e]
      · rw [if_neg e]
    have hout := back_outer (k := k) i1 hlen n0 hsame
    generalize hw' : (l0.take 12).set ((k : Int) / 4).toNat (setb ((l0.take 12).getD ((k : Int) / 4).toNat 0) (wu8 a2) (((k % 4 : Nat) : Int) * 8)) = w' at *
    simp only [nm]
    rw [s1]
    simp only [Option.bind_some]
    rw [eb]
    simp only [Option.bind_some]
    rw [ew]
    simp only [Option.bind_some]
    rw [if_pos trivial, if_pos trivial, if_pos trivial, hlen, bne_self_eq_false]
    simp only [rivetlaw05_MemoryBack.j5, rivetlaw05_MemoryBack.j6]
    rw [if_neg (by simp), hout]
    simp only [Option.bind_some, rivetlaw05_MemoryBack.j10, nm]
    have ep : wu32 (wu32 ((k : Int).tdiv 4) * 4) = (k : Int) / 4 * 4 := by rw [Int.tdiv_eq_ediv_of_nonneg (by omega), wu32_id (x := (k : Int) / 4) (by omega) (by omega), wu32_id (by omega) (by omega)]
    rw [ep]
    obtain ⟨m2, s2, i2⟩ := setword_is (a := (k : Int) / 4 * 4) (x := a2) i1 (by omega) (by omega)
    have ediv : (k : Int) / 4 * 4 / 4 = (k : Int) / 4 := by omega
    rw [ediv, if_pos (by omega), if_neg (by omega)] at s2
    rw [ediv, if_pos (by omega)] at i2
    have ewd := word_is (a := (k : Int) / 4 * 4) i2 (by omega) (by omega)
    rw [ediv, if_pos (by omega), List.length_set, if_neg (by omega), getD_set (by omega), if_pos rfl] at ewd
    rw [s2]
    simp only [Option.bind_some]
    rw [ewd]
    simp only [Option.bind_some]
    rw [words_is i2]
    simp only [Option.bind_some]
    have hback := back_words (w' := w') (x := a2) (q := ((k : Int) / 4).toNat) (n := (l0.take 12).length) (y := (k : Int) / 4 * 4) (by rw [Int.tdiv_eq_ediv_of_nonneg (by omega)]; omega) (by omega) (by omega) n0
    rw [hback]
    simp only [Option.bind_some, rivetlaw05_MemoryBack.j15]
    rw [if_pos trivial, if_pos trivial, if_pos trivial, List.length_set, hlen]
    simp [rivetlaw05_MemoryBack.j16]
end Go.Proofs.Ytpbfjcpndmmgoaa.T05
