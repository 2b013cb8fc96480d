/- What the memory's functions come to, told by the words that it has; the plain law of the statement MemoryOwn. No condition. -/
import Derived.Test.YtpbfjcpndmmgoaaT05
namespace Go.Proofs.Ytpbfjcpndmmgoaa.M05
open Go Go.RowKit Go.Proofs.Ytpbfjcpndmmgoaa.E Go.Proofs.Ytpbfjcpndmmgoaa.T05
theorem ixn {k : IntKind} {l : List Int} {i : Nat} (h : i < l.length) : ix (eI k).d l (i : Int) = l[i] := by
  show l.getD (i : Int).toNat 0 = _
  simp [h]
theorem ixd {k : IntKind} {l : List Int} {i : Int} : ix (eI k).d l i = l.getD i.toNat 0 := rfl
theorem drop_at {l : List Int} {i : Nat} (h : i < l.length) : l.drop i = l[i] :: l.drop (i + 1) := List.drop_eq_getElem_cons h
theorem w64s {x : Int} (h0 : -9000000000000000000 ≤ x) (h1 : x ≤ 9000000000000000000) : w64 x = x := w64_id (by omega) (by omega)
theorem same32 {a b : List Int} (ha : a.length ≤ 4611686018427387904) : rivetref05_Same a b = some (decide (a = b)) := by
  unfold rivetref05_Same
  by_cases hl : a.length = b.length
  · rw [if_pos (by omega)]
    have key : ∀ n (i : Nat), a.length - i = n → i ≤ a.length → loopO (fun σ : Int => rivetref05_Same.b9 a b σ) (i : Int) = some (if a.drop i = b.drop i then .done () else .ret false) := by
      intro n
      induction n with
      | zero =>
        intro i hn hi
        rw [loopO_done (r := .done ())]
        · rw [List.drop_of_length_le (by omega), List.drop_of_length_le (by omega)]; simp
        · simp only [rivetref05_Same.b9]
          rw [if_neg (by omega)]
      | succ n ih =>
        intro i hn hi
        have h1 : i < a.length := by omega
        have h2 : i < b.length := by omega
        by_cases he : a[i] = b[i]
        · rw [loopO_next (s' := ((i + 1 : Nat) : Int)), ih (i + 1) (by omega) (by omega), drop_at h1, drop_at h2, he]
          · simp only [List.cons.injEq, true_and]
          · simp only [rivetref05_Same.b9]
            rw [if_pos (by omega), if_pos (by omega), if_pos (by omega), ixn h1, ixn h2, if_pos he, w64s (by omega) (by omega)]
            rfl
        · rw [loopO_done (r := .ret false), drop_at h1, drop_at h2, if_neg (fun e => he (List.cons.inj e).1)]
          · simp only [rivetref05_Same.b9]
            rw [if_pos (by omega), if_pos (by omega), if_pos (by omega), ixn h1, ixn h2, if_neg he]
    have := key a.length 0 (by omega) (by omega)
    simp only [Int.natCast_zero, List.drop_zero] at this
    rw [this]
    by_cases he : a = b
    · simp [he, rivetref05_Same.j1]
    · simp [he]
  · rw [if_neg (by omega)]
    have : a ≠ b := fun e => hl (by rw [e])
    simp [this]
/-- The memory has these words. -/
structure Is (m : Smemory_Memory) (l : List Int) : Prop where
  n : m.n = (l.length : Int)
  le : l.length ≤ 4096
  at' : ∀ i, i < l.length → vx 0 m.w i = l.getD i 0
theorem Is.list {m : Smemory_Memory} {l : List Int} (h : Is m l) : m.w.toList.take m.n.toNat = l := by
  have hn := h.n
  have hle := h.le
  apply List.ext_getElem?
  intro i
  rw [hn, Int.toNat_natCast, List.getElem?_take]
  by_cases hi : i < l.length
  · rw [if_pos hi, List.getElem?_eq_getElem hi]
    have h1 := h.at' i hi
    have h2 : i < m.w.toList.length := by simp; omega
    rw [List.getElem?_eq_getElem h2]
    unfold vx at h1
    rw [List.getD_eq_getElem?_getD, List.getD_eq_getElem?_getD, List.getElem?_eq_getElem h2, List.getElem?_eq_getElem hi] at h1
    simpa using h1
  · rw [if_neg hi, List.getElem?_eq_none (by omega)]
theorem new_is (n : Nat) (hn : n ≤ 4096) : ∃ m, memory_New (n : Int) = some (some m, 0) ∧ Is m (List.replicate n 0) := by
  refine ⟨⟨Vector.replicate 4096 0, (n : Int)⟩, ?_, by simp, by simpa using hn, fun i hi => ?_⟩
  · unfold memory_New
    rw [if_neg (by omega)]
    simp only [memory_New.j1, memory_New.j2]
    rw [if_neg (by simp; omega)]
  · have h1 : i < 4096 := by simp at hi; omega
    rw [vx_get h1]
    simp at hi
    simp [hi]
theorem words_is {m : Smemory_Memory} {l : List Int} (h : Is m l) : memory_Memory_Words m = some (l, m) := by
  unfold memory_Memory_Words
  have hn := h.n
  have hle := h.le
  rw [if_pos (by omega), h.list]
  simp only [slices_Clone_uint32_uint32, Int.toNat_zero, List.drop_zero]
  rw [if_pos (by simp; omega)]
  simp
theorem place_no {m : Smemory_Memory} {l x : List Int} {a : Int} (h : Is m l) (ha : a < 0 ∨ a > (l.length : Int) ∨ (x.length : Int) > (l.length : Int) - a) : memory_Memory_Place m a x = some (11, m) := by
  unfold memory_Memory_Place
  have hn := h.n
  have hle := h.le
  by_cases h1 : a < 0
  · rw [if_pos h1]; simp [memory_Memory_Place.j1]
  · rw [if_neg h1]
    by_cases h2 : a > m.n
    · rw [if_pos h2]; simp [memory_Memory_Place.j1]
    · rw [if_neg h2, w64s (by omega) (by omega)]
      simp only [memory_Memory_Place.j1]
      rw [if_pos (by simp; omega)]
theorem place_is {m : Smemory_Memory} {l x : List Int} {a : Nat} (h : Is m l) (ha : a + x.length ≤ l.length) : ∃ m', memory_Memory_Place m (a : Int) x = some (0, m') ∧ Is m' (l.take a ++ x ++ l.drop (a + x.length)) := by
  have hn := h.n
  have hle := h.le
  have hlen : (l.take a ++ x ++ l.drop (a + x.length)).length = l.length := by simp; omega
  refine ⟨{ m with w := vcopy m.w a x }, ?_, by rw [hlen]; exact hn, by rw [hlen]; exact hle, fun i hi => ?_⟩
  · unfold memory_Memory_Place
    rw [if_neg (by omega), if_neg (by omega), w64s (by omega) (by omega)]
    simp only [memory_Memory_Place.j1, memory_Memory_Place.j2]
    rw [if_neg (by simp; omega), if_pos (by omega), h.list, Int.toNat_natCast, List.take_of_length_le (by simp; omega)]
  · rw [hlen] at hi
    show vx 0 (vcopy m.w a x) i = _
    rw [vx_vcopy (by omega)]
    have hat := h.at' i hi
    simp only [List.getD_eq_getElem?_getD] at hat ⊢
    by_cases h1 : i < a
    · rw [if_neg (by omega), hat, List.append_assoc, List.getElem?_append_left (by simp; omega), List.getElem?_take, if_pos h1]
    · by_cases h2 : i < a + x.length
      · rw [if_pos ⟨by omega, h2⟩, List.append_assoc, List.getElem?_append_right (by simp; omega), List.getElem?_append_left (by simp; omega)]
        have e : i - (l.take a).length = i - a := by simp; omega
        rw [e]
      · rw [if_neg (by omega), hat, List.getElem?_append_right (by simp; omega), List.getElem?_drop]
        have e : a + x.length + (i - (l.take a ++ x).length) = i := by simp; omega
        rw [e]
theorem place_all {m : Smemory_Memory} {l x : List Int} (h : Is m l) (hx : x.length = l.length) : ∃ m', memory_Memory_Place m 0 x = some (0, m') ∧ Is m' x := by
  obtain ⟨m', h1, h2⟩ := place_is (a := 0) (x := x) h (by omega)
  refine ⟨m', h1, ?_⟩
  have e : l.take 0 ++ x ++ l.drop (0 + x.length) = x := by rw [List.drop_of_length_le (by omega)]; simp
  rwa [e] at h2
theorem take12 (l : List Int) : l.take (mnn (l.length : Int) 12).toNat = l.take 12 := take_min l 12 (by omega)
theorem len12 (l : List Int) : (l.take 12).length ≤ 12 := by simp; omega
theorem ok12 (l : List Int) : 0 ≤ mnn (l.length : Int) 12 ∧ mnn (l.length : Int) 12 ≤ (l.length : Int) := mnn_ok _ _ (by omega) (by omega)
theorem shown_is : rivetlaw05_shown = some true := by
  obtain ⟨m, h1, h2⟩ := new_is 1 (by omega)
  have h1 : memory_New 1 = some (some m, 0) := h1
  obtain ⟨m', h3, h4⟩ := place_all (x := [67305985]) h2 rfl
  unfold rivetlaw05_shown
  rw [h1]
  simp only [Option.bind_some, rivetlaw05_shown.j2, rivetlaw05_shown.j3]
  rw [if_neg (by simp), h3]
  simp only [Option.bind_some]
  have h5 : memory_Memory_Byte m' 1 = some (2, 0, m') := by
    unfold memory_Memory_Byte
    have hn := h4.n
    have hw := h4.at' 0 (by simp)
    have e1 : wu32 ((1 : Int).tdiv 4) = 0 := by decide
    have e2 : wu32 ((1 : Int).tmod 4 * 8) = 8 := by decide
    rw [if_pos (by decide), e1, if_neg (by rw [hn]; decide), if_pos (by decide), e2, if_pos (by decide)]
    simp only [nm]
    rw [show (0 : Int).toNat = 0 from rfl, hw]
    rfl
  rw [h5]
  rfl
/-- A row that is filled: the loop ends. -/
theorem fill_a (x : Int) (l : List Int) (hl : l.length ≤ 100) : ∃ r, loopO (fun σ : List Int × Int => rivetlaw05_MemoryOwn.b72 x σ.1 σ.2) (l, 0) = some r := by
  obtain ⟨r, h, _⟩ := loopO_inv (b := fun σ : List Int × Int => rivetlaw05_MemoryOwn.b72 x σ.1 σ.2) (fun σ => σ.1.length = l.length ∧ 0 ≤ σ.2) (fun σ => ((l.length : Int) - σ.2).toNat) (fun _ => True) (by
    rintro ⟨u, i⟩ ⟨h1, h2⟩
    simp only at h1 h2
    simp only [rivetlaw05_MemoryOwn.b72]
    by_cases hc : i < (u.length : Int)
    · left
      rw [if_pos hc, if_pos ⟨h2, hc⟩, w64s (by omega) (by omega)]
      exact ⟨_, rfl, ⟨by simpa using h1, by simp only; omega⟩, by simp only; omega⟩
    · right
      rw [if_neg hc]
      exact ⟨_, rfl, trivial⟩) (l, 0) ⟨rfl, Int.le_refl 0⟩
  exact ⟨r, h⟩
theorem fill_b (x : Int) (l : List Int) (hl : l.length ≤ 100) : ∃ r, loopO (fun σ : List Int × Int => rivetlaw05_MemoryOwn.b87 x σ.1 σ.2) (l, 0) = some r := by
  obtain ⟨r, h, _⟩ := loopO_inv (b := fun σ : List Int × Int => rivetlaw05_MemoryOwn.b87 x σ.1 σ.2) (fun σ => σ.1.length = l.length ∧ 0 ≤ σ.2) (fun σ => ((l.length : Int) - σ.2).toNat) (fun _ => True) (by
    rintro ⟨u, i⟩ ⟨h1, h2⟩
    simp only at h1 h2
    simp only [rivetlaw05_MemoryOwn.b87]
    by_cases hc : i < (u.length : Int)
    · left
      rw [if_pos hc, if_pos ⟨h2, hc⟩, w64s (by omega) (by omega)]
      exact ⟨_, rfl, ⟨by simpa using h1, by simp only; omega⟩, by simp only; omega⟩
    · right
      rw [if_neg hc]
      exact ⟨_, rfl, trivial⟩) (l, 0) ⟨rfl, Int.le_refl 0⟩
  exact ⟨r, h⟩
end Go.Proofs.Ytpbfjcpndmmgoaa.M05
namespace Go.Proofs.Ytpbfjcpndmmgoaa.T05
open Go Go.RowKit Go.Proofs.Ytpbfjcpndmmgoaa.E Go.Proofs.Ytpbfjcpndmmgoaa.M05
theorem Pure.MemoryOwn (l0 : List Int) (a1 : Int) : (∀ n ∈ l0, In .u32 n) → l0.length * 4 ≤ 140737488351232 → In .u32 a1 → rivetlaw05_MemoryOwn l0 a1 = some true := by
  intro _ _ _
  have n0 := len12 l0
  obtain ⟨m, h1, h2⟩ := new_is (l0.take 12).length (by omega)
  obtain ⟨m', h3, h4⟩ := place_all (x := l0.take 12) h2 (by simp)
  have h5 := words_is h4
  obtain ⟨r1, f1⟩ := fill_a a1 (l0.take 12) (by omega)
  obtain ⟨r2, f2⟩ := fill_b a1 (l0.take 12) (by omega)
  have h6 := place_no (x := l0.take 12) (a := 1) h4 (by omega)
  unfold rivetlaw05_MemoryOwn
  rw [shown_is, take12]
  simp only [Option.bind_some, List.nil_append]
  rw [if_pos (ok12 _), if_pos (by simp; omega), h1]
  simp only [Option.bind_some]
  rw [if_pos trivial, if_pos trivial, h3]
  simp only [Option.bind_some, rivetlaw05_MemoryOwn.j2, rivetlaw05_MemoryOwn.j3]
  rw [if_neg (by simp), h5]
  simp only [Option.bind_some, List.nil_append]
  rw [take12, f1]
  simp only [Option.bind_some, rivetlaw05_MemoryOwn.j4]
  rw [f2]
  simp only [Option.bind_some, rivetlaw05_MemoryOwn.j5]
  rw [h5]
  simp only [Option.bind_some]
  rw [if_pos (ok12 _), take12, same32 (by omega)]
  simp only [Option.bind_some, decide_true]
  rw [if_pos trivial, if_pos (ok12 _), h6]
  simp [rivetlaw05_MemoryOwn.j6]
end Go.Proofs.Ytpbfjcpndmmgoaa.T05
