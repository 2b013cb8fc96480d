/- The plain law of the statement MemoryPlaces. No condition. -/
import Derived.Test.YtpbfjcpndmmgoaaM05a
namespace Go.Proofs.Ytpbfjcpndmmgoaa.M05
open Go Go.RowKit Go.Proofs.Ytpbfjcpndmmgoaa.E Go.Proofs.Ytpbfjcpndmmgoaa.T05
theorem places_loop (l0 l1 t : List Int) (a : Nat) (h0 : (l0.take 12).length ≤ 12) (h1 : (l1.take 12).length ≤ 12) (ha : a + (l1.take 12).length ≤ (l0.take 12).length) (ht : t = (l0.take 12).take a ++ l1.take 12 ++ (l0.take 12).drop (a + (l1.take 12).length)) :
    loopO (fun σ : Int => rivetlaw05_MemoryPlaces.b101 t l0 (a : Int) l1 σ) 0 = some (.done ()) := by
  have hlen : t.length = (l0.take 12).length := by rw [ht]; generalize l0.take 12 = w at *; generalize l1.take 12 = y at *; simp; omega
  have hg : ∀ i, i < (l0.take 12).length → t.getD i 0 = if a ≤ i ∧ i < a + (l1.take 12).length then (l1.take 12).getD (i - a) 0 else (l0.take 12).getD i 0 := by
    intro i hi
    rw [ht]
    generalize l0.take 12 = w at *
    generalize l1.take 12 = y at *
    simp only [List.getD_eq_getElem?_getD]
    by_cases h1 : i < a
    · rw [if_neg (by omega), List.append_assoc, List.getElem?_append_left (by simp; omega), List.getElem?_take, if_pos h1]
    · by_cases h2 : i < a + y.length
      · rw [if_pos ⟨by omega, h2⟩, List.append_assoc, List.getElem?_append_right (by simp; omega), List.getElem?_append_left (by simp; omega)]
        have e : i - (w.take a).length = i - a := by simp; omega
        rw [e]
      · rw [if_neg (by omega), List.getElem?_append_right (by simp; omega), List.getElem?_drop]
        have e : a + y.length + (i - (w.take a ++ y).length) = i := by simp; omega
        rw [e]
  obtain ⟨r, h1', h2'⟩ := loopO_inv (b := fun σ : Int => rivetlaw05_MemoryPlaces.b101 t l0 (a : Int) l1 σ) (fun σ => ∃ i : Nat, σ = (i : Int) ∧ i ≤ t.length) (fun σ => ((t.length : Int) - σ).toNat) (fun r => r = .done ()) (by
    rintro _ ⟨i, rfl, hi⟩
    simp only [rivetlaw05_MemoryPlaces.b101]
    by_cases hc : (i : Int) < (t.length : Int)
    · left
      have hti := hg i (by omega)
      have next : ∀ (want : Int), want = t.getD i 0 → ∃ s', rivetlaw05_MemoryPlaces.j9 (i : Int) t want = some (.inl s') ∧ (∃ i' : Nat, s' = (i' : Int) ∧ i' ≤ t.length) ∧ ((t.length : Int) - s').toNat < ((t.length : Int) - (i : Int)).toNat := by
        intro want hw
        simp only [rivetlaw05_MemoryPlaces.j9, rivetlaw05_MemoryPlaces.j10]
        rw [if_pos (by omega), ixd, Int.toNat_natCast, if_pos hw.symm, w64s (by omega) (by omega)]
        exact ⟨_, rfl, ⟨i + 1, rfl, by omega⟩, by omega⟩
      rw [if_pos hc, take12, if_pos (by omega)]
      simp only [nm]
      by_cases h3 : (i : Int) ≥ (a : Int)
      · rw [if_pos h3, take12, w64s (by omega) (by omega)]
        simp only [rivetlaw05_MemoryPlaces.j8]
        by_cases h4 : i < a + (l1.take 12).length
        · rw [if_pos (by simp; simp at h4; omega), take12, w64s (by omega) (by omega), if_pos (by omega)]
          simp only [nm]
          refine next _ ?_
          rw [hti, if_pos ⟨by omega, h4⟩, ixd]
          congr 1; omega
        · rw [if_neg (by simp; simp at h4; omega)]
          refine next _ ?_
          rw [hti, if_neg (by omega), ixd, Int.toNat_natCast]
      · rw [if_neg h3]
        simp only [rivetlaw05_MemoryPlaces.j8]
        rw [if_neg (by simp)]
        refine next _ ?_
        rw [hti, if_neg (by omega), ixd, Int.toNat_natCast]
    · right
      rw [if_neg hc]
      exact ⟨_, rfl, rfl⟩) 0 ⟨0, rfl, by omega⟩
  rw [h1', h2']
end Go.Proofs.Ytpbfjcpndmmgoaa.M05
namespace Go.Proofs.Ytpbfjcpndmmgoaa.T05
open Go Go.RowKit Go.Proofs.Ytpbfjcpndmmgoaa.E Go.Proofs.Ytpbfjcpndmmgoaa.M05
theorem Pure.MemoryPlaces (l0 : List Int) (l1 : List Int) (a2 : Int) : (∀ n ∈ l0, In .u32 n) → l0.length * 4 ≤ 140737488351232 → (∀ n ∈ l1, In .u32 n) → l1.length * 4 ≤ 140737488351232 → In .i64 a2 → rivetlaw05_MemoryPlaces l0 l1 a2 = some true := by
  intro _ _ _ _ ha
  have ha := ha.i64
  have n0 := len12 l0
  have n1 := len12 l1
  obtain ⟨m, h1, h2⟩ := new_is (l0.take 12).length (by omega)
  obtain ⟨m', h3, h4⟩ := place_all (x := l0.take 12) h2 (by simp)
  unfold rivetlaw05_MemoryPlaces
  rw [shown_is, take12]
  simp only [Option.bind_some]
  rw [if_pos (ok12 _), if_pos (ok12 _), h1]
  simp only [Option.bind_some]
  rw [if_pos trivial, if_pos trivial, h3]
  simp only [Option.bind_some, rivetlaw05_MemoryPlaces.j2, rivetlaw05_MemoryPlaces.j3]
  rw [if_neg (by simp), take12, take12]
  -- what does not fit
  have no : a2 < 0 ∨ a2 > ((l0.take 12).length : Int) ∨ ((l1.take 12).length : Int) > ((l0.take 12).length : Int) - a2 → rivetlaw05_MemoryPlaces.j4 m' a2 l1 l0 false = some true := by
    intro hn
    simp only [rivetlaw05_MemoryPlaces.j4]
    rw [take12, take12, place_no h4 hn]
    simp only [Option.bind_some]
    rw [words_is h4]
    simp only [Option.bind_some]
    rw [if_neg (by simp), if_pos trivial, same32 (by omega)]
    simp [rivetlaw05_MemoryPlaces.j5]
  by_cases c1 : a2 ≥ 0
  · rw [if_pos c1]
    by_cases c2 : a2 ≤ ((l0.take 12).length : Int)
    · rw [if_pos c2, w64s (by omega) (by omega)]
      by_cases c3 : ((l1.take 12).length : Int) ≤ ((l0.take 12).length : Int) - a2
      · rw [decide_eq_true c3]
        obtain ⟨a, rfl⟩ := Int.eq_ofNat_of_zero_le c1
        obtain ⟨m2, h5, h6⟩ := place_is (a := a) (x := l1.take 12) h4 (by omega)
        simp only [rivetlaw05_MemoryPlaces.j4]
        rw [take12, take12, h5]
        simp only [Option.bind_some]
        rw [words_is h6]
        simp only [Option.bind_some]
        rw [if_pos trivial, if_pos trivial]
        simp only [rivetlaw05_MemoryPlaces.j6, rivetlaw05_MemoryPlaces.j7]
        have hl2 : ((l0.take 12).take a ++ l1.take 12 ++ (l0.take 12).drop (a + (l1.take 12).length)).length = (l0.take 12).length := by
          generalize l0.take 12 = w at *
          generalize l1.take 12 = y at *
          simp; omega
        rw [hl2, if_neg (by simp), places_loop l0 l1 _ a n0 n1 (by omega) rfl]
        simp [rivetlaw05_MemoryPlaces.j11]
      · rw [decide_eq_false c3]
        exact no (by omega)
    · rw [if_neg c2]
      exact no (by omega)
  · rw [if_neg c1]
    exact no (by omega)
end Go.Proofs.Ytpbfjcpndmmgoaa.T05
