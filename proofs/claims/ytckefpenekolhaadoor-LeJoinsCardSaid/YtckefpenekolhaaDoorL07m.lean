/- The plain law of the statement LeJoins. No condition. -/
import Derived.Test.YtckefpenekolhaaDoorL07k
import Derived.Test.YtckefpenekolhaaDoorT07zLeJoins
namespace Go.Proofs.YtckefpenekolhaaDoor.T07
set_option linter.unusedVariables false
set_option linter.unusedSimpArgs false
open Go Go.RowKit Go.Proofs.YtckefpenekolhaaDoor.E Go.Proofs.YtckefpenekolhaaDoor.L07
theorem takeS_all {l : List Int} (hw : Wd l) : takeS (putS l) (l.length : Int) = (l, 0) := by
  unfold takeS
  have := putS_length l
  have e := wds_put l [] hw
  rw [List.append_nil] at e
  rw [if_neg (by omega), Int.toNat_natCast, e]
theorem set_by {a : List Int} (ha : By a) {i : Nat} {v : Int} (hv : 0 ≤ v ∧ v ≤ 255) : By (a.set i v) := by
  intro x hx
  rcases List.mem_or_eq_of_mem_set hx with h | rfl
  · exact ha x h
  · exact hv
theorem pad_zero {l : List Int} {i : Nat} (h1 : 1 + l.length ≤ i) (h2 : i < (padS l).length) : (padS l).getD i 0 = 0 := by
  have hp := padS_length l
  unfold padS
  rw [List.getD_eq_getElem?_getD, List.getElem?_append_right (by simp only [List.length_cons]; omega), List.getElem?_replicate]
  split <;> rfl
theorem joins_loop {l : List Int} {a2 : ByteArray} (hn : nameS l = true) (hb : By (padS l)) : ∀ (m i : Nat), i + m = (padS l).length → 1 + l.length ≤ i → loopO (fun σ : Int => rivetlaw07_LeJoins.b112 (padS l) a2 σ) (i : Int) = some (.done ())
  | 0, i, h, h1 => loopO_done (by unfold rivetlaw07_LeJoins.b112; rw [if_neg (by omega)])
  | m + 1, i, h, h1 => by
    have hl := nameS_len hn
    have hp := padS_length l
    rw [loopO_next (s' := ((i + 1 : Nat) : Int))]
    · exact joins_loop hn hb m (i + 1) (by omega) (by omega)
    · show rivetlaw07_LeJoins.b112 (padS l) a2 (i : Int) = _
      unfold rivetlaw07_LeJoins.b112
      have hv : 1 ≤ wu8 (1 + wu8 ((a2.size : Int).tmod 255)) ∧ wu8 (1 + wu8 ((a2.size : Int).tmod 255)) ≤ 255 := by
        rw [Int.tmod_eq_emod_of_nonneg (by omega), L07.wu8_eq, L07.wu8_eq]
        omega
      generalize wu8 (1 + wu8 ((a2.size : Int).tmod 255)) = v at *
      simp only [List.nil_append]
      rw [if_pos (by omega), if_pos (by rw [List.length_nil]; omega), if_pos (by omega), Int.toNat_natCast, takename_is (set_by hb (by omega)) (by rw [List.length_set]; omega), Option.bind_some]
      have := takeN_odd hn h1 (show i < (padS l).length by omega) (v := v) (by omega)
      generalize takeN ((padS l).set i v) = t at *
      obtain ⟨t1, t2, t3⟩ := t
      simp only at this ⊢
      subst this
      rw [if_pos (by omega), ix8, pad_zero h1 (by omega), if_pos rfl]
      unfold rivetlaw07_LeJoins.j3 rivetlaw07_LeJoins.j4
      rw [if_neg (by decide), w64s (by omega) (by omega)]
      rfl
theorem Pure.LeJoins (l0 : List Int) (l1 : List Int) (a2 : ByteArray) : (∀ n ∈ l0, In .u32 n) → l0.length * 4 ≤ 140737488351232 → (∀ n ∈ l1, In .u32 n) → l1.length * 4 ≤ 140737488351232 → a2.size ≤ 140737488351232 → rivetlaw07_LeJoins l0 l1 a2 = some true := by
  intro h0 h1 h2 h3 h4
  have hw0 : Wd l0 := fun x hx => (h0 x hx).u32
  have hw1 : Wd l1 := fun x hx => (h2 x hx).u32
  have m0 : 0 ≤ mnn (l0.length : Int) 40 ∧ mnn (l0.length : Int) 40 ≤ (l0.length : Int) ∧ mnn (l0.length : Int) 40 ≤ 40 := by unfold mnn; split <;> omega
  have m1 : 0 ≤ mnn (l1.length : Int) 40 ∧ mnn (l1.length : Int) 40 ≤ (l1.length : Int) ∧ mnn (l1.length : Int) 40 ≤ 40 := by unfold mnn; split <;> omega
  have hm0 : (0 ≤ mnn (l0.length : Int) 40 ∧ mnn (l0.length : Int) 40 ≤ (l0.length : Int)) := ⟨m0.1, m0.2.1⟩
  have hm1 : (0 ≤ mnn (l1.length : Int) 40 ∧ mnn (l1.length : Int) 40 ≤ (l1.length : Int)) := ⟨m1.1, m1.2.1⟩
  have hwx : Wd (l0.take (mnn (l0.length : Int) 40).toNat) := fun x hx => hw0 x (List.mem_of_mem_take hx)
  have hwy : Wd (l1.take (mnn (l1.length : Int) 40).toNat) := fun x hx => hw1 x (List.mem_of_mem_take hx)
  have hlx : (l0.take (mnn (l0.length : Int) 40).toNat).length ≤ 40 := by rw [List.length_take]; omega
  have hly : (l1.take (mnn (l1.length : Int) 40).toNat).length ≤ 40 := by rw [List.length_take]; omega
  unfold rivetlaw07_LeJoins
  rw [shown_is, Option.bind_some, if_pos hm0, if_pos hm1]
  unfold rivetlaw07_LeJoins.j1 rivetlaw07_LeJoins.j2 rivetlaw07_LeJoins.j5
  simp only [List.nil_append, nm]
  generalize l0.take (mnn (l0.length : Int) 40).toNat = x at *
  generalize l1.take (mnn (l1.length : Int) 40).toNat = y at *
  have px := putS_length x
  have py := putS_length y
  have hwxy : Wd (x ++ y) := fun z hz => (List.mem_append.1 hz).elim (hwx z) (hwy z)
  have hlxy : (x ++ y).length = x.length + y.length := List.length_append
  rw [put_is (by omega) hwx, Option.bind_some, put_is (by omega) hwy, Option.bind_some, if_pos (by rw [List.length_nil]; omega), if_pos (by omega), ← putS_append, w64s (by omega) (by omega), show (x.length : Int) + (y.length : Int) = ((x ++ y).length : Int) by rw [hlxy]; omega, take_is (by rw [putS_length]; omega) (putS_by _), Option.bind_some, takeS_all hwxy]
  obtain ⟨v, f1, f2⟩ := fit_is h4
  have hnl := nameS_len f2
  have hq := padS_length (bytesL v)
  have hvl := bytesL_length v
  have hpb : By (padS (bytesL v)) := padS_by (bytesL_by v) (by omega)
  simp only
  rw [f1, Option.bind_some, putname_is, Option.bind_some]
  unfold putN
  rw [if_pos f2]
  simp only
  have g0 : ix (eI .u8).d (padS (bytesL v)) (0 : Int) = (v.size : Int) := by
    have := pad_first (bytesL v) []
    rw [List.append_nil, hvl] at this
    exact this
  have g1 : ((padS (bytesL v)).take (1 + v.size)).drop 1 = bytesL v := by
    have := pad_name (bytesL v) []
    rw [List.append_nil, hvl] at this
    exact this
  have e1 : w64 (1 + (v.size : Int)) = ((1 + v.size : Nat) : Int) := by rw [w64s (by omega) (by omega)]; omega
  have e2 : (1 : Int).toNat = 1 := rfl
  rw [e1, Int.toNat_natCast, g0, e2, g1, nums_bytesL, w64s (x := (v.size : Int)) (by omega) (by omega)]
  have q1 : ¬ ((padS (bytesL v)).length : Int) < ((1 + v.size : Nat) : Int) := by omega
  have q2 : (0 : Int) ≤ 0 ∧ (0 : Int) < ((padS (bytesL v)).length : Int) := by omega
  have q3 : (0 : Int) ≤ 1 ∧ (1 : Int) ≤ ((1 + v.size : Nat) : Int) ∧ ((1 + v.size : Nat) : Int) ≤ ((padS (bytesL v)).length : Int) := by omega
  simp only [if_neg q1, if_pos q2, if_pos q3, if_true, beq_self_eq_true, Bool.not_true, Bool.false_eq_true, if_false]
  rw [joins_loop f2 hpb ((padS (bytesL v)).length - (1 + v.size)) (1 + v.size) (by omega) (by omega), Option.bind_some]
  simp only
  rw [if_pos (by rw [List.length_nil]; omega), if_pos (by omega), same32 (by omega), Option.bind_some, if_pos (by simp), put_is (by omega) hwxy, Option.bind_some]
  simp [rivetlaw07_LeJoins.j6]
end Go.Proofs.YtckefpenekolhaaDoor.T07
