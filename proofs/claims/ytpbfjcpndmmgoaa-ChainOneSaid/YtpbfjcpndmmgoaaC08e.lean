/- The plain law of the statement ChainOne. No condition. -/
import Derived.Test.YtpbfjcpndmmgoaaC08d
import Derived.Test.YtpbfjcpndmmgoaaT08o
namespace Go.Proofs.Ytpbfjcpndmmgoaa.T08
open Go Go.RowKit Go.Proofs.Ytpbfjcpndmmgoaa.E Go.Proofs.Ytpbfjcpndmmgoaa.C08
theorem Pure.ChainOne (a0 : Int) (a1 : Vector Int 2) (a2 : Vector Int 2) : In .u8 a0 → (∀ j, j < 2 → In .u8 (vx 0 a1 j)) → (∀ j, j < 2 → In .u16 (vx 0 a2 j)) → rivetlaw08_ChainOne a0 a1 a2 = some true := by
  intro h0 h1 h2
  have b0 := h0.u8
  have k0 := (h1 0 (by omega)).u8
  have k1 := (h1 1 (by omega)).u8
  have x0 := (h2 0 (by omega)).u16
  have x1 := (h2 1 (by omega)).u16
  generalize hI0 : vx 0 a1 0 = i0 at *
  generalize hJ0 : vx 0 a1 1 = j0 at *
  generalize hX0 : vx 0 a2 0 = X at *
  generalize hX1 : vx 0 a2 1 = Y at *
  unfold rivetlaw08_ChainOne
  rw [shown_is, hX0, hX1, hI0, hJ0]
  simp only [Option.bind_some, nm]
  have e1 : w64 (2 + w64 (a0.tmod 32)) = 2 + a0 % 32 := by rw [Int.tmod_eq_emod_of_nonneg b0.1, w64s (x := a0 % 32) (by omega) (by omega), w64s (by omega) (by omega)]
  rw [e1]
  obtain ⟨n, hn⟩ : ∃ n : Nat, 2 + a0 % 32 = (n : Int) := ⟨(2 + a0 % 32).toNat, by omega⟩
  have hn2 : 2 ≤ n ∧ n ≤ 33 := by omega
  rw [hn, w64_id (x := i0) (by omega) (by omega), w64_id (x := j0) (by omega) (by omega), Int.tmod_eq_emod_of_nonneg k0.1, Int.tmod_eq_emod_of_nonneg k1.1]
  have hi1 := Int.emod_nonneg i0 (show (n : Int) ≠ 0 by omega)
  have hi2 := Int.emod_lt_of_pos i0 (show (0 : Int) < (n : Int) by omega)
  have hj1 := Int.emod_nonneg j0 (show (n : Int) ≠ 0 by omega)
  have hj2 := Int.emod_lt_of_pos j0 (show (0 : Int) < (n : Int) by omega)
  rw [if_pos (by omega), if_pos (by omega), if_pos (by omega)]
  have hlo : ∃ lo hi : Nat, mnn (i0 % (n : Int)) (j0 % (n : Int)) = (lo : Int) ∧ mxx (i0 % (n : Int)) (j0 % (n : Int)) = (hi : Int) ∧ lo ≤ hi ∧ hi < n := by
    refine ⟨(mnn (i0 % (n : Int)) (j0 % (n : Int))).toNat, (mxx (i0 % (n : Int)) (j0 % (n : Int))).toNat, ?_, ?_, ?_, ?_⟩ <;> (simp only [mnn, mxx]; (repeat' split) <;> omega)
  generalize i0 % (n : Int) = i at *
  generalize j0 % (n : Int) = j at *
  obtain ⟨lo, hi, hl, hh, hle, hlt⟩ := hlo
  rw [hl, hh]
  rw [if_pos (by rw [List.length_replicate]; omega), if_pos (by rw [List.length_set, List.length_replicate]; omega)]
  rw [wu32_id (x := X) (by omega) (by omega), wu32_id (x := Y) (by omega) (by omega)]
  simp only [Int.toNat_natCast]
  generalize hw : ((List.replicate n (eI .u32).d).set lo X).set hi Y = w
  have wl : w.length = n := by rw [← hw]; simp
  have wall : ∀ x ∈ w, 0 ≤ x ∧ x ≤ 4294967295 := by
    rw [← hw]
    refine all_set (all_set ?_ ?_ _) ?_ _
    · intro x hx
      rw [List.mem_replicate] at hx
      have : x = 0 := hx.2
      omega
    · omega
    · omega
  have whi : w.getD hi 0 = Y := by rw [← hw, getD_set (by simp; omega), if_pos rfl]
  have wlo : lo ≠ hi → w.getD lo 0 = X := by intro h; rw [← hw, getD_set (by simp; omega), if_neg (fun e => h e), getD_set (by simp; omega), if_pos rfl]
  have p1 : packed w [(hi : Int)] = (w.set hi (Y * 65536), (hi : Int) + 1, 0) := by
    rw [packed_some (p := (w.set hi (Y * 65536), (hi : Int) + 1)) _ (List.pairwise_singleton _ _) (by simp; omega)]
    simp only [C08.pk, Int.toNat_natCast, whi]
    rw [if_neg (by omega), Int.add_zero]
  rw [pack_chain w _ (by simp) (by omega) wall, p1]
  simp only [Option.bind_some]
  have e2 : w64 ((hi : Int) + 1) = (hi : Int) + 1 := w64s (by omega) (by omega)
  rw [if_pos trivial, if_pos trivial, e2, if_pos rfl, if_pos (by simp; omega), if_pos (by simp; omega)]
  have e3 : ix (eI .u32).d (w.set hi (Y * 65536)) (hi : Int) = Y * 65536 := by rw [ixd, Int.toNat_natCast, getD_set (by omega), if_pos rfl]
  have e4 : wu32 (Y * 2 ^ 16) = Y * 65536 := by rw [show (2 : Int) ^ 16 = 65536 by decide, wu32_id (by omega) (by omega)]
  have e4' : wu32 (X * 2 ^ 16) = X * 65536 := by rw [show (2 : Int) ^ 16 = 65536 by decide, wu32_id (by omega) (by omega)]
  have orv : ∀ (Z : Int) (m : Nat), 0 ≤ Z → Z ≤ 65535 → m < 65536 → bor .u32 (Z * 65536) (m : Int) = Z * 65536 + m := by
    intro Z m z0 z1 hm
    rw [bor_nat (by decide) (by omega) (by simp only [umax]; omega) (by omega) (by simp only [umax]; omega), show (Z * 65536).toNat = 2 ^ 16 * Z.toNat by omega, or_high (by omega)]
    omega
  rw [e3, e4]
  simp only [bne_self_eq_false, rivetlaw08_ChainOne.j1]
  rw [if_neg (by simp)]
  simp only [rivetlaw08_ChainOne.j2]
  rw [hl, hh, hX0, hX1, wu32_id (x := X) (by omega) (by omega), wu32_id (x := Y) (by omega) (by omega)]
  simp only [Int.toNat_natCast]
  rw [hw, e2, e4, e4', e3, if_pos (by simp; omega), if_pos (by simp; omega)]
  have e5 : wu32 ((hi : Int) + 1) = ((hi + 1 : Nat) : Int) := by rw [wu32_id (by omega) (by omega)]; rfl
  rw [e5, orv Y (hi + 1) x1.1 x1.2 (by omega), List.set_set]
  have u1 : unpacked (w.set hi (Y * 65536 + ((hi + 1 : Nat) : Int))) ((hi : Int) + 1) = ([], [], 10) := by
    unfold unpacked
    rw [if_neg (by simp; omega), show ((hi : Int) + 1).toNat = hi + 1 by omega, up_bad (by rw [getD_set (by omega), if_pos rfl]; omega)]
  rw [unpack_chain _ _ (by simp; omega) (all_set wall (by omega) _), u1]
  simp only [Option.bind_some]
  have p2 : packed w [(hi : Int), (lo : Int)] = ([], 0, 7) := by
    unfold packed
    rw [if_neg]
    simp only [rise, Bool.and_eq_true, decide_eq_true_eq]
    omega
  have q2 := pack_chain w [(hi : Int), (lo : Int)] (by simp) (by omega) wall
  rw [p2] at q2
  by_cases he : lo = hi
  · rw [if_pos (by omega), q2]
    simp [rivetlaw08_ChainOne.j3]
  · rw [if_neg (by omega), q2]
    have p3 : packed w [(lo : Int), (hi : Int)] = ((w.set lo (X * 65536)).set hi (Y * 65536 + ((lo : Int) + 1)), (hi : Int) + 1, 0) := by
      rw [packed_some (p := ((w.set lo (X * 65536)).set hi (Y * 65536 + ((lo : Int) + 1)), (hi : Int) + 1)) _ (by simp; omega) (by simp; omega)]
      simp only [C08.pk, Int.toNat_natCast, wlo he]
      rw [if_neg (by omega), Int.add_zero, getD_set (by omega), if_neg (show ¬ hi = lo by omega), whi, if_neg (by omega)]
    rw [pack_chain w _ (by simp) (by omega) wall, p3]
    simp only [Option.bind_some]
    have e6 : wu32 (w64 ((lo : Int) + 1)) = ((lo + 1 : Nat) : Int) := by rw [w64s (by omega) (by omega), wu32_id (by omega) (by omega)]; rfl
    rw [e6, orv Y (lo + 1) x1.1 x1.2 (by omega), ixd, ixd, Int.toNat_natCast, Int.toNat_natCast, getD_set (by simp; omega), if_pos rfl, getD_set (i := hi) (j := lo) (by simp; omega), if_neg he, getD_set (by omega), if_pos rfl]
    have len2 : (((w.set lo (X * 65536)).set hi (Y * 65536 + ((lo : Int) + 1))).length : Int) = (n : Int) := by simp; omega
    rw [if_pos trivial, if_pos trivial, if_pos trivial, if_pos len2, if_pos (by rw [len2]; omega), if_pos (by omega), if_pos (by rw [len2]; omega), if_pos rfl]
    rfl
end Go.Proofs.Ytpbfjcpndmmgoaa.T08
