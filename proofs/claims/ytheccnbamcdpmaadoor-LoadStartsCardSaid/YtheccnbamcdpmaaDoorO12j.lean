/- LoadStarts: the plain law. No condition. -/
import Derived.Test.YtheccnbamcdpmaaDoorO12h
import Derived.Test.YtheccnbamcdpmaaDoorT12zLoadStarts
namespace Go.Proofs.YtheccnbamcdpmaaDoor.O12
set_option linter.unusedVariables false
set_option linter.unusedSimpArgs false
open Go Go.RowKit Go.Proofs.YtheccnbamcdpmaaDoor.E Go.Proofs.YtheccnbamcdpmaaDoor.T12 Go.Proofs.YtheccnbamcdpmaaDoor.L07
theorem band64 (x : Int) (n : Nat) (hn : n ≤ 62) : band .i64 x ((2 ^ n - 1 : Nat) : Int) = x % ((2 ^ n : Nat) : Int) := by
  have hp : 0 < 2 ^ n := Nat.two_pow_pos n
  have hle : 2 ^ n ≤ 2 ^ 62 := Nat.pow_le_pow_right (by omega) hn
  have h62 : (2 : Nat) ^ 62 = 4611686018427387904 := by rfl
  unfold band
  rw [BitVec.toNat_and, BitVec.toNat_ofInt, BitVec.toNat_ofInt]
  have e64 : (((2 : Nat) ^ IntKind.i64.bits : Nat) : Int) = 18446744073709551616 := by rfl
  rw [e64]
  have e2 : (((2 ^ n - 1 : Nat) : Int) % 18446744073709551616).toNat = 2 ^ n - 1 := by
    rw [Int.emod_eq_of_lt (by omega) (by omega)]
    rfl
  rw [e2, Nat.and_two_pow_sub_one_eq_mod]
  have hd : ((2 ^ n : Nat) : Int) ∣ 18446744073709551616 := by
    refine ⟨((2 ^ (64 - n) : Nat) : Int), ?_⟩
    rw [← Int.natCast_mul, ← Nat.pow_add, show n + (64 - n) = 64 by omega]
    rfl
  have h1 : x % 18446744073709551616 % ((2 ^ n : Nat) : Int) = x % ((2 ^ n : Nat) : Int) := Int.emod_emod_of_dvd x hd
  have h0 : 0 ≤ x % 18446744073709551616 := Int.emod_nonneg x (by omega)
  have e3 : (((x % 18446744073709551616).toNat % 2 ^ n : Nat) : Int) = x % ((2 ^ n : Nat) : Int) := by
    rw [← h1, Int.natCast_emod, Int.toNat_of_nonneg h0]
  rw [e3]
  have b0 := Int.emod_nonneg x (show ((2 ^ n : Nat) : Int) ≠ 0 by omega)
  have b1 := Int.emod_lt_of_pos x (show (0 : Int) < ((2 ^ n : Nat) : Int) by omega)
  exact w64_id (by omega) (by omega)
theorem words_ok {x : Smemory_Memory} (h0 : 0 ≤ x.n) (h1 : x.n ≤ 4096) : memory_Memory_Words x = some (x.w.toList.take x.n.toNat) := by
  unfold memory_Memory_Words
  rw [if_pos ⟨by decide, h0, h1⟩, clone_is (by simp; omega)]
  rfl
end Go.Proofs.YtheccnbamcdpmaaDoor.O12
namespace Go.Proofs.YtheccnbamcdpmaaDoor.T12
open Go Go.RowKit Go.Proofs.YtheccnbamcdpmaaDoor.E Go.Proofs.YtheccnbamcdpmaaDoor.O12 Go.Proofs.YtheccnbamcdpmaaDoor.L07
theorem Pure.LoadStarts (a0 : Srivetlaw12_Parts) (a1 : Srivetlaw12_Where) : okSrivetlaw12_Parts a0 → okSrivetlaw12_Where a1 → rivetlaw12_LoadStarts a0 a1 = some true := by
  intro h0 h1
  obtain ⟨o, ho, hf⟩ := fitobj_is (w := a0.Words) (b := a0.Bits) (ns := a0.Names) (fun x hx => (h0.1 x hx).u32) (fun s hs => h0.2.2.2.2.1 s hs)
  have hob := hf.ob
  have hwl := hf.wl
  have b1 : band .i64 a1.Base 31 = a1.Base % 32 := band64 a1.Base 5 (by omega)
  have b2 : band .i64 a1.Mem 15 = a1.Mem % 16 := band64 a1.Mem 4 (by omega)
  have e1 : w64 (4 * (band .i64 a1.Base 31)) = 4 * (a1.Base % 32) := by rw [b1, w64s (by omega) (by omega)]
  have hb : baseOk (4 * (a1.Base % 32)) = true := by unfold baseOk; rw [decide_eq_true_eq]; omega
  obtain ⟨d1, d2, d3⟩ := base_div hb
  have e2 : w64 ((w64 ((w64 ((4 * (a1.Base % 32)).tdiv 4)) + (o.Words.length : Int))) + (band .i64 a1.Mem 15)) = 4 * (a1.Base % 32) / 4 + o.Words.length + a1.Mem % 16 := by
    rw [d1, b2, w64s (x := _ / 4 + _) (by omega) (by omega), w64s (by omega) (by omega)]
  unfold rivetlaw12_LoadStarts
  rw [shown_is, Option.bind_some, ho, Option.bind_some, e1]
  simp only [nm]
  rw [e2]
  generalize hm : 4 * (a1.Base % 32) / 4 + (o.Words.length : Int) + a1.Mem % 16 = mem
  generalize hbb : 4 * (a1.Base % 32) = b at *
  have hm0 : 0 ≤ mem := by omega
  have hm1 : mem ≤ 4096 := by omega
  have hfit : b / 4 + (o.Words.length : Int) ≤ mem := by omega
  rw [lm_ok hob hf.may hb hm1 (by simp) hfit, Option.bind_some, image_is hob, img_fit hf.may hb, mnew_ok hm0 hm1 (by simp), d1]
  show (memory_Memory_Place (mem0 mem) (b / 4) (addAll b o.Words o.Sites)).bind _ = _
  rw [place_ok d2 (by rw [addAll_len]; exact hfit) hm1, Option.bind_some]
  show rivetlaw12_LoadStarts.j4 _ _ _ _ (0 != 0) = _
  unfold rivetlaw12_LoadStarts.j4
  rw [if_neg (by simp)]
  unfold rivetlaw12_LoadStarts.j5
  rw [start_is rfl, Option.bind_some, Option.bind_some, Option.bind_some]
  generalize hwv : vcopy (Vector.replicate 4096 0) (b / 4).toNat (addAll b o.Words o.Sites) = wv
  rw [words_ok hm0 hm1, Option.bind_some]
  show (rivetref05_Same _ _).bind _ = _
  rw [same32 (by simp; omega), decide_eq_true rfl, Option.bind_some, if_pos rfl]
  simp only [machine_Machine_PC, machine_Machine_Regs, machine_Machine_Status, machine_Machine_Out, Option.bind_some]
  rw [clone_is (by simp)]
  simp
  rfl
end Go.Proofs.YtheccnbamcdpmaaDoor.T12
