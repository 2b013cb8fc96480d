/- YtheccnbamcdpmaaT06: Go functions told as plain ones, each with a proof that its call comes to what is told, part 1. Condition of each: that the plain function comes to a value. -/
import Derived.Test.YtheccnbamcdpmaaEP
import Derived.Test.YtheccnbamcdpmaaProg
namespace Go.Proofs.Ytheccnbamcdpmaa.T06
open Go Go.RowKit Go.Proofs.Ytheccnbamcdpmaa.E
set_option linter.unusedVariables false
set_option linter.unusedSimpArgs false
def eA109 : Enc (Vector Int 3) := ⟨3, fun x => [.int .i64 (vx 0 x 0), .int .i64 (vx 0 x 1), .int .i64 (vx 0 x 2)], (Vector.replicate 3 0), by decide, fun _ => rfl, fun x u hu => by simp at hu; rcases hu with rfl | rfl | rfl <;> rfl⟩
structure Sapi_Instr where
  Kind : Int
  Op : Int
  A : Int
  B : Int
  C : Int
  Imm : Int
  U : Bool
def eSapi_Instr : Enc Sapi_Instr := ⟨7, fun x => [.int .i64 x.Kind, .int .i64 x.Op, .int .i64 x.A, .int .i64 x.B, .int .i64 x.C, .int .i64 x.Imm, .bool x.U], (⟨0, 0, 0, 0, 0, 0, false⟩ : Sapi_Instr), by decide, fun _ => rfl, fun x u hu => by simp at hu; rcases hu with rfl | rfl | rfl | rfl | rfl | rfl | rfl <;> rfl⟩
structure Sapi_Regs where
  R : Vector Int 16
  H : Int
  N : Bool
  Z : Bool
  C : Bool
  V : Bool
def eSapi_Regs : Enc Sapi_Regs := ⟨21, fun x => [.int .u32 (vx 0 x.R 0), .int .u32 (vx 0 x.R 1), .int .u32 (vx 0 x.R 2), .int .u32 (vx 0 x.R 3), .int .u32 (vx 0 x.R 4), .int .u32 (vx 0 x.R 5), .int .u32 (vx 0 x.R 6), .int .u32 (vx 0 x.R 7), .int .u32 (vx 0 x.R 8), .int .u32 (vx 0 x.R 9), .int .u32 (vx 0 x.R 10), .int .u32 (vx 0 x.R 11), .int .u32 (vx 0 x.R 12), .int .u32 (vx 0 x.R 13), .int .u32 (vx 0 x.R 14), .int .u32 (vx 0 x.R 15), .int .u32 x.H, .bool x.N, .bool x.Z, .bool x.C, .bool x.V], (⟨(Vector.replicate 16 0), 0, false, false, false, false⟩ : Sapi_Regs), by decide, fun _ => rfl, fun x u hu => by simp at hu; rcases hu with rfl | rfl | rfl | rfl | rfl | rfl | rfl | rfl | rfl | rfl | rfl | rfl | rfl | rfl | rfl | rfl | rfl | rfl | rfl | rfl | rfl <;> rfl⟩
def eA112 : Enc (Vector Bool 4) := ⟨4, fun x => [.bool (vx false x 0), .bool (vx false x 1), .bool (vx false x 2), .bool (vx false x 3)], (Vector.replicate 4 false), by decide, fun _ => rfl, fun x u hu => by simp at hu; rcases hu with rfl | rfl | rfl | rfl <;> rfl⟩
def eA94 : Enc (Vector Bool 8) := ⟨8, fun x => [.bool (vx false x 0), .bool (vx false x 1), .bool (vx false x 2), .bool (vx false x 3), .bool (vx false x 4), .bool (vx false x 5), .bool (vx false x 6), .bool (vx false x 7)], (Vector.replicate 8 false), by decide, fun _ => rfl, fun x u hu => by simp at hu; rcases hu with rfl | rfl | rfl | rfl | rfl | rfl | rfl | rfl <;> rfl⟩
structure Smemory_Memory where
  w : Vector Int 4096
  n : Int
def eSmemory_Memory : Enc Smemory_Memory := ⟨4097, fun x => (x.w.toList.map (Value.int .u32)) ++ [.int .i64 x.n], (⟨(Vector.replicate 4096 0), 0⟩ : Smemory_Memory), by decide, fun x => by simp, fun x u hu => by simp at hu; rcases hu with ⟨_, _, rfl⟩ | rfl <;> rfl⟩
theorem eSmemory_Memory_is (x : Smemory_Memory) : eSmemory_Memory.enc x = (x.w.toList.map (Value.int .u32)) ++ [.int .i64 x.n] := rfl
structure Srivetref05_Memory where
  B : List Int
structure Smachine_Machine where
  Memory : Option Smemory_Memory
  s : Sapi_Regs
  pc : Int
  status : Int
  in' : List Int
  out : List Int
structure Srivetref06_Machine where
  M : Option Srivetref05_Memory
  S : Sapi_Regs
  PC : Int
  Status : Int
  In : List Int
  Out : List Int
structure Srivetlaw06_Set where
  S : Sapi_Regs
  PC : Int
  In : List Int
def okSapi_Instr (x : Sapi_Instr) : Prop := In .i64 x.Kind ∧ In .i64 x.Op ∧ In .i64 x.A ∧ In .i64 x.B ∧ In .i64 x.C ∧ In .i64 x.Imm
def okSapi_Regs (x : Sapi_Regs) : Prop := (∀ j, j < 16 → In .u32 (vx 0 x.R j)) ∧ In .u32 x.H
def okSmemory_Memory (x : Smemory_Memory) : Prop := (∀ j, j < 4096 → In .u32 (vx 0 x.w j)) ∧ In .i64 x.n
def okSrivetref05_Memory (x : Srivetref05_Memory) : Prop := (∀ n ∈ x.B, In .u8 n) ∧ x.B.length * 1 ≤ 140737488351232
def okSrivetlaw06_Set (x : Srivetlaw06_Set) : Prop := okSapi_Regs x.S ∧ In .u32 x.PC ∧ (∀ n ∈ x.In, In .u32 n) ∧ x.In.length * 4 ≤ 140737488351232
def mSmemory_Memory (A : Option Addr) (x : Smemory_Memory) : Asn := own 75 eSmemory_Memory A 1 [x]
def mSrivetref05_Memory (A : Option Addr) (x : Srivetref05_Memory) : Asn := fun L => ∃ g A1 c1, A = some ⟨g, 0, none⟩ ∧ Cov [box g 99 [.slice A1 x.B.length c1], own 5 (eI .u8) A1 c1 x.B] L
theorem mSrivetref05_Memory.addr {G : List Nat} {w0 w : World} {As : List Asn} {A : Option Addr} {x : Srivetref05_Memory} (h : St G w0 w (mSrivetref05_Memory A x :: As)) : ∃ g, A = some ⟨g, 0, none⟩ ∧ St G w0 w (mSrivetref05_Memory (some ⟨g, 0, none⟩) x :: As) := by
  have h' := h
  obtain ⟨L, ⟨L1, L2, rfl, ⟨g, A1, c1, rfl, hc⟩, hr⟩, hs⟩ := h
  exact ⟨g, rfl, h'⟩
theorem mSrivetref05_Memory.open {G : List Nat} {w0 w : World} {As : List Asn} {A : Option Addr} {x : Srivetref05_Memory} (h : St G w0 w (mSrivetref05_Memory A x :: As)) : ∃ g A1 c1, A = some ⟨g, 0, none⟩ ∧ St G w0 w ([box g 99 [.slice A1 x.B.length c1], own 5 (eI .u8) A1 c1 x.B] ++ As) := by
  obtain ⟨L, ⟨L1, L2, rfl, ⟨g, A1, c1, rfl, hc⟩, hr⟩, hs⟩ := h
  exact ⟨g, A1, c1, rfl, _, Cov.join hr hc, hs⟩
theorem mSrivetref05_Memory.open1 {G : List Nat} {w0 w : World} {As : List Asn} {g : Nat} {x : Srivetref05_Memory} (h : St G w0 w (mSrivetref05_Memory (some ⟨g, 0, none⟩) x :: As)) : ∃ A1 c1, St G w0 w ([box g 99 [.slice A1 x.B.length c1], own 5 (eI .u8) A1 c1 x.B] ++ As) := by
  obtain ⟨g', A1, c1, hg, h⟩ := mSrivetref05_Memory.open h
  cases hg
  exact ⟨A1, c1, h⟩
theorem mSrivetref05_Memory.close {G : List Nat} {w0 w : World} {As : List Asn} {g : Nat} {A1 : Option Addr} {c1 : Nat} {x : Srivetref05_Memory} (h : St G w0 w ([box g 99 [.slice A1 x.B.length c1], own 5 (eI .u8) A1 c1 x.B] ++ As)) : St G w0 w (mSrivetref05_Memory (some ⟨g, 0, none⟩) x :: As) := by
  obtain ⟨L, hc, hs⟩ := h
  obtain ⟨L1, L2, rfl, h1, h2⟩ := Cov.split (Gs := [box g 99 [.slice A1 x.B.length c1], own 5 (eI .u8) A1 c1 x.B]) hc
  exact ⟨_, ⟨L1, L2, rfl, ⟨g, A1, c1, rfl, h1⟩, h2⟩, hs⟩
def mSmachine_Machine (A : Option Addr) (x : Smachine_Machine) : Asn := fun L => ∃ g A1 A2 c2 A3 c3, A = some ⟨g, 0, none⟩ ∧ Cov [box g 40 ([.pointer A1] ++ eSapi_Regs.enc x.s ++ [.int .u32 x.pc, .int .i64 x.status, .slice A2 x.in'.length c2, .slice A3 x.out.length c3]), oM mSmemory_Memory A1 x.Memory, rdo (eI .u32) A2 c2 x.in', own 23 (eI .u32) A3 c3 x.out] L
theorem mSmachine_Machine.addr {G : List Nat} {w0 w : World} {As : List Asn} {A : Option Addr} {x : Smachine_Machine} (h : St G w0 w (mSmachine_Machine A x :: As)) : ∃ g, A = some ⟨g, 0, none⟩ ∧ St G w0 w (mSmachine_Machine (some ⟨g, 0, none⟩) x :: As) := by
  have h' := h
  obtain ⟨L, ⟨L1, L2, rfl, ⟨g, A1, A2, c2, A3, c3, rfl, hc⟩, hr⟩, hs⟩ := h
  exact ⟨g, rfl, h'⟩
theorem mSmachine_Machine.open {G : List Nat} {w0 w : World} {As : List Asn} {A : Option Addr} {x : Smachine_Machine} (h : St G w0 w (mSmachine_Machine A x :: As)) : ∃ g A1 A2 c2 A3 c3, A = some ⟨g, 0, none⟩ ∧ St G w0 w ([box g 40 ([.pointer A1] ++ eSapi_Regs.enc x.s ++ [.int .u32 x.pc, .int .i64 x.status, .slice A2 x.in'.length c2, .slice A3 x.out.length c3]), oM mSmemory_Memory A1 x.Memory, rdo (eI .u32) A2 c2 x.in', own 23 (eI .u32) A3 c3 x.out] ++ As) := by
  obtain ⟨L, ⟨L1, L2, rfl, ⟨g, A1, A2, c2, A3, c3, rfl, hc⟩, hr⟩, hs⟩ := h
  exact ⟨g, A1, A2, c2, A3, c3, rfl, _, Cov.join hr hc, hs⟩
theorem mSmachine_Machine.open1 {G : List Nat} {w0 w : World} {As : List Asn} {g : Nat} {x : Smachine_Machine} (h : St G w0 w (mSmachine_Machine (some ⟨g, 0, none⟩) x :: As)) : ∃ A1 A2 c2 A3 c3, St G w0 w ([box g 40 ([.pointer A1] ++ eSapi_Regs.enc x.s ++ [.int .u32 x.pc, .int .i64 x.status, .slice A2 x.in'.length c2, .slice A3 x.out.length c3]), oM mSmemory_Memory A1 x.Memory, rdo (eI .u32) A2 c2 x.in', own 23 (eI .u32) A3 c3 x.out] ++ As) := by
  obtain ⟨g', A1, A2, c2, A3, c3, hg, h⟩ := mSmachine_Machine.open h
  cases hg
  exact ⟨A1, A2, c2, A3, c3, h⟩
theorem mSmachine_Machine.close {G : List Nat} {w0 w : World} {As : List Asn} {g : Nat} {A1 : Option Addr} {A2 : Option Addr} {c2 : Nat} {A3 : Option Addr} {c3 : Nat} {x : Smachine_Machine} (h : St G w0 w ([box g 40 ([.pointer A1] ++ eSapi_Regs.enc x.s ++ [.int .u32 x.pc, .int .i64 x.status, .slice A2 x.in'.length c2, .slice A3 x.out.length c3]), oM mSmemory_Memory A1 x.Memory, rdo (eI .u32) A2 c2 x.in', own 23 (eI .u32) A3 c3 x.out] ++ As)) : St G w0 w (mSmachine_Machine (some ⟨g, 0, none⟩) x :: As) := by
  obtain ⟨L, hc, hs⟩ := h
  obtain ⟨L1, L2, rfl, h1, h2⟩ := Cov.split (Gs := [box g 40 ([.pointer A1] ++ eSapi_Regs.enc x.s ++ [.int .u32 x.pc, .int .i64 x.status, .slice A2 x.in'.length c2, .slice A3 x.out.length c3]), oM mSmemory_Memory A1 x.Memory, rdo (eI .u32) A2 c2 x.in', own 23 (eI .u32) A3 c3 x.out]) hc
  exact ⟨_, ⟨L1, L2, rfl, ⟨g, A1, A2, c2, A3, c3, rfl, h1⟩, h2⟩, hs⟩
def mSrivetref06_Machine (A : Option Addr) (x : Srivetref06_Machine) : Asn := fun L => ∃ g A1 A2 c2 A3 c3, A = some ⟨g, 0, none⟩ ∧ Cov [box g 72 ([.pointer A1] ++ eSapi_Regs.enc x.S ++ [.int .u32 x.PC, .int .i64 x.Status, .slice A2 x.In.length c2, .slice A3 x.Out.length c3]), oM mSrivetref05_Memory A1 x.M, rdo (eI .u32) A2 c2 x.In, own 23 (eI .u32) A3 c3 x.Out] L
theorem mSrivetref06_Machine.addr {G : List Nat} {w0 w : World} {As : List Asn} {A : Option Addr} {x : Srivetref06_Machine} (h : St G w0 w (mSrivetref06_Machine A x :: As)) : ∃ g, A = some ⟨g, 0, none⟩ ∧ St G w0 w (mSrivetref06_Machine (some ⟨g, 0, none⟩) x :: As) := by
  have h' := h
  obtain ⟨L, ⟨L1, L2, rfl, ⟨g, A1, A2, c2, A3, c3, rfl, hc⟩, hr⟩, hs⟩ := h
  exact ⟨g, rfl, h'⟩
theorem mSrivetref06_Machine.open {G : List Nat} {w0 w : World} {As : List Asn} {A : Option Addr} {x : Srivetref06_Machine} (h : St G w0 w (mSrivetref06_Machine A x :: As)) : ∃ g A1 A2 c2 A3 c3, A = some ⟨g, 0, none⟩ ∧ St G w0 w ([box g 72 ([.pointer A1] ++ eSapi_Regs.enc x.S ++ [.int .u32 x.PC, .int .i64 x.Status, .slice A2 x.In.length c2, .slice A3 x.Out.length c3]), oM mSrivetref05_Memory A1 x.M, rdo (eI .u32) A2 c2 x.In, own 23 (eI .u32) A3 c3 x.Out] ++ As) := by
  obtain ⟨L, ⟨L1, L2, rfl, ⟨g, A1, A2, c2, A3, c3, rfl, hc⟩, hr⟩, hs⟩ := h
  exact ⟨g, A1, A2, c2, A3, c3, rfl, _, Cov.join hr hc, hs⟩
theorem mSrivetref06_Machine.open1 {G : List Nat} {w0 w : World} {As : List Asn} {g : Nat} {x : Srivetref06_Machine} (h : St G w0 w (mSrivetref06_Machine (some ⟨g, 0, none⟩) x :: As)) : ∃ A1 A2 c2 A3 c3, St G w0 w ([box g 72 ([.pointer A1] ++ eSapi_Regs.enc x.S ++ [.int .u32 x.PC, .int .i64 x.Status, .slice A2 x.In.length c2, .slice A3 x.Out.length c3]), oM mSrivetref05_Memory A1 x.M, rdo (eI .u32) A2 c2 x.In, own 23 (eI .u32) A3 c3 x.Out] ++ As) := by
  obtain ⟨g', A1, A2, c2, A3, c3, hg, h⟩ := mSrivetref06_Machine.open h
  cases hg
  exact ⟨A1, A2, c2, A3, c3, h⟩
theorem mSrivetref06_Machine.close {G : List Nat} {w0 w : World} {As : List Asn} {g : Nat} {A1 : Option Addr} {A2 : Option Addr} {c2 : Nat} {A3 : Option Addr} {c3 : Nat} {x : Srivetref06_Machine} (h : St G w0 w ([box g 72 ([.pointer A1] ++ eSapi_Regs.enc x.S ++ [.int .u32 x.PC, .int .i64 x.Status, .slice A2 x.In.length c2, .slice A3 x.Out.length c3]), oM mSrivetref05_Memory A1 x.M, rdo (eI .u32) A2 c2 x.In, own 23 (eI .u32) A3 c3 x.Out] ++ As)) : St G w0 w (mSrivetref06_Machine (some ⟨g, 0, none⟩) x :: As) := by
  obtain ⟨L, hc, hs⟩ := h
  obtain ⟨L1, L2, rfl, h1, h2⟩ := Cov.split (Gs := [box g 72 ([.pointer A1] ++ eSapi_Regs.enc x.S ++ [.int .u32 x.PC, .int .i64 x.Status, .slice A2 x.In.length c2, .slice A3 x.Out.length c3]), oM mSrivetref05_Memory A1 x.M, rdo (eI .u32) A2 c2 x.In, own 23 (eI .u32) A3 c3 x.Out]) hc
  exact ⟨_, ⟨L1, L2, rfl, ⟨g, A1, A2, c2, A3, c3, rfl, h1⟩, h2⟩, hs⟩
def mSrivetlaw06_Set (A : Option Addr) (x : Srivetlaw06_Set) : Asn := fun L => ∃ g A1 c1, A = some ⟨g, 0, none⟩ ∧ Cov [box g 28 (eSapi_Regs.enc x.S ++ [.int .u32 x.PC, .slice A1 x.In.length c1]), own 23 (eI .u32) A1 c1 x.In] L
theorem mSrivetlaw06_Set.addr {G : List Nat} {w0 w : World} {As : List Asn} {A : Option Addr} {x : Srivetlaw06_Set} (h : St G w0 w (mSrivetlaw06_Set A x :: As)) : ∃ g, A = some ⟨g, 0, none⟩ ∧ St G w0 w (mSrivetlaw06_Set (some ⟨g, 0, none⟩) x :: As) := by
  have h' := h
  obtain ⟨L, ⟨L1, L2, rfl, ⟨g, A1, c1, rfl, hc⟩, hr⟩, hs⟩ := h
  exact ⟨g, rfl, h'⟩
theorem mSrivetlaw06_Set.open {G : List Nat} {w0 w : World} {As : List Asn} {A : Option Addr} {x : Srivetlaw06_Set} (h : St G w0 w (mSrivetlaw06_Set A x :: As)) : ∃ g A1 c1, A = some ⟨g, 0, none⟩ ∧ St G w0 w ([box g 28 (eSapi_Regs.enc x.S ++ [.int .u32 x.PC, .slice A1 x.In.length c1]), own 23 (eI .u32) A1 c1 x.In] ++ As) := by
  obtain ⟨L, ⟨L1, L2, rfl, ⟨g, A1, c1, rfl, hc⟩, hr⟩, hs⟩ := h
  exact ⟨g, A1, c1, rfl, _, Cov.join hr hc, hs⟩
theorem mSrivetlaw06_Set.open1 {G : List Nat} {w0 w : World} {As : List Asn} {g : Nat} {x : Srivetlaw06_Set} (h : St G w0 w (mSrivetlaw06_Set (some ⟨g, 0, none⟩) x :: As)) : ∃ A1 c1, St G w0 w ([box g 28 (eSapi_Regs.enc x.S ++ [.int .u32 x.PC, .slice A1 x.In.length c1]), own 23 (eI .u32) A1 c1 x.In] ++ As) := by
  obtain ⟨g', A1, c1, hg, h⟩ := mSrivetlaw06_Set.open h
  cases hg
  exact ⟨A1, c1, h⟩
theorem mSrivetlaw06_Set.close {G : List Nat} {w0 w : World} {As : List Asn} {g : Nat} {A1 : Option Addr} {c1 : Nat} {x : Srivetlaw06_Set} (h : St G w0 w ([box g 28 (eSapi_Regs.enc x.S ++ [.int .u32 x.PC, .slice A1 x.In.length c1]), own 23 (eI .u32) A1 c1 x.In] ++ As)) : St G w0 w (mSrivetlaw06_Set (some ⟨g, 0, none⟩) x :: As) := by
  obtain ⟨L, hc, hs⟩ := h
  obtain ⟨L1, L2, rfl, h1, h2⟩ := Cov.split (Gs := [box g 28 (eSapi_Regs.enc x.S ++ [.int .u32 x.PC, .slice A1 x.In.length c1]), own 23 (eI .u32) A1 c1 x.In]) hc
  exact ⟨_, ⟨L1, L2, rfl, ⟨g, A1, c1, rfl, h1⟩, h2⟩, hs⟩
def rSmemory_Memory (w : World) (A : Option Addr) (x : Smemory_Memory) : Prop := Rd w eSmemory_Memory A 1 [x]
theorem rSmemory_Memory.blocks {w w' : World} {A : Option Addr} {x : Smemory_Memory} (h : rSmemory_Memory w A x) (hb : ∀ k, k < w.heap.size → w'.heap[k]? = w.heap[k]?) : rSmemory_Memory w' A x := Rd.blocks h hb
theorem rSmemory_Memory.of_m {G : List Nat} {w0 w : World} {As : List Asn} {A : Option Addr} {x : Smemory_Memory} (h : St G w0 w (mSmemory_Memory A x :: As)) : rSmemory_Memory w A x := Rd.of_own h
theorem rSmemory_Memory.below {w w' : World} {A : Option Addr} {x : Smemory_Memory} (h : rSmemory_Memory w A x) (hb : Below w.heap.size w w') : rSmemory_Memory w' A x := h.blocks hb.block
theorem rSmemory_Memory.old {w0 w : World} {As : List Asn} {A : Option Addr} {x : Smemory_Memory} (h : rSmemory_Memory w0 A x) (hs : St [] w0 w As) : rSmemory_Memory w A x := h.below hs.below
def rSmachine_Machine (w : World) (A : Option Addr) (x : Smachine_Machine) : Prop := ∃ g A1 A2 c2 A3 c3, A = some ⟨g, 0, none⟩ ∧ Rx w g ([.pointer A1] ++ eSapi_Regs.enc x.s ++ [.int .u32 x.pc, .int .i64 x.status, .slice A2 x.in'.length c2, .slice A3 x.out.length c3]) ∧ oR rSmemory_Memory w A1 x.Memory ∧ Rd w (eI .u32) A2 c2 x.in' ∧ Rd w (eI .u32) A3 c3 x.out
theorem rSmachine_Machine.blocks {w w' : World} {A : Option Addr} {x : Smachine_Machine} (h : rSmachine_Machine w A x) (hb : ∀ k, k < w.heap.size → w'.heap[k]? = w.heap[k]?) : rSmachine_Machine w' A x := by
  obtain ⟨g, A1, A2, c2, A3, c3, hA, hx, h1, h2, h3⟩ := h
  exact ⟨g, A1, A2, c2, A3, c3, hA, hx.blocks hb, oR.blocks (fun _ h => rSmemory_Memory.blocks h hb) h1, h2.blocks hb, h3.blocks hb⟩
theorem rSmachine_Machine.of_m {G : List Nat} {w0 w : World} {As : List Asn} {A : Option Addr} {x : Smachine_Machine} (h : St G w0 w (mSmachine_Machine A x :: As)) : rSmachine_Machine w A x := by
  obtain ⟨g, A1, A2, c2, A3, c3, hA, h⟩ := mSmachine_Machine.open h
  exact ⟨g, A1, A2, c2, A3, c3, hA, Rx.of_box h, oR.of_oM (fun _ h => rSmemory_Memory.of_m h) (h.up 1), Rd.of_rdo (h.up 2), Rd.of_own (h.up 3)⟩
theorem rSmachine_Machine.below {w w' : World} {A : Option Addr} {x : Smachine_Machine} (h : rSmachine_Machine w A x) (hb : Below w.heap.size w w') : rSmachine_Machine w' A x := h.blocks hb.block
theorem rSmachine_Machine.old {w0 w : World} {As : List Asn} {A : Option Addr} {x : Smachine_Machine} (h : rSmachine_Machine w0 A x) (hs : St [] w0 w As) : rSmachine_Machine w A x := h.below hs.below
/-! math/bits.Add32: function 82 -/
noncomputable def math_bits_Add32 (a0 : Int) (a1 : Int) (a2 : Int) : Option (Int × Int) := some (wu32 (wu64 ((wu64 ((wu64 a0) + (wu64 a1))) + (wu64 a2))), wu32 ((wu64 ((wu64 ((wu64 a0) + (wu64 a1))) + (wu64 a2))).fdiv (2 ^ 32)))
set_option maxRecDepth 100000 in
set_option maxHeartbeats 4000000 in
theorem math_bits_Add32.calls (a0 : Int) (a1 : Int) (a2 : Int) (r : Int × Int) (w0 : World) (H : math_bits_Add32 a0 a1 a2 = some r) :
    Calls Try.prog 82 #[.int .u32 a0, .int .u32 a1, .int .u32 a2] w0 fun e w' => e = .returned (.tuple #[.int .u32 r.1, .int .u32 r.2]) ∧ St [] w0 w' [] := by
 have hw : St [] w0 w0 [] := St.nil w0
 unfold math_bits_Add32 at H
 refine go_fn Try.func82 rfl Try.ntmps82 ?_; intro a hs
 refine go_sp [] [] hs ?_; clear hs; intro a hs
 refine go_sp [0, 1, 2] [(8, .int .u64 (wu64 ((wu64 ((wu64 a0) + (wu64 a1))) + (wu64 a2))))] hs ?_; clear hs; intro a hs
 refine go_sp [] [(6, .int .u32 (wu32 (wu64 ((wu64 ((wu64 a0) + (wu64 a1))) + (wu64 a2)))))] hs ?_; clear hs; intro a hs
 refine go_sp [8] [(7, .int .u32 (wu32 ((wu64 ((wu64 ((wu64 a0) + (wu64 a1))) + (wu64 a2))).fdiv (2 ^ 32))))] hs ?_; clear hs; intro a hs
 refine wp_ret ?_
 obtain rfl := Option.some.inj H
 refine ret2 (t1 := 6) (v1 := .int .u32 (wu32 (wu64 ((wu64 ((wu64 a0) + (wu64 a1))) + (wu64 a2))))) (t2 := 7) (v2 := .int .u32 (wu32 ((wu64 ((wu64 ((wu64 a0) + (wu64 a1))) + (wu64 a2))).fdiv (2 ^ 32)))) hs (by kernel_rfl) (by kernel_rfl) (by kernel_rfl) ?_
 exact ⟨rfl, hw.only 0⟩

/-! math/bits.Sub32: function 84 -/
noncomputable def math_bits_Sub32 (a0 : Int) (a1 : Int) (a2 : Int) : Option (Int × Int) := some (wu32 ((wu32 (a0 - a1)) - a2), (bor .u32 (band .u32 (bxor .u32 4294967295 a0) a1) (band .u32 (bxor .u32 4294967295 (bxor .u32 a0 a1)) (wu32 ((wu32 (a0 - a1)) - a2)))).fdiv (2 ^ 31))
set_option maxRecDepth 100000 in
set_option maxHeartbeats 4000000 in
theorem math_bits_Sub32.calls (a0 : Int) (a1 : Int) (a2 : Int) (r : Int × Int) (w0 : World) (H : math_bits_Sub32 a0 a1 a2 = some r) :
    Calls Try.prog 84 #[.int .u32 a0, .int .u32 a1, .int .u32 a2] w0 fun e w' => e = .returned (.tuple #[.int .u32 r.1, .int .u32 r.2]) ∧ St [] w0 w' [] := by
 have hw : St [] w0 w0 [] := St.nil w0
 unfold math_bits_Sub32 at H
 refine go_fn Try.func84 rfl Try.ntmps84 ?_; intro a hs
 refine go_sp [] [] hs ?_; clear hs; intro a hs
 refine go_sp [2] [(6, .int .u32 (wu32 ((wu32 (a0 - a1)) - a2)))] hs ?_; clear hs; intro a hs
 refine go_sp [0, 1] [(7, .int .u32 ((bor .u32 (band .u32 (bxor .u32 4294967295 a0) a1) (band .u32 (bxor .u32 4294967295 (bxor .u32 a0 a1)) (wu32 ((wu32 (a0 - a1)) - a2)))).fdiv (2 ^ 31)))] hs ?_; clear hs; intro a hs
 refine wp_ret ?_
 obtain rfl := Option.some.inj H
 refine ret2 (t1 := 6) (v1 := .int .u32 (wu32 ((wu32 (a0 - a1)) - a2))) (t2 := 7) (v2 := .int .u32 ((bor .u32 (band .u32 (bxor .u32 4294967295 a0) a1) (band .u32 (bxor .u32 4294967295 (bxor .u32 a0 a1)) (wu32 ((wu32 (a0 - a1)) - a2)))).fdiv (2 ^ 31))) hs (by kernel_rfl) (by kernel_rfl) (by kernel_rfl) ?_
 exact ⟨rfl, hw.only 0⟩

/-! math/bits.RotateLeft32: function 81 -/
noncomputable def math_bits_RotateLeft32 (a0 : Int) (a1 : Int) : Option Int := (if 0 ≤ (band .u64 (wu64 a1) 31) then (if 0 ≤ (wu64 (32 - (band .u64 (wu64 a1) 31))) then some (bor .u32 (shl .u32 a0 (band .u64 (wu64 a1) 31)) (shr .u32 a0 (wu64 (32 - (band .u64 (wu64 a1) 31))))) else none) else none)
set_option maxRecDepth 100000 in
set_option maxHeartbeats 4000000 in
theorem math_bits_RotateLeft32.calls (a0 : Int) (a1 : Int) (r : Int) (w0 : World) (H : math_bits_RotateLeft32 a0 a1 = some r) :
    Calls Try.prog 81 #[.int .u32 a0, .int .i64 a1] w0 fun e w' => e = .returned (.int .u32 r) ∧ St [] w0 w' [] := by
 have hw : St [] w0 w0 [] := St.nil w0
 unfold math_bits_RotateLeft32 at H
 refine go_fn Try.func81 rfl Try.ntmps81 ?_; intro a hs
 refine go_sp [] [] hs ?_; clear hs; intro a hs
 refine go_sp [1] [(5, .int .u64 (band .u64 (wu64 a1) 31))] hs ?_; clear hs; intro a hs
 refine go_sk fun K3 hK3 => ?_
 refine go_pvs 2 [] [(9, .int .u32 a0), (10, .int .u64 (band .u64 (wu64 a1) 31))] hs ?_; clear hs; intro a hs
 obtain ⟨hp4, H⟩ := ite_only H
 refine go_run hs (by rfl) (x_shl (k := .u32) (k' := .u64) (m := a0) (n := band .u64 (wu64 a1) 31) (by kernel_rfl) (by kernel_rfl) hp4) [9, 10] ?_; clear hs; intro a hs
 refine go_pvs 6 [0, 5] [(12, .int .u32 a0), (14, .int .u64 (wu64 (32 - (band .u64 (wu64 a1) 31))))] hs ?_; clear hs; intro a hs
 obtain ⟨hp5, H⟩ := ite_only H
 refine go_run hs (by rfl) (x_shr (k := .u32) (k' := .u64) (m := a0) (n := wu64 (32 - (band .u64 (wu64 a1) 31))) (by kernel_rfl) (by kernel_rfl) hp5) [12, 14] ?_; clear hs; intro a hs
 refine go_pvs 9 [11, 15] [(4, .int .u32 (bor .u32 (shl .u32 a0 (band .u64 (wu64 a1) 31)) (shr .u32 a0 (wu64 (32 - (band .u64 (wu64 a1) 31))))))] hs ?_; clear hs; intro a hs
 refine go_end (hK3 _ _ ?_)
 refine wp_ret ?_
 obtain rfl := Option.some.inj H
 refine ret1 (t := 4) (v := .int .u32 (bor .u32 (shl .u32 a0 (band .u64 (wu64 a1) 31)) (shr .u32 a0 (wu64 (32 - (band .u64 (wu64 a1) 31)))))) hs (by kernel_rfl) (by kernel_rfl) ?_
 exact ⟨rfl, hw.only 0⟩

/-! rivet/word.one: function 83 -/
noncomputable def word_one (a0 : Bool) : Option Int := (if a0 = true then some 1 else some 0)
set_option maxRecDepth 100000 in
set_option maxHeartbeats 4000000 in
theorem word_one.calls (a0 : Bool) (r : Int) (w0 : World) (H : word_one a0 = some r) :
    Calls Try.prog 83 #[.bool a0] w0 fun e w' => e = .returned (.int .u32 r) ∧ St [] w0 w' [] := by
 have hw : St [] w0 w0 [] := St.nil w0
 unfold word_one at H
 refine go_fn Try.func83 rfl Try.ntmps83 ?_; intro a hs
 refine go_sp [] [] hs ?_; clear hs; intro a hs
 refine go_seq_k fun K2 hK2 => ?_
 refine go_sp [0] [(3, .bool a0)] hs ?_; clear hs; intro a hs
 refine go_cond hs a0 (fun hc => ?_) fun hc => ?_
 ·replace H := ite_t H hc
  have hb4 := hc
  rw [hb4] at hs
  refine go_sp [3] [(2, .int .u32 1)] hs ?_; clear hs; intro a hs
  refine wp_ret ?_
  refine th_ret ?_
  obtain rfl := Option.some.inj H
  refine ret1 (t := 2) (v := .int .u32 1) hs (by kernel_rfl) (by kernel_rfl) ?_
  exact ⟨rfl, hw.only 0⟩
 ·replace H := ite_f H (ff hc)
  have hb6 := hc
  rw [hb6] at hs
  refine wp_skip ?_
  refine hK2 _ _ ?_
  refine go_sp [3] [(2, .int .u32 0)] hs ?_; clear hs; intro a hs
  refine wp_ret ?_
  obtain rfl := Option.some.inj H
  refine ret1 (t := 2) (v := .int .u32 0) hs (by kernel_rfl) (by kernel_rfl) ?_
  exact ⟨rfl, hw.only 0⟩

/-! rivet/word.Add: function 63 -/
noncomputable def word_Add (a0 : Int) (a1 : Int) (a2 : Bool) : Option (Int × Bool × Bool) := ((word_one a2).bind fun t4 => (((math_bits_Add32 a0 a1 t4).bind fun ⟨t9, t10⟩ => (some (t9, t10 == 1, ((band .u32 (bxor .u32 a0 t9) (bxor .u32 a1 t9)).fdiv (2 ^ 31)) == 1)))))
set_option maxRecDepth 100000 in
set_option maxHeartbeats 4000000 in
theorem word_Add.calls (a0 : Int) (a1 : Int) (a2 : Bool) (r : Int × Bool × Bool) (w0 : World) (H : word_Add a0 a1 a2 = some r) :
    Calls Try.prog 63 #[.int .u32 a0, .int .u32 a1, .bool a2] w0 fun e w' => e = .returned (.tuple #[.int .u32 r.1, .bool r.2.1, .bool r.2.2]) ∧ St [] w0 w' [] := by
 have hw : St [] w0 w0 [] := St.nil w0
 unfold word_Add at H
 refine go_fn Try.func63 rfl Try.ntmps63 ?_; intro a hs
 refine go_sp [] [] hs ?_; clear hs; intro a hs
 refine go_sk fun K2 hK2 => ?_
 refine go_pvs 3 [2] [(12, .int .u32 a0), (13, .int .u32 a1), (14, .bool a2)] hs ?_; clear hs; intro a hs
 obtain ⟨t4, hx5, H⟩ := bind_some H
 refine go_call hs (by rfl) (word_one.calls a2 t4 _ hx5) ?_
 rintro e wd6 ⟨rfl, hw7⟩
 refine ⟨_, rfl, ?_⟩
 replace hw := hw.call hw7
 clear hs; intro a hs; replace hs := hs.rms [14]
 obtain ⟨⟨t9, t10⟩, hx11, H⟩ := bind_some H
 refine go_call hs (by rfl) (math_bits_Add32.calls a0 a1 t4 (t9, t10) _ hx11) ?_
 rintro e wd12 ⟨rfl, hw13⟩
 refine ⟨_, rfl, ?_⟩
 replace hw := hw.call hw13
 clear hs; intro a hs; replace hs := hs.rms [12, 13, 15]
 refine go_pvs 10 [16] [(9, .int .u32 t9), (10, .int .u32 t10)] hs ?_; clear hs; intro a hs
 refine go_end (hK2 _ _ ?_)
 refine go_sp [0, 1, 9, 10] [(6, .int .u32 t9), (7, .bool (t10 == 1)), (8, .bool (((band .u32 (bxor .u32 a0 t9) (bxor .u32 a1 t9)).fdiv (2 ^ 31)) == 1))] hs ?_; clear hs; intro a hs
 refine wp_ret ?_
 obtain rfl := Option.some.inj H
 refine ret3 (t1 := 6) (v1 := .int .u32 t9) (t2 := 7) (v2 := .bool (t10 == 1)) (t3 := 8) (v3 := .bool (((band .u32 (bxor .u32 a0 t9) (bxor .u32 a1 t9)).fdiv (2 ^ 31)) == 1)) hs (by kernel_rfl) (by kernel_rfl) (by kernel_rfl) (by kernel_rfl) ?_
 exact ⟨rfl, hw.only 0⟩

/-! rivet/word.Sub: function 65 -/
noncomputable def word_Sub (a0 : Int) (a1 : Int) (a2 : Bool) : Option (Int × Bool × Bool) := ((word_one a2).bind fun t4 => (((math_bits_Sub32 a0 a1 t4).bind fun ⟨t9, t10⟩ => (some (t9, t10 == 1, ((band .u32 (bxor .u32 a0 a1) (bxor .u32 a0 t9)).fdiv (2 ^ 31)) == 1)))))
set_option maxRecDepth 100000 in
set_option maxHeartbeats 4000000 in
theorem word_Sub.calls (a0 : Int) (a1 : Int) (a2 : Bool) (r : Int × Bool × Bool) (w0 : World) (H : word_Sub a0 a1 a2 = some r) :
    Calls Try.prog 65 #[.int .u32 a0, .int .u32 a1, .bool a2] w0 fun e w' => e = .returned (.tuple #[.int .u32 r.1, .bool r.2.1, .bool r.2.2]) ∧ St [] w0 w' [] := by
 have hw : St [] w0 w0 [] := St.nil w0
 unfold word_Sub at H
 refine go_fn Try.func65 rfl Try.ntmps65 ?_; intro a hs
 refine go_sp [] [] hs ?_; clear hs; intro a hs
 refine go_sk fun K2 hK2 => ?_
 refine go_pvs 3 [2] [(12, .int .u32 a0), (13, .int .u32 a1), (14, .bool a2)] hs ?_; clear hs; intro a hs
 obtain ⟨t4, hx5, H⟩ := bind_some H
 refine go_call hs (by rfl) (word_one.calls a2 t4 _ hx5) ?_
 rintro e wd6 ⟨rfl, hw7⟩
 refine ⟨_, rfl, ?_⟩
 replace hw := hw.call hw7
 clear hs; intro a hs; replace hs := hs.rms [14]
 obtain ⟨⟨t9, t10⟩, hx11, H⟩ := bind_some H
 refine go_call hs (by rfl) (math_bits_Sub32.calls a0 a1 t4 (t9, t10) _ hx11) ?_
 rintro e wd12 ⟨rfl, hw13⟩
 refine ⟨_, rfl, ?_⟩
 replace hw := hw.call hw13
 clear hs; intro a hs; replace hs := hs.rms [12, 13, 15]
 refine go_pvs 10 [16] [(9, .int .u32 t9), (10, .int .u32 t10)] hs ?_; clear hs; intro a hs
 refine go_end (hK2 _ _ ?_)
 refine go_sp [0, 1, 9, 10] [(6, .int .u32 t9), (7, .bool (t10 == 1)), (8, .bool (((band .u32 (bxor .u32 a0 a1) (bxor .u32 a0 t9)).fdiv (2 ^ 31)) == 1))] hs ?_; clear hs; intro a hs
 refine wp_ret ?_
 obtain rfl := Option.some.inj H
 refine ret3 (t1 := 6) (v1 := .int .u32 t9) (t2 := 7) (v2 := .bool (t10 == 1)) (t3 := 8) (v3 := .bool (((band .u32 (bxor .u32 a0 a1) (bxor .u32 a0 t9)).fdiv (2 ^ 31)) == 1)) hs (by kernel_rfl) (by kernel_rfl) (by kernel_rfl) (by kernel_rfl) ?_
 exact ⟨rfl, hw.only 0⟩

/-! rivet/word.Shift: function 56 -/
noncomputable def word_Shift (a0 : Int) (a1 : Int) (a2 : Int) : Option Int := (if a0 = 1 then (if 0 ≤ (w64 (a2.tmod 32)) then some (shl .u32 a1 (w64 (a2.tmod 32))) else none) else (if a0 = 2 then (if 0 ≤ (w64 (a2.tmod 32)) then some (wu32 (shr .i32 (w32 a1) (w64 (a2.tmod 32)))) else none) else (if a0 = 3 then ((math_bits_RotateLeft32 a1 (w64 (0 - (w64 (a2.tmod 32))))).bind fun t19 => (some t19)) else some a1)))
set_option maxRecDepth 100000 in
set_option maxHeartbeats 4000000 in
theorem word_Shift.calls (a0 : Int) (a1 : Int) (a2 : Int) (r : Int) (w0 : World) (H : word_Shift a0 a1 a2 = some r) :
    Calls Try.prog 56 #[.int .i64 a0, .int .u32 a1, .int .u32 a2] w0 fun e w' => e = .returned (.int .u32 r) ∧ St [] w0 w' [] := by
 have hw : St [] w0 w0 [] := St.nil w0
 unfold word_Shift at H
 refine go_fn Try.func56 rfl Try.ntmps56 ?_; intro a hs
 refine go_sp [] [] hs ?_; clear hs; intro a hs
 refine go_sp [2] [(7, .int .i64 (w64 (a2.tmod 32)))] hs ?_; clear hs; intro a hs
 refine go_seq_k fun K3 hK3 => ?_
 refine go_sp [0] [(11, .int .i64 a0)] hs ?_; clear hs; intro a hs
 refine wp_block ?_
 refine go_sp [] [(12, .bool (a0 == 1))] hs ?_; clear hs; intro a hs
 refine go_cond hs (a0 == 1) (fun hc => ?_) fun hc => ?_
 ·replace H := ite_t H (beq_iff_eq.1 hc)
  have hb6 := hc
  rw [hb6] at hs
  refine go_sk fun K7 hK7 => ?_
  refine go_pvs 2 [1, 7, 11, 12] [(14, .int .u32 a1), (15, .int .i64 (w64 (a2.tmod 32)))] hs ?_; clear hs; intro a hs
  obtain ⟨hp8, H⟩ := ite_only H
  refine go_run hs (by rfl) (x_shl (k := .u32) (k' := .i64) (m := a1) (n := w64 (a2.tmod 32)) (by kernel_rfl) (by kernel_rfl) hp8) [14, 15] ?_; clear hs; intro a hs
  refine go_pvs 4 [16] [(6, .int .u32 (shl .u32 a1 (w64 (a2.tmod 32))))] hs ?_; clear hs; intro a hs
  refine go_end (hK7 _ _ ?_)
  refine wp_ret ?_
  refine ib_ret ?_
  refine th_ret ?_
  obtain rfl := Option.some.inj H
  refine ret1 (t := 6) (v := .int .u32 (shl .u32 a1 (w64 (a2.tmod 32)))) hs (by kernel_rfl) (by kernel_rfl) ?_
  exact ⟨rfl, hw.only 0⟩
 ·replace H := ite_f H (beq_eq_false_iff_ne.1 hc)
  have hb9 := hc
  rw [hb9] at hs
  refine go_sp [12] [(17, .bool (a0 == 2))] hs ?_; clear hs; intro a hs
  refine go_cond hs (a0 == 2) (fun hc => ?_) fun hc => ?_
  ·replace H := ite_t H (beq_iff_eq.1 hc)
   have hb11 := hc
   rw [hb11] at hs
   refine go_sk fun K12 hK12 => ?_
   refine go_pvs 3 [1, 7, 11, 17] [(20, .int .i32 (w32 a1)), (21, .int .i64 (w64 (a2.tmod 32)))] hs ?_; clear hs; intro a hs
   obtain ⟨hp13, H⟩ := ite_only H
   refine go_run hs (by rfl) (x_shr (k := .i32) (k' := .i64) (m := w32 a1) (n := w64 (a2.tmod 32)) (by kernel_rfl) (by kernel_rfl) hp13) [20, 21] ?_; clear hs; intro a hs
   refine go_pvs 6 [22] [(6, .int .u32 (wu32 (shr .i32 (w32 a1) (w64 (a2.tmod 32)))))] hs ?_; clear hs; intro a hs
   refine go_end (hK12 _ _ ?_)
   refine wp_ret ?_
   refine ib_ret ?_
   refine th_ret ?_
   obtain rfl := Option.some.inj H
   refine ret1 (t := 6) (v := .int .u32 (wu32 (shr .i32 (w32 a1) (w64 (a2.tmod 32))))) hs (by kernel_rfl) (by kernel_rfl) ?_
   exact ⟨rfl, hw.only 0⟩
  ·replace H := ite_f H (beq_eq_false_iff_ne.1 hc)
   have hb14 := hc
   rw [hb14] at hs
   refine go_sp [11, 17] [(24, .bool (a0 == 3))] hs ?_; clear hs; intro a hs
   refine go_cond hs (a0 == 3) (fun hc => ?_) fun hc => ?_
   ·replace H := ite_t H (beq_iff_eq.1 hc)
    have hb16 := hc
    rw [hb16] at hs
    refine go_sk fun K17 hK17 => ?_
    refine go_pvs 3 [1, 7, 24] [(26, .int .u32 a1), (28, .int .i64 (w64 (0 - (w64 (a2.tmod 32)))))] hs ?_; clear hs; intro a hs
    obtain ⟨t19, hx20, H⟩ := bind_some H
    refine go_call hs (by rfl) (math_bits_RotateLeft32.calls a1 (w64 (0 - (w64 (a2.tmod 32)))) t19 _ hx20) ?_
    rintro e wd21 ⟨rfl, hw22⟩
    refine ⟨_, rfl, ?_⟩
    replace hw := hw.call hw22
    clear hs; intro a hs; replace hs := hs.rms [26, 28]
    refine go_pvs 5 [29] [(6, .int .u32 t19)] hs ?_; clear hs; intro a hs
    refine go_end (hK17 _ _ ?_)
    refine wp_ret ?_
    refine ib_ret ?_
    refine th_ret ?_
    obtain rfl := Option.some.inj H
    refine ret1 (t := 6) (v := .int .u32 t19) hs (by kernel_rfl) (by kernel_rfl) ?_
    exact ⟨rfl, hw.only 0⟩
   ·replace H := ite_f H (beq_eq_false_iff_ne.1 hc)
    have hb23 := hc
    rw [hb23] at hs
    refine wp_skip ?_
    refine ib_norm ?_
    refine hK3 _ _ ?_
    refine go_sp [1, 7, 24] [(6, .int .u32 a1)] hs ?_; clear hs; intro a hs
    refine wp_ret ?_
    obtain rfl := Option.some.inj H
    refine ret1 (t := 6) (v := .int .u32 a1) hs (by kernel_rfl) (by kernel_rfl) ?_
    exact ⟨rfl, hw.only 0⟩

/-! rivet/word.Mul: function 67 -/
noncomputable def word_Mul.j1 (v7 : Int) : Option (Int × Int) := some (wu32 v7, wu32 (v7.fdiv (2 ^ 32)))
noncomputable def word_Mul (a0 : Int) (a1 : Int) (a2 : Bool) : Option (Int × Int) := (if a2 = true then word_Mul.j1 (wu64 ((wu64 a0) * (wu64 a1))) else word_Mul.j1 (wu64 (w64 ((w64 (w32 a0)) * (w64 (w32 a1))))))
set_option maxRecDepth 100000 in
set_option maxHeartbeats 4000000 in
theorem word_Mul.calls (a0 : Int) (a1 : Int) (a2 : Bool) (r : Int × Int) (w0 : World) (H : word_Mul a0 a1 a2 = some r) :
    Calls Try.prog 67 #[.int .u32 a0, .int .u32 a1, .bool a2] w0 fun e w' => e = .returned (.tuple #[.int .u32 r.1, .int .u32 r.2]) ∧ St [] w0 w' [] := by
 have hw : St [] w0 w0 [] := St.nil w0
 unfold word_Mul at H
 refine go_fn Try.func67 rfl Try.ntmps67 ?_; intro a hs
 refine go_sp [] [] hs ?_; clear hs; intro a hs
 refine go_sp [] [(8, .int .u64 (wu64 ((wu64 a0) * (wu64 a1))))] hs ?_; clear hs; intro a hs
 refine go_seq_k fun K3 hK3 => ?_
 have hJ1 : ∀ (v7 : Int) (a : Act) (w : World), Slots a 29 [(8, .int .u64 v7)] → St [] w0 w [] → word_Mul.j1 v7 = some r → K3 a w := by
  intro v7 a w hs hw H
  unfold word_Mul.j1 at H
  refine hK3 _ _ ?_
  refine go_sp [8] [(6, .int .u32 (wu32 v7)), (7, .int .u32 (wu32 (v7.fdiv (2 ^ 32))))] hs ?_; clear hs; intro a hs
  refine wp_ret ?_
  obtain rfl := Option.some.inj H
  refine ret2 (t1 := 6) (v1 := .int .u32 (wu32 v7)) (t2 := 7) (v2 := .int .u32 (wu32 (v7.fdiv (2 ^ 32)))) hs (by kernel_rfl) (by kernel_rfl) (by kernel_rfl) ?_
  exact ⟨rfl, hw.only 0⟩
 refine go_sp [2] [(15, .bool (!a2))] hs ?_; clear hs; intro a hs
 refine go_cond hs (!a2) (fun hc => ?_) fun hc => ?_
 ·replace H := ite_f H (ff (nt hc))
  have hb5 := hc
  rw [hb5] at hs
  refine go_plain [0, 1, 15] [(8, .int .u64 (wu64 (w64 ((w64 (w32 a0)) * (w64 (w32 a1))))))] hs ?_; clear hs; intro a hs
  exact hJ1 (wu64 (w64 ((w64 (w32 a0)) * (w64 (w32 a1))))) _ _ hs.kx hw H
 ·replace H := ite_t H (nf hc)
  have hb6 := hc
  rw [hb6] at hs
  refine wp_skip ?_
  exact hJ1 (wu64 ((wu64 a0) * (wu64 a1))) _ _ hs.kx hw H

/-! rivet/word.Div: function 69 -/
noncomputable def word_Div.j1 (v15 : Int) (v16 : Int) : Option (Int × Int × Bool) := some (wu32 v15, wu32 v16, true)
noncomputable def word_Div (a0 : Int) (a1 : Int) : Option (Int × Int × Bool) := (if (w64 (w32 a1)) ≤ 0 then some (0, 0, false) else (if (w64 (w32 a1)) ≠ 0 then (if (w64 (w32 a1)) ≠ 0 then (if ((w64 (w32 a0)).tmod (w64 (w32 a1))) < 0 then word_Div.j1 (w64 ((w64 ((w64 (w32 a0)).tdiv (w64 (w32 a1)))) - 1)) (w64 (((w64 (w32 a0)).tmod (w64 (w32 a1))) + (w64 (w32 a1)))) else word_Div.j1 (w64 ((w64 (w32 a0)).tdiv (w64 (w32 a1)))) ((w64 (w32 a0)).tmod (w64 (w32 a1)))) else none) else none))
set_option maxRecDepth 100000 in
set_option maxHeartbeats 4000000 in
theorem word_Div.calls (a0 : Int) (a1 : Int) (r : Int × Int × Bool) (w0 : World) (H : word_Div a0 a1 = some r) :
    Calls Try.prog 69 #[.int .u32 a0, .int .u32 a1] w0 fun e w' => e = .returned (.tuple #[.int .u32 r.1, .int .u32 r.2.1, .bool r.2.2]) ∧ St [] w0 w' [] := by
 have hw : St [] w0 w0 [] := St.nil w0
 unfold word_Div at H
 refine go_fn Try.func69 rfl Try.ntmps69 ?_; intro a hs
 refine go_sp [] [] hs ?_; clear hs; intro a hs
 refine go_sp [0, 1] [(7, .int .i64 (w64 (w32 a0))), (8, .int .i64 (w64 (w32 a1)))] hs ?_; clear hs; intro a hs
 refine go_seq_k fun K3 hK3 => ?_
 refine go_sp [] [(18, .bool (decide ((w64 (w32 a1)) ≤ 0)))] hs ?_; clear hs; intro a hs
 refine go_cond hs (decide ((w64 (w32 a1)) ≤ 0)) (fun hc => ?_) fun hc => ?_
 ·replace H := ite_t H (of_decide_eq_true hc)
  have hb5 := hc
  rw [hb5] at hs
  refine go_sp [7, 8, 18] [(4, .int .u32 0), (5, .int .u32 0), (6, .bool false)] hs ?_; clear hs; intro a hs
  refine wp_ret ?_
  refine th_ret ?_
  obtain rfl := Option.some.inj H
  refine ret3 (t1 := 4) (v1 := .int .u32 0) (t2 := 5) (v2 := .int .u32 0) (t3 := 6) (v3 := .bool false) hs (by kernel_rfl) (by kernel_rfl) (by kernel_rfl) (by kernel_rfl) ?_
  exact ⟨rfl, hw.only 0⟩
 ·replace H := ite_f H (of_decide_eq_false hc)
  have hb7 := hc
  rw [hb7] at hs
  refine wp_skip ?_
  refine hK3 _ _ ?_
  refine go_seq_k fun K8 hK8 => ?_
  refine q2_region (by kernel_rfl) (by kernel_rfl) ?_
  refine q_pvs 2 [18] [(19, .int .i64 (w64 (w32 a0))), (20, .int .i64 (w64 (w32 a1)))] hs ?_; clear hs; intro a hs
  obtain ⟨hp9, H⟩ := ite_only H
  refine q_run hs (by rfl) (fun wx hbx => (x_quo (k := .i64) (m := w64 (w32 a0)) (n := w64 (w32 a1)) (by kernel_rfl) (by kernel_rfl) hp9)) [19, 20] ?_; clear hs; intro a hs
  refine q_pvs 5 [7] [(22, .int .i64 (w64 (w32 a0))), (23, .int .i64 (w64 (w32 a1)))] hs ?_; clear hs; intro a hs
  obtain ⟨hp10, H⟩ := ite_only H
  refine q_run hs (by rfl) (fun wx hbx => (x_rem (k := .i64) (m := w64 (w32 a0)) (n := w64 (w32 a1)) (by kernel_rfl) (by kernel_rfl) hp10)) [22, 23] ?_; clear hs; intro a hs
  refine q_pvs 8 [21, 24] [(9, .int .i64 (w64 ((w64 (w32 a0)).tdiv (w64 (w32 a1))))), (10, .int .i64 ((w64 (w32 a0)).tmod (w64 (w32 a1))))] hs ?_; clear hs; intro a hs
  refine q_end ?_
  intro wq hbq
  replace hw := hw.behind hbq
  refine hK8 _ _ ?_
  refine go_seq_k fun K11 hK11 => ?_
  have hJ1 : ∀ (v15 : Int) (v16 : Int) (a : Act) (w : World), Slots a 36 [(9, .int .i64 v15), (10, .int .i64 v16)] → St [] w0 w [] → word_Div.j1 v15 v16 = some r → K11 a w := by
   intro v15 v16 a w hs hw H
   unfold word_Div.j1 at H
   refine hK11 _ _ ?_
   refine go_sp [9, 10] [(4, .int .u32 (wu32 v15)), (5, .int .u32 (wu32 v16)), (6, .bool true)] hs ?_; clear hs; intro a hs
   refine wp_ret ?_
   obtain rfl := Option.some.inj H
   refine ret3 (t1 := 4) (v1 := .int .u32 (wu32 v15)) (t2 := 5) (v2 := .int .u32 (wu32 v16)) (t3 := 6) (v3 := .bool true) hs (by kernel_rfl) (by kernel_rfl) (by kernel_rfl) (by kernel_rfl) ?_
   exact ⟨rfl, hw.only 0⟩
  refine go_sp [] [(26, .bool (decide (((w64 (w32 a0)).tmod (w64 (w32 a1))) < 0)))] hs ?_; clear hs; intro a hs
  refine go_cond hs (decide (((w64 (w32 a0)).tmod (w64 (w32 a1))) < 0)) (fun hc => ?_) fun hc => ?_
  ·replace H := ite_t H (of_decide_eq_true hc)
   have hb13 := hc
   rw [hb13] at hs
   refine go_plain [8, 26] [(9, .int .i64 (w64 ((w64 ((w64 (w32 a0)).tdiv (w64 (w32 a1)))) - 1))), (10, .int .i64 (w64 (((w64 (w32 a0)).tmod (w64 (w32 a1))) + (w64 (w32 a1)))))] hs ?_; clear hs; intro a hs
   exact hJ1 (w64 ((w64 ((w64 (w32 a0)).tdiv (w64 (w32 a1)))) - 1)) (w64 (((w64 (w32 a0)).tmod (w64 (w32 a1))) + (w64 (w32 a1)))) _ _ hs.kx hw H
  ·replace H := ite_f H (of_decide_eq_false hc)
   have hb14 := hc
   rw [hb14] at hs
   refine wp_skip ?_
   exact hJ1 (w64 ((w64 (w32 a0)).tdiv (w64 (w32 a1)))) ((w64 (w32 a0)).tmod (w64 (w32 a1))) _ _ hs.kx hw H

/-! rivet/field.known: function 87 -/
noncomputable def field_known (a0 : Int) : Option Int := some (mnn (mxx a0 1) 32)
set_option maxRecDepth 100000 in
set_option maxHeartbeats 4000000 in
theorem field_known.calls (a0 : Int) (r : Int) (w0 : World) (H : field_known a0 = some r) :
    Calls Try.prog 87 #[.int .i64 a0] w0 fun e w' => e = .returned (.int .i64 r) ∧ St [] w0 w' [] := by
 have hw : St [] w0 w0 [] := St.nil w0
 unfold field_known at H
 refine go_fn Try.func87 rfl Try.ntmps87 ?_; intro a hs
 refine go_sp [] [] hs ?_; clear hs; intro a hs
 refine go_sp [0] [(2, .int .i64 (mnn (mxx a0 1) 32))] hs ?_; clear hs; intro a hs
 refine wp_ret ?_
 obtain rfl := Option.some.inj H
 refine ret1 (t := 2) (v := .int .i64 (mnn (mxx a0 1) 32)) hs (by kernel_rfl) (by kernel_rfl) ?_
 exact ⟨rfl, hw.only 0⟩

/-! rivet/field.Get: function 73 -/
noncomputable def field_Get.j4 (v25 : Int) (a1 : Int) (v24 : Int) (a0 : Int) : Option (Int × Int ⊕ Int) := (if 0 ≤ v25 then (if 0 ≤ (w64 (v25 - a1)) then some (.inl (bor .u32 v24 (shl .u32 (band .u32 (shr .u32 a0 v25) 1) (w64 (v25 - a1))), w64 (v25 + 1))) else none) else none)
noncomputable def field_Get.j3 (v25 : Int) (a1 : Int) (v24 : Int) (a0 : Int) (v29 : Bool) : Option (Int × Int ⊕ Int) := (if v29 = true then field_Get.j4 v25 a1 v24 a0 else some (.inr v24))
noncomputable def field_Get.b23 (a1 : Int) (a0 : Int) (a2 : Int) (v24 : Int) (v25 : Int) : Option (Int × Int ⊕ Int) := (if v25 < 32 then field_Get.j3 v25 a1 v24 a0 (decide ((w64 (v25 - a1)) < a2)) else field_Get.j3 v25 a1 v24 a0 false)
noncomputable def field_Get.j5 (v38 : Int) : Option Int := some v38
noncomputable def field_Get.j2 (a1 : Int) (a0 : Int) (a2 : Int) : Option Int := ((loopO (fun (σ : Int × Int) => field_Get.b23 a1 a0 a2 σ.1 σ.2) (0, mxx a1 0)).bind fun e => field_Get.j5 e)
noncomputable def field_Get.j1 (a1 : Int) (a0 : Int) (a2 : Int) (v17 : Bool) : Option Int := (if v17 = true then some 0 else field_Get.j2 a1 a0 a2)
noncomputable def field_Get (a0 : Int) (a1 : Int) (a2 : Int) : Option Int := (if a2 < 1 then field_Get.j1 a1 a0 a2 true else (if a1 ≥ 32 then field_Get.j1 a1 a0 a2 true else field_Get.j1 a1 a0 a2 (decide (a1 ≤ (w64 (0 - a2))))))
set_option maxRecDepth 100000 in
set_option maxHeartbeats 4000000 in
theorem field_Get.calls (a0 : Int) (a1 : Int) (a2 : Int) (r : Int) (w0 : World) (H : field_Get a0 a1 a2 = some r) :
    Calls Try.prog 73 #[.int .u32 a0, .int .i64 a1, .int .i64 a2] w0 fun e w' => e = .returned (.int .u32 r) ∧ St [] w0 w' [] := by
 have hw : St [] w0 w0 [] := St.nil w0
 unfold field_Get at H
 refine go_fn Try.func73 rfl Try.ntmps73 ?_; intro a hs
 refine go_sk fun K1 hK1 => ?_
 obtain ⟨ad2, wd3, hx4, hw⟩ := x_box1 (P := Try.prog) (elem := 23) (v := (Operand.tmp 0)) (ty := 0) hs hw (eI .u32) a0 (by kernel_rfl)
 refine go_run hs (by rfl) hx4 [0] ?_; clear hs; intro a hs
 refine go_pvs 2 [] [] hs ?_; clear hs; intro a hs
 refine go_end (hK1 _ _ ?_)
 refine go_sk fun K6 hK6 => ?_
 obtain ⟨ad7, wd8, hx9, hw⟩ := x_alloc1 (P := Try.prog) (elem := 23) (ty := 0) (z := .int .u32 0) hs hw (eI .u32) 0 (by kernel_rfl) (by kernel_rfl)
 refine go_run hs (by rfl) hx9 [] ?_; clear hs; intro a hs
 refine go_end (hK6 _ _ ?_)
 refine go_sk fun K11 hK11 => ?_
 refine go_pvs 3 [1, 2, 3] [(8, .int .i64 a1), (9, .int .i64 a2), (10, .func (.func 86) #[] #[.pointer (some ad7), .pointer (some ad2)])] hs ?_; clear hs; intro a hs
 refine go_inline_k hs (by rfl) (f := 85) (args := #[.int .i64 a1, .int .i64 a2, .func (.func 86) #[] #[.pointer (some ad7), .pointer (some ad2)]]) (fun KR12 hKR12 => ?_)
 refine go_fn Try.func85 rfl Try.ntmps85 ?_; clear hs; intro a hs
 refine go_seq_k fun K13 hK13 => ?_
 have hJ2 : ∀ (a : Act) (w : World), Slots a 38 [(0, .int .i64 a1), (1, .int .i64 a2), (2, .func (.func 86) #[] #[.pointer (some ad7), .pointer (some ad2)])] → St [] w0 w [own 23 (eI .u32) (some ad7) 1 [0], own 23 (eI .u32) (some ad2) 1 [a0]] → field_Get.j2 a1 a0 a2 = some r → K13 a w := by
  intro a w hs hw H
  unfold field_Get.j2 at H
  refine hK13 _ _ ?_
  refine go_sp [] [(6, .int .i64 (mxx a1 0))] hs ?_; clear hs; intro a hs
  refine name_k fun K22 hK22 => ?_
  refine wp_block ?_
  obtain ⟨e23, hl23, HX23⟩ := bind_some H
  have hJ5 : ∀ (v38 : Int) (a : Act) (w : World), Slots a 38 [] → St [] w0 w [own 23 (eI .u32) (some ad7) 1 [v38], own 23 (eI .u32) (some ad2) 1 [a0]] → field_Get.j5 v38 = some r → K22 a w := by
   intro v38 a w hs hw H
   unfold field_Get.j5 at H
   refine hK22 _ _ ?_
   refine end0 hs (by kernel_rfl) ?_
   refine ⟨_, rfl, ?_⟩
   refine hKR12 _ _ ?_
   intro a hs1; have hs : Slots a _ [(7, .pointer (some ad7))] := hs1.kx; clear hs1
   refine go_end (hK11 _ _ ?_)
   refine go_sk fun K39 hK39 => ?_
   refine go_run hs (by rfl) (x_ld (off := 0) (p := ad7) (v := .int .u32 v38) (Rd.of_own (hw.up 0)) (one_ok 0) (one_at _ _)) [7] ?_; clear hs; intro a hs
   refine go_pvs 2 [12] [(6, .int .u32 v38)] hs ?_; clear hs; intro a hs
   refine go_end (hK39 _ _ ?_)
   refine wp_ret ?_
   obtain rfl := Option.some.inj H
   refine ret1 (t := 6) (v := .int .u32 v38) hs (by kernel_rfl) (by kernel_rfl) ?_
   exact ⟨rfl, hw.only 0⟩
  clear H
  refine go_loop (σ := Int × Int) (fun σ a w => Slots a 38 [(0, .int .i64 a1), (1, .int .i64 a2), (2, .func (.func 86) #[] #[.pointer (some ad7), .pointer (some ad2)]), (6, .int .i64 σ.2)] ∧ St [] w0 w [own 23 (eI .u32) (some ad7) 1 [σ.1], own 23 (eI .u32) (some ad2) 1 [a0]]) hl23 (by exact ⟨hs.kx, hw⟩) ?_
  rintro ⟨v24, v25⟩ a w ⟨hs, hw⟩ o H hr23
  replace hs : Slots a 38 [(0, .int .i64 a1), (1, .int .i64 a2), (2, .func (.func 86) #[] #[.pointer (some ad7), .pointer (some ad2)]), (6, .int .i64 v25)] := hs
  replace hw : St [] w0 w [own 23 (eI .u32) (some ad7) 1 [v24], own 23 (eI .u32) (some ad2) 1 [a0]] := hw
  replace H : field_Get.b23 a1 a0 a2 v24 v25 = some o := H
  unfold field_Get.b23 at H
  refine go_seq_k fun K26 hK26 => ?_
  have hJ4 : ∀ (a : Act) (w : World), Slots a 38 [(0, .int .i64 a1), (1, .int .i64 a2), (2, .func (.func 86) #[] #[.pointer (some ad7), .pointer (some ad2)]), (6, .int .i64 v25)] → St [] w0 w [own 23 (eI .u32) (some ad7) 1 [v24], own 23 (eI .u32) (some ad2) 1 [a0]] → field_Get.j4 v25 a1 v24 a0 = some o → K26 a w := by
   intro a w hs hw H
   unfold field_Get.j4 at H
   refine hK26 _ _ ?_
   refine go_seq_k fun K32 hK32 => ?_
   refine wp_block ?_
   refine go_region ?_
   refine go_pvs 5 [] [(32, .func (.func 86) #[] #[.pointer (some ad7), .pointer (some ad2)]), (33, .int .i64 v25), (36, .int .i64 (w64 (v25 - a1)))] hs ?_; clear hs; intro a hs
   refine go_inline_k hs (by rfl) (f := 86) (args := #[.int .i64 v25, .int .i64 (w64 (v25 - a1)), .pointer (some ad7), .pointer (some ad2)]) (fun KR33 hKR33 => ?_)
   refine go_fn Try.func86 rfl Try.ntmps86 ?_; clear hs; intro a hs
   refine z_region [0, 1, 2, 3, 4, 5, 6, 7] [8] [] (by kernel_rfl) (by kernel_rfl) (fun c a d v w h => by cases d <;> exact h) ?_
   refine z_run hs (by rfl) (fun wx hbx => (x_ld (off := 0) (p := ad7) (v := .int .u32 v24) ((Rd.of_own (hw.up 0)).below hbx) (one_ok 0) (one_at _ _))) [] ?_; clear hs; intro a hs
   refine z_run hs (by rfl) (fun wx hbx => (x_ld (off := 0) (p := ad2) (v := .int .u32 a0) ((Rd.of_own (hw.up 1)).below hbx) (one_ok a0) (one_at _ _))) [3] ?_; clear hs; intro a hs
   refine z_pvs [2] [3, 4, 5, 6, 7] [0] [(8, .int .i64 v25)] hs ?_; clear hs; intro a hs
   obtain ⟨hp34, H⟩ := ite_only H
   refine z_run hs (by rfl) (fun wx hbx => (x_shr (k := .u32) (k' := .i64) (m := a0) (n := v25) (by kernel_rfl) (by kernel_rfl) hp34)) [7, 8] ?_; clear hs; intro a hs
   refine z_pvs [4, 5] [6, 7] [1, 9] [(10, .int .u32 (band .u32 (shr .u32 a0 v25) 1)), (11, .int .i64 (w64 (v25 - a1)))] hs ?_; clear hs; intro a hs
   obtain ⟨hp35, H⟩ := ite_only H
   refine z_run hs (by rfl) (fun wx hbx => (x_shl (k := .u32) (k' := .i64) (m := band .u32 (shr .u32 a0 v25) 1) (n := w64 (v25 - a1)) (by kernel_rfl) (by kernel_rfl) hp35)) [10, 11] ?_; clear hs; intro a hs
   refine z_pvs [7] [] [6, 12] [(13, .int .u32 (bor .u32 v24 (shl .u32 (band .u32 (shr .u32 a0 v25) 1) (w64 (v25 - a1)))))] hs ?_; clear hs; intro a hs
   refine z_end ?_
   intro wq hbq
   replace hw := hw.behind hbq
   obtain ⟨wd36, hx37, hw⟩ := x_put (P := Try.prog) (ty := 0) (t := 23) (x := (Operand.tmp 2)) (y := (Operand.tmp 13)) (off := 0) (p := ad7) (v := .int .u32 (bor .u32 v24 (shl .u32 (band .u32 (shr .u32 a0 v25) 1) (w64 (v25 - a1))))) (vs := [.int .u32 (bor .u32 v24 (shl .u32 (band .u32 (shr .u32 a0 v25) 1) (w64 (v25 - a1))))]) (i := 0) (e' := (bor .u32 v24 (shl .u32 (band .u32 (shr .u32 a0 v25) 1) (w64 (v25 - a1))) : Int)) hs hw rfl (one_ok 0).1 (one_ok 0).2 (by kernel_rfl) (one_at _ _) (by kernel_rfl) rfl (by kernel_rfl) (Nat.le_of_ble_eq_true rfl) (by simp [Value.oneCell']) (by kernel_rfl)
   refine p_unit hs (by rfl) hx37 [2, 13] ?_; clear hs; intro a hs
   replace hw : St [] w0 wd36 [own 23 (eI .u32) (some ad7) 1 [bor .u32 v24 (shl .u32 (band .u32 (shr .u32 a0 v25) 1) (w64 (v25 - a1)))], own 23 (eI .u32) (some ad2) 1 [a0]] := hw
   refine p_last ?_
   refine e_end ?_
   refine end0 hs (by kernel_rfl) ?_
   refine ⟨_, rfl, ?_⟩
   refine hKR33 _ _ ?_
   intro a hs1; have hs : Slots a _ [(0, .int .i64 a1), (1, .int .i64 a2), (2, .func (.func 86) #[] #[.pointer (some ad7), .pointer (some ad2)]), (6, .int .i64 v25)] := hs1.kx; clear hs1
   refine go_end ?_
   refine ib_norm ?_
   refine hK32 _ _ ?_
   refine go_plain [] [(6, .int .i64 (w64 (v25 + 1)))] hs ?_; clear hs; intro a hs
   replace hw := hw.up 1
   replace hw := hw.up 1
   exact round_end (bor .u32 v24 (shl .u32 (band .u32 (shr .u32 a0 v25) 1) (w64 (v25 - a1))), w64 (v25 + 1)) (Option.some.inj H).symm ⟨hs.kx, hw⟩
  refine go_seq_k fun K27 hK27 => ?_
  have hJ3 : ∀ (v29 : Bool) (a : Act) (w : World), Slots a 38 [(0, .int .i64 a1), (1, .int .i64 a2), (2, .func (.func 86) #[] #[.pointer (some ad7), .pointer (some ad2)]), (6, .int .i64 v25), (29, .bool v29)] → St [] w0 w [own 23 (eI .u32) (some ad7) 1 [v24], own 23 (eI .u32) (some ad2) 1 [a0]] → field_Get.j3 v25 a1 v24 a0 v29 = some o → K27 a w := by
   intro v29 a w hs hw H
   unfold field_Get.j3 at H
   refine hK27 _ _ ?_
   refine go_cond hs v29 (fun hc => ?_) fun hc => ?_
   ·replace H := ite_t H hc
    have hb30 := hc
    rw [hb30] at hs
    refine wp_skip ?_
    replace hw := hw.up 1
    replace hw := hw.up 1
    exact hJ4 _ _ hs.kx hw H
   ·replace H := ite_f H (ff hc)
    have hb31 := hc
    rw [hb31] at hs
    refine wp_exit ?_
    refine th_exit ?_
    refine th_exit ?_
    refine in_block ?_
    replace hw := hw.up 1
    replace hw := hw.up 1
    rw [← hr23 _ (Option.some.inj H).symm] at HX23
    exact hJ5 v24 _ _ hs.kx hw HX23
  refine go_region ?_
  refine go_pvs 3 [] [(23, .bool (decide (v25 < 32)))] hs ?_; clear hs; intro a hs
  cases hb28 : (decide (v25 < 32))
  ·replace H := ite_f H (of_decide_eq_false hb28)
   rw [hb28] at hs
   refine go_pvs 9 [23] [(29, .bool false)] hs ?_; clear hs; intro a hs
   refine go_end ?_
   replace hw := hw.up 1
   replace hw := hw.up 1
   exact hJ3 false _ _ hs.kx hw H
  ·replace H := ite_t H (of_decide_eq_true hb28)
   rw [hb28] at hs
   refine go_pvs 9 [23] [(29, .bool (decide ((w64 (v25 - a1)) < a2)))] hs ?_; clear hs; intro a hs
   refine go_end ?_
   replace hw := hw.up 1
   replace hw := hw.up 1
   exact hJ3 (decide ((w64 (v25 - a1)) < a2)) _ _ hs.kx hw H
 refine go_seq_k fun K14 hK14 => ?_
 have hJ1 : ∀ (v17 : Bool) (a : Act) (w : World), Slots a 38 [(0, .int .i64 a1), (1, .int .i64 a2), (2, .func (.func 86) #[] #[.pointer (some ad7), .pointer (some ad2)]), (18, .bool v17)] → St [] w0 w [own 23 (eI .u32) (some ad7) 1 [0], own 23 (eI .u32) (some ad2) 1 [a0]] → field_Get.j1 a1 a0 a2 v17 = some r → K14 a w := by
  intro v17 a w hs hw H
  unfold field_Get.j1 at H
  refine hK14 _ _ ?_
  refine go_cond hs v17 (fun hc => ?_) fun hc => ?_
  ·replace H := ite_t H hc
   have hb18 := hc
   rw [hb18] at hs
   refine wp_ret ?_
   refine th_ret ?_
   refine ret0 hs (by kernel_rfl) ?_
   refine ⟨_, rfl, ?_⟩
   refine hKR12 _ _ ?_
   intro a hs1; have hs : Slots a _ [(7, .pointer (some ad7))] := hs1.kx; clear hs1
   refine go_end (hK11 _ _ ?_)
   refine go_sk fun K19 hK19 => ?_
   refine go_run hs (by rfl) (x_ld (off := 0) (p := ad7) (v := .int .u32 0) (Rd.of_own (hw.up 0)) (one_ok 0) (one_at _ _)) [7] ?_; clear hs; intro a hs
   refine go_pvs 2 [12] [(6, .int .u32 0)] hs ?_; clear hs; intro a hs
   refine go_end (hK19 _ _ ?_)
   refine wp_ret ?_
   obtain rfl := Option.some.inj H
   refine ret1 (t := 6) (v := .int .u32 0) hs (by kernel_rfl) (by kernel_rfl) ?_
   exact ⟨rfl, hw.only 0⟩
  ·replace H := ite_f H (ff hc)
   have hb20 := hc
   rw [hb20] at hs
   refine wp_skip ?_
   replace hw := hw.up 1
   replace hw := hw.up 1
   exact hJ2 _ _ hs.kx hw H
 refine go_region ?_
 refine go_pvs 3 [] [(9, .bool (decide (a2 < 1)))] hs ?_; clear hs; intro a hs
 cases hb15 : (decide (a2 < 1))
 ·replace H := ite_f H (of_decide_eq_false hb15)
  rw [hb15] at hs
  refine go_pvs 7 [9] [(13, .bool (decide (a1 ≥ 32)))] hs ?_; clear hs; intro a hs
  cases hb16 : (decide (a1 ≥ 32))
  ·replace H := ite_f H (of_decide_eq_false hb16)
   rw [hb16] at hs
   refine go_pvs 12 [13] [(18, .bool (decide (a1 ≤ (w64 (0 - a2)))))] hs ?_; clear hs; intro a hs
   refine go_end ?_
   replace hw := hw.up 1
   replace hw := hw.up 1
   exact hJ1 (decide (a1 ≤ (w64 (0 - a2)))) _ _ hs.kx hw H
  ·replace H := ite_t H (of_decide_eq_true hb16)
   rw [hb16] at hs
   refine go_pvs 12 [13] [(18, .bool true)] hs ?_; clear hs; intro a hs
   refine go_end ?_
   replace hw := hw.up 1
   replace hw := hw.up 1
   exact hJ1 true _ _ hs.kx hw H
 ·replace H := ite_t H (of_decide_eq_true hb15)
  rw [hb15] at hs
  refine go_pvs 12 [9] [(18, .bool true)] hs ?_; clear hs; intro a hs
  refine go_end ?_
  replace hw := hw.up 1
  replace hw := hw.up 1
  exact hJ1 true _ _ hs.kx hw H

/-! rivet/field.Set: function 78 -/
noncomputable def field_Set.j4 (v24 : Int) (a1 : Int) (v23 : Int) (a3 : Int) : Option (Int × Int ⊕ Int) := (if 0 ≤ v24 then (if 0 ≤ (w64 (v24 - a1)) then (if 0 ≤ v24 then some (.inl (bor .u32 (bandn .u32 v23 (shl .u32 1 v24)) (shl .u32 (band .u32 (shr .u32 a3 (w64 (v24 - a1))) 1) v24), w64 (v24 + 1))) else none) else none) else none)
noncomputable def field_Set.j3 (v24 : Int) (a1 : Int) (v23 : Int) (a3 : Int) (v28 : Bool) : Option (Int × Int ⊕ Int) := (if v28 = true then field_Set.j4 v24 a1 v23 a3 else some (.inr v23))
noncomputable def field_Set.b22 (a1 : Int) (a3 : Int) (a2 : Int) (v23 : Int) (v24 : Int) : Option (Int × Int ⊕ Int) := (if v24 < 32 then field_Set.j3 v24 a1 v23 a3 (decide ((w64 (v24 - a1)) < a2)) else field_Set.j3 v24 a1 v23 a3 false)
noncomputable def field_Set.j5 (v38 : Int) : Option Int := some v38
noncomputable def field_Set.j2 (a1 : Int) (a3 : Int) (a2 : Int) (a0 : Int) : Option Int := ((loopO (fun (σ : Int × Int) => field_Set.b22 a1 a3 a2 σ.1 σ.2) (a0, mxx a1 0)).bind fun e => field_Set.j5 e)
noncomputable def field_Set.j1 (a0 : Int) (a1 : Int) (a3 : Int) (a2 : Int) (v16 : Bool) : Option Int := (if v16 = true then some a0 else field_Set.j2 a1 a3 a2 a0)
noncomputable def field_Set (a0 : Int) (a1 : Int) (a2 : Int) (a3 : Int) : Option Int := (if a2 < 1 then field_Set.j1 a0 a1 a3 a2 true else (if a1 ≥ 32 then field_Set.j1 a0 a1 a3 a2 true else field_Set.j1 a0 a1 a3 a2 (decide (a1 ≤ (w64 (0 - a2))))))
set_option maxRecDepth 100000 in
set_option maxHeartbeats 4000000 in
theorem field_Set.calls (a0 : Int) (a1 : Int) (a2 : Int) (a3 : Int) (r : Int) (w0 : World) (H : field_Set a0 a1 a2 a3 = some r) :
    Calls Try.prog 78 #[.int .u32 a0, .int .i64 a1, .int .i64 a2, .int .u32 a3] w0 fun e w' => e = .returned (.int .u32 r) ∧ St [] w0 w' [] := by
 have hw : St [] w0 w0 [] := St.nil w0
 unfold field_Set at H
 refine go_fn Try.func78 rfl Try.ntmps78 ?_; intro a hs
 refine go_sk fun K1 hK1 => ?_
 obtain ⟨ad2, wd3, hx4, hw⟩ := x_box1 (P := Try.prog) (elem := 23) (v := (Operand.tmp 0)) (ty := 0) hs hw (eI .u32) a0 (by kernel_rfl)
 refine go_run hs (by rfl) hx4 [0] ?_; clear hs; intro a hs
 obtain ⟨ad6, wd7, hx8, hw⟩ := x_box1 (P := Try.prog) (elem := 23) (v := (Operand.tmp 3)) (ty := 0) hs hw (eI .u32) a3 (by kernel_rfl)
 refine go_run hs (by rfl) hx8 [3] ?_; clear hs; intro a hs
 refine go_pvs 3 [] [] hs ?_; clear hs; intro a hs
 refine go_end (hK1 _ _ ?_)
 refine go_sk fun K10 hK10 => ?_
 refine go_pvs 3 [1, 2, 7] [(9, .int .i64 a1), (10, .int .i64 a2), (11, .func (.func 88) #[] #[.pointer (some ad2), .pointer (some ad6)])] hs ?_; clear hs; intro a hs
 refine go_inline_k hs (by rfl) (f := 85) (args := #[.int .i64 a1, .int .i64 a2, .func (.func 88) #[] #[.pointer (some ad2), .pointer (some ad6)]]) (fun KR11 hKR11 => ?_)
 refine go_fn Try.func85 rfl Try.ntmps85 ?_; clear hs; intro a hs
 refine go_seq_k fun K12 hK12 => ?_
 have hJ2 : ∀ (a : Act) (w : World), Slots a 38 [(0, .int .i64 a1), (1, .int .i64 a2), (2, .func (.func 88) #[] #[.pointer (some ad2), .pointer (some ad6)])] → St [] w0 w [own 23 (eI .u32) (some ad6) 1 [a3], own 23 (eI .u32) (some ad2) 1 [a0]] → field_Set.j2 a1 a3 a2 a0 = some r → K12 a w := by
  intro a w hs hw H
  unfold field_Set.j2 at H
  refine hK12 _ _ ?_
  refine go_sp [] [(6, .int .i64 (mxx a1 0))] hs ?_; clear hs; intro a hs
  refine name_k fun K21 hK21 => ?_
  refine wp_block ?_
  obtain ⟨e22, hl22, HX22⟩ := bind_some H
  have hJ5 : ∀ (v38 : Int) (a : Act) (w : World), Slots a 38 [] → St [] w0 w [own 23 (eI .u32) (some ad6) 1 [a3], own 23 (eI .u32) (some ad2) 1 [v38]] → field_Set.j5 v38 = some r → K21 a w := by
   intro v38 a w hs hw H
   unfold field_Set.j5 at H
   refine hK21 _ _ ?_
   refine end0 hs (by kernel_rfl) ?_
   refine ⟨_, rfl, ?_⟩
   refine hKR11 _ _ ?_
   intro a hs1; have hs : Slots a _ [(4, .pointer (some ad2))] := hs1.kx; clear hs1
   refine go_end (hK10 _ _ ?_)
   refine go_sk fun K39 hK39 => ?_
   refine go_run hs (by rfl) (x_ld (off := 0) (p := ad2) (v := .int .u32 v38) (Rd.of_own (hw.up 1)) (one_ok a0) (one_at _ _)) [4] ?_; clear hs; intro a hs
   refine go_pvs 2 [13] [(8, .int .u32 v38)] hs ?_; clear hs; intro a hs
   refine go_end (hK39 _ _ ?_)
   refine wp_ret ?_
   obtain rfl := Option.some.inj H
   refine ret1 (t := 8) (v := .int .u32 v38) hs (by kernel_rfl) (by kernel_rfl) ?_
   exact ⟨rfl, hw.only 0⟩
  clear H
  refine go_loop (σ := Int × Int) (fun σ a w => Slots a 38 [(0, .int .i64 a1), (1, .int .i64 a2), (2, .func (.func 88) #[] #[.pointer (some ad2), .pointer (some ad6)]), (6, .int .i64 σ.2)] ∧ St [] w0 w [own 23 (eI .u32) (some ad6) 1 [a3], own 23 (eI .u32) (some ad2) 1 [σ.1]]) hl22 (by exact ⟨hs.kx, hw⟩) ?_
  rintro ⟨v23, v24⟩ a w ⟨hs, hw⟩ o H hr22
  replace hs : Slots a 38 [(0, .int .i64 a1), (1, .int .i64 a2), (2, .func (.func 88) #[] #[.pointer (some ad2), .pointer (some ad6)]), (6, .int .i64 v24)] := hs
  replace hw : St [] w0 w [own 23 (eI .u32) (some ad6) 1 [a3], own 23 (eI .u32) (some ad2) 1 [v23]] := hw
  replace H : field_Set.b22 a1 a3 a2 v23 v24 = some o := H
  unfold field_Set.b22 at H
  refine go_seq_k fun K25 hK25 => ?_
  have hJ4 : ∀ (a : Act) (w : World), Slots a 38 [(0, .int .i64 a1), (1, .int .i64 a2), (2, .func (.func 88) #[] #[.pointer (some ad2), .pointer (some ad6)]), (6, .int .i64 v24)] → St [] w0 w [own 23 (eI .u32) (some ad6) 1 [a3], own 23 (eI .u32) (some ad2) 1 [v23]] → field_Set.j4 v24 a1 v23 a3 = some o → K25 a w := by
   intro a w hs hw H
   unfold field_Set.j4 at H
   refine hK25 _ _ ?_
   refine go_seq_k fun K31 hK31 => ?_
   refine wp_block ?_
   refine go_region ?_
   refine go_pvs 5 [] [(32, .func (.func 88) #[] #[.pointer (some ad2), .pointer (some ad6)]), (33, .int .i64 v24), (36, .int .i64 (w64 (v24 - a1)))] hs ?_; clear hs; intro a hs
   refine go_inline_k hs (by rfl) (f := 88) (args := #[.int .i64 v24, .int .i64 (w64 (v24 - a1)), .pointer (some ad2), .pointer (some ad6)]) (fun KR32 hKR32 => ?_)
   refine go_fn Try.func88 rfl Try.ntmps88 ?_; clear hs; intro a hs
   refine z_region [0, 1, 2, 3, 4, 5, 6, 7, 8, 9, 10] [11] [] (by kernel_rfl) (by kernel_rfl) (fun c a d v w h => by cases d <;> exact h) ?_
   refine z_run hs (by rfl) (fun wx hbx => (x_ld (off := 0) (p := ad2) (v := .int .u32 v23) ((Rd.of_own (hw.up 1)).below hbx) (one_ok a0) (one_at _ _))) [] ?_; clear hs; intro a hs
   refine z_pvs [1] [2, 3, 4, 5, 6, 7, 8, 9, 10] [] [(7, .int .i64 v24)] hs ?_; clear hs; intro a hs
   obtain ⟨hp33, H⟩ := ite_only H
   refine z_run hs (by rfl) (fun wx hbx => (x_shl (k := .u32) (k' := .i64) (m := 1) (n := v24) (by kernel_rfl) (by kernel_rfl) hp33)) [7] ?_; clear hs; intro a hs
   refine z_pvs [3] [4, 5, 6, 7, 8, 9, 10] [6, 8] [(9, .int .u32 (bandn .u32 v23 (shl .u32 1 v24)))] hs ?_; clear hs; intro a hs
   refine z_run hs (by rfl) (fun wx hbx => (x_ld (off := 0) (p := ad6) (v := .int .u32 a3) ((Rd.of_own (hw.up 0)).below hbx) (one_ok a3) (one_at _ _))) [3] ?_; clear hs; intro a hs
   refine z_pvs [5] [6, 7, 8, 9, 10] [1] [(11, .int .i64 (w64 (v24 - a1)))] hs ?_; clear hs; intro a hs
   obtain ⟨hp34, H⟩ := ite_only H
   refine z_run hs (by rfl) (fun wx hbx => (x_shr (k := .u32) (k' := .i64) (m := a3) (n := w64 (v24 - a1)) (by kernel_rfl) (by kernel_rfl) hp34)) [10, 11] ?_; clear hs; intro a hs
   refine z_pvs [7, 8] [9, 10] [0, 12] [(13, .int .u32 (band .u32 (shr .u32 a3 (w64 (v24 - a1))) 1)), (14, .int .i64 v24)] hs ?_; clear hs; intro a hs
   obtain ⟨hp35, H⟩ := ite_only H
   refine z_run hs (by rfl) (fun wx hbx => (x_shl (k := .u32) (k' := .i64) (m := band .u32 (shr .u32 a3 (w64 (v24 - a1))) 1) (n := v24) (by kernel_rfl) (by kernel_rfl) hp35)) [13, 14] ?_; clear hs; intro a hs
   refine z_pvs [10] [] [9, 15] [(16, .int .u32 (bor .u32 (bandn .u32 v23 (shl .u32 1 v24)) (shl .u32 (band .u32 (shr .u32 a3 (w64 (v24 - a1))) 1) v24)))] hs ?_; clear hs; intro a hs
   refine z_end ?_
   intro wq hbq
   replace hw := hw.behind hbq
   replace hw := hw.up 1
   obtain ⟨wd36, hx37, hw⟩ := x_put (P := Try.prog) (ty := 0) (t := 23) (x := (Operand.tmp 2)) (y := (Operand.tmp 16)) (off := 0) (p := ad2) (v := .int .u32 (bor .u32 (bandn .u32 v23 (shl .u32 1 v24)) (shl .u32 (band .u32 (shr .u32 a3 (w64 (v24 - a1))) 1) v24))) (vs := [.int .u32 (bor .u32 (bandn .u32 v23 (shl .u32 1 v24)) (shl .u32 (band .u32 (shr .u32 a3 (w64 (v24 - a1))) 1) v24))]) (i := 0) (e' := (bor .u32 (bandn .u32 v23 (shl .u32 1 v24)) (shl .u32 (band .u32 (shr .u32 a3 (w64 (v24 - a1))) 1) v24) : Int)) hs hw rfl (one_ok a0).1 (one_ok a0).2 (by kernel_rfl) (one_at _ _) (by kernel_rfl) rfl (by kernel_rfl) (Nat.le_of_ble_eq_true rfl) (by simp [Value.oneCell']) (by kernel_rfl)
   refine p_unit hs (by rfl) hx37 [2, 16] ?_; clear hs; intro a hs
   replace hw : St [] w0 wd36 [own 23 (eI .u32) (some ad2) 1 [bor .u32 (bandn .u32 v23 (shl .u32 1 v24)) (shl .u32 (band .u32 (shr .u32 a3 (w64 (v24 - a1))) 1) v24)], own 23 (eI .u32) (some ad6) 1 [a3]] := hw
   refine p_last ?_
   refine e_end ?_
   refine end0 hs (by kernel_rfl) ?_
   refine ⟨_, rfl, ?_⟩
   refine hKR32 _ _ ?_
   intro a hs1; have hs : Slots a _ [(0, .int .i64 a1), (1, .int .i64 a2), (2, .func (.func 88) #[] #[.pointer (some ad2), .pointer (some ad6)]), (6, .int .i64 v24)] := hs1.kx; clear hs1
   refine go_end ?_
   refine ib_norm ?_
   refine hK31 _ _ ?_
   refine go_plain [] [(6, .int .i64 (w64 (v24 + 1)))] hs ?_; clear hs; intro a hs
   replace hw := hw.up 1
   exact round_end (bor .u32 (bandn .u32 v23 (shl .u32 1 v24)) (shl .u32 (band .u32 (shr .u32 a3 (w64 (v24 - a1))) 1) v24), w64 (v24 + 1)) (Option.some.inj H).symm ⟨hs.kx, hw⟩
  refine go_seq_k fun K26 hK26 => ?_
  have hJ3 : ∀ (v28 : Bool) (a : Act) (w : World), Slots a 38 [(0, .int .i64 a1), (1, .int .i64 a2), (2, .func (.func 88) #[] #[.pointer (some ad2), .pointer (some ad6)]), (6, .int .i64 v24), (29, .bool v28)] → St [] w0 w [own 23 (eI .u32) (some ad6) 1 [a3], own 23 (eI .u32) (some ad2) 1 [v23]] → field_Set.j3 v24 a1 v23 a3 v28 = some o → K26 a w := by
   intro v28 a w hs hw H
   unfold field_Set.j3 at H
   refine hK26 _ _ ?_
   refine go_cond hs v28 (fun hc => ?_) fun hc => ?_
   ·replace H := ite_t H hc
    have hb29 := hc
    rw [hb29] at hs
    refine wp_skip ?_
    replace hw := hw.up 1
    replace hw := hw.up 1
    exact hJ4 _ _ hs.kx hw H
   ·replace H := ite_f H (ff hc)
    have hb30 := hc
    rw [hb30] at hs
    refine wp_exit ?_
    refine th_exit ?_
    refine th_exit ?_
    refine in_block ?_
    replace hw := hw.up 1
    replace hw := hw.up 1
    rw [← hr22 _ (Option.some.inj H).symm] at HX22
    exact hJ5 v23 _ _ hs.kx hw HX22
  refine go_region ?_
  refine go_pvs 3 [] [(23, .bool (decide (v24 < 32)))] hs ?_; clear hs; intro a hs
  cases hb27 : (decide (v24 < 32))
  ·replace H := ite_f H (of_decide_eq_false hb27)
   rw [hb27] at hs
   refine go_pvs 9 [23] [(29, .bool false)] hs ?_; clear hs; intro a hs
   refine go_end ?_
   replace hw := hw.up 1
   replace hw := hw.up 1
   exact hJ3 false _ _ hs.kx hw H
  ·replace H := ite_t H (of_decide_eq_true hb27)
   rw [hb27] at hs
   refine go_pvs 9 [23] [(29, .bool (decide ((w64 (v24 - a1)) < a2)))] hs ?_; clear hs; intro a hs
   refine go_end ?_
   replace hw := hw.up 1
   replace hw := hw.up 1
   exact hJ3 (decide ((w64 (v24 - a1)) < a2)) _ _ hs.kx hw H
 refine go_seq_k fun K13 hK13 => ?_
 have hJ1 : ∀ (v16 : Bool) (a : Act) (w : World), Slots a 38 [(0, .int .i64 a1), (1, .int .i64 a2), (2, .func (.func 88) #[] #[.pointer (some ad2), .pointer (some ad6)]), (18, .bool v16)] → St [] w0 w [own 23 (eI .u32) (some ad6) 1 [a3], own 23 (eI .u32) (some ad2) 1 [a0]] → field_Set.j1 a0 a1 a3 a2 v16 = some r → K13 a w := by
  intro v16 a w hs hw H
  unfold field_Set.j1 at H
  refine hK13 _ _ ?_
  refine go_cond hs v16 (fun hc => ?_) fun hc => ?_
  ·replace H := ite_t H hc
   have hb17 := hc
   rw [hb17] at hs
   refine wp_ret ?_
   refine th_ret ?_
   refine ret0 hs (by kernel_rfl) ?_
   refine ⟨_, rfl, ?_⟩
   refine hKR11 _ _ ?_
   intro a hs1; have hs : Slots a _ [(4, .pointer (some ad2))] := hs1.kx; clear hs1
   refine go_end (hK10 _ _ ?_)
   refine go_sk fun K18 hK18 => ?_
   refine go_run hs (by rfl) (x_ld (off := 0) (p := ad2) (v := .int .u32 a0) (Rd.of_own (hw.up 1)) (one_ok a0) (one_at _ _)) [4] ?_; clear hs; intro a hs
   refine go_pvs 2 [13] [(8, .int .u32 a0)] hs ?_; clear hs; intro a hs
   refine go_end (hK18 _ _ ?_)
   refine wp_ret ?_
   obtain rfl := Option.some.inj H
   refine ret1 (t := 8) (v := .int .u32 a0) hs (by kernel_rfl) (by kernel_rfl) ?_
   exact ⟨rfl, hw.only 0⟩
  ·replace H := ite_f H (ff hc)
   have hb19 := hc
   rw [hb19] at hs
   refine wp_skip ?_
   replace hw := hw.up 1
   replace hw := hw.up 1
   exact hJ2 _ _ hs.kx hw H
 refine go_region ?_
 refine go_pvs 3 [] [(9, .bool (decide (a2 < 1)))] hs ?_; clear hs; intro a hs
 cases hb14 : (decide (a2 < 1))
 ·replace H := ite_f H (of_decide_eq_false hb14)
  rw [hb14] at hs
  refine go_pvs 7 [9] [(13, .bool (decide (a1 ≥ 32)))] hs ?_; clear hs; intro a hs
  cases hb15 : (decide (a1 ≥ 32))
  ·replace H := ite_f H (of_decide_eq_false hb15)
   rw [hb15] at hs
   refine go_pvs 12 [13] [(18, .bool (decide (a1 ≤ (w64 (0 - a2)))))] hs ?_; clear hs; intro a hs
   refine go_end ?_
   replace hw := hw.up 1
   replace hw := hw.up 1
   exact hJ1 (decide (a1 ≤ (w64 (0 - a2)))) _ _ hs.kx hw H
  ·replace H := ite_t H (of_decide_eq_true hb15)
   rw [hb15] at hs
   refine go_pvs 12 [13] [(18, .bool true)] hs ?_; clear hs; intro a hs
   refine go_end ?_
   replace hw := hw.up 1
   replace hw := hw.up 1
   exact hJ1 true _ _ hs.kx hw H
 ·replace H := ite_t H (of_decide_eq_true hb14)
  rw [hb14] at hs
  refine go_pvs 12 [9] [(18, .bool true)] hs ?_; clear hs; intro a hs
  refine go_end ?_
  replace hw := hw.up 1
  replace hw := hw.up 1
  exact hJ1 true _ _ hs.kx hw H

/-! rivet/field.Signed: function 74 -/
noncomputable def field_Signed (a0 : Int) (a1 : Int) : Option Int := ((field_known a1).bind fun t4 => ((if 0 ≤ (w64 (32 - t4)) then (if 0 ≤ (w64 (32 - t4)) then some (w64 (shr .i32 (w32 (shl .u32 a0 (w64 (32 - t4)))) (w64 (32 - t4)))) else none) else none)))
set_option maxRecDepth 100000 in
set_option maxHeartbeats 4000000 in
theorem field_Signed.calls (a0 : Int) (a1 : Int) (r : Int) (w0 : World) (H : field_Signed a0 a1 = some r) :
    Calls Try.prog 74 #[.int .u32 a0, .int .i64 a1] w0 fun e w' => e = .returned (.int .i64 r) ∧ St [] w0 w' [] := by
 have hw : St [] w0 w0 [] := St.nil w0
 unfold field_Signed at H
 refine go_fn Try.func74 rfl Try.ntmps74 ?_; intro a hs
 refine go_sp [] [] hs ?_; clear hs; intro a hs
 refine go_sk fun K2 hK2 => ?_
 refine go_pvs 1 [1] [(6, .int .i64 a1)] hs ?_; clear hs; intro a hs
 obtain ⟨t4, hx5, H⟩ := bind_some H
 refine go_call hs (by rfl) (field_known.calls a1 t4 _ hx5) ?_
 rintro e wd6 ⟨rfl, hw7⟩
 refine ⟨_, rfl, ?_⟩
 replace hw := hw.call hw7
 clear hs; intro a hs; replace hs := hs.rms [6]
 refine go_pvs 4 [7] [(5, .int .i64 (w64 (32 - t4)))] hs ?_; clear hs; intro a hs
 refine go_end (hK2 _ _ ?_)
 refine go_sk fun K8 hK8 => ?_
 refine go_pvs 2 [0] [(9, .int .u32 a0), (10, .int .i64 (w64 (32 - t4)))] hs ?_; clear hs; intro a hs
 obtain ⟨hp9, H⟩ := ite_only H
 refine go_run hs (by rfl) (x_shl (k := .u32) (k' := .i64) (m := a0) (n := w64 (32 - t4)) (by kernel_rfl) (by kernel_rfl) hp9) [9, 10] ?_; clear hs; intro a hs
 refine go_pvs 5 [5, 11] [(12, .int .i32 (w32 (shl .u32 a0 (w64 (32 - t4))))), (13, .int .i64 (w64 (32 - t4)))] hs ?_; clear hs; intro a hs
 obtain ⟨hp10, H⟩ := ite_only H
 refine go_run hs (by rfl) (x_shr (k := .i32) (k' := .i64) (m := w32 (shl .u32 a0 (w64 (32 - t4)))) (n := w64 (32 - t4)) (by kernel_rfl) (by kernel_rfl) hp10) [12, 13] ?_; clear hs; intro a hs
 refine go_pvs 8 [14] [(4, .int .i64 (w64 (shr .i32 (w32 (shl .u32 a0 (w64 (32 - t4)))) (w64 (32 - t4)))))] hs ?_; clear hs; intro a hs
 refine go_end (hK8 _ _ ?_)
 refine wp_ret ?_
 obtain rfl := Option.some.inj H
 refine ret1 (t := 4) (v := .int .i64 (w64 (shr .i32 (w32 (shl .u32 a0 (w64 (32 - t4)))) (w64 (32 - t4))))) hs (by kernel_rfl) (by kernel_rfl) ?_
 exact ⟨rfl, hw.only 0⟩

/-! rivet/isa.bit: function 79 -/
noncomputable def isa_bit (a0 : Bool) : Option Int := (if a0 = true then some 1 else some 0)
set_option maxRecDepth 100000 in
set_option maxHeartbeats 4000000 in
theorem isa_bit.calls (a0 : Bool) (r : Int) (w0 : World) (H : isa_bit a0 = some r) :
    Calls Try.prog 79 #[.bool a0] w0 fun e w' => e = .returned (.int .u32 r) ∧ St [] w0 w' [] := by
 have hw : St [] w0 w0 [] := St.nil w0
 unfold isa_bit at H
 refine go_fn Try.func79 rfl Try.ntmps79 ?_; intro a hs
 refine go_sp [] [] hs ?_; clear hs; intro a hs
 refine go_seq_k fun K2 hK2 => ?_
 refine go_sp [0] [(3, .bool a0)] hs ?_; clear hs; intro a hs
 refine go_cond hs a0 (fun hc => ?_) fun hc => ?_
 ·replace H := ite_t H hc
  have hb4 := hc
  rw [hb4] at hs
  refine go_sp [3] [(2, .int .u32 1)] hs ?_; clear hs; intro a hs
  refine wp_ret ?_
  refine th_ret ?_
  obtain rfl := Option.some.inj H
  refine ret1 (t := 2) (v := .int .u32 1) hs (by kernel_rfl) (by kernel_rfl) ?_
  exact ⟨rfl, hw.only 0⟩
 ·replace H := ite_f H (ff hc)
  have hb6 := hc
  rw [hb6] at hs
  refine wp_skip ?_
  refine hK2 _ _ ?_
  refine go_sp [3] [(2, .int .u32 0)] hs ?_; clear hs; intro a hs
  refine wp_ret ?_
  obtain rfl := Option.some.inj H
  refine ret1 (t := 2) (v := .int .u32 0) hs (by kernel_rfl) (by kernel_rfl) ?_
  exact ⟨rfl, hw.only 0⟩

/-! rivet/isa.head: function 52 -/
noncomputable def isa_head (a0 : Int) (a1 : Bool) (a2 : Bool) : Option (Vector Int 3) := ((isa_bit a1).bind fun t8 => (((isa_bit a2).bind fun t13 => (some (#v[28, 4, bor .i64 (bor .i64 (w64 (a0 * 2 ^ 2)) (w64 ((w64 t8) * 2 ^ 1))) (w64 t13)] : Vector Int 3)))))
set_option maxRecDepth 100000 in
set_option maxHeartbeats 4000000 in
theorem isa_head.calls (a0 : Int) (a1 : Bool) (a2 : Bool) (r : (Vector Int 3)) (w0 : World) (H : isa_head a0 a1 a2 = some r) :
    Calls Try.prog 52 #[.int .i64 a0, .bool a1, .bool a2] w0 fun e w' => e = .returned (.agg #[.int .i64 (vx 0 r 0), .int .i64 (vx 0 r 1), .int .i64 (vx 0 r 2)]) ∧ St [] w0 w' [] := by
 have hw : St [] w0 w0 [] := St.nil w0
 unfold isa_head at H
 refine go_fn Try.func52 rfl Try.ntmps52 ?_; intro a hs
 refine go_sk fun K1 hK1 => ?_
 obtain ⟨ad2, wd3, hx4, hw⟩ := x_alloc1 (P := Try.prog) (elem := 109) (ty := 0) (z := .agg #[.int .i64 0, .int .i64 0, .int .i64 0]) hs hw eA109 (Vector.replicate 3 0) (by kernel_rfl) (by kernel_rfl)
 refine go_run hs (by rfl) hx4 [] ?_; clear hs; intro a hs
 refine go_end (hK1 _ _ ?_)
 refine go_sk fun K6 hK6 => ?_
 refine go_pvs 3 [0, 1] [(8, .int .i64 (w64 (a0 * 2 ^ 2))), (9, .bool a1)] hs ?_; clear hs; intro a hs
 obtain ⟨t8, hx9, H⟩ := bind_some H
 refine go_call hs (by rfl) (isa_bit.calls a1 t8 _ hx9) ?_
 rintro e wd10 ⟨rfl, hw11⟩
 refine ⟨_, rfl, ?_⟩
 replace hw := hw.call hw11
 clear hs; intro a hs; replace hs := hs.rms [9]
 refine go_pvs 8 [2, 8, 10] [(13, .int .i64 (bor .i64 (w64 (a0 * 2 ^ 2)) (w64 ((w64 t8) * 2 ^ 1)))), (14, .bool a2)] hs ?_; clear hs; intro a hs
 obtain ⟨t13, hx14, H⟩ := bind_some H
 refine go_call hs (by rfl) (isa_bit.calls a2 t13 _ hx14) ?_
 rintro e wd15 ⟨rfl, hw16⟩
 refine ⟨_, rfl, ?_⟩
 replace hw := hw.call hw16
 clear hs; intro a hs; replace hs := hs.rms [14]
 refine go_pvs 12 [13, 15] [(18, .agg #[.int .i64 28, .int .i64 4, .int .i64 (bor .i64 (bor .i64 (w64 (a0 * 2 ^ 2)) (w64 ((w64 t8) * 2 ^ 1))) (w64 t13))])] hs ?_; clear hs; intro a hs
 obtain ⟨wd17, hx18, hw⟩ := x_put (P := Try.prog) (ty := 0) (t := 109) (x := (Operand.tmp 6)) (y := (Operand.tmp 18)) (off := 0) (p := ad2) (v := .agg #[.int .i64 28, .int .i64 4, .int .i64 (bor .i64 (bor .i64 (w64 (a0 * 2 ^ 2)) (w64 ((w64 t8) * 2 ^ 1))) (w64 t13))]) (vs := [.int .i64 28, .int .i64 4, .int .i64 (bor .i64 (bor .i64 (w64 (a0 * 2 ^ 2)) (w64 ((w64 t8) * 2 ^ 1))) (w64 t13))]) (i := 0) (e' := ((#v[28, 4, bor .i64 (bor .i64 (w64 (a0 * 2 ^ 2)) (w64 ((w64 t8) * 2 ^ 1))) (w64 t13)] : Vector Int 3) : Vector Int 3)) hs hw rfl (one_ok (Vector.replicate 3 0)).1 (one_ok (Vector.replicate 3 0)).2 (by kernel_rfl) (one_at _ _) (by kernel_rfl) rfl (by kernel_rfl) (Nat.le_of_ble_eq_true rfl) (by simp [Value.oneCell']) (by kernel_rfl)
 refine go_unit hs (by rfl) hx18 [18] ?_; clear hs; intro a hs
 replace hw : St [] w0 wd17 [own 109 eA109 (some ad2) 1 [(#v[28, 4, bor .i64 (bor .i64 (w64 (a0 * 2 ^ 2)) (w64 ((w64 t8) * 2 ^ 1))) (w64 t13)] : Vector Int 3)]] := hw
 refine go_end (hK6 _ _ ?_)
 refine wp_ret ?_
 obtain rfl := Option.some.inj H
 replace hs : Slots a 19 [(6, .pointer (some ad2))] := hs.kx
 refine ret1g (L := [(6, .pointer (some ad2))]) (r1 := .cell 6 109) (v1 := .agg #[.int .i64 (vx 0 (#v[28, 4, bor .i64 (bor .i64 (w64 (a0 * 2 ^ 2)) (w64 ((w64 t8) * 2 ^ 1))) (w64 t13)] : Vector Int 3) 0), .int .i64 (vx 0 (#v[28, 4, bor .i64 (bor .i64 (w64 (a0 * 2 ^ 2)) (w64 ((w64 t8) * 2 ^ 1))) (w64 t13)] : Vector Int 3) 1), .int .i64 (vx 0 (#v[28, 4, bor .i64 (bor .i64 (w64 (a0 * 2 ^ 2)) (w64 ((w64 t8) * 2 ^ 1))) (w64 t13)] : Vector Int 3) 2)]) hs (by kernel_rfl) ⟨_, (show lk 6 [(6, .pointer (some ad2))] = some (.pointer (some ad2)) by kernel_rfl), lv_row (E := eA109) (x := (#v[28, 4, bor .i64 (bor .i64 (w64 (a0 * 2 ^ 2)) (w64 ((w64 t8) * 2 ^ 1))) (w64 t13)] : Vector Int 3)) (by kernel_rfl) (by kernel_rfl) (Rd.of_own (hw.up 0))⟩ ?_
 exact ⟨rfl, hw.only 0⟩

/-! rivet/isa.lay: function 51 -/
noncomputable def isa_lay.j1 (v27 : Int) : Option Int := some v27
noncomputable def isa_lay.b5 (l0 : List (Vector Int 3)) (v6 : Int) (v7 : Int) : Option (Int × Int ⊕ Int) := (if v7 < (l0.length : Int) then (if 0 ≤ v7 ∧ v7 < (l0.length : Int) then ((field_Set v6 (vx 0 (ix eA109.d l0 v7) 0) (vx 0 (ix eA109.d l0 v7) 1) (wu32 (vx 0 (ix eA109.d l0 v7) 2))).bind fun t22 => (some (.inl (t22, w64 (v7 + 1))))) else none) else some (.inr v6))
noncomputable def isa_lay (l0 : List (Vector Int 3)) : Option Int := ((loopO (fun (σ : Int × Int) => isa_lay.b5 l0 σ.1 σ.2) (0, 0)).bind fun e => isa_lay.j1 e)
set_option maxRecDepth 100000 in
set_option maxHeartbeats 4000000 in
theorem isa_lay.calls (A0 : Option Addr) (c0 : Nat) (l0 : List (Vector Int 3)) (r : Int) (w0 : World) (hr0 : Rd w0 eA109 A0 c0 l0) (H : isa_lay l0 = some r) :
    Calls Try.prog 51 #[.slice A0 l0.length c0] w0 fun e w' => e = .returned (.int .u32 r) ∧ St [] w0 w' [] := by
 have hw : St [] w0 w0 [] := St.nil w0
 unfold isa_lay at H
 refine go_fn Try.func51 rfl Try.ntmps51 ?_; intro a hs
 refine go_sp [] [] hs ?_; clear hs; intro a hs
 refine go_sp [] [(3, .int .u32 0)] hs ?_; clear hs; intro a hs
 refine go_seq_k fun K3 hK3 => ?_
 refine go_sp [0] [(6, .slice A0 l0.length c0), (7, .int .i64 (l0.length : Int)), (8, .int .i64 0)] hs ?_; clear hs; intro a hs
 refine wp_block ?_
 obtain ⟨e5, hl5, HX5⟩ := bind_some H
 have hJ1 : ∀ (v27 : Int) (a : Act) (w : World), Slots a 23 [(3, .int .u32 v27)] → St [] w0 w [] → isa_lay.j1 v27 = some r → K3 a w := by
  intro v27 a w hs hw H
  unfold isa_lay.j1 at H
  refine hK3 _ _ ?_
  refine go_sp [3] [(2, .int .u32 v27)] hs ?_; clear hs; intro a hs
  refine wp_ret ?_
  obtain rfl := Option.some.inj H
  refine ret1 (t := 2) (v := .int .u32 v27) hs (by kernel_rfl) (by kernel_rfl) ?_
  exact ⟨rfl, hw.only 0⟩
 clear H
 refine go_loop (σ := Int × Int) (fun σ a w => Slots a 23 [(3, .int .u32 σ.1), (6, .slice A0 l0.length c0), (7, .int .i64 (l0.length : Int)), (8, .int .i64 σ.2)] ∧ St [] w0 w []) hl5 (by exact ⟨hs.kx, hw⟩) ?_
 rintro ⟨v6, v7⟩ a w ⟨hs, hw⟩ o H hr5
 replace hs : Slots a 23 [(3, .int .u32 v6), (6, .slice A0 l0.length c0), (7, .int .i64 (l0.length : Int)), (8, .int .i64 v7)] := hs
 replace hw : St [] w0 w [] := hw
 replace H : isa_lay.b5 l0 v6 v7 = some o := H
 unfold isa_lay.b5 at H
 refine go_sp [] [(9, .bool (decide (v7 < (l0.length : Int))))] hs ?_; clear hs; intro a hs
 refine go_seq_k fun K9 hK9 => ?_
 refine go_cond hs (decide (v7 < (l0.length : Int))) (fun hc => ?_) fun hc => ?_
 ·replace H := ite_t H (of_decide_eq_true hc)
  have hb10 := hc
  rw [hb10] at hs
  refine wp_skip ?_
  refine hK9 _ _ ?_
  refine go_seq_k fun K11 hK11 => ?_
  refine wp_block ?_
  refine go_sk fun K12 hK12 => ?_
  obtain ⟨hp13, H⟩ := ite_only H
  obtain ⟨ad14, rfl⟩ := (hr0.old hw).some hp13.1 hp13.2
  refine go_run hs (by rfl) (x_idx (T := 109) (sz := 3) (a := ad14) (n := l0.length) (cap := c0) (k := .i64) (i := v7) hp13) [9] ?_; clear hs; intro a hs
  refine go_run hs (by rfl) (x_lds (off := 0) (p := ad14.add (v7.toNat * 3)) (cs := [.int .i64 (vx 0 (ix eA109.d l0 v7) 0), .int .i64 (vx 0 (ix eA109.d l0 v7) 1), .int .i64 (vx 0 (ix eA109.d l0 v7) 2)]) (hr0.old hw) hp13 rfl) [10] ?_; clear hs; intro a hs
  obtain ⟨ad15, wd16, hx17, hw⟩ := x_alloc1 (P := Try.prog) (elem := 109) (ty := 0) (z := .agg #[.int .i64 0, .int .i64 0, .int .i64 0]) hs hw eA109 (Vector.replicate 3 0) (by kernel_rfl) (by kernel_rfl)
  refine go_run hs (by rfl) hx17 [] ?_; clear hs; intro a hs
  obtain ⟨wd19, hx20, hw⟩ := x_put (P := Try.prog) (ty := 0) (t := 109) (x := (Operand.tmp 5)) (y := (Operand.tmp 11)) (off := 0) (p := ad15) (v := .agg #[.int .i64 (vx 0 (ix eA109.d l0 v7) 0), .int .i64 (vx 0 (ix eA109.d l0 v7) 1), .int .i64 (vx 0 (ix eA109.d l0 v7) 2)]) (vs := [.int .i64 (vx 0 (ix eA109.d l0 v7) 0), .int .i64 (vx 0 (ix eA109.d l0 v7) 1), .int .i64 (vx 0 (ix eA109.d l0 v7) 2)]) (i := 0) (e' := ((ix eA109.d l0 v7) : Vector Int 3)) hs hw rfl (one_ok (Vector.replicate 3 0)).1 (one_ok (Vector.replicate 3 0)).2 (by kernel_rfl) (one_at _ _) (by kernel_rfl) rfl (by kernel_rfl) (Nat.le_of_ble_eq_true rfl) (by simp [Value.oneCell']) (by kernel_rfl)
  refine go_unit hs (by rfl) hx20 [11] ?_; clear hs; intro a hs
  replace hw : St [] w0 wd19 [own 109 eA109 (some ad15) 1 [(ix eA109.d l0 v7)]] := hw
  refine go_end (hK12 _ _ ?_)
  refine go_region ?_
  refine go_pvs 1 [3] [(12, .int .u32 v6)] hs ?_; clear hs; intro a hs
  refine go_run hs (by rfl) (x_vidx (e := 3) (p := ad15) (n := 3) (k := .i64) (i := 0) (sz := 1) (⟨by decide, by decide⟩ : (0 : Int) ≤ 0 ∧ (0 : Int) < ((3 : Nat) : Int))) [] ?_; clear hs; intro a hs
  refine go_run hs (by rfl) (x_ld (off := 0) (p := (ad15 : Addr).add ((0 : Int).toNat * 1)) (v := .int .i64 (vx 0 (ix eA109.d l0 v7) 0)) (Rd.of_own (hw.up 0)) (one_ok (ix eA109.d l0 v7)) (by simp only [add_add', Int.toNat_zero, Nat.zero_mul, Nat.zero_add, Nat.mul_one] <;> rfl)) [13] ?_; clear hs; intro a hs
  refine go_run hs (by rfl) (x_vidx (e := 3) (p := ad15) (n := 3) (k := .i64) (i := 1) (sz := 1) (⟨by decide, by decide⟩ : (0 : Int) ≤ 1 ∧ (1 : Int) < ((3 : Nat) : Int))) [] ?_; clear hs; intro a hs
  refine go_run hs (by rfl) (x_ld (off := 1) (p := (ad15 : Addr).add ((1 : Int).toNat * 1)) (v := .int .i64 (vx 0 (ix eA109.d l0 v7) 1)) (Rd.of_own (hw.up 0)) (one_ok (ix eA109.d l0 v7)) (by simp only [add_add', Int.toNat_zero, Nat.zero_mul, Nat.zero_add, Nat.mul_one] <;> rfl)) [15] ?_; clear hs; intro a hs
  refine go_run hs (by rfl) (x_vidx (e := 3) (p := ad15) (n := 3) (k := .i64) (i := 2) (sz := 1) (⟨by decide, by decide⟩ : (0 : Int) ≤ 2 ∧ (2 : Int) < ((3 : Nat) : Int))) [5] ?_; clear hs; intro a hs
  refine go_run hs (by rfl) (x_ld (off := 2) (p := (ad15 : Addr).add ((2 : Int).toNat * 1)) (v := .int .i64 (vx 0 (ix eA109.d l0 v7) 2)) (Rd.of_own (hw.up 0)) (one_ok (ix eA109.d l0 v7)) (by simp only [add_add', Int.toNat_zero, Nat.zero_mul, Nat.zero_add, Nat.mul_one] <;> rfl)) [17] ?_; clear hs; intro a hs
  refine go_pvs 8 [18] [(19, .int .u32 (wu32 (vx 0 (ix eA109.d l0 v7) 2)))] hs ?_; clear hs; intro a hs
  obtain ⟨t22, hx23, H⟩ := bind_some H
  refine go_call hs (by rfl) (field_Set.calls v6 (vx 0 (ix eA109.d l0 v7) 0) (vx 0 (ix eA109.d l0 v7) 1) (wu32 (vx 0 (ix eA109.d l0 v7) 2)) t22 _ hx23) ?_
  rintro e wd24 ⟨rfl, hw25⟩
  refine ⟨_, rfl, ?_⟩
  replace hw := hw.call hw25
  clear hs; intro a hs; replace hs := hs.rms [12, 14, 16, 19]
  refine go_pvs 10 [20] [(3, .int .u32 t22)] hs ?_; clear hs; intro a hs
  refine go_end ?_
  refine ib_norm ?_
  refine hK11 _ _ ?_
  refine go_plain [] [(8, .int .i64 (w64 (v7 + 1)))] hs ?_; clear hs; intro a hs
  replace hw := hw.only 0
  exact round_end (t22, w64 (v7 + 1)) (Option.some.inj H).symm ⟨hs.kx, hw⟩
 ·replace H := ite_f H (of_decide_eq_false hc)
  have hb26 := hc
  rw [hb26] at hs
  refine wp_exit ?_
  refine th_exit ?_
  refine th_exit ?_
  refine in_block ?_
  rw [← hr5 _ (Option.some.inj H).symm] at HX5
  exact hJ1 v6 _ _ hs.kx hw HX5

/-! rivet/isa.between: function 50 -/
noncomputable def isa_between.j1 (v4 : Bool) : Option Bool := some v4
noncomputable def isa_between (a0 : Int) (a1 : Int) (a2 : Int) : Option Bool := (if a0 ≥ a1 then isa_between.j1 (decide (a0 ≤ a2)) else isa_between.j1 false)
set_option maxRecDepth 100000 in
set_option maxHeartbeats 4000000 in
theorem isa_between.calls (a0 : Int) (a1 : Int) (a2 : Int) (r : Bool) (w0 : World) (H : isa_between a0 a1 a2 = some r) :
    Calls Try.prog 50 #[.int .i64 a0, .int .i64 a1, .int .i64 a2] w0 fun e w' => e = .returned (.bool r) ∧ St [] w0 w' [] := by
 have hw : St [] w0 w0 [] := St.nil w0
 unfold isa_between at H
 refine go_fn Try.func50 rfl Try.ntmps50 ?_; intro a hs
 refine go_sp [] [] hs ?_; clear hs; intro a hs
 refine go_seq_k fun K2 hK2 => ?_
 have hJ1 : ∀ (v4 : Bool) (a : Act) (w : World), Slots a 15 [(6, .bool v4)] → St [] w0 w [] → isa_between.j1 v4 = some r → K2 a w := by
  intro v4 a w hs hw H
  unfold isa_between.j1 at H
  refine hK2 _ _ ?_
  refine wp_ret ?_
  obtain rfl := Option.some.inj H
  refine ret1 (t := 6) (v := .bool v4) hs (by kernel_rfl) (by kernel_rfl) ?_
  exact ⟨rfl, hw.only 0⟩
 refine go_region ?_
 refine go_pvs 4 [1] [(10, .bool (decide (a0 ≥ a1)))] hs ?_; clear hs; intro a hs
 cases hb3 : (decide (a0 ≥ a1))
 ·replace H := ite_f H (of_decide_eq_false hb3)
  rw [hb3] at hs
  refine go_pvs 9 [0, 2, 10] [(6, .bool false)] hs ?_; clear hs; intro a hs
  refine go_end ?_
  exact hJ1 false _ _ hs.kx hw H
 ·replace H := ite_t H (of_decide_eq_true hb3)
  rw [hb3] at hs
  refine go_pvs 9 [0, 2, 10] [(6, .bool (decide (a0 ≤ a2)))] hs ?_; clear hs; intro a hs
  refine go_end ?_
  exact hJ1 (decide (a0 ≤ a2)) _ _ hs.kx hw H

/-! rivet/isa.read$1: function 72 -/
noncomputable def isa_read_1 (a0 : Int) (a1 : Int) (x2 : Int) : Option Int := ((field_Get x2 a0 a1).bind fun t4 => (some (w64 t4)))
set_option maxRecDepth 100000 in
set_option maxHeartbeats 4000000 in
theorem isa_read_1.calls (a0 : Int) (a1 : Int) (A2 : Addr) (x2 : Int) (r : Int) (w0 : World) (hr2 : Rd w0 (eI .u32) (some A2) 1 [x2]) (H : isa_read_1 a0 a1 x2 = some r) :
    Calls Try.prog 72 #[.int .i64 a0, .int .i64 a1, .pointer (some A2)] w0 fun e w' => e = .returned (.int .i64 r) ∧ St [] w0 w' [] := by
 have hw : St [] w0 w0 [] := St.nil w0
 unfold isa_read_1 at H
 refine go_fn Try.func72 rfl Try.ntmps72 ?_; intro a hs
 refine go_sp [] [] hs ?_; clear hs; intro a hs
 refine go_sk fun K2 hK2 => ?_
 refine go_run hs (by rfl) (x_ld (off := 0) (p := A2) (v := .int .u32 x2) (hr2.old hw) (one_ok x2) (one_at _ _)) [2] ?_; clear hs; intro a hs
 refine go_pvs 3 [0, 1] [(7, .int .i64 a0), (8, .int .i64 a1)] hs ?_; clear hs; intro a hs
 obtain ⟨t4, hx5, H⟩ := bind_some H
 refine go_call hs (by rfl) (field_Get.calls x2 a0 a1 t4 _ hx5) ?_
 rintro e wd6 ⟨rfl, hw7⟩
 refine ⟨_, rfl, ?_⟩
 replace hw := hw.call hw7
 clear hs; intro a hs; replace hs := hs.rms [6, 7, 8]
 refine go_pvs 6 [9] [(5, .int .i64 (w64 t4))] hs ?_; clear hs; intro a hs
 refine go_end (hK2 _ _ ?_)
 refine wp_ret ?_
 obtain rfl := Option.some.inj H
 refine ret1 (t := 5) (v := .int .i64 (w64 t4)) hs (by kernel_rfl) (by kernel_rfl) ?_
 exact ⟨rfl, hw.only 0⟩

/-! rivet/isa.read: function 47 -/
noncomputable def isa_read.j2 (v125 : Sapi_Instr) : Option Sapi_Instr := some (v125 : Sapi_Instr)
noncomputable def isa_read.j1 (a0 : Int) (t24 : Int) (t34 : Int) (t29 : Int) (t13 : Int) (t55 : Int) (v65 : Bool) : Option Sapi_Instr := (if v65 = true then ((isa_read_1 28 1 a0).bind fun t68 => (isa_read.j2 (⟨w64 (3 + t68), 0, t24, 0, 0, 0, false⟩ : Sapi_Instr))) else isa_read.j2 ({ ({ (⟨0, t34, t24, t29, 0, 0, t13 == 1⟩ : Sapi_Instr) with Kind := 1 } : Sapi_Instr) with C := t55 } : Sapi_Instr))
noncomputable def isa_read (a0 : Int) : Option Sapi_Instr := ((isa_read_1 29 1 a0).bind fun t13 => (((isa_read_1 28 1 a0).bind fun t18 => (((isa_read_1 24 4 a0).bind fun t24 => (((isa_read_1 20 4 a0).bind fun t29 => (((isa_read_1 16 4 a0).bind fun t34 => (((isa_read_1 30 2 a0).bind fun t47 => ((if t47 = 0 then ((isa_read_1 0 4 a0).bind fun t55 => ((if t13 = 1 then isa_read.j1 a0 t24 t34 t29 t13 t55 (t34 == 0) else isa_read.j1 a0 t24 t34 t29 t13 t55 false))) else (if t47 = 1 then ((isa_read_1 0 16 a0).bind fun t77 => (((isa_read_1 28 1 a0).bind fun t82 => (isa_read.j2 ({ ({ (⟨0, t34, t24, t29, 0, 0, t13 == 1⟩ : Sapi_Instr) with Kind := 2 } : Sapi_Instr) with Imm := w64 (t77 - (w64 (t82 * 2 ^ 16))) } : Sapi_Instr))))) else (if t47 = 2 then ((isa_read_1 29 1 a0).bind fun t94 => (((isa_read_1 28 1 a0).bind fun t97 => (((field_Signed a0 20).bind fun t100 => (isa_read.j2 (⟨5, w64 ((w64 (t94 * 2)) + t97), t24, t29, 0, t100, false⟩ : Sapi_Instr))))))) else ((isa_read_1 0 4 a0).bind fun t107 => ((if t13 = 1 then ((field_Signed a0 24).bind fun t114 => (isa_read.j2 ({ ({ ({ (⟨6, t24, 0, 0, t107, 0, t18 == 1⟩ : Sapi_Instr) with Kind := 7 } : Sapi_Instr) with C := 0 } : Sapi_Instr) with Imm := t114 } : Sapi_Instr))) else isa_read.j2 (⟨6, t24, 0, 0, t107, 0, t18 == 1⟩ : Sapi_Instr)))))))))))))))))))
set_option maxRecDepth 100000 in
set_option maxHeartbeats 4000000 in
theorem isa_read.calls (a0 : Int) (r : Sapi_Instr) (w0 : World) (H : isa_read a0 = some r) :
    Calls Try.prog 47 #[.int .u32 a0] w0 fun e w' => e = .returned (.agg (eSapi_Instr.enc r).toArray) ∧ St [] w0 w' [] := by
 have hw : St [] w0 w0 [] := St.nil w0
 unfold isa_read at H
 refine go_fn Try.func47 rfl Try.ntmps47 ?_; intro a hs
 refine go_sk fun K1 hK1 => ?_
 obtain ⟨ad2, wd3, hx4, hw⟩ := x_box1 (P := Try.prog) (elem := 23) (v := (Operand.tmp 0)) (ty := 0) hs hw (eI .u32) a0 (by kernel_rfl)
 refine go_run hs (by rfl) hx4 [0] ?_; clear hs; intro a hs
 obtain ⟨ad6, wd7, hx8, hw⟩ := x_alloc1 (P := Try.prog) (elem := 45) (ty := 0) (z := .agg (eSapi_Instr.enc (⟨0, 0, 0, 0, 0, 0, false⟩ : Sapi_Instr)).toArray) hs hw eSapi_Instr (⟨0, 0, 0, 0, 0, 0, false⟩ : Sapi_Instr) (by kernel_rfl) (by kernel_rfl)
 refine go_run hs (by rfl) hx8 [] ?_; clear hs; intro a hs
 refine go_end (hK1 _ _ ?_)
 refine go_sp [] [(3, .func (.func 72) #[] #[.pointer (some ad2)])] hs ?_; clear hs; intro a hs
 refine go_sk fun K11 hK11 => ?_
 refine go_pvs 1 [] [(8, .func (.func 72) #[] #[.pointer (some ad2)])] hs ?_; clear hs; intro a hs
 obtain ⟨t13, hx14, H⟩ := bind_some H
 refine go_call hs (by rfl) (isa_read_1.calls 29 1 ad2 a0 t13 _ (Rd.of_own (hw.up 1)) hx14) ?_
 rintro e wd15 ⟨rfl, hw16⟩
 refine ⟨_, rfl, ?_⟩
 replace hw := hw.call hw16
 clear hs; intro a hs; replace hs := hs.rms [8]
 refine go_pvs 4 [9] [(10, .bool (t13 == 1)), (11, .func (.func 72) #[] #[.pointer (some ad2)])] hs ?_; clear hs; intro a hs
 obtain ⟨t18, hx19, H⟩ := bind_some H
 refine go_call hs (by rfl) (isa_read_1.calls 28 1 ad2 a0 t18 _ (Rd.of_own (hw.up 1)) hx19) ?_
 rintro e wd20 ⟨rfl, hw21⟩
 refine ⟨_, rfl, ?_⟩
 replace hw := hw.call hw21
 clear hs; intro a hs; replace hs := hs.rms [11]
 refine go_pvs 8 [10, 12] [(4, .bool (t13 == 1)), (5, .bool (t18 == 1))] hs ?_; clear hs; intro a hs
 refine go_end (hK11 _ _ ?_)
 refine go_sk fun K22 hK22 => ?_
 refine go_pvs 1 [] [(14, .func (.func 72) #[] #[.pointer (some ad2)])] hs ?_; clear hs; intro a hs
 obtain ⟨t24, hx25, H⟩ := bind_some H
 refine go_call hs (by rfl) (isa_read_1.calls 24 4 ad2 a0 t24 _ (Rd.of_own (hw.up 1)) hx25) ?_
 rintro e wd26 ⟨rfl, hw27⟩
 refine ⟨_, rfl, ?_⟩
 replace hw := hw.call hw27
 clear hs; intro a hs; replace hs := hs.rms [14]
 refine go_pvs 3 [] [(16, .func (.func 72) #[] #[.pointer (some ad2)])] hs ?_; clear hs; intro a hs
 obtain ⟨t29, hx30, H⟩ := bind_some H
 refine go_call hs (by rfl) (isa_read_1.calls 20 4 ad2 a0 t29 _ (Rd.of_own (hw.up 1)) hx30) ?_
 rintro e wd31 ⟨rfl, hw32⟩
 refine ⟨_, rfl, ?_⟩
 replace hw := hw.call hw32
 clear hs; intro a hs; replace hs := hs.rms [16]
 refine go_pvs 5 [] [(18, .func (.func 72) #[] #[.pointer (some ad2)])] hs ?_; clear hs; intro a hs
 obtain ⟨t34, hx35, H⟩ := bind_some H
 refine go_call hs (by rfl) (isa_read_1.calls 16 4 ad2 a0 t34 _ (Rd.of_own (hw.up 1)) hx35) ?_
 rintro e wd36 ⟨rfl, hw37⟩
 refine ⟨_, rfl, ?_⟩
 replace hw := hw.call hw37
 clear hs; intro a hs; replace hs := hs.rms [18]
 refine go_pvs 8 [15, 17, 19] [(21, .agg (eSapi_Instr.enc (⟨0, t34, t24, t29, 0, 0, t13 == 1⟩ : Sapi_Instr)).toArray)] hs ?_; clear hs; intro a hs
 obtain ⟨ad38, wd39, hx40, hw⟩ := x_alloc1 (P := Try.prog) (elem := 45) (ty := 0) (z := .agg (eSapi_Instr.enc (⟨0, 0, 0, 0, 0, 0, false⟩ : Sapi_Instr)).toArray) hs hw eSapi_Instr (⟨0, 0, 0, 0, 0, 0, false⟩ : Sapi_Instr) (by kernel_rfl) (by kernel_rfl)
 refine go_run hs (by rfl) hx40 [] ?_; clear hs; intro a hs
 obtain ⟨wd42, hx43, hw⟩ := x_put (P := Try.prog) (ty := 0) (t := 45) (x := (Operand.tmp 6)) (y := (Operand.tmp 21)) (off := 0) (p := ad38) (v := .agg (eSapi_Instr.enc (⟨0, t34, t24, t29, 0, 0, t13 == 1⟩ : Sapi_Instr)).toArray) (vs := (eSapi_Instr.enc (⟨0, t34, t24, t29, 0, 0, t13 == 1⟩ : Sapi_Instr))) (i := 0) (e' := ((⟨0, t34, t24, t29, 0, 0, t13 == 1⟩ : Sapi_Instr) : Sapi_Instr)) hs hw rfl (one_ok (⟨0, 0, 0, 0, 0, 0, false⟩ : Sapi_Instr)).1 (one_ok (⟨0, 0, 0, 0, 0, 0, false⟩ : Sapi_Instr)).2 (by kernel_rfl) (one_at _ _) (by kernel_rfl) rfl (by kernel_rfl) (Nat.le_of_ble_eq_true rfl) (eSapi_Instr.one _) (by kernel_rfl)
 refine go_unit hs (by rfl) hx43 [21] ?_; clear hs; intro a hs
 replace hw : St [] w0 wd42 [own 45 eSapi_Instr (some ad38) 1 [(⟨0, t34, t24, t29, 0, 0, t13 == 1⟩ : Sapi_Instr)], own 45 eSapi_Instr (some ad6) 1 [(⟨0, 0, 0, 0, 0, 0, false⟩ : Sapi_Instr)], own 23 (eI .u32) (some ad2) 1 [a0]] := hw
 refine go_end (hK22 _ _ ?_)
 refine go_seq_k fun K44 hK44 => ?_
 have hJ2 : ∀ (v125 : Sapi_Instr) (a : Act) (w : World), Slots a 80 [(2, .pointer (some ad6)), (6, .pointer (some ad38))] → St [] w0 w [own 45 eSapi_Instr (some ad38) 1 [v125], own 45 eSapi_Instr (some ad6) 1 [(⟨0, 0, 0, 0, 0, 0, false⟩ : Sapi_Instr)], own 23 (eI .u32) (some ad2) 1 [a0]] → isa_read.j2 v125 = some r → K44 a w := by
  intro v125 a w hs hw H
  unfold isa_read.j2 at H
  refine hK44 _ _ ?_
  refine go_sk fun K126 hK126 => ?_
  refine go_run hs (by rfl) (x_lds (off := 0) (p := ad38) (cs := (eSapi_Instr.enc v125)) (Rd.of_own (hw.up 0)) (one_ok (⟨0, t34, t24, t29, 0, 0, t13 == 1⟩ : Sapi_Instr)) (one_at _ _)) [6] ?_; clear hs; intro a hs
  replace hw := hw.up 1
  obtain ⟨wd127, hx128, hw⟩ := x_put (P := Try.prog) (ty := 0) (t := 45) (x := (Operand.tmp 2)) (y := (Operand.tmp 79)) (off := 0) (p := ad6) (v := .agg (eSapi_Instr.enc v125).toArray) (vs := (eSapi_Instr.enc v125)) (i := 0) (e' := ((v125 : Sapi_Instr) : Sapi_Instr)) hs hw rfl (one_ok (⟨0, 0, 0, 0, 0, 0, false⟩ : Sapi_Instr)).1 (one_ok (⟨0, 0, 0, 0, 0, 0, false⟩ : Sapi_Instr)).2 (by kernel_rfl) (one_at _ _) (by kernel_rfl) rfl (by kernel_rfl) (Nat.le_of_ble_eq_true rfl) (eSapi_Instr.one _) (by kernel_rfl)
  refine go_unit hs (by rfl) hx128 [79] ?_; clear hs; intro a hs
  replace hw : St [] w0 wd127 [own 45 eSapi_Instr (some ad6) 1 [(v125 : Sapi_Instr)], own 45 eSapi_Instr (some ad38) 1 [v125], own 23 (eI .u32) (some ad2) 1 [a0]] := hw
  refine go_end (hK126 _ _ ?_)
  refine wp_ret ?_
  obtain rfl := Option.some.inj H
  replace hs : Slots a 80 [(2, .pointer (some ad6))] := hs.kx
  refine ret1g (L := [(2, .pointer (some ad6))]) (r1 := .cell 2 45) (v1 := .agg (eSapi_Instr.enc (v125 : Sapi_Instr)).toArray) hs (by kernel_rfl) ⟨_, (show lk 2 [(2, .pointer (some ad6))] = some (.pointer (some ad6)) by kernel_rfl), lv_row (E := eSapi_Instr) (x := (v125 : Sapi_Instr)) (by kernel_rfl) (by kernel_rfl) (Rd.of_own (hw.up 0))⟩ ?_
  exact ⟨rfl, hw.only 0⟩
 refine go_sk fun K45 hK45 => ?_
 refine go_pvs 1 [] [(22, .func (.func 72) #[] #[.pointer (some ad2)])] hs ?_; clear hs; intro a hs
 obtain ⟨t47, hx48, H⟩ := bind_some H
 refine go_call hs (by rfl) (isa_read_1.calls 30 2 ad2 a0 t47 _ (Rd.of_own (hw.up 2)) hx48) ?_
 rintro e wd49 ⟨rfl, hw50⟩
 refine ⟨_, rfl, ?_⟩
 replace hw := hw.call hw50
 clear hs; intro a hs; replace hs := hs.rms [22]
 refine go_end (hK45 _ _ ?_)
 refine wp_block ?_
 refine go_sp [] [(36, .bool (t47 == 0))] hs ?_; clear hs; intro a hs
 refine go_cond hs (t47 == 0) (fun hc => ?_) fun hc => ?_
 ·replace H := ite_t H (beq_iff_eq.1 hc)
  have hb52 := hc
  rw [hb52] at hs
  refine go_sk fun K53 hK53 => ?_
  refine go_pvs 1 [1, 5, 23, 36] [(38, .func (.func 72) #[] #[.pointer (some ad2)])] hs ?_; clear hs; intro a hs
  obtain ⟨t55, hx56, H⟩ := bind_some H
  refine go_call hs (by rfl) (isa_read_1.calls 0 4 ad2 a0 t55 _ (Rd.of_own (hw.up 2)) hx56) ?_
  rintro e wd57 ⟨rfl, hw58⟩
  refine ⟨_, rfl, ?_⟩
  replace hw := hw.call hw58
  clear hs; intro a hs; replace hs := hs.rms [38]
  refine go_pvs 3 [] [(40, .pointer (some ((ad38 : Addr).add 0)))] hs ?_; clear hs; intro a hs
  obtain ⟨wd59, hx60, hw⟩ := x_put (P := Try.prog) (ty := 0) (t := 3) (x := (Operand.tmp 40)) (y := (Operand.const (Value.int IntKind.i64 1))) (off := 0) (p := (ad38 : Addr).add 0) (v := .int .i64 1) (vs := [.int .i64 1]) (i := 0) (e' := (({ (⟨0, t34, t24, t29, 0, 0, t13 == 1⟩ : Sapi_Instr) with Kind := 1 } : Sapi_Instr) : Sapi_Instr)) hs hw rfl (one_ok (⟨0, t34, t24, t29, 0, 0, t13 == 1⟩ : Sapi_Instr)).1 (one_ok (⟨0, t34, t24, t29, 0, 0, t13 == 1⟩ : Sapi_Instr)).2 (by kernel_rfl) (one_off _ _ _) (by kernel_rfl) rfl (by kernel_rfl) (Nat.le_of_ble_eq_true rfl) (by simp [Value.oneCell']) (by kernel_rfl)
  refine go_unit hs (by rfl) hx60 [40] ?_; clear hs; intro a hs
  replace hw : St [] w0 wd59 [own 45 eSapi_Instr (some ad38) 1 [({ (⟨0, t34, t24, t29, 0, 0, t13 == 1⟩ : Sapi_Instr) with Kind := 1 } : Sapi_Instr)], own 45 eSapi_Instr (some ad6) 1 [(⟨0, 0, 0, 0, 0, 0, false⟩ : Sapi_Instr)], own 23 (eI .u32) (some ad2) 1 [a0]] := hw
  refine go_pvs 5 [] [(41, .pointer (some ((ad38 : Addr).add 4)))] hs ?_; clear hs; intro a hs
  replace hs : Slots a 80 [(2, .pointer (some ad6)), (3, .func (.func 72) #[] #[.pointer (some ad2)]), (4, .bool (t13 == 1)), (6, .pointer (some ad38)), (39, .int .i64 t55), (41, .pointer (some ((ad38 : Addr).add 4)))] := hs.kx
  obtain ⟨wd61, hx62, hw⟩ := x_put (P := Try.prog) (ty := 0) (t := 3) (x := (Operand.tmp 41)) (y := (Operand.tmp 39)) (off := 4) (p := (ad38 : Addr).add 4) (v := .int .i64 t55) (vs := [.int .i64 t55]) (i := 0) (e' := (({ ({ (⟨0, t34, t24, t29, 0, 0, t13 == 1⟩ : Sapi_Instr) with Kind := 1 } : Sapi_Instr) with C := t55 } : Sapi_Instr) : Sapi_Instr)) hs hw rfl (one_ok ({ (⟨0, t34, t24, t29, 0, 0, t13 == 1⟩ : Sapi_Instr) with Kind := 1 } : Sapi_Instr)).1 (one_ok ({ (⟨0, t34, t24, t29, 0, 0, t13 == 1⟩ : Sapi_Instr) with Kind := 1 } : Sapi_Instr)).2 (by kernel_rfl) (one_off _ _ _) (by kernel_rfl) rfl (by kernel_rfl) (Nat.le_of_ble_eq_true rfl) (by simp [Value.oneCell']) (by kernel_rfl)
  refine go_unit hs (by rfl) hx62 [39, 41] ?_; clear hs; intro a hs
  replace hw : St [] w0 wd61 [own 45 eSapi_Instr (some ad38) 1 [({ ({ (⟨0, t34, t24, t29, 0, 0, t13 == 1⟩ : Sapi_Instr) with Kind := 1 } : Sapi_Instr) with C := t55 } : Sapi_Instr)], own 45 eSapi_Instr (some ad6) 1 [(⟨0, 0, 0, 0, 0, 0, false⟩ : Sapi_Instr)], own 23 (eI .u32) (some ad2) 1 [a0]] := hw
  refine go_end (hK53 _ _ ?_)
  refine go_seq_k fun K63 hK63 => ?_
  have hJ1 : ∀ (v65 : Bool) (a : Act) (w : World), Slots a 80 [(2, .pointer (some ad6)), (3, .func (.func 72) #[] #[.pointer (some ad2)]), (6, .pointer (some ad38)), (47, .bool v65)] → St [] w0 w [own 45 eSapi_Instr (some ad38) 1 [({ ({ (⟨0, t34, t24, t29, 0, 0, t13 == 1⟩ : Sapi_Instr) with Kind := 1 } : Sapi_Instr) with C := t55 } : Sapi_Instr)], own 45 eSapi_Instr (some ad6) 1 [(⟨0, 0, 0, 0, 0, 0, false⟩ : Sapi_Instr)], own 23 (eI .u32) (some ad2) 1 [a0]] → isa_read.j1 a0 t24 t34 t29 t13 t55 v65 = some r → K63 a w := by
   intro v65 a w hs hw H
   unfold isa_read.j1 at H
   refine hK63 _ _ ?_
   refine go_cond hs v65 (fun hc => ?_) fun hc => ?_
   ·replace H := ite_t H hc
    have hb66 := hc
    rw [hb66] at hs
    refine z_region [0, 1, 2, 3, 4, 5] [6] [] (by kernel_rfl) (by kernel_rfl) (fun c a d v w h => by cases d <;> exact h) ?_
    refine z_pvs [0] [1, 2, 3, 4, 5] [3, 47] [(48, .func (.func 72) #[] #[.pointer (some ad2)])] hs ?_; clear hs; intro a hs
    obtain ⟨t68, hx69, H⟩ := bind_some H
    refine z_call hs (by rfl) (fun wx hbx => (isa_read_1.calls 28 1 ad2 a0 t68 _ ((Rd.of_own (hw.up 2)).below hbx) hx69).mono fun e wy h => ⟨h.1, below_st hbx h.2⟩) [48] ?_; clear hs; intro a hs
    refine z_pvs [2, 3] [4, 5] [49] [(50, .int .i64 (w64 (3 + t68))), (51, .pointer (some ((ad38 : Addr).add 2)))] hs ?_; clear hs; intro a hs
    refine z_run hs (by rfl) (fun wx hbx => (x_ld (off := 2) (p := (ad38 : Addr).add 2) (v := .int .i64 t24) ((Rd.of_own (hw.up 0)).below hbx) (one_ok ({ ({ (⟨0, t34, t24, t29, 0, 0, t13 == 1⟩ : Sapi_Instr) with Kind := 1 } : Sapi_Instr) with C := t55 } : Sapi_Instr)) (one_off _ _ _))) [51] ?_; clear hs; intro a hs
    refine z_pvs [5] [] [50, 52] [(53, .agg (eSapi_Instr.enc (⟨w64 (3 + t68), 0, t24, 0, 0, 0, false⟩ : Sapi_Instr)).toArray)] hs ?_; clear hs; intro a hs
    refine z_end ?_
    intro wq hbq
    replace hw := hw.behind hbq
    obtain ⟨wd70, hx71, hw⟩ := x_put (P := Try.prog) (ty := 0) (t := 45) (x := (Operand.tmp 6)) (y := (Operand.tmp 53)) (off := 0) (p := ad38) (v := .agg (eSapi_Instr.enc (⟨w64 (3 + t68), 0, t24, 0, 0, 0, false⟩ : Sapi_Instr)).toArray) (vs := (eSapi_Instr.enc (⟨w64 (3 + t68), 0, t24, 0, 0, 0, false⟩ : Sapi_Instr))) (i := 0) (e' := ((⟨w64 (3 + t68), 0, t24, 0, 0, 0, false⟩ : Sapi_Instr) : Sapi_Instr)) hs hw rfl (one_ok ({ ({ (⟨0, t34, t24, t29, 0, 0, t13 == 1⟩ : Sapi_Instr) with Kind := 1 } : Sapi_Instr) with C := t55 } : Sapi_Instr)).1 (one_ok ({ ({ (⟨0, t34, t24, t29, 0, 0, t13 == 1⟩ : Sapi_Instr) with Kind := 1 } : Sapi_Instr) with C := t55 } : Sapi_Instr)).2 (by kernel_rfl) (one_at _ _) (by kernel_rfl) rfl (by kernel_rfl) (Nat.le_of_ble_eq_true rfl) (eSapi_Instr.one _) (by kernel_rfl)
    refine p_unit hs (by rfl) hx71 [53] ?_; clear hs; intro a hs
    replace hw : St [] w0 wd70 [own 45 eSapi_Instr (some ad38) 1 [(⟨w64 (3 + t68), 0, t24, 0, 0, 0, false⟩ : Sapi_Instr)], own 45 eSapi_Instr (some ad6) 1 [(⟨0, 0, 0, 0, 0, 0, false⟩ : Sapi_Instr)], own 23 (eI .u32) (some ad2) 1 [a0]] := hw
    refine p_last ?_
    refine e_end ?_
    refine ib_norm ?_
    replace hw := hw.up 2
    replace hw := hw.up 2
    replace hw := hw.up 2
    exact hJ2 (⟨w64 (3 + t68), 0, t24, 0, 0, 0, false⟩ : Sapi_Instr) _ _ hs.kx hw H
   ·replace H := ite_f H (ff hc)
    have hb72 := hc
    rw [hb72] at hs
    refine wp_skip ?_
    refine ib_norm ?_
    replace hw := hw.up 2
    replace hw := hw.up 2
    replace hw := hw.up 2
    exact hJ2 ({ ({ (⟨0, t34, t24, t29, 0, 0, t13 == 1⟩ : Sapi_Instr) with Kind := 1 } : Sapi_Instr) with C := t55 } : Sapi_Instr) _ _ hs.kx hw H
  refine go_region ?_
  refine go_pvs 2 [4] [(43, .bool (t13 == 1))] hs ?_; clear hs; intro a hs
  cases hb64 : (t13 == 1)
  ·replace H := ite_f H (beq_eq_false_iff_ne.1 hb64)
   rw [hb64] at hs
   refine go_pvs 6 [43] [(47, .bool false)] hs ?_; clear hs; intro a hs
   refine go_end ?_
   replace hw := hw.up 2
   replace hw := hw.up 2
   replace hw := hw.up 2
   exact hJ1 false _ _ hs.kx hw H
  ·replace H := ite_t H (beq_iff_eq.1 hb64)
   rw [hb64] at hs
   refine go_pvs 3 [] [(44, .pointer (some ((ad38 : Addr).add 1)))] hs ?_; clear hs; intro a hs
   refine go_run hs (by rfl) (x_ld (off := 1) (p := (ad38 : Addr).add 1) (v := .int .i64 t34) (Rd.of_own (hw.up 0)) (one_ok ({ ({ (⟨0, t34, t24, t29, 0, 0, t13 == 1⟩ : Sapi_Instr) with Kind := 1 } : Sapi_Instr) with C := t55 } : Sapi_Instr)) (one_off _ _ _)) [44] ?_; clear hs; intro a hs
   refine go_pvs 6 [43, 45] [(47, .bool (t34 == 0))] hs ?_; clear hs; intro a hs
   refine go_end ?_
   replace hw := hw.up 2
   replace hw := hw.up 2
   replace hw := hw.up 2
   exact hJ1 (t34 == 0) _ _ hs.kx hw H
 ·replace H := ite_f H (beq_eq_false_iff_ne.1 hc)
  have hb73 := hc
  rw [hb73] at hs
  refine go_sp [36] [(54, .bool (t47 == 1))] hs ?_; clear hs; intro a hs
  refine go_cond hs (t47 == 1) (fun hc => ?_) fun hc => ?_
  ·replace H := ite_t H (beq_iff_eq.1 hc)
   have hb75 := hc
   rw [hb75] at hs
   refine go_region ?_
   refine go_pvs 1 [1, 4, 5, 23, 54] [(56, .func (.func 72) #[] #[.pointer (some ad2)])] hs ?_; clear hs; intro a hs
   obtain ⟨t77, hx78, H⟩ := bind_some H
   refine go_call hs (by rfl) (isa_read_1.calls 0 16 ad2 a0 t77 _ (Rd.of_own (hw.up 2)) hx78) ?_
   rintro e wd79 ⟨rfl, hw80⟩
   refine ⟨_, rfl, ?_⟩
   replace hw := hw.call hw80
   clear hs; intro a hs; replace hs := hs.rms [56]
   refine go_pvs 3 [3] [(58, .func (.func 72) #[] #[.pointer (some ad2)])] hs ?_; clear hs; intro a hs
   obtain ⟨t82, hx83, H⟩ := bind_some H
   refine go_call hs (by rfl) (isa_read_1.calls 28 1 ad2 a0 t82 _ (Rd.of_own (hw.up 2)) hx83) ?_
   rintro e wd84 ⟨rfl, hw85⟩
   refine ⟨_, rfl, ?_⟩
   replace hw := hw.call hw85
   clear hs; intro a hs; replace hs := hs.rms [58]
   replace hs : Slots a 80 [(2, .pointer (some ad6)), (6, .pointer (some ad38)), (57, .int .i64 t77), (59, .int .i64 t82)] := hs.kx
   refine go_pvs 7 [57, 59] [(61, .int .i64 (w64 (t77 - (w64 (t82 * 2 ^ 16))))), (62, .pointer (some ((ad38 : Addr).add 0)))] hs ?_; clear hs; intro a hs
   obtain ⟨wd86, hx87, hw⟩ := x_put (P := Try.prog) (ty := 0) (t := 3) (x := (Operand.tmp 62)) (y := (Operand.const (Value.int IntKind.i64 2))) (off := 0) (p := (ad38 : Addr).add 0) (v := .int .i64 2) (vs := [.int .i64 2]) (i := 0) (e' := (({ (⟨0, t34, t24, t29, 0, 0, t13 == 1⟩ : Sapi_Instr) with Kind := 2 } : Sapi_Instr) : Sapi_Instr)) hs hw rfl (one_ok (⟨0, t34, t24, t29, 0, 0, t13 == 1⟩ : Sapi_Instr)).1 (one_ok (⟨0, t34, t24, t29, 0, 0, t13 == 1⟩ : Sapi_Instr)).2 (by kernel_rfl) (one_off _ _ _) (by kernel_rfl) rfl (by kernel_rfl) (Nat.le_of_ble_eq_true rfl) (by simp [Value.oneCell']) (by kernel_rfl)
   refine go_unit hs (by rfl) hx87 [62] ?_; clear hs; intro a hs
   replace hw : St [] w0 wd86 [own 45 eSapi_Instr (some ad38) 1 [({ (⟨0, t34, t24, t29, 0, 0, t13 == 1⟩ : Sapi_Instr) with Kind := 2 } : Sapi_Instr)], own 45 eSapi_Instr (some ad6) 1 [(⟨0, 0, 0, 0, 0, 0, false⟩ : Sapi_Instr)], own 23 (eI .u32) (some ad2) 1 [a0]] := hw
   refine go_pvs 9 [] [(63, .pointer (some ((ad38 : Addr).add 5)))] hs ?_; clear hs; intro a hs
   obtain ⟨wd88, hx89, hw⟩ := x_put (P := Try.prog) (ty := 0) (t := 3) (x := (Operand.tmp 63)) (y := (Operand.tmp 61)) (off := 5) (p := (ad38 : Addr).add 5) (v := .int .i64 (w64 (t77 - (w64 (t82 * 2 ^ 16))))) (vs := [.int .i64 (w64 (t77 - (w64 (t82 * 2 ^ 16))))]) (i := 0) (e' := (({ ({ (⟨0, t34, t24, t29, 0, 0, t13 == 1⟩ : Sapi_Instr) with Kind := 2 } : Sapi_Instr) with Imm := w64 (t77 - (w64 (t82 * 2 ^ 16))) } : Sapi_Instr) : Sapi_Instr)) hs hw rfl (one_ok ({ (⟨0, t34, t24, t29, 0, 0, t13 == 1⟩ : Sapi_Instr) with Kind := 2 } : Sapi_Instr)).1 (one_ok ({ (⟨0, t34, t24, t29, 0, 0, t13 == 1⟩ : Sapi_Instr) with Kind := 2 } : Sapi_Instr)).2 (by kernel_rfl) (one_off _ _ _) (by kernel_rfl) rfl (by kernel_rfl) (Nat.le_of_ble_eq_true rfl) (by simp [Value.oneCell']) (by kernel_rfl)
   refine go_unit hs (by rfl) hx89 [61, 63] ?_; clear hs; intro a hs
   replace hw : St [] w0 wd88 [own 45 eSapi_Instr (some ad38) 1 [({ ({ (⟨0, t34, t24, t29, 0, 0, t13 == 1⟩ : Sapi_Instr) with Kind := 2 } : Sapi_Instr) with Imm := w64 (t77 - (w64 (t82 * 2 ^ 16))) } : Sapi_Instr)], own 45 eSapi_Instr (some ad6) 1 [(⟨0, 0, 0, 0, 0, 0, false⟩ : Sapi_Instr)], own 23 (eI .u32) (some ad2) 1 [a0]] := hw
   refine go_end ?_
   refine ib_norm ?_
   replace hw := hw.up 2
   replace hw := hw.up 2
   replace hw := hw.up 2
   exact hJ2 ({ ({ (⟨0, t34, t24, t29, 0, 0, t13 == 1⟩ : Sapi_Instr) with Kind := 2 } : Sapi_Instr) with Imm := w64 (t77 - (w64 (t82 * 2 ^ 16))) } : Sapi_Instr) _ _ hs.kx hw H
  ·replace H := ite_f H (beq_eq_false_iff_ne.1 hc)
   have hb90 := hc
   rw [hb90] at hs
   refine go_sp [23, 54] [(64, .bool (t47 == 2))] hs ?_; clear hs; intro a hs
   refine go_cond hs (t47 == 2) (fun hc => ?_) fun hc => ?_
   ·replace H := ite_t H (beq_iff_eq.1 hc)
    have hb92 := hc
    rw [hb92] at hs
    refine z_region [0, 1, 2, 3, 4, 5, 6, 7, 8, 9, 10, 11, 12] [13] [] (by kernel_rfl) (by kernel_rfl) (fun c a d v w h => by cases d <;> exact h) ?_
    refine z_pvs [0] [1, 2, 3, 4, 5, 6, 7, 8, 9, 10, 11, 12] [4, 5, 64] [(66, .func (.func 72) #[] #[.pointer (some ad2)])] hs ?_; clear hs; intro a hs
    obtain ⟨t94, hx95, H⟩ := bind_some H
    refine z_call hs (by rfl) (fun wx hbx => (isa_read_1.calls 29 1 ad2 a0 t94 _ ((Rd.of_own (hw.up 2)).below hbx) hx95).mono fun e wy h => ⟨h.1, below_st hbx h.2⟩) [66] ?_; clear hs; intro a hs
    refine z_pvs [2, 3] [4, 5, 6, 7, 8, 9, 10, 11, 12] [3, 67] [(68, .int .i64 (w64 (t94 * 2))), (69, .func (.func 72) #[] #[.pointer (some ad2)])] hs ?_; clear hs; intro a hs
    replace hs : Slots a 80 [(1, .pointer (some ad2)), (2, .pointer (some ad6)), (6, .pointer (some ad38)), (68, .int .i64 (w64 (t94 * 2))), (69, .func (.func 72) #[] #[.pointer (some ad2)])] := hs.kx
    obtain ⟨t97, hx98, H⟩ := bind_some H
    refine z_call hs (by rfl) (fun wx hbx => (isa_read_1.calls 28 1 ad2 a0 t97 _ ((Rd.of_own (hw.up 2)).below hbx) hx98).mono fun e wy h => ⟨h.1, below_st hbx h.2⟩) [69] ?_; clear hs; intro a hs
    refine z_pvs [5, 6] [7, 8, 9, 10, 11, 12] [68, 70] [(71, .int .i64 (w64 ((w64 (t94 * 2)) + t97))), (72, .pointer (some ((ad38 : Addr).add 2)))] hs ?_; clear hs; intro a hs
    refine z_run hs (by rfl) (fun wx hbx => (x_ld (off := 2) (p := (ad38 : Addr).add 2) (v := .int .i64 t24) ((Rd.of_own (hw.up 0)).below hbx) (one_ok (⟨0, t34, t24, t29, 0, 0, t13 == 1⟩ : Sapi_Instr)) (one_off _ _ _))) [72] ?_; clear hs; intro a hs
    refine z_pvs [8] [9, 10, 11, 12] [] [(74, .pointer (some ((ad38 : Addr).add 3)))] hs ?_; clear hs; intro a hs
    refine z_run hs (by rfl) (fun wx hbx => (x_ld (off := 3) (p := (ad38 : Addr).add 3) (v := .int .i64 t29) ((Rd.of_own (hw.up 0)).below hbx) (one_ok (⟨0, t34, t24, t29, 0, 0, t13 == 1⟩ : Sapi_Instr)) (one_off _ _ _))) [74] ?_; clear hs; intro a hs
    refine z_run hs (by rfl) (fun wx hbx => (x_ld (off := 0) (p := ad2) (v := .int .u32 a0) ((Rd.of_own (hw.up 2)).below hbx) (one_ok a0) (one_at _ _))) [1] ?_; clear hs; intro a hs
    obtain ⟨t100, hx101, H⟩ := bind_some H
    refine z_call hs (by rfl) (fun wx hbx => (field_Signed.calls a0 20 t100 _ hx101).mono fun e wy h => ⟨h.1, below_st hbx h.2⟩) [76] ?_; clear hs; intro a hs
    refine z_pvs [12] [] [71, 73, 75, 77] [(78, .agg (eSapi_Instr.enc (⟨5, w64 ((w64 (t94 * 2)) + t97), t24, t29, 0, t100, false⟩ : Sapi_Instr)).toArray)] hs ?_; clear hs; intro a hs
    refine z_end ?_
    intro wq hbq
    replace hw := hw.behind hbq
    obtain ⟨wd102, hx103, hw⟩ := x_put (P := Try.prog) (ty := 0) (t := 45) (x := (Operand.tmp 6)) (y := (Operand.tmp 78)) (off := 0) (p := ad38) (v := .agg (eSapi_Instr.enc (⟨5, w64 ((w64 (t94 * 2)) + t97), t24, t29, 0, t100, false⟩ : Sapi_Instr)).toArray) (vs := (eSapi_Instr.enc (⟨5, w64 ((w64 (t94 * 2)) + t97), t24, t29, 0, t100, false⟩ : Sapi_Instr))) (i := 0) (e' := ((⟨5, w64 ((w64 (t94 * 2)) + t97), t24, t29, 0, t100, false⟩ : Sapi_Instr) : Sapi_Instr)) hs hw rfl (one_ok (⟨0, t34, t24, t29, 0, 0, t13 == 1⟩ : Sapi_Instr)).1 (one_ok (⟨0, t34, t24, t29, 0, 0, t13 == 1⟩ : Sapi_Instr)).2 (by kernel_rfl) (one_at _ _) (by kernel_rfl) rfl (by kernel_rfl) (Nat.le_of_ble_eq_true rfl) (eSapi_Instr.one _) (by kernel_rfl)
    refine p_unit hs (by rfl) hx103 [78] ?_; clear hs; intro a hs
    replace hw : St [] w0 wd102 [own 45 eSapi_Instr (some ad38) 1 [(⟨5, w64 ((w64 (t94 * 2)) + t97), t24, t29, 0, t100, false⟩ : Sapi_Instr)], own 45 eSapi_Instr (some ad6) 1 [(⟨0, 0, 0, 0, 0, 0, false⟩ : Sapi_Instr)], own 23 (eI .u32) (some ad2) 1 [a0]] := hw
    refine p_last ?_
    refine e_end ?_
    refine ib_norm ?_
    replace hw := hw.up 2
    replace hw := hw.up 2
    replace hw := hw.up 2
    exact hJ2 (⟨5, w64 ((w64 (t94 * 2)) + t97), t24, t29, 0, t100, false⟩ : Sapi_Instr) _ _ hs.kx hw H
   ·replace H := ite_f H (beq_eq_false_iff_ne.1 hc)
    have hb104 := hc
    rw [hb104] at hs
    refine go_seq_k fun K105 hK105 => ?_
    refine z_region [0, 1, 2, 3, 4, 5] [6] [] (by kernel_rfl) (by kernel_rfl) (fun c a d v w h => by cases d <;> exact h) ?_
    refine z_pvs [0] [1, 2, 3, 4, 5] [64] [(24, .pointer (some ((ad38 : Addr).add 2)))] hs ?_; clear hs; intro a hs
    refine z_run hs (by rfl) (fun wx hbx => (x_ld (off := 2) (p := (ad38 : Addr).add 2) (v := .int .i64 t24) ((Rd.of_own (hw.up 0)).below hbx) (one_ok (⟨0, t34, t24, t29, 0, 0, t13 == 1⟩ : Sapi_Instr)) (one_off _ _ _))) [24] ?_; clear hs; intro a hs
    refine z_pvs [2, 3] [4, 5] [3, 5] [(26, .bool (t18 == 1)), (27, .func (.func 72) #[] #[.pointer (some ad2)])] hs ?_; clear hs; intro a hs
    replace hs : Slots a 80 [(1, .pointer (some ad2)), (2, .pointer (some ad6)), (4, .bool (t13 == 1)), (6, .pointer (some ad38)), (25, .int .i64 t24), (26, .bool (t18 == 1)), (27, .func (.func 72) #[] #[.pointer (some ad2)])] := hs.kx
    obtain ⟨t107, hx108, H⟩ := bind_some H
    refine z_call hs (by rfl) (fun wx hbx => (isa_read_1.calls 0 4 ad2 a0 t107 _ ((Rd.of_own (hw.up 2)).below hbx) hx108).mono fun e wy h => ⟨h.1, below_st hbx h.2⟩) [27] ?_; clear hs; intro a hs
    refine z_pvs [5] [] [25, 26, 28] [(29, .agg (eSapi_Instr.enc (⟨6, t24, 0, 0, t107, 0, t18 == 1⟩ : Sapi_Instr)).toArray)] hs ?_; clear hs; intro a hs
    refine z_end ?_
    intro wq hbq
    replace hw := hw.behind hbq
    obtain ⟨wd109, hx110, hw⟩ := x_put (P := Try.prog) (ty := 0) (t := 45) (x := (Operand.tmp 6)) (y := (Operand.tmp 29)) (off := 0) (p := ad38) (v := .agg (eSapi_Instr.enc (⟨6, t24, 0, 0, t107, 0, t18 == 1⟩ : Sapi_Instr)).toArray) (vs := (eSapi_Instr.enc (⟨6, t24, 0, 0, t107, 0, t18 == 1⟩ : Sapi_Instr))) (i := 0) (e' := ((⟨6, t24, 0, 0, t107, 0, t18 == 1⟩ : Sapi_Instr) : Sapi_Instr)) hs hw rfl (one_ok (⟨0, t34, t24, t29, 0, 0, t13 == 1⟩ : Sapi_Instr)).1 (one_ok (⟨0, t34, t24, t29, 0, 0, t13 == 1⟩ : Sapi_Instr)).2 (by kernel_rfl) (one_at _ _) (by kernel_rfl) rfl (by kernel_rfl) (Nat.le_of_ble_eq_true rfl) (eSapi_Instr.one _) (by kernel_rfl)
    refine p_unit hs (by rfl) hx110 [29] ?_; clear hs; intro a hs
    replace hw : St [] w0 wd109 [own 45 eSapi_Instr (some ad38) 1 [(⟨6, t24, 0, 0, t107, 0, t18 == 1⟩ : Sapi_Instr)], own 45 eSapi_Instr (some ad6) 1 [(⟨0, 0, 0, 0, 0, 0, false⟩ : Sapi_Instr)], own 23 (eI .u32) (some ad2) 1 [a0]] := hw
    refine p_last ?_
    refine e_end ?_
    refine hK105 _ _ ?_
    refine go_sp [4] [(30, .bool (t13 == 1))] hs ?_; clear hs; intro a hs
    refine go_cond hs (t13 == 1) (fun hc => ?_) fun hc => ?_
    ·replace H := ite_t H (beq_iff_eq.1 hc)
     have hb112 := hc
     rw [hb112] at hs
     refine go_region ?_
     refine go_run hs (by rfl) (x_ld (off := 0) (p := ad2) (v := .int .u32 a0) (Rd.of_own (hw.up 2)) (one_ok a0) (one_at _ _)) [1, 30] ?_; clear hs; intro a hs
     obtain ⟨t114, hx115, H⟩ := bind_some H
     refine go_call hs (by rfl) (field_Signed.calls a0 24 t114 _ hx115) ?_
     rintro e wd116 ⟨rfl, hw117⟩
     refine ⟨_, rfl, ?_⟩
     replace hw := hw.call hw117
     clear hs; intro a hs; replace hs := hs.rms [31]
     refine go_pvs 3 [] [(33, .pointer (some ((ad38 : Addr).add 0)))] hs ?_; clear hs; intro a hs
     obtain ⟨wd118, hx119, hw⟩ := x_put (P := Try.prog) (ty := 0) (t := 3) (x := (Operand.tmp 33)) (y := (Operand.const (Value.int IntKind.i64 7))) (off := 0) (p := (ad38 : Addr).add 0) (v := .int .i64 7) (vs := [.int .i64 7]) (i := 0) (e' := (({ (⟨6, t24, 0, 0, t107, 0, t18 == 1⟩ : Sapi_Instr) with Kind := 7 } : Sapi_Instr) : Sapi_Instr)) hs hw rfl (one_ok (⟨6, t24, 0, 0, t107, 0, t18 == 1⟩ : Sapi_Instr)).1 (one_ok (⟨6, t24, 0, 0, t107, 0, t18 == 1⟩ : Sapi_Instr)).2 (by kernel_rfl) (one_off _ _ _) (by kernel_rfl) rfl (by kernel_rfl) (Nat.le_of_ble_eq_true rfl) (by simp [Value.oneCell']) (by kernel_rfl)
     refine go_unit hs (by rfl) hx119 [33] ?_; clear hs; intro a hs
     replace hw : St [] w0 wd118 [own 45 eSapi_Instr (some ad38) 1 [({ (⟨6, t24, 0, 0, t107, 0, t18 == 1⟩ : Sapi_Instr) with Kind := 7 } : Sapi_Instr)], own 45 eSapi_Instr (some ad6) 1 [(⟨0, 0, 0, 0, 0, 0, false⟩ : Sapi_Instr)], own 23 (eI .u32) (some ad2) 1 [a0]] := hw
     refine go_pvs 5 [] [(34, .pointer (some ((ad38 : Addr).add 4)))] hs ?_; clear hs; intro a hs
     obtain ⟨wd120, hx121, hw⟩ := x_put (P := Try.prog) (ty := 0) (t := 3) (x := (Operand.tmp 34)) (y := (Operand.const (Value.int IntKind.i64 0))) (off := 4) (p := (ad38 : Addr).add 4) (v := .int .i64 0) (vs := [.int .i64 0]) (i := 0) (e' := (({ ({ (⟨6, t24, 0, 0, t107, 0, t18 == 1⟩ : Sapi_Instr) with Kind := 7 } : Sapi_Instr) with C := 0 } : Sapi_Instr) : Sapi_Instr)) hs hw rfl (one_ok ({ (⟨6, t24, 0, 0, t107, 0, t18 == 1⟩ : Sapi_Instr) with Kind := 7 } : Sapi_Instr)).1 (one_ok ({ (⟨6, t24, 0, 0, t107, 0, t18 == 1⟩ : Sapi_Instr) with Kind := 7 } : Sapi_Instr)).2 (by kernel_rfl) (one_off _ _ _) (by kernel_rfl) rfl (by kernel_rfl) (Nat.le_of_ble_eq_true rfl) (by simp [Value.oneCell']) (by kernel_rfl)
     refine go_unit hs (by rfl) hx121 [34] ?_; clear hs; intro a hs
     replace hw : St [] w0 wd120 [own 45 eSapi_Instr (some ad38) 1 [({ ({ (⟨6, t24, 0, 0, t107, 0, t18 == 1⟩ : Sapi_Instr) with Kind := 7 } : Sapi_Instr) with C := 0 } : Sapi_Instr)], own 45 eSapi_Instr (some ad6) 1 [(⟨0, 0, 0, 0, 0, 0, false⟩ : Sapi_Instr)], own 23 (eI .u32) (some ad2) 1 [a0]] := hw
     refine go_pvs 7 [] [(35, .pointer (some ((ad38 : Addr).add 5)))] hs ?_; clear hs; intro a hs
     obtain ⟨wd122, hx123, hw⟩ := x_put (P := Try.prog) (ty := 0) (t := 3) (x := (Operand.tmp 35)) (y := (Operand.tmp 32)) (off := 5) (p := (ad38 : Addr).add 5) (v := .int .i64 t114) (vs := [.int .i64 t114]) (i := 0) (e' := (({ ({ ({ (⟨6, t24, 0, 0, t107, 0, t18 == 1⟩ : Sapi_Instr) with Kind := 7 } : Sapi_Instr) with C := 0 } : Sapi_Instr) with Imm := t114 } : Sapi_Instr) : Sapi_Instr)) hs hw rfl (one_ok ({ ({ (⟨6, t24, 0, 0, t107, 0, t18 == 1⟩ : Sapi_Instr) with Kind := 7 } : Sapi_Instr) with C := 0 } : Sapi_Instr)).1 (one_ok ({ ({ (⟨6, t24, 0, 0, t107, 0, t18 == 1⟩ : Sapi_Instr) with Kind := 7 } : Sapi_Instr) with C := 0 } : Sapi_Instr)).2 (by kernel_rfl) (one_off _ _ _) (by kernel_rfl) rfl (by kernel_rfl) (Nat.le_of_ble_eq_true rfl) (by simp [Value.oneCell']) (by kernel_rfl)
     refine go_unit hs (by rfl) hx123 [32, 35] ?_; clear hs; intro a hs
     replace hw : St [] w0 wd122 [own 45 eSapi_Instr (some ad38) 1 [({ ({ ({ (⟨6, t24, 0, 0, t107, 0, t18 == 1⟩ : Sapi_Instr) with Kind := 7 } : Sapi_Instr) with C := 0 } : Sapi_Instr) with Imm := t114 } : Sapi_Instr)], own 45 eSapi_Instr (some ad6) 1 [(⟨0, 0, 0, 0, 0, 0, false⟩ : Sapi_Instr)], own 23 (eI .u32) (some ad2) 1 [a0]] := hw
     refine go_end ?_
     refine ib_norm ?_
     replace hw := hw.up 2
     replace hw := hw.up 2
     replace hw := hw.up 2
     exact hJ2 ({ ({ ({ (⟨6, t24, 0, 0, t107, 0, t18 == 1⟩ : Sapi_Instr) with Kind := 7 } : Sapi_Instr) with C := 0 } : Sapi_Instr) with Imm := t114 } : Sapi_Instr) _ _ hs.kx hw H
    ·replace H := ite_f H (beq_eq_false_iff_ne.1 hc)
     have hb124 := hc
     rw [hb124] at hs
     refine wp_skip ?_
     refine ib_norm ?_
     replace hw := hw.up 2
     replace hw := hw.up 2
     replace hw := hw.up 2
     exact hJ2 (⟨6, t24, 0, 0, t107, 0, t18 == 1⟩ : Sapi_Instr) _ _ hs.kx hw H

/-! rivet/isa.word: function 37 -/
noncomputable def isa_word.j2 (a0 : Sapi_Instr) : Option Int := ((isa_head 3 true a0.U).bind fun t108 => (((isa_lay ([t108, (#v[24, 4, a0.Op] : Vector Int 3), (#v[0, 24, a0.Imm] : Vector Int 3)] : List (Vector Int 3))).bind fun t116 => (some t116))))
noncomputable def isa_word.j1 (a0 : Sapi_Instr) (v38 : Bool) : Option Int := (if v38 = true then ((isa_head 0 true (a0.Kind == 4)).bind fun t42 => (((isa_lay ([t42, (#v[24, 4, a0.A] : Vector Int 3)] : List (Vector Int 3))).bind fun t50 => (some t50)))) else (if a0.Kind = 2 then ((isa_head 1 a0.U (decide (a0.Imm < 0))).bind fun t59 => (((isa_lay ([t59, (#v[24, 4, a0.A] : Vector Int 3), (#v[20, 4, a0.B] : Vector Int 3), (#v[16, 4, a0.Op] : Vector Int 3), (#v[0, 16, a0.Imm] : Vector Int 3)] : List (Vector Int 3))).bind fun t67 => (some t67)))) else (if a0.Kind = 5 then ((isa_head 2 (decide (a0.Op ≥ 2)) ((a0.Op.tmod 2) == 1)).bind fun t76 => (((isa_lay ([t76, (#v[24, 4, a0.A] : Vector Int 3), (#v[20, 4, a0.B] : Vector Int 3), (#v[0, 20, a0.Imm] : Vector Int 3)] : List (Vector Int 3))).bind fun t84 => (some t84)))) else (if a0.Kind = 6 then ((isa_head 3 false a0.U).bind fun t93 => (((isa_lay ([t93, (#v[24, 4, a0.Op] : Vector Int 3), (#v[0, 4, a0.C] : Vector Int 3)] : List (Vector Int 3))).bind fun t101 => (some t101)))) else isa_word.j2 a0))))
noncomputable def isa_word (a0 : Sapi_Instr) : Option Int := (if a0.Kind = 1 then ((isa_head 0 a0.U false).bind fun t21 => (((isa_lay ([t21, (#v[24, 4, a0.A] : Vector Int 3), (#v[20, 4, a0.B] : Vector Int 3), (#v[16, 4, a0.Op] : Vector Int 3), (#v[0, 4, a0.C] : Vector Int 3)] : List (Vector Int 3))).bind fun t29 => (some t29)))) else (if a0.Kind = 3 then isa_word.j1 a0 true else isa_word.j1 a0 (a0.Kind == 4)))
set_option maxRecDepth 100000 in
set_option maxHeartbeats 4000000 in
theorem isa_word.calls (a0 : Sapi_Instr) (r : Int) (w0 : World) (H : isa_word a0 = some r) :
    Calls Try.prog 37 #[.agg (eSapi_Instr.enc a0).toArray] w0 fun e w' => e = .returned (.int .u32 r) ∧ St [] w0 w' [] := by
 have hw : St [] w0 w0 [] := St.nil w0
 unfold isa_word at H
 refine go_fn Try.func37 rfl Try.ntmps37 ?_; intro a hs
 refine go_sk fun K1 hK1 => ?_
 obtain ⟨ad2, wd3, hx4, hw⟩ := x_box1 (P := Try.prog) (elem := 45) (v := (Operand.tmp 0)) (ty := 0) hs hw eSapi_Instr a0 (by kernel_rfl)
 refine go_run hs (by rfl) hx4 [0] ?_; clear hs; intro a hs
 refine go_pvs 2 [] [] hs ?_; clear hs; intro a hs
 refine go_end (hK1 _ _ ?_)
 refine go_seq_k fun K6 hK6 => ?_
 refine u_region (n := 97) [0, 1, 2, 3, 4, 5, 6, 7, 8, 9, 10, 11] [(12, 16, 3, (Operand.tmp 9)), (13, 17, 4, (Operand.tmp 12)), (14, 18, 5, (Operand.tmp 15)), (15, 19, 6, (Operand.tmp 18))] (by kernel_rfl) (by kernel_rfl) hs hw ?_
 refine u_pvs [0] [1, 2, 3, 4, 5, 6, 7, 8, 9, 10, 11] [] [(7, .pointer (some ((ad2 : Addr).add 2)))] hs ?_; clear hs; intro a hs
 refine u_run hs (by rfl) (fun wx hbx => (x_ld (off := 2) (p := (ad2 : Addr).add 2) (v := .int .i64 a0.A) ((Rd.of_own (hw.up 0)).below hbx) (one_ok a0) (one_off _ _ _))) [7] ?_; clear hs; intro a hs
 refine u_pvs [2, 3] [4, 5, 6, 7, 8, 9, 10, 11] [8] [(9, .agg #[.int .i64 24, .int .i64 4, .int .i64 a0.A]), (10, .pointer (some ((ad2 : Addr).add 3)))] hs ?_; clear hs; intro a hs
 refine u_run hs (by rfl) (fun wx hbx => (x_ld (off := 3) (p := (ad2 : Addr).add 3) (v := .int .i64 a0.B) ((Rd.of_own (hw.up 0)).below hbx) (one_ok a0) (one_off _ _ _))) [10] ?_; clear hs; intro a hs
 refine u_pvs [5, 6] [7, 8, 9, 10, 11] [11] [(12, .agg #[.int .i64 20, .int .i64 4, .int .i64 a0.B]), (13, .pointer (some ((ad2 : Addr).add 1)))] hs ?_; clear hs; intro a hs
 refine u_run hs (by rfl) (fun wx hbx => (x_ld (off := 1) (p := (ad2 : Addr).add 1) (v := .int .i64 a0.Op) ((Rd.of_own (hw.up 0)).below hbx) (one_ok a0) (one_off _ _ _))) [13] ?_; clear hs; intro a hs
 refine u_pvs [8, 9] [10, 11] [14] [(15, .agg #[.int .i64 16, .int .i64 4, .int .i64 a0.Op]), (16, .pointer (some ((ad2 : Addr).add 1)))] hs ?_; clear hs; intro a hs
 refine u_run hs (by rfl) (fun wx hbx => (x_ld (off := 1) (p := (ad2 : Addr).add 1) (v := .int .i64 a0.Op) ((Rd.of_own (hw.up 0)).below hbx) (one_ok a0) (one_off _ _ _))) [16] ?_; clear hs; intro a hs
 refine u_pvs [11] [] [17] [(18, .agg #[.int .i64 24, .int .i64 4, .int .i64 a0.Op])] hs ?_; clear hs; intro a hs
 refine u_end ?_
 refine ⟨[(1, .pointer (some ad2)), (9, .agg #[.int .i64 24, .int .i64 4, .int .i64 a0.A]), (12, .agg #[.int .i64 20, .int .i64 4, .int .i64 a0.B]), (15, .agg #[.int .i64 16, .int .i64 4, .int .i64 a0.Op]), (18, .agg #[.int .i64 24, .int .i64 4, .int .i64 a0.Op])], [{ α := Vector Int 3, E := eA109, i := 12, s := 16, d := 3, T := 109, ty := 0, ty2 := 0, z := .agg #[.int .i64 0, .int .i64 0, .int .i64 0], x0 := (Vector.replicate 3 0), y := (Operand.tmp 9), x := (#v[24, 4, a0.A] : Vector Int 3) : AJ }, { α := Vector Int 3, E := eA109, i := 13, s := 17, d := 4, T := 109, ty := 0, ty2 := 0, z := .agg #[.int .i64 0, .int .i64 0, .int .i64 0], x0 := (Vector.replicate 3 0), y := (Operand.tmp 12), x := (#v[20, 4, a0.B] : Vector Int 3) : AJ }, { α := Vector Int 3, E := eA109, i := 14, s := 18, d := 5, T := 109, ty := 0, ty2 := 0, z := .agg #[.int .i64 0, .int .i64 0, .int .i64 0], x0 := (Vector.replicate 3 0), y := (Operand.tmp 15), x := (#v[16, 4, a0.Op] : Vector Int 3) : AJ }, { α := Vector Int 3, E := eA109, i := 15, s := 19, d := 6, T := 109, ty := 0, ty2 := 0, z := .agg #[.int .i64 0, .int .i64 0, .int .i64 0], x0 := (Vector.replicate 3 0), y := (Operand.tmp 18), x := (#v[24, 4, a0.Op] : Vector Int 3) : AJ }], rfl, hs.kx, by intro j hj; simp only [List.mem_cons, List.not_mem_nil, or_false] at hj; rcases hj with rfl | rfl | rfl | rfl <;> exact ⟨by kernel_rfl, by kernel_rfl, by kernel_rfl, by kernel_rfl, by kernel_rfl, by kernel_rfl, by kernel_rfl, by kernel_rfl, by kernel_rfl⟩, ?_⟩
 intro ad7 ad8 ad9 ad10 a wq hs hwq
 clear hw; have hw := hwq; clear hwq
 replace hw : St [] w0 wq [own 109 eA109 (some ad7) 1 [(#v[24, 4, a0.A] : Vector Int 3)], own 109 eA109 (some ad8) 1 [(#v[20, 4, a0.B] : Vector Int 3)], own 109 eA109 (some ad9) 1 [(#v[16, 4, a0.Op] : Vector Int 3)], own 109 eA109 (some ad10) 1 [(#v[24, 4, a0.Op] : Vector Int 3)], own 45 eSapi_Instr (some ad2) 1 [a0]] := hw
 replace hs : Slots a 97 [(1, .pointer (some ad2)), (3, .pointer (some ad7)), (4, .pointer (some ad8)), (5, .pointer (some ad9)), (6, .pointer (some ad10))] := hs.kx
 refine hK6 _ _ ?_
 refine go_seq_k fun K15 hK15 => ?_
 have hJ2 : ∀ (a : Act) (w : World), Slots a 97 [(1, .pointer (some ad2)), (6, .pointer (some ad10))] → St [] w0 w [own 109 eA109 (some ad7) 1 [(#v[24, 4, a0.A] : Vector Int 3)], own 109 eA109 (some ad8) 1 [(#v[20, 4, a0.B] : Vector Int 3)], own 109 eA109 (some ad9) 1 [(#v[16, 4, a0.Op] : Vector Int 3)], own 109 eA109 (some ad10) 1 [(#v[24, 4, a0.Op] : Vector Int 3)], own 45 eSapi_Instr (some ad2) 1 [a0]] → isa_word.j2 a0 = some r → K15 a w := by
  intro a w hs hw H
  unfold isa_word.j2 at H
  refine hK15 _ _ ?_
  refine go_seq_k fun K106 hK106 => ?_
  refine z_region [0, 1, 2, 3, 4, 5, 6] [7, 8, 9] [] (by kernel_rfl) (by kernel_rfl) (fun c a d v w h => by cases d <;> exact h) ?_
  refine z_pvs [0] [1, 2, 3, 4, 5, 6] [] [(88, .pointer (some ((ad2 : Addr).add 6)))] hs ?_; clear hs; intro a hs
  refine z_run hs (by rfl) (fun wx hbx => (x_ld (off := 6) (p := (ad2 : Addr).add 6) (v := .bool a0.U) ((Rd.of_own (hw.up 4)).below hbx) (one_ok a0) (one_off _ _ _))) [88] ?_; clear hs; intro a hs
  obtain ⟨t108, hx109, H⟩ := bind_some H
  refine z_call hs (by rfl) (fun wx hbx => (isa_head.calls 3 true a0.U t108 _ hx109).mono fun e wy h => ⟨h.1, below_st hbx h.2⟩) [89] ?_; clear hs; intro a hs
  refine z_run hs (by rfl) (fun wx hbx => (x_lds (off := 0) (p := ad10) (cs := [.int .i64 (vx 0 (#v[24, 4, a0.Op] : Vector Int 3) 0), .int .i64 (vx 0 (#v[24, 4, a0.Op] : Vector Int 3) 1), .int .i64 (vx 0 (#v[24, 4, a0.Op] : Vector Int 3) 2)]) ((Rd.of_own (hw.up 3)).below hbx) (one_ok (#v[24, 4, a0.Op] : Vector Int 3)) (one_at _ _))) [6] ?_; clear hs; intro a hs
  refine z_pvs [4] [5, 6] [1] [(92, .pointer (some ((ad2 : Addr).add 5)))] hs ?_; clear hs; intro a hs
  refine z_run hs (by rfl) (fun wx hbx => (x_ld (off := 5) (p := (ad2 : Addr).add 5) (v := .int .i64 a0.Imm) ((Rd.of_own (hw.up 4)).below hbx) (one_ok a0) (one_off _ _ _))) [92] ?_; clear hs; intro a hs
  refine z_pvs [6] [] [93] [(94, .agg #[.int .i64 0, .int .i64 24, .int .i64 a0.Imm])] hs ?_; clear hs; intro a hs
  refine z_end ?_
  intro wq hbq
  replace hw := hw.behind hbq
  obtain ⟨Aa110, cc111, wd112, hx113, hw⟩ := n_lit (P := Try.prog) (t := 132) (ty := 132) (T := 109) (len := 3) (parts := #[(0, (Operand.tmp 90)), (1, (Operand.tmp 91)), (2, (Operand.tmp 94))]) (z := .agg #[.int .i64 0, .int .i64 0, .int .i64 0]) (bytes := 24) (cells := #[.int .i64 (vx 0 t108 0), .int .i64 (vx 0 t108 1), .int .i64 (vx 0 t108 2), .int .i64 (vx 0 (#v[24, 4, a0.Op] : Vector Int 3) 0), .int .i64 (vx 0 (#v[24, 4, a0.Op] : Vector Int 3) 1), .int .i64 (vx 0 (#v[24, 4, a0.Op] : Vector Int 3) 2), .int .i64 0, .int .i64 24, .int .i64 a0.Imm]) hs hw eA109 ([t108, (#v[24, 4, a0.Op] : Vector Int 3), (#v[0, 24, a0.Imm] : Vector Int 3)] : List (Vector Int 3)) (by kernel_rfl) (by kernel_rfl) (by kernel_rfl) (by kernel_rfl) (by kernel_rfl) (by kernel_rfl) (by kernel_rfl)
  refine p_run hs (by rfl) hx113 [90, 91, 94] ?_; clear hs; intro a hs
  obtain ⟨t116, hx117, H⟩ := bind_some H
  refine p_call hs (by rfl) (isa_lay.calls Aa110 cc111 ([t108, (#v[24, 4, a0.Op] : Vector Int 3), (#v[0, 24, a0.Imm] : Vector Int 3)] : List (Vector Int 3)) t116 _ (Rd.of_own (hw.up 0)) hx117) ?_
  rintro e wd118 ⟨rfl, hw119⟩
  refine ⟨_, rfl, ?_⟩
  replace hw := hw.call hw119
  clear hs; intro a hs; replace hs := hs.rms [95]
  refine p_pvs [9] [] [96] [(2, .int .u32 t116)] hs ?_; clear hs; intro a hs
  refine p_last ?_
  refine e_end ?_
  refine hK106 _ _ ?_
  refine wp_ret ?_
  obtain rfl := Option.some.inj H
  refine ret1 (t := 2) (v := .int .u32 t116) hs (by kernel_rfl) (by kernel_rfl) ?_
  exact ⟨rfl, hw.only 0⟩
 refine go_sk fun K16 hK16 => ?_
 refine go_pvs 1 [] [(19, .pointer (some ((ad2 : Addr).add 0)))] hs ?_; clear hs; intro a hs
 refine go_run hs (by rfl) (x_ld (off := 0) (p := (ad2 : Addr).add 0) (v := .int .i64 a0.Kind) (Rd.of_own (hw.up 4)) (one_ok a0) (one_off _ _ _)) [19] ?_; clear hs; intro a hs
 refine go_end (hK16 _ _ ?_)
 refine wp_block ?_
 refine go_sp [] [(21, .bool (a0.Kind == 1))] hs ?_; clear hs; intro a hs
 refine go_cond hs (a0.Kind == 1) (fun hc => ?_) fun hc => ?_
 ·replace H := ite_t H (beq_iff_eq.1 hc)
  have hb18 := hc
  rw [hb18] at hs
  refine go_seq_k fun K19 hK19 => ?_
  refine z_region [0, 1, 2, 3, 4, 5, 6, 7, 8] [9, 10, 11] [] (by kernel_rfl) (by kernel_rfl) (fun c a d v w h => by cases d <;> exact h) ?_
  refine z_pvs [0] [1, 2, 3, 4, 5, 6, 7, 8] [6, 20, 21] [(23, .pointer (some ((ad2 : Addr).add 6)))] hs ?_; clear hs; intro a hs
  refine z_run hs (by rfl) (fun wx hbx => (x_ld (off := 6) (p := (ad2 : Addr).add 6) (v := .bool a0.U) ((Rd.of_own (hw.up 4)).below hbx) (one_ok a0) (one_off _ _ _))) [23] ?_; clear hs; intro a hs
  obtain ⟨t21, hx22, H⟩ := bind_some H
  refine z_call hs (by rfl) (fun wx hbx => (isa_head.calls 0 a0.U false t21 _ hx22).mono fun e wy h => ⟨h.1, below_st hbx h.2⟩) [24] ?_; clear hs; intro a hs
  refine z_run hs (by rfl) (fun wx hbx => (x_lds (off := 0) (p := ad7) (cs := [.int .i64 (vx 0 (#v[24, 4, a0.A] : Vector Int 3) 0), .int .i64 (vx 0 (#v[24, 4, a0.A] : Vector Int 3) 1), .int .i64 (vx 0 (#v[24, 4, a0.A] : Vector Int 3) 2)]) ((Rd.of_own (hw.up 0)).below hbx) (one_ok (#v[24, 4, a0.A] : Vector Int 3)) (one_at _ _))) [3] ?_; clear hs; intro a hs
  refine z_run hs (by rfl) (fun wx hbx => (x_lds (off := 0) (p := ad8) (cs := [.int .i64 (vx 0 (#v[20, 4, a0.B] : Vector Int 3) 0), .int .i64 (vx 0 (#v[20, 4, a0.B] : Vector Int 3) 1), .int .i64 (vx 0 (#v[20, 4, a0.B] : Vector Int 3) 2)]) ((Rd.of_own (hw.up 1)).below hbx) (one_ok (#v[20, 4, a0.B] : Vector Int 3)) (one_at _ _))) [4] ?_; clear hs; intro a hs
  refine z_run hs (by rfl) (fun wx hbx => (x_lds (off := 0) (p := ad9) (cs := [.int .i64 (vx 0 (#v[16, 4, a0.Op] : Vector Int 3) 0), .int .i64 (vx 0 (#v[16, 4, a0.Op] : Vector Int 3) 1), .int .i64 (vx 0 (#v[16, 4, a0.Op] : Vector Int 3) 2)]) ((Rd.of_own (hw.up 2)).below hbx) (one_ok (#v[16, 4, a0.Op] : Vector Int 3)) (one_at _ _))) [5] ?_; clear hs; intro a hs
  refine z_pvs [6] [7, 8] [1] [(29, .pointer (some ((ad2 : Addr).add 4)))] hs ?_; clear hs; intro a hs
  refine z_run hs (by rfl) (fun wx hbx => (x_ld (off := 4) (p := (ad2 : Addr).add 4) (v := .int .i64 a0.C) ((Rd.of_own (hw.up 4)).below hbx) (one_ok a0) (one_off _ _ _))) [29] ?_; clear hs; intro a hs
  refine z_pvs [8] [] [30] [(31, .agg #[.int .i64 0, .int .i64 4, .int .i64 a0.C])] hs ?_; clear hs; intro a hs
  refine z_end ?_
  intro wq hbq
  replace hw := hw.behind hbq
  obtain ⟨Aa23, cc24, wd25, hx26, hw⟩ := n_lit (P := Try.prog) (t := 132) (ty := 132) (T := 109) (len := 5) (parts := #[(0, (Operand.tmp 25)), (1, (Operand.tmp 26)), (2, (Operand.tmp 27)), (3, (Operand.tmp 28)), (4, (Operand.tmp 31))]) (z := .agg #[.int .i64 0, .int .i64 0, .int .i64 0]) (bytes := 24) (cells := #[.int .i64 (vx 0 t21 0), .int .i64 (vx 0 t21 1), .int .i64 (vx 0 t21 2), .int .i64 (vx 0 (#v[24, 4, a0.A] : Vector Int 3) 0), .int .i64 (vx 0 (#v[24, 4, a0.A] : Vector Int 3) 1), .int .i64 (vx 0 (#v[24, 4, a0.A] : Vector Int 3) 2), .int .i64 (vx 0 (#v[20, 4, a0.B] : Vector Int 3) 0), .int .i64 (vx 0 (#v[20, 4, a0.B] : Vector Int 3) 1), .int .i64 (vx 0 (#v[20, 4, a0.B] : Vector Int 3) 2), .int .i64 (vx 0 (#v[16, 4, a0.Op] : Vector Int 3) 0), .int .i64 (vx 0 (#v[16, 4, a0.Op] : Vector Int 3) 1), .int .i64 (vx 0 (#v[16, 4, a0.Op] : Vector Int 3) 2), .int .i64 0, .int .i64 4, .int .i64 a0.C]) hs hw eA109 ([t21, (#v[24, 4, a0.A] : Vector Int 3), (#v[20, 4, a0.B] : Vector Int 3), (#v[16, 4, a0.Op] : Vector Int 3), (#v[0, 4, a0.C] : Vector Int 3)] : List (Vector Int 3)) (by kernel_rfl) (by kernel_rfl) (by kernel_rfl) (by kernel_rfl) (by kernel_rfl) (by kernel_rfl) (by kernel_rfl)
  refine p_run hs (by rfl) hx26 [25, 26, 27, 28, 31] ?_; clear hs; intro a hs
  obtain ⟨t29, hx30, H⟩ := bind_some H
  refine p_call hs (by rfl) (isa_lay.calls Aa23 cc24 ([t21, (#v[24, 4, a0.A] : Vector Int 3), (#v[20, 4, a0.B] : Vector Int 3), (#v[16, 4, a0.Op] : Vector Int 3), (#v[0, 4, a0.C] : Vector Int 3)] : List (Vector Int 3)) t29 _ (Rd.of_own (hw.up 0)) hx30) ?_
  rintro e wd31 ⟨rfl, hw32⟩
  refine ⟨_, rfl, ?_⟩
  replace hw := hw.call hw32
  clear hs; intro a hs; replace hs := hs.rms [32]
  refine p_pvs [11] [] [33] [(2, .int .u32 t29)] hs ?_; clear hs; intro a hs
  refine p_last ?_
  refine e_end ?_
  refine hK19 _ _ ?_
  refine wp_ret ?_
  refine ib_ret ?_
  refine th_ret ?_
  obtain rfl := Option.some.inj H
  refine ret1 (t := 2) (v := .int .u32 t29) hs (by kernel_rfl) (by kernel_rfl) ?_
  exact ⟨rfl, hw.only 0⟩
 ·replace H := ite_f H (beq_eq_false_iff_ne.1 hc)
  have hb33 := hc
  rw [hb33] at hs
  refine go_seq_k fun K34 hK34 => ?_
  have hJ1 : ∀ (v38 : Bool) (a : Act) (w : World), Slots a 97 [(1, .pointer (some ad2)), (3, .pointer (some ad7)), (4, .pointer (some ad8)), (5, .pointer (some ad9)), (6, .pointer (some ad10)), (20, .int .i64 a0.Kind), (34, .bool v38)] → St [] w0 w [own 109 eA109 (some ad7) 1 [(#v[24, 4, a0.A] : Vector Int 3)], own 109 eA109 (some ad8) 1 [(#v[20, 4, a0.B] : Vector Int 3)], own 109 eA109 (some ad9) 1 [(#v[16, 4, a0.Op] : Vector Int 3)], own 109 eA109 (some ad10) 1 [(#v[24, 4, a0.Op] : Vector Int 3)], own 45 eSapi_Instr (some ad2) 1 [a0]] → isa_word.j1 a0 v38 = some r → K34 a w := by
   intro v38 a w hs hw H
   unfold isa_word.j1 at H
   refine hK34 _ _ ?_
   refine go_cond hs v38 (fun hc => ?_) fun hc => ?_
   ·replace H := ite_t H hc
    have hb39 := hc
    rw [hb39] at hs
    refine go_seq_k fun K40 hK40 => ?_
    refine z_region [0, 1, 2, 3, 4] [5, 6, 7] [] (by kernel_rfl) (by kernel_rfl) (fun c a d v w h => by cases d <;> exact h) ?_
    refine z_pvs [0] [1, 2, 3, 4] [1, 4, 5, 6, 20, 34] [(37, .pointer (some ((ad2 : Addr).add 0)))] hs ?_; clear hs; intro a hs
    refine z_run hs (by rfl) (fun wx hbx => (x_ld (off := 0) (p := (ad2 : Addr).add 0) (v := .int .i64 a0.Kind) ((Rd.of_own (hw.up 4)).below hbx) (one_ok a0) (one_off _ _ _))) [37] ?_; clear hs; intro a hs
    refine z_pvs [2] [3, 4] [38] [(39, .bool (a0.Kind == 4))] hs ?_; clear hs; intro a hs
    obtain ⟨t42, hx43, H⟩ := bind_some H
    refine z_call hs (by rfl) (fun wx hbx => (isa_head.calls 0 true (a0.Kind == 4) t42 _ hx43).mono fun e wy h => ⟨h.1, below_st hbx h.2⟩) [39] ?_; clear hs; intro a hs
    refine z_run hs (by rfl) (fun wx hbx => (x_lds (off := 0) (p := ad7) (cs := [.int .i64 (vx 0 (#v[24, 4, a0.A] : Vector Int 3) 0), .int .i64 (vx 0 (#v[24, 4, a0.A] : Vector Int 3) 1), .int .i64 (vx 0 (#v[24, 4, a0.A] : Vector Int 3) 2)]) ((Rd.of_own (hw.up 0)).below hbx) (one_ok (#v[24, 4, a0.A] : Vector Int 3)) (one_at _ _))) [3] ?_; clear hs; intro a hs
    refine z_end ?_
    intro wq hbq
    replace hw := hw.behind hbq
    obtain ⟨Aa44, cc45, wd46, hx47, hw⟩ := n_lit (P := Try.prog) (t := 132) (ty := 132) (T := 109) (len := 2) (parts := #[(0, (Operand.tmp 40)), (1, (Operand.tmp 41))]) (z := .agg #[.int .i64 0, .int .i64 0, .int .i64 0]) (bytes := 24) (cells := #[.int .i64 (vx 0 t42 0), .int .i64 (vx 0 t42 1), .int .i64 (vx 0 t42 2), .int .i64 (vx 0 (#v[24, 4, a0.A] : Vector Int 3) 0), .int .i64 (vx 0 (#v[24, 4, a0.A] : Vector Int 3) 1), .int .i64 (vx 0 (#v[24, 4, a0.A] : Vector Int 3) 2)]) hs hw eA109 ([t42, (#v[24, 4, a0.A] : Vector Int 3)] : List (Vector Int 3)) (by kernel_rfl) (by kernel_rfl) (by kernel_rfl) (by kernel_rfl) (by kernel_rfl) (by kernel_rfl) (by kernel_rfl)
    refine p_run hs (by rfl) hx47 [40, 41] ?_; clear hs; intro a hs
    obtain ⟨t50, hx51, H⟩ := bind_some H
    refine p_call hs (by rfl) (isa_lay.calls Aa44 cc45 ([t42, (#v[24, 4, a0.A] : Vector Int 3)] : List (Vector Int 3)) t50 _ (Rd.of_own (hw.up 0)) hx51) ?_
    rintro e wd52 ⟨rfl, hw53⟩
    refine ⟨_, rfl, ?_⟩
    replace hw := hw.call hw53
    clear hs; intro a hs; replace hs := hs.rms [42]
    refine p_pvs [7] [] [43] [(2, .int .u32 t50)] hs ?_; clear hs; intro a hs
    refine p_last ?_
    refine e_end ?_
    refine hK40 _ _ ?_
    refine wp_ret ?_
    refine ib_ret ?_
    refine th_ret ?_
    obtain rfl := Option.some.inj H
    refine ret1 (t := 2) (v := .int .u32 t50) hs (by kernel_rfl) (by kernel_rfl) ?_
    exact ⟨rfl, hw.only 0⟩
   ·replace H := ite_f H (ff hc)
    have hb54 := hc
    rw [hb54] at hs
    refine go_sp [34] [(44, .bool (a0.Kind == 2))] hs ?_; clear hs; intro a hs
    refine go_cond hs (a0.Kind == 2) (fun hc => ?_) fun hc => ?_
    ·replace H := ite_t H (beq_iff_eq.1 hc)
     have hb56 := hc
     rw [hb56] at hs
     refine go_seq_k fun K57 hK57 => ?_
     refine z_region [0, 1, 2, 3, 4, 5, 6, 7, 8, 9, 10, 11] [12, 13, 14] [] (by kernel_rfl) (by kernel_rfl) (fun c a d v w h => by cases d <;> exact h) ?_
     refine z_pvs [0] [1, 2, 3, 4, 5, 6, 7, 8, 9, 10, 11] [6, 20, 44] [(46, .pointer (some ((ad2 : Addr).add 6)))] hs ?_; clear hs; intro a hs
     refine z_run hs (by rfl) (fun wx hbx => (x_ld (off := 6) (p := (ad2 : Addr).add 6) (v := .bool a0.U) ((Rd.of_own (hw.up 4)).below hbx) (one_ok a0) (one_off _ _ _))) [46] ?_; clear hs; intro a hs
     refine z_pvs [2] [3, 4, 5, 6, 7, 8, 9, 10, 11] [] [(48, .pointer (some ((ad2 : Addr).add 5)))] hs ?_; clear hs; intro a hs
     refine z_run hs (by rfl) (fun wx hbx => (x_ld (off := 5) (p := (ad2 : Addr).add 5) (v := .int .i64 a0.Imm) ((Rd.of_own (hw.up 4)).below hbx) (one_ok a0) (one_off _ _ _))) [48] ?_; clear hs; intro a hs
     refine z_pvs [4] [5, 6, 7, 8, 9, 10, 11] [49] [(50, .bool (decide (a0.Imm < 0)))] hs ?_; clear hs; intro a hs
     obtain ⟨t59, hx60, H⟩ := bind_some H
     refine z_call hs (by rfl) (fun wx hbx => (isa_head.calls 1 a0.U (decide (a0.Imm < 0)) t59 _ hx60).mono fun e wy h => ⟨h.1, below_st hbx h.2⟩) [47, 50] ?_; clear hs; intro a hs
     refine z_run hs (by rfl) (fun wx hbx => (x_lds (off := 0) (p := ad7) (cs := [.int .i64 (vx 0 (#v[24, 4, a0.A] : Vector Int 3) 0), .int .i64 (vx 0 (#v[24, 4, a0.A] : Vector Int 3) 1), .int .i64 (vx 0 (#v[24, 4, a0.A] : Vector Int 3) 2)]) ((Rd.of_own (hw.up 0)).below hbx) (one_ok (#v[24, 4, a0.A] : Vector Int 3)) (one_at _ _))) [3] ?_; clear hs; intro a hs
     refine z_run hs (by rfl) (fun wx hbx => (x_lds (off := 0) (p := ad8) (cs := [.int .i64 (vx 0 (#v[20, 4, a0.B] : Vector Int 3) 0), .int .i64 (vx 0 (#v[20, 4, a0.B] : Vector Int 3) 1), .int .i64 (vx 0 (#v[20, 4, a0.B] : Vector Int 3) 2)]) ((Rd.of_own (hw.up 1)).below hbx) (one_ok (#v[20, 4, a0.B] : Vector Int 3)) (one_at _ _))) [4] ?_; clear hs; intro a hs
     refine z_run hs (by rfl) (fun wx hbx => (x_lds (off := 0) (p := ad9) (cs := [.int .i64 (vx 0 (#v[16, 4, a0.Op] : Vector Int 3) 0), .int .i64 (vx 0 (#v[16, 4, a0.Op] : Vector Int 3) 1), .int .i64 (vx 0 (#v[16, 4, a0.Op] : Vector Int 3) 2)]) ((Rd.of_own (hw.up 2)).below hbx) (one_ok (#v[16, 4, a0.Op] : Vector Int 3)) (one_at _ _))) [5] ?_; clear hs; intro a hs
     refine z_pvs [9] [10, 11] [1] [(55, .pointer (some ((ad2 : Addr).add 5)))] hs ?_; clear hs; intro a hs
     refine z_run hs (by rfl) (fun wx hbx => (x_ld (off := 5) (p := (ad2 : Addr).add 5) (v := .int .i64 a0.Imm) ((Rd.of_own (hw.up 4)).below hbx) (one_ok a0) (one_off _ _ _))) [55] ?_; clear hs; intro a hs
     refine z_pvs [11] [] [56] [(57, .agg #[.int .i64 0, .int .i64 16, .int .i64 a0.Imm])] hs ?_; clear hs; intro a hs
     refine z_end ?_
     intro wq hbq
     replace hw := hw.behind hbq
     obtain ⟨Aa61, cc62, wd63, hx64, hw⟩ := n_lit (P := Try.prog) (t := 132) (ty := 132) (T := 109) (len := 5) (parts := #[(0, (Operand.tmp 51)), (1, (Operand.tmp 52)), (2, (Operand.tmp 53)), (3, (Operand.tmp 54)), (4, (Operand.tmp 57))]) (z := .agg #[.int .i64 0, .int .i64 0, .int .i64 0]) (bytes := 24) (cells := #[.int .i64 (vx 0 t59 0), .int .i64 (vx 0 t59 1), .int .i64 (vx 0 t59 2), .int .i64 (vx 0 (#v[24, 4, a0.A] : Vector Int 3) 0), .int .i64 (vx 0 (#v[24, 4, a0.A] : Vector Int 3) 1), .int .i64 (vx 0 (#v[24, 4, a0.A] : Vector Int 3) 2), .int .i64 (vx 0 (#v[20, 4, a0.B] : Vector Int 3) 0), .int .i64 (vx 0 (#v[20, 4, a0.B] : Vector Int 3) 1), .int .i64 (vx 0 (#v[20, 4, a0.B] : Vector Int 3) 2), .int .i64 (vx 0 (#v[16, 4, a0.Op] : Vector Int 3) 0), .int .i64 (vx 0 (#v[16, 4, a0.Op] : Vector Int 3) 1), .int .i64 (vx 0 (#v[16, 4, a0.Op] : Vector Int 3) 2), .int .i64 0, .int .i64 16, .int .i64 a0.Imm]) hs hw eA109 ([t59, (#v[24, 4, a0.A] : Vector Int 3), (#v[20, 4, a0.B] : Vector Int 3), (#v[16, 4, a0.Op] : Vector Int 3), (#v[0, 16, a0.Imm] : Vector Int 3)] : List (Vector Int 3)) (by kernel_rfl) (by kernel_rfl) (by kernel_rfl) (by kernel_rfl) (by kernel_rfl) (by kernel_rfl) (by kernel_rfl)
     refine p_run hs (by rfl) hx64 [51, 52, 53, 54, 57] ?_; clear hs; intro a hs
     obtain ⟨t67, hx68, H⟩ := bind_some H
     refine p_call hs (by rfl) (isa_lay.calls Aa61 cc62 ([t59, (#v[24, 4, a0.A] : Vector Int 3), (#v[20, 4, a0.B] : Vector Int 3), (#v[16, 4, a0.Op] : Vector Int 3), (#v[0, 16, a0.Imm] : Vector Int 3)] : List (Vector Int 3)) t67 _ (Rd.of_own (hw.up 0)) hx68) ?_
     rintro e wd69 ⟨rfl, hw70⟩
     refine ⟨_, rfl, ?_⟩
     replace hw := hw.call hw70
     clear hs; intro a hs; replace hs := hs.rms [58]
     refine p_pvs [14] [] [59] [(2, .int .u32 t67)] hs ?_; clear hs; intro a hs
     refine p_last ?_
     refine e_end ?_
     refine hK57 _ _ ?_
     refine wp_ret ?_
     refine ib_ret ?_
     refine th_ret ?_
     obtain rfl := Option.some.inj H
     refine ret1 (t := 2) (v := .int .u32 t67) hs (by kernel_rfl) (by kernel_rfl) ?_
     exact ⟨rfl, hw.only 0⟩
    ·replace H := ite_f H (beq_eq_false_iff_ne.1 hc)
     have hb71 := hc
     rw [hb71] at hs
     refine go_sp [5, 44] [(60, .bool (a0.Kind == 5))] hs ?_; clear hs; intro a hs
     refine go_cond hs (a0.Kind == 5) (fun hc => ?_) fun hc => ?_
     ·replace H := ite_t H (beq_iff_eq.1 hc)
      have hb73 := hc
      rw [hb73] at hs
      refine go_seq_k fun K74 hK74 => ?_
      refine z_region [0, 1, 2, 3, 4, 5, 6, 7, 8, 9, 10, 11, 12] [13, 14, 15] [] (by kernel_rfl) (by kernel_rfl) (fun c a d v w h => by cases d <;> exact h) ?_
      refine z_pvs [0] [1, 2, 3, 4, 5, 6, 7, 8, 9, 10, 11, 12] [6, 20, 60] [(62, .pointer (some ((ad2 : Addr).add 1)))] hs ?_; clear hs; intro a hs
      refine z_run hs (by rfl) (fun wx hbx => (x_ld (off := 1) (p := (ad2 : Addr).add 1) (v := .int .i64 a0.Op) ((Rd.of_own (hw.up 4)).below hbx) (one_ok a0) (one_off _ _ _))) [62] ?_; clear hs; intro a hs
      refine z_pvs [2, 3] [4, 5, 6, 7, 8, 9, 10, 11, 12] [63] [(64, .bool (decide (a0.Op ≥ 2))), (65, .pointer (some ((ad2 : Addr).add 1)))] hs ?_; clear hs; intro a hs
      refine z_run hs (by rfl) (fun wx hbx => (x_ld (off := 1) (p := (ad2 : Addr).add 1) (v := .int .i64 a0.Op) ((Rd.of_own (hw.up 4)).below hbx) (one_ok a0) (one_off _ _ _))) [65] ?_; clear hs; intro a hs
      refine z_pvs [5, 6] [7, 8, 9, 10, 11, 12] [66] [(68, .bool ((a0.Op.tmod 2) == 1))] hs ?_; clear hs; intro a hs
      obtain ⟨t76, hx77, H⟩ := bind_some H
      refine z_call hs (by rfl) (fun wx hbx => (isa_head.calls 2 (decide (a0.Op ≥ 2)) ((a0.Op.tmod 2) == 1) t76 _ hx77).mono fun e wy h => ⟨h.1, below_st hbx h.2⟩) [64, 68] ?_; clear hs; intro a hs
      refine z_run hs (by rfl) (fun wx hbx => (x_lds (off := 0) (p := ad7) (cs := [.int .i64 (vx 0 (#v[24, 4, a0.A] : Vector Int 3) 0), .int .i64 (vx 0 (#v[24, 4, a0.A] : Vector Int 3) 1), .int .i64 (vx 0 (#v[24, 4, a0.A] : Vector Int 3) 2)]) ((Rd.of_own (hw.up 0)).below hbx) (one_ok (#v[24, 4, a0.A] : Vector Int 3)) (one_at _ _))) [3] ?_; clear hs; intro a hs
      refine z_run hs (by rfl) (fun wx hbx => (x_lds (off := 0) (p := ad8) (cs := [.int .i64 (vx 0 (#v[20, 4, a0.B] : Vector Int 3) 0), .int .i64 (vx 0 (#v[20, 4, a0.B] : Vector Int 3) 1), .int .i64 (vx 0 (#v[20, 4, a0.B] : Vector Int 3) 2)]) ((Rd.of_own (hw.up 1)).below hbx) (one_ok (#v[20, 4, a0.B] : Vector Int 3)) (one_at _ _))) [4] ?_; clear hs; intro a hs
      refine z_pvs [10] [11, 12] [1] [(72, .pointer (some ((ad2 : Addr).add 5)))] hs ?_; clear hs; intro a hs
      refine z_run hs (by rfl) (fun wx hbx => (x_ld (off := 5) (p := (ad2 : Addr).add 5) (v := .int .i64 a0.Imm) ((Rd.of_own (hw.up 4)).below hbx) (one_ok a0) (one_off _ _ _))) [72] ?_; clear hs; intro a hs
      refine z_pvs [12] [] [73] [(74, .agg #[.int .i64 0, .int .i64 20, .int .i64 a0.Imm])] hs ?_; clear hs; intro a hs
      refine z_end ?_
      intro wq hbq
      replace hw := hw.behind hbq
      obtain ⟨Aa78, cc79, wd80, hx81, hw⟩ := n_lit (P := Try.prog) (t := 132) (ty := 132) (T := 109) (len := 4) (parts := #[(0, (Operand.tmp 69)), (1, (Operand.tmp 70)), (2, (Operand.tmp 71)), (3, (Operand.tmp 74))]) (z := .agg #[.int .i64 0, .int .i64 0, .int .i64 0]) (bytes := 24) (cells := #[.int .i64 (vx 0 t76 0), .int .i64 (vx 0 t76 1), .int .i64 (vx 0 t76 2), .int .i64 (vx 0 (#v[24, 4, a0.A] : Vector Int 3) 0), .int .i64 (vx 0 (#v[24, 4, a0.A] : Vector Int 3) 1), .int .i64 (vx 0 (#v[24, 4, a0.A] : Vector Int 3) 2), .int .i64 (vx 0 (#v[20, 4, a0.B] : Vector Int 3) 0), .int .i64 (vx 0 (#v[20, 4, a0.B] : Vector Int 3) 1), .int .i64 (vx 0 (#v[20, 4, a0.B] : Vector Int 3) 2), .int .i64 0, .int .i64 20, .int .i64 a0.Imm]) hs hw eA109 ([t76, (#v[24, 4, a0.A] : Vector Int 3), (#v[20, 4, a0.B] : Vector Int 3), (#v[0, 20, a0.Imm] : Vector Int 3)] : List (Vector Int 3)) (by kernel_rfl) (by kernel_rfl) (by kernel_rfl) (by kernel_rfl) (by kernel_rfl) (by kernel_rfl) (by kernel_rfl)
      refine p_run hs (by rfl) hx81 [69, 70, 71, 74] ?_; clear hs; intro a hs
      obtain ⟨t84, hx85, H⟩ := bind_some H
      refine p_call hs (by rfl) (isa_lay.calls Aa78 cc79 ([t76, (#v[24, 4, a0.A] : Vector Int 3), (#v[20, 4, a0.B] : Vector Int 3), (#v[0, 20, a0.Imm] : Vector Int 3)] : List (Vector Int 3)) t84 _ (Rd.of_own (hw.up 0)) hx85) ?_
      rintro e wd86 ⟨rfl, hw87⟩
      refine ⟨_, rfl, ?_⟩
      replace hw := hw.call hw87
      clear hs; intro a hs; replace hs := hs.rms [75]
      refine p_pvs [15] [] [76] [(2, .int .u32 t84)] hs ?_; clear hs; intro a hs
      refine p_last ?_
      refine e_end ?_
      refine hK74 _ _ ?_
      refine wp_ret ?_
      refine ib_ret ?_
      refine th_ret ?_
      obtain rfl := Option.some.inj H
      refine ret1 (t := 2) (v := .int .u32 t84) hs (by kernel_rfl) (by kernel_rfl) ?_
      exact ⟨rfl, hw.only 0⟩
     ·replace H := ite_f H (beq_eq_false_iff_ne.1 hc)
      have hb88 := hc
      rw [hb88] at hs
      refine go_sp [3, 4, 20, 60] [(77, .bool (a0.Kind == 6))] hs ?_; clear hs; intro a hs
      refine go_cond hs (a0.Kind == 6) (fun hc => ?_) fun hc => ?_
      ·replace H := ite_t H (beq_iff_eq.1 hc)
       have hb90 := hc
       rw [hb90] at hs
       refine go_seq_k fun K91 hK91 => ?_
       refine z_region [0, 1, 2, 3, 4, 5, 6] [7, 8, 9] [] (by kernel_rfl) (by kernel_rfl) (fun c a d v w h => by cases d <;> exact h) ?_
       refine z_pvs [0] [1, 2, 3, 4, 5, 6] [77] [(79, .pointer (some ((ad2 : Addr).add 6)))] hs ?_; clear hs; intro a hs
       refine z_run hs (by rfl) (fun wx hbx => (x_ld (off := 6) (p := (ad2 : Addr).add 6) (v := .bool a0.U) ((Rd.of_own (hw.up 4)).below hbx) (one_ok a0) (one_off _ _ _))) [79] ?_; clear hs; intro a hs
       obtain ⟨t93, hx94, H⟩ := bind_some H
       refine z_call hs (by rfl) (fun wx hbx => (isa_head.calls 3 false a0.U t93 _ hx94).mono fun e wy h => ⟨h.1, below_st hbx h.2⟩) [80] ?_; clear hs; intro a hs
       refine z_run hs (by rfl) (fun wx hbx => (x_lds (off := 0) (p := ad10) (cs := [.int .i64 (vx 0 (#v[24, 4, a0.Op] : Vector Int 3) 0), .int .i64 (vx 0 (#v[24, 4, a0.Op] : Vector Int 3) 1), .int .i64 (vx 0 (#v[24, 4, a0.Op] : Vector Int 3) 2)]) ((Rd.of_own (hw.up 3)).below hbx) (one_ok (#v[24, 4, a0.Op] : Vector Int 3)) (one_at _ _))) [6] ?_; clear hs; intro a hs
       refine z_pvs [4] [5, 6] [1] [(83, .pointer (some ((ad2 : Addr).add 4)))] hs ?_; clear hs; intro a hs
       refine z_run hs (by rfl) (fun wx hbx => (x_ld (off := 4) (p := (ad2 : Addr).add 4) (v := .int .i64 a0.C) ((Rd.of_own (hw.up 4)).below hbx) (one_ok a0) (one_off _ _ _))) [83] ?_; clear hs; intro a hs
       refine z_pvs [6] [] [84] [(85, .agg #[.int .i64 0, .int .i64 4, .int .i64 a0.C])] hs ?_; clear hs; intro a hs
       refine z_end ?_
       intro wq hbq
       replace hw := hw.behind hbq
       obtain ⟨Aa95, cc96, wd97, hx98, hw⟩ := n_lit (P := Try.prog) (t := 132) (ty := 132) (T := 109) (len := 3) (parts := #[(0, (Operand.tmp 81)), (1, (Operand.tmp 82)), (2, (Operand.tmp 85))]) (z := .agg #[.int .i64 0, .int .i64 0, .int .i64 0]) (bytes := 24) (cells := #[.int .i64 (vx 0 t93 0), .int .i64 (vx 0 t93 1), .int .i64 (vx 0 t93 2), .int .i64 (vx 0 (#v[24, 4, a0.Op] : Vector Int 3) 0), .int .i64 (vx 0 (#v[24, 4, a0.Op] : Vector Int 3) 1), .int .i64 (vx 0 (#v[24, 4, a0.Op] : Vector Int 3) 2), .int .i64 0, .int .i64 4, .int .i64 a0.C]) hs hw eA109 ([t93, (#v[24, 4, a0.Op] : Vector Int 3), (#v[0, 4, a0.C] : Vector Int 3)] : List (Vector Int 3)) (by kernel_rfl) (by kernel_rfl) (by kernel_rfl) (by kernel_rfl) (by kernel_rfl) (by kernel_rfl) (by kernel_rfl)
       refine p_run hs (by rfl) hx98 [81, 82, 85] ?_; clear hs; intro a hs
       obtain ⟨t101, hx102, H⟩ := bind_some H
       refine p_call hs (by rfl) (isa_lay.calls Aa95 cc96 ([t93, (#v[24, 4, a0.Op] : Vector Int 3), (#v[0, 4, a0.C] : Vector Int 3)] : List (Vector Int 3)) t101 _ (Rd.of_own (hw.up 0)) hx102) ?_
       rintro e wd103 ⟨rfl, hw104⟩
       refine ⟨_, rfl, ?_⟩
       replace hw := hw.call hw104
       clear hs; intro a hs; replace hs := hs.rms [86]
       refine p_pvs [9] [] [87] [(2, .int .u32 t101)] hs ?_; clear hs; intro a hs
       refine p_last ?_
       refine e_end ?_
       refine hK91 _ _ ?_
       refine wp_ret ?_
       refine ib_ret ?_
       refine th_ret ?_
       obtain rfl := Option.some.inj H
       refine ret1 (t := 2) (v := .int .u32 t101) hs (by kernel_rfl) (by kernel_rfl) ?_
       exact ⟨rfl, hw.only 0⟩
      ·replace H := ite_f H (beq_eq_false_iff_ne.1 hc)
       have hb105 := hc
       rw [hb105] at hs
       refine wp_skip ?_
       refine ib_norm ?_
       replace hw := hw.up 4
       replace hw := hw.up 4
       replace hw := hw.up 4
       replace hw := hw.up 4
       replace hw := hw.up 4
       exact hJ2 _ _ hs.kx hw H
  refine go_sp [21] [(34, .bool (a0.Kind == 3))] hs ?_; clear hs; intro a hs
  refine go_cond hs (a0.Kind == 3) (fun hc => ?_) fun hc => ?_
  ·replace H := ite_t H (beq_iff_eq.1 hc)
   have hb36 := hc
   rw [hb36] at hs
   refine wp_skip ?_
   replace hw := hw.up 4
   replace hw := hw.up 4
   replace hw := hw.up 4
   replace hw := hw.up 4
   replace hw := hw.up 4
   exact hJ1 true _ _ hs.kx hw H
  ·replace H := ite_f H (beq_eq_false_iff_ne.1 hc)
   have hb37 := hc
   rw [hb37] at hs
   refine go_plain [] [(34, .bool (a0.Kind == 4))] hs ?_; clear hs; intro a hs
   replace hw := hw.up 4
   replace hw := hw.up 4
   replace hw := hw.up 4
   replace hw := hw.up 4
   replace hw := hw.up 4
   exact hJ1 (a0.Kind == 4) _ _ hs.kx hw H

/-! rivet/isa.May: function 36 -/
noncomputable def isa_May.j4 (v42 : Bool) : Option Bool := some v42
noncomputable def isa_May.j5 (v55 : Bool) : Option Bool := some v55
noncomputable def isa_May.j6 : Option Bool := some true
noncomputable def isa_May.j3 (a0 : Sapi_Instr) (v32 : Bool) : Option Bool := (if v32 = true then (if a0.Op = 0 then (if a0.B = 0 then (if a0.Kind = 2 then (if a0.U = true then isa_May.j4 (decide (a0.Imm ≥ 0)) else isa_May.j4 true) else (if a0.U = true then isa_May.j4 false else isa_May.j4 true)) else isa_May.j4 false) else (if a0.Op > 11 then some false else (if a0.U = true then ((isa_between a0.Op 8 10).bind fun t51 => (isa_May.j5 t51)) else isa_May.j5 true))) else isa_May.j6)
noncomputable def isa_May.j2 (a0 : Sapi_Instr) : Option Bool := (if a0.Kind = 1 then isa_May.j3 a0 true else isa_May.j3 a0 (a0.Kind == 2))
noncomputable def isa_May.j1 (a0 : Sapi_Instr) (v22 : Bool) : Option Bool := (if v22 = true then some false else isa_May.j2 a0)
noncomputable def isa_May (a0 : Sapi_Instr) : Option Bool := ((isa_between a0.Kind 1 7).bind fun t9 => ((if t9 = true then ((isa_between a0.Op 0 15).bind fun t13 => ((if t13 = true then ((isa_word a0).bind fun t17 => (((isa_read t17).bind fun t20 => (isa_May.j1 a0 (!((a0.Kind == t20.Kind) && ((a0.Op == t20.Op) && ((a0.A == t20.A) && ((a0.B == t20.B) && ((a0.C == t20.C) && ((a0.Imm == t20.Imm) && ((a0.U == t20.U) && true)))))))))))) else isa_May.j1 a0 true))) else isa_May.j1 a0 true)))
set_option maxRecDepth 100000 in
set_option maxHeartbeats 4000000 in
theorem isa_May.calls (a0 : Sapi_Instr) (r : Bool) (w0 : World) (H : isa_May a0 = some r) :
    Calls Try.prog 36 #[.agg (eSapi_Instr.enc a0).toArray] w0 fun e w' => e = .returned (.bool r) ∧ St [] w0 w' [] := by
 have hw : St [] w0 w0 [] := St.nil w0
 unfold isa_May at H
 refine go_fn Try.func36 rfl Try.ntmps36 ?_; intro a hs
 refine go_sk fun K1 hK1 => ?_
 obtain ⟨ad2, wd3, hx4, hw⟩ := x_box1 (P := Try.prog) (elem := 45) (v := (Operand.tmp 0)) (ty := 0) hs hw eSapi_Instr a0 (by kernel_rfl)
 refine go_run hs (by rfl) hx4 [0] ?_; clear hs; intro a hs
 refine go_pvs 2 [] [] hs ?_; clear hs; intro a hs
 refine go_end (hK1 _ _ ?_)
 refine go_seq_k fun K6 hK6 => ?_
 have hJ2 : ∀ (a : Act) (w : World), Slots a 64 [(1, .pointer (some ad2))] → St [] w0 w [own 45 eSapi_Instr (some ad2) 1 [a0]] → isa_May.j2 a0 = some r → K6 a w := by
  intro a w hs hw H
  unfold isa_May.j2 at H
  refine hK6 _ _ ?_
  refine go_seq_k fun K26 hK26 => ?_
  have hJ6 : ∀ (a : Act) (w : World), Slots a 64 [] → St [] w0 w [own 45 eSapi_Instr (some ad2) 1 [a0]] → isa_May.j6 = some r → K26 a w := by
   intro a w hs hw H
   unfold isa_May.j6 at H
   refine hK26 _ _ ?_
   refine go_sp [] [(2, .bool true)] hs ?_; clear hs; intro a hs
   refine wp_ret ?_
   obtain rfl := Option.some.inj H
   refine ret1 (t := 2) (v := .bool true) hs (by kernel_rfl) (by kernel_rfl) ?_
   exact ⟨rfl, hw.only 0⟩
  refine go_sk fun K27 hK27 => ?_
  refine go_pvs 1 [] [(20, .pointer (some ((ad2 : Addr).add 0)))] hs ?_; clear hs; intro a hs
  refine go_run hs (by rfl) (x_ld (off := 0) (p := (ad2 : Addr).add 0) (v := .int .i64 a0.Kind) (Rd.of_own (hw.up 0)) (one_ok a0) (one_off _ _ _)) [20] ?_; clear hs; intro a hs
  refine go_end (hK27 _ _ ?_)
  refine wp_block ?_
  refine go_seq_k fun K28 hK28 => ?_
  have hJ3 : ∀ (v32 : Bool) (a : Act) (w : World), Slots a 64 [(1, .pointer (some ad2)), (22, .bool v32)] → St [] w0 w [own 45 eSapi_Instr (some ad2) 1 [a0]] → isa_May.j3 a0 v32 = some r → K28 a w := by
   intro v32 a w hs hw H
   unfold isa_May.j3 at H
   refine hK28 _ _ ?_
   refine go_cond hs v32 (fun hc => ?_) fun hc => ?_
   ·replace H := ite_t H hc
    have hb33 := hc
    rw [hb33] at hs
    refine go_seq_k fun K34 hK34 => ?_
    refine wp_block ?_
    refine go_sk fun K35 hK35 => ?_
    refine go_pvs 1 [22] [(26, .pointer (some ((ad2 : Addr).add 1)))] hs ?_; clear hs; intro a hs
    refine go_run hs (by rfl) (x_ld (off := 1) (p := (ad2 : Addr).add 1) (v := .int .i64 a0.Op) (Rd.of_own (hw.up 0)) (one_ok a0) (one_off _ _ _)) [26] ?_; clear hs; intro a hs
    refine go_pvs 4 [27] [(25, .bool (a0.Op == 0))] hs ?_; clear hs; intro a hs
    refine go_end (hK35 _ _ ?_)
    refine go_cond hs (a0.Op == 0) (fun hc => ?_) fun hc => ?_
    ·replace H := ite_t H (beq_iff_eq.1 hc)
     have hb36 := hc
     rw [hb36] at hs
     refine go_seq_k fun K37 hK37 => ?_
     have hJ4 : ∀ (v42 : Bool) (a : Act) (w : World), Slots a 64 [(2, .bool v42)] → St [] w0 w [own 45 eSapi_Instr (some ad2) 1 [a0]] → isa_May.j4 v42 = some r → K37 a w := by
      intro v42 a w hs hw H
      unfold isa_May.j4 at H
      refine hK37 _ _ ?_
      refine wp_ret ?_
      refine ib_ret ?_
      refine th_ret ?_
      refine ib_ret ?_
      refine th_ret ?_
      obtain rfl := Option.some.inj H
      refine ret1 (t := 2) (v := .bool v42) hs (by kernel_rfl) (by kernel_rfl) ?_
      exact ⟨rfl, hw.only 0⟩
     refine go_region ?_
     refine go_pvs 1 [25] [(29, .pointer (some ((ad2 : Addr).add 3)))] hs ?_; clear hs; intro a hs
     refine go_run hs (by rfl) (x_ld (off := 3) (p := (ad2 : Addr).add 3) (v := .int .i64 a0.B) (Rd.of_own (hw.up 0)) (one_ok a0) (one_off _ _ _)) [29] ?_; clear hs; intro a hs
     refine go_pvs 4 [30] [(32, .bool (a0.B == 0))] hs ?_; clear hs; intro a hs
     cases hb38 : (a0.B == 0)
     ·replace H := ite_f H (beq_eq_false_iff_ne.1 hb38)
      rw [hb38] at hs
      refine go_pvs 24 [1, 32] [(2, .bool false)] hs ?_; clear hs; intro a hs
      refine go_end ?_
      exact hJ4 false _ _ hs.kx hw H
     ·replace H := ite_t H (beq_iff_eq.1 hb38)
      rw [hb38] at hs
      refine go_pvs 5 [] [(33, .pointer (some ((ad2 : Addr).add 0)))] hs ?_; clear hs; intro a hs
      refine go_run hs (by rfl) (x_ld (off := 0) (p := (ad2 : Addr).add 0) (v := .int .i64 a0.Kind) (Rd.of_own (hw.up 0)) (one_ok a0) (one_off _ _ _)) [33] ?_; clear hs; intro a hs
      refine go_pvs 8 [34] [(36, .bool (a0.Kind == 2))] hs ?_; clear hs; intro a hs
      cases hb39 : (a0.Kind == 2)
      ·replace H := ite_f H (beq_eq_false_iff_ne.1 hb39)
       rw [hb39] at hs
       refine go_pvs 9 [] [(37, .pointer (some ((ad2 : Addr).add 6)))] hs ?_; clear hs; intro a hs
       refine go_run hs (by rfl) (x_ld (off := 6) (p := (ad2 : Addr).add 6) (v := .bool a0.U) (Rd.of_own (hw.up 0)) (one_ok a0) (one_off _ _ _)) [37] ?_; clear hs; intro a hs
       refine go_pvs 14 [32, 36, 38] [(42, .bool (!a0.U))] hs ?_; clear hs; intro a hs
       cases hb40 : (!a0.U)
       ·replace H := ite_t H (nf hb40)
        rw [hb40] at hs
        refine go_pvs 24 [1, 42] [(2, .bool false)] hs ?_; clear hs; intro a hs
        refine go_end ?_
        exact hJ4 false _ _ hs.kx hw H
       ·replace H := ite_f H (ff (nt hb40))
        rw [hb40] at hs
        refine go_pvs 15 [] [(43, .pointer (some ((ad2 : Addr).add 6)))] hs ?_; clear hs; intro a hs
        refine go_run hs (by rfl) (x_ld (off := 6) (p := (ad2 : Addr).add 6) (v := .bool a0.U) (Rd.of_own (hw.up 0)) (one_ok a0) (one_off _ _ _)) [43] ?_; clear hs; intro a hs
        refine go_pvs 18 [44] [(46, .bool (!a0.U))] hs ?_; clear hs; intro a hs
        rw [hb40] at hs
        refine go_pvs 24 [1, 42, 46] [(2, .bool true)] hs ?_; clear hs; intro a hs
        refine go_end ?_
        exact hJ4 true _ _ hs.kx hw H
      ·replace H := ite_t H (beq_iff_eq.1 hb39)
       rw [hb39] at hs
       refine go_pvs 15 [32, 36] [(42, .bool true), (43, .pointer (some ((ad2 : Addr).add 6)))] hs ?_; clear hs; intro a hs
       refine go_run hs (by rfl) (x_ld (off := 6) (p := (ad2 : Addr).add 6) (v := .bool a0.U) (Rd.of_own (hw.up 0)) (one_ok a0) (one_off _ _ _)) [43] ?_; clear hs; intro a hs
       refine go_pvs 18 [44] [(46, .bool (!a0.U))] hs ?_; clear hs; intro a hs
       cases hb41 : (!a0.U)
       ·replace H := ite_t H (nf hb41)
        rw [hb41] at hs
        refine go_pvs 19 [1] [(47, .pointer (some ((ad2 : Addr).add 5)))] hs ?_; clear hs; intro a hs
        refine go_run hs (by rfl) (x_ld (off := 5) (p := (ad2 : Addr).add 5) (v := .int .i64 a0.Imm) (Rd.of_own (hw.up 0)) (one_ok a0) (one_off _ _ _)) [47] ?_; clear hs; intro a hs
        refine go_pvs 24 [42, 46, 48] [(2, .bool (decide (a0.Imm ≥ 0)))] hs ?_; clear hs; intro a hs
        refine go_end ?_
        exact hJ4 (decide (a0.Imm ≥ 0)) _ _ hs.kx hw H
       ·replace H := ite_f H (ff (nt hb41))
        rw [hb41] at hs
        refine go_pvs 24 [1, 42, 46] [(2, .bool true)] hs ?_; clear hs; intro a hs
        refine go_end ?_
        exact hJ4 true _ _ hs.kx hw H
    ·replace H := ite_f H (beq_eq_false_iff_ne.1 hc)
     have hb43 := hc
     rw [hb43] at hs
     refine go_sk fun K44 hK44 => ?_
     refine go_pvs 1 [25] [(53, .pointer (some ((ad2 : Addr).add 1)))] hs ?_; clear hs; intro a hs
     refine go_run hs (by rfl) (x_ld (off := 1) (p := (ad2 : Addr).add 1) (v := .int .i64 a0.Op) (Rd.of_own (hw.up 0)) (one_ok a0) (one_off _ _ _)) [53] ?_; clear hs; intro a hs
     refine go_pvs 4 [54] [(52, .bool (decide (a0.Op > 11)))] hs ?_; clear hs; intro a hs
     refine go_end (hK44 _ _ ?_)
     refine go_cond hs (decide (a0.Op > 11)) (fun hc => ?_) fun hc => ?_
     ·replace H := ite_t H (of_decide_eq_true hc)
      have hb45 := hc
      rw [hb45] at hs
      refine go_sp [1, 52] [(2, .bool false)] hs ?_; clear hs; intro a hs
      refine wp_ret ?_
      refine ib_ret ?_
      refine th_ret ?_
      refine ib_ret ?_
      refine th_ret ?_
      obtain rfl := Option.some.inj H
      refine ret1 (t := 2) (v := .bool false) hs (by kernel_rfl) (by kernel_rfl) ?_
      exact ⟨rfl, hw.only 0⟩
     ·replace H := ite_f H (of_decide_eq_false hc)
      have hb47 := hc
      rw [hb47] at hs
      refine wp_skip ?_
      refine ib_norm ?_
      refine hK34 _ _ ?_
      refine go_seq_k fun K48 hK48 => ?_
      have hJ5 : ∀ (v55 : Bool) (a : Act) (w : World), Slots a 64 [(2, .bool v55)] → St [] w0 w [own 45 eSapi_Instr (some ad2) 1 [a0]] → isa_May.j5 v55 = some r → K48 a w := by
       intro v55 a w hs hw H
       unfold isa_May.j5 at H
       refine hK48 _ _ ?_
       refine wp_ret ?_
       refine ib_ret ?_
       refine th_ret ?_
       obtain rfl := Option.some.inj H
       refine ret1 (t := 2) (v := .bool v55) hs (by kernel_rfl) (by kernel_rfl) ?_
       exact ⟨rfl, hw.only 0⟩
      refine go_region ?_
      refine go_pvs 1 [52] [(56, .pointer (some ((ad2 : Addr).add 6)))] hs ?_; clear hs; intro a hs
      refine go_run hs (by rfl) (x_ld (off := 6) (p := (ad2 : Addr).add 6) (v := .bool a0.U) (Rd.of_own (hw.up 0)) (one_ok a0) (one_off _ _ _)) [56] ?_; clear hs; intro a hs
      refine go_pvs 4 [57] [(59, .bool (!a0.U))] hs ?_; clear hs; intro a hs
      cases hb49 : (!a0.U)
      ·replace H := ite_t H (nf hb49)
       rw [hb49] at hs
       refine go_pvs 5 [1] [(60, .pointer (some ((ad2 : Addr).add 1)))] hs ?_; clear hs; intro a hs
       refine go_run hs (by rfl) (x_ld (off := 1) (p := (ad2 : Addr).add 1) (v := .int .i64 a0.Op) (Rd.of_own (hw.up 0)) (one_ok a0) (one_off _ _ _)) [60] ?_; clear hs; intro a hs
       obtain ⟨t51, hx52, H⟩ := bind_some H
       refine go_call hs (by rfl) (isa_between.calls a0.Op 8 10 t51 _ hx52) ?_
       rintro e wd53 ⟨rfl, hw54⟩
       refine ⟨_, rfl, ?_⟩
       replace hw := hw.call hw54
       clear hs; intro a hs; replace hs := hs.rms [61]
       refine go_pvs 9 [59, 62] [(2, .bool t51)] hs ?_; clear hs; intro a hs
       refine go_end ?_
       exact hJ5 t51 _ _ hs.kx hw H
      ·replace H := ite_f H (ff (nt hb49))
       rw [hb49] at hs
       refine go_pvs 9 [1, 59] [(2, .bool true)] hs ?_; clear hs; intro a hs
       refine go_end ?_
       exact hJ5 true _ _ hs.kx hw H
   ·replace H := ite_f H (ff hc)
    have hb56 := hc
    rw [hb56] at hs
    refine wp_skip ?_
    refine ib_norm ?_
    exact hJ6 _ _ hs.kx hw H
  refine go_sp [] [(22, .bool (a0.Kind == 1))] hs ?_; clear hs; intro a hs
  refine go_cond hs (a0.Kind == 1) (fun hc => ?_) fun hc => ?_
  ·replace H := ite_t H (beq_iff_eq.1 hc)
   have hb30 := hc
   rw [hb30] at hs
   refine wp_skip ?_
   exact hJ3 true _ _ hs.kx hw H
  ·replace H := ite_f H (beq_eq_false_iff_ne.1 hc)
   have hb31 := hc
   rw [hb31] at hs
   refine go_plain [21] [(22, .bool (a0.Kind == 2))] hs ?_; clear hs; intro a hs
   exact hJ3 (a0.Kind == 2) _ _ hs.kx hw H
 refine go_seq_k fun K7 hK7 => ?_
 have hJ1 : ∀ (v22 : Bool) (a : Act) (w : World), Slots a 64 [(1, .pointer (some ad2)), (19, .bool v22)] → St [] w0 w [own 45 eSapi_Instr (some ad2) 1 [a0]] → isa_May.j1 a0 v22 = some r → K7 a w := by
  intro v22 a w hs hw H
  unfold isa_May.j1 at H
  refine hK7 _ _ ?_
  refine go_cond hs v22 (fun hc => ?_) fun hc => ?_
  ·replace H := ite_t H hc
   have hb23 := hc
   rw [hb23] at hs
   refine go_sp [1, 19] [(2, .bool false)] hs ?_; clear hs; intro a hs
   refine wp_ret ?_
   refine th_ret ?_
   obtain rfl := Option.some.inj H
   refine ret1 (t := 2) (v := .bool false) hs (by kernel_rfl) (by kernel_rfl) ?_
   exact ⟨rfl, hw.only 0⟩
  ·replace H := ite_f H (ff hc)
   have hb25 := hc
   rw [hb25] at hs
   refine wp_skip ?_
   exact hJ2 _ _ hs.kx hw H
 refine q2_region (by kernel_rfl) (by kernel_rfl) ?_
 refine q_pvs 1 [] [(3, .pointer (some ((ad2 : Addr).add 0)))] hs ?_; clear hs; intro a hs
 refine q_run hs (by rfl) (fun wx hbx => (x_ld (off := 0) (p := (ad2 : Addr).add 0) (v := .int .i64 a0.Kind) ((Rd.of_own (hw.up 0)).below hbx) (one_ok a0) (one_off _ _ _))) [3] ?_; clear hs; intro a hs
 obtain ⟨t9, hx10, H⟩ := bind_some H
 refine q_call hs (by rfl) (fun wx hbx => (isa_between.calls a0.Kind 1 7 t9 _ hx10).mono fun e wy h => ⟨h.1, below_st hbx h.2⟩) [4] ?_; clear hs; intro a hs
 refine q_pvs 5 [5] [(7, .bool (!t9))] hs ?_; clear hs; intro a hs
 cases hb11 : (!t9)
 ·replace H := ite_t H (nf hb11)
  rw [hb11] at hs
  refine q_pvs 6 [] [(8, .pointer (some ((ad2 : Addr).add 1)))] hs ?_; clear hs; intro a hs
  refine q_run hs (by rfl) (fun wx hbx => (x_ld (off := 1) (p := (ad2 : Addr).add 1) (v := .int .i64 a0.Op) ((Rd.of_own (hw.up 0)).below hbx) (one_ok a0) (one_off _ _ _))) [8] ?_; clear hs; intro a hs
  obtain ⟨t13, hx14, H⟩ := bind_some H
  refine q_call hs (by rfl) (fun wx hbx => (isa_between.calls a0.Op 0 15 t13 _ hx14).mono fun e wy h => ⟨h.1, below_st hbx h.2⟩) [9] ?_; clear hs; intro a hs
  refine q_pvs 11 [7, 10] [(13, .bool (!t13))] hs ?_; clear hs; intro a hs
  cases hb15 : (!t13)
  ·replace H := ite_t H (nf hb15)
   rw [hb15] at hs
   refine q_run hs (by rfl) (fun wx hbx => (x_lds (off := 0) (p := ad2) (cs := (eSapi_Instr.enc a0)) ((Rd.of_own (hw.up 0)).below hbx) (one_ok a0) (one_at _ _))) [] ?_; clear hs; intro a hs
   refine q_run hs (by rfl) (fun wx hbx => (x_lds (off := 0) (p := ad2) (cs := (eSapi_Instr.enc a0)) ((Rd.of_own (hw.up 0)).below hbx) (one_ok a0) (one_at _ _))) [] ?_; clear hs; intro a hs
   obtain ⟨t17, hx18, H⟩ := bind_some H
   refine q_call hs (by rfl) (fun wx hbx => (isa_word.calls a0 t17 _ hx18).mono fun e wy h => ⟨h.1, below_st hbx h.2⟩) [15] ?_; clear hs; intro a hs
   obtain ⟨t20, hx21, H⟩ := bind_some H
   refine q_call hs (by rfl) (fun wx hbx => (isa_read.calls t17 t20 _ hx21).mono fun e wy h => ⟨h.1, below_st hbx h.2⟩) [16] ?_; clear hs; intro a hs
   refine q_run hs (by rfl) (fun wx hbx => (x_neq (xs := (eSapi_Instr.enc a0).toArray) (ys := (eSapi_Instr.enc t20).toArray) (r := ((a0.Kind == t20.Kind) && ((a0.Op == t20.Op) && ((a0.A == t20.A) && ((a0.B == t20.B) && ((a0.C == t20.C) && ((a0.Imm == t20.Imm) && ((a0.U == t20.U) && true)))))))) (by kernel_rfl) (by kernel_rfl) (by kernel_rfl) (eq_struct Try.underlying45 (by kernel_rfl) (eq_cons (a := .int .i64 a0.Kind) (b := .int .i64 t20.Kind) (r := (a0.Kind == t20.Kind)) (s := ((a0.Op == t20.Op) && ((a0.A == t20.A) && ((a0.B == t20.B) && ((a0.C == t20.C) && ((a0.Imm == t20.Imm) && ((a0.U == t20.U) && true))))))) (by kernel_rfl) (part_pv (by kernel_rfl)) (part_pv (by kernel_rfl)) (eq_pv (by kernel_rfl)) (eq_cons (a := .int .i64 a0.Op) (b := .int .i64 t20.Op) (r := (a0.Op == t20.Op)) (s := ((a0.A == t20.A) && ((a0.B == t20.B) && ((a0.C == t20.C) && ((a0.Imm == t20.Imm) && ((a0.U == t20.U) && true)))))) (by kernel_rfl) (part_pv (by kernel_rfl)) (part_pv (by kernel_rfl)) (eq_pv (by kernel_rfl)) (eq_cons (a := .int .i64 a0.A) (b := .int .i64 t20.A) (r := (a0.A == t20.A)) (s := ((a0.B == t20.B) && ((a0.C == t20.C) && ((a0.Imm == t20.Imm) && ((a0.U == t20.U) && true))))) (by kernel_rfl) (part_pv (by kernel_rfl)) (part_pv (by kernel_rfl)) (eq_pv (by kernel_rfl)) (eq_cons (a := .int .i64 a0.B) (b := .int .i64 t20.B) (r := (a0.B == t20.B)) (s := ((a0.C == t20.C) && ((a0.Imm == t20.Imm) && ((a0.U == t20.U) && true)))) (by kernel_rfl) (part_pv (by kernel_rfl)) (part_pv (by kernel_rfl)) (eq_pv (by kernel_rfl)) (eq_cons (a := .int .i64 a0.C) (b := .int .i64 t20.C) (r := (a0.C == t20.C)) (s := ((a0.Imm == t20.Imm) && ((a0.U == t20.U) && true))) (by kernel_rfl) (part_pv (by kernel_rfl)) (part_pv (by kernel_rfl)) (eq_pv (by kernel_rfl)) (eq_cons (a := .int .i64 a0.Imm) (b := .int .i64 t20.Imm) (r := (a0.Imm == t20.Imm)) (s := ((a0.U == t20.U) && true)) (by kernel_rfl) (part_pv (by kernel_rfl)) (part_pv (by kernel_rfl)) (eq_pv (by kernel_rfl)) (eq_cons (a := .bool a0.U) (b := .bool t20.U) (r := (a0.U == t20.U)) (s := true) (by kernel_rfl) (part_pv (by kernel_rfl)) (part_pv (by kernel_rfl)) (eq_pv (by kernel_rfl)) eq_nil)))))))))) [14, 17] ?_; clear hs; intro a hs
   refine q_pvs 17 [13, 18] [(19, .bool (!((a0.Kind == t20.Kind) && ((a0.Op == t20.Op) && ((a0.A == t20.A) && ((a0.B == t20.B) && ((a0.C == t20.C) && ((a0.Imm == t20.Imm) && ((a0.U == t20.U) && true)))))))))] hs ?_; clear hs; intro a hs
   refine q_end ?_
   intro wq hbq
   replace hw := hw.behind hbq
   exact hJ1 (!((a0.Kind == t20.Kind) && ((a0.Op == t20.Op) && ((a0.A == t20.A) && ((a0.B == t20.B) && ((a0.C == t20.C) && ((a0.Imm == t20.Imm) && ((a0.U == t20.U) && true)))))))) _ _ hs.kx hw H
  ·replace H := ite_f H (ff (nt hb15))
   rw [hb15] at hs
   refine q_pvs 17 [13] [(19, .bool true)] hs ?_; clear hs; intro a hs
   refine q_end ?_
   intro wq hbq
   replace hw := hw.behind hbq
   exact hJ1 true _ _ hs.kx hw H
 ·replace H := ite_f H (ff (nt hb11))
  rw [hb11] at hs
  refine q_pvs 17 [7] [(19, .bool true)] hs ?_; clear hs; intro a hs
  refine q_end ?_
  intro wq hbq
  replace hw := hw.behind hbq
  exact hJ1 true _ _ hs.kx hw H

/-! rivet/isa.Encode: function 20 -/
noncomputable def isa_Encode (a0 : Sapi_Instr) : Option (Int × Int) := ((isa_May a0).bind fun t9 => ((if t9 = true then ((isa_word a0).bind fun t18 => (some (t18, 0))) else some (0, 1))))
set_option maxRecDepth 100000 in
set_option maxHeartbeats 4000000 in
theorem isa_Encode.calls (a0 : Sapi_Instr) (r : Int × Int) (w0 : World) (H : isa_Encode a0 = some r) :
    Calls Try.prog 20 #[.agg (eSapi_Instr.enc a0).toArray] w0 fun e w' => e = .returned (.tuple #[.int .u32 r.1, .int .i64 r.2]) ∧ St [] w0 w' [] := by
 have hw : St [] w0 w0 [] := St.nil w0
 unfold isa_Encode at H
 refine go_fn Try.func20 rfl Try.ntmps20 ?_; intro a hs
 refine go_sk fun K1 hK1 => ?_
 obtain ⟨ad2, wd3, hx4, hw⟩ := x_box1 (P := Try.prog) (elem := 45) (v := (Operand.tmp 0)) (ty := 0) hs hw eSapi_Instr a0 (by kernel_rfl)
 refine go_run hs (by rfl) hx4 [0] ?_; clear hs; intro a hs
 refine go_pvs 3 [] [] hs ?_; clear hs; intro a hs
 refine go_end (hK1 _ _ ?_)
 refine go_seq_k fun K6 hK6 => ?_
 refine go_sk fun K7 hK7 => ?_
 refine go_run hs (by rfl) (x_lds (off := 0) (p := ad2) (cs := (eSapi_Instr.enc a0)) (Rd.of_own (hw.up 0)) (one_ok a0) (one_at _ _)) [] ?_; clear hs; intro a hs
 obtain ⟨t9, hx10, H⟩ := bind_some H
 refine go_call hs (by rfl) (isa_May.calls a0 t9 _ hx10) ?_
 rintro e wd11 ⟨rfl, hw12⟩
 refine ⟨_, rfl, ?_⟩
 replace hw := hw.call hw12
 clear hs; intro a hs; replace hs := hs.rms [4]
 refine go_pvs 3 [5] [(6, .bool (!t9))] hs ?_; clear hs; intro a hs
 refine go_end (hK7 _ _ ?_)
 refine go_cond hs (!t9) (fun hc => ?_) fun hc => ?_
 ·replace H := ite_f H (ff (nt hc))
  have hb13 := hc
  rw [hb13] at hs
  refine go_sp [1, 6] [(2, .int .u32 0), (3, .int .i64 1)] hs ?_; clear hs; intro a hs
  refine wp_ret ?_
  refine th_ret ?_
  obtain rfl := Option.some.inj H
  refine ret2 (t1 := 2) (v1 := .int .u32 0) (t2 := 3) (v2 := .int .i64 1) hs (by kernel_rfl) (by kernel_rfl) (by kernel_rfl) ?_
  exact ⟨rfl, hw.only 0⟩
 ·replace H := ite_t H (nf hc)
  have hb15 := hc
  rw [hb15] at hs
  refine wp_skip ?_
  refine hK6 _ _ ?_
  refine go_sk fun K16 hK16 => ?_
  refine go_run hs (by rfl) (x_lds (off := 0) (p := ad2) (cs := (eSapi_Instr.enc a0)) (Rd.of_own (hw.up 0)) (one_ok a0) (one_at _ _)) [1, 6] ?_; clear hs; intro a hs
  obtain ⟨t18, hx19, H⟩ := bind_some H
  refine go_call hs (by rfl) (isa_word.calls a0 t18 _ hx19) ?_
  rintro e wd20 ⟨rfl, hw21⟩
  refine ⟨_, rfl, ?_⟩
  replace hw := hw.call hw21
  clear hs; intro a hs; replace hs := hs.rms [7]
  refine go_pvs 4 [8] [(2, .int .u32 t18), (3, .int .i64 0)] hs ?_; clear hs; intro a hs
  refine go_end (hK16 _ _ ?_)
  refine wp_ret ?_
  obtain rfl := Option.some.inj H
  refine ret2 (t1 := 2) (v1 := .int .u32 t18) (t2 := 3) (v2 := .int .i64 0) hs (by kernel_rfl) (by kernel_rfl) (by kernel_rfl) ?_
  exact ⟨rfl, hw.only 0⟩

/-! rivet/isa.Decode: function 34 -/
noncomputable def isa_Decode.j2 (t8 : Sapi_Instr) : Option (Sapi_Instr × Bool) := some ((t8 : Sapi_Instr), true)
noncomputable def isa_Decode.j1 (t8 : Sapi_Instr) (v31 : Bool) : Option (Sapi_Instr × Bool) := (if v31 = true then some ((⟨0, 0, 0, 0, 0, 0, false⟩ : Sapi_Instr), false) else isa_Decode.j2 t8)
noncomputable def isa_Decode (a0 : Int) : Option (Sapi_Instr × Bool) := ((isa_read a0).bind fun t8 => (((isa_May (t8 : Sapi_Instr)).bind fun t21 => ((if t21 = true then ((isa_word (t8 : Sapi_Instr)).bind fun t27 => (isa_Decode.j1 t8 (t27 != a0))) else isa_Decode.j1 t8 true)))))
set_option maxRecDepth 100000 in
set_option maxHeartbeats 4000000 in
theorem isa_Decode.calls (a0 : Int) (r : Sapi_Instr × Bool) (w0 : World) (H : isa_Decode a0 = some r) :
    Calls Try.prog 34 #[.int .u32 a0] w0 fun e w' => e = .returned (.tuple #[.agg (eSapi_Instr.enc r.1).toArray, .bool r.2]) ∧ St [] w0 w' [] := by
 have hw : St [] w0 w0 [] := St.nil w0
 unfold isa_Decode at H
 refine go_fn Try.func34 rfl Try.ntmps34 ?_; intro a hs
 refine go_sk fun K1 hK1 => ?_
 obtain ⟨ad2, wd3, hx4, hw⟩ := x_alloc1 (P := Try.prog) (elem := 45) (ty := 0) (z := .agg (eSapi_Instr.enc (⟨0, 0, 0, 0, 0, 0, false⟩ : Sapi_Instr)).toArray) hs hw eSapi_Instr (⟨0, 0, 0, 0, 0, 0, false⟩ : Sapi_Instr) (by kernel_rfl) (by kernel_rfl)
 refine go_run hs (by rfl) hx4 [] ?_; clear hs; intro a hs
 refine go_pvs 2 [] [] hs ?_; clear hs; intro a hs
 refine go_end (hK1 _ _ ?_)
 refine go_sk fun K6 hK6 => ?_
 refine go_pvs 1 [] [(5, .int .u32 a0)] hs ?_; clear hs; intro a hs
 obtain ⟨t8, hx9, H⟩ := bind_some H
 refine go_call hs (by rfl) (isa_read.calls a0 t8 _ hx9) ?_
 rintro e wd10 ⟨rfl, hw11⟩
 refine ⟨_, rfl, ?_⟩
 replace hw := hw.call hw11
 clear hs; intro a hs; replace hs := hs.rms [5]
 obtain ⟨ad12, wd13, hx14, hw⟩ := x_alloc1 (P := Try.prog) (elem := 45) (ty := 0) (z := .agg (eSapi_Instr.enc (⟨0, 0, 0, 0, 0, 0, false⟩ : Sapi_Instr)).toArray) hs hw eSapi_Instr (⟨0, 0, 0, 0, 0, 0, false⟩ : Sapi_Instr) (by kernel_rfl) (by kernel_rfl)
 refine go_run hs (by rfl) hx14 [] ?_; clear hs; intro a hs
 obtain ⟨wd16, hx17, hw⟩ := x_put (P := Try.prog) (ty := 0) (t := 45) (x := (Operand.tmp 4)) (y := (Operand.tmp 6)) (off := 0) (p := ad12) (v := .agg (eSapi_Instr.enc t8).toArray) (vs := (eSapi_Instr.enc t8)) (i := 0) (e' := ((t8 : Sapi_Instr) : Sapi_Instr)) hs hw rfl (one_ok (⟨0, 0, 0, 0, 0, 0, false⟩ : Sapi_Instr)).1 (one_ok (⟨0, 0, 0, 0, 0, 0, false⟩ : Sapi_Instr)).2 (by kernel_rfl) (one_at _ _) (by kernel_rfl) rfl (by kernel_rfl) (Nat.le_of_ble_eq_true rfl) (eSapi_Instr.one _) (by kernel_rfl)
 refine go_unit hs (by rfl) hx17 [6] ?_; clear hs; intro a hs
 replace hw : St [] w0 wd16 [own 45 eSapi_Instr (some ad12) 1 [(t8 : Sapi_Instr)], own 45 eSapi_Instr (some ad2) 1 [(⟨0, 0, 0, 0, 0, 0, false⟩ : Sapi_Instr)]] := hw
 refine go_end (hK6 _ _ ?_)
 refine go_seq_k fun K18 hK18 => ?_
 have hJ2 : ∀ (a : Act) (w : World), Slots a 18 [(2, .pointer (some ad2)), (4, .pointer (some ad12))] → St [] w0 w [own 45 eSapi_Instr (some ad12) 1 [(t8 : Sapi_Instr)], own 45 eSapi_Instr (some ad2) 1 [(⟨0, 0, 0, 0, 0, 0, false⟩ : Sapi_Instr)]] → isa_Decode.j2 t8 = some r → K18 a w := by
  intro a w hs hw H
  unfold isa_Decode.j2 at H
  refine hK18 _ _ ?_
  refine go_sk fun K37 hK37 => ?_
  refine go_run hs (by rfl) (x_lds (off := 0) (p := ad12) (cs := (eSapi_Instr.enc (t8 : Sapi_Instr))) (Rd.of_own (hw.up 0)) (one_ok (t8 : Sapi_Instr)) (one_at _ _)) [4] ?_; clear hs; intro a hs
  replace hw := hw.up 1
  obtain ⟨wd38, hx39, hw⟩ := x_put (P := Try.prog) (ty := 0) (t := 45) (x := (Operand.tmp 2)) (y := (Operand.tmp 17)) (off := 0) (p := ad2) (v := .agg (eSapi_Instr.enc (t8 : Sapi_Instr)).toArray) (vs := (eSapi_Instr.enc (t8 : Sapi_Instr))) (i := 0) (e' := ((t8 : Sapi_Instr) : Sapi_Instr)) hs hw rfl (one_ok (⟨0, 0, 0, 0, 0, 0, false⟩ : Sapi_Instr)).1 (one_ok (⟨0, 0, 0, 0, 0, 0, false⟩ : Sapi_Instr)).2 (by kernel_rfl) (one_at _ _) (by kernel_rfl) rfl (by kernel_rfl) (Nat.le_of_ble_eq_true rfl) (eSapi_Instr.one _) (by kernel_rfl)
  refine go_unit hs (by rfl) hx39 [17] ?_; clear hs; intro a hs
  replace hw : St [] w0 wd38 [own 45 eSapi_Instr (some ad2) 1 [(t8 : Sapi_Instr)], own 45 eSapi_Instr (some ad12) 1 [(t8 : Sapi_Instr)]] := hw
  refine go_pvs 3 [] [(3, .bool true)] hs ?_; clear hs; intro a hs
  refine go_end (hK37 _ _ ?_)
  refine wp_ret ?_
  obtain rfl := Option.some.inj H
  replace hs : Slots a 18 [(2, .pointer (some ad2)), (3, .bool true)] := hs.kx
  refine ret2g (L := [(2, .pointer (some ad2)), (3, .bool true)]) (r1 := .cell 2 45) (v1 := .agg (eSapi_Instr.enc (t8 : Sapi_Instr)).toArray) (r2 := .tmp 3) (v2 := .bool true) hs (by kernel_rfl) ⟨_, (show lk 2 [(2, .pointer (some ad2)), (3, .bool true)] = some (.pointer (some ad2)) by kernel_rfl), lv_row (E := eSapi_Instr) (x := (t8 : Sapi_Instr)) (by kernel_rfl) (by kernel_rfl) (Rd.of_own (hw.up 0))⟩ (show lk 3 [(2, .pointer (some ad2)), (3, .bool true)] = some (.bool true) by kernel_rfl) ?_
  exact ⟨rfl, hw.only 0⟩
 refine go_seq_k fun K19 hK19 => ?_
 have hJ1 : ∀ (v31 : Bool) (a : Act) (w : World), Slots a 18 [(2, .pointer (some ad2)), (4, .pointer (some ad12)), (15, .bool v31)] → St [] w0 w [own 45 eSapi_Instr (some ad12) 1 [(t8 : Sapi_Instr)], own 45 eSapi_Instr (some ad2) 1 [(⟨0, 0, 0, 0, 0, 0, false⟩ : Sapi_Instr)]] → isa_Decode.j1 t8 v31 = some r → K19 a w := by
  intro v31 a w hs hw H
  unfold isa_Decode.j1 at H
  refine hK19 _ _ ?_
  refine go_cond hs v31 (fun hc => ?_) fun hc => ?_
  ·replace H := ite_t H hc
   have hb32 := hc
   rw [hb32] at hs
   refine go_sk fun K33 hK33 => ?_
   refine go_pvs 1 [4, 15] [(16, .agg (eSapi_Instr.enc (⟨0, 0, 0, 0, 0, 0, false⟩ : Sapi_Instr)).toArray)] hs ?_; clear hs; intro a hs
   replace hw := hw.up 1
   obtain ⟨wd34, hx35, hw⟩ := x_put (P := Try.prog) (ty := 0) (t := 45) (x := (Operand.tmp 2)) (y := (Operand.tmp 16)) (off := 0) (p := ad2) (v := .agg (eSapi_Instr.enc (⟨0, 0, 0, 0, 0, 0, false⟩ : Sapi_Instr)).toArray) (vs := (eSapi_Instr.enc (⟨0, 0, 0, 0, 0, 0, false⟩ : Sapi_Instr))) (i := 0) (e' := ((⟨0, 0, 0, 0, 0, 0, false⟩ : Sapi_Instr) : Sapi_Instr)) hs hw rfl (one_ok (⟨0, 0, 0, 0, 0, 0, false⟩ : Sapi_Instr)).1 (one_ok (⟨0, 0, 0, 0, 0, 0, false⟩ : Sapi_Instr)).2 (by kernel_rfl) (one_at _ _) (by kernel_rfl) rfl (by kernel_rfl) (Nat.le_of_ble_eq_true rfl) (eSapi_Instr.one _) (by kernel_rfl)
   refine go_unit hs (by rfl) hx35 [16] ?_; clear hs; intro a hs
   replace hw : St [] w0 wd34 [own 45 eSapi_Instr (some ad2) 1 [(⟨0, 0, 0, 0, 0, 0, false⟩ : Sapi_Instr)], own 45 eSapi_Instr (some ad12) 1 [(t8 : Sapi_Instr)]] := hw
   refine go_pvs 3 [] [(3, .bool false)] hs ?_; clear hs; intro a hs
   refine go_end (hK33 _ _ ?_)
   refine wp_ret ?_
   refine th_ret ?_
   obtain rfl := Option.some.inj H
   replace hs : Slots a 18 [(2, .pointer (some ad2)), (3, .bool false)] := hs.kx
   refine ret2g (L := [(2, .pointer (some ad2)), (3, .bool false)]) (r1 := .cell 2 45) (v1 := .agg (eSapi_Instr.enc (⟨0, 0, 0, 0, 0, 0, false⟩ : Sapi_Instr)).toArray) (r2 := .tmp 3) (v2 := .bool false) hs (by kernel_rfl) ⟨_, (show lk 2 [(2, .pointer (some ad2)), (3, .bool false)] = some (.pointer (some ad2)) by kernel_rfl), lv_row (E := eSapi_Instr) (x := (⟨0, 0, 0, 0, 0, 0, false⟩ : Sapi_Instr)) (by kernel_rfl) (by kernel_rfl) (Rd.of_own (hw.up 0))⟩ (show lk 3 [(2, .pointer (some ad2)), (3, .bool false)] = some (.bool false) by kernel_rfl) ?_
   exact ⟨rfl, hw.only 0⟩
  ·replace H := ite_f H (ff hc)
   have hb36 := hc
   rw [hb36] at hs
   refine wp_skip ?_
   replace hw := hw.up 1
   replace hw := hw.up 1
   exact hJ2 _ _ hs.kx hw H
 refine go_region ?_
 refine go_run hs (by rfl) (x_lds (off := 0) (p := ad12) (cs := (eSapi_Instr.enc (t8 : Sapi_Instr))) (Rd.of_own (hw.up 0)) (one_ok (t8 : Sapi_Instr)) (one_at _ _)) [] ?_; clear hs; intro a hs
 obtain ⟨t21, hx22, H⟩ := bind_some H
 refine go_call hs (by rfl) (isa_May.calls (t8 : Sapi_Instr) t21 _ hx22) ?_
 rintro e wd23 ⟨rfl, hw24⟩
 refine ⟨_, rfl, ?_⟩
 replace hw := hw.call hw24
 clear hs; intro a hs; replace hs := hs.rms [7]
 refine go_pvs 4 [8] [(10, .bool (!t21))] hs ?_; clear hs; intro a hs
 cases hb25 : (!t21)
 ·replace H := ite_t H (nf hb25)
  rw [hb25] at hs
  refine go_run hs (by rfl) (x_lds (off := 0) (p := ad12) (cs := (eSapi_Instr.enc (t8 : Sapi_Instr))) (Rd.of_own (hw.up 0)) (one_ok (t8 : Sapi_Instr)) (one_at _ _)) [] ?_; clear hs; intro a hs
  obtain ⟨t27, hx28, H⟩ := bind_some H
  refine go_call hs (by rfl) (isa_word.calls (t8 : Sapi_Instr) t27 _ hx28) ?_
  rintro e wd29 ⟨rfl, hw30⟩
  refine ⟨_, rfl, ?_⟩
  replace hw := hw.call hw30
  clear hs; intro a hs; replace hs := hs.rms [11]
  refine go_pvs 9 [0, 10, 12] [(15, .bool (t27 != a0))] hs ?_; clear hs; intro a hs
  refine go_end ?_
  replace hw := hw.up 1
  replace hw := hw.up 1
  exact hJ1 (t27 != a0) _ _ hs.kx hw H
 ·replace H := ite_f H (ff (nt hb25))
  rw [hb25] at hs
  refine go_pvs 9 [0, 10] [(15, .bool true)] hs ?_; clear hs; intro a hs
  refine go_end ?_
  replace hw := hw.up 1
  replace hw := hw.up 1
  exact hJ1 true _ _ hs.kx hw H

/-! rivet/alu.Show: function 41 -/
noncomputable def alu_Show (a0 : Sapi_Regs) (a1 : Int) : Option Sapi_Regs := some ({ ({ a0 with N := (a1.fdiv (2 ^ 31)) == 1 } : Sapi_Regs) with Z := a1 == 0 } : Sapi_Regs)
set_option maxRecDepth 100000 in
set_option maxHeartbeats 4000000 in
theorem alu_Show.calls (a0 : Sapi_Regs) (a1 : Int) (r : Sapi_Regs) (w0 : World) (H : alu_Show a0 a1 = some r) :
    Calls Try.prog 41 #[.agg (eSapi_Regs.enc a0).toArray, .int .u32 a1] w0 fun e w' => e = .returned (.agg (eSapi_Regs.enc r).toArray) ∧ St [] w0 w' [] := by
 have hw : St [] w0 w0 [] := St.nil w0
 unfold alu_Show at H
 refine go_fn Try.func41 rfl Try.ntmps41 ?_; intro a hs
 refine go_sk fun K1 hK1 => ?_
 obtain ⟨ad2, wd3, hx4, hw⟩ := x_box1 (P := Try.prog) (elem := 26) (v := (Operand.tmp 0)) (ty := 0) hs hw eSapi_Regs a0 (by kernel_rfl)
 refine go_run hs (by rfl) hx4 [0] ?_; clear hs; intro a hs
 obtain ⟨ad6, wd7, hx8, hw⟩ := x_alloc1 (P := Try.prog) (elem := 26) (ty := 0) (z := .agg (eSapi_Regs.enc (⟨(Vector.replicate 16 0), 0, false, false, false, false⟩ : Sapi_Regs)).toArray) hs hw eSapi_Regs (⟨(Vector.replicate 16 0), 0, false, false, false, false⟩ : Sapi_Regs) (by kernel_rfl) (by kernel_rfl)
 refine go_run hs (by rfl) hx8 [] ?_; clear hs; intro a hs
 refine go_end (hK1 _ _ ?_)
 refine go_sk fun K10 hK10 => ?_
 refine go_pvs 6 [1] [(7, .bool ((a1.fdiv (2 ^ 31)) == 1)), (9, .bool (a1 == 0)), (10, .pointer (some ((ad2 : Addr).add 17)))] hs ?_; clear hs; intro a hs
 replace hw := hw.up 1
 obtain ⟨wd11, hx12, hw⟩ := x_put (P := Try.prog) (ty := 0) (t := 4) (x := (Operand.tmp 10)) (y := (Operand.tmp 7)) (off := 17) (p := (ad2 : Addr).add 17) (v := .bool ((a1.fdiv (2 ^ 31)) == 1)) (vs := [.bool ((a1.fdiv (2 ^ 31)) == 1)]) (i := 0) (e' := (({ a0 with N := (a1.fdiv (2 ^ 31)) == 1 } : Sapi_Regs) : Sapi_Regs)) hs hw rfl (one_ok a0).1 (one_ok a0).2 (by kernel_rfl) (one_off _ _ _) (by kernel_rfl) rfl (by kernel_rfl) (Nat.le_of_ble_eq_true rfl) (by simp [Value.oneCell']) (by kernel_rfl)
 refine go_unit hs (by rfl) hx12 [7, 10] ?_; clear hs; intro a hs
 replace hw : St [] w0 wd11 [own 26 eSapi_Regs (some ad2) 1 [({ a0 with N := (a1.fdiv (2 ^ 31)) == 1 } : Sapi_Regs)], own 26 eSapi_Regs (some ad6) 1 [(⟨(Vector.replicate 16 0), 0, false, false, false, false⟩ : Sapi_Regs)]] := hw
 refine go_pvs 8 [] [(11, .pointer (some ((ad2 : Addr).add 18)))] hs ?_; clear hs; intro a hs
 obtain ⟨wd13, hx14, hw⟩ := x_put (P := Try.prog) (ty := 0) (t := 4) (x := (Operand.tmp 11)) (y := (Operand.tmp 9)) (off := 18) (p := (ad2 : Addr).add 18) (v := .bool (a1 == 0)) (vs := [.bool (a1 == 0)]) (i := 0) (e' := (({ ({ a0 with N := (a1.fdiv (2 ^ 31)) == 1 } : Sapi_Regs) with Z := a1 == 0 } : Sapi_Regs) : Sapi_Regs)) hs hw rfl (one_ok ({ a0 with N := (a1.fdiv (2 ^ 31)) == 1 } : Sapi_Regs)).1 (one_ok ({ a0 with N := (a1.fdiv (2 ^ 31)) == 1 } : Sapi_Regs)).2 (by kernel_rfl) (one_off _ _ _) (by kernel_rfl) rfl (by kernel_rfl) (Nat.le_of_ble_eq_true rfl) (by simp [Value.oneCell']) (by kernel_rfl)
 refine go_unit hs (by rfl) hx14 [9, 11] ?_; clear hs; intro a hs
 replace hw : St [] w0 wd13 [own 26 eSapi_Regs (some ad2) 1 [({ ({ a0 with N := (a1.fdiv (2 ^ 31)) == 1 } : Sapi_Regs) with Z := a1 == 0 } : Sapi_Regs)], own 26 eSapi_Regs (some ad6) 1 [(⟨(Vector.replicate 16 0), 0, false, false, false, false⟩ : Sapi_Regs)]] := hw
 refine go_end (hK10 _ _ ?_)
 refine go_sk fun K15 hK15 => ?_
 refine go_run hs (by rfl) (x_lds (off := 0) (p := ad2) (cs := (eSapi_Regs.enc ({ ({ a0 with N := (a1.fdiv (2 ^ 31)) == 1 } : Sapi_Regs) with Z := a1 == 0 } : Sapi_Regs))) (Rd.of_own (hw.up 0)) (one_ok ({ ({ a0 with N := (a1.fdiv (2 ^ 31)) == 1 } : Sapi_Regs) with Z := a1 == 0 } : Sapi_Regs)) (one_at _ _)) [2] ?_; clear hs; intro a hs
 replace hw := hw.up 1
 obtain ⟨wd16, hx17, hw⟩ := x_put (P := Try.prog) (ty := 0) (t := 26) (x := (Operand.tmp 4)) (y := (Operand.tmp 12)) (off := 0) (p := ad6) (v := .agg (eSapi_Regs.enc ({ ({ a0 with N := (a1.fdiv (2 ^ 31)) == 1 } : Sapi_Regs) with Z := a1 == 0 } : Sapi_Regs)).toArray) (vs := (eSapi_Regs.enc ({ ({ a0 with N := (a1.fdiv (2 ^ 31)) == 1 } : Sapi_Regs) with Z := a1 == 0 } : Sapi_Regs))) (i := 0) (e' := (({ ({ a0 with N := (a1.fdiv (2 ^ 31)) == 1 } : Sapi_Regs) with Z := a1 == 0 } : Sapi_Regs) : Sapi_Regs)) hs hw rfl (one_ok (⟨(Vector.replicate 16 0), 0, false, false, false, false⟩ : Sapi_Regs)).1 (one_ok (⟨(Vector.replicate 16 0), 0, false, false, false, false⟩ : Sapi_Regs)).2 (by kernel_rfl) (one_at _ _) (by kernel_rfl) rfl (by kernel_rfl) (Nat.le_of_ble_eq_true rfl) (eSapi_Regs.one _) (by kernel_rfl)
 refine go_unit hs (by rfl) hx17 [12] ?_; clear hs; intro a hs
 replace hw : St [] w0 wd16 [own 26 eSapi_Regs (some ad6) 1 [({ ({ a0 with N := (a1.fdiv (2 ^ 31)) == 1 } : Sapi_Regs) with Z := a1 == 0 } : Sapi_Regs)], own 26 eSapi_Regs (some ad2) 1 [({ ({ a0 with N := (a1.fdiv (2 ^ 31)) == 1 } : Sapi_Regs) with Z := a1 == 0 } : Sapi_Regs)]] := hw
 refine go_end (hK15 _ _ ?_)
 refine wp_ret ?_
 obtain rfl := Option.some.inj H
 replace hs : Slots a 13 [(4, .pointer (some ad6))] := hs.kx
 refine ret1g (L := [(4, .pointer (some ad6))]) (r1 := .cell 4 26) (v1 := .agg (eSapi_Regs.enc ({ ({ a0 with N := (a1.fdiv (2 ^ 31)) == 1 } : Sapi_Regs) with Z := a1 == 0 } : Sapi_Regs)).toArray) hs (by kernel_rfl) ⟨_, (show lk 4 [(4, .pointer (some ad6))] = some (.pointer (some ad6)) by kernel_rfl), lv_row (E := eSapi_Regs) (x := ({ ({ a0 with N := (a1.fdiv (2 ^ 31)) == 1 } : Sapi_Regs) with Z := a1 == 0 } : Sapi_Regs)) (by kernel_rfl) (by kernel_rfl) (Rd.of_own (hw.up 0))⟩ ?_
 exact ⟨rfl, hw.only 0⟩

/-! rivet/alu.flags: function 39 -/
noncomputable def alu_flags.j1 (v11 : Int) (v22 : Int) : Option (Int × Int ⊕ Int) := some (.inl (v22, w64 (v11 + 1)))
noncomputable def alu_flags.j2 (v24 : Int) : Option Int := some v24
noncomputable def alu_flags.b9 (a0 : Sapi_Regs) (v10 : Int) (v11 : Int) : Option (Int × Int ⊕ Int) := (if v11 < 4 then (if 0 ≤ v11 ∧ v11 < ((4 : Nat) : Int) then (if (vx false (#v[a0.N, a0.Z, a0.C, a0.V] : Vector Bool 4) (v11 : Int).toNat) = true then (if 0 ≤ (w64 (31 - v11)) then alu_flags.j1 v11 (bor .u32 v10 (shl .u32 1 (w64 (31 - v11)))) else none) else alu_flags.j1 v11 v10) else none) else some (.inr v10))
noncomputable def alu_flags (a0 : Sapi_Regs) : Option Int := ((loopO (fun (σ : Int × Int) => alu_flags.b9 a0 σ.1 σ.2) (0, 0)).bind fun e => alu_flags.j2 e)
set_option maxRecDepth 100000 in
set_option maxHeartbeats 4000000 in
theorem alu_flags.calls (a0 : Sapi_Regs) (r : Int) (w0 : World) (H : alu_flags a0 = some r) :
    Calls Try.prog 39 #[.agg (eSapi_Regs.enc a0).toArray] w0 fun e w' => e = .returned (.int .u32 r) ∧ St [] w0 w' [] := by
 have hw : St [] w0 w0 [] := St.nil w0
 unfold alu_flags at H
 refine go_fn Try.func39 rfl Try.ntmps39 ?_; intro a hs
 refine go_sk fun K1 hK1 => ?_
 obtain ⟨ad2, wd3, hx4, hw⟩ := x_box1 (P := Try.prog) (elem := 26) (v := (Operand.tmp 0)) (ty := 0) hs hw eSapi_Regs a0 (by kernel_rfl)
 refine go_run hs (by rfl) hx4 [0] ?_; clear hs; intro a hs
 refine go_pvs 2 [] [] hs ?_; clear hs; intro a hs
 refine go_end (hK1 _ _ ?_)
 refine go_sp [] [(3, .int .u32 0)] hs ?_; clear hs; intro a hs
 refine go_seq_k fun K7 hK7 => ?_
 refine go_sk fun K8 hK8 => ?_
 refine go_pvs 1 [] [(6, .pointer (some ((ad2 : Addr).add 17)))] hs ?_; clear hs; intro a hs
 refine go_run hs (by rfl) (x_ld (off := 17) (p := (ad2 : Addr).add 17) (v := .bool a0.N) (Rd.of_own (hw.up 0)) (one_ok a0) (one_off _ _ _)) [6] ?_; clear hs; intro a hs
 refine go_pvs 3 [] [(8, .pointer (some ((ad2 : Addr).add 18)))] hs ?_; clear hs; intro a hs
 refine go_run hs (by rfl) (x_ld (off := 18) (p := (ad2 : Addr).add 18) (v := .bool a0.Z) (Rd.of_own (hw.up 0)) (one_ok a0) (one_off _ _ _)) [8] ?_; clear hs; intro a hs
 refine go_pvs 5 [] [(10, .pointer (some ((ad2 : Addr).add 19)))] hs ?_; clear hs; intro a hs
 refine go_run hs (by rfl) (x_ld (off := 19) (p := (ad2 : Addr).add 19) (v := .bool a0.C) (Rd.of_own (hw.up 0)) (one_ok a0) (one_off _ _ _)) [10] ?_; clear hs; intro a hs
 refine go_pvs 7 [1] [(12, .pointer (some ((ad2 : Addr).add 20)))] hs ?_; clear hs; intro a hs
 refine go_run hs (by rfl) (x_ld (off := 20) (p := (ad2 : Addr).add 20) (v := .bool a0.V) (Rd.of_own (hw.up 0)) (one_ok a0) (one_off _ _ _)) [12] ?_; clear hs; intro a hs
 refine go_pvs 10 [7, 9, 11, 13] [(14, .agg (eA112.enc (#v[a0.N, a0.Z, a0.C, a0.V] : Vector Bool 4)).toArray), (15, .int .i64 0)] hs ?_; clear hs; intro a hs
 refine go_end (hK8 _ _ ?_)
 refine wp_block ?_
 obtain ⟨e9, hl9, HX9⟩ := bind_some H
 have hJ2 : ∀ (v24 : Int) (a : Act) (w : World), Slots a 27 [(3, .int .u32 v24)] → St [] w0 w [own 26 eSapi_Regs (some ad2) 1 [a0]] → alu_flags.j2 v24 = some r → K7 a w := by
  intro v24 a w hs hw H
  unfold alu_flags.j2 at H
  refine hK7 _ _ ?_
  refine go_sp [3] [(2, .int .u32 v24)] hs ?_; clear hs; intro a hs
  refine wp_ret ?_
  obtain rfl := Option.some.inj H
  refine ret1 (t := 2) (v := .int .u32 v24) hs (by kernel_rfl) (by kernel_rfl) ?_
  exact ⟨rfl, hw.only 0⟩
 clear H
 refine go_loop (σ := Int × Int) (fun σ a w => Slots a 27 [(3, .int .u32 σ.1), (14, .agg (eA112.enc (#v[a0.N, a0.Z, a0.C, a0.V] : Vector Bool 4)).toArray), (15, .int .i64 σ.2)] ∧ St [] w0 w [own 26 eSapi_Regs (some ad2) 1 [a0]]) hl9 (by exact ⟨hs.kx, hw⟩) ?_
 rintro ⟨v10, v11⟩ a w ⟨hs, hw⟩ o H hr9
 replace hs : Slots a 27 [(3, .int .u32 v10), (14, .agg (eA112.enc (#v[a0.N, a0.Z, a0.C, a0.V] : Vector Bool 4)).toArray), (15, .int .i64 v11)] := hs
 replace hw : St [] w0 w [own 26 eSapi_Regs (some ad2) 1 [a0]] := hw
 replace H : alu_flags.b9 a0 v10 v11 = some o := H
 unfold alu_flags.b9 at H
 refine go_sp [] [(16, .bool (decide (v11 < 4)))] hs ?_; clear hs; intro a hs
 refine go_seq_k fun K13 hK13 => ?_
 refine go_cond hs (decide (v11 < 4)) (fun hc => ?_) fun hc => ?_
 ·replace H := ite_t H (of_decide_eq_true hc)
  have hb14 := hc
  rw [hb14] at hs
  refine wp_skip ?_
  refine hK13 _ _ ?_
  refine go_seq_k fun K15 hK15 => ?_
  have hJ1 : ∀ (v22 : Int) (a : Act) (w : World), Slots a 27 [(3, .int .u32 v22), (14, .agg (eA112.enc (#v[a0.N, a0.Z, a0.C, a0.V] : Vector Bool 4)).toArray), (15, .int .i64 v11)] → St [] w0 w [own 26 eSapi_Regs (some ad2) 1 [a0]] → alu_flags.j1 v11 v22 = some o → K15 a w := by
   intro v22 a w hs hw H
   unfold alu_flags.j1 at H
   refine hK15 _ _ ?_
   refine go_plain [] [(15, .int .i64 (w64 (v11 + 1)))] hs ?_; clear hs; intro a hs
   exact round_end (v22, w64 (v11 + 1)) (Option.some.inj H).symm ⟨hs.kx, hw⟩
  refine wp_block ?_
  refine go_sk fun K16 hK16 => ?_
  refine go_pvs 1 [16] [(17, .int .i64 v11)] hs ?_; clear hs; intro a hs
  obtain ⟨hp17, H⟩ := ite_only H
  refine go_run hs (by rfl) (x_aidx (e := 4) (m := 4) (k := .i64) (i := v11) (cs := (eA112.enc (#v[a0.N, a0.Z, a0.C, a0.V] : Vector Bool 4))) (v := .bool (vx false (#v[a0.N, a0.Z, a0.C, a0.V] : Vector Bool 4) (v11 : Int).toNat)) (by kernel_rfl) (by kernel_rfl) (by kernel_rfl) (by kernel_rfl) (by kernel_rfl) hp17.1 hp17.2 (vget (cs := (eA112.enc (#v[a0.N, a0.Z, a0.C, a0.V] : Vector Bool 4))) (pre := []) (post := []) (f := (fun j : Nat => .bool (vx false (#v[a0.N, a0.Z, a0.C, a0.V] : Vector Bool 4) j))) (n := 4) (o := 0) (i := (v11 : Int).toNat) (by kernel_rfl) rfl (by have := hp17; omega))) [] ?_; clear hs; intro a hs
  refine go_pvs 4 [17, 18] [(4, .int .i64 v11), (5, .bool (vx false (#v[a0.N, a0.Z, a0.C, a0.V] : Vector Bool 4) (v11 : Int).toNat))] hs ?_; clear hs; intro a hs
  refine go_end (hK16 _ _ ?_)
  refine go_sp [5] [(19, .bool (vx false (#v[a0.N, a0.Z, a0.C, a0.V] : Vector Bool 4) (v11 : Int).toNat))] hs ?_; clear hs; intro a hs
  refine go_cond hs (vx false (#v[a0.N, a0.Z, a0.C, a0.V] : Vector Bool 4) (v11 : Int).toNat) (fun hc => ?_) fun hc => ?_
  ·replace H := ite_t H hc
   have hb19 := hc
   rw [hb19] at hs
   refine go_region ?_
   refine go_pvs 3 [3, 4, 19] [(20, .int .u32 v10), (22, .int .i64 (w64 (31 - v11)))] hs ?_; clear hs; intro a hs
   obtain ⟨hp20, H⟩ := ite_only H
   refine go_run hs (by rfl) (x_shl (k := .u32) (k' := .i64) (m := 1) (n := w64 (31 - v11)) (by kernel_rfl) (by kernel_rfl) hp20) [22] ?_; clear hs; intro a hs
   refine go_pvs 6 [20, 23] [(3, .int .u32 (bor .u32 v10 (shl .u32 1 (w64 (31 - v11)))))] hs ?_; clear hs; intro a hs
   refine go_end ?_
   refine ib_norm ?_
   exact hJ1 (bor .u32 v10 (shl .u32 1 (w64 (31 - v11)))) _ _ hs.kx hw H
  ·replace H := ite_f H (ff hc)
   have hb21 := hc
   rw [hb21] at hs
   refine wp_skip ?_
   refine ib_norm ?_
   exact hJ1 v10 _ _ hs.kx hw H
 ·replace H := ite_f H (of_decide_eq_false hc)
  have hb23 := hc
  rw [hb23] at hs
  refine wp_exit ?_
  refine th_exit ?_
  refine th_exit ?_
  refine in_block ?_
  rw [← hr9 _ (Option.some.inj H).symm] at HX9
  exact hJ2 v10 _ _ hs.kx hw HX9

/-! rivet/alu.Taken: function 25 -/
noncomputable def alu_Taken.j3 (v22 : Bool) : Option Bool := some v22
noncomputable def alu_Taken.j2 (a0 : Sapi_Regs) (a1 : Int) : Option Bool := (if a0.C = true then (if (a0.N != a0.V) = true then (if 0 ≤ (band .i64 a1 7) ∧ (band .i64 a1 7) < ((8 : Nat) : Int) then alu_Taken.j3 ((vx false (#v[a0.N, a0.Z, true, a0.V, true, true, true, true] : Vector Bool 8) (band .i64 a1 7 : Int).toNat) != (decide (a1 > 7))) else none) else (if 0 ≤ (band .i64 a1 7) ∧ (band .i64 a1 7) < ((8 : Nat) : Int) then alu_Taken.j3 ((vx false (#v[a0.N, a0.Z, true, a0.V, true, false, a0.Z, true] : Vector Bool 8) (band .i64 a1 7 : Int).toNat) != (decide (a1 > 7))) else none)) else (if (a0.N != a0.V) = true then (if 0 ≤ (band .i64 a1 7) ∧ (band .i64 a1 7) < ((8 : Nat) : Int) then alu_Taken.j3 ((vx false (#v[a0.N, a0.Z, false, a0.V, a0.Z, true, true, true] : Vector Bool 8) (band .i64 a1 7 : Int).toNat) != (decide (a1 > 7))) else none) else (if 0 ≤ (band .i64 a1 7) ∧ (band .i64 a1 7) < ((8 : Nat) : Int) then alu_Taken.j3 ((vx false (#v[a0.N, a0.Z, false, a0.V, a0.Z, false, a0.Z, true] : Vector Bool 8) (band .i64 a1 7 : Int).toNat) != (decide (a1 > 7))) else none)))
noncomputable def alu_Taken.j1 (a0 : Sapi_Regs) (a1 : Int) (v9 : Bool) : Option Bool := (if v9 = true then some false else alu_Taken.j2 a0 a1)
noncomputable def alu_Taken (a0 : Sapi_Regs) (a1 : Int) : Option Bool := (if a1 < 0 then alu_Taken.j1 a0 a1 true else alu_Taken.j1 a0 a1 (decide (a1 > 15)))
set_option maxRecDepth 100000 in
set_option maxHeartbeats 4000000 in
theorem alu_Taken.calls (a0 : Sapi_Regs) (a1 : Int) (r : Bool) (w0 : World) (H : alu_Taken a0 a1 = some r) :
    Calls Try.prog 25 #[.agg (eSapi_Regs.enc a0).toArray, .int .i64 a1] w0 fun e w' => e = .returned (.bool r) ∧ St [] w0 w' [] := by
 have hw : St [] w0 w0 [] := St.nil w0
 unfold alu_Taken at H
 refine go_fn Try.func25 rfl Try.ntmps25 ?_; intro a hs
 refine go_sk fun K1 hK1 => ?_
 obtain ⟨ad2, wd3, hx4, hw⟩ := x_box1 (P := Try.prog) (elem := 26) (v := (Operand.tmp 0)) (ty := 0) hs hw eSapi_Regs a0 (by kernel_rfl)
 refine go_run hs (by rfl) hx4 [0] ?_; clear hs; intro a hs
 refine go_pvs 2 [] [] hs ?_; clear hs; intro a hs
 refine go_end (hK1 _ _ ?_)
 refine go_seq_k fun K6 hK6 => ?_
 have hJ2 : ∀ (a : Act) (w : World), Slots a 44 [(1, .int .i64 a1), (2, .pointer (some ad2))] → St [] w0 w [own 26 eSapi_Regs (some ad2) 1 [a0]] → alu_Taken.j2 a0 a1 = some r → K6 a w := by
  intro a w hs hw H
  unfold alu_Taken.j2 at H
  refine hK6 _ _ ?_
  refine go_sk fun K13 hK13 => ?_
  refine go_pvs 1 [] [(12, .pointer (some ((ad2 : Addr).add 17)))] hs ?_; clear hs; intro a hs
  refine go_run hs (by rfl) (x_ld (off := 17) (p := (ad2 : Addr).add 17) (v := .bool a0.N) (Rd.of_own (hw.up 0)) (one_ok a0) (one_off _ _ _)) [12] ?_; clear hs; intro a hs
  refine go_pvs 3 [] [(14, .pointer (some ((ad2 : Addr).add 20)))] hs ?_; clear hs; intro a hs
  refine go_run hs (by rfl) (x_ld (off := 20) (p := (ad2 : Addr).add 20) (v := .bool a0.V) (Rd.of_own (hw.up 0)) (one_ok a0) (one_off _ _ _)) [14] ?_; clear hs; intro a hs
  refine go_pvs 6 [13, 15] [(5, .bool (a0.N != a0.V))] hs ?_; clear hs; intro a hs
  refine go_end (hK13 _ _ ?_)
  refine go_seq_k fun K14 hK14 => ?_
  have hJ3 : ∀ (v22 : Bool) (a : Act) (w : World), Slots a 44 [(4, .bool v22)] → St [] w0 w [own 26 eSapi_Regs (some ad2) 1 [a0]] → alu_Taken.j3 v22 = some r → K14 a w := by
   intro v22 a w hs hw H
   unfold alu_Taken.j3 at H
   refine hK14 _ _ ?_
   refine wp_ret ?_
   obtain rfl := Option.some.inj H
   refine ret1 (t := 4) (v := .bool v22) hs (by kernel_rfl) (by kernel_rfl) ?_
   exact ⟨rfl, hw.only 0⟩
  refine go_region ?_
  refine go_pvs 1 [] [(17, .pointer (some ((ad2 : Addr).add 17)))] hs ?_; clear hs; intro a hs
  refine go_run hs (by rfl) (x_ld (off := 17) (p := (ad2 : Addr).add 17) (v := .bool a0.N) (Rd.of_own (hw.up 0)) (one_ok a0) (one_off _ _ _)) [17] ?_; clear hs; intro a hs
  refine go_pvs 3 [] [(19, .pointer (some ((ad2 : Addr).add 18)))] hs ?_; clear hs; intro a hs
  refine go_run hs (by rfl) (x_ld (off := 18) (p := (ad2 : Addr).add 18) (v := .bool a0.Z) (Rd.of_own (hw.up 0)) (one_ok a0) (one_off _ _ _)) [19] ?_; clear hs; intro a hs
  refine go_pvs 5 [] [(21, .pointer (some ((ad2 : Addr).add 19)))] hs ?_; clear hs; intro a hs
  refine go_run hs (by rfl) (x_ld (off := 19) (p := (ad2 : Addr).add 19) (v := .bool a0.C) (Rd.of_own (hw.up 0)) (one_ok a0) (one_off _ _ _)) [21] ?_; clear hs; intro a hs
  refine go_pvs 7 [] [(23, .pointer (some ((ad2 : Addr).add 20)))] hs ?_; clear hs; intro a hs
  refine go_run hs (by rfl) (x_ld (off := 20) (p := (ad2 : Addr).add 20) (v := .bool a0.V) (Rd.of_own (hw.up 0)) (one_ok a0) (one_off _ _ _)) [23] ?_; clear hs; intro a hs
  refine go_pvs 9 [] [(25, .pointer (some ((ad2 : Addr).add 19)))] hs ?_; clear hs; intro a hs
  refine go_run hs (by rfl) (x_ld (off := 19) (p := (ad2 : Addr).add 19) (v := .bool a0.C) (Rd.of_own (hw.up 0)) (one_ok a0) (one_off _ _ _)) [25] ?_; clear hs; intro a hs
  refine go_pvs 11 [26] [(27, .bool a0.C)] hs ?_; clear hs; intro a hs
  cases hb15 : a0.C
  ·replace H := ite_f H (ff hb15)
   rw [hb15] at hs
   refine go_pvs 12 [] [(28, .pointer (some ((ad2 : Addr).add 18)))] hs ?_; clear hs; intro a hs
   refine go_run hs (by rfl) (x_ld (off := 18) (p := (ad2 : Addr).add 18) (v := .bool a0.Z) (Rd.of_own (hw.up 0)) (one_ok a0) (one_off _ _ _)) [28] ?_; clear hs; intro a hs
   refine go_pvs 17 [5, 27, 29] [(30, .bool a0.Z), (31, .bool (a0.N != a0.V)), (33, .bool (a0.N != a0.V))] hs ?_; clear hs; intro a hs
   cases hb16 : (a0.N != a0.V)
   ·replace H := ite_f H (ff hb16)
    rw [hb16] at hs
    refine go_pvs 18 [2] [(34, .pointer (some ((ad2 : Addr).add 18)))] hs ?_; clear hs; intro a hs
    refine go_run hs (by rfl) (x_ld (off := 18) (p := (ad2 : Addr).add 18) (v := .bool a0.Z) (Rd.of_own (hw.up 0)) (one_ok a0) (one_off _ _ _)) [34] ?_; clear hs; intro a hs
    refine go_pvs 23 [18, 20, 22, 24, 30, 31, 33, 35] [(37, .agg (eA94.enc (#v[a0.N, a0.Z, false, a0.V, a0.Z, false, a0.Z, true] : Vector Bool 8)).toArray), (39, .int .i64 (band .i64 a1 7))] hs ?_; clear hs; intro a hs
    obtain ⟨hp17, H⟩ := ite_only H
    refine go_run hs (by rfl) (x_aidx (e := 4) (m := 8) (k := .i64) (i := (band .i64 a1 7)) (cs := (eA94.enc (#v[a0.N, a0.Z, false, a0.V, a0.Z, false, a0.Z, true] : Vector Bool 8))) (v := .bool (vx false (#v[a0.N, a0.Z, false, a0.V, a0.Z, false, a0.Z, true] : Vector Bool 8) (band .i64 a1 7 : Int).toNat)) (by kernel_rfl) (by kernel_rfl) (by kernel_rfl) (by kernel_rfl) (by kernel_rfl) hp17.1 hp17.2 (vget (cs := (eA94.enc (#v[a0.N, a0.Z, false, a0.V, a0.Z, false, a0.Z, true] : Vector Bool 8))) (pre := []) (post := []) (f := (fun j : Nat => .bool (vx false (#v[a0.N, a0.Z, false, a0.V, a0.Z, false, a0.Z, true] : Vector Bool 8) j))) (n := 8) (o := 0) (i := (band .i64 a1 7 : Int).toNat) (by kernel_rfl) rfl (by have := hp17; omega))) [37, 39] ?_; clear hs; intro a hs
    refine go_pvs 28 [1, 40] [(4, .bool ((vx false (#v[a0.N, a0.Z, false, a0.V, a0.Z, false, a0.Z, true] : Vector Bool 8) (band .i64 a1 7 : Int).toNat) != (decide (a1 > 7))))] hs ?_; clear hs; intro a hs
    refine go_end ?_
    exact hJ3 ((vx false (#v[a0.N, a0.Z, false, a0.V, a0.Z, false, a0.Z, true] : Vector Bool 8) (band .i64 a1 7 : Int).toNat) != (decide (a1 > 7))) _ _ hs.kx hw H
   ·replace H := ite_t H hb16
    rw [hb16] at hs
    refine go_pvs 23 [2, 18, 20, 22, 24, 30, 31, 33] [(37, .agg (eA94.enc (#v[a0.N, a0.Z, false, a0.V, a0.Z, true, true, true] : Vector Bool 8)).toArray), (39, .int .i64 (band .i64 a1 7))] hs ?_; clear hs; intro a hs
    obtain ⟨hp18, H⟩ := ite_only H
    refine go_run hs (by rfl) (x_aidx (e := 4) (m := 8) (k := .i64) (i := (band .i64 a1 7)) (cs := (eA94.enc (#v[a0.N, a0.Z, false, a0.V, a0.Z, true, true, true] : Vector Bool 8))) (v := .bool (vx false (#v[a0.N, a0.Z, false, a0.V, a0.Z, true, true, true] : Vector Bool 8) (band .i64 a1 7 : Int).toNat)) (by kernel_rfl) (by kernel_rfl) (by kernel_rfl) (by kernel_rfl) (by kernel_rfl) hp18.1 hp18.2 (vget (cs := (eA94.enc (#v[a0.N, a0.Z, false, a0.V, a0.Z, true, true, true] : Vector Bool 8))) (pre := []) (post := []) (f := (fun j : Nat => .bool (vx false (#v[a0.N, a0.Z, false, a0.V, a0.Z, true, true, true] : Vector Bool 8) j))) (n := 8) (o := 0) (i := (band .i64 a1 7 : Int).toNat) (by kernel_rfl) rfl (by have := hp18; omega))) [37, 39] ?_; clear hs; intro a hs
    refine go_pvs 28 [1, 40] [(4, .bool ((vx false (#v[a0.N, a0.Z, false, a0.V, a0.Z, true, true, true] : Vector Bool 8) (band .i64 a1 7 : Int).toNat) != (decide (a1 > 7))))] hs ?_; clear hs; intro a hs
    refine go_end ?_
    exact hJ3 ((vx false (#v[a0.N, a0.Z, false, a0.V, a0.Z, true, true, true] : Vector Bool 8) (band .i64 a1 7 : Int).toNat) != (decide (a1 > 7))) _ _ hs.kx hw H
  ·replace H := ite_t H hb15
   rw [hb15] at hs
   refine go_pvs 17 [5, 27] [(30, .bool true), (31, .bool (a0.N != a0.V)), (33, .bool (a0.N != a0.V))] hs ?_; clear hs; intro a hs
   cases hb19 : (a0.N != a0.V)
   ·replace H := ite_f H (ff hb19)
    rw [hb19] at hs
    refine go_pvs 18 [2] [(34, .pointer (some ((ad2 : Addr).add 18)))] hs ?_; clear hs; intro a hs
    refine go_run hs (by rfl) (x_ld (off := 18) (p := (ad2 : Addr).add 18) (v := .bool a0.Z) (Rd.of_own (hw.up 0)) (one_ok a0) (one_off _ _ _)) [34] ?_; clear hs; intro a hs
    refine go_pvs 23 [18, 20, 22, 24, 30, 31, 33, 35] [(37, .agg (eA94.enc (#v[a0.N, a0.Z, true, a0.V, true, false, a0.Z, true] : Vector Bool 8)).toArray), (39, .int .i64 (band .i64 a1 7))] hs ?_; clear hs; intro a hs
    obtain ⟨hp20, H⟩ := ite_only H
    refine go_run hs (by rfl) (x_aidx (e := 4) (m := 8) (k := .i64) (i := (band .i64 a1 7)) (cs := (eA94.enc (#v[a0.N, a0.Z, true, a0.V, true, false, a0.Z, true] : Vector Bool 8))) (v := .bool (vx false (#v[a0.N, a0.Z, true, a0.V, true, false, a0.Z, true] : Vector Bool 8) (band .i64 a1 7 : Int).toNat)) (by kernel_rfl) (by kernel_rfl) (by kernel_rfl) (by kernel_rfl) (by kernel_rfl) hp20.1 hp20.2 (vget (cs := (eA94.enc (#v[a0.N, a0.Z, true, a0.V, true, false, a0.Z, true] : Vector Bool 8))) (pre := []) (post := []) (f := (fun j : Nat => .bool (vx false (#v[a0.N, a0.Z, true, a0.V, true, false, a0.Z, true] : Vector Bool 8) j))) (n := 8) (o := 0) (i := (band .i64 a1 7 : Int).toNat) (by kernel_rfl) rfl (by have := hp20; omega))) [37, 39] ?_; clear hs; intro a hs
    refine go_pvs 28 [1, 40] [(4, .bool ((vx false (#v[a0.N, a0.Z, true, a0.V, true, false, a0.Z, true] : Vector Bool 8) (band .i64 a1 7 : Int).toNat) != (decide (a1 > 7))))] hs ?_; clear hs; intro a hs
    refine go_end ?_
    exact hJ3 ((vx false (#v[a0.N, a0.Z, true, a0.V, true, false, a0.Z, true] : Vector Bool 8) (band .i64 a1 7 : Int).toNat) != (decide (a1 > 7))) _ _ hs.kx hw H
   ·replace H := ite_t H hb19
    rw [hb19] at hs
    refine go_pvs 23 [2, 18, 20, 22, 24, 30, 31, 33] [(37, .agg (eA94.enc (#v[a0.N, a0.Z, true, a0.V, true, true, true, true] : Vector Bool 8)).toArray), (39, .int .i64 (band .i64 a1 7))] hs ?_; clear hs; intro a hs
    obtain ⟨hp21, H⟩ := ite_only H
    refine go_run hs (by rfl) (x_aidx (e := 4) (m := 8) (k := .i64) (i := (band .i64 a1 7)) (cs := (eA94.enc (#v[a0.N, a0.Z, true, a0.V, true, true, true, true] : Vector Bool 8))) (v := .bool (vx false (#v[a0.N, a0.Z, true, a0.V, true, true, true, true] : Vector Bool 8) (band .i64 a1 7 : Int).toNat)) (by kernel_rfl) (by kernel_rfl) (by kernel_rfl) (by kernel_rfl) (by kernel_rfl) hp21.1 hp21.2 (vget (cs := (eA94.enc (#v[a0.N, a0.Z, true, a0.V, true, true, true, true] : Vector Bool 8))) (pre := []) (post := []) (f := (fun j : Nat => .bool (vx false (#v[a0.N, a0.Z, true, a0.V, true, true, true, true] : Vector Bool 8) j))) (n := 8) (o := 0) (i := (band .i64 a1 7 : Int).toNat) (by kernel_rfl) rfl (by have := hp21; omega))) [37, 39] ?_; clear hs; intro a hs
    refine go_pvs 28 [1, 40] [(4, .bool ((vx false (#v[a0.N, a0.Z, true, a0.V, true, true, true, true] : Vector Bool 8) (band .i64 a1 7 : Int).toNat) != (decide (a1 > 7))))] hs ?_; clear hs; intro a hs
    refine go_end ?_
    exact hJ3 ((vx false (#v[a0.N, a0.Z, true, a0.V, true, true, true, true] : Vector Bool 8) (band .i64 a1 7 : Int).toNat) != (decide (a1 > 7))) _ _ hs.kx hw H
 refine go_seq_k fun K7 hK7 => ?_
 have hJ1 : ∀ (v9 : Bool) (a : Act) (w : World), Slots a 44 [(1, .int .i64 a1), (2, .pointer (some ad2)), (11, .bool v9)] → St [] w0 w [own 26 eSapi_Regs (some ad2) 1 [a0]] → alu_Taken.j1 a0 a1 v9 = some r → K7 a w := by
  intro v9 a w hs hw H
  unfold alu_Taken.j1 at H
  refine hK7 _ _ ?_
  refine go_cond hs v9 (fun hc => ?_) fun hc => ?_
  ·replace H := ite_t H hc
   have hb10 := hc
   rw [hb10] at hs
   refine go_sp [1, 2, 11] [(4, .bool false)] hs ?_; clear hs; intro a hs
   refine wp_ret ?_
   refine th_ret ?_
   obtain rfl := Option.some.inj H
   refine ret1 (t := 4) (v := .bool false) hs (by kernel_rfl) (by kernel_rfl) ?_
   exact ⟨rfl, hw.only 0⟩
  ·replace H := ite_f H (ff hc)
   have hb12 := hc
   rw [hb12] at hs
   refine wp_skip ?_
   exact hJ2 _ _ hs.kx hw H
 refine go_region ?_
 refine go_pvs 3 [] [(8, .bool (decide (a1 < 0)))] hs ?_; clear hs; intro a hs
 cases hb8 : (decide (a1 < 0))
 ·replace H := ite_f H (of_decide_eq_false hb8)
  rw [hb8] at hs
  refine go_pvs 6 [8] [(11, .bool (decide (a1 > 15)))] hs ?_; clear hs; intro a hs
  refine go_end ?_
  exact hJ1 (decide (a1 > 15)) _ _ hs.kx hw H
 ·replace H := ite_t H (of_decide_eq_true hb8)
  rw [hb8] at hs
  refine go_pvs 6 [8] [(11, .bool true)] hs ?_; clear hs; intro a hs
  refine go_end ?_
  exact hJ1 true _ _ hs.kx hw H

end Go.Proofs.Ytheccnbamcdpmaa.T06
