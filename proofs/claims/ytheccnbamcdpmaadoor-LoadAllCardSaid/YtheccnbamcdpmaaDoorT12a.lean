/- YtheccnbamcdpmaaDoorT12: Go functions told as plain ones, each with a proof that its call comes to what is told, part 1. Condition of each: that the plain function comes to a value. -/
import Derived.Test.YtheccnbamcdpmaaDoorEP
import Derived.Test.YtheccnbamcdpmaaDoorProg
namespace Go.Proofs.YtheccnbamcdpmaaDoor.T12
open Go Go.RowKit Go.Proofs.YtheccnbamcdpmaaDoor.E
set_option linter.unusedVariables false
set_option linter.unusedSimpArgs false
def eA103 : Enc (Vector Bool 256) := ⟨256, fun x => x.toList.map Value.bool, (Vector.replicate 256 false), by decide, fun x => by simp, fun x u hu => by obtain ⟨_, _, rfl⟩ := List.mem_map.1 hu; rfl⟩
theorem eA103_is (x : Vector Bool 256) : eA103.enc x = x.toList.map Value.bool := rfl
structure Sapi_Sym where
  Name : ByteArray
  At : Int
def eSapi_Sym : Enc Sapi_Sym := ⟨2, fun x => [.string x.Name, .int .i64 x.At], (⟨(⟨#[]⟩ : ByteArray), 0⟩ : Sapi_Sym), by decide, fun _ => rfl, fun x u hu => by simp at hu; rcases hu with rfl | rfl <;> rfl⟩
structure Sapi_Obj where
  Words : List Int
  Sites : List Int
  Syms : List Sapi_Sym
structure Smemory_Memory where
  w : Vector Int 4096
  n : Int
def eSmemory_Memory : Enc Smemory_Memory := ⟨4097, fun x => (x.w.toList.map (Value.int .u32)) ++ [.int .i64 x.n], (⟨(Vector.replicate 4096 0), 0⟩ : Smemory_Memory), by decide, fun x => by simp, fun x u hu => by simp at hu; rcases hu with ⟨_, _, rfl⟩ | rfl <;> rfl⟩
theorem eSmemory_Memory_is (x : Smemory_Memory) : eSmemory_Memory.enc x = (x.w.toList.map (Value.int .u32)) ++ [.int .i64 x.n] := rfl
structure Srivetref05_Memory where
  B : List Int
structure Sapi_Regs where
  R : Vector Int 16
  H : Int
  N : Bool
  Z : Bool
  C : Bool
  V : Bool
def eSapi_Regs : Enc Sapi_Regs := ⟨21, fun x => [.int .u32 (vx 0 x.R 0), .int .u32 (vx 0 x.R 1), .int .u32 (vx 0 x.R 2), .int .u32 (vx 0 x.R 3), .int .u32 (vx 0 x.R 4), .int .u32 (vx 0 x.R 5), .int .u32 (vx 0 x.R 6), .int .u32 (vx 0 x.R 7), .int .u32 (vx 0 x.R 8), .int .u32 (vx 0 x.R 9), .int .u32 (vx 0 x.R 10), .int .u32 (vx 0 x.R 11), .int .u32 (vx 0 x.R 12), .int .u32 (vx 0 x.R 13), .int .u32 (vx 0 x.R 14), .int .u32 (vx 0 x.R 15), .int .u32 x.H, .bool x.N, .bool x.Z, .bool x.C, .bool x.V], (⟨(Vector.replicate 16 0), 0, false, false, false, false⟩ : Sapi_Regs), by decide, fun _ => rfl, fun x u hu => by simp at hu; rcases hu with rfl | rfl | rfl | rfl | rfl | rfl | rfl | rfl | rfl | rfl | rfl | rfl | rfl | rfl | rfl | rfl | rfl | rfl | rfl | rfl | rfl <;> rfl⟩
structure Smachine_Machine where
  Memory : Option Smemory_Memory
  s : Sapi_Regs
  pc : Int
  status : Int
  in' : List Int
  out : List Int
structure Srivetref06_Machine where
  M : Option Srivetref05_Memory
  S : Sapi_Regs
  PC : Int
  Status : Int
  In : List Int
  Out : List Int
def okSapi_Sym (x : Sapi_Sym) : Prop := x.Name.size ≤ 140737488351232 ∧ In .i64 x.At
def okSapi_Obj (x : Sapi_Obj) : Prop := (∀ n ∈ x.Words, In .u32 n) ∧ x.Words.length * 4 ≤ 140737488351232 ∧ (∀ n ∈ x.Sites, In .i64 n) ∧ x.Sites.length * 8 ≤ 140737488351232 ∧ (∀ n ∈ x.Syms, okSapi_Sym n) ∧ x.Syms.length * 24 ≤ 140737488351232
def okSmemory_Memory (x : Smemory_Memory) : Prop := (∀ j, j < 4096 → In .u32 (vx 0 x.w j)) ∧ In .i64 x.n
def okSrivetref05_Memory (x : Srivetref05_Memory) : Prop := (∀ n ∈ x.B, In .u8 n) ∧ x.B.length * 1 ≤ 140737488351232
def okSapi_Regs (x : Sapi_Regs) : Prop := (∀ j, j < 16 → In .u32 (vx 0 x.R j)) ∧ In .u32 x.H
def mSapi_Obj (A : Option Addr) (x : Sapi_Obj) : Asn := fun L => ∃ g A1 c1 A2 c2 A3 c3, A = some ⟨g, 0, none⟩ ∧ Cov [box g 32 [.slice A1 x.Words.length c1, .slice A2 x.Sites.length c2, .slice A3 x.Syms.length c3], own 38 (eI .u32) A1 c1 x.Words, own 3 (eI .i64) A2 c2 x.Sites, own 72 eSapi_Sym A3 c3 x.Syms] L
theorem mSapi_Obj.addr {G : List Nat} {w0 w : World} {As : List Asn} {A : Option Addr} {x : Sapi_Obj} (h : St G w0 w (mSapi_Obj A x :: As)) : ∃ g, A = some ⟨g, 0, none⟩ ∧ St G w0 w (mSapi_Obj (some ⟨g, 0, none⟩) x :: As) := by
  have h' := h
  obtain ⟨L, ⟨L1, L2, rfl, ⟨g, A1, c1, A2, c2, A3, c3, rfl, hc⟩, hr⟩, hs⟩ := h
  exact ⟨g, rfl, h'⟩
theorem mSapi_Obj.open {G : List Nat} {w0 w : World} {As : List Asn} {A : Option Addr} {x : Sapi_Obj} (h : St G w0 w (mSapi_Obj A x :: As)) : ∃ g A1 c1 A2 c2 A3 c3, A = some ⟨g, 0, none⟩ ∧ St G w0 w ([box g 32 [.slice A1 x.Words.length c1, .slice A2 x.Sites.length c2, .slice A3 x.Syms.length c3], own 38 (eI .u32) A1 c1 x.Words, own 3 (eI .i64) A2 c2 x.Sites, own 72 eSapi_Sym A3 c3 x.Syms] ++ As) := by
  obtain ⟨L, ⟨L1, L2, rfl, ⟨g, A1, c1, A2, c2, A3, c3, rfl, hc⟩, hr⟩, hs⟩ := h
  exact ⟨g, A1, c1, A2, c2, A3, c3, rfl, _, Cov.join hr hc, hs⟩
theorem mSapi_Obj.open1 {G : List Nat} {w0 w : World} {As : List Asn} {g : Nat} {x : Sapi_Obj} (h : St G w0 w (mSapi_Obj (some ⟨g, 0, none⟩) x :: As)) : ∃ A1 c1 A2 c2 A3 c3, St G w0 w ([box g 32 [.slice A1 x.Words.length c1, .slice A2 x.Sites.length c2, .slice A3 x.Syms.length c3], own 38 (eI .u32) A1 c1 x.Words, own 3 (eI .i64) A2 c2 x.Sites, own 72 eSapi_Sym A3 c3 x.Syms] ++ As) := by
  obtain ⟨g', A1, c1, A2, c2, A3, c3, hg, h⟩ := mSapi_Obj.open h
  cases hg
  exact ⟨A1, c1, A2, c2, A3, c3, h⟩
theorem mSapi_Obj.close {G : List Nat} {w0 w : World} {As : List Asn} {g : Nat} {A1 : Option Addr} {c1 : Nat} {A2 : Option Addr} {c2 : Nat} {A3 : Option Addr} {c3 : Nat} {x : Sapi_Obj} (h : St G w0 w ([box g 32 [.slice A1 x.Words.length c1, .slice A2 x.Sites.length c2, .slice A3 x.Syms.length c3], own 38 (eI .u32) A1 c1 x.Words, own 3 (eI .i64) A2 c2 x.Sites, own 72 eSapi_Sym A3 c3 x.Syms] ++ As)) : St G w0 w (mSapi_Obj (some ⟨g, 0, none⟩) x :: As) := by
  obtain ⟨L, hc, hs⟩ := h
  obtain ⟨L1, L2, rfl, h1, h2⟩ := Cov.split (Gs := [box g 32 [.slice A1 x.Words.length c1, .slice A2 x.Sites.length c2, .slice A3 x.Syms.length c3], own 38 (eI .u32) A1 c1 x.Words, own 3 (eI .i64) A2 c2 x.Sites, own 72 eSapi_Sym A3 c3 x.Syms]) hc
  exact ⟨_, ⟨L1, L2, rfl, ⟨g, A1, c1, A2, c2, A3, c3, rfl, h1⟩, h2⟩, hs⟩
def mSmemory_Memory (A : Option Addr) (x : Smemory_Memory) : Asn := own 78 eSmemory_Memory A 1 [x]
def mSrivetref05_Memory (A : Option Addr) (x : Srivetref05_Memory) : Asn := fun L => ∃ g A1 c1, A = some ⟨g, 0, none⟩ ∧ Cov [box g 80 [.slice A1 x.B.length c1], own 5 (eI .u8) A1 c1 x.B] L
theorem mSrivetref05_Memory.addr {G : List Nat} {w0 w : World} {As : List Asn} {A : Option Addr} {x : Srivetref05_Memory} (h : St G w0 w (mSrivetref05_Memory A x :: As)) : ∃ g, A = some ⟨g, 0, none⟩ ∧ St G w0 w (mSrivetref05_Memory (some ⟨g, 0, none⟩) x :: As) := by
  have h' := h
  obtain ⟨L, ⟨L1, L2, rfl, ⟨g, A1, c1, rfl, hc⟩, hr⟩, hs⟩ := h
  exact ⟨g, rfl, h'⟩
theorem mSrivetref05_Memory.open {G : List Nat} {w0 w : World} {As : List Asn} {A : Option Addr} {x : Srivetref05_Memory} (h : St G w0 w (mSrivetref05_Memory A x :: As)) : ∃ g A1 c1, A = some ⟨g, 0, none⟩ ∧ St G w0 w ([box g 80 [.slice A1 x.B.length c1], own 5 (eI .u8) A1 c1 x.B] ++ As) := by
  obtain ⟨L, ⟨L1, L2, rfl, ⟨g, A1, c1, rfl, hc⟩, hr⟩, hs⟩ := h
  exact ⟨g, A1, c1, rfl, _, Cov.join hr hc, hs⟩
theorem mSrivetref05_Memory.open1 {G : List Nat} {w0 w : World} {As : List Asn} {g : Nat} {x : Srivetref05_Memory} (h : St G w0 w (mSrivetref05_Memory (some ⟨g, 0, none⟩) x :: As)) : ∃ A1 c1, St G w0 w ([box g 80 [.slice A1 x.B.length c1], own 5 (eI .u8) A1 c1 x.B] ++ As) := by
  obtain ⟨g', A1, c1, hg, h⟩ := mSrivetref05_Memory.open h
  cases hg
  exact ⟨A1, c1, h⟩
theorem mSrivetref05_Memory.close {G : List Nat} {w0 w : World} {As : List Asn} {g : Nat} {A1 : Option Addr} {c1 : Nat} {x : Srivetref05_Memory} (h : St G w0 w ([box g 80 [.slice A1 x.B.length c1], own 5 (eI .u8) A1 c1 x.B] ++ As)) : St G w0 w (mSrivetref05_Memory (some ⟨g, 0, none⟩) x :: As) := by
  obtain ⟨L, hc, hs⟩ := h
  obtain ⟨L1, L2, rfl, h1, h2⟩ := Cov.split (Gs := [box g 80 [.slice A1 x.B.length c1], own 5 (eI .u8) A1 c1 x.B]) hc
  exact ⟨_, ⟨L1, L2, rfl, ⟨g, A1, c1, rfl, h1⟩, h2⟩, hs⟩
def mSmachine_Machine (A : Option Addr) (x : Smachine_Machine) : Asn := fun L => ∃ g A1 A2 c2 A3 c3, A = some ⟨g, 0, none⟩ ∧ Cov [box g 55 ([.pointer A1] ++ eSapi_Regs.enc x.s ++ [.int .u32 x.pc, .int .i64 x.status, .slice A2 x.in'.length c2, .slice A3 x.out.length c3]), oM mSmemory_Memory A1 x.Memory, rdo (eI .u32) A2 c2 x.in', own 38 (eI .u32) A3 c3 x.out] L
theorem mSmachine_Machine.addr {G : List Nat} {w0 w : World} {As : List Asn} {A : Option Addr} {x : Smachine_Machine} (h : St G w0 w (mSmachine_Machine A x :: As)) : ∃ g, A = some ⟨g, 0, none⟩ ∧ St G w0 w (mSmachine_Machine (some ⟨g, 0, none⟩) x :: As) := by
  have h' := h
  obtain ⟨L, ⟨L1, L2, rfl, ⟨g, A1, A2, c2, A3, c3, rfl, hc⟩, hr⟩, hs⟩ := h
  exact ⟨g, rfl, h'⟩
theorem mSmachine_Machine.open {G : List Nat} {w0 w : World} {As : List Asn} {A : Option Addr} {x : Smachine_Machine} (h : St G w0 w (mSmachine_Machine A x :: As)) : ∃ g A1 A2 c2 A3 c3, A = some ⟨g, 0, none⟩ ∧ St G w0 w ([box g 55 ([.pointer A1] ++ eSapi_Regs.enc x.s ++ [.int .u32 x.pc, .int .i64 x.status, .slice A2 x.in'.length c2, .slice A3 x.out.length c3]), oM mSmemory_Memory A1 x.Memory, rdo (eI .u32) A2 c2 x.in', own 38 (eI .u32) A3 c3 x.out] ++ As) := by
  obtain ⟨L, ⟨L1, L2, rfl, ⟨g, A1, A2, c2, A3, c3, rfl, hc⟩, hr⟩, hs⟩ := h
  exact ⟨g, A1, A2, c2, A3, c3, rfl, _, Cov.join hr hc, hs⟩
theorem mSmachine_Machine.open1 {G : List Nat} {w0 w : World} {As : List Asn} {g : Nat} {x : Smachine_Machine} (h : St G w0 w (mSmachine_Machine (some ⟨g, 0, none⟩) x :: As)) : ∃ A1 A2 c2 A3 c3, St G w0 w ([box g 55 ([.pointer A1] ++ eSapi_Regs.enc x.s ++ [.int .u32 x.pc, .int .i64 x.status, .slice A2 x.in'.length c2, .slice A3 x.out.length c3]), oM mSmemory_Memory A1 x.Memory, rdo (eI .u32) A2 c2 x.in', own 38 (eI .u32) A3 c3 x.out] ++ As) := by
  obtain ⟨g', A1, A2, c2, A3, c3, hg, h⟩ := mSmachine_Machine.open h
  cases hg
  exact ⟨A1, A2, c2, A3, c3, h⟩
theorem mSmachine_Machine.close {G : List Nat} {w0 w : World} {As : List Asn} {g : Nat} {A1 : Option Addr} {A2 : Option Addr} {c2 : Nat} {A3 : Option Addr} {c3 : Nat} {x : Smachine_Machine} (h : St G w0 w ([box g 55 ([.pointer A1] ++ eSapi_Regs.enc x.s ++ [.int .u32 x.pc, .int .i64 x.status, .slice A2 x.in'.length c2, .slice A3 x.out.length c3]), oM mSmemory_Memory A1 x.Memory, rdo (eI .u32) A2 c2 x.in', own 38 (eI .u32) A3 c3 x.out] ++ As)) : St G w0 w (mSmachine_Machine (some ⟨g, 0, none⟩) x :: As) := by
  obtain ⟨L, hc, hs⟩ := h
  obtain ⟨L1, L2, rfl, h1, h2⟩ := Cov.split (Gs := [box g 55 ([.pointer A1] ++ eSapi_Regs.enc x.s ++ [.int .u32 x.pc, .int .i64 x.status, .slice A2 x.in'.length c2, .slice A3 x.out.length c3]), oM mSmemory_Memory A1 x.Memory, rdo (eI .u32) A2 c2 x.in', own 38 (eI .u32) A3 c3 x.out]) hc
  exact ⟨_, ⟨L1, L2, rfl, ⟨g, A1, A2, c2, A3, c3, rfl, h1⟩, h2⟩, hs⟩
def mSrivetref06_Machine (A : Option Addr) (x : Srivetref06_Machine) : Asn := fun L => ∃ g A1 A2 c2 A3 c3, A = some ⟨g, 0, none⟩ ∧ Cov [box g 58 ([.pointer A1] ++ eSapi_Regs.enc x.S ++ [.int .u32 x.PC, .int .i64 x.Status, .slice A2 x.In.length c2, .slice A3 x.Out.length c3]), oM mSrivetref05_Memory A1 x.M, rdo (eI .u32) A2 c2 x.In, own 38 (eI .u32) A3 c3 x.Out] L
theorem mSrivetref06_Machine.addr {G : List Nat} {w0 w : World} {As : List Asn} {A : Option Addr} {x : Srivetref06_Machine} (h : St G w0 w (mSrivetref06_Machine A x :: As)) : ∃ g, A = some ⟨g, 0, none⟩ ∧ St G w0 w (mSrivetref06_Machine (some ⟨g, 0, none⟩) x :: As) := by
  have h' := h
  obtain ⟨L, ⟨L1, L2, rfl, ⟨g, A1, A2, c2, A3, c3, rfl, hc⟩, hr⟩, hs⟩ := h
  exact ⟨g, rfl, h'⟩
theorem mSrivetref06_Machine.open {G : List Nat} {w0 w : World} {As : List Asn} {A : Option Addr} {x : Srivetref06_Machine} (h : St G w0 w (mSrivetref06_Machine A x :: As)) : ∃ g A1 A2 c2 A3 c3, A = some ⟨g, 0, none⟩ ∧ St G w0 w ([box g 58 ([.pointer A1] ++ eSapi_Regs.enc x.S ++ [.int .u32 x.PC, .int .i64 x.Status, .slice A2 x.In.length c2, .slice A3 x.Out.length c3]), oM mSrivetref05_Memory A1 x.M, rdo (eI .u32) A2 c2 x.In, own 38 (eI .u32) A3 c3 x.Out] ++ As) := by
  obtain ⟨L, ⟨L1, L2, rfl, ⟨g, A1, A2, c2, A3, c3, rfl, hc⟩, hr⟩, hs⟩ := h
  exact ⟨g, A1, A2, c2, A3, c3, rfl, _, Cov.join hr hc, hs⟩
theorem mSrivetref06_Machine.open1 {G : List Nat} {w0 w : World} {As : List Asn} {g : Nat} {x : Srivetref06_Machine} (h : St G w0 w (mSrivetref06_Machine (some ⟨g, 0, none⟩) x :: As)) : ∃ A1 A2 c2 A3 c3, St G w0 w ([box g 58 ([.pointer A1] ++ eSapi_Regs.enc x.S ++ [.int .u32 x.PC, .int .i64 x.Status, .slice A2 x.In.length c2, .slice A3 x.Out.length c3]), oM mSrivetref05_Memory A1 x.M, rdo (eI .u32) A2 c2 x.In, own 38 (eI .u32) A3 c3 x.Out] ++ As) := by
  obtain ⟨g', A1, A2, c2, A3, c3, hg, h⟩ := mSrivetref06_Machine.open h
  cases hg
  exact ⟨A1, A2, c2, A3, c3, h⟩
theorem mSrivetref06_Machine.close {G : List Nat} {w0 w : World} {As : List Asn} {g : Nat} {A1 : Option Addr} {A2 : Option Addr} {c2 : Nat} {A3 : Option Addr} {c3 : Nat} {x : Srivetref06_Machine} (h : St G w0 w ([box g 58 ([.pointer A1] ++ eSapi_Regs.enc x.S ++ [.int .u32 x.PC, .int .i64 x.Status, .slice A2 x.In.length c2, .slice A3 x.Out.length c3]), oM mSrivetref05_Memory A1 x.M, rdo (eI .u32) A2 c2 x.In, own 38 (eI .u32) A3 c3 x.Out] ++ As)) : St G w0 w (mSrivetref06_Machine (some ⟨g, 0, none⟩) x :: As) := by
  obtain ⟨L, hc, hs⟩ := h
  obtain ⟨L1, L2, rfl, h1, h2⟩ := Cov.split (Gs := [box g 58 ([.pointer A1] ++ eSapi_Regs.enc x.S ++ [.int .u32 x.PC, .int .i64 x.Status, .slice A2 x.In.length c2, .slice A3 x.Out.length c3]), oM mSrivetref05_Memory A1 x.M, rdo (eI .u32) A2 c2 x.In, own 38 (eI .u32) A3 c3 x.Out]) hc
  exact ⟨_, ⟨L1, L2, rfl, ⟨g, A1, A2, c2, A3, c3, rfl, h1⟩, h2⟩, hs⟩
def rSmemory_Memory (w : World) (A : Option Addr) (x : Smemory_Memory) : Prop := Rd w eSmemory_Memory A 1 [x]
theorem rSmemory_Memory.blocks {w w' : World} {A : Option Addr} {x : Smemory_Memory} (h : rSmemory_Memory w A x) (hb : ∀ k, k < w.heap.size → w'.heap[k]? = w.heap[k]?) : rSmemory_Memory w' A x := Rd.blocks h hb
theorem rSmemory_Memory.of_m {G : List Nat} {w0 w : World} {As : List Asn} {A : Option Addr} {x : Smemory_Memory} (h : St G w0 w (mSmemory_Memory A x :: As)) : rSmemory_Memory w A x := Rd.of_own h
theorem rSmemory_Memory.below {w w' : World} {A : Option Addr} {x : Smemory_Memory} (h : rSmemory_Memory w A x) (hb : Below w.heap.size w w') : rSmemory_Memory w' A x := h.blocks hb.block
theorem rSmemory_Memory.old {w0 w : World} {As : List Asn} {A : Option Addr} {x : Smemory_Memory} (h : rSmemory_Memory w0 A x) (hs : St [] w0 w As) : rSmemory_Memory w A x := h.below hs.below
def rSrivetref05_Memory (w : World) (A : Option Addr) (x : Srivetref05_Memory) : Prop := ∃ g A1 c1, A = some ⟨g, 0, none⟩ ∧ Rx w g ([.slice A1 x.B.length c1]) ∧ Rd w (eI .u8) A1 c1 x.B
theorem rSrivetref05_Memory.blocks {w w' : World} {A : Option Addr} {x : Srivetref05_Memory} (h : rSrivetref05_Memory w A x) (hb : ∀ k, k < w.heap.size → w'.heap[k]? = w.heap[k]?) : rSrivetref05_Memory w' A x := by
  obtain ⟨g, A1, c1, hA, hx, h1⟩ := h
  exact ⟨g, A1, c1, hA, hx.blocks hb, h1.blocks hb⟩
theorem rSrivetref05_Memory.of_m {G : List Nat} {w0 w : World} {As : List Asn} {A : Option Addr} {x : Srivetref05_Memory} (h : St G w0 w (mSrivetref05_Memory A x :: As)) : rSrivetref05_Memory w A x := by
  obtain ⟨g, A1, c1, hA, h⟩ := mSrivetref05_Memory.open h
  exact ⟨g, A1, c1, hA, Rx.of_box h, Rd.of_own (h.up 1)⟩
theorem rSrivetref05_Memory.below {w w' : World} {A : Option Addr} {x : Srivetref05_Memory} (h : rSrivetref05_Memory w A x) (hb : Below w.heap.size w w') : rSrivetref05_Memory w' A x := h.blocks hb.block
theorem rSrivetref05_Memory.old {w0 w : World} {As : List Asn} {A : Option Addr} {x : Srivetref05_Memory} (h : rSrivetref05_Memory w0 A x) (hs : St [] w0 w As) : rSrivetref05_Memory w A x := h.below hs.below
def rSmachine_Machine (w : World) (A : Option Addr) (x : Smachine_Machine) : Prop := ∃ g A1 A2 c2 A3 c3, A = some ⟨g, 0, none⟩ ∧ Rx w g ([.pointer A1] ++ eSapi_Regs.enc x.s ++ [.int .u32 x.pc, .int .i64 x.status, .slice A2 x.in'.length c2, .slice A3 x.out.length c3]) ∧ oR rSmemory_Memory w A1 x.Memory ∧ Rd w (eI .u32) A2 c2 x.in' ∧ Rd w (eI .u32) A3 c3 x.out
theorem rSmachine_Machine.blocks {w w' : World} {A : Option Addr} {x : Smachine_Machine} (h : rSmachine_Machine w A x) (hb : ∀ k, k < w.heap.size → w'.heap[k]? = w.heap[k]?) : rSmachine_Machine w' A x := by
  obtain ⟨g, A1, A2, c2, A3, c3, hA, hx, h1, h2, h3⟩ := h
  exact ⟨g, A1, A2, c2, A3, c3, hA, hx.blocks hb, oR.blocks (fun _ h => rSmemory_Memory.blocks h hb) h1, h2.blocks hb, h3.blocks hb⟩
theorem rSmachine_Machine.of_m {G : List Nat} {w0 w : World} {As : List Asn} {A : Option Addr} {x : Smachine_Machine} (h : St G w0 w (mSmachine_Machine A x :: As)) : rSmachine_Machine w A x := by
  obtain ⟨g, A1, A2, c2, A3, c3, hA, h⟩ := mSmachine_Machine.open h
  exact ⟨g, A1, A2, c2, A3, c3, hA, Rx.of_box h, oR.of_oM (fun _ h => rSmemory_Memory.of_m h) (h.up 1), Rd.of_rdo (h.up 2), Rd.of_own (h.up 3)⟩
theorem rSmachine_Machine.below {w w' : World} {A : Option Addr} {x : Smachine_Machine} (h : rSmachine_Machine w A x) (hb : Below w.heap.size w w') : rSmachine_Machine w' A x := h.blocks hb.block
theorem rSmachine_Machine.old {w0 w : World} {As : List Asn} {A : Option Addr} {x : Smachine_Machine} (h : rSmachine_Machine w0 A x) (hs : St [] w0 w As) : rSmachine_Machine w A x := h.below hs.below
/-! slices.Clone[[]uint32,uint32]: function 33 -/
noncomputable def slices_Clone_uint32_uint32 (l0 : List Int) : Option (List Int) := (if ([] : List Int).length + l0.length ≤ 35184372088832 then some (([] : List Int) ++ l0) else none)
set_option maxRecDepth 100000 in
set_option maxHeartbeats 4000000 in
theorem slices_Clone_uint32_uint32.calls (A0 : Option Addr) (c0 : Nat) (l0 : List Int) (r : (List Int)) (w0 : World) (hr0 : Rd w0 (eI .u32) A0 c0 l0) (H : slices_Clone_uint32_uint32 l0 = some r) :
    Calls Tryd.prog 33 #[.slice A0 l0.length c0] w0 fun e w' => ∃ A_0 c_0, e = .returned (.slice A_0 r.length c_0) ∧ St [] w0 w' [own 38 (eI .u32) A_0 c_0 r] := by
 have hw : St [] w0 w0 [] := St.nil w0
 unfold slices_Clone_uint32_uint32 at H
 refine go_fn Tryd.func33 rfl Tryd.ntmps33 ?_; intro a hs
 refine go_sp [] [] hs ?_; clear hs; intro a hs
 refine go_seq_k fun K2 hK2 => ?_
 refine go_sk fun K3 hK3 => ?_
 refine go_pvs 1 [] [(3, .slice A0 l0.length c0)] hs ?_; clear hs; intro a hs
 have hnil := (hr0.old hw)
 rcases A0 with _ | ad4
 ·obtain rfl := Rd.none hnil
  clear hnil
  replace H : some ([] : List Int) = some r := by simpa using H
  refine go_pvs 2 [3] [(0, .slice none ([] : List Int).length c0), (4, .bool true)] hs ?_; clear hs; intro a hs
  refine go_end (hK3 _ _ ?_)
  refine go_cond hs true (fun hc => ?_) fun hc => ?_
  ·skip
   refine go_sp [0, 4] [(2, .slice none 0 0)] hs ?_; clear hs; intro a hs
   refine wp_ret ?_
   refine th_ret ?_
   obtain rfl := Option.some.inj H
   replace hw := St.own_nil hw 38 (eI .u32)
   refine ret1 (t := 2) (v := .slice none 0 0) hs (by kernel_rfl) (by kernel_rfl) ?_
   exact ⟨none, 0, rfl, hw.only 1⟩
  ·cases hc
 ·clear hnil
  refine go_pvs 2 [3] [(0, .slice (some ad4) l0.length c0), (4, .bool false)] hs ?_; clear hs; intro a hs
  refine go_end (hK3 _ _ ?_)
  refine go_cond hs false (fun hc => ?_) fun hc => ?_
  ·cases hc
  ·skip
   refine wp_skip ?_
   refine hK2 _ _ ?_
   refine go_sk fun K7 hK7 => ?_
   obtain ⟨Aa8, cc9, wd10, hx11, hw⟩ := n_lit0 (P := Tryd.prog) (t := 22) (ty := 22) (T := 38) hs hw (eI .u32) (by kernel_rfl) (by kernel_rfl)
   refine go_run hs (by rfl) hx11 [4] ?_; clear hs; intro a hs
   refine go_pvs 2 [0] [(6, .slice (some ad4) l0.length c0)] hs ?_; clear hs; intro a hs
   obtain ⟨hp13, H⟩ := ite_only H
   have hsrc18 : Src Tryd.prog (eI .u32).sz 22 (.slice (some ad4) l0.length c0) l0.length (l0.flatMap (eI .u32).enc) _ := (Src.of_rd (E := (eI .u32)) (e' := 38) (by kernel_rfl) (hr0.old hw))
   obtain ⟨Aa14, cc15, wd16, hx17, hw⟩ := x_append (P := Tryd.prog) (t := 22) (tx := 22) (ty := 22) (x := (Operand.tmp 5)) (y := (Operand.tmp 6)) (z := .int .u32 0) (bytes := 4) (l2 := l0) hs hw (by kernel_rfl) (by kernel_rfl) (by kernel_rfl) (by kernel_rfl) (by kernel_rfl) hsrc18 (by omega) (by omega)
   refine go_run hs (by rfl) hx17 [5, 6] ?_; clear hs; intro a hs
   refine go_pvs 4 [7] [(2, .slice Aa14 (([] : List Int) ++ l0).length cc15)] hs ?_; clear hs; intro a hs
   refine go_end (hK7 _ _ ?_)
   refine wp_ret ?_
   obtain rfl := Option.some.inj H
   refine ret1 (t := 2) (v := .slice Aa14 (([] : List Int) ++ l0).length cc15) hs (by kernel_rfl) (by kernel_rfl) ?_
   exact ⟨Aa14, cc15, rfl, hw.only 1⟩

/-! rivet/rivetref05.Same: function 10 -/
noncomputable def rivetref05_Same.j1 : Option Bool := some true
noncomputable def rivetref05_Same.b9 (l0 : List Int) (l1 : List Int) (v10 : Int) : Option (Int ⊕ (Ex Bool Unit)) := (if v10 < (l0.length : Int) then (if 0 ≤ v10 ∧ v10 < (l0.length : Int) then (if 0 ≤ v10 ∧ v10 < (l1.length : Int) then (if (ix (eI .u32).d l0 v10) = (ix (eI .u32).d l1 v10) then some (.inl (w64 (v10 + 1))) else some (.inr (.ret false))) else none) else none) else some (.inr (.done ())))
noncomputable def rivetref05_Same (l0 : List Int) (l1 : List Int) : Option Bool := (if (l0.length : Int) = (l1.length : Int) then ((loopO (fun (σ : Int) => rivetref05_Same.b9 l0 l1 σ) 0).bind fun e => match e with | .ret x => some x | .done e => rivetref05_Same.j1) else some false)
set_option maxRecDepth 100000 in
set_option maxHeartbeats 4000000 in
theorem rivetref05_Same.calls (A0 : Option Addr) (c0 : Nat) (l0 : List Int) (A1 : Option Addr) (c1 : Nat) (l1 : List Int) (r : Bool) (w0 : World) (hr0 : Rd w0 (eI .u32) A0 c0 l0) (hr1 : Rd w0 (eI .u32) A1 c1 l1) (H : rivetref05_Same l0 l1 = some r) :
    Calls Tryd.prog 10 #[.slice A0 l0.length c0, .slice A1 l1.length c1] w0 fun e w' => e = .returned (.bool r) ∧ St [] w0 w' [] := by
 have hw : St [] w0 w0 [] := St.nil w0
 unfold rivetref05_Same at H
 refine go_fn Tryd.func10 rfl Tryd.ntmps10 ?_; intro a hs
 refine go_sp [] [] hs ?_; clear hs; intro a hs
 refine go_seq_k fun K2 hK2 => ?_
 refine go_sp [] [(10, .bool ((l0.length : Int) != (l1.length : Int)))] hs ?_; clear hs; intro a hs
 refine go_cond hs ((l0.length : Int) != (l1.length : Int)) (fun hc => ?_) fun hc => ?_
 ·replace H := ite_f H (bne_iff_ne.1 hc)
  have hb4 := hc
  rw [hb4] at hs
  refine go_sp [0, 1, 10] [(4, .bool false)] hs ?_; clear hs; intro a hs
  refine wp_ret ?_
  refine th_ret ?_
  obtain rfl := Option.some.inj H
  refine ret1 (t := 4) (v := .bool false) hs (by kernel_rfl) (by kernel_rfl) ?_
  exact ⟨rfl, hw.only 0⟩
 ·replace H := ite_t H (bne_eq_false_iff_eq.1 hc)
  have hb6 := hc
  rw [hb6] at hs
  refine wp_skip ?_
  refine hK2 _ _ ?_
  refine go_seq_k fun K7 hK7 => ?_
  refine go_sp [10] [(5, .int .i64 0)] hs ?_; clear hs; intro a hs
  refine wp_block ?_
  obtain ⟨e9, hl9, HX9⟩ := bind_some H
  have hJ1 : ∀ (a : Act) (w : World), Slots a 26 [] → St [] w0 w [] → rivetref05_Same.j1 = some r → K7 a w := by
   intro a w hs hw H
   unfold rivetref05_Same.j1 at H
   refine hK7 _ _ ?_
   refine go_sp [] [(4, .bool true)] hs ?_; clear hs; intro a hs
   refine wp_ret ?_
   obtain rfl := Option.some.inj H
   refine ret1 (t := 4) (v := .bool true) hs (by kernel_rfl) (by kernel_rfl) ?_
   exact ⟨rfl, hw.only 0⟩
  clear H
  refine go_loop (σ := Int) (fun σ a w => Slots a 26 [(0, .slice A0 l0.length c0), (1, .slice A1 l1.length c1), (5, .int .i64 σ)] ∧ St [] w0 w []) hl9 (by exact ⟨hs.kx, hw⟩) ?_
  rintro v10 a w ⟨hs, hw⟩ o H hr9
  replace hs : Slots a 26 [(0, .slice A0 l0.length c0), (1, .slice A1 l1.length c1), (5, .int .i64 v10)] := hs
  replace hw : St [] w0 w [] := hw
  replace H : rivetref05_Same.b9 l0 l1 v10 = some o := H
  unfold rivetref05_Same.b9 at H
  refine go_seq_k fun K11 hK11 => ?_
  refine go_sp [] [(14, .bool (decide (v10 < (l0.length : Int))))] hs ?_; clear hs; intro a hs
  refine go_cond hs (decide (v10 < (l0.length : Int))) (fun hc => ?_) fun hc => ?_
  ·replace H := ite_t H (of_decide_eq_true hc)
   have hb13 := hc
   rw [hb13] at hs
   refine wp_skip ?_
   refine hK11 _ _ ?_
   refine go_seq_k fun K14 hK14 => ?_
   refine wp_block ?_
   refine go_seq_k fun K15 hK15 => ?_
   refine q2_region (by kernel_rfl) (by kernel_rfl) ?_
   refine q_pvs 2 [14] [(17, .slice A0 l0.length c0), (18, .int .i64 v10)] hs ?_; clear hs; intro a hs
   obtain ⟨hp16, H⟩ := ite_only H
   obtain ⟨ad17, rfl⟩ := (hr0.old hw).some hp16.1 hp16.2
   refine q_run hs (by rfl) (fun wx hbx => (x_idx (T := 38) (sz := 1) (a := ad17) (n := l0.length) (cap := c0) (k := .i64) (i := v10) hp16)) [17, 18] ?_; clear hs; intro a hs
   refine q_run hs (by rfl) (fun wx hbx => (x_ld (off := 0) (p := ad17.add (v10.toNat * 1)) (v := .int .u32 (ix (eI .u32).d l0 v10)) ((hr0.old hw).below hbx) hp16 rfl)) [19] ?_; clear hs; intro a hs
   refine q_pvs 6 [] [(21, .slice A1 l1.length c1), (22, .int .i64 v10)] hs ?_; clear hs; intro a hs
   obtain ⟨hp18, H⟩ := ite_only H
   obtain ⟨ad19, rfl⟩ := (hr1.old hw).some hp18.1 hp18.2
   refine q_run hs (by rfl) (fun wx hbx => (x_idx (T := 38) (sz := 1) (a := ad19) (n := l1.length) (cap := c1) (k := .i64) (i := v10) hp18)) [21, 22] ?_; clear hs; intro a hs
   refine q_run hs (by rfl) (fun wx hbx => (x_ld (off := 0) (p := ad19.add (v10.toNat * 1)) (v := .int .u32 (ix (eI .u32).d l1 v10)) ((hr1.old hw).below hbx) hp18 rfl)) [23] ?_; clear hs; intro a hs
   refine q_pvs 9 [20, 24] [(25, .bool ((ix (eI .u32).d l0 v10) != (ix (eI .u32).d l1 v10)))] hs ?_; clear hs; intro a hs
   refine q_end ?_
   intro wq hbq
   replace hw := hw.behind hbq
   refine hK15 _ _ ?_
   refine go_cond hs ((ix (eI .u32).d l0 v10) != (ix (eI .u32).d l1 v10)) (fun hc => ?_) fun hc => ?_
   ·replace H := ite_f H (bne_iff_ne.1 hc)
    have hb20 := hc
    rw [hb20] at hs
    refine go_sp [0, 1, 5, 25] [(4, .bool false)] hs ?_; clear hs; intro a hs
    refine wp_ret ?_
    refine ib_ret ?_
    refine th_ret ?_
    refine th_ret ?_
    refine ib_ret ?_
    refine th_ret ?_
    rw [← hr9 _ (Option.some.inj H).symm] at HX9
    replace H : some false = some r := HX9
    obtain rfl := Option.some.inj H
    refine ret1 (t := 4) (v := .bool false) hs (by kernel_rfl) (by kernel_rfl) ?_
    exact ⟨rfl, hw.only 0⟩
   ·replace H := ite_t H (bne_eq_false_iff_eq.1 hc)
    have hb22 := hc
    rw [hb22] at hs
    refine wp_skip ?_
    refine ib_norm ?_
    refine hK14 _ _ ?_
    refine go_plain [25] [(5, .int .i64 (w64 (v10 + 1)))] hs ?_; clear hs; intro a hs
    exact round_end (w64 (v10 + 1)) (Option.some.inj H).symm ⟨hs.kx, hw⟩
  ·replace H := ite_f H (of_decide_eq_false hc)
   have hb23 := hc
   rw [hb23] at hs
   refine wp_exit ?_
   refine th_exit ?_
   refine th_exit ?_
   refine in_block ?_
   rw [← hr9 _ (Option.some.inj H).symm] at HX9
   exact hJ1 _ _ hs.kx hw HX9

/-! rivet/le.is: function 47 -/
noncomputable def le_is.j4 (v18 : Bool) : Option Bool := some v18
noncomputable def le_is.j3 (a1 : Bool) (a0 : Int) : Option Bool := (if a1 = true then le_is.j4 false else (if a0 = 95 then le_is.j4 true else (if a0 ≥ 48 then le_is.j4 (decide (a0 ≤ 57)) else le_is.j4 false)))
noncomputable def le_is.j2 (a1 : Bool) (a0 : Int) (v10 : Bool) : Option Bool := (if v10 = true then some true else le_is.j3 a1 a0)
noncomputable def le_is.j1 (a1 : Bool) (a0 : Int) (v6 : Bool) : Option Bool := (if v6 = true then le_is.j2 a1 a0 true else (if a0 ≥ 97 then le_is.j2 a1 a0 (decide (a0 ≤ 122)) else le_is.j2 a1 a0 false))
noncomputable def le_is (a0 : Int) (a1 : Bool) : Option Bool := (if a0 ≥ 65 then le_is.j1 a1 a0 (decide (a0 ≤ 90)) else le_is.j1 a1 a0 false)
set_option maxRecDepth 100000 in
set_option maxHeartbeats 4000000 in
theorem le_is.calls (a0 : Int) (a1 : Bool) (r : Bool) (w0 : World) (H : le_is a0 a1 = some r) :
    Calls Tryd.prog 47 #[.int .u8 a0, .bool a1] w0 fun e w' => e = .returned (.bool r) ∧ St [] w0 w' [] := by
 have hw : St [] w0 w0 [] := St.nil w0
 unfold le_is at H
 refine go_fn Tryd.func47 rfl Tryd.ntmps47 ?_; intro a hs
 refine go_sp [] [] hs ?_; clear hs; intro a hs
 refine go_seq_k fun K2 hK2 => ?_
 have hJ3 : ∀ (a : Act) (w : World), Slots a 32 [(0, .int .u8 a0), (1, .bool a1)] → St [] w0 w [] → le_is.j3 a1 a0 = some r → K2 a w := by
  intro a w hs hw H
  unfold le_is.j3 at H
  refine hK2 _ _ ?_
  refine go_seq_k fun K14 hK14 => ?_
  have hJ4 : ∀ (v18 : Bool) (a : Act) (w : World), Slots a 32 [(4, .bool v18)] → St [] w0 w [] → le_is.j4 v18 = some r → K14 a w := by
   intro v18 a w hs hw H
   unfold le_is.j4 at H
   refine hK14 _ _ ?_
   refine wp_ret ?_
   obtain rfl := Option.some.inj H
   refine ret1 (t := 4) (v := .bool v18) hs (by kernel_rfl) (by kernel_rfl) ?_
   exact ⟨rfl, hw.only 0⟩
  refine go_region ?_
  refine go_pvs 3 [1] [(20, .bool (!a1))] hs ?_; clear hs; intro a hs
  cases hb15 : (!a1)
  ·replace H := ite_t H (nf hb15)
   rw [hb15] at hs
   refine go_pvs 15 [0, 20] [(4, .bool false)] hs ?_; clear hs; intro a hs
   refine go_end ?_
   exact hJ4 false _ _ hs.kx hw H
  ·replace H := ite_f H (ff (nt hb15))
   rw [hb15] at hs
   refine go_pvs 6 [] [(23, .bool (a0 == 95))] hs ?_; clear hs; intro a hs
   cases hb16 : (a0 == 95)
   ·replace H := ite_f H (beq_eq_false_iff_ne.1 hb16)
    rw [hb16] at hs
    refine go_pvs 9 [] [(26, .bool (decide (a0 ≥ 48)))] hs ?_; clear hs; intro a hs
    cases hb17 : (decide (a0 ≥ 48))
    ·replace H := ite_f H (of_decide_eq_false hb17)
     rw [hb17] at hs
     refine go_pvs 15 [0, 20, 23, 26] [(4, .bool false)] hs ?_; clear hs; intro a hs
     refine go_end ?_
     exact hJ4 false _ _ hs.kx hw H
    ·replace H := ite_t H (of_decide_eq_true hb17)
     rw [hb17] at hs
     refine go_pvs 15 [0, 20, 23, 26] [(4, .bool (decide (a0 ≤ 57)))] hs ?_; clear hs; intro a hs
     refine go_end ?_
     exact hJ4 (decide (a0 ≤ 57)) _ _ hs.kx hw H
   ·replace H := ite_t H (beq_iff_eq.1 hb16)
    rw [hb16] at hs
    refine go_pvs 15 [0, 20, 23] [(4, .bool true)] hs ?_; clear hs; intro a hs
    refine go_end ?_
    exact hJ4 true _ _ hs.kx hw H
 refine wp_block ?_
 refine go_seq_k fun K3 hK3 => ?_
 have hJ2 : ∀ (v10 : Bool) (a : Act) (w : World), Slots a 32 [(0, .int .u8 a0), (1, .bool a1), (5, .bool v10)] → St [] w0 w [] → le_is.j2 a1 a0 v10 = some r → K3 a w := by
  intro v10 a w hs hw H
  unfold le_is.j2 at H
  refine hK3 _ _ ?_
  refine go_cond hs v10 (fun hc => ?_) fun hc => ?_
  ·replace H := ite_t H hc
   have hb11 := hc
   rw [hb11] at hs
   refine go_sp [0, 1, 5] [(4, .bool true)] hs ?_; clear hs; intro a hs
   refine wp_ret ?_
   refine ib_ret ?_
   refine th_ret ?_
   obtain rfl := Option.some.inj H
   refine ret1 (t := 4) (v := .bool true) hs (by kernel_rfl) (by kernel_rfl) ?_
   exact ⟨rfl, hw.only 0⟩
  ·replace H := ite_f H (ff hc)
   have hb13 := hc
   rw [hb13] at hs
   refine wp_skip ?_
   refine ib_norm ?_
   exact hJ3 _ _ hs.kx hw H
 refine go_seq_k fun K4 hK4 => ?_
 have hJ1 : ∀ (v6 : Bool) (a : Act) (w : World), Slots a 32 [(0, .int .u8 a0), (1, .bool a1), (5, .bool v6)] → St [] w0 w [] → le_is.j1 a1 a0 v6 = some r → K4 a w := by
  intro v6 a w hs hw H
  unfold le_is.j1 at H
  refine hK4 _ _ ?_
  refine go_cond hs v6 (fun hc => ?_) fun hc => ?_
  ·replace H := ite_t H hc
   have hb7 := hc
   rw [hb7] at hs
   refine wp_skip ?_
   exact hJ2 true _ _ hs.kx hw H
  ·replace H := ite_f H (ff hc)
   have hb8 := hc
   rw [hb8] at hs
   refine go_region ?_
   refine go_pvs 3 [5] [(14, .bool (decide (a0 ≥ 97)))] hs ?_; clear hs; intro a hs
   cases hb9 : (decide (a0 ≥ 97))
   ·replace H := ite_f H (of_decide_eq_false hb9)
    rw [hb9] at hs
    refine go_pvs 7 [14] [(5, .bool false)] hs ?_; clear hs; intro a hs
    refine go_end ?_
    exact hJ2 false _ _ hs.kx hw H
   ·replace H := ite_t H (of_decide_eq_true hb9)
    rw [hb9] at hs
    refine go_pvs 7 [14] [(5, .bool (decide (a0 ≤ 122)))] hs ?_; clear hs; intro a hs
    refine go_end ?_
    exact hJ2 (decide (a0 ≤ 122)) _ _ hs.kx hw H
 refine go_region ?_
 refine go_pvs 3 [] [(8, .bool (decide (a0 ≥ 65)))] hs ?_; clear hs; intro a hs
 cases hb5 : (decide (a0 ≥ 65))
 ·replace H := ite_f H (of_decide_eq_false hb5)
  rw [hb5] at hs
  refine go_pvs 7 [8] [(5, .bool false)] hs ?_; clear hs; intro a hs
  refine go_end ?_
  exact hJ1 false _ _ hs.kx hw H
 ·replace H := ite_t H (of_decide_eq_true hb5)
  rw [hb5] at hs
  refine go_pvs 7 [8] [(5, .bool (decide (a0 ≤ 90)))] hs ?_; clear hs; intro a hs
  refine go_end ?_
  exact hJ1 (decide (a0 ≤ 90)) _ _ hs.kx hw H

/-! rivet/rivetref07.letter: function 51 -/
noncomputable def rivetref07_letter.j1 (v7 : Bool) : Option Bool := some v7
noncomputable def rivetref07_letter (a0 : Int) : Option Bool := (if a0 ≥ 65 then (if a0 ≤ 90 then rivetref07_letter.j1 true else (if a0 ≥ 97 then rivetref07_letter.j1 (decide (a0 ≤ 122)) else rivetref07_letter.j1 false)) else (if a0 ≥ 97 then rivetref07_letter.j1 (decide (a0 ≤ 122)) else rivetref07_letter.j1 false))
set_option maxRecDepth 100000 in
set_option maxHeartbeats 4000000 in
theorem rivetref07_letter.calls (a0 : Int) (r : Bool) (w0 : World) (H : rivetref07_letter a0 = some r) :
    Calls Tryd.prog 51 #[.int .u8 a0] w0 fun e w' => e = .returned (.bool r) ∧ St [] w0 w' [] := by
 have hw : St [] w0 w0 [] := St.nil w0
 unfold rivetref07_letter at H
 refine go_fn Tryd.func51 rfl Tryd.ntmps51 ?_; intro a hs
 refine go_sp [] [] hs ?_; clear hs; intro a hs
 refine go_seq_k fun K2 hK2 => ?_
 have hJ1 : ∀ (v7 : Bool) (a : Act) (w : World), Slots a 17 [(2, .bool v7)] → St [] w0 w [] → rivetref07_letter.j1 v7 = some r → K2 a w := by
  intro v7 a w hs hw H
  unfold rivetref07_letter.j1 at H
  refine hK2 _ _ ?_
  refine wp_ret ?_
  obtain rfl := Option.some.inj H
  refine ret1 (t := 2) (v := .bool v7) hs (by kernel_rfl) (by kernel_rfl) ?_
  exact ⟨rfl, hw.only 0⟩
 refine go_region ?_
 refine go_pvs 3 [] [(5, .bool (decide (a0 ≥ 65)))] hs ?_; clear hs; intro a hs
 cases hb3 : (decide (a0 ≥ 65))
 ·replace H := ite_f H (of_decide_eq_false hb3)
  rw [hb3] at hs
  refine go_pvs 10 [5] [(9, .bool false), (12, .bool (decide (a0 ≥ 97)))] hs ?_; clear hs; intro a hs
  cases hb4 : (decide (a0 ≥ 97))
  ·replace H := ite_f H (of_decide_eq_false hb4)
   rw [hb4] at hs
   refine go_pvs 15 [0, 9, 12] [(2, .bool false)] hs ?_; clear hs; intro a hs
   refine go_end ?_
   exact hJ1 false _ _ hs.kx hw H
  ·replace H := ite_t H (of_decide_eq_true hb4)
   rw [hb4] at hs
   refine go_pvs 15 [0, 9, 12] [(2, .bool (decide (a0 ≤ 122)))] hs ?_; clear hs; intro a hs
   refine go_end ?_
   exact hJ1 (decide (a0 ≤ 122)) _ _ hs.kx hw H
 ·replace H := ite_t H (of_decide_eq_true hb3)
  rw [hb3] at hs
  refine go_pvs 7 [5] [(9, .bool (decide (a0 ≤ 90)))] hs ?_; clear hs; intro a hs
  cases hb5 : (decide (a0 ≤ 90))
  ·replace H := ite_f H (of_decide_eq_false hb5)
   rw [hb5] at hs
   refine go_pvs 10 [] [(12, .bool (decide (a0 ≥ 97)))] hs ?_; clear hs; intro a hs
   cases hb6 : (decide (a0 ≥ 97))
   ·replace H := ite_f H (of_decide_eq_false hb6)
    rw [hb6] at hs
    refine go_pvs 15 [0, 9, 12] [(2, .bool false)] hs ?_; clear hs; intro a hs
    refine go_end ?_
    exact hJ1 false _ _ hs.kx hw H
   ·replace H := ite_t H (of_decide_eq_true hb6)
    rw [hb6] at hs
    refine go_pvs 15 [0, 9, 12] [(2, .bool (decide (a0 ≤ 122)))] hs ?_; clear hs; intro a hs
    refine go_end ?_
    exact hJ1 (decide (a0 ≤ 122)) _ _ hs.kx hw H
  ·replace H := ite_t H (of_decide_eq_true hb5)
   rw [hb5] at hs
   refine go_pvs 15 [0, 9] [(2, .bool true)] hs ?_; clear hs; intro a hs
   refine go_end ?_
   exact hJ1 true _ _ hs.kx hw H

/-! rivet/rivetref07.digit: function 53 -/
noncomputable def rivetref07_digit.j1 (v4 : Bool) : Option Bool := some v4
noncomputable def rivetref07_digit (a0 : Int) : Option Bool := (if a0 ≥ 48 then rivetref07_digit.j1 (decide (a0 ≤ 57)) else rivetref07_digit.j1 false)
set_option maxRecDepth 100000 in
set_option maxHeartbeats 4000000 in
theorem rivetref07_digit.calls (a0 : Int) (r : Bool) (w0 : World) (H : rivetref07_digit a0 = some r) :
    Calls Tryd.prog 53 #[.int .u8 a0] w0 fun e w' => e = .returned (.bool r) ∧ St [] w0 w' [] := by
 have hw : St [] w0 w0 [] := St.nil w0
 unfold rivetref07_digit at H
 refine go_fn Tryd.func53 rfl Tryd.ntmps53 ?_; intro a hs
 refine go_sp [] [] hs ?_; clear hs; intro a hs
 refine go_seq_k fun K2 hK2 => ?_
 have hJ1 : ∀ (v4 : Bool) (a : Act) (w : World), Slots a 9 [(2, .bool v4)] → St [] w0 w [] → rivetref07_digit.j1 v4 = some r → K2 a w := by
  intro v4 a w hs hw H
  unfold rivetref07_digit.j1 at H
  refine hK2 _ _ ?_
  refine wp_ret ?_
  obtain rfl := Option.some.inj H
  refine ret1 (t := 2) (v := .bool v4) hs (by kernel_rfl) (by kernel_rfl) ?_
  exact ⟨rfl, hw.only 0⟩
 refine go_region ?_
 refine go_pvs 3 [] [(5, .bool (decide (a0 ≥ 48)))] hs ?_; clear hs; intro a hs
 cases hb3 : (decide (a0 ≥ 48))
 ·replace H := ite_f H (of_decide_eq_false hb3)
  rw [hb3] at hs
  refine go_pvs 7 [0, 5] [(2, .bool false)] hs ?_; clear hs; intro a hs
  refine go_end ?_
  exact hJ1 false _ _ hs.kx hw H
 ·replace H := ite_t H (of_decide_eq_true hb3)
  rw [hb3] at hs
  refine go_pvs 7 [0, 5] [(2, .bool (decide (a0 ≤ 57)))] hs ?_; clear hs; intro a hs
  refine go_end ?_
  exact hJ1 (decide (a0 ≤ 57)) _ _ hs.kx hw H

/-! rivet/rivetref07.Register: function 52 -/
noncomputable def rivetref07_Register.j3 (v26 : Bool) : Option Bool := some v26
noncomputable def rivetref07_Register.j2 (a0 : ByteArray) : Option Bool := (if 0 ≤ (1 : Int) ∧ (1 : Int) < (a0.size : Int) then ((rivetref07_digit (sx a0 1)).bind fun t14 => ((if t14 = true then (if (a0.size : Int) = 2 then rivetref07_Register.j3 true else (if 0 ≤ (2 : Int) ∧ (2 : Int) < (a0.size : Int) then ((rivetref07_digit (sx a0 2)).bind fun t22 => (rivetref07_Register.j3 t22)) else none)) else rivetref07_Register.j3 false))) else none)
noncomputable def rivetref07_Register.j1 (a0 : ByteArray) (v7 : Bool) : Option Bool := (if v7 = true then some false else rivetref07_Register.j2 a0)
noncomputable def rivetref07_Register (a0 : ByteArray) : Option Bool := (if (a0.size : Int) < 2 then rivetref07_Register.j1 a0 true else (if (a0.size : Int) > 3 then rivetref07_Register.j1 a0 true else (if 0 ≤ (0 : Int) ∧ (0 : Int) < (a0.size : Int) then rivetref07_Register.j1 a0 ((sx a0 0) != 82) else none)))
set_option maxRecDepth 100000 in
set_option maxHeartbeats 4000000 in
theorem rivetref07_Register.calls (a0 : ByteArray) (r : Bool) (w0 : World) (H : rivetref07_Register a0 = some r) :
    Calls Tryd.prog 52 #[.string a0] w0 fun e w' => e = .returned (.bool r) ∧ St [] w0 w' [] := by
 have hw : St [] w0 w0 [] := St.nil w0
 unfold rivetref07_Register at H
 refine go_fn Tryd.func52 rfl Tryd.ntmps52 ?_; intro a hs
 refine go_sp [] [] hs ?_; clear hs; intro a hs
 refine go_seq_k fun K2 hK2 => ?_
 have hJ2 : ∀ (a : Act) (w : World), Slots a 29 [(0, .string a0)] → St [] w0 w [] → rivetref07_Register.j2 a0 = some r → K2 a w := by
  intro a w hs hw H
  unfold rivetref07_Register.j2 at H
  refine hK2 _ _ ?_
  refine go_seq_k fun K11 hK11 => ?_
  have hJ3 : ∀ (v26 : Bool) (a : Act) (w : World), Slots a 29 [(2, .bool v26)] → St [] w0 w [] → rivetref07_Register.j3 v26 = some r → K11 a w := by
   intro v26 a w hs hw H
   unfold rivetref07_Register.j3 at H
   refine hK11 _ _ ?_
   refine wp_ret ?_
   obtain rfl := Option.some.inj H
   refine ret1 (t := 2) (v := .bool v26) hs (by kernel_rfl) (by kernel_rfl) ?_
   exact ⟨rfl, hw.only 0⟩
  refine go_region ?_
  refine go_pvs 1 [] [(16, .string a0)] hs ?_; clear hs; intro a hs
  obtain ⟨hp12, H⟩ := ite_only H
  refine go_run hs (by rfl) (x_sidx (s := a0) (k := .i64) (i := 1) hp12) [16] ?_; clear hs; intro a hs
  obtain ⟨t14, hx15, H⟩ := bind_some H
  refine go_call hs (by rfl) (rivetref07_digit.calls (sx a0 1) t14 _ hx15) ?_
  rintro e wd16 ⟨rfl, hw17⟩
  refine ⟨_, rfl, ?_⟩
  replace hw := hw.call hw17
  clear hs; intro a hs; replace hs := hs.rms [17]
  refine go_pvs 4 [18] [(19, .bool t14)] hs ?_; clear hs; intro a hs
  cases hb18 : t14
  ·replace H := ite_f H (ff hb18)
   rw [hb18] at hs
   refine go_pvs 14 [0, 19] [(2, .bool false)] hs ?_; clear hs; intro a hs
   refine go_end ?_
   exact hJ3 false _ _ hs.kx hw H
  ·replace H := ite_t H hb18
   rw [hb18] at hs
   refine go_pvs 8 [] [(23, .bool ((a0.size : Int) == 2))] hs ?_; clear hs; intro a hs
   cases hb19 : ((a0.size : Int) == 2)
   ·replace H := ite_f H (beq_eq_false_iff_ne.1 hb19)
    rw [hb19] at hs
    refine go_pvs 9 [0] [(24, .string a0)] hs ?_; clear hs; intro a hs
    obtain ⟨hp20, H⟩ := ite_only H
    refine go_run hs (by rfl) (x_sidx (s := a0) (k := .i64) (i := 2) hp20) [24] ?_; clear hs; intro a hs
    obtain ⟨t22, hx23, H⟩ := bind_some H
    refine go_call hs (by rfl) (rivetref07_digit.calls (sx a0 2) t22 _ hx23) ?_
    rintro e wd24 ⟨rfl, hw25⟩
    refine ⟨_, rfl, ?_⟩
    replace hw := hw.call hw25
    clear hs; intro a hs; replace hs := hs.rms [25]
    refine go_pvs 14 [19, 23, 26] [(2, .bool t22)] hs ?_; clear hs; intro a hs
    refine go_end ?_
    exact hJ3 t22 _ _ hs.kx hw H
   ·replace H := ite_t H (beq_iff_eq.1 hb19)
    rw [hb19] at hs
    refine go_pvs 14 [0, 19, 23] [(2, .bool true)] hs ?_; clear hs; intro a hs
    refine go_end ?_
    exact hJ3 true _ _ hs.kx hw H
 refine go_seq_k fun K3 hK3 => ?_
 have hJ1 : ∀ (v7 : Bool) (a : Act) (w : World), Slots a 29 [(0, .string a0), (15, .bool v7)] → St [] w0 w [] → rivetref07_Register.j1 a0 v7 = some r → K3 a w := by
  intro v7 a w hs hw H
  unfold rivetref07_Register.j1 at H
  refine hK3 _ _ ?_
  refine go_cond hs v7 (fun hc => ?_) fun hc => ?_
  ·replace H := ite_t H hc
   have hb8 := hc
   rw [hb8] at hs
   refine go_sp [0, 15] [(2, .bool false)] hs ?_; clear hs; intro a hs
   refine wp_ret ?_
   refine th_ret ?_
   obtain rfl := Option.some.inj H
   refine ret1 (t := 2) (v := .bool false) hs (by kernel_rfl) (by kernel_rfl) ?_
   exact ⟨rfl, hw.only 0⟩
  ·replace H := ite_f H (ff hc)
   have hb10 := hc
   rw [hb10] at hs
   refine wp_skip ?_
   exact hJ2 _ _ hs.kx hw H
 refine go_region ?_
 refine go_pvs 4 [] [(6, .bool (decide ((a0.size : Int) < 2)))] hs ?_; clear hs; intro a hs
 cases hb4 : (decide ((a0.size : Int) < 2))
 ·replace H := ite_f H (of_decide_eq_false hb4)
  rw [hb4] at hs
  refine go_pvs 9 [6] [(11, .bool (decide ((a0.size : Int) > 3)))] hs ?_; clear hs; intro a hs
  cases hb5 : (decide ((a0.size : Int) > 3))
  ·replace H := ite_f H (of_decide_eq_false hb5)
   rw [hb5] at hs
   refine go_pvs 10 [] [(12, .string a0)] hs ?_; clear hs; intro a hs
   obtain ⟨hp6, H⟩ := ite_only H
   refine go_run hs (by rfl) (x_sidx (s := a0) (k := .i64) (i := 0) hp6) [12] ?_; clear hs; intro a hs
   refine go_pvs 13 [11, 13] [(15, .bool ((sx a0 0) != 82))] hs ?_; clear hs; intro a hs
   refine go_end ?_
   exact hJ1 ((sx a0 0) != 82) _ _ hs.kx hw H
  ·replace H := ite_t H (of_decide_eq_true hb5)
   rw [hb5] at hs
   refine go_pvs 13 [11] [(15, .bool true)] hs ?_; clear hs; intro a hs
   refine go_end ?_
   exact hJ1 true _ _ hs.kx hw H
 ·replace H := ite_t H (of_decide_eq_true hb4)
  rw [hb4] at hs
  refine go_pvs 13 [6] [(15, .bool true)] hs ?_; clear hs; intro a hs
  refine go_end ?_
  exact hJ1 true _ _ hs.kx hw H

/-! rivet/rivetref07.Name: function 44 -/
noncomputable def rivetref07_Name.j4 (v25 : Int) : Option (Int ⊕ (Ex Bool Unit)) := some (.inl (w64 (v25 + 1)))
noncomputable def rivetref07_Name.j3 (v25 : Int) (v46 : Bool) : Option (Int ⊕ (Ex Bool Unit)) := (if v46 = true then some (.inr (.ret false)) else rivetref07_Name.j4 v25)
noncomputable def rivetref07_Name.b24 (a0 : ByteArray) (v25 : Int) : Option (Int ⊕ (Ex Bool Unit)) := (if v25 < (a0.size : Int) then (if 0 ≤ v25 ∧ v25 < (a0.size : Int) then ((rivetref07_letter (sx a0 v25)).bind fun t33 => ((if t33 = true then rivetref07_Name.j3 v25 false else (if 0 ≤ v25 ∧ v25 < (a0.size : Int) then ((rivetref07_digit (sx a0 v25)).bind fun t40 => ((if t40 = true then rivetref07_Name.j3 v25 false else (if 0 ≤ v25 ∧ v25 < (a0.size : Int) then rivetref07_Name.j3 v25 ((sx a0 v25) != 95) else none)))) else none)))) else none) else some (.inr (.done ())))
noncomputable def rivetref07_Name.j5 : Option Bool := some true
noncomputable def rivetref07_Name.j2 (a0 : ByteArray) : Option Bool := ((loopO (fun (σ : Int) => rivetref07_Name.b24 a0 σ) 0).bind fun e => match e with | .ret x => some x | .done e => rivetref07_Name.j5)
noncomputable def rivetref07_Name.j1 (a0 : ByteArray) (v18 : Bool) : Option Bool := (if v18 = true then some false else rivetref07_Name.j2 a0)
noncomputable def rivetref07_Name (a0 : ByteArray) : Option Bool := (if (a0.size : Int) < 1 then rivetref07_Name.j1 a0 true else (if (a0.size : Int) > 12 then rivetref07_Name.j1 a0 true else (if 0 ≤ (0 : Int) ∧ (0 : Int) < (a0.size : Int) then ((rivetref07_letter (sx a0 0)).bind fun t8 => ((if t8 = true then ((rivetref07_Register a0).bind fun t14 => (rivetref07_Name.j1 a0 t14)) else rivetref07_Name.j1 a0 true))) else none)))
set_option maxRecDepth 100000 in
set_option maxHeartbeats 4000000 in
theorem rivetref07_Name.calls (a0 : ByteArray) (r : Bool) (w0 : World) (H : rivetref07_Name a0 = some r) :
    Calls Tryd.prog 44 #[.string a0] w0 fun e w' => e = .returned (.bool r) ∧ St [] w0 w' [] := by
 have hw : St [] w0 w0 [] := St.nil w0
 unfold rivetref07_Name at H
 refine go_fn Tryd.func44 rfl Tryd.ntmps44 ?_; intro a hs
 refine go_sp [] [] hs ?_; clear hs; intro a hs
 refine go_seq_k fun K2 hK2 => ?_
 have hJ2 : ∀ (a : Act) (w : World), Slots a 46 [(0, .string a0)] → St [] w0 w [] → rivetref07_Name.j2 a0 = some r → K2 a w := by
  intro a w hs hw H
  unfold rivetref07_Name.j2 at H
  refine hK2 _ _ ?_
  refine go_seq_k fun K22 hK22 => ?_
  refine go_sp [] [(3, .int .i64 0)] hs ?_; clear hs; intro a hs
  refine wp_block ?_
  obtain ⟨e24, hl24, HX24⟩ := bind_some H
  have hJ5 : ∀ (a : Act) (w : World), Slots a 46 [] → St [] w0 w [] → rivetref07_Name.j5 = some r → K22 a w := by
   intro a w hs hw H
   unfold rivetref07_Name.j5 at H
   refine hK22 _ _ ?_
   refine go_sp [] [(2, .bool true)] hs ?_; clear hs; intro a hs
   refine wp_ret ?_
   obtain rfl := Option.some.inj H
   refine ret1 (t := 2) (v := .bool true) hs (by kernel_rfl) (by kernel_rfl) ?_
   exact ⟨rfl, hw.only 0⟩
  clear H
  refine go_loop (σ := Int) (fun σ a w => Slots a 46 [(0, .string a0), (3, .int .i64 σ)] ∧ St [] w0 w []) hl24 (by exact ⟨hs.kx, hw⟩) ?_
  rintro v25 a w ⟨hs, hw⟩ o H hr24
  replace hs : Slots a 46 [(0, .string a0), (3, .int .i64 v25)] := hs
  replace hw : St [] w0 w [] := hw
  replace H : rivetref07_Name.b24 a0 v25 = some o := H
  unfold rivetref07_Name.b24 at H
  refine go_seq_k fun K26 hK26 => ?_
  refine go_sp [] [(25, .bool (decide (v25 < (a0.size : Int))))] hs ?_; clear hs; intro a hs
  refine go_cond hs (decide (v25 < (a0.size : Int))) (fun hc => ?_) fun hc => ?_
  ·replace H := ite_t H (of_decide_eq_true hc)
   have hb28 := hc
   rw [hb28] at hs
   refine wp_skip ?_
   refine hK26 _ _ ?_
   refine go_seq_k fun K29 hK29 => ?_
   have hJ4 : ∀ (a : Act) (w : World), Slots a 46 [(0, .string a0), (3, .int .i64 v25)] → St [] w0 w [] → rivetref07_Name.j4 v25 = some o → K29 a w := by
    intro a w hs hw H
    unfold rivetref07_Name.j4 at H
    refine hK29 _ _ ?_
    refine go_plain [] [(3, .int .i64 (w64 (v25 + 1)))] hs ?_; clear hs; intro a hs
    exact round_end (w64 (v25 + 1)) (Option.some.inj H).symm ⟨hs.kx, hw⟩
   refine wp_block ?_
   refine go_seq_k fun K30 hK30 => ?_
   have hJ3 : ∀ (v46 : Bool) (a : Act) (w : World), Slots a 46 [(0, .string a0), (3, .int .i64 v25), (45, .bool v46)] → St [] w0 w [] → rivetref07_Name.j3 v25 v46 = some o → K30 a w := by
    intro v46 a w hs hw H
    unfold rivetref07_Name.j3 at H
    refine hK30 _ _ ?_
    refine go_cond hs v46 (fun hc => ?_) fun hc => ?_
    ·replace H := ite_t H hc
     have hb47 := hc
     rw [hb47] at hs
     refine go_sp [0, 3, 45] [(2, .bool false)] hs ?_; clear hs; intro a hs
     refine wp_ret ?_
     refine ib_ret ?_
     refine th_ret ?_
     refine th_ret ?_
     refine ib_ret ?_
     refine th_ret ?_
     rw [← hr24 _ (Option.some.inj H).symm] at HX24
     replace H : some false = some r := HX24
     obtain rfl := Option.some.inj H
     refine ret1 (t := 2) (v := .bool false) hs (by kernel_rfl) (by kernel_rfl) ?_
     exact ⟨rfl, hw.only 0⟩
    ·replace H := ite_f H (ff hc)
     have hb49 := hc
     rw [hb49] at hs
     refine wp_skip ?_
     refine ib_norm ?_
     exact hJ4 _ _ hs.kx hw H
   refine go_region ?_
   refine go_pvs 2 [25] [(28, .string a0), (29, .int .i64 v25)] hs ?_; clear hs; intro a hs
   obtain ⟨hp31, H⟩ := ite_only H
   refine go_run hs (by rfl) (x_sidx (s := a0) (k := .i64) (i := v25) hp31) [28, 29] ?_; clear hs; intro a hs
   obtain ⟨t33, hx34, H⟩ := bind_some H
   refine go_call hs (by rfl) (rivetref07_letter.calls (sx a0 v25) t33 _ hx34) ?_
   rintro e wd35 ⟨rfl, hw36⟩
   refine ⟨_, rfl, ?_⟩
   replace hw := hw.call hw36
   clear hs; intro a hs; replace hs := hs.rms [30]
   refine go_pvs 6 [31] [(33, .bool (!t33))] hs ?_; clear hs; intro a hs
   cases hb37 : (!t33)
   ·replace H := ite_t H (nf hb37)
    rw [hb37] at hs
    refine go_pvs 18 [33] [(45, .bool false)] hs ?_; clear hs; intro a hs
    refine go_end ?_
    exact hJ3 false _ _ hs.kx hw H
   ·replace H := ite_f H (ff (nt hb37))
    rw [hb37] at hs
    refine go_pvs 8 [] [(34, .string a0), (35, .int .i64 v25)] hs ?_; clear hs; intro a hs
    obtain ⟨hp38, H⟩ := ite_only H
    refine go_run hs (by rfl) (x_sidx (s := a0) (k := .i64) (i := v25) hp38) [34, 35] ?_; clear hs; intro a hs
    obtain ⟨t40, hx41, H⟩ := bind_some H
    refine go_call hs (by rfl) (rivetref07_digit.calls (sx a0 v25) t40 _ hx41) ?_
    rintro e wd42 ⟨rfl, hw43⟩
    refine ⟨_, rfl, ?_⟩
    replace hw := hw.call hw43
    clear hs; intro a hs; replace hs := hs.rms [36]
    refine go_pvs 13 [33, 37] [(40, .bool (!t40))] hs ?_; clear hs; intro a hs
    cases hb44 : (!t40)
    ·replace H := ite_t H (nf hb44)
     rw [hb44] at hs
     refine go_pvs 18 [40] [(45, .bool false)] hs ?_; clear hs; intro a hs
     refine go_end ?_
     exact hJ3 false _ _ hs.kx hw H
    ·replace H := ite_f H (ff (nt hb44))
     rw [hb44] at hs
     refine go_pvs 15 [] [(41, .string a0), (42, .int .i64 v25)] hs ?_; clear hs; intro a hs
     obtain ⟨hp45, H⟩ := ite_only H
     refine go_run hs (by rfl) (x_sidx (s := a0) (k := .i64) (i := v25) hp45) [41, 42] ?_; clear hs; intro a hs
     refine go_pvs 18 [40, 43] [(45, .bool ((sx a0 v25) != 95))] hs ?_; clear hs; intro a hs
     refine go_end ?_
     exact hJ3 ((sx a0 v25) != 95) _ _ hs.kx hw H
  ·replace H := ite_f H (of_decide_eq_false hc)
   have hb50 := hc
   rw [hb50] at hs
   refine wp_exit ?_
   refine th_exit ?_
   refine th_exit ?_
   refine in_block ?_
   rw [← hr24 _ (Option.some.inj H).symm] at HX24
   exact hJ5 _ _ hs.kx hw HX24
 refine go_seq_k fun K3 hK3 => ?_
 have hJ1 : ∀ (v18 : Bool) (a : Act) (w : World), Slots a 46 [(0, .string a0), (21, .bool v18)] → St [] w0 w [] → rivetref07_Name.j1 a0 v18 = some r → K3 a w := by
  intro v18 a w hs hw H
  unfold rivetref07_Name.j1 at H
  refine hK3 _ _ ?_
  refine go_cond hs v18 (fun hc => ?_) fun hc => ?_
  ·replace H := ite_t H hc
   have hb19 := hc
   rw [hb19] at hs
   refine go_sp [0, 21] [(2, .bool false)] hs ?_; clear hs; intro a hs
   refine wp_ret ?_
   refine th_ret ?_
   obtain rfl := Option.some.inj H
   refine ret1 (t := 2) (v := .bool false) hs (by kernel_rfl) (by kernel_rfl) ?_
   exact ⟨rfl, hw.only 0⟩
  ·replace H := ite_f H (ff hc)
   have hb21 := hc
   rw [hb21] at hs
   refine wp_skip ?_
   exact hJ2 _ _ hs.kx hw H
 refine go_region ?_
 refine go_pvs 4 [] [(7, .bool (decide ((a0.size : Int) < 1)))] hs ?_; clear hs; intro a hs
 cases hb4 : (decide ((a0.size : Int) < 1))
 ·replace H := ite_f H (of_decide_eq_false hb4)
  rw [hb4] at hs
  refine go_pvs 9 [7] [(12, .bool (decide ((a0.size : Int) > 12)))] hs ?_; clear hs; intro a hs
  cases hb5 : (decide ((a0.size : Int) > 12))
  ·replace H := ite_f H (of_decide_eq_false hb5)
   rw [hb5] at hs
   refine go_pvs 10 [] [(13, .string a0)] hs ?_; clear hs; intro a hs
   obtain ⟨hp6, H⟩ := ite_only H
   refine go_run hs (by rfl) (x_sidx (s := a0) (k := .i64) (i := 0) hp6) [13] ?_; clear hs; intro a hs
   obtain ⟨t8, hx9, H⟩ := bind_some H
   refine go_call hs (by rfl) (rivetref07_letter.calls (sx a0 0) t8 _ hx9) ?_
   rintro e wd10 ⟨rfl, hw11⟩
   refine ⟨_, rfl, ?_⟩
   replace hw := hw.call hw11
   clear hs; intro a hs; replace hs := hs.rms [14]
   refine go_pvs 15 [12, 15] [(18, .bool (!t8))] hs ?_; clear hs; intro a hs
   cases hb12 : (!t8)
   ·replace H := ite_t H (nf hb12)
    rw [hb12] at hs
    refine go_pvs 16 [] [(19, .string a0)] hs ?_; clear hs; intro a hs
    obtain ⟨t14, hx15, H⟩ := bind_some H
    refine go_call hs (by rfl) (rivetref07_Register.calls a0 t14 _ hx15) ?_
    rintro e wd16 ⟨rfl, hw17⟩
    refine ⟨_, rfl, ?_⟩
    replace hw := hw.call hw17
    clear hs; intro a hs; replace hs := hs.rms [19]
    refine go_pvs 18 [18, 20] [(21, .bool t14)] hs ?_; clear hs; intro a hs
    refine go_end ?_
    exact hJ1 t14 _ _ hs.kx hw H
   ·replace H := ite_f H (ff (nt hb12))
    rw [hb12] at hs
    refine go_pvs 18 [18] [(21, .bool true)] hs ?_; clear hs; intro a hs
    refine go_end ?_
    exact hJ1 true _ _ hs.kx hw H
  ·replace H := ite_t H (of_decide_eq_true hb5)
   rw [hb5] at hs
   refine go_pvs 18 [12] [(21, .bool true)] hs ?_; clear hs; intro a hs
   refine go_end ?_
   exact hJ1 true _ _ hs.kx hw H
 ·replace H := ite_t H (of_decide_eq_true hb4)
  rw [hb4] at hs
  refine go_pvs 18 [7] [(21, .bool true)] hs ?_; clear hs; intro a hs
  refine go_end ?_
  exact hJ1 true _ _ hs.kx hw H

/-! strings.trimLeftByte: function 54 -/
noncomputable def strings_trimLeftByte.j2 (v4 : ByteArray) : Option (ByteArray ⊕ ByteArray) := (if 0 ≤ (1 : Int) ∧ (1 : Int) ≤ (v4.size : Int) ∧ (v4.size : Int) ≤ (v4.size : Int) then (nm (v4.extract ((1 : Int) : Int).toNat ((v4.size : Int) : Int).toNat) fun y13 => some (.inl y13)) else none)
noncomputable def strings_trimLeftByte.j1 (v4 : ByteArray) (v9 : Bool) : Option (ByteArray ⊕ ByteArray) := (if v9 = true then strings_trimLeftByte.j2 v4 else some (.inr v4))
noncomputable def strings_trimLeftByte.j3 (v14 : ByteArray) : Option ByteArray := some v14
noncomputable def strings_trimLeftByte.b3 (a1 : Int) (v4 : ByteArray) : Option (ByteArray ⊕ ByteArray) := (if (v4.size : Int) > 0 then (if 0 ≤ (0 : Int) ∧ (0 : Int) < (v4.size : Int) then strings_trimLeftByte.j1 v4 ((sx v4 0) == a1) else none) else strings_trimLeftByte.j1 v4 false)
noncomputable def strings_trimLeftByte (a0 : ByteArray) (a1 : Int) : Option ByteArray := ((loopO (fun (σ : ByteArray) => strings_trimLeftByte.b3 a1 σ) a0).bind fun e => strings_trimLeftByte.j3 e)
set_option maxRecDepth 100000 in
set_option maxHeartbeats 4000000 in
theorem strings_trimLeftByte.calls (a0 : ByteArray) (a1 : Int) (r : ByteArray) (w0 : World) (H : strings_trimLeftByte a0 a1 = some r) :
    Calls Tryd.prog 54 #[.string a0, .int .u8 a1] w0 fun e w' => e = .returned (.string r) ∧ St [] w0 w' [] := by
 have hw : St [] w0 w0 [] := St.nil w0
 unfold strings_trimLeftByte at H
 refine go_fn Tryd.func54 rfl Tryd.ntmps54 ?_; intro a hs
 refine go_sp [] [] hs ?_; clear hs; intro a hs
 refine go_seq_k fun K2 hK2 => ?_
 refine wp_block ?_
 obtain ⟨e3, hl3, HX3⟩ := bind_some H
 have hJ3 : ∀ (v14 : ByteArray) (a : Act) (w : World), Slots a 17 [(0, .string v14)] → St [] w0 w [] → strings_trimLeftByte.j3 v14 = some r → K2 a w := by
  intro v14 a w hs hw H
  unfold strings_trimLeftByte.j3 at H
  refine hK2 _ _ ?_
  refine go_sp [0] [(4, .string v14)] hs ?_; clear hs; intro a hs
  refine wp_ret ?_
  obtain rfl := Option.some.inj H
  refine ret1 (t := 4) (v := .string v14) hs (by kernel_rfl) (by kernel_rfl) ?_
  exact ⟨rfl, hw.only 0⟩
 clear H
 refine go_loop (σ := ByteArray) (fun σ a w => Slots a 17 [(0, .string σ), (1, .int .u8 a1)] ∧ St [] w0 w []) hl3 (by exact ⟨hs.kx, hw⟩) ?_
 rintro v4 a w ⟨hs, hw⟩ o H hr3
 replace hs : Slots a 17 [(0, .string v4), (1, .int .u8 a1)] := hs
 replace hw : St [] w0 w [] := hw
 replace H : strings_trimLeftByte.b3 a1 v4 = some o := H
 unfold strings_trimLeftByte.b3 at H
 refine go_seq_k fun K5 hK5 => ?_
 have hJ2 : ∀ (a : Act) (w : World), Slots a 17 [(0, .string v4), (1, .int .u8 a1)] → St [] w0 w [] → strings_trimLeftByte.j2 v4 = some o → K5 a w := by
  intro a w hs hw H
  unfold strings_trimLeftByte.j2 at H
  refine hK5 _ _ ?_
  refine wp_block ?_
  refine go_region ?_
  refine go_pvs 1 [0] [(14, .string v4)] hs ?_; clear hs; intro a hs
  obtain ⟨hp12, H⟩ := ite_only H
  refine go_run hs (by rfl) (x_scut (s := v4) (k := .i64) (k' := .i64) (l0 := (1 : Int)) (h := (v4.size : Int)) (by kernel_rfl) (by kernel_rfl) (Or.inl (by kernel_rfl)) (Or.inr ⟨rfl, rfl⟩) hp12.1 hp12.2.1 hp12.2.2) [14] ?_; clear hs; intro a hs
  refine go_pvs 3 [15] [(0, .string (v4.extract ((1 : Int) : Int).toNat ((v4.size : Int) : Int).toNat))] hs ?_; clear hs; intro a hs
  obtain ⟨y13, hy13, H⟩ := nm_some H
  replace hs : Slots a 17 [(0, .string y13), (1, .int .u8 a1)] := by rw [hy13]; exact hs.kx
  refine go_end ?_
  refine ib_norm ?_
  exact round_end y13 (Option.some.inj H).symm ⟨hs.kx, hw⟩
 refine go_seq_k fun K6 hK6 => ?_
 have hJ1 : ∀ (v9 : Bool) (a : Act) (w : World), Slots a 17 [(0, .string v4), (1, .int .u8 a1), (13, .bool v9)] → St [] w0 w [] → strings_trimLeftByte.j1 v4 v9 = some o → K6 a w := by
  intro v9 a w hs hw H
  unfold strings_trimLeftByte.j1 at H
  refine hK6 _ _ ?_
  refine go_cond hs v9 (fun hc => ?_) fun hc => ?_
  ·replace H := ite_t H hc
   have hb10 := hc
   rw [hb10] at hs
   refine wp_skip ?_
   exact hJ2 _ _ hs.kx hw H
  ·replace H := ite_f H (ff hc)
   have hb11 := hc
   rw [hb11] at hs
   refine wp_exit ?_
   refine th_exit ?_
   refine th_exit ?_
   refine in_block ?_
   rw [← hr3 _ (Option.some.inj H).symm] at HX3
   exact hJ3 v4 _ _ hs.kx hw HX3
 refine go_region ?_
 refine go_pvs 4 [] [(8, .bool (decide ((v4.size : Int) > 0)))] hs ?_; clear hs; intro a hs
 cases hb7 : (decide ((v4.size : Int) > 0))
 ·replace H := ite_f H (of_decide_eq_false hb7)
  rw [hb7] at hs
  refine go_pvs 9 [8] [(13, .bool false)] hs ?_; clear hs; intro a hs
  refine go_end ?_
  exact hJ1 false _ _ hs.kx hw H
 ·replace H := ite_t H (of_decide_eq_true hb7)
  rw [hb7] at hs
  refine go_pvs 5 [] [(9, .string v4)] hs ?_; clear hs; intro a hs
  obtain ⟨hp8, H⟩ := ite_only H
  refine go_run hs (by rfl) (x_sidx (s := v4) (k := .i64) (i := 0) hp8) [9] ?_; clear hs; intro a hs
  refine go_pvs 9 [8, 10] [(13, .bool ((sx v4 0) == a1))] hs ?_; clear hs; intro a hs
  refine go_end ?_
  exact hJ1 ((sx v4 0) == a1) _ _ hs.kx hw H

/-! strings.trimRightByte: function 55 -/
noncomputable def strings_trimRightByte.j2 (v4 : ByteArray) : Option (ByteArray ⊕ ByteArray) := (if 0 ≤ (0 : Int) ∧ (0 : Int) ≤ (w64 ((v4.size : Int) - 1)) ∧ (w64 ((v4.size : Int) - 1)) ≤ (v4.size : Int) then (nm (v4.extract ((0 : Int) : Int).toNat ((w64 ((v4.size : Int) - 1)) : Int).toNat) fun y13 => some (.inl y13)) else none)
noncomputable def strings_trimRightByte.j1 (v4 : ByteArray) (v9 : Bool) : Option (ByteArray ⊕ ByteArray) := (if v9 = true then strings_trimRightByte.j2 v4 else some (.inr v4))
noncomputable def strings_trimRightByte.j3 (v14 : ByteArray) : Option ByteArray := some v14
noncomputable def strings_trimRightByte.b3 (a1 : Int) (v4 : ByteArray) : Option (ByteArray ⊕ ByteArray) := (if (v4.size : Int) > 0 then (if 0 ≤ (w64 ((v4.size : Int) - 1)) ∧ (w64 ((v4.size : Int) - 1)) < (v4.size : Int) then strings_trimRightByte.j1 v4 ((sx v4 (w64 ((v4.size : Int) - 1))) == a1) else none) else strings_trimRightByte.j1 v4 false)
noncomputable def strings_trimRightByte (a0 : ByteArray) (a1 : Int) : Option ByteArray := ((loopO (fun (σ : ByteArray) => strings_trimRightByte.b3 a1 σ) a0).bind fun e => strings_trimRightByte.j3 e)
set_option maxRecDepth 100000 in
set_option maxHeartbeats 4000000 in
theorem strings_trimRightByte.calls (a0 : ByteArray) (a1 : Int) (r : ByteArray) (w0 : World) (H : strings_trimRightByte a0 a1 = some r) :
    Calls Tryd.prog 55 #[.string a0, .int .u8 a1] w0 fun e w' => e = .returned (.string r) ∧ St [] w0 w' [] := by
 have hw : St [] w0 w0 [] := St.nil w0
 unfold strings_trimRightByte at H
 refine go_fn Tryd.func55 rfl Tryd.ntmps55 ?_; intro a hs
 refine go_sp [] [] hs ?_; clear hs; intro a hs
 refine go_seq_k fun K2 hK2 => ?_
 refine wp_block ?_
 obtain ⟨e3, hl3, HX3⟩ := bind_some H
 have hJ3 : ∀ (v14 : ByteArray) (a : Act) (w : World), Slots a 23 [(0, .string v14)] → St [] w0 w [] → strings_trimRightByte.j3 v14 = some r → K2 a w := by
  intro v14 a w hs hw H
  unfold strings_trimRightByte.j3 at H
  refine hK2 _ _ ?_
  refine go_sp [0] [(4, .string v14)] hs ?_; clear hs; intro a hs
  refine wp_ret ?_
  obtain rfl := Option.some.inj H
  refine ret1 (t := 4) (v := .string v14) hs (by kernel_rfl) (by kernel_rfl) ?_
  exact ⟨rfl, hw.only 0⟩
 clear H
 refine go_loop (σ := ByteArray) (fun σ a w => Slots a 23 [(0, .string σ), (1, .int .u8 a1)] ∧ St [] w0 w []) hl3 (by exact ⟨hs.kx, hw⟩) ?_
 rintro v4 a w ⟨hs, hw⟩ o H hr3
 replace hs : Slots a 23 [(0, .string v4), (1, .int .u8 a1)] := hs
 replace hw : St [] w0 w [] := hw
 replace H : strings_trimRightByte.b3 a1 v4 = some o := H
 unfold strings_trimRightByte.b3 at H
 refine go_seq_k fun K5 hK5 => ?_
 have hJ2 : ∀ (a : Act) (w : World), Slots a 23 [(0, .string v4), (1, .int .u8 a1)] → St [] w0 w [] → strings_trimRightByte.j2 v4 = some o → K5 a w := by
  intro a w hs hw H
  unfold strings_trimRightByte.j2 at H
  refine hK5 _ _ ?_
  refine wp_block ?_
  refine go_region ?_
  refine go_pvs 4 [0] [(17, .string v4), (20, .int .i64 (w64 ((v4.size : Int) - 1)))] hs ?_; clear hs; intro a hs
  obtain ⟨hp12, H⟩ := ite_only H
  refine go_run hs (by rfl) (x_scut (s := v4) (k := .i64) (k' := .i64) (l0 := (0 : Int)) (h := (w64 ((v4.size : Int) - 1))) (by kernel_rfl) (by kernel_rfl) (Or.inr ⟨rfl, rfl⟩) (Or.inl (by kernel_rfl)) hp12.1 hp12.2.1 hp12.2.2) [17, 20] ?_; clear hs; intro a hs
  refine go_pvs 6 [21] [(0, .string (v4.extract ((0 : Int) : Int).toNat ((w64 ((v4.size : Int) - 1)) : Int).toNat))] hs ?_; clear hs; intro a hs
  obtain ⟨y13, hy13, H⟩ := nm_some H
  replace hs : Slots a 23 [(0, .string y13), (1, .int .u8 a1)] := by rw [hy13]; exact hs.kx
  refine go_end ?_
  refine ib_norm ?_
  exact round_end y13 (Option.some.inj H).symm ⟨hs.kx, hw⟩
 refine go_seq_k fun K6 hK6 => ?_
 have hJ1 : ∀ (v9 : Bool) (a : Act) (w : World), Slots a 23 [(0, .string v4), (1, .int .u8 a1), (16, .bool v9)] → St [] w0 w [] → strings_trimRightByte.j1 v4 v9 = some o → K6 a w := by
  intro v9 a w hs hw H
  unfold strings_trimRightByte.j1 at H
  refine hK6 _ _ ?_
  refine go_cond hs v9 (fun hc => ?_) fun hc => ?_
  ·replace H := ite_t H hc
   have hb10 := hc
   rw [hb10] at hs
   refine wp_skip ?_
   exact hJ2 _ _ hs.kx hw H
  ·replace H := ite_f H (ff hc)
   have hb11 := hc
   rw [hb11] at hs
   refine wp_exit ?_
   refine th_exit ?_
   refine th_exit ?_
   refine in_block ?_
   rw [← hr3 _ (Option.some.inj H).symm] at HX3
   exact hJ3 v4 _ _ hs.kx hw HX3
 refine go_region ?_
 refine go_pvs 4 [] [(8, .bool (decide ((v4.size : Int) > 0)))] hs ?_; clear hs; intro a hs
 cases hb7 : (decide ((v4.size : Int) > 0))
 ·replace H := ite_f H (of_decide_eq_false hb7)
  rw [hb7] at hs
  refine go_pvs 12 [8] [(16, .bool false)] hs ?_; clear hs; intro a hs
  refine go_end ?_
  exact hJ1 false _ _ hs.kx hw H
 ·replace H := ite_t H (of_decide_eq_true hb7)
  rw [hb7] at hs
  refine go_pvs 8 [] [(9, .string v4), (12, .int .i64 (w64 ((v4.size : Int) - 1)))] hs ?_; clear hs; intro a hs
  obtain ⟨hp8, H⟩ := ite_only H
  refine go_run hs (by rfl) (x_sidx (s := v4) (k := .i64) (i := w64 ((v4.size : Int) - 1)) hp8) [9, 12] ?_; clear hs; intro a hs
  refine go_pvs 12 [8, 13] [(16, .bool ((sx v4 (w64 ((v4.size : Int) - 1))) == a1))] hs ?_; clear hs; intro a hs
  refine go_end ?_
  exact hJ1 ((sx v4 (w64 ((v4.size : Int) - 1))) == a1) _ _ hs.kx hw H

/-! strings.makeASCIISet: function 56 -/
noncomputable def strings_makeASCIISet.j1 (v28 : Vector Bool 256) : Option ((Vector Bool 256) × Bool) := some (v28, true)
noncomputable def strings_makeASCIISet.b8 (a0 : ByteArray) (v9 : Vector Bool 256) (v10 : Int) : Option ((Vector Bool 256) × Int ⊕ (Ex ((Vector Bool 256) × Bool) (Vector Bool 256))) := (if v10 < (a0.size : Int) then (if 0 ≤ v10 ∧ v10 < (a0.size : Int) then (if (sx a0 v10) ≥ 128 then some (.inr (.ret (v9, false))) else (if 0 ≤ (sx a0 v10) ∧ (sx a0 v10) < ((256 : Nat) : Int) then some (.inl (vset v9 (sx a0 v10 : Int).toNat true, w64 (v10 + 1))) else none)) else none) else some (.inr (.done v9)))
noncomputable def strings_makeASCIISet (a0 : ByteArray) : Option ((Vector Bool 256) × Bool) := ((loopO (fun (σ : (Vector Bool 256) × Int) => strings_makeASCIISet.b8 a0 σ.1 σ.2) ((Vector.replicate 256 false), 0)).bind fun e => match e with | .ret x => some x | .done e => strings_makeASCIISet.j1 e)
set_option maxRecDepth 100000 in
set_option maxHeartbeats 4000000 in
theorem strings_makeASCIISet.calls (a0 : ByteArray) (r : (Vector Bool 256) × Bool) (w0 : World) (H : strings_makeASCIISet a0 = some r) :
    Calls Tryd.prog 56 #[.string a0] w0 fun e w' => e = .returned (.tuple #[.agg (eA103.enc r.1).toArray, .bool r.2]) ∧ St [] w0 w' [] := by
 have hw : St [] w0 w0 [] := St.nil w0
 unfold strings_makeASCIISet at H
 refine go_fn Tryd.func56 rfl Tryd.ntmps56 ?_; intro a hs
 refine go_sk fun K1 hK1 => ?_
 obtain ⟨ad2, wd3, hx4, hw⟩ := x_alloc1 (P := Tryd.prog) (elem := 103) (ty := 0) (z := .agg (eA103.enc (Vector.replicate 256 false)).toArray) hs hw eA103 (Vector.replicate 256 false) (by kernel_rfl) (by kernel_rfl)
 refine go_run hs (by rfl) hx4 [] ?_; clear hs; intro a hs
 refine go_pvs 2 [] [] hs ?_; clear hs; intro a hs
 refine go_end (hK1 _ _ ?_)
 refine go_seq_k fun K6 hK6 => ?_
 refine go_sp [] [(4, .int .i64 0)] hs ?_; clear hs; intro a hs
 refine wp_block ?_
 obtain ⟨e8, hl8, HX8⟩ := bind_some H
 have hJ1 : ∀ (v28 : Vector Bool 256) (a : Act) (w : World), Slots a 21 [(2, .pointer (some ad2))] → St [] w0 w [own 103 eA103 (some ad2) 1 [v28]] → strings_makeASCIISet.j1 v28 = some r → K6 a w := by
  intro v28 a w hs hw H
  unfold strings_makeASCIISet.j1 at H
  refine hK6 _ _ ?_
  refine go_sk fun K29 hK29 => ?_
  refine go_run hs (by rfl) (x_ldw (E := eA103) (e := v28) (p := ad2) (Rd.of_own (hw.up 0)) (by kernel_rfl) rfl (by kernel_rfl) (by kernel_rfl)) [] ?_; clear hs; intro a hs
  obtain ⟨wd30, hx31, hw⟩ := x_putw (P := Tryd.prog) (ty := 0) (t := 103) (x := (Operand.tmp 2)) (y := (Operand.tmp 20)) (p := ad2) (e' := v28) hs hw (by kernel_rfl) rfl (by kernel_rfl) (by kernel_rfl)
  refine go_unit hs (by rfl) hx31 [20] ?_; clear hs; intro a hs
  refine go_pvs 3 [] [(3, .bool true)] hs ?_; clear hs; intro a hs
  refine go_end (hK29 _ _ ?_)
  refine wp_ret ?_
  obtain rfl := Option.some.inj H
  replace hs : Slots a 21 [(2, .pointer (some ad2)), (3, .bool true)] := hs.kx
  refine ret2g (L := [(2, .pointer (some ad2)), (3, .bool true)]) (r1 := .cell 2 103) (v1 := .agg (eA103.enc v28).toArray) (r2 := .tmp 3) (v2 := .bool true) hs (by kernel_rfl) ⟨_, (show lk 2 [(2, .pointer (some ad2)), (3, .bool true)] = some (.pointer (some ad2)) by kernel_rfl), lv_row (E := eA103) (x := v28) (by kernel_rfl) (by kernel_rfl) (Rd.of_own (hw.up 0))⟩ (show lk 3 [(2, .pointer (some ad2)), (3, .bool true)] = some (.bool true) by kernel_rfl) ?_
  exact ⟨rfl, hw.only 0⟩
 clear H
 refine go_loop (σ := (Vector Bool 256) × Int) (fun σ a w => Slots a 21 [(0, .string a0), (2, .pointer (some ad2)), (4, .int .i64 σ.2)] ∧ St [] w0 w [own 103 eA103 (some ad2) 1 [σ.1]]) hl8 (by exact ⟨hs.kx, hw⟩) ?_
 rintro ⟨v9, v10⟩ a w ⟨hs, hw⟩ o H hr8
 replace hs : Slots a 21 [(0, .string a0), (2, .pointer (some ad2)), (4, .int .i64 v10)] := hs
 replace hw : St [] w0 w [own 103 eA103 (some ad2) 1 [v9]] := hw
 replace H : strings_makeASCIISet.b8 a0 v9 v10 = some o := H
 unfold strings_makeASCIISet.b8 at H
 refine go_seq_k fun K11 hK11 => ?_
 refine go_sp [] [(9, .bool (decide (v10 < (a0.size : Int))))] hs ?_; clear hs; intro a hs
 refine go_cond hs (decide (v10 < (a0.size : Int))) (fun hc => ?_) fun hc => ?_
 ·replace H := ite_t H (of_decide_eq_true hc)
  have hb13 := hc
  rw [hb13] at hs
  refine wp_skip ?_
  refine hK11 _ _ ?_
  refine go_seq_k fun K14 hK14 => ?_
  refine wp_block ?_
  refine go_sk fun K15 hK15 => ?_
  refine go_pvs 2 [9] [(12, .string a0), (13, .int .i64 v10)] hs ?_; clear hs; intro a hs
  obtain ⟨hp16, H⟩ := ite_only H
  refine go_run hs (by rfl) (x_sidx (s := a0) (k := .i64) (i := v10) hp16) [12, 13] ?_; clear hs; intro a hs
  refine go_pvs 4 [14] [(5, .int .u8 (sx a0 v10))] hs ?_; clear hs; intro a hs
  refine go_end (hK15 _ _ ?_)
  refine go_seq_k fun K17 hK17 => ?_
  refine go_sp [] [(16, .bool (decide ((sx a0 v10) ≥ 128)))] hs ?_; clear hs; intro a hs
  refine go_cond hs (decide ((sx a0 v10) ≥ 128)) (fun hc => ?_) fun hc => ?_
  ·replace H := ite_t H (of_decide_eq_true hc)
   have hb19 := hc
   rw [hb19] at hs
   refine go_sk fun K20 hK20 => ?_
   refine go_run hs (by rfl) (x_ldw (E := eA103) (e := v9) (p := ad2) (Rd.of_own (hw.up 0)) (by kernel_rfl) rfl (by kernel_rfl) (by kernel_rfl)) [0, 4, 5, 16] ?_; clear hs; intro a hs
   obtain ⟨wd21, hx22, hw⟩ := x_putw (P := Tryd.prog) (ty := 0) (t := 103) (x := (Operand.tmp 2)) (y := (Operand.tmp 17)) (p := ad2) (e' := v9) hs hw (by kernel_rfl) rfl (by kernel_rfl) (by kernel_rfl)
   refine go_unit hs (by rfl) hx22 [17] ?_; clear hs; intro a hs
   refine go_pvs 3 [] [(3, .bool false)] hs ?_; clear hs; intro a hs
   refine go_end (hK20 _ _ ?_)
   refine wp_ret ?_
   refine th_ret ?_
   refine ib_ret ?_
   refine th_ret ?_
   refine th_ret ?_
   refine ib_ret ?_
   refine th_ret ?_
   rw [← hr8 _ (Option.some.inj H).symm] at HX8
   replace H : some (v9, false) = some r := HX8
   obtain rfl := Option.some.inj H
   replace hs : Slots a 21 [(2, .pointer (some ad2)), (3, .bool false)] := hs.kx
   refine ret2g (L := [(2, .pointer (some ad2)), (3, .bool false)]) (r1 := .cell 2 103) (v1 := .agg (eA103.enc v9).toArray) (r2 := .tmp 3) (v2 := .bool false) hs (by kernel_rfl) ⟨_, (show lk 2 [(2, .pointer (some ad2)), (3, .bool false)] = some (.pointer (some ad2)) by kernel_rfl), lv_row (E := eA103) (x := v9) (by kernel_rfl) (by kernel_rfl) (Rd.of_own (hw.up 0))⟩ (show lk 3 [(2, .pointer (some ad2)), (3, .bool false)] = some (.bool false) by kernel_rfl) ?_
   exact ⟨rfl, hw.only 0⟩
  ·replace H := ite_f H (of_decide_eq_false hc)
   have hb23 := hc
   rw [hb23] at hs
   refine wp_skip ?_
   refine hK17 _ _ ?_
   refine go_region ?_
   refine go_pvs 1 [5, 16] [(18, .int .u8 (sx a0 v10))] hs ?_; clear hs; intro a hs
   obtain ⟨hp24, H⟩ := ite_only H
   refine go_run hs (by rfl) (x_vidx (e := 4) (p := ad2) (n := 256) (k := .u8) (i := (sx a0 v10)) (sz := 1) hp24) [18] ?_; clear hs; intro a hs
   obtain ⟨wd25, hx26, hw⟩ := x_put (P := Tryd.prog) (ty := 0) (t := 4) (x := (Operand.tmp 19)) (y := (Operand.const (Value.bool true))) (off := 0 + (sx a0 v10 : Int).toNat * 1) (p := (ad2 : Addr).add ((sx a0 v10 : Int).toNat * 1)) (v := .bool true) (vs := [.bool true]) (i := 0) (e' := (vset v9 (sx a0 v10 : Int).toNat true : Vector Bool 256)) hs hw rfl (one_ok (Vector.replicate 256 false)).1 (one_ok (Vector.replicate 256 false)).2 (by kernel_rfl) (by simp only [add_add', Int.toNat_zero, Nat.zero_mul, Nat.zero_add, Nat.mul_one] <;> rfl) (by kernel_rfl) rfl (by kernel_rfl) (by have := hp24; show 0 + _ * 1 + 1 ≤ 256; omega) (by simp [Value.oneCell']) (vput (cs := eA103.enc v9) (cs' := eA103.enc (vset v9 (sx a0 v10 : Int).toNat true)) (pre := []) (post := []) (f := (fun j : Nat => .bool (vx false v9 j))) (f' := (fun j : Nat => .bool (vx false (vset v9 (sx a0 v10 : Int).toNat true) j))) (n := 256) (o := 0) (i := (sx a0 v10 : Int).toNat) (v := .bool true) (by rw [List.nil_append, List.append_nil, ← vec_range false v9 Value.bool]; rfl) (by rw [List.nil_append, List.append_nil, ← vec_range false (vset v9 (sx a0 v10 : Int).toNat true) Value.bool]; rfl) rfl (by have := hp24; omega) (vx_putb (by have := hp24; omega)))
   refine go_unit hs (by rfl) hx26 [19] ?_; clear hs; intro a hs
   replace hw : St [] w0 wd25 [own 103 eA103 (some ad2) 1 [vset v9 (sx a0 v10 : Int).toNat true]] := hw
   refine go_end ?_
   refine ib_norm ?_
   refine hK14 _ _ ?_
   refine go_plain [] [(4, .int .i64 (w64 (v10 + 1)))] hs ?_; clear hs; intro a hs
   exact round_end (vset v9 (sx a0 v10 : Int).toNat true, w64 (v10 + 1)) (Option.some.inj H).symm ⟨hs.kx, hw⟩
 ·replace H := ite_f H (of_decide_eq_false hc)
  have hb27 := hc
  rw [hb27] at hs
  refine wp_exit ?_
  refine th_exit ?_
  refine th_exit ?_
  refine in_block ?_
  rw [← hr8 _ (Option.some.inj H).symm] at HX8
  exact hJ1 v9 _ _ hs.kx hw HX8

/-! strings.Trim: function 48 -/
noncomputable def strings_Trim.b45 (t28 : Vector Bool 256) (v46 : ByteArray) : Option (ByteArray ⊕ ByteArray) := (if (v46.size : Int) > 0 then (if 0 ≤ (w64 ((v46.size : Int) - 1)) ∧ (w64 ((v46.size : Int) - 1)) < (v46.size : Int) then (if 0 ≤ (sx v46 (w64 ((v46.size : Int) - 1))) ∧ (sx v46 (w64 ((v46.size : Int) - 1))) < ((256 : Nat) : Int) then (if (vx false t28 (sx v46 (w64 ((v46.size : Int) - 1)) : Int).toNat) = true then (if 0 ≤ (0 : Int) ∧ (0 : Int) ≤ (w64 ((v46.size : Int) - 1)) ∧ (w64 ((v46.size : Int) - 1)) ≤ (v46.size : Int) then (nm (v46.extract ((0 : Int) : Int).toNat ((w64 ((v46.size : Int) - 1)) : Int).toNat) fun y60 => some (.inl y60)) else none) else some (.inr v46)) else none) else none) else some (.inr v46))
noncomputable def strings_Trim.b67 (t28 : Vector Bool 256) (v68 : ByteArray) : Option (ByteArray ⊕ ByteArray) := (if (v68.size : Int) > 0 then (if 0 ≤ (0 : Int) ∧ (0 : Int) < (v68.size : Int) then (if 0 ≤ (sx v68 0) ∧ (sx v68 0) < ((256 : Nat) : Int) then (if (vx false t28 (sx v68 0 : Int).toNat) = true then (if 0 ≤ (1 : Int) ∧ (1 : Int) ≤ (v68.size : Int) ∧ (v68.size : Int) ≤ (v68.size : Int) then (nm (v68.extract ((1 : Int) : Int).toNat ((v68.size : Int) : Int).toNat) fun y82 => some (.inl y82)) else none) else some (.inr v68)) else none) else none) else some (.inr v68))
noncomputable def strings_Trim.j6 (v84 : ByteArray) : Option ByteArray := some v84
noncomputable def strings_Trim.j5 (t28 : Vector Bool 256) (v62 : ByteArray) : Option ByteArray := ((loopO (fun (σ : ByteArray) => strings_Trim.b67 t28 σ) v62).bind fun e => strings_Trim.j6 e)
noncomputable def strings_Trim.j4 (a1 : ByteArray) (a0 : ByteArray) : Option ByteArray := ((strings_makeASCIISet a1).bind fun ⟨t28, t29⟩ => ((if t29 = true then ((loopO (fun (σ : ByteArray) => strings_Trim.b45 t28 σ) a0).bind fun e => strings_Trim.j5 t28 e) else none)))
noncomputable def strings_Trim.j3 (a1 : ByteArray) (a0 : ByteArray) (v13 : Bool) : Option ByteArray := (if v13 = true then (if 0 ≤ (0 : Int) ∧ (0 : Int) < (a1.size : Int) then ((strings_trimRightByte a0 (sx a1 0)).bind fun t18 => ((if 0 ≤ (0 : Int) ∧ (0 : Int) < (a1.size : Int) then ((strings_trimLeftByte t18 (sx a1 0)).bind fun t22 => (some t22)) else none))) else none) else strings_Trim.j4 a1 a0)
noncomputable def strings_Trim.j2 (a1 : ByteArray) (a0 : ByteArray) : Option ByteArray := (if (a1.size : Int) = 1 then (if 0 ≤ (0 : Int) ∧ (0 : Int) < (a1.size : Int) then strings_Trim.j3 a1 a0 (decide ((sx a1 0) < 128)) else none) else strings_Trim.j3 a1 a0 false)
noncomputable def strings_Trim.j1 (a0 : ByteArray) (a1 : ByteArray) (v5 : Bool) : Option ByteArray := (if v5 = true then some a0 else strings_Trim.j2 a1 a0)
noncomputable def strings_Trim (a0 : ByteArray) (a1 : ByteArray) : Option ByteArray := (if (a0.toList == (⟨#[]⟩ : ByteArray).toList) = true then strings_Trim.j1 a0 a1 true else strings_Trim.j1 a0 a1 (a1.toList == (⟨#[]⟩ : ByteArray).toList))
set_option maxRecDepth 100000 in
set_option maxHeartbeats 4000000 in
theorem strings_Trim.calls (a0 : ByteArray) (a1 : ByteArray) (r : ByteArray) (w0 : World) (H : strings_Trim a0 a1 = some r) :
    Calls Tryd.prog 48 #[.string a0, .string a1] w0 fun e w' => e = .returned (.string r) ∧ St [] w0 w' [] := by
 have hw : St [] w0 w0 [] := St.nil w0
 unfold strings_Trim at H
 refine go_fn Tryd.func48 rfl Tryd.ntmps48 ?_; intro a hs
 refine go_sp [] [] hs ?_; clear hs; intro a hs
 refine go_seq_k fun K2 hK2 => ?_
 have hJ2 : ∀ (a : Act) (w : World), Slots a 43 [(0, .string a0), (1, .string a1)] → St [] w0 w [] → strings_Trim.j2 a1 a0 = some r → K2 a w := by
  intro a w hs hw H
  unfold strings_Trim.j2 at H
  refine hK2 _ _ ?_
  refine go_seq_k fun K9 hK9 => ?_
  have hJ4 : ∀ (a : Act) (w : World), Slots a 43 [(0, .string a0), (1, .string a1)] → St [] w0 w [] → strings_Trim.j4 a1 a0 = some r → K9 a w := by
   intro a w hs hw H
   unfold strings_Trim.j4 at H
   refine hK9 _ _ ?_
   refine go_seq_k fun K25 hK25 => ?_
   refine go_sk fun K26 hK26 => ?_
   refine go_pvs 1 [] [(30, .string a1)] hs ?_; clear hs; intro a hs
   obtain ⟨⟨t28, t29⟩, hx30, H⟩ := bind_some H
   refine go_call hs (by rfl) (strings_makeASCIISet.calls a1 (t28, t29) _ hx30) ?_
   rintro e wd31 ⟨rfl, hw32⟩
   refine ⟨_, rfl, ?_⟩
   replace hw := hw.call hw32
   clear hs; intro a hs; replace hs := hs.rms [30]
   refine go_pvs 5 [31] [(32, .agg (eA103.enc t28).toArray), (33, .bool t29)] hs ?_; clear hs; intro a hs
   obtain ⟨ad33, wd34, hx35, hw⟩ := x_alloc1 (P := Tryd.prog) (elem := 103) (ty := 0) (z := .agg (eA103.enc (Vector.replicate 256 false)).toArray) hs hw eA103 (Vector.replicate 256 false) (by kernel_rfl) (by kernel_rfl)
   refine go_run hs (by rfl) hx35 [] ?_; clear hs; intro a hs
   obtain ⟨wd37, hx38, hw⟩ := x_putw (P := Tryd.prog) (ty := 0) (t := 103) (x := (Operand.tmp 5)) (y := (Operand.tmp 32)) (p := ad33) (e' := t28) hs hw (by kernel_rfl) rfl (by kernel_rfl) (by kernel_rfl)
   refine go_unit hs (by rfl) hx38 [32] ?_; clear hs; intro a hs
   refine go_pvs 8 [33] [(6, .bool t29)] hs ?_; clear hs; intro a hs
   refine go_end (hK26 _ _ ?_)
   refine go_sp [6] [(34, .bool t29)] hs ?_; clear hs; intro a hs
   refine go_cond hs t29 (fun hc => ?_) fun hc => ?_
   ·replace H := ite_t H hc
    have hb40 := hc
    rw [hb40] at hs
    refine go_sk fun K41 hK41 => ?_
    refine go_pvs 1 [0, 1, 34] [(35, .string a0)] hs ?_; clear hs; intro a hs
    refine go_inline_k hs (by rfl) (f := 58) (args := #[.string a0, .pointer (some ad33)]) (fun KR42 hKR42 => ?_)
    refine go_fn Tryd.func58 rfl Tryd.ntmps58 ?_; clear hs; intro a hs
    refine go_sp [] [] hs ?_; clear hs; intro a hs
    refine go_seq_k fun K44 hK44 => ?_
    refine wp_block ?_
    obtain ⟨e45, hl45, HX45⟩ := bind_some H
    have hJ5 : ∀ (v62 : ByteArray) (a : Act) (w : World), Slots a 22 [(0, .string v62)] → St [] w0 w [own 103 eA103 (some ad33) 1 [t28]] → strings_Trim.j5 t28 v62 = some r → K44 a w := by
     intro v62 a w hs hw H
     unfold strings_Trim.j5 at H
     refine hK44 _ _ ?_
     refine go_sp [0] [(4, .string v62)] hs ?_; clear hs; intro a hs
     refine wp_ret ?_
     refine ret1 (t := 4) (v := .string v62) hs (by kernel_rfl) (by kernel_rfl) ?_
     refine ⟨_, rfl, ?_⟩
     refine hKR42 _ _ ?_
     intro a hs1; have hs : Slots a _ [(5, .pointer (some ad33)), (36, .string v62)] := hs1.kx; clear hs1
     refine go_inline_k hs (by rfl) (f := 57) (args := #[.string v62, .pointer (some ad33)]) (fun KR64 hKR64 => ?_)
     refine go_fn Tryd.func57 rfl Tryd.ntmps57 ?_; clear hs; intro a hs
     refine go_sp [] [] hs ?_; clear hs; intro a hs
     refine go_seq_k fun K66 hK66 => ?_
     refine wp_block ?_
     obtain ⟨e67, hl67, HX67⟩ := bind_some H
     have hJ6 : ∀ (v84 : ByteArray) (a : Act) (w : World), Slots a 16 [(0, .string v84)] → St [] w0 w [own 103 eA103 (some ad33) 1 [t28]] → strings_Trim.j6 v84 = some r → K66 a w := by
      intro v84 a w hs hw H
      unfold strings_Trim.j6 at H
      refine hK66 _ _ ?_
      refine go_sp [0] [(4, .string v84)] hs ?_; clear hs; intro a hs
      refine wp_ret ?_
      refine ret1 (t := 4) (v := .string v84) hs (by kernel_rfl) (by kernel_rfl) ?_
      refine ⟨_, rfl, ?_⟩
      refine hKR64 _ _ ?_
      intro a hs1; have hs : Slots a _ [(37, .string v84)] := hs1.kx; clear hs1
      refine go_pvs 4 [37] [(4, .string v84)] hs ?_; clear hs; intro a hs
      refine go_end (hK41 _ _ ?_)
      refine wp_ret ?_
      refine th_ret ?_
      obtain rfl := Option.some.inj H
      refine ret1 (t := 4) (v := .string v84) hs (by kernel_rfl) (by kernel_rfl) ?_
      exact ⟨rfl, hw.only 0⟩
     clear H
     refine go_loop (σ := ByteArray) (fun σ a w => Slots a 16 [(0, .string σ), (1, .pointer (some ad33))] ∧ St [] w0 w [own 103 eA103 (some ad33) 1 [t28]]) hl67 (by exact ⟨hs.kx, hw⟩) ?_
     rintro v68 a w ⟨hs, hw⟩ o H hr67
     replace hs : Slots a 16 [(0, .string v68), (1, .pointer (some ad33))] := hs
     replace hw : St [] w0 w [own 103 eA103 (some ad33) 1 [t28]] := hw
     replace H : strings_Trim.b67 t28 v68 = some o := H
     unfold strings_Trim.b67 at H
     refine go_seq_k fun K69 hK69 => ?_
     refine go_sp [] [(7, .bool (decide ((v68.size : Int) > 0)))] hs ?_; clear hs; intro a hs
     refine go_cond hs (decide ((v68.size : Int) > 0)) (fun hc => ?_) fun hc => ?_
     ·replace H := ite_t H (of_decide_eq_true hc)
      have hb71 := hc
      rw [hb71] at hs
      refine wp_skip ?_
      refine hK69 _ _ ?_
      refine wp_block ?_
      refine go_seq_k fun K72 hK72 => ?_
      refine go_sk fun K73 hK73 => ?_
      refine go_pvs 2 [7] [(8, .pointer (some ad33)), (9, .string v68)] hs ?_; clear hs; intro a hs
      obtain ⟨hp74, H⟩ := ite_only H
      refine go_run hs (by rfl) (x_sidx (s := v68) (k := .i64) (i := 0) hp74) [9] ?_; clear hs; intro a hs
      refine go_inline_k hs (by rfl) (f := 61) (args := #[.pointer (some ad33), .int .u8 (sx v68 0)]) (fun KR75 hKR75 => ?_)
      refine go_fn Tryd.func61 rfl Tryd.ntmps61 ?_; clear hs; intro a hs
      refine go_sp [] [] hs ?_; clear hs; intro a hs
      refine go_sk fun K77 hK77 => ?_
      refine go_pvs 3 [0, 1] [(6, .int .u8 (sx v68 0)), (7, .pointer (some ad33))] hs ?_; clear hs; intro a hs
      obtain ⟨hp78, H⟩ := ite_only H
      refine go_run hs (by rfl) (x_vidx (e := 4) (p := ad33) (n := 256) (k := .u8) (i := (sx v68 0)) (sz := 1) hp78) [6, 7] ?_; clear hs; intro a hs
      refine go_run hs (by rfl) (x_ld (off := 0 + (sx v68 0 : Int).toNat * 1) (p := (ad33 : Addr).add ((sx v68 0 : Int).toNat * 1)) (v := .bool (vx false t28 (sx v68 0 : Int).toNat)) (Rd.of_own (hw.up 0)) (one_ok t28) (by simp only [add_add', Int.toNat_zero, Nat.zero_mul, Nat.zero_add, Nat.mul_one] <;> rfl) (hv := (vget (cs := eA103.enc t28) (pre := []) (post := []) (f := (fun j : Nat => .bool (vx false t28 j))) (n := 256) (o := 0) (i := (sx v68 0 : Int).toNat) (by rw [List.nil_append, List.append_nil, ← vec_range false t28 Value.bool]; rfl) rfl (by have := hp78; omega)))) [8] ?_; clear hs; intro a hs
      refine go_pvs 6 [9] [(4, .bool (vx false t28 (sx v68 0 : Int).toNat))] hs ?_; clear hs; intro a hs
      refine go_end (hK77 _ _ ?_)
      refine wp_ret ?_
      refine ret1 (t := 4) (v := .bool (vx false t28 (sx v68 0 : Int).toNat)) hs (by kernel_rfl) (by kernel_rfl) ?_
      refine ⟨_, rfl, ?_⟩
      refine hKR75 _ _ ?_
      intro a hs1; have hs : Slots a _ [(0, .string v68), (1, .pointer (some ad33)), (11, .bool (vx false t28 (sx v68 0 : Int).toNat))] := hs1.kx; clear hs1
      refine go_pvs 5 [11] [(12, .bool (!(vx false t28 (sx v68 0 : Int).toNat)))] hs ?_; clear hs; intro a hs
      refine go_end (hK73 _ _ ?_)
      refine go_cond hs (!(vx false t28 (sx v68 0 : Int).toNat)) (fun hc => ?_) fun hc => ?_
      ·replace H := ite_f H (ff (nt hc))
       have hb79 := hc
       rw [hb79] at hs
       refine wp_exit ?_
       refine th_exit ?_
       refine ib_exit ?_ rfl
       refine th_exit ?_
       refine in_block ?_
       rw [← hr67 _ (Option.some.inj H).symm] at HX67
       exact hJ6 v68 _ _ hs.kx hw HX67
      ·replace H := ite_t H (nf hc)
       have hb80 := hc
       rw [hb80] at hs
       refine wp_skip ?_
       refine hK72 _ _ ?_
       refine go_region ?_
       refine go_pvs 1 [0, 12] [(13, .string v68)] hs ?_; clear hs; intro a hs
       obtain ⟨hp81, H⟩ := ite_only H
       refine go_run hs (by rfl) (x_scut (s := v68) (k := .i64) (k' := .i64) (l0 := (1 : Int)) (h := (v68.size : Int)) (by kernel_rfl) (by kernel_rfl) (Or.inl (by kernel_rfl)) (Or.inr ⟨rfl, rfl⟩) hp81.1 hp81.2.1 hp81.2.2) [13] ?_; clear hs; intro a hs
       refine go_pvs 3 [14] [(0, .string (v68.extract ((1 : Int) : Int).toNat ((v68.size : Int) : Int).toNat))] hs ?_; clear hs; intro a hs
       obtain ⟨y82, hy82, H⟩ := nm_some H
       replace hs : Slots a 16 [(0, .string y82), (1, .pointer (some ad33))] := by rw [hy82]; exact hs.kx
       refine go_end ?_
       refine ib_norm ?_
       exact round_end y82 (Option.some.inj H).symm ⟨hs.kx, hw⟩
     ·replace H := ite_f H (of_decide_eq_false hc)
      have hb83 := hc
      rw [hb83] at hs
      refine wp_exit ?_
      refine th_exit ?_
      refine th_exit ?_
      refine in_block ?_
      rw [← hr67 _ (Option.some.inj H).symm] at HX67
      exact hJ6 v68 _ _ hs.kx hw HX67
    clear H
    refine go_loop (σ := ByteArray) (fun σ a w => Slots a 22 [(0, .string σ), (1, .pointer (some ad33))] ∧ St [] w0 w [own 103 eA103 (some ad33) 1 [t28]]) hl45 (by exact ⟨hs.kx, hw⟩) ?_
    rintro v46 a w ⟨hs, hw⟩ o H hr45
    replace hs : Slots a 22 [(0, .string v46), (1, .pointer (some ad33))] := hs
    replace hw : St [] w0 w [own 103 eA103 (some ad33) 1 [t28]] := hw
    replace H : strings_Trim.b45 t28 v46 = some o := H
    unfold strings_Trim.b45 at H
    refine go_seq_k fun K47 hK47 => ?_
    refine go_sp [] [(7, .bool (decide ((v46.size : Int) > 0)))] hs ?_; clear hs; intro a hs
    refine go_cond hs (decide ((v46.size : Int) > 0)) (fun hc => ?_) fun hc => ?_
    ·replace H := ite_t H (of_decide_eq_true hc)
     have hb49 := hc
     rw [hb49] at hs
     refine wp_skip ?_
     refine hK47 _ _ ?_
     refine wp_block ?_
     refine go_seq_k fun K50 hK50 => ?_
     refine go_sk fun K51 hK51 => ?_
     refine go_pvs 5 [7] [(8, .pointer (some ad33)), (9, .string v46), (12, .int .i64 (w64 ((v46.size : Int) - 1)))] hs ?_; clear hs; intro a hs
     obtain ⟨hp52, H⟩ := ite_only H
     refine go_run hs (by rfl) (x_sidx (s := v46) (k := .i64) (i := w64 ((v46.size : Int) - 1)) hp52) [9, 12] ?_; clear hs; intro a hs
     refine go_inline_k hs (by rfl) (f := 61) (args := #[.pointer (some ad33), .int .u8 (sx v46 (w64 ((v46.size : Int) - 1)))]) (fun KR53 hKR53 => ?_)
     refine go_fn Tryd.func61 rfl Tryd.ntmps61 ?_; clear hs; intro a hs
     refine go_sp [] [] hs ?_; clear hs; intro a hs
     refine go_sk fun K55 hK55 => ?_
     refine go_pvs 3 [0, 1] [(6, .int .u8 (sx v46 (w64 ((v46.size : Int) - 1)))), (7, .pointer (some ad33))] hs ?_; clear hs; intro a hs
     obtain ⟨hp56, H⟩ := ite_only H
     refine go_run hs (by rfl) (x_vidx (e := 4) (p := ad33) (n := 256) (k := .u8) (i := (sx v46 (w64 ((v46.size : Int) - 1)))) (sz := 1) hp56) [6, 7] ?_; clear hs; intro a hs
     refine go_run hs (by rfl) (x_ld (off := 0 + (sx v46 (w64 ((v46.size : Int) - 1)) : Int).toNat * 1) (p := (ad33 : Addr).add ((sx v46 (w64 ((v46.size : Int) - 1)) : Int).toNat * 1)) (v := .bool (vx false t28 (sx v46 (w64 ((v46.size : Int) - 1)) : Int).toNat)) (Rd.of_own (hw.up 0)) (one_ok t28) (by simp only [add_add', Int.toNat_zero, Nat.zero_mul, Nat.zero_add, Nat.mul_one] <;> rfl) (hv := (vget (cs := eA103.enc t28) (pre := []) (post := []) (f := (fun j : Nat => .bool (vx false t28 j))) (n := 256) (o := 0) (i := (sx v46 (w64 ((v46.size : Int) - 1)) : Int).toNat) (by rw [List.nil_append, List.append_nil, ← vec_range false t28 Value.bool]; rfl) rfl (by have := hp56; omega)))) [8] ?_; clear hs; intro a hs
     refine go_pvs 6 [9] [(4, .bool (vx false t28 (sx v46 (w64 ((v46.size : Int) - 1)) : Int).toNat))] hs ?_; clear hs; intro a hs
     refine go_end (hK55 _ _ ?_)
     refine wp_ret ?_
     refine ret1 (t := 4) (v := .bool (vx false t28 (sx v46 (w64 ((v46.size : Int) - 1)) : Int).toNat)) hs (by kernel_rfl) (by kernel_rfl) ?_
     refine ⟨_, rfl, ?_⟩
     refine hKR53 _ _ ?_
     intro a hs1; have hs : Slots a _ [(0, .string v46), (1, .pointer (some ad33)), (14, .bool (vx false t28 (sx v46 (w64 ((v46.size : Int) - 1)) : Int).toNat))] := hs1.kx; clear hs1
     refine go_pvs 8 [14] [(15, .bool (!(vx false t28 (sx v46 (w64 ((v46.size : Int) - 1)) : Int).toNat)))] hs ?_; clear hs; intro a hs
     refine go_end (hK51 _ _ ?_)
     refine go_cond hs (!(vx false t28 (sx v46 (w64 ((v46.size : Int) - 1)) : Int).toNat)) (fun hc => ?_) fun hc => ?_
     ·replace H := ite_f H (ff (nt hc))
      have hb57 := hc
      rw [hb57] at hs
      refine wp_exit ?_
      refine th_exit ?_
      refine ib_exit ?_ rfl
      refine th_exit ?_
      refine in_block ?_
      rw [← hr45 _ (Option.some.inj H).symm] at HX45
      exact hJ5 v46 _ _ hs.kx hw HX45
     ·replace H := ite_t H (nf hc)
      have hb58 := hc
      rw [hb58] at hs
      refine wp_skip ?_
      refine hK50 _ _ ?_
      refine go_region ?_
      refine go_pvs 4 [0, 15] [(16, .string v46), (19, .int .i64 (w64 ((v46.size : Int) - 1)))] hs ?_; clear hs; intro a hs
      obtain ⟨hp59, H⟩ := ite_only H
      refine go_run hs (by rfl) (x_scut (s := v46) (k := .i64) (k' := .i64) (l0 := (0 : Int)) (h := (w64 ((v46.size : Int) - 1))) (by kernel_rfl) (by kernel_rfl) (Or.inr ⟨rfl, rfl⟩) (Or.inl (by kernel_rfl)) hp59.1 hp59.2.1 hp59.2.2) [16, 19] ?_; clear hs; intro a hs
      refine go_pvs 6 [20] [(0, .string (v46.extract ((0 : Int) : Int).toNat ((w64 ((v46.size : Int) - 1)) : Int).toNat))] hs ?_; clear hs; intro a hs
      obtain ⟨y60, hy60, H⟩ := nm_some H
      replace hs : Slots a 22 [(0, .string y60), (1, .pointer (some ad33))] := by rw [hy60]; exact hs.kx
      refine go_end ?_
      refine ib_norm ?_
      exact round_end y60 (Option.some.inj H).symm ⟨hs.kx, hw⟩
    ·replace H := ite_f H (of_decide_eq_false hc)
     have hb61 := hc
     rw [hb61] at hs
     refine wp_exit ?_
     refine th_exit ?_
     refine th_exit ?_
     refine in_block ?_
     rw [← hr45 _ (Option.some.inj H).symm] at HX45
     exact hJ5 v46 _ _ hs.kx hw HX45
   ·replace H := ite_f H (ff hc)
    have hb86 := hc
    rw [hb86] at hs
    refine wp_skip ?_
    refine hK25 _ _ ?_
    refine go_sk fun K87 hK87 => ?_
    refine go_pvs 2 [0, 5, 34] [(38, .string a0), (39, .string a1)] hs ?_; clear hs; intro a hs
    cases H
  refine go_seq_k fun K10 hK10 => ?_
  have hJ3 : ∀ (v13 : Bool) (a : Act) (w : World), Slots a 43 [(0, .string a0), (1, .string a1), (21, .bool v13)] → St [] w0 w [] → strings_Trim.j3 a1 a0 v13 = some r → K10 a w := by
   intro v13 a w hs hw H
   unfold strings_Trim.j3 at H
   refine hK10 _ _ ?_
   refine go_cond hs v13 (fun hc => ?_) fun hc => ?_
   ·replace H := ite_t H hc
    have hb14 := hc
    rw [hb14] at hs
    refine go_seq_k fun K15 hK15 => ?_
    refine q2_region (by kernel_rfl) (by kernel_rfl) ?_
    refine q_pvs 2 [0, 21] [(22, .string a0), (23, .string a1)] hs ?_; clear hs; intro a hs
    obtain ⟨hp16, H⟩ := ite_only H
    refine q_run hs (by rfl) (fun wx hbx => (x_sidx (s := a1) (k := .i64) (i := 0) hp16)) [23] ?_; clear hs; intro a hs
    obtain ⟨t18, hx19, H⟩ := bind_some H
    refine q_call hs (by rfl) (fun wx hbx => (strings_trimRightByte.calls a0 (sx a1 0) t18 _ hx19).mono fun e wy h => ⟨h.1, below_st hbx h.2⟩) [22, 24] ?_; clear hs; intro a hs
    refine q_pvs 5 [1] [(26, .string a1)] hs ?_; clear hs; intro a hs
    obtain ⟨hp20, H⟩ := ite_only H
    refine q_run hs (by rfl) (fun wx hbx => (x_sidx (s := a1) (k := .i64) (i := 0) hp20)) [26] ?_; clear hs; intro a hs
    obtain ⟨t22, hx23, H⟩ := bind_some H
    refine q_call hs (by rfl) (fun wx hbx => (strings_trimLeftByte.calls t18 (sx a1 0) t22 _ hx23).mono fun e wy h => ⟨h.1, below_st hbx h.2⟩) [25, 27] ?_; clear hs; intro a hs
    refine q_pvs 8 [28] [(4, .string t22)] hs ?_; clear hs; intro a hs
    refine q_end ?_
    intro wq hbq
    replace hw := hw.behind hbq
    refine hK15 _ _ ?_
    refine wp_ret ?_
    refine th_ret ?_
    obtain rfl := Option.some.inj H
    refine ret1 (t := 4) (v := .string t22) hs (by kernel_rfl) (by kernel_rfl) ?_
    exact ⟨rfl, hw.only 0⟩
   ·replace H := ite_f H (ff hc)
    have hb24 := hc
    rw [hb24] at hs
    refine wp_skip ?_
    exact hJ4 _ _ hs.kx hw H
  refine go_region ?_
  refine go_pvs 4 [] [(17, .bool ((a1.size : Int) == 1))] hs ?_; clear hs; intro a hs
  cases hb11 : ((a1.size : Int) == 1)
  ·replace H := ite_f H (beq_eq_false_iff_ne.1 hb11)
   rw [hb11] at hs
   refine go_pvs 8 [17] [(21, .bool false)] hs ?_; clear hs; intro a hs
   refine go_end ?_
   exact hJ3 false _ _ hs.kx hw H
  ·replace H := ite_t H (beq_iff_eq.1 hb11)
   rw [hb11] at hs
   refine go_pvs 5 [] [(18, .string a1)] hs ?_; clear hs; intro a hs
   obtain ⟨hp12, H⟩ := ite_only H
   refine go_run hs (by rfl) (x_sidx (s := a1) (k := .i64) (i := 0) hp12) [18] ?_; clear hs; intro a hs
   refine go_pvs 8 [17, 19] [(21, .bool (decide ((sx a1 0) < 128)))] hs ?_; clear hs; intro a hs
   refine go_end ?_
   exact hJ3 (decide ((sx a1 0) < 128)) _ _ hs.kx hw H
 refine go_seq_k fun K3 hK3 => ?_
 have hJ1 : ∀ (v5 : Bool) (a : Act) (w : World), Slots a 43 [(0, .string a0), (1, .string a1), (12, .bool v5)] → St [] w0 w [] → strings_Trim.j1 a0 a1 v5 = some r → K3 a w := by
  intro v5 a w hs hw H
  unfold strings_Trim.j1 at H
  refine hK3 _ _ ?_
  refine go_cond hs v5 (fun hc => ?_) fun hc => ?_
  ·replace H := ite_t H hc
   have hb6 := hc
   rw [hb6] at hs
   refine go_sp [0, 1, 12] [(4, .string a0)] hs ?_; clear hs; intro a hs
   refine wp_ret ?_
   refine th_ret ?_
   obtain rfl := Option.some.inj H
   refine ret1 (t := 4) (v := .string a0) hs (by kernel_rfl) (by kernel_rfl) ?_
   exact ⟨rfl, hw.only 0⟩
  ·replace H := ite_f H (ff hc)
   have hb8 := hc
   rw [hb8] at hs
   refine wp_skip ?_
   exact hJ2 _ _ hs.kx hw H
 refine go_region ?_
 refine go_pvs 3 [] [(9, .bool (a0.toList == (⟨#[]⟩ : ByteArray).toList))] hs ?_; clear hs; intro a hs
 cases hb4 : (a0.toList == (⟨#[]⟩ : ByteArray).toList)
 ·replace H := ite_f H (ff hb4)
  rw [hb4] at hs
  refine go_pvs 6 [9] [(12, .bool (a1.toList == (⟨#[]⟩ : ByteArray).toList))] hs ?_; clear hs; intro a hs
  refine go_end ?_
  exact hJ1 (a1.toList == (⟨#[]⟩ : ByteArray).toList) _ _ hs.kx hw H
 ·replace H := ite_t H hb4
  rw [hb4] at hs
  refine go_pvs 6 [9] [(12, .bool true)] hs ?_; clear hs; intro a hs
  refine go_end ?_
  exact hJ1 true _ _ hs.kx hw H

/-! rivet/le.Name: function 39 -/
noncomputable def le_Name.b11 (a0 : ByteArray) (v12 : Int) : Option (Int ⊕ (Ex Bool Unit)) := (if v12 < (a0.size : Int) then (if 0 ≤ v12 ∧ v12 < (a0.size : Int) then ((le_is (sx a0 v12) (v12 == 0)).bind fun t21 => ((if t21 = true then some (.inl (w64 (v12 + 1))) else some (.inr (.ret false))))) else none) else some (.inr (.done ())))
noncomputable def le_Name.j4 (v46 : Bool) : Option Bool := some (!v46)
noncomputable def le_Name.j3 (a0 : ByteArray) : Option Bool := (if 0 ≤ (0 : Int) ∧ (0 : Int) < (a0.size : Int) then (if (sx a0 0) = 82 then (if (a0.size : Int) = 2 then (if 0 ≤ (1 : Int) ∧ (1 : Int) ≤ (a0.size : Int) ∧ (a0.size : Int) ≤ (a0.size : Int) then ((strings_Trim (a0.extract ((1 : Int) : Int).toNat ((a0.size : Int) : Int).toNat) (⟨#[48, 49, 50, 51, 52, 53, 54, 55, 56, 57]⟩ : ByteArray)).bind fun t42 => (le_Name.j4 (t42.toList == (⟨#[]⟩ : ByteArray).toList))) else none) else (if (a0.size : Int) = 3 then (if 0 ≤ (1 : Int) ∧ (1 : Int) ≤ (a0.size : Int) ∧ (a0.size : Int) ≤ (a0.size : Int) then ((strings_Trim (a0.extract ((1 : Int) : Int).toNat ((a0.size : Int) : Int).toNat) (⟨#[48, 49, 50, 51, 52, 53, 54, 55, 56, 57]⟩ : ByteArray)).bind fun t36 => (le_Name.j4 (t36.toList == (⟨#[]⟩ : ByteArray).toList))) else none) else le_Name.j4 false)) else le_Name.j4 false) else none)
noncomputable def le_Name.j2 (a0 : ByteArray) : Option Bool := ((loopO (fun (σ : Int) => le_Name.b11 a0 σ) 0).bind fun e => match e with | .ret x => some x | .done e => le_Name.j3 a0)
noncomputable def le_Name.j1 (a0 : ByteArray) (v5 : Bool) : Option Bool := (if v5 = true then some false else le_Name.j2 a0)
noncomputable def le_Name (a0 : ByteArray) : Option Bool := (if (a0.size : Int) = 0 then le_Name.j1 a0 true else le_Name.j1 a0 (decide ((a0.size : Int) > 12)))
set_option maxRecDepth 100000 in
set_option maxHeartbeats 4000000 in
theorem le_Name.calls (a0 : ByteArray) (r : Bool) (w0 : World) (H : le_Name a0 = some r) :
    Calls Tryd.prog 39 #[.string a0] w0 fun e w' => e = .returned (.bool r) ∧ St [] w0 w' [] := by
 have hw : St [] w0 w0 [] := St.nil w0
 unfold le_Name at H
 refine go_fn Tryd.func39 rfl Tryd.ntmps39 ?_; intro a hs
 refine go_sp [] [] hs ?_; clear hs; intro a hs
 refine go_seq_k fun K2 hK2 => ?_
 have hJ2 : ∀ (a : Act) (w : World), Slots a 47 [(0, .string a0)] → St [] w0 w [] → le_Name.j2 a0 = some r → K2 a w := by
  intro a w hs hw H
  unfold le_Name.j2 at H
  refine hK2 _ _ ?_
  refine go_seq_k fun K9 hK9 => ?_
  refine go_sp [] [(14, .int .i64 (a0.size : Int)), (15, .int .i64 0)] hs ?_; clear hs; intro a hs
  refine wp_block ?_
  obtain ⟨e11, hl11, HX11⟩ := bind_some H
  have hJ3 : ∀ (a : Act) (w : World), Slots a 47 [(0, .string a0)] → St [] w0 w [] → le_Name.j3 a0 = some r → K9 a w := by
   intro a w hs hw H
   unfold le_Name.j3 at H
   refine hK9 _ _ ?_
   refine go_seq_k fun K29 hK29 => ?_
   have hJ4 : ∀ (v46 : Bool) (a : Act) (w : World), Slots a 47 [(4, .bool v46)] → St [] w0 w [] → le_Name.j4 v46 = some r → K29 a w := by
    intro v46 a w hs hw H
    unfold le_Name.j4 at H
    refine hK29 _ _ ?_
    refine go_sp [4] [(2, .bool (!v46))] hs ?_; clear hs; intro a hs
    refine wp_ret ?_
    obtain rfl := Option.some.inj H
    refine ret1 (t := 2) (v := .bool (!v46)) hs (by kernel_rfl) (by kernel_rfl) ?_
    exact ⟨rfl, hw.only 0⟩
   refine go_region ?_
   refine go_pvs 1 [] [(26, .string a0)] hs ?_; clear hs; intro a hs
   obtain ⟨hp30, H⟩ := ite_only H
   refine go_run hs (by rfl) (x_sidx (s := a0) (k := .i64) (i := 0) hp30) [26] ?_; clear hs; intro a hs
   refine go_pvs 4 [27] [(29, .bool ((sx a0 0) == 82))] hs ?_; clear hs; intro a hs
   cases hb31 : ((sx a0 0) == 82)
   ·replace H := ite_f H (beq_eq_false_iff_ne.1 hb31)
    rw [hb31] at hs
    refine go_pvs 20 [0, 29] [(4, .bool false)] hs ?_; clear hs; intro a hs
    refine go_end ?_
    exact hJ4 false _ _ hs.kx hw H
   ·replace H := ite_t H (beq_iff_eq.1 hb31)
    rw [hb31] at hs
    refine go_pvs 8 [] [(33, .bool ((a0.size : Int) == 2))] hs ?_; clear hs; intro a hs
    cases hb32 : ((a0.size : Int) == 2)
    ·replace H := ite_f H (beq_eq_false_iff_ne.1 hb32)
     rw [hb32] at hs
     refine go_pvs 14 [29, 33] [(39, .bool ((a0.size : Int) == 3))] hs ?_; clear hs; intro a hs
     cases hb33 : ((a0.size : Int) == 3)
     ·replace H := ite_f H (beq_eq_false_iff_ne.1 hb33)
      rw [hb33] at hs
      refine go_pvs 20 [0, 39] [(4, .bool false)] hs ?_; clear hs; intro a hs
      refine go_end ?_
      exact hJ4 false _ _ hs.kx hw H
     ·replace H := ite_t H (beq_iff_eq.1 hb33)
      rw [hb33] at hs
      refine go_pvs 15 [0] [(40, .string a0)] hs ?_; clear hs; intro a hs
      obtain ⟨hp34, H⟩ := ite_only H
      refine go_run hs (by rfl) (x_scut (s := a0) (k := .i64) (k' := .i64) (l0 := (1 : Int)) (h := (a0.size : Int)) (by kernel_rfl) (by kernel_rfl) (Or.inl (by kernel_rfl)) (Or.inr ⟨rfl, rfl⟩) hp34.1 hp34.2.1 hp34.2.2) [40] ?_; clear hs; intro a hs
      obtain ⟨t36, hx37, H⟩ := bind_some H
      refine go_call hs (by rfl) (strings_Trim.calls (a0.extract ((1 : Int) : Int).toNat ((a0.size : Int) : Int).toNat) (⟨#[48, 49, 50, 51, 52, 53, 54, 55, 56, 57]⟩ : ByteArray) t36 _ hx37) ?_
      rintro e wd38 ⟨rfl, hw39⟩
      refine ⟨_, rfl, ?_⟩
      replace hw := hw.call hw39
      clear hs; intro a hs; replace hs := hs.rms [41]
      refine go_pvs 20 [39, 42] [(4, .bool (t36.toList == (⟨#[]⟩ : ByteArray).toList))] hs ?_; clear hs; intro a hs
      refine go_end ?_
      exact hJ4 (t36.toList == (⟨#[]⟩ : ByteArray).toList) _ _ hs.kx hw H
    ·replace H := ite_t H (beq_iff_eq.1 hb32)
     rw [hb32] at hs
     refine go_pvs 15 [0, 29, 33] [(39, .bool true), (40, .string a0)] hs ?_; clear hs; intro a hs
     obtain ⟨hp40, H⟩ := ite_only H
     refine go_run hs (by rfl) (x_scut (s := a0) (k := .i64) (k' := .i64) (l0 := (1 : Int)) (h := (a0.size : Int)) (by kernel_rfl) (by kernel_rfl) (Or.inl (by kernel_rfl)) (Or.inr ⟨rfl, rfl⟩) hp40.1 hp40.2.1 hp40.2.2) [40] ?_; clear hs; intro a hs
     obtain ⟨t42, hx43, H⟩ := bind_some H
     refine go_call hs (by rfl) (strings_Trim.calls (a0.extract ((1 : Int) : Int).toNat ((a0.size : Int) : Int).toNat) (⟨#[48, 49, 50, 51, 52, 53, 54, 55, 56, 57]⟩ : ByteArray) t42 _ hx43) ?_
     rintro e wd44 ⟨rfl, hw45⟩
     refine ⟨_, rfl, ?_⟩
     replace hw := hw.call hw45
     clear hs; intro a hs; replace hs := hs.rms [41]
     refine go_pvs 20 [39, 42] [(4, .bool (t42.toList == (⟨#[]⟩ : ByteArray).toList))] hs ?_; clear hs; intro a hs
     refine go_end ?_
     exact hJ4 (t42.toList == (⟨#[]⟩ : ByteArray).toList) _ _ hs.kx hw H
  clear H
  refine go_loop (σ := Int) (fun σ a w => Slots a 47 [(0, .string a0), (14, .int .i64 (a0.size : Int)), (15, .int .i64 σ)] ∧ St [] w0 w []) hl11 (by exact ⟨hs.kx, hw⟩) ?_
  rintro v12 a w ⟨hs, hw⟩ o H hr11
  replace hs : Slots a 47 [(0, .string a0), (14, .int .i64 (a0.size : Int)), (15, .int .i64 v12)] := hs
  replace hw : St [] w0 w [] := hw
  replace H : le_Name.b11 a0 v12 = some o := H
  unfold le_Name.b11 at H
  refine go_sp [] [(16, .bool (decide (v12 < (a0.size : Int))))] hs ?_; clear hs; intro a hs
  refine go_seq_k fun K14 hK14 => ?_
  refine go_cond hs (decide (v12 < (a0.size : Int))) (fun hc => ?_) fun hc => ?_
  ·replace H := ite_t H (of_decide_eq_true hc)
   have hb15 := hc
   rw [hb15] at hs
   refine wp_skip ?_
   refine hK14 _ _ ?_
   refine go_seq_k fun K16 hK16 => ?_
   refine wp_block ?_
   refine go_sp [16] [(3, .int .i64 v12)] hs ?_; clear hs; intro a hs
   refine go_sk fun K18 hK18 => ?_
   refine go_pvs 2 [] [(18, .string a0), (19, .int .i64 v12)] hs ?_; clear hs; intro a hs
   obtain ⟨hp19, H⟩ := ite_only H
   refine go_run hs (by rfl) (x_sidx (s := a0) (k := .i64) (i := v12) hp19) [18, 19] ?_; clear hs; intro a hs
   refine go_pvs 5 [3] [(22, .bool (v12 == 0))] hs ?_; clear hs; intro a hs
   obtain ⟨t21, hx22, H⟩ := bind_some H
   refine go_call hs (by rfl) (le_is.calls (sx a0 v12) (v12 == 0) t21 _ hx22) ?_
   rintro e wd23 ⟨rfl, hw24⟩
   refine ⟨_, rfl, ?_⟩
   replace hw := hw.call hw24
   clear hs; intro a hs; replace hs := hs.rms [20, 22]
   refine go_pvs 7 [23] [(24, .bool (!t21))] hs ?_; clear hs; intro a hs
   refine go_end (hK18 _ _ ?_)
   refine go_cond hs (!t21) (fun hc => ?_) fun hc => ?_
   ·replace H := ite_f H (ff (nt hc))
    have hb25 := hc
    rw [hb25] at hs
    refine go_sp [0, 14, 15, 24] [(2, .bool false)] hs ?_; clear hs; intro a hs
    refine wp_ret ?_
    refine ib_ret ?_
    refine th_ret ?_
    refine th_ret ?_
    refine ib_ret ?_
    refine th_ret ?_
    rw [← hr11 _ (Option.some.inj H).symm] at HX11
    replace H : some false = some r := HX11
    obtain rfl := Option.some.inj H
    refine ret1 (t := 2) (v := .bool false) hs (by kernel_rfl) (by kernel_rfl) ?_
    exact ⟨rfl, hw.only 0⟩
   ·replace H := ite_t H (nf hc)
    have hb27 := hc
    rw [hb27] at hs
    refine wp_skip ?_
    refine ib_norm ?_
    refine hK16 _ _ ?_
    refine go_plain [24] [(15, .int .i64 (w64 (v12 + 1)))] hs ?_; clear hs; intro a hs
    exact round_end (w64 (v12 + 1)) (Option.some.inj H).symm ⟨hs.kx, hw⟩
  ·replace H := ite_f H (of_decide_eq_false hc)
   have hb28 := hc
   rw [hb28] at hs
   refine wp_exit ?_
   refine th_exit ?_
   refine th_exit ?_
   refine in_block ?_
   rw [← hr11 _ (Option.some.inj H).symm] at HX11
   exact hJ3 _ _ hs.kx hw HX11
 refine go_seq_k fun K3 hK3 => ?_
 have hJ1 : ∀ (v5 : Bool) (a : Act) (w : World), Slots a 47 [(0, .string a0), (12, .bool v5)] → St [] w0 w [] → le_Name.j1 a0 v5 = some r → K3 a w := by
  intro v5 a w hs hw H
  unfold le_Name.j1 at H
  refine hK3 _ _ ?_
  refine go_cond hs v5 (fun hc => ?_) fun hc => ?_
  ·replace H := ite_t H hc
   have hb6 := hc
   rw [hb6] at hs
   refine go_sp [0, 12] [(2, .bool false)] hs ?_; clear hs; intro a hs
   refine wp_ret ?_
   refine th_ret ?_
   obtain rfl := Option.some.inj H
   refine ret1 (t := 2) (v := .bool false) hs (by kernel_rfl) (by kernel_rfl) ?_
   exact ⟨rfl, hw.only 0⟩
  ·replace H := ite_f H (ff hc)
   have hb8 := hc
   rw [hb8] at hs
   refine wp_skip ?_
   exact hJ2 _ _ hs.kx hw H
 refine go_region ?_
 refine go_pvs 4 [] [(8, .bool ((a0.size : Int) == 0))] hs ?_; clear hs; intro a hs
 cases hb4 : ((a0.size : Int) == 0)
 ·replace H := ite_f H (beq_eq_false_iff_ne.1 hb4)
  rw [hb4] at hs
  refine go_pvs 8 [8] [(12, .bool (decide ((a0.size : Int) > 12)))] hs ?_; clear hs; intro a hs
  refine go_end ?_
  exact hJ1 (decide ((a0.size : Int) > 12)) _ _ hs.kx hw H
 ·replace H := ite_t H (beq_iff_eq.1 hb4)
  rw [hb4] at hs
  refine go_pvs 8 [8] [(12, .bool true)] hs ?_; clear hs; intro a hs
  refine go_end ?_
  exact hJ1 true _ _ hs.kx hw H

/-! rivet/rivetref08.Rise: function 43 -/
noncomputable def rivetref08_Rise.j2 (v5 : Int) : Option (Int ⊕ (Ex Bool Unit)) := some (.inl (w64 (v5 + 1)))
noncomputable def rivetref08_Rise.j1 (v5 : Int) (v21 : Bool) : Option (Int ⊕ (Ex Bool Unit)) := (if v21 = true then some (.inr (.ret false)) else rivetref08_Rise.j2 v5)
noncomputable def rivetref08_Rise.j3 : Option Bool := some true
noncomputable def rivetref08_Rise.b4 (l0 : List Int) (a1 : Int) (v5 : Int) : Option (Int ⊕ (Ex Bool Unit)) := (if v5 < (l0.length : Int) then (if 0 ≤ v5 ∧ v5 < (l0.length : Int) then (if (ix (eI .i64).d l0 v5) < 0 then rivetref08_Rise.j1 v5 true else (if 0 ≤ v5 ∧ v5 < (l0.length : Int) then (if (ix (eI .i64).d l0 v5) ≥ a1 then rivetref08_Rise.j1 v5 true else (if 0 ≤ v5 ∧ v5 < (l0.length : Int) then (if (ix (eI .i64).d l0 v5) > 65534 then rivetref08_Rise.j1 v5 true else (if v5 > 0 then (if 0 ≤ v5 ∧ v5 < (l0.length : Int) then (if 0 ≤ (w64 (v5 - 1)) ∧ (w64 (v5 - 1)) < (l0.length : Int) then rivetref08_Rise.j1 v5 (decide ((ix (eI .i64).d l0 v5) ≤ (ix (eI .i64).d l0 (w64 (v5 - 1))))) else none) else none) else rivetref08_Rise.j1 v5 false)) else none)) else none)) else none) else some (.inr (.done ())))
noncomputable def rivetref08_Rise (l0 : List Int) (a1 : Int) : Option Bool := ((loopO (fun (σ : Int) => rivetref08_Rise.b4 l0 a1 σ) 0).bind fun e => match e with | .ret x => some x | .done e => rivetref08_Rise.j3)
set_option maxRecDepth 100000 in
set_option maxHeartbeats 4000000 in
theorem rivetref08_Rise.calls (A0 : Option Addr) (c0 : Nat) (l0 : List Int) (a1 : Int) (r : Bool) (w0 : World) (hr0 : Rd w0 (eI .i64) A0 c0 l0) (H : rivetref08_Rise l0 a1 = some r) :
    Calls Tryd.prog 43 #[.slice A0 l0.length c0, .int .i64 a1] w0 fun e w' => e = .returned (.bool r) ∧ St [] w0 w' [] := by
 have hw : St [] w0 w0 [] := St.nil w0
 unfold rivetref08_Rise at H
 refine go_fn Tryd.func43 rfl Tryd.ntmps43 ?_; intro a hs
 refine go_sp [] [] hs ?_; clear hs; intro a hs
 refine go_seq_k fun K2 hK2 => ?_
 refine go_sp [] [(5, .int .i64 0)] hs ?_; clear hs; intro a hs
 refine wp_block ?_
 obtain ⟨e4, hl4, HX4⟩ := bind_some H
 have hJ3 : ∀ (a : Act) (w : World), Slots a 48 [] → St [] w0 w [] → rivetref08_Rise.j3 = some r → K2 a w := by
  intro a w hs hw H
  unfold rivetref08_Rise.j3 at H
  refine hK2 _ _ ?_
  refine go_sp [] [(4, .bool true)] hs ?_; clear hs; intro a hs
  refine wp_ret ?_
  obtain rfl := Option.some.inj H
  refine ret1 (t := 4) (v := .bool true) hs (by kernel_rfl) (by kernel_rfl) ?_
  exact ⟨rfl, hw.only 0⟩
 clear H
 refine go_loop (σ := Int) (fun σ a w => Slots a 48 [(0, .slice A0 l0.length c0), (1, .int .i64 a1), (5, .int .i64 σ)] ∧ St [] w0 w []) hl4 (by exact ⟨hs.kx, hw⟩) ?_
 rintro v5 a w ⟨hs, hw⟩ o H hr4
 replace hs : Slots a 48 [(0, .slice A0 l0.length c0), (1, .int .i64 a1), (5, .int .i64 v5)] := hs
 replace hw : St [] w0 w [] := hw
 replace H : rivetref08_Rise.b4 l0 a1 v5 = some o := H
 unfold rivetref08_Rise.b4 at H
 refine go_seq_k fun K6 hK6 => ?_
 refine go_sp [] [(9, .bool (decide (v5 < (l0.length : Int))))] hs ?_; clear hs; intro a hs
 refine go_cond hs (decide (v5 < (l0.length : Int))) (fun hc => ?_) fun hc => ?_
 ·replace H := ite_t H (of_decide_eq_true hc)
  have hb8 := hc
  rw [hb8] at hs
  refine wp_skip ?_
  refine hK6 _ _ ?_
  refine go_seq_k fun K9 hK9 => ?_
  have hJ2 : ∀ (a : Act) (w : World), Slots a 48 [(0, .slice A0 l0.length c0), (1, .int .i64 a1), (5, .int .i64 v5)] → St [] w0 w [] → rivetref08_Rise.j2 v5 = some o → K9 a w := by
   intro a w hs hw H
   unfold rivetref08_Rise.j2 at H
   refine hK9 _ _ ?_
   refine go_plain [] [(5, .int .i64 (w64 (v5 + 1)))] hs ?_; clear hs; intro a hs
   exact round_end (w64 (v5 + 1)) (Option.some.inj H).symm ⟨hs.kx, hw⟩
  refine wp_block ?_
  refine go_seq_k fun K10 hK10 => ?_
  have hJ1 : ∀ (v21 : Bool) (a : Act) (w : World), Slots a 48 [(0, .slice A0 l0.length c0), (1, .int .i64 a1), (5, .int .i64 v5), (47, .bool v21)] → St [] w0 w [] → rivetref08_Rise.j1 v5 v21 = some o → K10 a w := by
   intro v21 a w hs hw H
   unfold rivetref08_Rise.j1 at H
   refine hK10 _ _ ?_
   refine go_cond hs v21 (fun hc => ?_) fun hc => ?_
   ·replace H := ite_t H hc
    have hb22 := hc
    rw [hb22] at hs
    refine go_sp [0, 1, 5, 47] [(4, .bool false)] hs ?_; clear hs; intro a hs
    refine wp_ret ?_
    refine ib_ret ?_
    refine th_ret ?_
    refine th_ret ?_
    refine ib_ret ?_
    refine th_ret ?_
    rw [← hr4 _ (Option.some.inj H).symm] at HX4
    replace H : some false = some r := HX4
    obtain rfl := Option.some.inj H
    refine ret1 (t := 4) (v := .bool false) hs (by kernel_rfl) (by kernel_rfl) ?_
    exact ⟨rfl, hw.only 0⟩
   ·replace H := ite_f H (ff hc)
    have hb24 := hc
    rw [hb24] at hs
    refine wp_skip ?_
    refine ib_norm ?_
    exact hJ2 _ _ hs.kx hw H
  refine q2_region (by kernel_rfl) (by kernel_rfl) ?_
  refine q_pvs 2 [9] [(12, .slice A0 l0.length c0), (13, .int .i64 v5)] hs ?_; clear hs; intro a hs
  obtain ⟨hp11, H⟩ := ite_only H
  obtain ⟨ad12, rfl⟩ := (hr0.old hw).some hp11.1 hp11.2
  refine q_run hs (by rfl) (fun wx hbx => (x_idx (T := 3) (sz := 1) (a := ad12) (n := l0.length) (cap := c0) (k := .i64) (i := v5) hp11)) [12, 13] ?_; clear hs; intro a hs
  refine q_run hs (by rfl) (fun wx hbx => (x_ld (off := 0) (p := ad12.add (v5.toNat * 1)) (v := .int .i64 (ix (eI .i64).d l0 v5)) ((hr0.old hw).below hbx) hp11 rfl)) [14] ?_; clear hs; intro a hs
  refine q_pvs 6 [15] [(17, .bool (decide ((ix (eI .i64).d l0 v5) < 0)))] hs ?_; clear hs; intro a hs
  cases hb13 : (decide ((ix (eI .i64).d l0 v5) < 0))
  ·replace H := ite_f H (of_decide_eq_false hb13)
   rw [hb13] at hs
   refine q_pvs 8 [] [(18, .slice (some ad12) l0.length c0), (19, .int .i64 v5)] hs ?_; clear hs; intro a hs
   obtain ⟨hp14, H⟩ := ite_only H
   refine q_run hs (by rfl) (fun wx hbx => (x_idx (T := 3) (sz := 1) (a := ad12) (n := l0.length) (cap := c0) (k := .i64) (i := v5) hp14)) [18, 19] ?_; clear hs; intro a hs
   refine q_run hs (by rfl) (fun wx hbx => (x_ld (off := 0) (p := ad12.add (v5.toNat * 1)) (v := .int .i64 (ix (eI .i64).d l0 v5)) ((hr0.old hw).below hbx) hp14 rfl)) [20] ?_; clear hs; intro a hs
   refine q_pvs 14 [17, 21] [(25, .bool (decide ((ix (eI .i64).d l0 v5) ≥ a1)))] hs ?_; clear hs; intro a hs
   cases hb15 : (decide ((ix (eI .i64).d l0 v5) ≥ a1))
   ·replace H := ite_f H (of_decide_eq_false hb15)
    rw [hb15] at hs
    refine q_pvs 16 [] [(26, .slice (some ad12) l0.length c0), (27, .int .i64 v5)] hs ?_; clear hs; intro a hs
    obtain ⟨hp16, H⟩ := ite_only H
    refine q_run hs (by rfl) (fun wx hbx => (x_idx (T := 3) (sz := 1) (a := ad12) (n := l0.length) (cap := c0) (k := .i64) (i := v5) hp16)) [26, 27] ?_; clear hs; intro a hs
    refine q_run hs (by rfl) (fun wx hbx => (x_ld (off := 0) (p := ad12.add (v5.toNat * 1)) (v := .int .i64 (ix (eI .i64).d l0 v5)) ((hr0.old hw).below hbx) hp16 rfl)) [28] ?_; clear hs; intro a hs
    refine q_pvs 21 [25, 29] [(32, .bool (decide ((ix (eI .i64).d l0 v5) > 65534)))] hs ?_; clear hs; intro a hs
    cases hb17 : (decide ((ix (eI .i64).d l0 v5) > 65534))
    ·replace H := ite_f H (of_decide_eq_false hb17)
     rw [hb17] at hs
     refine q_pvs 24 [] [(35, .bool (decide (v5 > 0)))] hs ?_; clear hs; intro a hs
     cases hb18 : (decide (v5 > 0))
     ·replace H := ite_f H (of_decide_eq_false hb18)
      rw [hb18] at hs
      refine q_pvs 36 [32, 35] [(47, .bool false)] hs ?_; clear hs; intro a hs
      refine q_end ?_
      intro wq hbq
      replace hw := hw.behind hbq
      exact hJ1 false _ _ hs.kx hw H
     ·replace H := ite_t H (of_decide_eq_true hb18)
      rw [hb18] at hs
      refine q_pvs 26 [] [(36, .slice (some ad12) l0.length c0), (37, .int .i64 v5)] hs ?_; clear hs; intro a hs
      obtain ⟨hp19, H⟩ := ite_only H
      refine q_run hs (by rfl) (fun wx hbx => (x_idx (T := 3) (sz := 1) (a := ad12) (n := l0.length) (cap := c0) (k := .i64) (i := v5) hp19)) [36, 37] ?_; clear hs; intro a hs
      refine q_run hs (by rfl) (fun wx hbx => (x_ld (off := 0) (p := ad12.add (v5.toNat * 1)) (v := .int .i64 (ix (eI .i64).d l0 v5)) ((hr0.old hw).below hbx) hp19 rfl)) [38] ?_; clear hs; intro a hs
      refine q_pvs 31 [] [(40, .slice (some ad12) l0.length c0), (42, .int .i64 (w64 (v5 - 1)))] hs ?_; clear hs; intro a hs
      obtain ⟨hp20, H⟩ := ite_only H
      refine q_run hs (by rfl) (fun wx hbx => (x_idx (T := 3) (sz := 1) (a := ad12) (n := l0.length) (cap := c0) (k := .i64) (i := (w64 (v5 - 1))) hp20)) [40, 42] ?_; clear hs; intro a hs
      refine q_run hs (by rfl) (fun wx hbx => (x_ld (off := 0) (p := ad12.add ((w64 (v5 - 1)).toNat * 1)) (v := .int .i64 (ix (eI .i64).d l0 (w64 (v5 - 1)))) ((hr0.old hw).below hbx) hp20 rfl)) [43] ?_; clear hs; intro a hs
      refine q_pvs 36 [32, 35, 39, 44] [(47, .bool (decide ((ix (eI .i64).d l0 v5) ≤ (ix (eI .i64).d l0 (w64 (v5 - 1))))))] hs ?_; clear hs; intro a hs
      refine q_end ?_
      intro wq hbq
      replace hw := hw.behind hbq
      exact hJ1 (decide ((ix (eI .i64).d l0 v5) ≤ (ix (eI .i64).d l0 (w64 (v5 - 1))))) _ _ hs.kx hw H
    ·replace H := ite_t H (of_decide_eq_true hb17)
     rw [hb17] at hs
     refine q_pvs 36 [32] [(47, .bool true)] hs ?_; clear hs; intro a hs
     refine q_end ?_
     intro wq hbq
     replace hw := hw.behind hbq
     exact hJ1 true _ _ hs.kx hw H
   ·replace H := ite_t H (of_decide_eq_true hb15)
    rw [hb15] at hs
    refine q_pvs 36 [25] [(47, .bool true)] hs ?_; clear hs; intro a hs
    refine q_end ?_
    intro wq hbq
    replace hw := hw.behind hbq
    exact hJ1 true _ _ hs.kx hw H
  ·replace H := ite_t H (of_decide_eq_true hb13)
   rw [hb13] at hs
   refine q_pvs 36 [17] [(47, .bool true)] hs ?_; clear hs; intro a hs
   refine q_end ?_
   intro wq hbq
   replace hw := hw.behind hbq
   exact hJ1 true _ _ hs.kx hw H
 ·replace H := ite_f H (of_decide_eq_false hc)
  have hb25 := hc
  rw [hb25] at hs
  refine wp_exit ?_
  refine th_exit ?_
  refine th_exit ?_
  refine in_block ?_
  rw [← hr4 _ (Option.some.inj H).symm] at HX4
  exact hJ3 _ _ hs.kx hw HX4

/-! rivet/rivetref08.Fit: function 26 -/
noncomputable def rivetref08_Fit.j3 (v14 : Int) (l38 : List Int) : Option ((List Int) × Int ⊕ (List Int)) := some (.inl (l38, w64 (v14 + 1)))
noncomputable def rivetref08_Fit.j2 (v14 : Int) (l0 : List Int) (l11 : List Int) : Option ((List Int) × Int ⊕ (List Int)) := (if 0 ≤ v14 ∧ v14 < (l0.length : Int) then (if (band .u8 (ix (eI .u8).d l0 v14) 1) = 1 then (if l11.length + ([v14] : List Int).length ≤ 17592186044416 then rivetref08_Fit.j3 v14 (l11 ++ ([v14] : List Int)) else none) else rivetref08_Fit.j3 v14 l11) else none)
noncomputable def rivetref08_Fit.j1 (v14 : Int) (l0 : List Int) (l11 : List Int) (v18 : Bool) : Option ((List Int) × Int ⊕ (List Int)) := (if v18 = true then rivetref08_Fit.j2 v14 l0 l11 else some (.inr l11))
noncomputable def rivetref08_Fit.j4 (l41 : List Int) : Option (List Int) := some l41
noncomputable def rivetref08_Fit.b10 (a1 : Int) (l0 : List Int) (l11 : List Int) (v14 : Int) : Option ((List Int) × Int ⊕ (List Int)) := (if v14 < a1 then rivetref08_Fit.j1 v14 l0 l11 (decide (v14 < (l0.length : Int))) else rivetref08_Fit.j1 v14 l0 l11 false)
noncomputable def rivetref08_Fit (l0 : List Int) (a1 : Int) : Option (List Int) := ((loopO (fun (σ : (List Int) × Int) => rivetref08_Fit.b10 a1 l0 σ.1 σ.2) (([] : List Int), 0)).bind fun e => rivetref08_Fit.j4 e)
set_option maxRecDepth 100000 in
set_option maxHeartbeats 4000000 in
theorem rivetref08_Fit.calls (A0 : Option Addr) (c0 : Nat) (l0 : List Int) (a1 : Int) (r : (List Int)) (w0 : World) (hr0 : Rd w0 (eI .u8) A0 c0 l0) (H : rivetref08_Fit l0 a1 = some r) :
    Calls Tryd.prog 26 #[.slice A0 l0.length c0, .int .i64 a1] w0 fun e w' => ∃ A_0 c_0, e = .returned (.slice A_0 r.length c_0) ∧ St [] w0 w' [own 3 (eI .i64) A_0 c_0 r] := by
 have hw : St [] w0 w0 [] := St.nil w0
 unfold rivetref08_Fit at H
 refine go_fn Tryd.func26 rfl Tryd.ntmps26 ?_; intro a hs
 refine go_sp [] [] hs ?_; clear hs; intro a hs
 refine go_sk fun K2 hK2 => ?_
 obtain ⟨Aa3, cc4, wd5, hx6, hw⟩ := n_lit0 (P := Tryd.prog) (t := 29) (ty := 29) (T := 3) hs hw (eI .i64) (by kernel_rfl) (by kernel_rfl)
 refine go_run hs (by rfl) hx6 [] ?_; clear hs; intro a hs
 refine go_pvs 2 [7] [(5, .slice Aa3 ([] : List Int).length cc4)] hs ?_; clear hs; intro a hs
 refine go_end (hK2 _ _ ?_)
 refine go_seq_k fun K8 hK8 => ?_
 refine go_sp [] [(6, .int .i64 0)] hs ?_; clear hs; intro a hs
 refine wp_block ?_
 obtain ⟨e10, hl10, HX10⟩ := bind_some H
 have hJ4 : ∀ (Aa42 : Option Addr) (cc43 : Nat) (l41 : List Int) (a : Act) (w : World), Slots a 30 [(5, .slice Aa42 l41.length cc43)] → St [] w0 w [own 3 (eI .i64) Aa42 cc43 l41] → rivetref08_Fit.j4 l41 = some r → K8 a w := by
  intro Aa42 cc43 l41 a w hs hw H
  unfold rivetref08_Fit.j4 at H
  refine hK8 _ _ ?_
  refine go_sp [5] [(4, .slice Aa42 l41.length cc43)] hs ?_; clear hs; intro a hs
  refine wp_ret ?_
  obtain rfl := Option.some.inj H
  refine ret1 (t := 4) (v := .slice Aa42 l41.length cc43) hs (by kernel_rfl) (by kernel_rfl) ?_
  exact ⟨Aa42, cc43, rfl, hw.only 1⟩
 clear H
 refine go_loop (σ := (List Int) × Int) (fun σ a w => ∃ Aa12, ∃ cc13, Slots a 30 [(0, .slice A0 l0.length c0), (1, .int .i64 a1), (5, .slice Aa12 σ.1.length cc13), (6, .int .i64 σ.2)] ∧ St [] w0 w [own 3 (eI .i64) Aa12 cc13 σ.1]) hl10 (by exact ⟨Aa3, cc4, hs.kx, hw⟩) ?_
 rintro ⟨l11, v14⟩ a w ⟨Aa12, cc13, hs, hw⟩ o H hr10
 replace hs : Slots a 30 [(0, .slice A0 l0.length c0), (1, .int .i64 a1), (5, .slice Aa12 l11.length cc13), (6, .int .i64 v14)] := hs
 replace hw : St [] w0 w [own 3 (eI .i64) Aa12 cc13 l11] := hw
 replace H : rivetref08_Fit.b10 a1 l0 l11 v14 = some o := H
 unfold rivetref08_Fit.b10 at H
 refine go_seq_k fun K15 hK15 => ?_
 have hJ2 : ∀ (a : Act) (w : World), Slots a 30 [(0, .slice A0 l0.length c0), (1, .int .i64 a1), (5, .slice Aa12 l11.length cc13), (6, .int .i64 v14)] → St [] w0 w [own 3 (eI .i64) Aa12 cc13 l11] → rivetref08_Fit.j2 v14 l0 l11 = some o → K15 a w := by
  intro a w hs hw H
  unfold rivetref08_Fit.j2 at H
  refine hK15 _ _ ?_
  refine go_seq_k fun K21 hK21 => ?_
  have hJ3 : ∀ (Aa39 : Option Addr) (cc40 : Nat) (l38 : List Int) (a : Act) (w : World), Slots a 30 [(0, .slice A0 l0.length c0), (1, .int .i64 a1), (5, .slice Aa39 l38.length cc40), (6, .int .i64 v14)] → St [] w0 w [own 3 (eI .i64) Aa39 cc40 l38] → rivetref08_Fit.j3 v14 l38 = some o → K21 a w := by
   intro Aa39 cc40 l38 a w hs hw H
   unfold rivetref08_Fit.j3 at H
   refine hK21 _ _ ?_
   refine go_plain [] [(6, .int .i64 (w64 (v14 + 1)))] hs ?_; clear hs; intro a hs
   exact round_end (l38, w64 (v14 + 1)) (Option.some.inj H).symm ⟨Aa39, cc40, hs.kx, hw⟩
  refine wp_block ?_
  refine go_sk fun K22 hK22 => ?_
  refine go_pvs 2 [] [(19, .slice A0 l0.length c0), (20, .int .i64 v14)] hs ?_; clear hs; intro a hs
  obtain ⟨hp23, H⟩ := ite_only H
  obtain ⟨ad24, rfl⟩ := (hr0.old hw).some hp23.1 hp23.2
  refine go_run hs (by rfl) (x_idx (T := 5) (sz := 1) (a := ad24) (n := l0.length) (cap := c0) (k := .i64) (i := v14) hp23) [19, 20] ?_; clear hs; intro a hs
  refine go_run hs (by rfl) (x_ld (off := 0) (p := ad24.add (v14.toNat * 1)) (v := .int .u8 (ix (eI .u8).d l0 v14)) (hr0.old hw) hp23 rfl) [21] ?_; clear hs; intro a hs
  refine go_pvs 6 [22] [(24, .bool ((band .u8 (ix (eI .u8).d l0 v14) 1) == 1))] hs ?_; clear hs; intro a hs
  refine go_end (hK22 _ _ ?_)
  refine go_cond hs ((band .u8 (ix (eI .u8).d l0 v14) 1) == 1) (fun hc => ?_) fun hc => ?_
  ·replace H := ite_t H (beq_iff_eq.1 hc)
   have hb25 := hc
   rw [hb25] at hs
   refine go_region ?_
   refine go_pvs 2 [5, 24] [(25, .slice Aa12 l11.length cc13), (26, .int .i64 v14)] hs ?_; clear hs; intro a hs
   obtain ⟨Aa26, cc27, wd28, hx29, hw⟩ := n_lit (P := Tryd.prog) (t := 29) (ty := 29) (T := 3) (len := 1) (parts := #[(0, (Operand.tmp 26))]) (z := .int .i64 0) (bytes := 8) (cells := #[.int .i64 v14]) hs hw (eI .i64) ([v14] : List Int) (by kernel_rfl) (by kernel_rfl) (by kernel_rfl) (by kernel_rfl) (by kernel_rfl) (by kernel_rfl) (by kernel_rfl)
   refine go_run hs (by rfl) hx29 [26] ?_; clear hs; intro a hs
   obtain ⟨hp31, H⟩ := ite_only H
   have hsrc36 : Src Tryd.prog (eI .i64).sz 29 (.slice Aa26 ([v14] : List Int).length cc27) ([v14] : List Int).length (([v14] : List Int).flatMap (eI .i64).enc) _ := (Src.of_rd (E := (eI .i64)) (e' := 3) (by kernel_rfl) (Rd.of_own (hw.up 0)))
   replace hw := hw.up 1
   obtain ⟨Aa32, cc33, wd34, hx35, hw⟩ := x_append (P := Tryd.prog) (t := 29) (tx := 29) (ty := 29) (x := (Operand.tmp 25)) (y := (Operand.tmp 27)) (z := .int .i64 0) (bytes := 8) (l2 := ([v14] : List Int)) hs hw (by kernel_rfl) (by kernel_rfl) (by kernel_rfl) (by kernel_rfl) (by kernel_rfl) hsrc36 (by omega) (by omega)
   refine go_run hs (by rfl) hx35 [25, 27] ?_; clear hs; intro a hs
   refine go_pvs 5 [28] [(5, .slice Aa32 (l11 ++ ([v14] : List Int)).length cc33)] hs ?_; clear hs; intro a hs
   refine go_end ?_
   refine ib_norm ?_
   replace hw := hw.only 1
   exact hJ3 Aa32 cc33 (l11 ++ ([v14] : List Int)) _ _ hs.kx hw H
  ·replace H := ite_f H (beq_eq_false_iff_ne.1 hc)
   have hb37 := hc
   rw [hb37] at hs
   refine wp_skip ?_
   refine ib_norm ?_
   exact hJ3 Aa12 cc13 l11 _ _ hs.kx hw H
 refine go_seq_k fun K16 hK16 => ?_
 have hJ1 : ∀ (v18 : Bool) (a : Act) (w : World), Slots a 30 [(0, .slice A0 l0.length c0), (1, .int .i64 a1), (5, .slice Aa12 l11.length cc13), (6, .int .i64 v14), (16, .bool v18)] → St [] w0 w [own 3 (eI .i64) Aa12 cc13 l11] → rivetref08_Fit.j1 v14 l0 l11 v18 = some o → K16 a w := by
  intro v18 a w hs hw H
  unfold rivetref08_Fit.j1 at H
  refine hK16 _ _ ?_
  refine go_cond hs v18 (fun hc => ?_) fun hc => ?_
  ·replace H := ite_t H hc
   have hb19 := hc
   rw [hb19] at hs
   refine wp_skip ?_
   exact hJ2 _ _ hs.kx hw H
  ·replace H := ite_f H (ff hc)
   have hb20 := hc
   rw [hb20] at hs
   refine wp_exit ?_
   refine th_exit ?_
   refine th_exit ?_
   refine in_block ?_
   rw [← hr10 _ (Option.some.inj H).symm] at HX10
   exact hJ4 Aa12 cc13 l11 _ _ hs.kx hw HX10
 refine go_region ?_
 refine go_pvs 4 [] [(11, .bool (decide (v14 < a1)))] hs ?_; clear hs; intro a hs
 cases hb17 : (decide (v14 < a1))
 ·replace H := ite_f H (of_decide_eq_false hb17)
  rw [hb17] at hs
  refine go_pvs 9 [11] [(16, .bool false)] hs ?_; clear hs; intro a hs
  refine go_end ?_
  exact hJ1 false _ _ hs.kx hw H
 ·replace H := ite_t H (of_decide_eq_true hb17)
  rw [hb17] at hs
  refine go_pvs 9 [11] [(16, .bool (decide (v14 < (l0.length : Int))))] hs ?_; clear hs; intro a hs
  refine go_end ?_
  exact hJ1 (decide (v14 < (l0.length : Int))) _ _ hs.kx hw H

/-! rivet/rivetref07.Fit: function 27 -/
noncomputable def rivetref07_Fit.j2 (v15 : Int) (a0 : ByteArray) (y3 : ByteArray) (v14 : ByteArray) : Option (ByteArray × Int ⊕ ByteArray) := (if 0 ≤ v15 ∧ v15 < (a0.size : Int) then (if 0 ≤ v15 ∧ v15 < (a0.size : Int) then (if 0 ≤ ((w64 (sx a0 v15)).tmod 12) ∧ ((w64 (sx a0 v15)).tmod 12) ≤ (w64 (((w64 (sx a0 v15)).tmod 12) + 1)) ∧ (w64 (((w64 (sx a0 v15)).tmod 12) + 1)) ≤ (y3.size : Int) then (if v14.size + (y3.extract (((w64 (sx a0 v15)).tmod 12) : Int).toNat ((w64 (((w64 (sx a0 v15)).tmod 12) + 1)) : Int).toNat).size ≤ 4611686018427387904 then some (.inl (v14 ++ (y3.extract (((w64 (sx a0 v15)).tmod 12) : Int).toNat ((w64 (((w64 (sx a0 v15)).tmod 12) + 1)) : Int).toNat), w64 (v15 + 1))) else none) else none) else none) else none)
noncomputable def rivetref07_Fit.j1 (v15 : Int) (a0 : ByteArray) (y3 : ByteArray) (v14 : ByteArray) (v19 : Bool) : Option (ByteArray × Int ⊕ ByteArray) := (if v19 = true then rivetref07_Fit.j2 v15 a0 y3 v14 else some (.inr v14))
noncomputable def rivetref07_Fit.j3 (v27 : ByteArray) : Option ByteArray := some v27
noncomputable def rivetref07_Fit.b13 (a0 : ByteArray) (y3 : ByteArray) (v14 : ByteArray) (v15 : Int) : Option (ByteArray × Int ⊕ ByteArray) := (if v15 < (a0.size : Int) then rivetref07_Fit.j1 v15 a0 y3 v14 (decide (v15 < 6)) else rivetref07_Fit.j1 v15 a0 y3 v14 false)
noncomputable def rivetref07_Fit (a0 : ByteArray) : Option ByteArray := (nm (⟨#[97, 98, 99, 88, 89, 90, 95, 48, 49, 57, 82, 109]⟩ : ByteArray) fun y3 => (nm (strOfNums ([wu8 (97 + (wu8 ((a0.size : Int).tmod 26)))] : List Int)) fun y10 => ((loopO (fun (σ : ByteArray × Int) => rivetref07_Fit.b13 a0 y3 σ.1 σ.2) (y10, 0)).bind fun e => rivetref07_Fit.j3 e)))
set_option maxRecDepth 100000 in
set_option maxHeartbeats 4000000 in
theorem rivetref07_Fit.calls (a0 : ByteArray) (r : ByteArray) (w0 : World) (H : rivetref07_Fit a0 = some r) :
    Calls Tryd.prog 27 #[.string a0] w0 fun e w' => e = .returned (.string r) ∧ St [] w0 w' [] := by
 have hw : St [] w0 w0 [] := St.nil w0
 unfold rivetref07_Fit at H
 refine go_fn Tryd.func27 rfl Tryd.ntmps27 ?_; intro a hs
 refine go_sp [] [] hs ?_; clear hs; intro a hs
 refine go_sp [] [(3, .string (⟨#[97, 98, 99, 88, 89, 90, 95, 48, 49, 57, 82, 109]⟩ : ByteArray))] hs ?_; clear hs; intro a hs
 obtain ⟨y3, hy3, H⟩ := nm_some H
 replace hs : Slots a 39 [(0, .string a0), (3, .string y3)] := by rw [hy3]; exact hs.kx
 refine go_sk fun K4 hK4 => ?_
 refine go_pvs 5 [] [(10, .int .u8 (wu8 (97 + (wu8 ((a0.size : Int).tmod 26)))))] hs ?_; clear hs; intro a hs
 obtain ⟨Aa5, cc6, wd7, hx8, hw⟩ := n_lit (P := Tryd.prog) (t := 23) (ty := 23) (T := 5) (len := 1) (parts := #[(0, (Operand.tmp 10))]) (z := .int .u8 0) (bytes := 1) (cells := #[.int .u8 (wu8 (97 + (wu8 ((a0.size : Int).tmod 26))))]) hs hw (eI .u8) ([wu8 (97 + (wu8 ((a0.size : Int).tmod 26)))] : List Int) (by kernel_rfl) (by kernel_rfl) (by kernel_rfl) (by kernel_rfl) (by kernel_rfl) (by kernel_rfl) (by kernel_rfl)
 refine go_run hs (by rfl) hx8 [10] ?_; clear hs; intro a hs
 refine go_run hs (by rfl) (x_conv (e := 5) (l := ([wu8 (97 + (wu8 ((a0.size : Int).tmod 26)))] : List Int)) (Rd.of_own (hw.up 0)) (by kernel_rfl) (by kernel_rfl) (by kernel_rfl) (by kernel_rfl)) [11] ?_; clear hs; intro a hs
 refine go_pvs 8 [12] [(4, .string (strOfNums ([wu8 (97 + (wu8 ((a0.size : Int).tmod 26)))] : List Int)))] hs ?_; clear hs; intro a hs
 obtain ⟨y10, hy10, H⟩ := nm_some H
 replace hs : Slots a 39 [(0, .string a0), (3, .string y3), (4, .string y10)] := by rw [hy10]; exact hs.kx
 refine go_end (hK4 _ _ ?_)
 refine go_seq_k fun K11 hK11 => ?_
 refine go_sp [] [(5, .int .i64 0)] hs ?_; clear hs; intro a hs
 refine wp_block ?_
 obtain ⟨e13, hl13, HX13⟩ := bind_some H
 have hJ3 : ∀ (v27 : ByteArray) (a : Act) (w : World), Slots a 39 [(4, .string v27)] → St [] w0 w [own 5 (eI .u8) Aa5 cc6 ([wu8 (97 + (wu8 ((a0.size : Int).tmod 26)))] : List Int)] → rivetref07_Fit.j3 v27 = some r → K11 a w := by
  intro v27 a w hs hw H
  unfold rivetref07_Fit.j3 at H
  refine hK11 _ _ ?_
  refine go_sp [4] [(2, .string v27)] hs ?_; clear hs; intro a hs
  refine wp_ret ?_
  obtain rfl := Option.some.inj H
  refine ret1 (t := 2) (v := .string v27) hs (by kernel_rfl) (by kernel_rfl) ?_
  exact ⟨rfl, hw.only 0⟩
 clear H
 refine go_loop (σ := ByteArray × Int) (fun σ a w => Slots a 39 [(0, .string a0), (3, .string y3), (4, .string σ.1), (5, .int .i64 σ.2)] ∧ St [] w0 w [own 5 (eI .u8) Aa5 cc6 ([wu8 (97 + (wu8 ((a0.size : Int).tmod 26)))] : List Int)]) hl13 (by exact ⟨hs.kx, hw⟩) ?_
 rintro ⟨v14, v15⟩ a w ⟨hs, hw⟩ o H hr13
 replace hs : Slots a 39 [(0, .string a0), (3, .string y3), (4, .string v14), (5, .int .i64 v15)] := hs
 replace hw : St [] w0 w [own 5 (eI .u8) Aa5 cc6 ([wu8 (97 + (wu8 ((a0.size : Int).tmod 26)))] : List Int)] := hw
 replace H : rivetref07_Fit.b13 a0 y3 v14 v15 = some o := H
 unfold rivetref07_Fit.b13 at H
 refine go_seq_k fun K16 hK16 => ?_
 have hJ2 : ∀ (a : Act) (w : World), Slots a 39 [(0, .string a0), (3, .string y3), (4, .string v14), (5, .int .i64 v15)] → St [] w0 w [own 5 (eI .u8) Aa5 cc6 ([wu8 (97 + (wu8 ((a0.size : Int).tmod 26)))] : List Int)] → rivetref07_Fit.j2 v15 a0 y3 v14 = some o → K16 a w := by
  intro a w hs hw H
  unfold rivetref07_Fit.j2 at H
  refine hK16 _ _ ?_
  refine go_seq_k fun K22 hK22 => ?_
  refine wp_block ?_
  refine q2_region (by kernel_rfl) (by kernel_rfl) ?_
  refine q_pvs 4 [4] [(23, .string v14), (24, .string y3), (25, .string a0), (26, .int .i64 v15)] hs ?_; clear hs; intro a hs
  obtain ⟨hp23, H⟩ := ite_only H
  refine q_run hs (by rfl) (fun wx hbx => (x_sidx (s := a0) (k := .i64) (i := v15) hp23)) [25, 26] ?_; clear hs; intro a hs
  refine q_pvs 9 [27] [(29, .int .i64 ((w64 (sx a0 v15)).tmod 12)), (30, .string a0), (31, .int .i64 v15)] hs ?_; clear hs; intro a hs
  obtain ⟨hp24, H⟩ := ite_only H
  refine q_run hs (by rfl) (fun wx hbx => (x_sidx (s := a0) (k := .i64) (i := v15) hp24)) [30, 31] ?_; clear hs; intro a hs
  refine q_pvs 13 [32] [(35, .int .i64 (w64 (((w64 (sx a0 v15)).tmod 12) + 1)))] hs ?_; clear hs; intro a hs
  obtain ⟨hp25, H⟩ := ite_only H
  refine q_run hs (by rfl) (fun wx hbx => (x_scut (s := y3) (k := .i64) (k' := .i64) (l0 := ((w64 (sx a0 v15)).tmod 12)) (h := (w64 (((w64 (sx a0 v15)).tmod 12) + 1))) (by kernel_rfl) (by kernel_rfl) (Or.inl (by kernel_rfl)) (Or.inl (by kernel_rfl)) hp25.1 hp25.2.1 hp25.2.2)) [24, 29, 35] ?_; clear hs; intro a hs
  obtain ⟨hp26, H⟩ := ite_only H
  refine q_run hs (by rfl) (fun wx hbx => (x_cat (m := v14) (n := y3.extract (((w64 (sx a0 v15)).tmod 12) : Int).toNat ((w64 (((w64 (sx a0 v15)).tmod 12) + 1)) : Int).toNat) (by kernel_rfl) (by kernel_rfl) hp26)) [23, 36] ?_; clear hs; intro a hs
  refine q_pvs 16 [37] [(4, .string (v14 ++ (y3.extract (((w64 (sx a0 v15)).tmod 12) : Int).toNat ((w64 (((w64 (sx a0 v15)).tmod 12) + 1)) : Int).toNat)))] hs ?_; clear hs; intro a hs
  refine q_end ?_
  intro wq hbq
  replace hw := hw.behind hbq
  refine ib_norm ?_
  refine hK22 _ _ ?_
  refine go_plain [] [(5, .int .i64 (w64 (v15 + 1)))] hs ?_; clear hs; intro a hs
  exact round_end (v14 ++ (y3.extract (((w64 (sx a0 v15)).tmod 12) : Int).toNat ((w64 (((w64 (sx a0 v15)).tmod 12) + 1)) : Int).toNat), w64 (v15 + 1)) (Option.some.inj H).symm ⟨hs.kx, hw⟩
 refine go_seq_k fun K17 hK17 => ?_
 have hJ1 : ∀ (v19 : Bool) (a : Act) (w : World), Slots a 39 [(0, .string a0), (3, .string y3), (4, .string v14), (5, .int .i64 v15), (20, .bool v19)] → St [] w0 w [own 5 (eI .u8) Aa5 cc6 ([wu8 (97 + (wu8 ((a0.size : Int).tmod 26)))] : List Int)] → rivetref07_Fit.j1 v15 a0 y3 v14 v19 = some o → K17 a w := by
  intro v19 a w hs hw H
  unfold rivetref07_Fit.j1 at H
  refine hK17 _ _ ?_
  refine go_cond hs v19 (fun hc => ?_) fun hc => ?_
  ·replace H := ite_t H hc
   have hb20 := hc
   rw [hb20] at hs
   refine wp_skip ?_
   exact hJ2 _ _ hs.kx hw H
  ·replace H := ite_f H (ff hc)
   have hb21 := hc
   rw [hb21] at hs
   refine wp_exit ?_
   refine th_exit ?_
   refine th_exit ?_
   refine in_block ?_
   rw [← hr13 _ (Option.some.inj H).symm] at HX13
   exact hJ3 v14 _ _ hs.kx hw HX13
 refine go_region ?_
 refine go_pvs 5 [] [(17, .bool (decide (v15 < (a0.size : Int))))] hs ?_; clear hs; intro a hs
 cases hb18 : (decide (v15 < (a0.size : Int)))
 ·replace H := ite_f H (of_decide_eq_false hb18)
  rw [hb18] at hs
  refine go_pvs 8 [17] [(20, .bool false)] hs ?_; clear hs; intro a hs
  refine go_end ?_
  exact hJ1 false _ _ hs.kx hw H
 ·replace H := ite_t H (of_decide_eq_true hb18)
  rw [hb18] at hs
  refine go_pvs 8 [17] [(20, .bool (decide (v15 < 6)))] hs ?_; clear hs; intro a hs
  refine go_end ?_
  exact hJ1 (decide (v15 < 6)) _ _ hs.kx hw H

/-! rivet/chain.Pack: function 40 -/
noncomputable def chain_Pack.j3 (v7 : Int) (v24 : Int) : Option (Int × Int ⊕ (Ex ((List Int) × Int × Int) Unit)) := some (.inl (v24, w64 (v7 + 1)))
noncomputable def chain_Pack.j2 (v7 : Int) (l1 : List Int) : Option (Int × Int ⊕ (Ex ((List Int) × Int × Int) Unit)) := chain_Pack.j3 v7 (ix (eI .i64).d l1 v7)
noncomputable def chain_Pack.j1 (v7 : Int) (l1 : List Int) (v19 : Bool) : Option (Int × Int ⊕ (Ex ((List Int) × Int × Int) Unit)) := (if v19 = true then some (.inr (.ret (([] : List Int), 0, 7))) else chain_Pack.j2 v7 l1)
noncomputable def chain_Pack.j5 (l64 : List Int) (v65 : Int) : Option ((List Int) × Int × Int) := some (l64, v65, 0)
noncomputable def chain_Pack.b38 (l1 : List Int) (l39 : List Int) (v40 : Int) (v41 : Int) : Option ((List Int) × Int × Int ⊕ (Ex ((List Int) × Int × Int) ((List Int) × Int))) := (if v41 < (l1.length : Int) then (if 0 ≤ v41 ∧ v41 < (l1.length : Int) then (if 0 ≤ (ix (eI .i64).d l1 v41) ∧ (ix (eI .i64).d l1 v41) < (l39.length : Int) then (if (ix (eI .u32).d l39 (ix (eI .i64).d l1 v41)) > 65535 then some (.inr (.ret (([] : List Int), 0, 8))) else (if 0 ≤ (ix (eI .i64).d l1 v41) ∧ (ix (eI .i64).d l1 v41) < (l39.length : Int) then (if 0 ≤ (ix (eI .i64).d l1 v41) ∧ (ix (eI .i64).d l1 v41) < (l39.length : Int) then (nm (w64 ((ix (eI .i64).d l1 v41) + 1)) fun y62 => some (.inl (l39.set ((ix (eI .i64).d l1 v41) : Int).toNat (bor .u32 (wu32 ((ix (eI .u32).d l39 (ix (eI .i64).d l1 v41)) * 2 ^ 16)) (wu32 v40)), y62, w64 (v41 + 1)))) else none) else none)) else none) else none) else some (.inr (.done (l39, v40))))
noncomputable def chain_Pack.j4 (l0 : List Int) (l1 : List Int) : Option ((List Int) × Int × Int) := ((slices_Clone_uint32_uint32 l0).bind fun t28 => (((loopO (fun (σ : (List Int) × Int × Int) => chain_Pack.b38 l1 σ.1 σ.2.1 σ.2.2) (t28, 0, 0)).bind fun e => match e with | .ret x => some x | .done e => chain_Pack.j5 e.1 e.2)))
noncomputable def chain_Pack.b5 (l1 : List Int) (l0 : List Int) (v6 : Int) (v7 : Int) : Option (Int × Int ⊕ (Ex ((List Int) × Int × Int) Unit)) := (if v7 < (l1.length : Int) then (if 0 ≤ v7 ∧ v7 < (l1.length : Int) then (if (ix (eI .i64).d l1 v7) ≤ v6 then chain_Pack.j1 v7 l1 true else (if (ix (eI .i64).d l1 v7) ≥ (l0.length : Int) then chain_Pack.j1 v7 l1 true else chain_Pack.j1 v7 l1 (decide ((ix (eI .i64).d l1 v7) > 65534)))) else none) else some (.inr (.done ())))
noncomputable def chain_Pack (l0 : List Int) (l1 : List Int) : Option ((List Int) × Int × Int) := ((loopO (fun (σ : Int × Int) => chain_Pack.b5 l1 l0 σ.1 σ.2) ((-1), 0)).bind fun e => match e with | .ret x => some x | .done e => chain_Pack.j4 l0 l1)
set_option maxRecDepth 100000 in
set_option maxHeartbeats 4000000 in
theorem chain_Pack.calls (A0 : Option Addr) (c0 : Nat) (l0 : List Int) (A1 : Option Addr) (c1 : Nat) (l1 : List Int) (r : (List Int) × Int × Int) (w0 : World) (hr0 : Rd w0 (eI .u32) A0 c0 l0) (hr1 : Rd w0 (eI .i64) A1 c1 l1) (H : chain_Pack l0 l1 = some r) :
    Calls Tryd.prog 40 #[.slice A0 l0.length c0, .slice A1 l1.length c1] w0 fun e w' => ∃ A_0 c_0, e = .returned (.tuple #[.slice A_0 r.1.length c_0, .int .i64 r.2.1, .int .i64 r.2.2]) ∧ St [] w0 w' [own 38 (eI .u32) A_0 c_0 r.1] := by
 have hw : St [] w0 w0 [] := St.nil w0
 unfold chain_Pack at H
 refine go_fn Tryd.func40 rfl Tryd.ntmps40 ?_; intro a hs
 refine go_sp [] [] hs ?_; clear hs; intro a hs
 refine go_sp [] [(7, .int .i64 (-1))] hs ?_; clear hs; intro a hs
 refine go_seq_k fun K3 hK3 => ?_
 refine go_sp [] [(14, .slice A1 l1.length c1), (15, .int .i64 (l1.length : Int)), (16, .int .i64 0)] hs ?_; clear hs; intro a hs
 refine wp_block ?_
 obtain ⟨e5, hl5, HX5⟩ := bind_some H
 have hJ4 : ∀ (a : Act) (w : World), Slots a 64 [(0, .slice A0 l0.length c0), (1, .slice A1 l1.length c1)] → St [] w0 w [] → chain_Pack.j4 l0 l1 = some r → K3 a w := by
  intro a w hs hw H
  unfold chain_Pack.j4 at H
  refine hK3 _ _ ?_
  refine go_sk fun K26 hK26 => ?_
  refine go_pvs 1 [0] [(35, .slice A0 l0.length c0)] hs ?_; clear hs; intro a hs
  obtain ⟨t28, hx29, H⟩ := bind_some H
  refine go_call hs (by rfl) (slices_Clone_uint32_uint32.calls A0 c0 l0 t28 _ (hr0.old hw) hx29) ?_
  rintro e wd32 ⟨Aa30, cc31, rfl, hw33⟩
  refine ⟨_, rfl, ?_⟩
  replace hw := hw.call hw33
  clear hs; intro a hs; replace hs := hs.rms [35]
  refine go_pvs 3 [36] [(10, .slice Aa30 t28.length cc31)] hs ?_; clear hs; intro a hs
  refine go_end (hK26 _ _ ?_)
  refine go_sp [] [(11, .int .i64 0)] hs ?_; clear hs; intro a hs
  refine go_seq_k fun K36 hK36 => ?_
  refine go_sp [1] [(37, .slice A1 l1.length c1), (38, .int .i64 (l1.length : Int)), (39, .int .i64 0)] hs ?_; clear hs; intro a hs
  refine wp_block ?_
  obtain ⟨e38, hl38, HX38⟩ := bind_some H
  have hJ5 : ∀ (l64 : List Int) (v65 : Int) (a : Act) (w : World), Slots a 64 [(10, .slice Aa30 l64.length cc31), (11, .int .i64 v65)] → St [] w0 w [own 38 (eI .u32) Aa30 cc31 l64] → chain_Pack.j5 l64 v65 = some r → K36 a w := by
   intro l64 v65 a w hs hw H
   unfold chain_Pack.j5 at H
   refine hK36 _ _ ?_
   refine go_sp [10, 11] [(4, .slice Aa30 l64.length cc31), (5, .int .i64 v65), (6, .int .i64 0)] hs ?_; clear hs; intro a hs
   refine wp_ret ?_
   obtain rfl := Option.some.inj H
   refine ret3 (t1 := 4) (v1 := .slice Aa30 l64.length cc31) (t2 := 5) (v2 := .int .i64 v65) (t3 := 6) (v3 := .int .i64 0) hs (by kernel_rfl) (by kernel_rfl) (by kernel_rfl) (by kernel_rfl) ?_
   exact ⟨Aa30, cc31, rfl, hw.only 1⟩
  clear H
  refine go_loop (σ := (List Int) × Int × Int) (fun σ a w => Slots a 64 [(10, .slice Aa30 σ.1.length cc31), (11, .int .i64 σ.2.1), (37, .slice A1 l1.length c1), (38, .int .i64 (l1.length : Int)), (39, .int .i64 σ.2.2)] ∧ St [] w0 w [own 38 (eI .u32) Aa30 cc31 σ.1]) hl38 (by exact ⟨hs.kx, hw⟩) ?_
  rintro ⟨l39, v40, v41⟩ a w ⟨hs, hw⟩ o H hr38
  replace hs : Slots a 64 [(10, .slice Aa30 l39.length cc31), (11, .int .i64 v40), (37, .slice A1 l1.length c1), (38, .int .i64 (l1.length : Int)), (39, .int .i64 v41)] := hs
  replace hw : St [] w0 w [own 38 (eI .u32) Aa30 cc31 l39] := hw
  replace H : chain_Pack.b38 l1 l39 v40 v41 = some o := H
  unfold chain_Pack.b38 at H
  refine go_sp [] [(40, .bool (decide (v41 < (l1.length : Int))))] hs ?_; clear hs; intro a hs
  refine go_seq_k fun K43 hK43 => ?_
  refine go_cond hs (decide (v41 < (l1.length : Int))) (fun hc => ?_) fun hc => ?_
  ·replace H := ite_t H (of_decide_eq_true hc)
   have hb44 := hc
   rw [hb44] at hs
   refine wp_skip ?_
   refine hK43 _ _ ?_
   refine go_seq_k fun K45 hK45 => ?_
   refine wp_block ?_
   refine go_sk fun K46 hK46 => ?_
   obtain ⟨hp47, H⟩ := ite_only H
   obtain ⟨ad48, rfl⟩ := (hr1.old hw).some hp47.1 hp47.2
   refine go_run hs (by rfl) (x_idx (T := 3) (sz := 1) (a := ad48) (n := l1.length) (cap := c1) (k := .i64) (i := v41) hp47) [40] ?_; clear hs; intro a hs
   refine go_run hs (by rfl) (x_ld (off := 0) (p := ad48.add (v41.toNat * 1)) (v := .int .i64 (ix (eI .i64).d l1 v41)) (hr1.old hw) hp47 rfl) [41] ?_; clear hs; intro a hs
   refine go_pvs 3 [42] [(13, .int .i64 (ix (eI .i64).d l1 v41))] hs ?_; clear hs; intro a hs
   refine go_end (hK46 _ _ ?_)
   refine go_seq_k fun K49 hK49 => ?_
   refine go_sk fun K50 hK50 => ?_
   refine go_pvs 2 [] [(43, .slice Aa30 l39.length cc31), (44, .int .i64 (ix (eI .i64).d l1 v41))] hs ?_; clear hs; intro a hs
   obtain ⟨hp51, H⟩ := ite_only H
   obtain ⟨ad52, rfl⟩ := (Rd.of_own (hw.up 0)).some hp51.1 hp51.2
   refine go_run hs (by rfl) (x_idx (T := 38) (sz := 1) (a := ad52) (n := l39.length) (cap := cc31) (k := .i64) (i := (ix (eI .i64).d l1 v41)) hp51) [43, 44] ?_; clear hs; intro a hs
   refine go_run hs (by rfl) (x_ld (off := 0) (p := ad52.add ((ix (eI .i64).d l1 v41).toNat * 1)) (v := .int .u32 (ix (eI .u32).d l39 (ix (eI .i64).d l1 v41))) (Rd.of_own (hw.up 0)) hp51 rfl) [45] ?_; clear hs; intro a hs
   refine go_pvs 5 [46] [(47, .bool (decide ((ix (eI .u32).d l39 (ix (eI .i64).d l1 v41)) > 65535)))] hs ?_; clear hs; intro a hs
   refine go_end (hK50 _ _ ?_)
   refine go_cond hs (decide ((ix (eI .u32).d l39 (ix (eI .i64).d l1 v41)) > 65535)) (fun hc => ?_) fun hc => ?_
   ·replace H := ite_t H (of_decide_eq_true hc)
    have hb53 := hc
    rw [hb53] at hs
    refine go_sp [10, 11, 13, 37, 38, 39, 47] [(4, .slice none 0 0), (5, .int .i64 0), (6, .int .i64 8)] hs ?_; clear hs; intro a hs
    refine wp_ret ?_
    refine th_ret ?_
    refine ib_ret ?_
    refine th_ret ?_
    refine th_ret ?_
    refine ib_ret ?_
    refine th_ret ?_
    rw [← hr38 _ (Option.some.inj H).symm] at HX38
    replace H : some (([] : List Int), 0, 8) = some r := HX38
    obtain rfl := Option.some.inj H
    replace hw := St.own_nil hw 38 (eI .u32)
    refine ret3 (t1 := 4) (v1 := .slice none 0 0) (t2 := 5) (v2 := .int .i64 0) (t3 := 6) (v3 := .int .i64 8) hs (by kernel_rfl) (by kernel_rfl) (by kernel_rfl) (by kernel_rfl) ?_
    exact ⟨none, 0, rfl, hw.only 1⟩
   ·replace H := ite_f H (of_decide_eq_false hc)
    have hb56 := hc
    rw [hb56] at hs
    refine wp_skip ?_
    refine hK49 _ _ ?_
    refine go_sk fun K57 hK57 => ?_
    refine go_pvs 4 [47] [(48, .slice (some ad52) l39.length cc31), (49, .int .i64 (ix (eI .i64).d l1 v41)), (50, .slice (some ad52) l39.length cc31), (51, .int .i64 (ix (eI .i64).d l1 v41))] hs ?_; clear hs; intro a hs
    obtain ⟨hp58, H⟩ := ite_only H
    refine go_run hs (by rfl) (x_idx (T := 38) (sz := 1) (a := ad52) (n := l39.length) (cap := cc31) (k := .i64) (i := (ix (eI .i64).d l1 v41)) hp58) [50, 51] ?_; clear hs; intro a hs
    refine go_run hs (by rfl) (x_ld (off := 0) (p := ad52.add ((ix (eI .i64).d l1 v41).toNat * 1)) (v := .int .u32 (ix (eI .u32).d l39 (ix (eI .i64).d l1 v41))) (Rd.of_own (hw.up 0)) hp58 rfl) [52] ?_; clear hs; intro a hs
    refine go_pvs 10 [11, 53] [(57, .int .u32 (bor .u32 (wu32 ((ix (eI .u32).d l39 (ix (eI .i64).d l1 v41)) * 2 ^ 16)) (wu32 v40)))] hs ?_; clear hs; intro a hs
    obtain ⟨hp59, H⟩ := ite_only H
    refine go_run hs (by rfl) (x_idx (T := 38) (sz := 1) (a := ad52) (n := l39.length) (cap := cc31) (k := .i64) (i := (ix (eI .i64).d l1 v41)) hp59) [48, 49] ?_; clear hs; intro a hs
    obtain ⟨wd60, hx61, hw⟩ := x_put (P := Tryd.prog) (ty := 0) (t := 38) (x := (Operand.tmp 58)) (y := (Operand.tmp 57)) (off := 0) (p := ad52.add ((ix (eI .i64).d l1 v41).toNat * 1)) (v := .int .u32 (bor .u32 (wu32 ((ix (eI .u32).d l39 (ix (eI .i64).d l1 v41)) * 2 ^ 16)) (wu32 v40))) (vs := [.int .u32 (bor .u32 (wu32 ((ix (eI .u32).d l39 (ix (eI .i64).d l1 v41)) * 2 ^ 16)) (wu32 v40))]) (i := (ix (eI .i64).d l1 v41)) (e' := (bor .u32 (wu32 ((ix (eI .u32).d l39 (ix (eI .i64).d l1 v41)) * 2 ^ 16)) (wu32 v40) : Int)) hs hw rfl hp59.1 hp59.2 (by kernel_rfl) rfl (by kernel_rfl) rfl (by kernel_rfl) (Nat.le_of_ble_eq_true rfl) (by simp [Value.oneCell']) (by kernel_rfl)
    refine go_unit hs (by rfl) hx61 [57, 58] ?_; clear hs; intro a hs
    replace hs : Slots a 64 [(10, .slice (some ad52) (l39.set ((ix (eI .i64).d l1 v41) : Int).toNat (bor .u32 (wu32 ((ix (eI .u32).d l39 (ix (eI .i64).d l1 v41)) * 2 ^ 16)) (wu32 v40))).length cc31), (13, .int .i64 (ix (eI .i64).d l1 v41)), (37, .slice (some ad48) l1.length c1), (38, .int .i64 (l1.length : Int)), (39, .int .i64 v41)] := by rw [show (l39.set ((ix (eI .i64).d l1 v41) : Int).toNat (bor .u32 (wu32 ((ix (eI .u32).d l39 (ix (eI .i64).d l1 v41)) * 2 ^ 16)) (wu32 v40))).length = (l39).length from List.length_set]; exact hs.kx
    refine go_end (hK57 _ _ ?_)
    refine go_plain [13] [(11, .int .i64 (w64 ((ix (eI .i64).d l1 v41) + 1)))] hs ?_; clear hs; intro a hs
    obtain ⟨y62, hy62, H⟩ := nm_some H
    replace hs : Slots a 64 [(10, .slice (some ad52) (l39.set ((ix (eI .i64).d l1 v41) : Int).toNat (bor .u32 (wu32 ((ix (eI .u32).d l39 (ix (eI .i64).d l1 v41)) * 2 ^ 16)) (wu32 v40))).length cc31), (11, .int .i64 y62), (37, .slice (some ad48) l1.length c1), (38, .int .i64 (l1.length : Int)), (39, .int .i64 v41)] := by rw [hy62]; exact hs.kx
    refine ib_norm ?_
    refine hK45 _ _ ?_
    refine go_plain [] [(39, .int .i64 (w64 (v41 + 1)))] hs ?_; clear hs; intro a hs
    exact round_end (l39.set ((ix (eI .i64).d l1 v41) : Int).toNat (bor .u32 (wu32 ((ix (eI .u32).d l39 (ix (eI .i64).d l1 v41)) * 2 ^ 16)) (wu32 v40)), y62, w64 (v41 + 1)) (Option.some.inj H).symm ⟨hs.kx, hw⟩
  ·replace H := ite_f H (of_decide_eq_false hc)
   have hb63 := hc
   rw [hb63] at hs
   refine wp_exit ?_
   refine th_exit ?_
   refine th_exit ?_
   refine in_block ?_
   rw [← hr38 _ (Option.some.inj H).symm] at HX38
   exact hJ5 l39 v40 _ _ hs.kx hw HX38
 clear H
 refine go_loop (σ := Int × Int) (fun σ a w => Slots a 64 [(0, .slice A0 l0.length c0), (1, .slice A1 l1.length c1), (7, .int .i64 σ.1), (14, .slice A1 l1.length c1), (15, .int .i64 (l1.length : Int)), (16, .int .i64 σ.2)] ∧ St [] w0 w []) hl5 (by exact ⟨hs.kx, hw⟩) ?_
 rintro ⟨v6, v7⟩ a w ⟨hs, hw⟩ o H hr5
 replace hs : Slots a 64 [(0, .slice A0 l0.length c0), (1, .slice A1 l1.length c1), (7, .int .i64 v6), (14, .slice A1 l1.length c1), (15, .int .i64 (l1.length : Int)), (16, .int .i64 v7)] := hs
 replace hw : St [] w0 w [] := hw
 replace H : chain_Pack.b5 l1 l0 v6 v7 = some o := H
 unfold chain_Pack.b5 at H
 refine go_sp [] [(17, .bool (decide (v7 < (l1.length : Int))))] hs ?_; clear hs; intro a hs
 refine go_seq_k fun K9 hK9 => ?_
 refine go_cond hs (decide (v7 < (l1.length : Int))) (fun hc => ?_) fun hc => ?_
 ·replace H := ite_t H (of_decide_eq_true hc)
  have hb10 := hc
  rw [hb10] at hs
  refine wp_skip ?_
  refine hK9 _ _ ?_
  refine go_seq_k fun K11 hK11 => ?_
  have hJ3 : ∀ (v24 : Int) (a : Act) (w : World), Slots a 64 [(0, .slice A0 l0.length c0), (1, .slice A1 l1.length c1), (7, .int .i64 v24), (14, .slice A1 l1.length c1), (15, .int .i64 (l1.length : Int)), (16, .int .i64 v7)] → St [] w0 w [] → chain_Pack.j3 v7 v24 = some o → K11 a w := by
   intro v24 a w hs hw H
   unfold chain_Pack.j3 at H
   refine hK11 _ _ ?_
   refine go_plain [] [(16, .int .i64 (w64 (v7 + 1)))] hs ?_; clear hs; intro a hs
   exact round_end (v24, w64 (v7 + 1)) (Option.some.inj H).symm ⟨hs.kx, hw⟩
  refine wp_block ?_
  refine go_sk fun K12 hK12 => ?_
  obtain ⟨hp13, H⟩ := ite_only H
  obtain ⟨ad14, rfl⟩ := (hr1.old hw).some hp13.1 hp13.2
  refine go_run hs (by rfl) (x_idx (T := 3) (sz := 1) (a := ad14) (n := l1.length) (cap := c1) (k := .i64) (i := v7) hp13) [17] ?_; clear hs; intro a hs
  refine go_run hs (by rfl) (x_ld (off := 0) (p := ad14.add (v7.toNat * 1)) (v := .int .i64 (ix (eI .i64).d l1 v7)) (hr1.old hw) hp13 rfl) [18] ?_; clear hs; intro a hs
  refine go_pvs 3 [19] [(9, .int .i64 (ix (eI .i64).d l1 v7))] hs ?_; clear hs; intro a hs
  refine go_end (hK12 _ _ ?_)
  refine go_seq_k fun K15 hK15 => ?_
  have hJ2 : ∀ (a : Act) (w : World), Slots a 64 [(0, .slice A0 l0.length c0), (1, .slice (some ad14) l1.length c1), (9, .int .i64 (ix (eI .i64).d l1 v7)), (14, .slice (some ad14) l1.length c1), (15, .int .i64 (l1.length : Int)), (16, .int .i64 v7)] → St [] w0 w [] → chain_Pack.j2 v7 l1 = some o → K15 a w := by
   intro a w hs hw H
   unfold chain_Pack.j2 at H
   refine hK15 _ _ ?_
   refine go_plain [9] [(7, .int .i64 (ix (eI .i64).d l1 v7))] hs ?_; clear hs; intro a hs
   refine ib_norm ?_
   exact hJ3 (ix (eI .i64).d l1 v7) _ _ hs.kx hw H
  refine go_seq_k fun K16 hK16 => ?_
  have hJ1 : ∀ (v19 : Bool) (a : Act) (w : World), Slots a 64 [(0, .slice A0 l0.length c0), (1, .slice (some ad14) l1.length c1), (9, .int .i64 (ix (eI .i64).d l1 v7)), (14, .slice (some ad14) l1.length c1), (15, .int .i64 (l1.length : Int)), (16, .int .i64 v7), (32, .bool v19)] → St [] w0 w [] → chain_Pack.j1 v7 l1 v19 = some o → K16 a w := by
   intro v19 a w hs hw H
   unfold chain_Pack.j1 at H
   refine hK16 _ _ ?_
   refine go_cond hs v19 (fun hc => ?_) fun hc => ?_
   ·replace H := ite_t H hc
    have hb20 := hc
    rw [hb20] at hs
    refine go_sp [0, 1, 9, 14, 15, 16, 32] [(4, .slice none 0 0), (5, .int .i64 0), (6, .int .i64 7)] hs ?_; clear hs; intro a hs
    refine wp_ret ?_
    refine th_ret ?_
    refine ib_ret ?_
    refine th_ret ?_
    refine th_ret ?_
    refine ib_ret ?_
    refine th_ret ?_
    rw [← hr5 _ (Option.some.inj H).symm] at HX5
    replace H : some (([] : List Int), 0, 7) = some r := HX5
    obtain rfl := Option.some.inj H
    replace hw := St.own_nil hw 38 (eI .u32)
    refine ret3 (t1 := 4) (v1 := .slice none 0 0) (t2 := 5) (v2 := .int .i64 0) (t3 := 6) (v3 := .int .i64 7) hs (by kernel_rfl) (by kernel_rfl) (by kernel_rfl) (by kernel_rfl) ?_
    exact ⟨none, 0, rfl, hw.only 1⟩
   ·replace H := ite_f H (ff hc)
    have hb23 := hc
    rw [hb23] at hs
    refine wp_skip ?_
    exact hJ2 _ _ hs.kx hw H
  refine go_region ?_
  refine go_pvs 4 [7] [(23, .bool (decide ((ix (eI .i64).d l1 v7) ≤ v6)))] hs ?_; clear hs; intro a hs
  cases hb17 : (decide ((ix (eI .i64).d l1 v7) ≤ v6))
  ·replace H := ite_f H (of_decide_eq_false hb17)
   rw [hb17] at hs
   refine go_pvs 10 [23] [(29, .bool (decide ((ix (eI .i64).d l1 v7) ≥ (l0.length : Int))))] hs ?_; clear hs; intro a hs
   cases hb18 : (decide ((ix (eI .i64).d l1 v7) ≥ (l0.length : Int)))
   ·replace H := ite_f H (of_decide_eq_false hb18)
    rw [hb18] at hs
    refine go_pvs 13 [29] [(32, .bool (decide ((ix (eI .i64).d l1 v7) > 65534)))] hs ?_; clear hs; intro a hs
    refine go_end ?_
    exact hJ1 (decide ((ix (eI .i64).d l1 v7) > 65534)) _ _ hs.kx hw H
   ·replace H := ite_t H (of_decide_eq_true hb18)
    rw [hb18] at hs
    refine go_pvs 13 [29] [(32, .bool true)] hs ?_; clear hs; intro a hs
    refine go_end ?_
    exact hJ1 true _ _ hs.kx hw H
  ·replace H := ite_t H (of_decide_eq_true hb17)
   rw [hb17] at hs
   refine go_pvs 13 [23] [(32, .bool true)] hs ?_; clear hs; intro a hs
   refine go_end ?_
   exact hJ1 true _ _ hs.kx hw H
 ·replace H := ite_f H (of_decide_eq_false hc)
  have hb25 := hc
  rw [hb25] at hs
  refine wp_exit ?_
  refine th_exit ?_
  refine th_exit ?_
  refine in_block ?_
  rw [← hr5 _ (Option.some.inj H).symm] at HX5
  exact hJ4 _ _ hs.kx hw HX5

/-! rivet/object.May: function 28 -/
noncomputable def object_May.b47 (a0 : Sapi_Obj) (v48 : Int) : Option (Int ⊕ (Ex Int Unit)) := (if v48 < (a0.Sites.length : Int) then (if 0 ≤ v48 ∧ v48 < (a0.Sites.length : Int) then (if 0 ≤ (ix (eI .i64).d a0.Sites v48) ∧ (ix (eI .i64).d a0.Sites v48) < (a0.Words.length : Int) then (if (w64 (ix (eI .u32).d a0.Words (ix (eI .i64).d a0.Sites v48))) > (w64 (4 * (a0.Words.length : Int))) then some (.inr (.ret v48)) else some (.inl (w64 (v48 + 1)))) else none) else none) else some (.inr (.done ())))
noncomputable def object_May.j6 (v77 : Int) : Option (Int ⊕ (Ex Bool Unit)) := some (.inl (w64 (v77 + 1)))
noncomputable def object_May.j5 (v77 : Int) (v98 : Bool) : Option (Int ⊕ (Ex Bool Unit)) := (if v98 = true then some (.inr (.ret false)) else object_May.j6 v77)
noncomputable def object_May.b76 (a0 : Sapi_Obj) (v77 : Int) : Option (Int ⊕ (Ex Bool Unit)) := (if v77 < (a0.Syms.length : Int) then (if 0 ≤ v77 ∧ v77 < (a0.Syms.length : Int) then ((le_Name (((ix eSapi_Sym.d a0.Syms v77) : Sapi_Sym).Name)).bind fun t93 => ((if t93 = true then (if v77 > 0 then (if 0 ≤ (w64 (v77 - 1)) ∧ (w64 (v77 - 1)) < (a0.Syms.length : Int) then object_May.j5 v77 (Op.bytesLess (((ix eSapi_Sym.d a0.Syms v77) : Sapi_Sym).Name).toList ((ix eSapi_Sym.d a0.Syms (w64 (v77 - 1))).Name).toList || (((ix eSapi_Sym.d a0.Syms v77) : Sapi_Sym).Name).toList == ((ix eSapi_Sym.d a0.Syms (w64 (v77 - 1))).Name).toList) else none) else object_May.j5 v77 false) else object_May.j5 v77 true))) else none) else some (.inr (.done ())))
noncomputable def object_May.j9 (v117 : Int) (v135 : Bool) : Option (Int ⊕ (Ex Int Unit)) := (if v135 = true then some (.inr (.ret v117)) else some (.inl (w64 (v117 + 1))))
noncomputable def object_May.b116 (a0 : Sapi_Obj) (v117 : Int) : Option (Int ⊕ (Ex Int Unit)) := (if v117 < (a0.Syms.length : Int) then (if 0 ≤ v117 ∧ v117 < (a0.Syms.length : Int) then (if ((ix eSapi_Sym.d a0.Syms v117).At) < 0 then object_May.j9 v117 true else (if ((ix eSapi_Sym.d a0.Syms v117).At) > (w64 (4 * (a0.Words.length : Int))) then object_May.j9 v117 true else object_May.j9 v117 ((((ix eSapi_Sym.d a0.Syms v117).At).tmod 4) != 0))) else none) else some (.inr (.done ())))
noncomputable def object_May.j11 (v141 : Int) : Option Int := (if v141 ≥ 0 then some 8 else some 0)
noncomputable def object_May.j10 : Option Int := object_May.j11 (-1)
noncomputable def object_May.j8 (a0 : Sapi_Obj) (v104 : Bool) : Option Int := (if v104 = true then ((loopO (fun (σ : Int) => object_May.b116 a0 σ) 0).bind fun e => match e with | .ret x => object_May.j11 x | .done e => object_May.j10) else some 9)
noncomputable def object_May.j7 (a0 : Sapi_Obj) : Option Int := object_May.j8 a0 true
noncomputable def object_May.j4 (a0 : Sapi_Obj) (v67 : Int) : Option Int := (if v67 ≥ 0 then some 8 else ((loopO (fun (σ : Int) => object_May.b76 a0 σ) 0).bind fun e => match e with | .ret x => object_May.j8 a0 x | .done e => object_May.j7 a0))
noncomputable def object_May.j3 (a0 : Sapi_Obj) : Option Int := object_May.j4 a0 (-1)
noncomputable def object_May.j2 (a0 : Sapi_Obj) : Option Int := ((chain_Pack a0.Words a0.Sites).bind fun ⟨t25, t26, t27⟩ => ((if t27 = 7 then some t27 else ((loopO (fun (σ : Int) => object_May.b47 a0 σ) 0).bind fun e => match e with | .ret x => object_May.j4 a0 x | .done e => object_May.j3 a0))))
noncomputable def object_May.j1 (a0 : Sapi_Obj) (v19 : Bool) : Option Int := (if v19 = true then some 2 else object_May.j2 a0)
noncomputable def object_May (a0 : Sapi_Obj) : Option Int := (if (a0.Words.length : Int) > 1024 then object_May.j1 a0 true else object_May.j1 a0 (decide ((a0.Syms.length : Int) > 64)))
set_option maxRecDepth 100000 in
set_option maxHeartbeats 4000000 in
theorem object_May.calls (a0 : Sapi_Obj) (A0_1 : Option Addr) (c0_1 : Nat) (A0_2 : Option Addr) (c0_2 : Nat) (A0_3 : Option Addr) (c0_3 : Nat) (r : Int) (w0 : World) (hr0_1 : Rd w0 (eI .u32) A0_1 c0_1 a0.Words) (hr0_2 : Rd w0 (eI .i64) A0_2 c0_2 a0.Sites) (hr0_3 : Rd w0 eSapi_Sym A0_3 c0_3 a0.Syms) (H : object_May a0 = some r) :
    Calls Tryd.prog 28 #[.agg #[.slice A0_1 a0.Words.length c0_1, .slice A0_2 a0.Sites.length c0_2, .slice A0_3 a0.Syms.length c0_3]] w0 fun e w' => e = .returned (.int .i64 r) ∧ St [] w0 w' [] := by
 have hw : St [] w0 w0 [] := St.nil w0
 unfold object_May at H
 refine go_fn Tryd.func28 rfl Tryd.ntmps28 ?_; intro a hs
 refine go_sk fun K1 hK1 => ?_
 obtain ⟨g2, wd3, hx4, hw⟩ := x_boxc (P := Tryd.prog) (elem := 32) (v := (Operand.tmp 0)) (ty := 0) (cs := [.slice A0_1 a0.Words.length c0_1, .slice A0_2 a0.Sites.length c0_2, .slice A0_3 a0.Syms.length c0_3]) hs hw (by kernel_rfl)
 refine go_run hs (by rfl) hx4 [0] ?_; clear hs; intro a hs
 refine go_pvs 2 [] [] hs ?_; clear hs; intro a hs
 refine go_end (hK1 _ _ ?_)
 refine go_sk fun K6 hK6 => ?_
 refine go_pvs 1 [] [(10, .pointer (some (⟨g2, 0, none⟩ : Addr)))] hs ?_; clear hs; intro a hs
 refine go_run hs (by rfl) (x_bld (g := g2) (o := 0) (p := (⟨g2, 0, none⟩ : Addr)) (v := .slice A0_1 a0.Words.length c0_1) (hw.up 0)) [10] ?_; clear hs; intro a hs
 refine go_pvs 4 [11] [(13, .int .i64 (w64 (4 * (a0.Words.length : Int))))] hs ?_; clear hs; intro a hs
 obtain ⟨ad7, wd8, hx9, hw⟩ := x_alloc1 (P := Tryd.prog) (elem := 3) (ty := 0) (z := .int .i64 0) hs hw (eI .i64) 0 (by kernel_rfl) (by kernel_rfl)
 refine go_run hs (by rfl) hx9 [] ?_; clear hs; intro a hs
 obtain ⟨wd11, hx12, hw⟩ := x_put (P := Tryd.prog) (ty := 0) (t := 3) (x := (Operand.tmp 3)) (y := (Operand.tmp 13)) (off := 0) (p := ad7) (v := .int .i64 (w64 (4 * (a0.Words.length : Int)))) (vs := [.int .i64 (w64 (4 * (a0.Words.length : Int)))]) (i := 0) (e' := (w64 (4 * (a0.Words.length : Int)) : Int)) hs hw rfl (one_ok 0).1 (one_ok 0).2 (by kernel_rfl) (one_at _ _) (by kernel_rfl) rfl (by kernel_rfl) (Nat.le_of_ble_eq_true rfl) (by simp [Value.oneCell']) (by kernel_rfl)
 refine go_unit hs (by rfl) hx12 [13] ?_; clear hs; intro a hs
 replace hw : St [] w0 wd11 [own 3 (eI .i64) (some ad7) 1 [w64 (4 * (a0.Words.length : Int))], box g2 32 [.slice A0_1 a0.Words.length c0_1, .slice A0_2 a0.Sites.length c0_2, .slice A0_3 a0.Syms.length c0_3]] := hw
 refine go_end (hK6 _ _ ?_)
 refine go_sp [] [(4, .func (.func 36) #[] #[.pointer (some (⟨g2, 0, none⟩ : Addr)), .pointer (some ad7)])] hs ?_; clear hs; intro a hs
 refine go_sp [3] [(5, .func (.func 37) #[] #[.pointer (some ad7)])] hs ?_; clear hs; intro a hs
 refine go_sp [] [(6, .func (.func 38) #[] #[.pointer (some (⟨g2, 0, none⟩ : Addr))])] hs ?_; clear hs; intro a hs
 refine go_seq_k fun K16 hK16 => ?_
 have hJ2 : ∀ (a : Act) (w : World), Slots a 54 [(1, .pointer (some (⟨g2, 0, none⟩ : Addr))), (4, .func (.func 36) #[] #[.pointer (some (⟨g2, 0, none⟩ : Addr)), .pointer (some ad7)]), (5, .func (.func 37) #[] #[.pointer (some ad7)]), (6, .func (.func 38) #[] #[.pointer (some (⟨g2, 0, none⟩ : Addr))])] → St [] w0 w [own 3 (eI .i64) (some ad7) 1 [w64 (4 * (a0.Words.length : Int))], box g2 32 [.slice A0_1 a0.Words.length c0_1, .slice A0_2 a0.Sites.length c0_2, .slice A0_3 a0.Syms.length c0_3]] → object_May.j2 a0 = some r → K16 a w := by
  intro a w hs hw H
  unfold object_May.j2 at H
  refine hK16 _ _ ?_
  refine go_sk fun K23 hK23 => ?_
  refine go_pvs 1 [] [(28, .pointer (some (⟨g2, 0, none⟩ : Addr)))] hs ?_; clear hs; intro a hs
  refine go_run hs (by rfl) (x_bld (g := g2) (o := 0) (p := (⟨g2, 0, none⟩ : Addr)) (v := .slice A0_1 a0.Words.length c0_1) (hw.up 1)) [28] ?_; clear hs; intro a hs
  refine go_pvs 3 [] [(30, .pointer (some (⟨g2, 1, none⟩ : Addr)))] hs ?_; clear hs; intro a hs
  refine go_run hs (by rfl) (x_bld (g := g2) (o := 1) (p := (⟨g2, 1, none⟩ : Addr)) (v := .slice A0_2 a0.Sites.length c0_2) (hw.up 1)) [30] ?_; clear hs; intro a hs
  obtain ⟨⟨t25, t26, t27⟩, hx28, H⟩ := bind_some H
  refine go_call hs (by rfl) (chain_Pack.calls A0_1 c0_1 a0.Words A0_2 c0_2 a0.Sites (t25, t26, t27) _ (hr0_1.old hw) (hr0_2.old hw) hx28) ?_
  rintro e wd31 ⟨Aa29, cc30, rfl, hw32⟩
  refine ⟨_, rfl, ?_⟩
  replace hw := hw.call hw32
  clear hs; intro a hs; replace hs := hs.rms [29, 31]
  refine go_pvs 12 [32] [(9, .int .i64 t27)] hs ?_; clear hs; intro a hs
  refine go_end (hK23 _ _ ?_)
  refine go_seq_k fun K34 hK34 => ?_
  refine wp_block ?_
  refine go_sp [] [(36, .bool (t27 == 7))] hs ?_; clear hs; intro a hs
  refine go_cond hs (t27 == 7) (fun hc => ?_) fun hc => ?_
  ·replace H := ite_t H (beq_iff_eq.1 hc)
   have hb36 := hc
   rw [hb36] at hs
   refine go_sp [1, 4, 5, 6, 9, 36] [(2, .int .i64 t27)] hs ?_; clear hs; intro a hs
   refine wp_ret ?_
   refine ib_ret ?_
   refine th_ret ?_
   obtain rfl := Option.some.inj H
   refine ret1 (t := 2) (v := .int .i64 t27) hs (by kernel_rfl) (by kernel_rfl) ?_
   exact ⟨rfl, hw.only 0⟩
  ·replace H := ite_f H (beq_eq_false_iff_ne.1 hc)
   have hb38 := hc
   rw [hb38] at hs
   refine go_sk fun K39 hK39 => ?_
   refine go_pvs 1 [9, 36] [(41, .pointer (some (⟨g2, 1, none⟩ : Addr)))] hs ?_; clear hs; intro a hs
   refine go_run hs (by rfl) (x_bld (g := g2) (o := 1) (p := (⟨g2, 1, none⟩ : Addr)) (v := .slice A0_2 a0.Sites.length c0_2) (hw.up 2)) [41] ?_; clear hs; intro a hs
   refine go_pvs 3 [4] [(43, .func (.func 36) #[] #[.pointer (some (⟨g2, 0, none⟩ : Addr)), .pointer (some ad7)])] hs ?_; clear hs; intro a hs
   refine go_inline_k hs (by rfl) (f := 41) (args := #[.slice A0_2 a0.Sites.length c0_2, .func (.func 36) #[] #[.pointer (some (⟨g2, 0, none⟩ : Addr)), .pointer (some ad7)]]) (fun KR40 hKR40 => ?_)
   refine go_fn Tryd.func41 rfl Tryd.ntmps41 ?_; clear hs; intro a hs
   refine go_sp [] [] hs ?_; clear hs; intro a hs
   refine go_sk fun K42 hK42 => ?_
   refine go_pvs 2 [0, 1] [(5, .slice A0_2 a0.Sites.length c0_2), (6, .func (.func 36) #[] #[.pointer (some (⟨g2, 0, none⟩ : Addr)), .pointer (some ad7)])] hs ?_; clear hs; intro a hs
   refine go_inline_k hs (by rfl) (f := 49) (args := #[.slice A0_2 a0.Sites.length c0_2, .func (.func 36) #[] #[.pointer (some (⟨g2, 0, none⟩ : Addr)), .pointer (some ad7)]]) (fun KR43 hKR43 => ?_)
   refine go_fn Tryd.func49 rfl Tryd.ntmps49 ?_; clear hs; intro a hs
   have hJ4 : ∀ (v67 : Int) (w : World), St [] w0 w [own 38 (eI .u32) Aa29 cc30 t25, own 3 (eI .i64) (some ad7) 1 [w64 (4 * (a0.Words.length : Int))], box g2 32 [.slice A0_1 a0.Words.length c0_1, .slice A0_2 a0.Sites.length c0_2, .slice A0_3 a0.Syms.length c0_3]] → object_May.j4 a0 v67 = some r → KR43 (.int .i64 v67) w := by
    intro v67 w hw H
    unfold object_May.j4 at H
    refine hKR43 _ _ ?_
    intro a hs1; have hs : Slots a _ [(7, .int .i64 v67)] := hs1.kx; clear hs1
    refine go_pvs 5 [7] [(4, .bool (decide (v67 ≥ 0)))] hs ?_; clear hs; intro a hs
    refine go_end (hK42 _ _ ?_)
    refine wp_ret ?_
    refine ret1 (t := 4) (v := .bool (decide (v67 ≥ 0))) hs (by kernel_rfl) (by kernel_rfl) ?_
    refine ⟨_, rfl, ?_⟩
    refine hKR40 _ _ ?_
    intro a hs1; have hs : Slots a _ [(1, .pointer (some (⟨g2, 0, none⟩ : Addr))), (5, .func (.func 37) #[] #[.pointer (some ad7)]), (6, .func (.func 38) #[] #[.pointer (some (⟨g2, 0, none⟩ : Addr))]), (44, .bool (decide (v67 ≥ 0)))] := hs1.kx; clear hs1
    refine go_pvs 5 [44] [(40, .bool (decide (v67 ≥ 0)))] hs ?_; clear hs; intro a hs
    refine go_end (hK39 _ _ ?_)
    refine go_cond hs (decide (v67 ≥ 0)) (fun hc => ?_) fun hc => ?_
    ·replace H := ite_t H (of_decide_eq_true hc)
     have hb68 := hc
     rw [hb68] at hs
     refine go_sp [1, 5, 6, 40] [(2, .int .i64 8)] hs ?_; clear hs; intro a hs
     refine wp_ret ?_
     refine ib_ret ?_
     refine th_ret ?_
     obtain rfl := Option.some.inj H
     refine ret1 (t := 2) (v := .int .i64 8) hs (by kernel_rfl) (by kernel_rfl) ?_
     exact ⟨rfl, hw.only 0⟩
    ·replace H := ite_f H (of_decide_eq_false hc)
     have hb70 := hc
     rw [hb70] at hs
     refine go_sk fun K71 hK71 => ?_
     refine go_pvs 1 [6, 40] [(46, .func (.func 38) #[] #[.pointer (some (⟨g2, 0, none⟩ : Addr))])] hs ?_; clear hs; intro a hs
     refine go_inline_k hs (by rfl) (f := 38) (args := #[.pointer (some (⟨g2, 0, none⟩ : Addr))]) (fun KR72 hKR72 => ?_)
     refine go_fn Tryd.func38 rfl Tryd.ntmps38 ?_; clear hs; intro a hs
     have hJ8 : ∀ (v104 : Bool) (w : World), St [] w0 w [own 38 (eI .u32) Aa29 cc30 t25, own 3 (eI .i64) (some ad7) 1 [w64 (4 * (a0.Words.length : Int))], box g2 32 [.slice A0_1 a0.Words.length c0_1, .slice A0_2 a0.Sites.length c0_2, .slice A0_3 a0.Syms.length c0_3]] → object_May.j8 a0 v104 = some r → KR72 (.bool v104) w := by
      intro v104 w hw H
      unfold object_May.j8 at H
      refine hKR72 _ _ ?_
      intro a hs1; have hs : Slots a _ [(1, .pointer (some (⟨g2, 0, none⟩ : Addr))), (5, .func (.func 37) #[] #[.pointer (some ad7)]), (47, .bool v104)] := hs1.kx; clear hs1
      refine go_pvs 4 [47] [(45, .bool (!v104))] hs ?_; clear hs; intro a hs
      refine go_end (hK71 _ _ ?_)
      refine go_cond hs (!v104) (fun hc => ?_) fun hc => ?_
      ·replace H := ite_f H (ff (nt hc))
       have hb105 := hc
       rw [hb105] at hs
       refine go_sp [1, 5, 45] [(2, .int .i64 9)] hs ?_; clear hs; intro a hs
       refine wp_ret ?_
       refine ib_ret ?_
       refine th_ret ?_
       obtain rfl := Option.some.inj H
       refine ret1 (t := 2) (v := .int .i64 9) hs (by kernel_rfl) (by kernel_rfl) ?_
       exact ⟨rfl, hw.only 0⟩
      ·replace H := ite_t H (nf hc)
       have hb107 := hc
       rw [hb107] at hs
       refine go_sk fun K108 hK108 => ?_
       refine go_pvs 1 [1, 45] [(50, .pointer (some (⟨g2, 2, none⟩ : Addr)))] hs ?_; clear hs; intro a hs
       refine go_run hs (by rfl) (x_bld (g := g2) (o := 2) (p := (⟨g2, 2, none⟩ : Addr)) (v := .slice A0_3 a0.Syms.length c0_3) (hw.up 2)) [50] ?_; clear hs; intro a hs
       refine go_pvs 3 [5] [(52, .func (.func 37) #[] #[.pointer (some ad7)])] hs ?_; clear hs; intro a hs
       refine go_inline_k hs (by rfl) (f := 42) (args := #[.slice A0_3 a0.Syms.length c0_3, .func (.func 37) #[] #[.pointer (some ad7)]]) (fun KR109 hKR109 => ?_)
       refine go_fn Tryd.func42 rfl Tryd.ntmps42 ?_; clear hs; intro a hs
       refine go_sp [] [] hs ?_; clear hs; intro a hs
       refine go_sk fun K111 hK111 => ?_
       refine go_pvs 2 [0, 1] [(5, .slice A0_3 a0.Syms.length c0_3), (6, .func (.func 37) #[] #[.pointer (some ad7)])] hs ?_; clear hs; intro a hs
       refine go_inline_k hs (by rfl) (f := 50) (args := #[.slice A0_3 a0.Syms.length c0_3, .func (.func 37) #[] #[.pointer (some ad7)]]) (fun KR112 hKR112 => ?_)
       refine go_fn Tryd.func50 rfl Tryd.ntmps50 ?_; clear hs; intro a hs
       have hJ11 : ∀ (v141 : Int) (w : World), St [] w0 w [own 38 (eI .u32) Aa29 cc30 t25, own 3 (eI .i64) (some ad7) 1 [w64 (4 * (a0.Words.length : Int))], box g2 32 [.slice A0_1 a0.Words.length c0_1, .slice A0_2 a0.Sites.length c0_2, .slice A0_3 a0.Syms.length c0_3]] → object_May.j11 v141 = some r → KR112 (.int .i64 v141) w := by
        intro v141 w hw H
        unfold object_May.j11 at H
        refine hKR112 _ _ ?_
        intro a hs1; have hs : Slots a _ [(7, .int .i64 v141)] := hs1.kx; clear hs1
        refine go_pvs 5 [7] [(4, .bool (decide (v141 ≥ 0)))] hs ?_; clear hs; intro a hs
        refine go_end (hK111 _ _ ?_)
        refine wp_ret ?_
        refine ret1 (t := 4) (v := .bool (decide (v141 ≥ 0))) hs (by kernel_rfl) (by kernel_rfl) ?_
        refine ⟨_, rfl, ?_⟩
        refine hKR109 _ _ ?_
        intro a hs1; have hs : Slots a _ [(53, .bool (decide (v141 ≥ 0)))] := hs1.kx; clear hs1
        refine go_pvs 5 [53] [(49, .bool (decide (v141 ≥ 0)))] hs ?_; clear hs; intro a hs
        refine go_end (hK108 _ _ ?_)
        refine go_cond hs (decide (v141 ≥ 0)) (fun hc => ?_) fun hc => ?_
        ·replace H := ite_t H (of_decide_eq_true hc)
         have hb142 := hc
         rw [hb142] at hs
         refine go_sp [49] [(2, .int .i64 8)] hs ?_; clear hs; intro a hs
         refine wp_ret ?_
         refine ib_ret ?_
         refine th_ret ?_
         obtain rfl := Option.some.inj H
         refine ret1 (t := 2) (v := .int .i64 8) hs (by kernel_rfl) (by kernel_rfl) ?_
         exact ⟨rfl, hw.only 0⟩
        ·replace H := ite_f H (of_decide_eq_false hc)
         have hb144 := hc
         rw [hb144] at hs
         refine wp_skip ?_
         refine ib_norm ?_
         refine hK34 _ _ ?_
         refine go_sp [49] [(2, .int .i64 0)] hs ?_; clear hs; intro a hs
         refine wp_ret ?_
         obtain rfl := Option.some.inj H
         refine ret1 (t := 2) (v := .int .i64 0) hs (by kernel_rfl) (by kernel_rfl) ?_
         exact ⟨rfl, hw.only 0⟩
       refine go_sp [] [] hs ?_; clear hs; intro a hs
       refine go_seq_k fun K114 hK114 => ?_
       refine go_sp [] [(7, .int .i64 (a0.Syms.length : Int)), (8, .int .i64 0)] hs ?_; clear hs; intro a hs
       refine wp_block ?_
       obtain ⟨e116, hl116, HX116⟩ := bind_some H
       have hJ10 : ∀ (a : Act) (w : World), Slots a 19 [] → St [] w0 w [own 38 (eI .u32) Aa29 cc30 t25, own 3 (eI .i64) (some ad7) 1 [w64 (4 * (a0.Words.length : Int))], box g2 32 [.slice A0_1 a0.Words.length c0_1, .slice A0_2 a0.Sites.length c0_2, .slice A0_3 a0.Syms.length c0_3]] → object_May.j10 = some r → K114 a w := by
        intro a w hs hw H
        unfold object_May.j10 at H
        refine hK114 _ _ ?_
        refine go_sp [] [(4, .int .i64 (-1))] hs ?_; clear hs; intro a hs
        refine wp_ret ?_
        refine ret1 (t := 4) (v := .int .i64 (-1)) hs (by kernel_rfl) (by kernel_rfl) ?_
        refine ⟨_, rfl, ?_⟩
        replace hw := hw.up 2
        replace hw := hw.up 2
        replace hw := hw.up 2
        exact hJ11 (-1) _ hw H
       clear H
       refine go_loop (σ := Int) (fun σ a w => Slots a 19 [(0, .slice A0_3 a0.Syms.length c0_3), (1, .func (.func 37) #[] #[.pointer (some ad7)]), (7, .int .i64 (a0.Syms.length : Int)), (8, .int .i64 σ)] ∧ St [] w0 w [own 38 (eI .u32) Aa29 cc30 t25, own 3 (eI .i64) (some ad7) 1 [w64 (4 * (a0.Words.length : Int))], box g2 32 [.slice A0_1 a0.Words.length c0_1, .slice A0_2 a0.Sites.length c0_2, .slice A0_3 a0.Syms.length c0_3]]) hl116 (by exact ⟨hs.kx, hw⟩) ?_
       rintro v117 a w ⟨hs, hw⟩ o H hr116
       replace hs : Slots a 19 [(0, .slice A0_3 a0.Syms.length c0_3), (1, .func (.func 37) #[] #[.pointer (some ad7)]), (7, .int .i64 (a0.Syms.length : Int)), (8, .int .i64 v117)] := hs
       replace hw : St [] w0 w [own 38 (eI .u32) Aa29 cc30 t25, own 3 (eI .i64) (some ad7) 1 [w64 (4 * (a0.Words.length : Int))], box g2 32 [.slice A0_1 a0.Words.length c0_1, .slice A0_2 a0.Sites.length c0_2, .slice A0_3 a0.Syms.length c0_3]] := hw
       replace H : object_May.b116 a0 v117 = some o := H
       unfold object_May.b116 at H
       refine go_sp [] [(9, .bool (decide (v117 < (a0.Syms.length : Int))))] hs ?_; clear hs; intro a hs
       refine go_seq_k fun K119 hK119 => ?_
       refine go_cond hs (decide (v117 < (a0.Syms.length : Int))) (fun hc => ?_) fun hc => ?_
       ·replace H := ite_t H (of_decide_eq_true hc)
        have hb120 := hc
        rw [hb120] at hs
        refine wp_skip ?_
        refine hK119 _ _ ?_
        refine go_seq_k fun K121 hK121 => ?_
        refine wp_block ?_
        refine go_sp [9] [(5, .int .i64 v117)] hs ?_; clear hs; intro a hs
        refine go_sk fun K123 hK123 => ?_
        refine go_pvs 3 [] [(11, .func (.func 37) #[] #[.pointer (some ad7)]), (12, .slice A0_3 a0.Syms.length c0_3), (13, .int .i64 v117)] hs ?_; clear hs; intro a hs
        obtain ⟨hp124, H⟩ := ite_only H
        obtain ⟨ad125, rfl⟩ := (hr0_3.old hw).some hp124.1 hp124.2
        refine go_run hs (by rfl) (x_idx (T := 72) (sz := 2) (a := ad125) (n := a0.Syms.length) (cap := c0_3) (k := .i64) (i := v117) hp124) [12, 13] ?_; clear hs; intro a hs
        refine go_run hs (by rfl) (x_lds (off := 0) (p := ad125.add (v117.toNat * 2)) (cs := [.string ((ix eSapi_Sym.d a0.Syms v117).Name), .int .i64 ((ix eSapi_Sym.d a0.Syms v117).At)]) (hr0_3.old hw) hp124 rfl) [14] ?_; clear hs; intro a hs
        refine go_inline_k hs (by rfl) (f := 37) (args := #[.agg #[.string ((ix eSapi_Sym.d a0.Syms v117).Name), .int .i64 ((ix eSapi_Sym.d a0.Syms v117).At)], .pointer (some ad7)]) (fun KR126 hKR126 => ?_)
        refine go_fn Tryd.func37 rfl Tryd.ntmps37 ?_; clear hs; intro a hs
        refine go_sk fun K127 hK127 => ?_
        obtain ⟨ad128, wd129, hx130, hw⟩ := x_box1 (P := Tryd.prog) (elem := 72) (v := (Operand.tmp 0)) (ty := 0) hs hw eSapi_Sym (ix eSapi_Sym.d a0.Syms v117) (by kernel_rfl)
        refine go_run hs (by rfl) hx130 [0] ?_; clear hs; intro a hs
        refine go_pvs 2 [] [] hs ?_; clear hs; intro a hs
        refine go_end (hK127 _ _ ?_)
        refine go_seq_k fun K132 hK132 => ?_
        have hJ9 : ∀ (v135 : Bool) (a : Act) (w : World), Slots a 19 [(3, .bool v135)] → St [] w0 w [own 72 eSapi_Sym (some ad128) 1 [(ix eSapi_Sym.d a0.Syms v117)], own 38 (eI .u32) Aa29 cc30 t25, own 3 (eI .i64) (some ad7) 1 [w64 (4 * (a0.Words.length : Int))], box g2 32 [.slice A0_1 a0.Words.length c0_1, .slice A0_2 a0.Sites.length c0_2, .slice (some ad125) a0.Syms.length c0_3]] → object_May.j9 v117 v135 = some o → K132 a w := by
         intro v135 a w hs hw H
         unfold object_May.j9 at H
         refine hK132 _ _ ?_
         refine wp_ret ?_
         refine ret1 (t := 3) (v := .bool v135) hs (by kernel_rfl) (by kernel_rfl) ?_
         refine ⟨_, rfl, ?_⟩
         refine hKR126 _ _ ?_
         intro a hs1; have hs : Slots a _ [(0, .slice (some ad125) a0.Syms.length c0_3), (1, .func (.func 37) #[] #[.pointer (some ad7)]), (5, .int .i64 v117), (7, .int .i64 (a0.Syms.length : Int)), (8, .int .i64 v117), (16, .bool v135)] := hs1.kx; clear hs1
         refine go_end (hK123 _ _ ?_)
         refine go_cond hs v135 (fun hc => ?_) fun hc => ?_
         ·replace H := ite_t H hc
          have hb136 := hc
          rw [hb136] at hs
          refine go_sp [0, 1, 5, 7, 8, 16] [(4, .int .i64 v117)] hs ?_; clear hs; intro a hs
          refine wp_ret ?_
          refine ib_ret ?_
          refine th_ret ?_
          refine th_ret ?_
          refine ib_ret ?_
          refine th_ret ?_
          rw [← hr116 _ (Option.some.inj H).symm] at HX116
          replace H : object_May.j11 v117 = some r := HX116
          refine ret1 (t := 4) (v := .int .i64 v117) hs (by kernel_rfl) (by kernel_rfl) ?_
          refine ⟨_, rfl, ?_⟩
          replace hw := hw.up 3
          replace hw := hw.up 3
          replace hw := hw.up 3
          replace hw := hw.only 3
          exact hJ11 v117 _ hw H
         ·replace H := ite_f H (ff hc)
          have hb138 := hc
          rw [hb138] at hs
          refine wp_skip ?_
          refine ib_norm ?_
          refine hK121 _ _ ?_
          refine go_plain [5, 16] [(8, .int .i64 (w64 (v117 + 1)))] hs ?_; clear hs; intro a hs
          replace hw := hw.up 3
          replace hw := hw.up 3
          replace hw := hw.up 3
          replace hw := hw.only 3
          exact round_end (w64 (v117 + 1)) (Option.some.inj H).symm ⟨hs.kx, hw⟩
        refine go_region ?_
        refine go_pvs 1 [] [(4, .pointer (some ((ad128 : Addr).add 1)))] hs ?_; clear hs; intro a hs
        refine go_run hs (by rfl) (x_ld (off := 1) (p := (ad128 : Addr).add 1) (v := .int .i64 ((ix eSapi_Sym.d a0.Syms v117).At)) (Rd.of_own (hw.up 0)) (one_ok (ix eSapi_Sym.d a0.Syms v117)) (one_off _ _ _)) [4] ?_; clear hs; intro a hs
        refine go_pvs 4 [5] [(7, .bool (decide (((ix eSapi_Sym.d a0.Syms v117).At) < 0)))] hs ?_; clear hs; intro a hs
        cases hb133 : (decide (((ix eSapi_Sym.d a0.Syms v117).At) < 0))
        ·replace H := ite_f H (of_decide_eq_false hb133)
         rw [hb133] at hs
         refine go_pvs 5 [] [(8, .pointer (some ((ad128 : Addr).add 1)))] hs ?_; clear hs; intro a hs
         refine go_run hs (by rfl) (x_ld (off := 1) (p := (ad128 : Addr).add 1) (v := .int .i64 ((ix eSapi_Sym.d a0.Syms v117).At)) (Rd.of_own (hw.up 0)) (one_ok (ix eSapi_Sym.d a0.Syms v117)) (one_off _ _ _)) [8] ?_; clear hs; intro a hs
         refine go_run hs (by rfl) (x_ld (off := 0) (p := ad7) (v := .int .i64 (w64 (4 * (a0.Words.length : Int)))) (Rd.of_own (hw.up 2)) (one_ok (w64 (4 * (a0.Words.length : Int)))) (one_at _ _)) [1] ?_; clear hs; intro a hs
         refine go_pvs 10 [7, 9, 10] [(13, .bool (decide (((ix eSapi_Sym.d a0.Syms v117).At) > (w64 (4 * (a0.Words.length : Int))))))] hs ?_; clear hs; intro a hs
         cases hb134 : (decide (((ix eSapi_Sym.d a0.Syms v117).At) > (w64 (4 * (a0.Words.length : Int)))))
         ·replace H := ite_f H (of_decide_eq_false hb134)
          rw [hb134] at hs
          refine go_pvs 11 [2] [(14, .pointer (some ((ad128 : Addr).add 1)))] hs ?_; clear hs; intro a hs
          refine go_run hs (by rfl) (x_ld (off := 1) (p := (ad128 : Addr).add 1) (v := .int .i64 ((ix eSapi_Sym.d a0.Syms v117).At)) (Rd.of_own (hw.up 0)) (one_ok (ix eSapi_Sym.d a0.Syms v117)) (one_off _ _ _)) [14] ?_; clear hs; intro a hs
          refine go_pvs 16 [13, 15] [(3, .bool ((((ix eSapi_Sym.d a0.Syms v117).At).tmod 4) != 0))] hs ?_; clear hs; intro a hs
          refine go_end ?_
          replace hw := hw.up 3
          replace hw := hw.up 3
          replace hw := hw.up 3
          replace hw := hw.up 3
          exact hJ9 ((((ix eSapi_Sym.d a0.Syms v117).At).tmod 4) != 0) _ _ hs.kx hw H
         ·replace H := ite_t H (of_decide_eq_true hb134)
          rw [hb134] at hs
          refine go_pvs 16 [2, 13] [(3, .bool true)] hs ?_; clear hs; intro a hs
          refine go_end ?_
          replace hw := hw.up 3
          replace hw := hw.up 3
          replace hw := hw.up 3
          replace hw := hw.up 3
          exact hJ9 true _ _ hs.kx hw H
        ·replace H := ite_t H (of_decide_eq_true hb133)
         rw [hb133] at hs
         refine go_pvs 16 [1, 2, 7] [(3, .bool true)] hs ?_; clear hs; intro a hs
         refine go_end ?_
         replace hw := hw.up 3
         replace hw := hw.up 3
         replace hw := hw.up 3
         replace hw := hw.up 3
         exact hJ9 true _ _ hs.kx hw H
       ·replace H := ite_f H (of_decide_eq_false hc)
        have hb139 := hc
        rw [hb139] at hs
        refine wp_exit ?_
        refine th_exit ?_
        refine th_exit ?_
        refine in_block ?_
        replace hw := hw.up 2
        replace hw := hw.up 2
        replace hw := hw.up 2
        rw [← hr116 _ (Option.some.inj H).symm] at HX116
        exact hJ10 _ _ hs.kx hw HX116
     refine go_sp [] [] hs ?_; clear hs; intro a hs
     refine go_seq_k fun K74 hK74 => ?_
     refine go_sk fun K75 hK75 => ?_
     refine go_pvs 1 [] [(4, .pointer (some (⟨g2, 2, none⟩ : Addr)))] hs ?_; clear hs; intro a hs
     refine go_run hs (by rfl) (x_bld (g := g2) (o := 2) (p := (⟨g2, 2, none⟩ : Addr)) (v := .slice A0_3 a0.Syms.length c0_3) (hw.up 2)) [4] ?_; clear hs; intro a hs
     refine go_pvs 4 [] [(6, .int .i64 (a0.Syms.length : Int)), (7, .int .i64 0)] hs ?_; clear hs; intro a hs
     refine go_end (hK75 _ _ ?_)
     refine wp_block ?_
     obtain ⟨e76, hl76, HX76⟩ := bind_some H
     have hJ7 : ∀ (a : Act) (w : World), Slots a 33 [] → St [] w0 w [own 38 (eI .u32) Aa29 cc30 t25, own 3 (eI .i64) (some ad7) 1 [w64 (4 * (a0.Words.length : Int))], box g2 32 [.slice A0_1 a0.Words.length c0_1, .slice A0_2 a0.Sites.length c0_2, .slice A0_3 a0.Syms.length c0_3]] → object_May.j7 a0 = some r → K74 a w := by
      intro a w hs hw H
      unfold object_May.j7 at H
      refine hK74 _ _ ?_
      refine go_sp [] [(1, .bool true)] hs ?_; clear hs; intro a hs
      refine wp_ret ?_
      refine ret1 (t := 1) (v := .bool true) hs (by kernel_rfl) (by kernel_rfl) ?_
      refine ⟨_, rfl, ?_⟩
      replace hw := hw.up 2
      replace hw := hw.up 2
      replace hw := hw.up 2
      exact hJ8 true _ hw H
     clear H
     refine go_loop (σ := Int) (fun σ a w => Slots a 33 [(0, .pointer (some (⟨g2, 0, none⟩ : Addr))), (5, .slice A0_3 a0.Syms.length c0_3), (6, .int .i64 (a0.Syms.length : Int)), (7, .int .i64 σ)] ∧ St [] w0 w [own 38 (eI .u32) Aa29 cc30 t25, own 3 (eI .i64) (some ad7) 1 [w64 (4 * (a0.Words.length : Int))], box g2 32 [.slice A0_1 a0.Words.length c0_1, .slice A0_2 a0.Sites.length c0_2, .slice A0_3 a0.Syms.length c0_3]]) hl76 (by exact ⟨hs.kx, hw⟩) ?_
     rintro v77 a w ⟨hs, hw⟩ o H hr76
     replace hs : Slots a 33 [(0, .pointer (some (⟨g2, 0, none⟩ : Addr))), (5, .slice A0_3 a0.Syms.length c0_3), (6, .int .i64 (a0.Syms.length : Int)), (7, .int .i64 v77)] := hs
     replace hw : St [] w0 w [own 38 (eI .u32) Aa29 cc30 t25, own 3 (eI .i64) (some ad7) 1 [w64 (4 * (a0.Words.length : Int))], box g2 32 [.slice A0_1 a0.Words.length c0_1, .slice A0_2 a0.Sites.length c0_2, .slice A0_3 a0.Syms.length c0_3]] := hw
     replace H : object_May.b76 a0 v77 = some o := H
     unfold object_May.b76 at H
     refine go_sp [] [(8, .bool (decide (v77 < (a0.Syms.length : Int))))] hs ?_; clear hs; intro a hs
     refine go_seq_k fun K79 hK79 => ?_
     refine go_cond hs (decide (v77 < (a0.Syms.length : Int))) (fun hc => ?_) fun hc => ?_
     ·replace H := ite_t H (of_decide_eq_true hc)
      have hb80 := hc
      rw [hb80] at hs
      refine wp_skip ?_
      refine hK79 _ _ ?_
      refine go_seq_k fun K81 hK81 => ?_
      have hJ6 : ∀ (a : Act) (w : World), Slots a 33 [(0, .pointer (some (⟨g2, 0, none⟩ : Addr))), (5, .slice A0_3 a0.Syms.length c0_3), (6, .int .i64 (a0.Syms.length : Int)), (7, .int .i64 v77)] → St [] w0 w [own 38 (eI .u32) Aa29 cc30 t25, own 3 (eI .i64) (some ad7) 1 [w64 (4 * (a0.Words.length : Int))], box g2 32 [.slice A0_1 a0.Words.length c0_1, .slice A0_2 a0.Sites.length c0_2, .slice A0_3 a0.Syms.length c0_3]] → object_May.j6 v77 = some o → K81 a w := by
       intro a w hs hw H
       unfold object_May.j6 at H
       refine hK81 _ _ ?_
       refine go_plain [] [(7, .int .i64 (w64 (v77 + 1)))] hs ?_; clear hs; intro a hs
       replace hw := hw.up 2
       replace hw := hw.up 2
       replace hw := hw.up 2
       exact round_end (w64 (v77 + 1)) (Option.some.inj H).symm ⟨hs.kx, hw⟩
      refine wp_block ?_
      refine go_sk fun K82 hK82 => ?_
      refine go_pvs 1 [8] [(9, .int .i64 v77)] hs ?_; clear hs; intro a hs
      obtain ⟨hp83, H⟩ := ite_only H
      obtain ⟨ad84, rfl⟩ := (hr0_3.old hw).some hp83.1 hp83.2
      refine go_run hs (by rfl) (x_idx (T := 72) (sz := 2) (a := ad84) (n := a0.Syms.length) (cap := c0_3) (k := .i64) (i := v77) hp83) [] ?_; clear hs; intro a hs
      refine go_run hs (by rfl) (x_lds (off := 0) (p := ad84.add (v77.toNat * 2)) (cs := [.string ((ix eSapi_Sym.d a0.Syms v77).Name), .int .i64 ((ix eSapi_Sym.d a0.Syms v77).At)]) (hr0_3.old hw) hp83 rfl) [10] ?_; clear hs; intro a hs
      obtain ⟨ad85, wd86, hx87, hw⟩ := x_alloc1 (P := Tryd.prog) (elem := 72) (ty := 0) (z := .agg #[.string (⟨#[]⟩ : ByteArray), .int .i64 0]) hs hw eSapi_Sym (⟨(⟨#[]⟩ : ByteArray), 0⟩ : Sapi_Sym) (by kernel_rfl) (by kernel_rfl)
      refine go_run hs (by rfl) hx87 [] ?_; clear hs; intro a hs
      refine go_pvs 5 [9] [(2, .int .i64 v77)] hs ?_; clear hs; intro a hs
      obtain ⟨wd89, hx90, hw⟩ := x_put (P := Tryd.prog) (ty := 0) (t := 72) (x := (Operand.tmp 3)) (y := (Operand.tmp 11)) (off := 0) (p := ad85) (v := .agg #[.string ((ix eSapi_Sym.d a0.Syms v77).Name), .int .i64 ((ix eSapi_Sym.d a0.Syms v77).At)]) (vs := [.string ((ix eSapi_Sym.d a0.Syms v77).Name), .int .i64 ((ix eSapi_Sym.d a0.Syms v77).At)]) (i := 0) (e' := (((ix eSapi_Sym.d a0.Syms v77) : Sapi_Sym) : Sapi_Sym)) hs hw rfl (one_ok (⟨(⟨#[]⟩ : ByteArray), 0⟩ : Sapi_Sym)).1 (one_ok (⟨(⟨#[]⟩ : ByteArray), 0⟩ : Sapi_Sym)).2 (by kernel_rfl) (one_at _ _) (by kernel_rfl) rfl (by kernel_rfl) (Nat.le_of_ble_eq_true rfl) (by simp [Value.oneCell']) (by kernel_rfl)
      refine go_unit hs (by rfl) hx90 [11] ?_; clear hs; intro a hs
      replace hw : St [] w0 wd89 [own 72 eSapi_Sym (some ad85) 1 [((ix eSapi_Sym.d a0.Syms v77) : Sapi_Sym)], own 38 (eI .u32) Aa29 cc30 t25, own 3 (eI .i64) (some ad7) 1 [w64 (4 * (a0.Words.length : Int))], box g2 32 [.slice A0_1 a0.Words.length c0_1, .slice A0_2 a0.Sites.length c0_2, .slice (some ad84) a0.Syms.length c0_3]] := hw
      refine go_end (hK82 _ _ ?_)
      refine go_seq_k fun K91 hK91 => ?_
      have hJ5 : ∀ (v98 : Bool) (a : Act) (w : World), Slots a 33 [(0, .pointer (some (⟨g2, 0, none⟩ : Addr))), (5, .slice (some ad84) a0.Syms.length c0_3), (6, .int .i64 (a0.Syms.length : Int)), (7, .int .i64 v77), (31, .bool v98)] → St [] w0 w [own 72 eSapi_Sym (some ad85) 1 [((ix eSapi_Sym.d a0.Syms v77) : Sapi_Sym)], own 38 (eI .u32) Aa29 cc30 t25, own 3 (eI .i64) (some ad7) 1 [w64 (4 * (a0.Words.length : Int))], box g2 32 [.slice A0_1 a0.Words.length c0_1, .slice A0_2 a0.Sites.length c0_2, .slice (some ad84) a0.Syms.length c0_3]] → object_May.j5 v77 v98 = some o → K91 a w := by
       intro v98 a w hs hw H
       unfold object_May.j5 at H
       refine hK91 _ _ ?_
       refine go_cond hs v98 (fun hc => ?_) fun hc => ?_
       ·replace H := ite_t H hc
        have hb99 := hc
        rw [hb99] at hs
        refine go_sp [0, 5, 6, 7, 31] [(1, .bool false)] hs ?_; clear hs; intro a hs
        refine wp_ret ?_
        refine ib_ret ?_
        refine th_ret ?_
        refine th_ret ?_
        refine ib_ret ?_
        refine th_ret ?_
        rw [← hr76 _ (Option.some.inj H).symm] at HX76
        replace H : object_May.j8 a0 false = some r := HX76
        refine ret1 (t := 1) (v := .bool false) hs (by kernel_rfl) (by kernel_rfl) ?_
        refine ⟨_, rfl, ?_⟩
        replace hw := hw.up 3
        replace hw := hw.up 3
        replace hw := hw.up 3
        replace hw := hw.only 3
        exact hJ8 false _ hw H
       ·replace H := ite_f H (ff hc)
        have hb101 := hc
        rw [hb101] at hs
        refine wp_skip ?_
        refine ib_norm ?_
        replace hw := hw.up 3
        replace hw := hw.up 3
        replace hw := hw.up 3
        replace hw := hw.only 3
        exact hJ6 _ _ hs.kx hw H
      refine q2_region (by kernel_rfl) (by kernel_rfl) ?_
      refine q_pvs 1 [] [(12, .pointer (some ((ad85 : Addr).add 0)))] hs ?_; clear hs; intro a hs
      refine q_run hs (by rfl) (fun wx hbx => (x_ld (off := 0) (p := (ad85 : Addr).add 0) (v := .string (((ix eSapi_Sym.d a0.Syms v77) : Sapi_Sym).Name)) ((Rd.of_own (hw.up 0)).below hbx) (one_ok ((ix eSapi_Sym.d a0.Syms v77) : Sapi_Sym)) (one_off _ _ _))) [12] ?_; clear hs; intro a hs
      obtain ⟨t93, hx94, H⟩ := bind_some H
      refine q_call hs (by rfl) (fun wx hbx => (le_Name.calls (((ix eSapi_Sym.d a0.Syms v77) : Sapi_Sym).Name) t93 _ hx94).mono fun e wy h => ⟨h.1, below_st hbx h.2⟩) [13] ?_; clear hs; intro a hs
      refine q_pvs 5 [14] [(16, .bool (!t93))] hs ?_; clear hs; intro a hs
      cases hb95 : (!t93)
      ·replace H := ite_t H (nf hb95)
       rw [hb95] at hs
       refine q_pvs 8 [] [(19, .bool (decide (v77 > 0)))] hs ?_; clear hs; intro a hs
       cases hb96 : (decide (v77 > 0))
       ·replace H := ite_f H (of_decide_eq_false hb96)
        rw [hb96] at hs
        refine q_pvs 20 [2, 3, 16, 19] [(31, .bool false)] hs ?_; clear hs; intro a hs
        refine q_end ?_
        intro wq hbq
        replace hw := hw.behind hbq
        replace hw := hw.up 3
        replace hw := hw.up 3
        replace hw := hw.up 3
        replace hw := hw.up 3
        exact hJ5 false _ _ hs.kx hw H
       ·replace H := ite_t H (of_decide_eq_true hb96)
        rw [hb96] at hs
        refine q_pvs 9 [3] [(20, .pointer (some ((ad85 : Addr).add 0)))] hs ?_; clear hs; intro a hs
        refine q_run hs (by rfl) (fun wx hbx => (x_ld (off := 0) (p := (ad85 : Addr).add 0) (v := .string (((ix eSapi_Sym.d a0.Syms v77) : Sapi_Sym).Name)) ((Rd.of_own (hw.up 0)).below hbx) (one_ok ((ix eSapi_Sym.d a0.Syms v77) : Sapi_Sym)) (one_off _ _ _))) [20] ?_; clear hs; intro a hs
        refine q_pvs 11 [] [(22, .pointer (some (⟨g2, 2, none⟩ : Addr)))] hs ?_; clear hs; intro a hs
        refine q_run hs (by rfl) (fun wx hbx => (x_bld (g := g2) (o := 2) (p := (⟨g2, 2, none⟩ : Addr)) (v := .slice (some ad84) a0.Syms.length c0_3) ((hw.behind hbx).up 3))) [22] ?_; clear hs; intro a hs
        refine q_pvs 14 [2] [(25, .int .i64 (w64 (v77 - 1)))] hs ?_; clear hs; intro a hs
        obtain ⟨hp97, H⟩ := ite_only H
        refine q_run hs (by rfl) (fun wx hbx => (x_idx (T := 72) (sz := 2) (a := ad84) (n := a0.Syms.length) (cap := c0_3) (k := .i64) (i := (w64 (v77 - 1))) hp97)) [23, 25] ?_; clear hs; intro a hs
        refine q_pvs 16 [26] [(27, .pointer (some ((ad84.add ((w64 (v77 - 1)).toNat * 2) : Addr).add 0)))] hs ?_; clear hs; intro a hs
        refine q_run hs (by rfl) (fun wx hbx => (x_ld (off := 0) (p := (ad84.add ((w64 (v77 - 1)).toNat * 2) : Addr).add 0) (v := .string ((ix eSapi_Sym.d a0.Syms (w64 (v77 - 1))).Name)) ((hr0_3.old hw).below hbx) hp97 (by simp only [add_add', Nat.add_assoc]; rfl))) [27] ?_; clear hs; intro a hs
        refine q_pvs 20 [16, 19, 21, 28] [(31, .bool (Op.bytesLess (((ix eSapi_Sym.d a0.Syms v77) : Sapi_Sym).Name).toList ((ix eSapi_Sym.d a0.Syms (w64 (v77 - 1))).Name).toList || (((ix eSapi_Sym.d a0.Syms v77) : Sapi_Sym).Name).toList == ((ix eSapi_Sym.d a0.Syms (w64 (v77 - 1))).Name).toList))] hs ?_; clear hs; intro a hs
        refine q_end ?_
        intro wq hbq
        replace hw := hw.behind hbq
        replace hw := hw.up 3
        replace hw := hw.up 3
        replace hw := hw.up 3
        replace hw := hw.up 3
        exact hJ5 (Op.bytesLess (((ix eSapi_Sym.d a0.Syms v77) : Sapi_Sym).Name).toList ((ix eSapi_Sym.d a0.Syms (w64 (v77 - 1))).Name).toList || (((ix eSapi_Sym.d a0.Syms v77) : Sapi_Sym).Name).toList == ((ix eSapi_Sym.d a0.Syms (w64 (v77 - 1))).Name).toList) _ _ hs.kx hw H
      ·replace H := ite_f H (ff (nt hb95))
       rw [hb95] at hs
       refine q_pvs 20 [2, 3, 16] [(31, .bool true)] hs ?_; clear hs; intro a hs
       refine q_end ?_
       intro wq hbq
       replace hw := hw.behind hbq
       replace hw := hw.up 3
       replace hw := hw.up 3
       replace hw := hw.up 3
       replace hw := hw.up 3
       exact hJ5 true _ _ hs.kx hw H
     ·replace H := ite_f H (of_decide_eq_false hc)
      have hb102 := hc
      rw [hb102] at hs
      refine wp_exit ?_
      refine th_exit ?_
      refine th_exit ?_
      refine in_block ?_
      replace hw := hw.up 2
      replace hw := hw.up 2
      replace hw := hw.up 2
      rw [← hr76 _ (Option.some.inj H).symm] at HX76
      exact hJ7 _ _ hs.kx hw HX76
   refine go_sp [] [] hs ?_; clear hs; intro a hs
   refine go_seq_k fun K45 hK45 => ?_
   refine go_sp [] [(7, .int .i64 (a0.Sites.length : Int)), (8, .int .i64 0)] hs ?_; clear hs; intro a hs
   refine wp_block ?_
   obtain ⟨e47, hl47, HX47⟩ := bind_some H
   have hJ3 : ∀ (a : Act) (w : World), Slots a 19 [] → St [] w0 w [own 38 (eI .u32) Aa29 cc30 t25, own 3 (eI .i64) (some ad7) 1 [w64 (4 * (a0.Words.length : Int))], box g2 32 [.slice A0_1 a0.Words.length c0_1, .slice A0_2 a0.Sites.length c0_2, .slice A0_3 a0.Syms.length c0_3]] → object_May.j3 a0 = some r → K45 a w := by
    intro a w hs hw H
    unfold object_May.j3 at H
    refine hK45 _ _ ?_
    refine go_sp [] [(4, .int .i64 (-1))] hs ?_; clear hs; intro a hs
    refine wp_ret ?_
    refine ret1 (t := 4) (v := .int .i64 (-1)) hs (by kernel_rfl) (by kernel_rfl) ?_
    refine ⟨_, rfl, ?_⟩
    replace hw := hw.up 2
    replace hw := hw.up 2
    replace hw := hw.up 2
    exact hJ4 (-1) _ hw H
   clear H
   refine go_loop (σ := Int) (fun σ a w => Slots a 19 [(0, .slice A0_2 a0.Sites.length c0_2), (1, .func (.func 36) #[] #[.pointer (some (⟨g2, 0, none⟩ : Addr)), .pointer (some ad7)]), (7, .int .i64 (a0.Sites.length : Int)), (8, .int .i64 σ)] ∧ St [] w0 w [own 38 (eI .u32) Aa29 cc30 t25, own 3 (eI .i64) (some ad7) 1 [w64 (4 * (a0.Words.length : Int))], box g2 32 [.slice A0_1 a0.Words.length c0_1, .slice A0_2 a0.Sites.length c0_2, .slice A0_3 a0.Syms.length c0_3]]) hl47 (by exact ⟨hs.kx, hw⟩) ?_
   rintro v48 a w ⟨hs, hw⟩ o H hr47
   replace hs : Slots a 19 [(0, .slice A0_2 a0.Sites.length c0_2), (1, .func (.func 36) #[] #[.pointer (some (⟨g2, 0, none⟩ : Addr)), .pointer (some ad7)]), (7, .int .i64 (a0.Sites.length : Int)), (8, .int .i64 v48)] := hs
   replace hw : St [] w0 w [own 38 (eI .u32) Aa29 cc30 t25, own 3 (eI .i64) (some ad7) 1 [w64 (4 * (a0.Words.length : Int))], box g2 32 [.slice A0_1 a0.Words.length c0_1, .slice A0_2 a0.Sites.length c0_2, .slice A0_3 a0.Syms.length c0_3]] := hw
   replace H : object_May.b47 a0 v48 = some o := H
   unfold object_May.b47 at H
   refine go_sp [] [(9, .bool (decide (v48 < (a0.Sites.length : Int))))] hs ?_; clear hs; intro a hs
   refine go_seq_k fun K50 hK50 => ?_
   refine go_cond hs (decide (v48 < (a0.Sites.length : Int))) (fun hc => ?_) fun hc => ?_
   ·replace H := ite_t H (of_decide_eq_true hc)
    have hb51 := hc
    rw [hb51] at hs
    refine wp_skip ?_
    refine hK50 _ _ ?_
    refine go_seq_k fun K52 hK52 => ?_
    refine wp_block ?_
    refine go_sp [9] [(5, .int .i64 v48)] hs ?_; clear hs; intro a hs
    refine go_sk fun K54 hK54 => ?_
    refine go_pvs 3 [] [(11, .func (.func 36) #[] #[.pointer (some (⟨g2, 0, none⟩ : Addr)), .pointer (some ad7)]), (12, .slice A0_2 a0.Sites.length c0_2), (13, .int .i64 v48)] hs ?_; clear hs; intro a hs
    obtain ⟨hp55, H⟩ := ite_only H
    obtain ⟨ad56, rfl⟩ := (hr0_2.old hw).some hp55.1 hp55.2
    refine go_run hs (by rfl) (x_idx (T := 3) (sz := 1) (a := ad56) (n := a0.Sites.length) (cap := c0_2) (k := .i64) (i := v48) hp55) [12, 13] ?_; clear hs; intro a hs
    refine go_run hs (by rfl) (x_ld (off := 0) (p := ad56.add (v48.toNat * 1)) (v := .int .i64 (ix (eI .i64).d a0.Sites v48)) (hr0_2.old hw) hp55 rfl) [14] ?_; clear hs; intro a hs
    refine go_inline_k hs (by rfl) (f := 36) (args := #[.int .i64 (ix (eI .i64).d a0.Sites v48), .pointer (some (⟨g2, 0, none⟩ : Addr)), .pointer (some ad7)]) (fun KR57 hKR57 => ?_)
    refine go_fn Tryd.func36 rfl Tryd.ntmps36 ?_; clear hs; intro a hs
    refine go_sp [] [] hs ?_; clear hs; intro a hs
    refine go_seq_k fun K59 hK59 => ?_
    refine q2_region (by kernel_rfl) (by kernel_rfl) ?_
    refine q_pvs 1 [1] [(5, .pointer (some (⟨g2, 0, none⟩ : Addr)))] hs ?_; clear hs; intro a hs
    refine q_run hs (by rfl) (fun wx hbx => (x_bld (g := g2) (o := 0) (p := (⟨g2, 0, none⟩ : Addr)) (v := .slice A0_1 a0.Words.length c0_1) ((hw.behind hbx).up 2))) [5] ?_; clear hs; intro a hs
    refine q_pvs 3 [0] [(7, .int .i64 (ix (eI .i64).d a0.Sites v48))] hs ?_; clear hs; intro a hs
    obtain ⟨hp60, H⟩ := ite_only H
    obtain ⟨ad61, rfl⟩ := (hr0_1.old hw).some hp60.1 hp60.2
    refine q_run hs (by rfl) (fun wx hbx => (x_idx (T := 38) (sz := 1) (a := ad61) (n := a0.Words.length) (cap := c0_1) (k := .i64) (i := (ix (eI .i64).d a0.Sites v48)) hp60)) [6, 7] ?_; clear hs; intro a hs
    refine q_run hs (by rfl) (fun wx hbx => (x_ld (off := 0) (p := ad61.add ((ix (eI .i64).d a0.Sites v48).toNat * 1)) (v := .int .u32 (ix (eI .u32).d a0.Words (ix (eI .i64).d a0.Sites v48))) ((hr0_1.old hw).below hbx) hp60 rfl)) [8] ?_; clear hs; intro a hs
    refine q_pvs 6 [9] [(10, .int .i64 (w64 (ix (eI .u32).d a0.Words (ix (eI .i64).d a0.Sites v48))))] hs ?_; clear hs; intro a hs
    refine q_run hs (by rfl) (fun wx hbx => (x_ld (off := 0) (p := ad7) (v := .int .i64 (w64 (4 * (a0.Words.length : Int)))) ((Rd.of_own (hw.up 1)).below hbx) (one_ok (w64 (4 * (a0.Words.length : Int)))) (one_at _ _))) [2] ?_; clear hs; intro a hs
    refine q_pvs 9 [10, 11] [(4, .bool (decide ((w64 (ix (eI .u32).d a0.Words (ix (eI .i64).d a0.Sites v48))) > (w64 (4 * (a0.Words.length : Int))))))] hs ?_; clear hs; intro a hs
    refine q_end ?_
    intro wq hbq
    replace hw := hw.behind hbq
    refine hK59 _ _ ?_
    refine wp_ret ?_
    refine ret1 (t := 4) (v := .bool (decide ((w64 (ix (eI .u32).d a0.Words (ix (eI .i64).d a0.Sites v48))) > (w64 (4 * (a0.Words.length : Int)))))) hs (by kernel_rfl) (by kernel_rfl) ?_
    refine ⟨_, rfl, ?_⟩
    refine hKR57 _ _ ?_
    intro a hs1; have hs : Slots a _ [(0, .slice (some ad56) a0.Sites.length c0_2), (1, .func (.func 36) #[] #[.pointer (some (⟨g2, 0, none⟩ : Addr)), .pointer (some ad7)]), (5, .int .i64 v48), (7, .int .i64 (a0.Sites.length : Int)), (8, .int .i64 v48), (16, .bool (decide ((w64 (ix (eI .u32).d a0.Words (ix (eI .i64).d a0.Sites v48))) > (w64 (4 * (a0.Words.length : Int))))))] := hs1.kx; clear hs1
    refine go_end (hK54 _ _ ?_)
    refine go_cond hs (decide ((w64 (ix (eI .u32).d a0.Words (ix (eI .i64).d a0.Sites v48))) > (w64 (4 * (a0.Words.length : Int))))) (fun hc => ?_) fun hc => ?_
    ·replace H := ite_t H (of_decide_eq_true hc)
     have hb62 := hc
     rw [hb62] at hs
     refine go_sp [0, 1, 5, 7, 8, 16] [(4, .int .i64 v48)] hs ?_; clear hs; intro a hs
     refine wp_ret ?_
     refine ib_ret ?_
     refine th_ret ?_
     refine th_ret ?_
     refine ib_ret ?_
     refine th_ret ?_
     rw [← hr47 _ (Option.some.inj H).symm] at HX47
     replace H : object_May.j4 a0 v48 = some r := HX47
     refine ret1 (t := 4) (v := .int .i64 v48) hs (by kernel_rfl) (by kernel_rfl) ?_
     refine ⟨_, rfl, ?_⟩
     replace hw := hw.up 2
     replace hw := hw.up 2
     replace hw := hw.up 2
     exact hJ4 v48 _ hw H
    ·replace H := ite_f H (of_decide_eq_false hc)
     have hb64 := hc
     rw [hb64] at hs
     refine wp_skip ?_
     refine ib_norm ?_
     refine hK52 _ _ ?_
     refine go_plain [5, 16] [(8, .int .i64 (w64 (v48 + 1)))] hs ?_; clear hs; intro a hs
     replace hw := hw.up 2
     replace hw := hw.up 2
     replace hw := hw.up 2
     exact round_end (w64 (v48 + 1)) (Option.some.inj H).symm ⟨hs.kx, hw⟩
   ·replace H := ite_f H (of_decide_eq_false hc)
    have hb65 := hc
    rw [hb65] at hs
    refine wp_exit ?_
    refine th_exit ?_
    refine th_exit ?_
    refine in_block ?_
    replace hw := hw.up 2
    replace hw := hw.up 2
    replace hw := hw.up 2
    rw [← hr47 _ (Option.some.inj H).symm] at HX47
    exact hJ3 _ _ hs.kx hw HX47
 refine go_seq_k fun K17 hK17 => ?_
 have hJ1 : ∀ (v19 : Bool) (a : Act) (w : World), Slots a 54 [(1, .pointer (some (⟨g2, 0, none⟩ : Addr))), (4, .func (.func 36) #[] #[.pointer (some (⟨g2, 0, none⟩ : Addr)), .pointer (some ad7)]), (5, .func (.func 37) #[] #[.pointer (some ad7)]), (6, .func (.func 38) #[] #[.pointer (some (⟨g2, 0, none⟩ : Addr))]), (26, .bool v19)] → St [] w0 w [own 3 (eI .i64) (some ad7) 1 [w64 (4 * (a0.Words.length : Int))], box g2 32 [.slice A0_1 a0.Words.length c0_1, .slice A0_2 a0.Sites.length c0_2, .slice A0_3 a0.Syms.length c0_3]] → object_May.j1 a0 v19 = some r → K17 a w := by
  intro v19 a w hs hw H
  unfold object_May.j1 at H
  refine hK17 _ _ ?_
  refine go_cond hs v19 (fun hc => ?_) fun hc => ?_
  ·replace H := ite_t H hc
   have hb20 := hc
   rw [hb20] at hs
   refine go_sp [1, 4, 5, 6, 26] [(2, .int .i64 2)] hs ?_; clear hs; intro a hs
   refine wp_ret ?_
   refine th_ret ?_
   obtain rfl := Option.some.inj H
   refine ret1 (t := 2) (v := .int .i64 2) hs (by kernel_rfl) (by kernel_rfl) ?_
   exact ⟨rfl, hw.only 0⟩
  ·replace H := ite_f H (ff hc)
   have hb22 := hc
   rw [hb22] at hs
   refine wp_skip ?_
   replace hw := hw.up 1
   replace hw := hw.up 1
   exact hJ2 _ _ hs.kx hw H
 refine go_region ?_
 refine go_pvs 1 [] [(17, .pointer (some (⟨g2, 0, none⟩ : Addr)))] hs ?_; clear hs; intro a hs
 refine go_run hs (by rfl) (x_bld (g := g2) (o := 0) (p := (⟨g2, 0, none⟩ : Addr)) (v := .slice A0_1 a0.Words.length c0_1) (hw.up 1)) [17] ?_; clear hs; intro a hs
 refine go_pvs 5 [18] [(21, .bool (decide ((a0.Words.length : Int) > 1024)))] hs ?_; clear hs; intro a hs
 cases hb18 : (decide ((a0.Words.length : Int) > 1024))
 ·replace H := ite_f H (of_decide_eq_false hb18)
  rw [hb18] at hs
  refine go_pvs 6 [] [(22, .pointer (some (⟨g2, 2, none⟩ : Addr)))] hs ?_; clear hs; intro a hs
  refine go_run hs (by rfl) (x_bld (g := g2) (o := 2) (p := (⟨g2, 2, none⟩ : Addr)) (v := .slice A0_3 a0.Syms.length c0_3) (hw.up 1)) [22] ?_; clear hs; intro a hs
  refine go_pvs 10 [21, 23] [(26, .bool (decide ((a0.Syms.length : Int) > 64)))] hs ?_; clear hs; intro a hs
  refine go_end ?_
  replace hw := hw.up 1
  replace hw := hw.up 1
  exact hJ1 (decide ((a0.Syms.length : Int) > 64)) _ _ hs.kx hw H
 ·replace H := ite_t H (of_decide_eq_true hb18)
  rw [hb18] at hs
  refine go_pvs 10 [21] [(26, .bool true)] hs ?_; clear hs; intro a hs
  refine go_end ?_
  replace hw := hw.up 1
  replace hw := hw.up 1
  exact hJ1 true _ _ hs.kx hw H

end Go.Proofs.YtheccnbamcdpmaaDoor.T12
