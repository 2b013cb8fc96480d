/- The engine, the walk and the plain law, part 6. No condition. -/
import Derived.Test.YtlpiomnmaiddbaaDoorM5
import Derived.Test.YtlpiomnmaiddbaaDoorProg
namespace Go.Proofs.YtlpiomnmaiddbaaDoor.LB
open Go Go.RowKit Go.Proofs.YtlpiomnmaiddbaaDoor.E
set_option maxRecDepth 100000
set_option maxHeartbeats 4000000
structure Sapi_Sym where
  Name : ByteArray
  At : Int
structure Sstruct_Words_uint32_Sites_int_Syms_api_Sym where
  Words : List Int
  Sites : List Int
  Syms : List Sapi_Sym
structure Sapi_Obj where
  Words : List Int
  Sites : List Int
  Syms : List Sapi_Sym
structure Srivetlaw22_Parts where
  Words : List Int
  Bits : List Int
  Names : List ByteArray
structure Sstruct_Kind_int_Op_int_A_int_B_int_C_int_Imm_int_U_bool where
  Kind : Int
  Op : Int
  A : Int
  B : Int
  C : Int
  Imm : Int
  U : Bool
structure Sapi_Instr where
  Kind : Int
  Op : Int
  A : Int
  B : Int
  C : Int
  Imm : Int
  U : Bool
def dSapi_Sym : Sapi_Sym := ⟨eS.d, 0⟩
def dSstruct_Kind_int_Op_int_A_int_B_int_C_int_Imm_int_U_bool : Sstruct_Kind_int_Op_int_A_int_B_int_C_int_Imm_int_U_bool := ⟨0, 0, 0, 0, 0, 0, false⟩
def dSapi_Instr : Sapi_Instr := ⟨0, 0, 0, 0, 0, 0, false⟩
def tys : List (Nat × Type) := [(3, Int), (5, Int), (9, ByteArray), (22, Int), (31, Sstruct_Words_uint32_Sites_int_Syms_api_Sym), (50, Sapi_Sym), (32, Sapi_Obj), (55, Srivetlaw22_Parts), (61, Sstruct_Kind_int_Op_int_A_int_B_int_C_int_Imm_int_U_bool), (62, Sapi_Instr), (112, List Int), (141, Vector Int 3), (146, Vector Bool 256), (180, Int)]
def tab : HTab (lookT tys) tys := .cons 3 (TI.int .i64) (.cons 5 (TI.int .u8) (.cons 9 TI.str (.cons 22 (TI.int .u32) (.cons 31 (TI.iso (TI.prod (TI.sl 22) (TI.prod (TI.sl 3) (TI.sl 50))) (fun x => (⟨x.1, x.2.1, x.2.2⟩ : Sstruct_Words_uint32_Sites_int_Syms_api_Sym)) (fun x => (x.Words, x.Sites, x.Syms))) (.cons 50 (TI.iso (TI.prod TI.str (TI.int .i64)) (fun x => (⟨x.1, x.2⟩ : Sapi_Sym)) (fun x => (x.Name, x.At))) (.cons 32 (TI.iso (TI.prod (TI.sl 22) (TI.prod (TI.sl 3) (TI.sl 50))) (fun x => (⟨x.1, x.2.1, x.2.2⟩ : Sapi_Obj)) (fun x => (x.Words, x.Sites, x.Syms))) (.cons 55 (TI.iso (TI.prod (TI.sl 22) (TI.prod (TI.sl 5) (TI.sl 9))) (fun x => (⟨x.1, x.2.1, x.2.2⟩ : Srivetlaw22_Parts)) (fun x => (x.Words, x.Bits, x.Names))) (.cons 61 (TI.iso (TI.prod (TI.int .i64) (TI.prod (TI.int .i64) (TI.prod (TI.int .i64) (TI.prod (TI.int .i64) (TI.prod (TI.int .i64) (TI.prod (TI.int .i64) TI.bool)))))) (fun x => (⟨x.1, x.2.1, x.2.2.1, x.2.2.2.1, x.2.2.2.2.1, x.2.2.2.2.2.1, x.2.2.2.2.2.2⟩ : Sstruct_Kind_int_Op_int_A_int_B_int_C_int_Imm_int_U_bool)) (fun x => (x.Kind, x.Op, x.A, x.B, x.C, x.Imm, x.U))) (.cons 62 (TI.iso (TI.prod (TI.int .i64) (TI.prod (TI.int .i64) (TI.prod (TI.int .i64) (TI.prod (TI.int .i64) (TI.prod (TI.int .i64) (TI.prod (TI.int .i64) TI.bool)))))) (fun x => (⟨x.1, x.2.1, x.2.2.1, x.2.2.2.1, x.2.2.2.2.1, x.2.2.2.2.2.1, x.2.2.2.2.2.2⟩ : Sapi_Instr)) (fun x => (x.Kind, x.Op, x.A, x.B, x.C, x.Imm, x.U))) (.cons 112 TI.mapI (.cons 141 (TI.vec .i64 3) (.cons 146 (TI.vecb 256) (.cons 180 (TI.int .u64) .nil)))))))))))))
def sis : List (Nat × SI) := [(1, ⟨.fn, 1, 8, false, [.nilf]⟩), (2, ⟨.int .i64, 1, 8, false, [.int .i64 0]⟩), (3, ⟨.int .i64, 1, 8, false, [.int .i64 0]⟩), (4, ⟨.bool, 1, 1, false, [.bool (.val false)]⟩), (5, ⟨.int .u8, 1, 1, false, [.int .u8 0]⟩), (6, ⟨.int .u8, 1, 1, false, [.int .u8 0]⟩), (9, ⟨.str, 1, 16, false, [.str ⟨#[]⟩]⟩), (21, ⟨.int .i32, 1, 4, false, [.int .i32 0]⟩), (22, ⟨.int .u32, 1, 4, false, [.int .u32 0]⟩), (23, ⟨.fn, 1, 8, false, [.nilf]⟩), (26, ⟨.fn, 1, 8, false, [.nilf]⟩), (28, ⟨.sl 22, 1, 24, false, [.nils]⟩), (29, ⟨.sl 3, 1, 24, false, [.nils]⟩), (30, ⟨.sl 50, 1, 24, false, [.nils]⟩), (31, ⟨.st [(28, 0), (29, 1), (30, 2)], 3, 72, true, [.nils, .nils, .nils]⟩), (32, ⟨.st [(28, 0), (29, 1), (30, 2)], 3, 72, true, [.nils, .nils, .nils]⟩), (33, ⟨.int .i64, 1, 8, false, [.int .i64 0]⟩), (35, ⟨.fn, 1, 8, false, [.nilf]⟩), (36, ⟨.fn, 1, 8, false, [.nilf]⟩), (44, ⟨.sl 5, 1, 24, false, [.nils]⟩), (45, ⟨.sl 9, 1, 24, false, [.nils]⟩), (50, ⟨.st [(9, 0), (3, 1)], 2, 24, true, [.str ⟨#[]⟩, .int .i64 0]⟩), (53, ⟨.fn, 1, 8, false, [.nilf]⟩), (54, ⟨.fn, 1, 8, false, [.nilf]⟩), (55, ⟨.st [(28, 0), (44, 1), (45, 2)], 3, 72, true, [.nils, .nils, .nils]⟩), (57, ⟨.fn, 1, 8, false, [.nilf]⟩), (59, ⟨.fn, 1, 8, false, [.nilf]⟩), (60, ⟨.fn, 1, 8, false, [.nilf]⟩), (61, ⟨.st [(3, 0), (3, 1), (3, 2), (3, 3), (3, 4), (3, 5), (4, 6)], 7, 56, true, [.int .i64 0, .int .i64 0, .int .i64 0, .int .i64 0, .int .i64 0, .int .i64 0, .bool (.val false)]⟩), (62, ⟨.st [(3, 0), (3, 1), (3, 2), (3, 3), (3, 4), (3, 5), (4, 6)], 7, 56, true, [.int .i64 0, .int .i64 0, .int .i64 0, .int .i64 0, .int .i64 0, .int .i64 0, .bool (.val false)]⟩), (67, ⟨.int .i8, 1, 1, false, [.int .i8 0]⟩), (69, ⟨.fn, 1, 8, false, [.nilf]⟩), (70, ⟨.fn, 1, 8, false, [.nilf]⟩), (71, ⟨.int .u16, 1, 2, false, [.int .u16 0]⟩), (72, ⟨.fn, 1, 8, false, [.nilf]⟩), (73, ⟨.fn, 1, 8, false, [.nilf]⟩), (76, ⟨.int .u64, 1, 8, false, [.int .u64 0]⟩), (83, ⟨.fn, 1, 8, false, [.nilf]⟩), (86, ⟨.fn, 1, 8, false, [.nilf]⟩), (87, ⟨.fn, 1, 8, false, [.nilf]⟩), (89, ⟨.fn, 1, 8, false, [.nilf]⟩), (94, ⟨.fn, 1, 8, false, [.nilf]⟩), (95, ⟨.fn, 1, 8, false, [.nilf]⟩), (96, ⟨.fn, 1, 8, false, [.nilf]⟩), (97, ⟨.fn, 1, 8, false, [.nilf]⟩), (98, ⟨.fn, 1, 8, false, [.nilf]⟩), (100, ⟨.fn, 1, 8, false, [.nilf]⟩), (101, ⟨.fn, 1, 8, false, [.nilf]⟩), (102, ⟨.fn, 1, 8, false, [.nilf]⟩), (103, ⟨.fn, 1, 8, false, [.nilf]⟩), (104, ⟨.fn, 1, 8, false, [.nilf]⟩), (105, ⟨.fn, 1, 8, false, [.nilf]⟩), (107, ⟨.fn, 1, 8, false, [.nilf]⟩), (109, ⟨.fn, 1, 8, false, [.nilf]⟩), (113, ⟨.fn, 1, 8, false, [.nilf]⟩), (114, ⟨.fn, 1, 8, false, [.nilf]⟩), (115, ⟨.fn, 1, 8, false, [.nilf]⟩), (116, ⟨.fn, 1, 8, false, [.nilf]⟩), (121, ⟨.fn, 1, 8, false, [.nilf]⟩), (122, ⟨.fn, 1, 8, false, [.nilf]⟩), (123, ⟨.fn, 1, 8, false, [.nilf]⟩), (124, ⟨.fn, 1, 8, false, [.nilf]⟩), (125, ⟨.fn, 1, 8, false, [.nilf]⟩), (126, ⟨.fn, 1, 8, false, [.nilf]⟩), (127, ⟨.ptr 5, 1, 8, false, [.nilp]⟩), (128, ⟨.fn, 1, 8, false, [.nilf]⟩), (129, ⟨.fn, 1, 8, false, [.nilf]⟩), (138, ⟨.fn, 1, 8, false, [.nilf]⟩), (139, ⟨.fn, 1, 8, false, [.nilf]⟩), (140, ⟨.fn, 1, 8, false, [.nilf]⟩), (141, ⟨.arr 3 3, 3, 24, true, [.vec .i64 3 (Vector.replicate 3 0)]⟩), (142, ⟨.fn, 1, 8, false, [.nilf]⟩), (143, ⟨.fn, 1, 8, false, [.nilf]⟩), (144, ⟨.fn, 1, 8, false, [.nilf]⟩), (145, ⟨.arr 256 4, 256, 256, true, [.vecb 256 (Vector.replicate 256 false)]⟩), (146, ⟨.arr 256 4, 256, 256, true, [.vecb 256 (Vector.replicate 256 false)]⟩), (148, ⟨.fn, 1, 8, false, [.nilf]⟩), (150, ⟨.ptr 146, 1, 8, false, [.nilp]⟩), (152, ⟨.fn, 1, 8, false, [.nilf]⟩), (153, ⟨.fn, 1, 8, false, [.nilf]⟩), (154, ⟨.fn, 1, 8, false, [.nilf]⟩), (155, ⟨.fn, 1, 8, false, [.nilf]⟩), (156, ⟨.fn, 1, 8, false, [.nilf]⟩), (157, ⟨.fn, 1, 8, false, [.nilf]⟩), (159, ⟨.fn, 1, 8, false, [.nilf]⟩), (160, ⟨.sl 141, 1, 24, false, [.nils]⟩), (169, ⟨.int .i64, 1, 8, false, [.int .i64 0]⟩), (177, ⟨.int .u64, 1, 8, false, [.int .u64 0]⟩), (180, ⟨.int .u64, 1, 8, false, [.int .u64 0]⟩), (184, ⟨.ptr 3, 1, 8, false, [.nilp]⟩), (190, ⟨.ptr 180, 1, 8, false, [.nilp]⟩)]
noncomputable def X : Cx := ⟨Tryd.prog, tys, tab, sis, by kernel_rfl, by kernel_rfl, fun t => match t with | 112 => some (MapI Tryd.prog 3 4) | _ => none, []⟩
noncomputable def map112 : MapW X 112 := ⟨([] : List Int), putI, MapI_mk Tryd.prog 3 4, fun h => putI_ok Tryd.underlying112 Tryd.underlying3 Tryd.underlying4 h⟩
noncomputable def maps : ∀ t, Option (MapW X t) := fun t => match t with | 112 => some map112 | _ => none
end Go.Proofs.YtlpiomnmaiddbaaDoor.LB
