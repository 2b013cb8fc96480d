/- The engine, the walk and the plain law, part 6. No condition. -/
import Derived.Test.YtlpiomnmaiddbaaGreatDoorM5
import Derived.Test.YtlpiomnmaiddbaaGreatDoorProg
namespace Go.Proofs.YtlpiomnmaiddbaaGreatDoor.LA
open Go Go.RowKit Go.Proofs.YtlpiomnmaiddbaaGreatDoor.E
set_option maxRecDepth 100000
set_option maxHeartbeats 4000000
structure Sstruct_x_int64_y_int_signed_bool_code_abi_BoundsErrorCode where
  x : Int
  y : Int
  signed : Bool
  code : Int
structure Sruntime_boundsError where
  x : Int
  y : Int
  signed : Bool
  code : Int
structure Sstruct_msg_string_addr_uintptr where
  msg : ByteArray
  addr : Int
structure Sruntime_errorAddressString where
  msg : ByteArray
  addr : Int
structure Sapi_Sym where
  Name : ByteArray
  At : Int
structure Sstruct_Words_uint32_Sites_int_Syms_api_Sym where
  Words : List Int
  Sites : List Int
  Syms : List Sapi_Sym
structure Sapi_Obj where
  Words : List Int
  Sites : List Int
  Syms : List Sapi_Sym
structure Sstruct_Name_string_At_int where
  Name : ByteArray
  At : Int
structure Sstruct_Kind_int_Op_int_A_int_B_int_C_int_Imm_int_U_bool where
  Kind : Int
  Op : Int
  A : Int
  B : Int
  C : Int
  Imm : Int
  U : Bool
structure Sapi_Instr where
  Kind : Int
  Op : Int
  A : Int
  B : Int
  C : Int
  Imm : Int
  U : Bool
def dSstruct_x_int64_y_int_signed_bool_code_abi_BoundsErrorCode : Sstruct_x_int64_y_int_signed_bool_code_abi_BoundsErrorCode := ⟨0, 0, false, 0⟩
def dSruntime_boundsError : Sruntime_boundsError := ⟨0, 0, false, 0⟩
def dSstruct_msg_string_addr_uintptr : Sstruct_msg_string_addr_uintptr := ⟨eS.d, 0⟩
def dSruntime_errorAddressString : Sruntime_errorAddressString := ⟨eS.d, 0⟩
def dSapi_Sym : Sapi_Sym := ⟨eS.d, 0⟩
def dSstruct_Name_string_At_int : Sstruct_Name_string_At_int := ⟨eS.d, 0⟩
def dSstruct_Kind_int_Op_int_A_int_B_int_C_int_Imm_int_U_bool : Sstruct_Kind_int_Op_int_A_int_B_int_C_int_Imm_int_U_bool := ⟨0, 0, 0, 0, 0, 0, false⟩
def dSapi_Instr : Sapi_Instr := ⟨0, 0, 0, 0, 0, 0, false⟩
def tys : List (Nat × Type) := [(3, Int), (5, Int), (7, Sstruct_x_int64_y_int_signed_bool_code_abi_BoundsErrorCode), (8, Sruntime_boundsError), (13, Sstruct_msg_string_addr_uintptr), (14, Sruntime_errorAddressString), (25, Sstruct_Words_uint32_Sites_int_Syms_api_Sym), (39, Sapi_Sym), (37, Int), (26, Sapi_Obj), (38, Sstruct_Name_string_At_int), (41, List Int), (47, Sstruct_Kind_int_Op_int_A_int_B_int_C_int_Imm_int_U_bool), (48, Sapi_Instr), (81, Vector Int 3), (87, Vector Bool 256), (111, Int)]
def tab : HTab (lookT tys) tys := .cons 3 (TI.int .i64) (.cons 5 (TI.int .u8) (.cons 7 (TI.iso (TI.prod (TI.int .i64) (TI.prod (TI.int .i64) (TI.prod TI.bool (TI.int .u8)))) (fun x => (⟨x.1, x.2.1, x.2.2.1, x.2.2.2⟩ : Sstruct_x_int64_y_int_signed_bool_code_abi_BoundsErrorCode)) (fun x => (x.x, x.y, x.signed, x.code))) (.cons 8 (TI.iso (TI.prod (TI.int .i64) (TI.prod (TI.int .i64) (TI.prod TI.bool (TI.int .u8)))) (fun x => (⟨x.1, x.2.1, x.2.2.1, x.2.2.2⟩ : Sruntime_boundsError)) (fun x => (x.x, x.y, x.signed, x.code))) (.cons 13 (TI.iso (TI.prod TI.str (TI.int .u64)) (fun x => (⟨x.1, x.2⟩ : Sstruct_msg_string_addr_uintptr)) (fun x => (x.msg, x.addr))) (.cons 14 (TI.iso (TI.prod TI.str (TI.int .u64)) (fun x => (⟨x.1, x.2⟩ : Sruntime_errorAddressString)) (fun x => (x.msg, x.addr))) (.cons 25 (TI.iso (TI.prod (TI.sl 37) (TI.prod (TI.sl 3) (TI.sl 39))) (fun x => (⟨x.1, x.2.1, x.2.2⟩ : Sstruct_Words_uint32_Sites_int_Syms_api_Sym)) (fun x => (x.Words, x.Sites, x.Syms))) (.cons 39 (TI.iso (TI.prod TI.str (TI.int .i64)) (fun x => (⟨x.1, x.2⟩ : Sapi_Sym)) (fun x => (x.Name, x.At))) (.cons 37 (TI.int .u32) (.cons 26 (TI.iso (TI.prod (TI.sl 37) (TI.prod (TI.sl 3) (TI.sl 39))) (fun x => (⟨x.1, x.2.1, x.2.2⟩ : Sapi_Obj)) (fun x => (x.Words, x.Sites, x.Syms))) (.cons 38 (TI.iso (TI.prod TI.str (TI.int .i64)) (fun x => (⟨x.1, x.2⟩ : Sstruct_Name_string_At_int)) (fun x => (x.Name, x.At))) (.cons 41 TI.mapI (.cons 47 (TI.iso (TI.prod (TI.int .i64) (TI.prod (TI.int .i64) (TI.prod (TI.int .i64) (TI.prod (TI.int .i64) (TI.prod (TI.int .i64) (TI.prod (TI.int .i64) TI.bool)))))) (fun x => (⟨x.1, x.2.1, x.2.2.1, x.2.2.2.1, x.2.2.2.2.1, x.2.2.2.2.2.1, x.2.2.2.2.2.2⟩ : Sstruct_Kind_int_Op_int_A_int_B_int_C_int_Imm_int_U_bool)) (fun x => (x.Kind, x.Op, x.A, x.B, x.C, x.Imm, x.U))) (.cons 48 (TI.iso (TI.prod (TI.int .i64) (TI.prod (TI.int .i64) (TI.prod (TI.int .i64) (TI.prod (TI.int .i64) (TI.prod (TI.int .i64) (TI.prod (TI.int .i64) TI.bool)))))) (fun x => (⟨x.1, x.2.1, x.2.2.1, x.2.2.2.1, x.2.2.2.2.1, x.2.2.2.2.2.1, x.2.2.2.2.2.2⟩ : Sapi_Instr)) (fun x => (x.Kind, x.Op, x.A, x.B, x.C, x.Imm, x.U))) (.cons 81 (TI.vec .i64 3) (.cons 87 (TI.vecb 256) (.cons 111 (TI.int .u64) .nil))))))))))))))))
def sis : List (Nat × SI) := [(1, ⟨.fn, 1, 8, false, [.nilf]⟩), (2, ⟨.int .i64, 1, 8, false, [.int .i64 0]⟩), (3, ⟨.int .i64, 1, 8, false, [.int .i64 0]⟩), (4, ⟨.bool, 1, 1, false, [.bool (.val false)]⟩), (5, ⟨.int .u8, 1, 1, false, [.int .u8 0]⟩), (6, ⟨.int .u8, 1, 1, false, [.int .u8 0]⟩), (7, ⟨.st [(2, 0), (3, 1), (4, 2), (6, 3)], 4, 24, true, [.int .i64 0, .int .i64 0, .bool (.val false), .int .u8 0]⟩), (8, ⟨.st [(2, 0), (3, 1), (4, 2), (6, 3)], 4, 24, true, [.int .i64 0, .int .i64 0, .bool (.val false), .int .u8 0]⟩), (9, ⟨.str, 1, 16, false, [.str ⟨#[]⟩]⟩), (10, ⟨.str, 1, 16, false, [.str ⟨#[]⟩]⟩), (11, ⟨.str, 1, 16, false, [.str ⟨#[]⟩]⟩), (12, ⟨.int .u64, 1, 8, false, [.int .u64 0]⟩), (13, ⟨.st [(9, 0), (12, 1)], 2, 24, true, [.str ⟨#[]⟩, .int .u64 0]⟩), (14, ⟨.st [(9, 0), (12, 1)], 2, 24, true, [.str ⟨#[]⟩, .int .u64 0]⟩), (15, ⟨.ptr 130, 1, 8, false, [.nilp]⟩), (16, ⟨.ptr 133, 1, 8, false, [.nilp]⟩), (17, ⟨.ptr 142, 1, 8, false, [.nilp]⟩), (18, ⟨.st [(17, 0)], 1, 8, true, [.nilp]⟩), (19, ⟨.st [(17, 0)], 1, 8, true, [.nilp]⟩), (21, ⟨.int .i32, 1, 4, false, [.int .i32 0]⟩), (22, ⟨.sl 37, 1, 24, false, [.nils]⟩), (23, ⟨.sl 3, 1, 24, false, [.nils]⟩), (24, ⟨.sl 39, 1, 24, false, [.nils]⟩), (25, ⟨.st [(22, 0), (23, 1), (24, 2)], 3, 72, true, [.nils, .nils, .nils]⟩), (26, ⟨.st [(22, 0), (23, 1), (24, 2)], 3, 72, true, [.nils, .nils, .nils]⟩), (27, ⟨.fn, 1, 8, false, [.nilf]⟩), (28, ⟨.fn, 1, 8, false, [.nilf]⟩), (29, ⟨.int .i64, 1, 8, false, [.int .i64 0]⟩), (31, ⟨.fn, 1, 8, false, [.nilf]⟩), (33, ⟨.fn, 1, 8, false, [.nilf]⟩), (34, ⟨.fn, 1, 8, false, [.nilf]⟩), (35, ⟨.fn, 1, 8, false, [.nilf]⟩), (36, ⟨.fn, 1, 8, false, [.nilf]⟩), (37, ⟨.int .u32, 1, 4, false, [.int .u32 0]⟩), (38, ⟨.st [(9, 0), (3, 1)], 2, 24, true, [.str ⟨#[]⟩, .int .i64 0]⟩), (39, ⟨.st [(9, 0), (3, 1)], 2, 24, true, [.str ⟨#[]⟩, .int .i64 0]⟩), (40, ⟨.fn, 1, 8, false, [.nilf]⟩), (42, ⟨.fn, 1, 8, false, [.nilf]⟩), (43, ⟨.fn, 1, 8, false, [.nilf]⟩), (44, ⟨.fn, 1, 8, false, [.nilf]⟩), (45, ⟨.fn, 1, 8, false, [.nilf]⟩), (46, ⟨.fn, 1, 8, false, [.nilf]⟩), (47, ⟨.st [(3, 0), (3, 1), (3, 2), (3, 3), (3, 4), (3, 5), (4, 6)], 7, 56, true, [.int .i64 0, .int .i64 0, .int .i64 0, .int .i64 0, .int .i64 0, .int .i64 0, .bool (.val false)]⟩), (48, ⟨.st [(3, 0), (3, 1), (3, 2), (3, 3), (3, 4), (3, 5), (4, 6)], 7, 56, true, [.int .i64 0, .int .i64 0, .int .i64 0, .int .i64 0, .int .i64 0, .int .i64 0, .bool (.val false)]⟩), (50, ⟨.fn, 1, 8, false, [.nilf]⟩), (51, ⟨.sl 5, 1, 24, false, [.nils]⟩), (52, ⟨.fn, 1, 8, false, [.nilf]⟩), (53, ⟨.fn, 1, 8, false, [.nilf]⟩), (54, ⟨.fn, 1, 8, false, [.nilf]⟩), (55, ⟨.fn, 1, 8, false, [.nilf]⟩), (57, ⟨.fn, 1, 8, false, [.nilf]⟩), (58, ⟨.fn, 1, 8, false, [.nilf]⟩), (59, ⟨.fn, 1, 8, false, [.nilf]⟩), (60, ⟨.fn, 1, 8, false, [.nilf]⟩), (61, ⟨.fn, 1, 8, false, [.nilf]⟩), (62, ⟨.fn, 1, 8, false, [.nilf]⟩), (63, ⟨.fn, 1, 8, false, [.nilf]⟩), (64, ⟨.fn, 1, 8, false, [.nilf]⟩), (66, ⟨.fn, 1, 8, false, [.nilf]⟩), (67, ⟨.fn, 1, 8, false, [.nilf]⟩), (68, ⟨.fn, 1, 8, false, [.nilf]⟩), (69, ⟨.fn, 1, 8, false, [.nilf]⟩), (70, ⟨.int .u64, 1, 8, false, [.int .u64 0]⟩), (71, ⟨.fn, 1, 8, false, [.nilf]⟩), (72, ⟨.fn, 1, 8, false, [.nilf]⟩), (73, ⟨.fn, 1, 8, false, [.nilf]⟩), (74, ⟨.fn, 1, 8, false, [.nilf]⟩), (75, ⟨.fn, 1, 8, false, [.nilf]⟩), (76, ⟨.fn, 1, 8, false, [.nilf]⟩), (77, ⟨.fn, 1, 8, false, [.nilf]⟩), (78, ⟨.fn, 1, 8, false, [.nilf]⟩), (79, ⟨.fn, 1, 8, false, [.nilf]⟩), (80, ⟨.fn, 1, 8, false, [.nilf]⟩), (81, ⟨.arr 3 3, 3, 24, true, [.vec .i64 3 (Vector.replicate 3 0)]⟩), (82, ⟨.fn, 1, 8, false, [.nilf]⟩), (83, ⟨.fn, 1, 8, false, [.nilf]⟩), (84, ⟨.fn, 1, 8, false, [.nilf]⟩), (85, ⟨.fn, 1, 8, false, [.nilf]⟩), (87, ⟨.arr 256 4, 256, 256, true, [.vecb 256 (Vector.replicate 256 false)]⟩), (89, ⟨.fn, 1, 8, false, [.nilf]⟩), (90, ⟨.fn, 1, 8, false, [.nilf]⟩), (91, ⟨.ptr 87, 1, 8, false, [.nilp]⟩), (92, ⟨.fn, 1, 8, false, [.nilf]⟩), (93, ⟨.int .i64, 1, 8, false, [.int .i64 0]⟩), (95, ⟨.fn, 1, 8, false, [.nilf]⟩), (99, ⟨.fn, 1, 8, false, [.nilf]⟩), (102, ⟨.int .u64, 1, 8, false, [.int .u64 0]⟩), (104, ⟨.fn, 1, 8, false, [.nilf]⟩), (106, ⟨.sl 81, 1, 24, false, [.nils]⟩), (111, ⟨.int .u64, 1, 8, false, [.int .u64 0]⟩), (115, ⟨.ptr 3, 1, 8, false, [.nilp]⟩), (118, ⟨.ptr 111, 1, 8, false, [.nilp]⟩), (130, ⟨.st [(17, 0), (17, 1), (17, 2), (9, 3)], 4, 40, true, [.nilp, .nilp, .nilp, .str ⟨#[]⟩]⟩), (135, ⟨.int .u8, 1, 1, false, [.int .u8 0]⟩), (136, ⟨.int .u8, 1, 1, false, [.int .u8 0]⟩), (137, ⟨.fn, 1, 8, false, [.nilf]⟩), (138, ⟨.ptr 5, 1, 8, false, [.nilp]⟩), (139, ⟨.int .i32, 1, 4, false, [.int .i32 0]⟩), (140, ⟨.int .i32, 1, 4, false, [.int .i32 0]⟩), (142, ⟨.st [(12, 0), (12, 1), (37, 2), (135, 3), (5, 4), (5, 5), (136, 6), (137, 7), (138, 8), (139, 9), (140, 10)], 11, 48, true, [.int .u64 0, .int .u64 0, .int .u32 0, .int .u8 0, .int .u8 0, .int .u8 0, .int .u8 0, .nilf, .nilp, .int .i32 0, .int .i32 0]⟩)]
noncomputable def X : Cx := ⟨Tryz.prog, tys, tab, sis, by kernel_rfl, by kernel_rfl, fun t => match t with | 41 => some (MapI Tryz.prog 3 4) | _ => none, []⟩
noncomputable def map41 : MapW X 41 := ⟨([] : List Int), putI, MapI_mk Tryz.prog 3 4, fun h => putI_ok Tryz.underlying41 Tryz.underlying3 Tryz.underlying4 h⟩
noncomputable def maps : ∀ t, Option (MapW X t) := fun t => match t with | 41 => some map41 | _ => none
end Go.Proofs.YtlpiomnmaiddbaaGreatDoor.LA
