/- YtheccnbamcdpmaaT06zMachineMoves: Go functions told as plain ones, each with a proof that its call comes to what is told, part 1. Condition of each: that the plain function comes to a value. -/
import Derived.Test.YtheccnbamcdpmaaT06
import Derived.Test.YtheccnbamcdpmaaEP
import Derived.Test.YtheccnbamcdpmaaProg
namespace Go.Proofs.Ytheccnbamcdpmaa.T06
open Go Go.RowKit Go.Proofs.Ytheccnbamcdpmaa.E
set_option linter.unusedVariables false
set_option linter.unusedSimpArgs false
def eA63 : Enc (Vector Sapi_Instr 4) := ⟨28, fun x => [.int .i64 ((vx (⟨0, 0, 0, 0, 0, 0, false⟩ : Sapi_Instr) x 0).Kind), .int .i64 ((vx (⟨0, 0, 0, 0, 0, 0, false⟩ : Sapi_Instr) x 0).Op), .int .i64 ((vx (⟨0, 0, 0, 0, 0, 0, false⟩ : Sapi_Instr) x 0).A), .int .i64 ((vx (⟨0, 0, 0, 0, 0, 0, false⟩ : Sapi_Instr) x 0).B), .int .i64 ((vx (⟨0, 0, 0, 0, 0, 0, false⟩ : Sapi_Instr) x 0).C), .int .i64 ((vx (⟨0, 0, 0, 0, 0, 0, false⟩ : Sapi_Instr) x 0).Imm), .bool ((vx (⟨0, 0, 0, 0, 0, 0, false⟩ : Sapi_Instr) x 0).U), .int .i64 ((vx (⟨0, 0, 0, 0, 0, 0, false⟩ : Sapi_Instr) x 1).Kind), .int .i64 ((vx (⟨0, 0, 0, 0, 0, 0, false⟩ : Sapi_Instr) x 1).Op), .int .i64 ((vx (⟨0, 0, 0, 0, 0, 0, false⟩ : Sapi_Instr) x 1).A), .int .i64 ((vx (⟨0, 0, 0, 0, 0, 0, false⟩ : Sapi_Instr) x 1).B), .int .i64 ((vx (⟨0, 0, 0, 0, 0, 0, false⟩ : Sapi_Instr) x 1).C), .int .i64 ((vx (⟨0, 0, 0, 0, 0, 0, false⟩ : Sapi_Instr) x 1).Imm), .bool ((vx (⟨0, 0, 0, 0, 0, 0, false⟩ : Sapi_Instr) x 1).U), .int .i64 ((vx (⟨0, 0, 0, 0, 0, 0, false⟩ : Sapi_Instr) x 2).Kind), .int .i64 ((vx (⟨0, 0, 0, 0, 0, 0, false⟩ : Sapi_Instr) x 2).Op), .int .i64 ((vx (⟨0, 0, 0, 0, 0, 0, false⟩ : Sapi_Instr) x 2).A), .int .i64 ((vx (⟨0, 0, 0, 0, 0, 0, false⟩ : Sapi_Instr) x 2).B), .int .i64 ((vx (⟨0, 0, 0, 0, 0, 0, false⟩ : Sapi_Instr) x 2).C), .int .i64 ((vx (⟨0, 0, 0, 0, 0, 0, false⟩ : Sapi_Instr) x 2).Imm), .bool ((vx (⟨0, 0, 0, 0, 0, 0, false⟩ : Sapi_Instr) x 2).U), .int .i64 ((vx (⟨0, 0, 0, 0, 0, 0, false⟩ : Sapi_Instr) x 3).Kind), .int .i64 ((vx (⟨0, 0, 0, 0, 0, 0, false⟩ : Sapi_Instr) x 3).Op), .int .i64 ((vx (⟨0, 0, 0, 0, 0, 0, false⟩ : Sapi_Instr) x 3).A), .int .i64 ((vx (⟨0, 0, 0, 0, 0, 0, false⟩ : Sapi_Instr) x 3).B), .int .i64 ((vx (⟨0, 0, 0, 0, 0, 0, false⟩ : Sapi_Instr) x 3).C), .int .i64 ((vx (⟨0, 0, 0, 0, 0, 0, false⟩ : Sapi_Instr) x 3).Imm), .bool ((vx (⟨0, 0, 0, 0, 0, 0, false⟩ : Sapi_Instr) x 3).U)], (Vector.replicate 4 (⟨0, 0, 0, 0, 0, 0, false⟩ : Sapi_Instr)), by decide, fun _ => rfl, fun x u hu => by simp at hu; rcases hu with rfl | rfl | rfl | rfl | rfl | rfl | rfl | rfl | rfl | rfl | rfl | rfl | rfl | rfl | rfl | rfl | rfl | rfl | rfl | rfl | rfl | rfl | rfl | rfl | rfl | rfl | rfl | rfl <;> rfl⟩
/-! rivet/rivetlaw06.MachineMoves: function 7 -/
noncomputable def rivetlaw06_MachineMoves.j3 (v36 : Int) (v107 : Sapi_Instr) (v108 : Sapi_Instr) (v109 : Sapi_Instr) (v110 : Sapi_Instr) (l111 : List Int) : Option (Sapi_Instr × Sapi_Instr × Sapi_Instr × Sapi_Instr × (List Int) × Int ⊕ (Ex Bool (Sapi_Instr × Sapi_Instr × Sapi_Instr × Sapi_Instr × (List Int)))) := some (.inl (vx (⟨0, 0, 0, 0, 0, 0, false⟩ : Sapi_Instr) (#v[v107, v108, v109, v110] : Vector Sapi_Instr 4) 0, vx (⟨0, 0, 0, 0, 0, 0, false⟩ : Sapi_Instr) (#v[v107, v108, v109, v110] : Vector Sapi_Instr 4) 1, vx (⟨0, 0, 0, 0, 0, 0, false⟩ : Sapi_Instr) (#v[v107, v108, v109, v110] : Vector Sapi_Instr 4) 2, vx (⟨0, 0, 0, 0, 0, 0, false⟩ : Sapi_Instr) (#v[v107, v108, v109, v110] : Vector Sapi_Instr 4) 3, l111, w64 (v36 + 1)))
noncomputable def rivetlaw06_MachineMoves.j2 (l33 : List Int) (v36 : Int) (v55 : Sapi_Instr) (v56 : Sapi_Instr) (v57 : Sapi_Instr) (v58 : Sapi_Instr) (v89 : Int) (v90 : Int) : Option (Sapi_Instr × Sapi_Instr × Sapi_Instr × Sapi_Instr × (List Int) × Int ⊕ (Ex Bool (Sapi_Instr × Sapi_Instr × Sapi_Instr × Sapi_Instr × (List Int)))) := (if v90 = 0 then (if l33.length + ([v89] : List Int).length ≤ 35184372088832 then rivetlaw06_MachineMoves.j3 v36 (vx (⟨0, 0, 0, 0, 0, 0, false⟩ : Sapi_Instr) (#v[v55, v56, v57, v58] : Vector Sapi_Instr 4) 0) (vx (⟨0, 0, 0, 0, 0, 0, false⟩ : Sapi_Instr) (#v[v55, v56, v57, v58] : Vector Sapi_Instr 4) 1) (vx (⟨0, 0, 0, 0, 0, 0, false⟩ : Sapi_Instr) (#v[v55, v56, v57, v58] : Vector Sapi_Instr 4) 2) (vx (⟨0, 0, 0, 0, 0, 0, false⟩ : Sapi_Instr) (#v[v55, v56, v57, v58] : Vector Sapi_Instr 4) 3) (l33 ++ ([v89] : List Int)) else none) else some (.inr (.ret false)))
noncomputable def rivetlaw06_MachineMoves.j1 (v36 : Int) (l33 : List Int) (v55 : Sapi_Instr) (v56 : Sapi_Instr) (v57 : Sapi_Instr) (v58 : Sapi_Instr) : Option (Sapi_Instr × Sapi_Instr × Sapi_Instr × Sapi_Instr × (List Int) × Int ⊕ (Ex Bool (Sapi_Instr × Sapi_Instr × Sapi_Instr × Sapi_Instr × (List Int)))) := (if 0 ≤ v36 ∧ v36 < 4 then (if v36 = 0 then ((isa_Encode (vx (⟨0, 0, 0, 0, 0, 0, false⟩ : Sapi_Instr) (#v[v55, v56, v57, v58] : Vector Sapi_Instr 4) 0)).bind fun ⟨t63, t64⟩ => (rivetlaw06_MachineMoves.j2 l33 v36 v55 v56 v57 v58 t63 t64)) else (if v36 = 1 then ((isa_Encode (vx (⟨0, 0, 0, 0, 0, 0, false⟩ : Sapi_Instr) (#v[v55, v56, v57, v58] : Vector Sapi_Instr 4) 1)).bind fun ⟨t70, t71⟩ => (rivetlaw06_MachineMoves.j2 l33 v36 v55 v56 v57 v58 t70 t71)) else (if v36 = 2 then ((isa_Encode (vx (⟨0, 0, 0, 0, 0, 0, false⟩ : Sapi_Instr) (#v[v55, v56, v57, v58] : Vector Sapi_Instr 4) 2)).bind fun ⟨t77, t78⟩ => (rivetlaw06_MachineMoves.j2 l33 v36 v55 v56 v57 v58 t77 t78)) else (if v36 = 3 then ((isa_Encode (vx (⟨0, 0, 0, 0, 0, 0, false⟩ : Sapi_Instr) (#v[v55, v56, v57, v58] : Vector Sapi_Instr 4) 3)).bind fun ⟨t84, t85⟩ => (rivetlaw06_MachineMoves.j2 l33 v36 v55 v56 v57 v58 t84 t85)) else none)))) else none)
noncomputable def rivetlaw06_MachineMoves.j5 : Option Bool := some false
noncomputable def rivetlaw06_MachineMoves.j10 (v243 : Bool) : Option Bool := some v243
noncomputable def rivetlaw06_MachineMoves.j9 (a0 : Int) (v225 : Smachine_Machine) : Option Bool := ((machine_Machine_Regs v225).bind fun t228 => ((if (vx 0 ((t228 : Sapi_Regs).R) 5) = (band .u32 a0 255) then (if ((t228 : Sapi_Regs).N) = true then rivetlaw06_MachineMoves.j10 false else (if (((t228 : Sapi_Regs).Z) == ((band .u32 a0 255) == 0)) = true then ((machine_Machine_PC v225).bind fun t239 => (rivetlaw06_MachineMoves.j10 (t239 == 16))) else rivetlaw06_MachineMoves.j10 false)) else rivetlaw06_MachineMoves.j10 false)))
noncomputable def rivetlaw06_MachineMoves.j8 (a0 : Int) (v220 : Smachine_Machine) (v221 : Bool) : Option Bool := (if v221 = true then some false else rivetlaw06_MachineMoves.j9 a0 v220)
noncomputable def rivetlaw06_MachineMoves.j7 (a0 : Int) (y12 : Int) (a2 : Int) (y10 : Int) (v163 : Smachine_Machine) : Option Bool := ((machine_Machine_Start v163 0 ({ ({ ({ (⟨(Vector.replicate 16 0), 0, false, false, false, false⟩ : Sapi_Regs) with R := vset (Vector.replicate 16 0) 1 a0 } : Sapi_Regs) with R := vset (vset (Vector.replicate 16 0) 1 a0) 2 (wu32 (w64 (y12 - ((w64 a2).tmod 64)))) } : Sapi_Regs) with R := vset (vset (vset (Vector.replicate 16 0) 1 a0) 2 (wu32 (w64 (y12 - ((w64 a2).tmod 64))))) 4 (wu32 (w64 (y10 - ((w64 a2).tmod 64)))) } : Sapi_Regs)).bind fun t182 => (((machine_Machine_Run t182 2).bind fun ⟨t189, t190⟩ => ((if t189 = 0 then ((machine_Machine_Regs t190).bind fun t199 => ((if (vx 0 ((t199 : Sapi_Regs).R) 3) = a0 then (if (((t199 : Sapi_Regs).N) != ((a0.fdiv (2 ^ 31)) == 1)) = true then rivetlaw06_MachineMoves.j8 a0 t190 true else (if (((t199 : Sapi_Regs).Z) != (a0 == 0)) = true then rivetlaw06_MachineMoves.j8 a0 t190 true else ((machine_Machine_Run t190 2).bind fun ⟨t215, t216⟩ => (rivetlaw06_MachineMoves.j8 a0 t216 (t215 != 0))))) else rivetlaw06_MachineMoves.j8 a0 t190 true))) else some false)))))
noncomputable def rivetlaw06_MachineMoves.j6 (a0 : Int) (y12 : Int) (a2 : Int) (y10 : Int) (v158 : Smachine_Machine) (v159 : Bool) : Option Bool := (if v159 = true then some false else rivetlaw06_MachineMoves.j7 a0 y12 a2 y10 v158)
noncomputable def rivetlaw06_MachineMoves.j4 (t4 : Bool) (a0 : Int) (y12 : Int) (a2 : Int) (y10 : Int) (v115 : Sapi_Instr) (v116 : Sapi_Instr) (v117 : Sapi_Instr) (v118 : Sapi_Instr) (l119 : List Int) : Option Bool := ((machine_New 16 ([] : List Int)).bind fun ⟨t124, t125⟩ => ((match t124 with | none => (if t4 = true then rivetlaw06_MachineMoves.j5 else rivetlaw06_MachineMoves.j5) | some x131 => (if t4 = true then (if t125 = 0 then ((x131.Memory).bind fun y149 => (((memory_Memory_Place y149 0 l119).bind fun ⟨t153, t154⟩ => (rivetlaw06_MachineMoves.j6 a0 y12 a2 y10 (⟨(some t154), x131.s, x131.pc, x131.status, x131.in', x131.out⟩ : Smachine_Machine) (t153 != 0))))) else rivetlaw06_MachineMoves.j6 a0 y12 a2 y10 x131 true) else rivetlaw06_MachineMoves.j6 a0 y12 a2 y10 x131 true))))
noncomputable def rivetlaw06_MachineMoves.b28 (v29 : Sapi_Instr) (v30 : Sapi_Instr) (v31 : Sapi_Instr) (v32 : Sapi_Instr) (l33 : List Int) (v36 : Int) : Option (Sapi_Instr × Sapi_Instr × Sapi_Instr × Sapi_Instr × (List Int) × Int ⊕ (Ex Bool (Sapi_Instr × Sapi_Instr × Sapi_Instr × Sapi_Instr × (List Int)))) := (if v36 < 4 then (if 0 ≤ v36 ∧ v36 < 4 then (if v36 = 0 then rivetlaw06_MachineMoves.j1 v36 l33 (vx (⟨0, 0, 0, 0, 0, 0, false⟩ : Sapi_Instr) (vset (#v[v29, v30, v31, v32] : Vector Sapi_Instr 4) 0 ({ vx (⟨0, 0, 0, 0, 0, 0, false⟩ : Sapi_Instr) (#v[v29, v30, v31, v32] : Vector Sapi_Instr 4) 0 with Kind := 5 } : Sapi_Instr)) 0) (vx (⟨0, 0, 0, 0, 0, 0, false⟩ : Sapi_Instr) (vset (#v[v29, v30, v31, v32] : Vector Sapi_Instr 4) 0 ({ vx (⟨0, 0, 0, 0, 0, 0, false⟩ : Sapi_Instr) (#v[v29, v30, v31, v32] : Vector Sapi_Instr 4) 0 with Kind := 5 } : Sapi_Instr)) 1) (vx (⟨0, 0, 0, 0, 0, 0, false⟩ : Sapi_Instr) (vset (#v[v29, v30, v31, v32] : Vector Sapi_Instr 4) 0 ({ vx (⟨0, 0, 0, 0, 0, 0, false⟩ : Sapi_Instr) (#v[v29, v30, v31, v32] : Vector Sapi_Instr 4) 0 with Kind := 5 } : Sapi_Instr)) 2) (vx (⟨0, 0, 0, 0, 0, 0, false⟩ : Sapi_Instr) (vset (#v[v29, v30, v31, v32] : Vector Sapi_Instr 4) 0 ({ vx (⟨0, 0, 0, 0, 0, 0, false⟩ : Sapi_Instr) (#v[v29, v30, v31, v32] : Vector Sapi_Instr 4) 0 with Kind := 5 } : Sapi_Instr)) 3) else (if v36 = 1 then rivetlaw06_MachineMoves.j1 v36 l33 (vx (⟨0, 0, 0, 0, 0, 0, false⟩ : Sapi_Instr) (vset (#v[v29, v30, v31, v32] : Vector Sapi_Instr 4) 1 ({ vx (⟨0, 0, 0, 0, 0, 0, false⟩ : Sapi_Instr) (#v[v29, v30, v31, v32] : Vector Sapi_Instr 4) 1 with Kind := 5 } : Sapi_Instr)) 0) (vx (⟨0, 0, 0, 0, 0, 0, false⟩ : Sapi_Instr) (vset (#v[v29, v30, v31, v32] : Vector Sapi_Instr 4) 1 ({ vx (⟨0, 0, 0, 0, 0, 0, false⟩ : Sapi_Instr) (#v[v29, v30, v31, v32] : Vector Sapi_Instr 4) 1 with Kind := 5 } : Sapi_Instr)) 1) (vx (⟨0, 0, 0, 0, 0, 0, false⟩ : Sapi_Instr) (vset (#v[v29, v30, v31, v32] : Vector Sapi_Instr 4) 1 ({ vx (⟨0, 0, 0, 0, 0, 0, false⟩ : Sapi_Instr) (#v[v29, v30, v31, v32] : Vector Sapi_Instr 4) 1 with Kind := 5 } : Sapi_Instr)) 2) (vx (⟨0, 0, 0, 0, 0, 0, false⟩ : Sapi_Instr) (vset (#v[v29, v30, v31, v32] : Vector Sapi_Instr 4) 1 ({ vx (⟨0, 0, 0, 0, 0, 0, false⟩ : Sapi_Instr) (#v[v29, v30, v31, v32] : Vector Sapi_Instr 4) 1 with Kind := 5 } : Sapi_Instr)) 3) else (if v36 = 2 then rivetlaw06_MachineMoves.j1 v36 l33 (vx (⟨0, 0, 0, 0, 0, 0, false⟩ : Sapi_Instr) (vset (#v[v29, v30, v31, v32] : Vector Sapi_Instr 4) 2 ({ vx (⟨0, 0, 0, 0, 0, 0, false⟩ : Sapi_Instr) (#v[v29, v30, v31, v32] : Vector Sapi_Instr 4) 2 with Kind := 5 } : Sapi_Instr)) 0) (vx (⟨0, 0, 0, 0, 0, 0, false⟩ : Sapi_Instr) (vset (#v[v29, v30, v31, v32] : Vector Sapi_Instr 4) 2 ({ vx (⟨0, 0, 0, 0, 0, 0, false⟩ : Sapi_Instr) (#v[v29, v30, v31, v32] : Vector Sapi_Instr 4) 2 with Kind := 5 } : Sapi_Instr)) 1) (vx (⟨0, 0, 0, 0, 0, 0, false⟩ : Sapi_Instr) (vset (#v[v29, v30, v31, v32] : Vector Sapi_Instr 4) 2 ({ vx (⟨0, 0, 0, 0, 0, 0, false⟩ : Sapi_Instr) (#v[v29, v30, v31, v32] : Vector Sapi_Instr 4) 2 with Kind := 5 } : Sapi_Instr)) 2) (vx (⟨0, 0, 0, 0, 0, 0, false⟩ : Sapi_Instr) (vset (#v[v29, v30, v31, v32] : Vector Sapi_Instr 4) 2 ({ vx (⟨0, 0, 0, 0, 0, 0, false⟩ : Sapi_Instr) (#v[v29, v30, v31, v32] : Vector Sapi_Instr 4) 2 with Kind := 5 } : Sapi_Instr)) 3) else (if v36 = 3 then rivetlaw06_MachineMoves.j1 v36 l33 (vx (⟨0, 0, 0, 0, 0, 0, false⟩ : Sapi_Instr) (vset (#v[v29, v30, v31, v32] : Vector Sapi_Instr 4) 3 ({ vx (⟨0, 0, 0, 0, 0, 0, false⟩ : Sapi_Instr) (#v[v29, v30, v31, v32] : Vector Sapi_Instr 4) 3 with Kind := 5 } : Sapi_Instr)) 0) (vx (⟨0, 0, 0, 0, 0, 0, false⟩ : Sapi_Instr) (vset (#v[v29, v30, v31, v32] : Vector Sapi_Instr 4) 3 ({ vx (⟨0, 0, 0, 0, 0, 0, false⟩ : Sapi_Instr) (#v[v29, v30, v31, v32] : Vector Sapi_Instr 4) 3 with Kind := 5 } : Sapi_Instr)) 1) (vx (⟨0, 0, 0, 0, 0, 0, false⟩ : Sapi_Instr) (vset (#v[v29, v30, v31, v32] : Vector Sapi_Instr 4) 3 ({ vx (⟨0, 0, 0, 0, 0, 0, false⟩ : Sapi_Instr) (#v[v29, v30, v31, v32] : Vector Sapi_Instr 4) 3 with Kind := 5 } : Sapi_Instr)) 2) (vx (⟨0, 0, 0, 0, 0, 0, false⟩ : Sapi_Instr) (vset (#v[v29, v30, v31, v32] : Vector Sapi_Instr 4) 3 ({ vx (⟨0, 0, 0, 0, 0, 0, false⟩ : Sapi_Instr) (#v[v29, v30, v31, v32] : Vector Sapi_Instr 4) 3 with Kind := 5 } : Sapi_Instr)) 3) else none)))) else none) else some (.inr (.done (vx (⟨0, 0, 0, 0, 0, 0, false⟩ : Sapi_Instr) (#v[v29, v30, v31, v32] : Vector Sapi_Instr 4) 0, vx (⟨0, 0, 0, 0, 0, 0, false⟩ : Sapi_Instr) (#v[v29, v30, v31, v32] : Vector Sapi_Instr 4) 1, vx (⟨0, 0, 0, 0, 0, 0, false⟩ : Sapi_Instr) (#v[v29, v30, v31, v32] : Vector Sapi_Instr 4) 2, vx (⟨0, 0, 0, 0, 0, 0, false⟩ : Sapi_Instr) (#v[v29, v30, v31, v32] : Vector Sapi_Instr 4) 3, l33))))
noncomputable def rivetlaw06_MachineMoves (a0 : Int) (a1 : Int) (a2 : Int) : Option Bool := ((rivetlaw06_shown).bind fun t4 => ((nm (w64 (32 + ((w64 a1).tmod 32))) fun y10 => (nm (w64 ((w64 (y10.tdiv 4)) * 4)) fun y12 => ((loopO (fun (σ : Sapi_Instr × Sapi_Instr × Sapi_Instr × Sapi_Instr × (List Int) × Int) => rivetlaw06_MachineMoves.b28 σ.1 σ.2.1 σ.2.2.1 σ.2.2.2.1 σ.2.2.2.2.1 σ.2.2.2.2.2) (vx (⟨0, 0, 0, 0, 0, 0, false⟩ : Sapi_Instr) (#v[(⟨0, 2, 1, 2, 0, (w64 a2).tmod 64, false⟩ : Sapi_Instr), (⟨0, 0, 3, 2, 0, (w64 a2).tmod 64, false⟩ : Sapi_Instr), (⟨0, 3, 1, 4, 0, (w64 a2).tmod 64, false⟩ : Sapi_Instr), (⟨0, 1, 5, 4, 0, (w64 a2).tmod 64, false⟩ : Sapi_Instr)] : Vector Sapi_Instr 4) 0, vx (⟨0, 0, 0, 0, 0, 0, false⟩ : Sapi_Instr) (#v[(⟨0, 2, 1, 2, 0, (w64 a2).tmod 64, false⟩ : Sapi_Instr), (⟨0, 0, 3, 2, 0, (w64 a2).tmod 64, false⟩ : Sapi_Instr), (⟨0, 3, 1, 4, 0, (w64 a2).tmod 64, false⟩ : Sapi_Instr), (⟨0, 1, 5, 4, 0, (w64 a2).tmod 64, false⟩ : Sapi_Instr)] : Vector Sapi_Instr 4) 1, vx (⟨0, 0, 0, 0, 0, 0, false⟩ : Sapi_Instr) (#v[(⟨0, 2, 1, 2, 0, (w64 a2).tmod 64, false⟩ : Sapi_Instr), (⟨0, 0, 3, 2, 0, (w64 a2).tmod 64, false⟩ : Sapi_Instr), (⟨0, 3, 1, 4, 0, (w64 a2).tmod 64, false⟩ : Sapi_Instr), (⟨0, 1, 5, 4, 0, (w64 a2).tmod 64, false⟩ : Sapi_Instr)] : Vector Sapi_Instr 4) 2, vx (⟨0, 0, 0, 0, 0, 0, false⟩ : Sapi_Instr) (#v[(⟨0, 2, 1, 2, 0, (w64 a2).tmod 64, false⟩ : Sapi_Instr), (⟨0, 0, 3, 2, 0, (w64 a2).tmod 64, false⟩ : Sapi_Instr), (⟨0, 3, 1, 4, 0, (w64 a2).tmod 64, false⟩ : Sapi_Instr), (⟨0, 1, 5, 4, 0, (w64 a2).tmod 64, false⟩ : Sapi_Instr)] : Vector Sapi_Instr 4) 3, ([] : List Int), 0)).bind fun e => match e with | .ret x => some x | .done e => rivetlaw06_MachineMoves.j4 t4 a0 y12 a2 y10 e.1 e.2.1 e.2.2.1 e.2.2.2.1 e.2.2.2.2)))))
set_option maxRecDepth 100000 in
set_option maxHeartbeats 4000000 in
theorem rivetlaw06_MachineMoves.calls (a0 : Int) (a1 : Int) (a2 : Int) (r : Bool) (w0 : World) (H : rivetlaw06_MachineMoves a0 a1 a2 = some r) :
    Calls Try.prog 7 #[.int .u32 a0, .int .u8 a1, .int .i8 a2] w0 fun e w' => e = .returned (.bool r) ∧ St [] w0 w' [] := by
 have hw : St [] w0 w0 [] := St.nil w0
 unfold rivetlaw06_MachineMoves at H
 refine go_fn Try.func7 rfl Try.ntmps7 ?_; intro a hs
 refine go_sp [] [] hs ?_; clear hs; intro a hs
 refine go_sk fun K2 hK2 => ?_
 obtain ⟨t4, hx5, H⟩ := bind_some H
 refine go_call hs (by rfl) (rivetlaw06_shown.calls t4 _ hx5) ?_
 rintro e wd6 ⟨rfl, hw7⟩
 refine ⟨_, rfl, ?_⟩
 replace hw := hw.call hw7
 clear hs; intro a hs
 refine go_pvs 2 [20] [(7, .bool t4)] hs ?_; clear hs; intro a hs
 refine go_end (hK2 _ _ ?_)
 refine go_sp [2] [(8, .int .i64 ((w64 a2).tmod 64))] hs ?_; clear hs; intro a hs
 refine go_sp [1] [(9, .int .i64 (w64 (32 + ((w64 a1).tmod 32))))] hs ?_; clear hs; intro a hs
 obtain ⟨y10, hy10, H⟩ := nm_some H
 replace hs : Slots a 159 [(0, .int .u32 a0), (7, .bool t4), (8, .int .i64 ((w64 a2).tmod 64)), (9, .int .i64 y10)] := by rw [hy10]; exact hs.kx
 refine go_sp [] [(10, .int .i64 (w64 ((w64 (y10.tdiv 4)) * 4)))] hs ?_; clear hs; intro a hs
 obtain ⟨y12, hy12, H⟩ := nm_some H
 replace hs : Slots a 159 [(0, .int .u32 a0), (7, .bool t4), (8, .int .i64 ((w64 a2).tmod 64)), (9, .int .i64 y10), (10, .int .i64 y12)] := by rw [hy12]; exact hs.kx
 refine go_sk fun K13 hK13 => ?_
 obtain ⟨Aa14, cc15, wd16, hx17, hw⟩ := n_lit0 (P := Try.prog) (t := 22) (ty := 22) (T := 23) hs hw (eI .u32) (by kernel_rfl) (by kernel_rfl)
 refine go_run hs (by rfl) hx17 [] ?_; clear hs; intro a hs
 refine go_pvs 2 [31] [(11, .slice Aa14 ([] : List Int).length cc15)] hs ?_; clear hs; intro a hs
 refine go_end (hK13 _ _ ?_)
 refine go_sk fun K19 hK19 => ?_
 refine go_pvs 9 [] [(40, .agg (eA63.enc (#v[(⟨0, 2, 1, 2, 0, (w64 a2).tmod 64, false⟩ : Sapi_Instr), (⟨0, 0, 3, 2, 0, (w64 a2).tmod 64, false⟩ : Sapi_Instr), (⟨0, 3, 1, 4, 0, (w64 a2).tmod 64, false⟩ : Sapi_Instr), (⟨0, 1, 5, 4, 0, (w64 a2).tmod 64, false⟩ : Sapi_Instr)] : Vector Sapi_Instr 4)).toArray)] hs ?_; clear hs; intro a hs
 obtain ⟨ad20, wd21, hx22, hw⟩ := x_alloc1 (P := Try.prog) (elem := 63) (ty := 0) (z := .agg (eA63.enc (Vector.replicate 4 (⟨0, 0, 0, 0, 0, 0, false⟩ : Sapi_Instr))).toArray) hs hw eA63 (Vector.replicate 4 (⟨0, 0, 0, 0, 0, 0, false⟩ : Sapi_Instr)) (by kernel_rfl) (by kernel_rfl)
 refine go_run hs (by rfl) hx22 [] ?_; clear hs; intro a hs
 obtain ⟨wd24, hx25, hw⟩ := x_put (P := Try.prog) (ty := 0) (t := 63) (x := (Operand.tmp 12)) (y := (Operand.tmp 40)) (off := 0) (p := ad20) (v := .agg (eA63.enc (#v[(⟨0, 2, 1, 2, 0, (w64 a2).tmod 64, false⟩ : Sapi_Instr), (⟨0, 0, 3, 2, 0, (w64 a2).tmod 64, false⟩ : Sapi_Instr), (⟨0, 3, 1, 4, 0, (w64 a2).tmod 64, false⟩ : Sapi_Instr), (⟨0, 1, 5, 4, 0, (w64 a2).tmod 64, false⟩ : Sapi_Instr)] : Vector Sapi_Instr 4)).toArray) (vs := (eA63.enc (#v[(⟨0, 2, 1, 2, 0, (w64 a2).tmod 64, false⟩ : Sapi_Instr), (⟨0, 0, 3, 2, 0, (w64 a2).tmod 64, false⟩ : Sapi_Instr), (⟨0, 3, 1, 4, 0, (w64 a2).tmod 64, false⟩ : Sapi_Instr), (⟨0, 1, 5, 4, 0, (w64 a2).tmod 64, false⟩ : Sapi_Instr)] : Vector Sapi_Instr 4))) (i := 0) (e' := ((#v[(⟨0, 2, 1, 2, 0, (w64 a2).tmod 64, false⟩ : Sapi_Instr), (⟨0, 0, 3, 2, 0, (w64 a2).tmod 64, false⟩ : Sapi_Instr), (⟨0, 3, 1, 4, 0, (w64 a2).tmod 64, false⟩ : Sapi_Instr), (⟨0, 1, 5, 4, 0, (w64 a2).tmod 64, false⟩ : Sapi_Instr)] : Vector Sapi_Instr 4) : Vector Sapi_Instr 4)) hs hw rfl (one_ok (Vector.replicate 4 (⟨0, 0, 0, 0, 0, 0, false⟩ : Sapi_Instr))).1 (one_ok (Vector.replicate 4 (⟨0, 0, 0, 0, 0, 0, false⟩ : Sapi_Instr))).2 (by kernel_rfl) (one_at _ _) (by kernel_rfl) rfl (by kernel_rfl) (Nat.le_of_ble_eq_true rfl) (eA63.one _) (by kernel_rfl)
 refine go_unit hs (by rfl) hx25 [40] ?_; clear hs; intro a hs
 replace hw : St [] w0 wd24 [own 63 eA63 (some ad20) 1 [(#v[(⟨0, 2, 1, 2, 0, (w64 a2).tmod 64, false⟩ : Sapi_Instr), (⟨0, 0, 3, 2, 0, (w64 a2).tmod 64, false⟩ : Sapi_Instr), (⟨0, 3, 1, 4, 0, (w64 a2).tmod 64, false⟩ : Sapi_Instr), (⟨0, 1, 5, 4, 0, (w64 a2).tmod 64, false⟩ : Sapi_Instr)] : Vector Sapi_Instr 4)], own 23 (eI .u32) Aa14 cc15 ([] : List Int)] := hw
 refine go_end (hK19 _ _ ?_)
 refine go_seq_k fun K26 hK26 => ?_
 refine go_sp [] [(13, .int .i64 0)] hs ?_; clear hs; intro a hs
 refine wp_block ?_
 obtain ⟨e28, hl28, HX28⟩ := bind_some H
 have hJ4 : ∀ (v115 : Sapi_Instr) (v116 : Sapi_Instr) (v117 : Sapi_Instr) (v118 : Sapi_Instr) (Aa120 : Option Addr) (cc121 : Nat) (l119 : List Int) (a : Act) (w : World), Slots a 159 [(0, .int .u32 a0), (7, .bool t4), (8, .int .i64 ((w64 a2).tmod 64)), (9, .int .i64 y10), (10, .int .i64 y12), (11, .slice Aa120 l119.length cc121)] → St [] w0 w [own 63 eA63 (some ad20) 1 [(#v[v115, v116, v117, v118] : Vector Sapi_Instr 4)], own 23 (eI .u32) Aa120 cc121 l119] → rivetlaw06_MachineMoves.j4 t4 a0 y12 a2 y10 v115 v116 v117 v118 l119 = some r → K26 a w := by
  intro v115 v116 v117 v118 Aa120 cc121 l119 a w hs hw H
  unfold rivetlaw06_MachineMoves.j4 at H
  refine hK26 _ _ ?_
  refine go_sk fun K122 hK122 => ?_
  obtain ⟨⟨t124, t125⟩, hx126, H⟩ := bind_some H
  refine go_call hs (by rfl) (machine_New.calls 16 none 0 ([] : List Int) (t124, t125) _ (Rd.nil _ _) hx126) ?_
  rintro e wd128 ⟨Aa127, rfl, hw129⟩
  refine ⟨_, rfl, ?_⟩
  replace hw := hw.call hw129
  clear hs; intro a hs
  rcases t124 with _ | x131
  ·obtain ⟨hAg, hwg⟩ := St.oM_none hw
   clear hw; subst hAg; have hw := hwg; clear hwg
   refine go_pvs 6 [62] [(16, .pointer none), (17, .int .i64 t125)] hs ?_; clear hs; intro a hs
   refine go_end (hK122 _ _ ?_)
   refine go_seq_k fun K132 hK132 => ?_
   refine go_seq_k fun K133 hK133 => ?_
   have hJ5 : ∀ (a : Act) (w : World), Slots a 159 [(0, .int .u32 a0), (8, .int .i64 ((w64 a2).tmod 64)), (9, .int .i64 y10), (10, .int .i64 y12), (16, .pointer none), (83, .bool true)] → St [] w0 w [own 63 eA63 (some ad20) 1 [(#v[v115, v116, v117, v118] : Vector Sapi_Instr 4)], own 23 (eI .u32) Aa120 cc121 l119] → rivetlaw06_MachineMoves.j5 = some r → K133 a w := by
    intro a w hs hw H
    unfold rivetlaw06_MachineMoves.j5 at H
    refine hK133 _ _ ?_
    refine go_cond hs true (fun hc => ?_) fun hc => ?_
    ·skip
     refine go_sp [0, 8, 9, 10, 16, 83] [(6, .bool false)] hs ?_; clear hs; intro a hs
     refine wp_ret ?_
     refine th_ret ?_
     obtain rfl := Option.some.inj H
     refine ret1 (t := 6) (v := .bool false) hs (by kernel_rfl) (by kernel_rfl) ?_
     exact ⟨rfl, hw.only 0⟩
    ·cases hc
   refine go_region ?_
   refine go_pvs 3 [7] [(67, .bool (!t4))] hs ?_; clear hs; intro a hs
   cases hb134 : (!t4)
   ·replace H := ite_t H (nf hb134)
    rw [hb134] at hs
    refine go_pvs 19 [11, 17, 67] [(83, .bool true)] hs ?_; clear hs; intro a hs
    refine go_end ?_
    replace hw := hw.up 1
    replace hw := hw.up 1
    exact hJ5 _ _ hs.kx hw H
   ·replace H := ite_f H (ff (nt hb134))
    rw [hb134] at hs
    refine go_pvs 19 [11, 17, 67] [(83, .bool true)] hs ?_; clear hs; intro a hs
    refine go_end ?_
    replace hw := hw.up 1
    replace hw := hw.up 1
    exact hJ5 _ _ hs.kx hw H
  ·replace hw : St [] w0 _ [mSmachine_Machine Aa127 x131, own 63 eA63 (some ad20) 1 [(#v[v115, v116, v117, v118] : Vector Sapi_Instr 4)], own 23 (eI .u32) Aa120 cc121 l119] := hw
   obtain ⟨g136, hAg, hwg⟩ := mSmachine_Machine.addr hw
   clear hw; subst hAg; have hw := hwg; clear hwg
   replace hw : St [] w0 _ [mSmachine_Machine (some ⟨g136, 0, none⟩) x131, own 63 eA63 (some ad20) 1 [(#v[v115, v116, v117, v118] : Vector Sapi_Instr 4)], own 23 (eI .u32) Aa120 cc121 l119] := hw
   refine go_pvs 6 [62] [(16, .pointer (some (⟨g136, 0, none⟩ : Addr))), (17, .int .i64 t125)] hs ?_; clear hs; intro a hs
   refine go_end (hK122 _ _ ?_)
   refine go_seq_k fun K137 hK137 => ?_
   have hJ7 : ∀ (v163 : Smachine_Machine) (a : Act) (w : World), Slots a 159 [(0, .int .u32 a0), (8, .int .i64 ((w64 a2).tmod 64)), (9, .int .i64 y10), (10, .int .i64 y12), (16, .pointer (some (⟨g136, 0, none⟩ : Addr)))] → St [] w0 w [mSmachine_Machine (some ⟨g136, 0, none⟩) v163, own 63 eA63 (some ad20) 1 [(#v[v115, v116, v117, v118] : Vector Sapi_Instr 4)], own 23 (eI .u32) Aa120 cc121 l119] → rivetlaw06_MachineMoves.j7 a0 y12 a2 y10 v163 = some r → K137 a w := by
    intro v163 a w hs hw H
    unfold rivetlaw06_MachineMoves.j7 at H
    refine hK137 _ _ ?_
    refine go_sk fun K164 hK164 => ?_
    refine go_pvs 1 [] [(84, .agg (eSapi_Regs.enc (⟨(Vector.replicate 16 0), 0, false, false, false, false⟩ : Sapi_Regs)).toArray)] hs ?_; clear hs; intro a hs
    obtain ⟨ad165, wd166, hx167, hw⟩ := x_alloc1 (P := Try.prog) (elem := 26) (ty := 0) (z := .agg (eSapi_Regs.enc (⟨(Vector.replicate 16 0), 0, false, false, false, false⟩ : Sapi_Regs)).toArray) hs hw eSapi_Regs (⟨(Vector.replicate 16 0), 0, false, false, false, false⟩ : Sapi_Regs) (by kernel_rfl) (by kernel_rfl)
    refine go_run hs (by rfl) hx167 [] ?_; clear hs; intro a hs
    obtain ⟨wd169, hx170, hw⟩ := x_put (P := Try.prog) (ty := 0) (t := 26) (x := (Operand.tmp 18)) (y := (Operand.tmp 84)) (off := 0) (p := ad165) (v := .agg (eSapi_Regs.enc (⟨(Vector.replicate 16 0), 0, false, false, false, false⟩ : Sapi_Regs)).toArray) (vs := (eSapi_Regs.enc (⟨(Vector.replicate 16 0), 0, false, false, false, false⟩ : Sapi_Regs))) (i := 0) (e' := ((⟨(Vector.replicate 16 0), 0, false, false, false, false⟩ : Sapi_Regs) : Sapi_Regs)) hs hw rfl (one_ok (⟨(Vector.replicate 16 0), 0, false, false, false, false⟩ : Sapi_Regs)).1 (one_ok (⟨(Vector.replicate 16 0), 0, false, false, false, false⟩ : Sapi_Regs)).2 (by kernel_rfl) (one_at _ _) (by kernel_rfl) rfl (by kernel_rfl) (Nat.le_of_ble_eq_true rfl) (eSapi_Regs.one _) (by kernel_rfl)
    refine go_unit hs (by rfl) hx170 [84] ?_; clear hs; intro a hs
    replace hw : St [] w0 wd169 [own 26 eSapi_Regs (some ad165) 1 [(⟨(Vector.replicate 16 0), 0, false, false, false, false⟩ : Sapi_Regs)], mSmachine_Machine (some ⟨g136, 0, none⟩) v163, own 63 eA63 (some ad20) 1 [(#v[v115, v116, v117, v118] : Vector Sapi_Instr 4)], own 23 (eI .u32) Aa120 cc121 l119] := hw
    refine go_end (hK164 _ _ ?_)
    refine go_sk fun K171 hK171 => ?_
    refine go_pvs 2 [] [(85, .int .u32 a0), (86, .pointer (some ((ad165 : Addr).add 0)))] hs ?_; clear hs; intro a hs
    refine go_run hs (by rfl) (x_vidx (e := 23) (p := (ad165 : Addr).add 0) (n := 16) (k := .i64) (i := 1) (sz := 1) (⟨by decide, by decide⟩ : (0 : Int) ≤ 1 ∧ (1 : Int) < ((16 : Nat) : Int))) [86] ?_; clear hs; intro a hs
    obtain ⟨wd172, hx173, hw⟩ := x_put (P := Try.prog) (ty := 0) (t := 23) (x := (Operand.tmp 87)) (y := (Operand.tmp 85)) (off := 0 + 1 * 1) (p := ((ad165 : Addr).add 0 : Addr).add ((1 : Int).toNat * 1)) (v := .int .u32 a0) (vs := [.int .u32 a0]) (i := 0) (e' := (({ (⟨(Vector.replicate 16 0), 0, false, false, false, false⟩ : Sapi_Regs) with R := vset (Vector.replicate 16 0) 1 a0 } : Sapi_Regs) : Sapi_Regs)) hs hw rfl (one_ok (⟨(Vector.replicate 16 0), 0, false, false, false, false⟩ : Sapi_Regs)).1 (one_ok (⟨(Vector.replicate 16 0), 0, false, false, false, false⟩ : Sapi_Regs)).2 (by kernel_rfl) (by simp only [add_add', Int.toNat_zero, Nat.zero_mul, Nat.zero_add, Nat.mul_one] <;> rfl) (by kernel_rfl) rfl (by kernel_rfl) (by have := (⟨by decide, by decide⟩ : (0 : Int) ≤ 1 ∧ (1 : Int) < ((16 : Nat) : Int)); show 0 + _ * 1 + 1 ≤ 21; omega) (by simp [Value.oneCell']) (vput (cs := eSapi_Regs.enc (⟨(Vector.replicate 16 0), 0, false, false, false, false⟩ : Sapi_Regs)) (cs' := eSapi_Regs.enc ({ (⟨(Vector.replicate 16 0), 0, false, false, false, false⟩ : Sapi_Regs) with R := vset (Vector.replicate 16 0) 1 a0 } : Sapi_Regs)) (pre := []) (post := [.int .u32 0, .bool false, .bool false, .bool false, .bool false]) (f := (fun j : Nat => .int .u32 (vx 0 (Vector.replicate 16 0) j))) (f' := (fun j : Nat => .int .u32 (vx 0 (vset (Vector.replicate 16 0) 1 a0) j))) (n := 16) (o := 0) (i := 1) (v := .int .u32 a0) (by kernel_rfl) (by kernel_rfl) rfl (by have := (⟨by decide, by decide⟩ : (0 : Int) ≤ 1 ∧ (1 : Int) < ((16 : Nat) : Int)); omega) (vx_put (by have := (⟨by decide, by decide⟩ : (0 : Int) ≤ 1 ∧ (1 : Int) < ((16 : Nat) : Int)); omega)))
    refine go_unit hs (by rfl) hx173 [85, 87] ?_; clear hs; intro a hs
    replace hw : St [] w0 wd172 [own 26 eSapi_Regs (some ad165) 1 [({ (⟨(Vector.replicate 16 0), 0, false, false, false, false⟩ : Sapi_Regs) with R := vset (Vector.replicate 16 0) 1 a0 } : Sapi_Regs)], mSmachine_Machine (some ⟨g136, 0, none⟩) v163, own 63 eA63 (some ad20) 1 [(#v[v115, v116, v117, v118] : Vector Sapi_Instr 4)], own 23 (eI .u32) Aa120 cc121 l119] := hw
    refine go_end (hK171 _ _ ?_)
    refine go_sk fun K174 hK174 => ?_
    refine go_pvs 5 [10] [(91, .int .u32 (wu32 (w64 (y12 - ((w64 a2).tmod 64))))), (92, .pointer (some ((ad165 : Addr).add 0)))] hs ?_; clear hs; intro a hs
    refine go_run hs (by rfl) (x_vidx (e := 23) (p := (ad165 : Addr).add 0) (n := 16) (k := .i64) (i := 2) (sz := 1) (⟨by decide, by decide⟩ : (0 : Int) ≤ 2 ∧ (2 : Int) < ((16 : Nat) : Int))) [92] ?_; clear hs; intro a hs
    obtain ⟨wd175, hx176, hw⟩ := x_put (P := Try.prog) (ty := 0) (t := 23) (x := (Operand.tmp 93)) (y := (Operand.tmp 91)) (off := 0 + 2 * 1) (p := ((ad165 : Addr).add 0 : Addr).add ((2 : Int).toNat * 1)) (v := .int .u32 (wu32 (w64 (y12 - ((w64 a2).tmod 64))))) (vs := [.int .u32 (wu32 (w64 (y12 - ((w64 a2).tmod 64))))]) (i := 0) (e' := (({ ({ (⟨(Vector.replicate 16 0), 0, false, false, false, false⟩ : Sapi_Regs) with R := vset (Vector.replicate 16 0) 1 a0 } : Sapi_Regs) with R := vset (vset (Vector.replicate 16 0) 1 a0) 2 (wu32 (w64 (y12 - ((w64 a2).tmod 64)))) } : Sapi_Regs) : Sapi_Regs)) hs hw rfl (one_ok ({ (⟨(Vector.replicate 16 0), 0, false, false, false, false⟩ : Sapi_Regs) with R := vset (Vector.replicate 16 0) 1 a0 } : Sapi_Regs)).1 (one_ok ({ (⟨(Vector.replicate 16 0), 0, false, false, false, false⟩ : Sapi_Regs) with R := vset (Vector.replicate 16 0) 1 a0 } : Sapi_Regs)).2 (by kernel_rfl) (by simp only [add_add', Int.toNat_zero, Nat.zero_mul, Nat.zero_add, Nat.mul_one] <;> rfl) (by kernel_rfl) rfl (by kernel_rfl) (by have := (⟨by decide, by decide⟩ : (0 : Int) ≤ 2 ∧ (2 : Int) < ((16 : Nat) : Int)); show 0 + _ * 1 + 1 ≤ 21; omega) (by simp [Value.oneCell']) (vput (cs := eSapi_Regs.enc ({ (⟨(Vector.replicate 16 0), 0, false, false, false, false⟩ : Sapi_Regs) with R := vset (Vector.replicate 16 0) 1 a0 } : Sapi_Regs)) (cs' := eSapi_Regs.enc ({ ({ (⟨(Vector.replicate 16 0), 0, false, false, false, false⟩ : Sapi_Regs) with R := vset (Vector.replicate 16 0) 1 a0 } : Sapi_Regs) with R := vset (vset (Vector.replicate 16 0) 1 a0) 2 (wu32 (w64 (y12 - ((w64 a2).tmod 64)))) } : Sapi_Regs)) (pre := []) (post := [.int .u32 0, .bool false, .bool false, .bool false, .bool false]) (f := (fun j : Nat => .int .u32 (vx 0 (vset (Vector.replicate 16 0) 1 a0) j))) (f' := (fun j : Nat => .int .u32 (vx 0 (vset (vset (Vector.replicate 16 0) 1 a0) 2 (wu32 (w64 (y12 - ((w64 a2).tmod 64))))) j))) (n := 16) (o := 0) (i := 2) (v := .int .u32 (wu32 (w64 (y12 - ((w64 a2).tmod 64))))) (by kernel_rfl) (by kernel_rfl) rfl (by have := (⟨by decide, by decide⟩ : (0 : Int) ≤ 2 ∧ (2 : Int) < ((16 : Nat) : Int)); omega) (vx_put (by have := (⟨by decide, by decide⟩ : (0 : Int) ≤ 2 ∧ (2 : Int) < ((16 : Nat) : Int)); omega)))
    refine go_unit hs (by rfl) hx176 [91, 93] ?_; clear hs; intro a hs
    replace hw : St [] w0 wd175 [own 26 eSapi_Regs (some ad165) 1 [({ ({ (⟨(Vector.replicate 16 0), 0, false, false, false, false⟩ : Sapi_Regs) with R := vset (Vector.replicate 16 0) 1 a0 } : Sapi_Regs) with R := vset (vset (Vector.replicate 16 0) 1 a0) 2 (wu32 (w64 (y12 - ((w64 a2).tmod 64)))) } : Sapi_Regs)], mSmachine_Machine (some ⟨g136, 0, none⟩) v163, own 63 eA63 (some ad20) 1 [(#v[v115, v116, v117, v118] : Vector Sapi_Instr 4)], own 23 (eI .u32) Aa120 cc121 l119] := hw
    refine go_end (hK174 _ _ ?_)
    refine go_sk fun K177 hK177 => ?_
    refine go_pvs 5 [8, 9] [(97, .int .u32 (wu32 (w64 (y10 - ((w64 a2).tmod 64))))), (98, .pointer (some ((ad165 : Addr).add 0)))] hs ?_; clear hs; intro a hs
    refine go_run hs (by rfl) (x_vidx (e := 23) (p := (ad165 : Addr).add 0) (n := 16) (k := .i64) (i := 4) (sz := 1) (⟨by decide, by decide⟩ : (0 : Int) ≤ 4 ∧ (4 : Int) < ((16 : Nat) : Int))) [98] ?_; clear hs; intro a hs
    obtain ⟨wd178, hx179, hw⟩ := x_put (P := Try.prog) (ty := 0) (t := 23) (x := (Operand.tmp 99)) (y := (Operand.tmp 97)) (off := 0 + 4 * 1) (p := ((ad165 : Addr).add 0 : Addr).add ((4 : Int).toNat * 1)) (v := .int .u32 (wu32 (w64 (y10 - ((w64 a2).tmod 64))))) (vs := [.int .u32 (wu32 (w64 (y10 - ((w64 a2).tmod 64))))]) (i := 0) (e' := (({ ({ ({ (⟨(Vector.replicate 16 0), 0, false, false, false, false⟩ : Sapi_Regs) with R := vset (Vector.replicate 16 0) 1 a0 } : Sapi_Regs) with R := vset (vset (Vector.replicate 16 0) 1 a0) 2 (wu32 (w64 (y12 - ((w64 a2).tmod 64)))) } : Sapi_Regs) with R := vset (vset (vset (Vector.replicate 16 0) 1 a0) 2 (wu32 (w64 (y12 - ((w64 a2).tmod 64))))) 4 (wu32 (w64 (y10 - ((w64 a2).tmod 64)))) } : Sapi_Regs) : Sapi_Regs)) hs hw rfl (one_ok ({ ({ (⟨(Vector.replicate 16 0), 0, false, false, false, false⟩ : Sapi_Regs) with R := vset (Vector.replicate 16 0) 1 a0 } : Sapi_Regs) with R := vset (vset (Vector.replicate 16 0) 1 a0) 2 (wu32 (w64 (y12 - ((w64 a2).tmod 64)))) } : Sapi_Regs)).1 (one_ok ({ ({ (⟨(Vector.replicate 16 0), 0, false, false, false, false⟩ : Sapi_Regs) with R := vset (Vector.replicate 16 0) 1 a0 } : Sapi_Regs) with R := vset (vset (Vector.replicate 16 0) 1 a0) 2 (wu32 (w64 (y12 - ((w64 a2).tmod 64)))) } : Sapi_Regs)).2 (by kernel_rfl) (by simp only [add_add', Int.toNat_zero, Nat.zero_mul, Nat.zero_add, Nat.mul_one] <;> rfl) (by kernel_rfl) rfl (by kernel_rfl) (by have := (⟨by decide, by decide⟩ : (0 : Int) ≤ 4 ∧ (4 : Int) < ((16 : Nat) : Int)); show 0 + _ * 1 + 1 ≤ 21; omega) (by simp [Value.oneCell']) (vput (cs := eSapi_Regs.enc ({ ({ (⟨(Vector.replicate 16 0), 0, false, false, false, false⟩ : Sapi_Regs) with R := vset (Vector.replicate 16 0) 1 a0 } : Sapi_Regs) with R := vset (vset (Vector.replicate 16 0) 1 a0) 2 (wu32 (w64 (y12 - ((w64 a2).tmod 64)))) } : Sapi_Regs)) (cs' := eSapi_Regs.enc ({ ({ ({ (⟨(Vector.replicate 16 0), 0, false, false, false, false⟩ : Sapi_Regs) with R := vset (Vector.replicate 16 0) 1 a0 } : Sapi_Regs) with R := vset (vset (Vector.replicate 16 0) 1 a0) 2 (wu32 (w64 (y12 - ((w64 a2).tmod 64)))) } : Sapi_Regs) with R := vset (vset (vset (Vector.replicate 16 0) 1 a0) 2 (wu32 (w64 (y12 - ((w64 a2).tmod 64))))) 4 (wu32 (w64 (y10 - ((w64 a2).tmod 64)))) } : Sapi_Regs)) (pre := []) (post := [.int .u32 0, .bool false, .bool false, .bool false, .bool false]) (f := (fun j : Nat => .int .u32 (vx 0 (vset (vset (Vector.replicate 16 0) 1 a0) 2 (wu32 (w64 (y12 - ((w64 a2).tmod 64))))) j))) (f' := (fun j : Nat => .int .u32 (vx 0 (vset (vset (vset (Vector.replicate 16 0) 1 a0) 2 (wu32 (w64 (y12 - ((w64 a2).tmod 64))))) 4 (wu32 (w64 (y10 - ((w64 a2).tmod 64))))) j))) (n := 16) (o := 0) (i := 4) (v := .int .u32 (wu32 (w64 (y10 - ((w64 a2).tmod 64))))) (by kernel_rfl) (by kernel_rfl) rfl (by have := (⟨by decide, by decide⟩ : (0 : Int) ≤ 4 ∧ (4 : Int) < ((16 : Nat) : Int)); omega) (vx_put (by have := (⟨by decide, by decide⟩ : (0 : Int) ≤ 4 ∧ (4 : Int) < ((16 : Nat) : Int)); omega)))
    refine go_unit hs (by rfl) hx179 [97, 99] ?_; clear hs; intro a hs
    replace hw : St [] w0 wd178 [own 26 eSapi_Regs (some ad165) 1 [({ ({ ({ (⟨(Vector.replicate 16 0), 0, false, false, false, false⟩ : Sapi_Regs) with R := vset (Vector.replicate 16 0) 1 a0 } : Sapi_Regs) with R := vset (vset (Vector.replicate 16 0) 1 a0) 2 (wu32 (w64 (y12 - ((w64 a2).tmod 64)))) } : Sapi_Regs) with R := vset (vset (vset (Vector.replicate 16 0) 1 a0) 2 (wu32 (w64 (y12 - ((w64 a2).tmod 64))))) 4 (wu32 (w64 (y10 - ((w64 a2).tmod 64)))) } : Sapi_Regs)], mSmachine_Machine (some ⟨g136, 0, none⟩) v163, own 63 eA63 (some ad20) 1 [(#v[v115, v116, v117, v118] : Vector Sapi_Instr 4)], own 23 (eI .u32) Aa120 cc121 l119] := hw
    refine go_end (hK177 _ _ ?_)
    refine go_sk fun K180 hK180 => ?_
    refine go_pvs 1 [] [(100, .pointer (some (⟨g136, 0, none⟩ : Addr)))] hs ?_; clear hs; intro a hs
    refine go_run hs (by rfl) (x_lds (off := 0) (p := ad165) (cs := (eSapi_Regs.enc ({ ({ ({ (⟨(Vector.replicate 16 0), 0, false, false, false, false⟩ : Sapi_Regs) with R := vset (Vector.replicate 16 0) 1 a0 } : Sapi_Regs) with R := vset (vset (Vector.replicate 16 0) 1 a0) 2 (wu32 (w64 (y12 - ((w64 a2).tmod 64)))) } : Sapi_Regs) with R := vset (vset (vset (Vector.replicate 16 0) 1 a0) 2 (wu32 (w64 (y12 - ((w64 a2).tmod 64))))) 4 (wu32 (w64 (y10 - ((w64 a2).tmod 64)))) } : Sapi_Regs))) (Rd.of_own (hw.up 0)) (one_ok ({ ({ ({ (⟨(Vector.replicate 16 0), 0, false, false, false, false⟩ : Sapi_Regs) with R := vset (Vector.replicate 16 0) 1 a0 } : Sapi_Regs) with R := vset (vset (Vector.replicate 16 0) 1 a0) 2 (wu32 (w64 (y12 - ((w64 a2).tmod 64)))) } : Sapi_Regs) with R := vset (vset (vset (Vector.replicate 16 0) 1 a0) 2 (wu32 (w64 (y12 - ((w64 a2).tmod 64))))) 4 (wu32 (w64 (y10 - ((w64 a2).tmod 64)))) } : Sapi_Regs)) (one_at _ _)) [18] ?_; clear hs; intro a hs
    replace hw := hw.up 1
    obtain ⟨ks181, hgks181, hstks181, hbkks181⟩ := hw.lend 1
    obtain ⟨t182, hx183, H⟩ := bind_some H
    refine go_call hs (by rfl) (machine_Machine_Start.calls ks181 (some ⟨g136, 0, none⟩) v163 0 ({ ({ ({ (⟨(Vector.replicate 16 0), 0, false, false, false, false⟩ : Sapi_Regs) with R := vset (Vector.replicate 16 0) 1 a0 } : Sapi_Regs) with R := vset (vset (Vector.replicate 16 0) 1 a0) 2 (wu32 (w64 (y12 - ((w64 a2).tmod 64)))) } : Sapi_Regs) with R := vset (vset (vset (Vector.replicate 16 0) 1 a0) 2 (wu32 (w64 (y12 - ((w64 a2).tmod 64))))) 4 (wu32 (w64 (y10 - ((w64 a2).tmod 64)))) } : Sapi_Regs) t182 _ hgks181 hx183) ?_
    rintro e wd184 ⟨rfl, hw185⟩
    refine ⟨_, rfl, ?_⟩
    replace hw := hbkks181 _ _ hw185
    replace hw : St [] w0 wd184 [mSmachine_Machine (some ⟨g136, 0, none⟩) t182, own 26 eSapi_Regs (some ad165) 1 [({ ({ ({ (⟨(Vector.replicate 16 0), 0, false, false, false, false⟩ : Sapi_Regs) with R := vset (Vector.replicate 16 0) 1 a0 } : Sapi_Regs) with R := vset (vset (Vector.replicate 16 0) 1 a0) 2 (wu32 (w64 (y12 - ((w64 a2).tmod 64)))) } : Sapi_Regs) with R := vset (vset (vset (Vector.replicate 16 0) 1 a0) 2 (wu32 (w64 (y12 - ((w64 a2).tmod 64))))) 4 (wu32 (w64 (y10 - ((w64 a2).tmod 64)))) } : Sapi_Regs)], own 63 eA63 (some ad20) 1 [(#v[v115, v116, v117, v118] : Vector Sapi_Instr 4)], own 23 (eI .u32) Aa120 cc121 l119] := hw
    clear hs; intro a hs; replace hs := hs.rms [100, 101, 102]
    refine go_end (hK180 _ _ ?_)
    refine go_seq_k fun K186 hK186 => ?_
    refine go_sk fun K187 hK187 => ?_
    refine go_pvs 1 [] [(103, .pointer (some (⟨g136, 0, none⟩ : Addr)))] hs ?_; clear hs; intro a hs
    obtain ⟨ks188, hgks188, hstks188, hbkks188⟩ := hw.lend 1
    obtain ⟨⟨t189, t190⟩, hx191, H⟩ := bind_some H
    refine go_call hs (by rfl) (machine_Machine_Run.calls ks188 (some ⟨g136, 0, none⟩) t182 2 (t189, t190) _ hgks188 hx191) ?_
    rintro e wd192 ⟨rfl, hw193⟩
    refine ⟨_, rfl, ?_⟩
    replace hw := hbkks188 _ _ hw193
    replace hw : St [] w0 wd192 [mSmachine_Machine (some ⟨g136, 0, none⟩) t190, own 26 eSapi_Regs (some ad165) 1 [({ ({ ({ (⟨(Vector.replicate 16 0), 0, false, false, false, false⟩ : Sapi_Regs) with R := vset (Vector.replicate 16 0) 1 a0 } : Sapi_Regs) with R := vset (vset (Vector.replicate 16 0) 1 a0) 2 (wu32 (w64 (y12 - ((w64 a2).tmod 64)))) } : Sapi_Regs) with R := vset (vset (vset (Vector.replicate 16 0) 1 a0) 2 (wu32 (w64 (y12 - ((w64 a2).tmod 64))))) 4 (wu32 (w64 (y10 - ((w64 a2).tmod 64)))) } : Sapi_Regs)], own 63 eA63 (some ad20) 1 [(#v[v115, v116, v117, v118] : Vector Sapi_Instr 4)], own 23 (eI .u32) Aa120 cc121 l119] := hw
    clear hs; intro a hs; replace hs := hs.rms [103]
    refine go_pvs 3 [104] [(105, .bool (t189 != 0))] hs ?_; clear hs; intro a hs
    refine go_end (hK187 _ _ ?_)
    refine go_cond hs (t189 != 0) (fun hc => ?_) fun hc => ?_
    ·replace H := ite_f H (bne_iff_ne.1 hc)
     have hb194 := hc
     rw [hb194] at hs
     refine go_sp [0, 16, 105] [(6, .bool false)] hs ?_; clear hs; intro a hs
     refine wp_ret ?_
     refine th_ret ?_
     obtain rfl := Option.some.inj H
     refine ret1 (t := 6) (v := .bool false) hs (by kernel_rfl) (by kernel_rfl) ?_
     exact ⟨rfl, hw.only 0⟩
    ·replace H := ite_t H (bne_eq_false_iff_eq.1 hc)
     have hb196 := hc
     rw [hb196] at hs
     refine wp_skip ?_
     refine hK186 _ _ ?_
     refine go_sk fun K197 hK197 => ?_
     refine go_pvs 1 [105] [(106, .pointer (some (⟨g136, 0, none⟩ : Addr)))] hs ?_; clear hs; intro a hs
     obtain ⟨t199, hx200, H⟩ := bind_some H
     refine go_call hs (by rfl) (machine_Machine_Regs.calls (some ⟨g136, 0, none⟩) t190 t199 _ (rSmachine_Machine.of_m (hw.up 0)) hx200) ?_
     rintro e wd201 ⟨rfl, hw202⟩
     refine ⟨_, rfl, ?_⟩
     replace hw := hw.call hw202
     clear hs; intro a hs; replace hs := hs.rms [106]
     obtain ⟨ad203, wd204, hx205, hw⟩ := x_alloc1 (P := Try.prog) (elem := 26) (ty := 0) (z := .agg (eSapi_Regs.enc (⟨(Vector.replicate 16 0), 0, false, false, false, false⟩ : Sapi_Regs)).toArray) hs hw eSapi_Regs (⟨(Vector.replicate 16 0), 0, false, false, false, false⟩ : Sapi_Regs) (by kernel_rfl) (by kernel_rfl)
     refine go_run hs (by rfl) hx205 [] ?_; clear hs; intro a hs
     obtain ⟨wd207, hx208, hw⟩ := x_put (P := Try.prog) (ty := 0) (t := 26) (x := (Operand.tmp 19)) (y := (Operand.tmp 107)) (off := 0) (p := ad203) (v := .agg (eSapi_Regs.enc t199).toArray) (vs := (eSapi_Regs.enc t199)) (i := 0) (e' := ((t199 : Sapi_Regs) : Sapi_Regs)) hs hw rfl (one_ok (⟨(Vector.replicate 16 0), 0, false, false, false, false⟩ : Sapi_Regs)).1 (one_ok (⟨(Vector.replicate 16 0), 0, false, false, false, false⟩ : Sapi_Regs)).2 (by kernel_rfl) (one_at _ _) (by kernel_rfl) rfl (by kernel_rfl) (Nat.le_of_ble_eq_true rfl) (eSapi_Regs.one _) (by kernel_rfl)
     refine go_unit hs (by rfl) hx208 [107] ?_; clear hs; intro a hs
     replace hw : St [] w0 wd207 [own 26 eSapi_Regs (some ad203) 1 [(t199 : Sapi_Regs)], mSmachine_Machine (some ⟨g136, 0, none⟩) t190, own 26 eSapi_Regs (some ad165) 1 [({ ({ ({ (⟨(Vector.replicate 16 0), 0, false, false, false, false⟩ : Sapi_Regs) with R := vset (Vector.replicate 16 0) 1 a0 } : Sapi_Regs) with R := vset (vset (Vector.replicate 16 0) 1 a0) 2 (wu32 (w64 (y12 - ((w64 a2).tmod 64)))) } : Sapi_Regs) with R := vset (vset (vset (Vector.replicate 16 0) 1 a0) 2 (wu32 (w64 (y12 - ((w64 a2).tmod 64))))) 4 (wu32 (w64 (y10 - ((w64 a2).tmod 64)))) } : Sapi_Regs)], own 63 eA63 (some ad20) 1 [(#v[v115, v116, v117, v118] : Vector Sapi_Instr 4)], own 23 (eI .u32) Aa120 cc121 l119] := hw
     refine go_end (hK197 _ _ ?_)
     refine go_seq_k fun K209 hK209 => ?_
     have hJ9 : ∀ (v225 : Smachine_Machine) (a : Act) (w : World), Slots a 159 [(0, .int .u32 a0), (16, .pointer (some (⟨g136, 0, none⟩ : Addr))), (19, .pointer (some ad203))] → St [] w0 w [own 26 eSapi_Regs (some ad203) 1 [(t199 : Sapi_Regs)], mSmachine_Machine (some ⟨g136, 0, none⟩) v225, own 26 eSapi_Regs (some ad165) 1 [({ ({ ({ (⟨(Vector.replicate 16 0), 0, false, false, false, false⟩ : Sapi_Regs) with R := vset (Vector.replicate 16 0) 1 a0 } : Sapi_Regs) with R := vset (vset (Vector.replicate 16 0) 1 a0) 2 (wu32 (w64 (y12 - ((w64 a2).tmod 64)))) } : Sapi_Regs) with R := vset (vset (vset (Vector.replicate 16 0) 1 a0) 2 (wu32 (w64 (y12 - ((w64 a2).tmod 64))))) 4 (wu32 (w64 (y10 - ((w64 a2).tmod 64)))) } : Sapi_Regs)], own 63 eA63 (some ad20) 1 [(#v[v115, v116, v117, v118] : Vector Sapi_Instr 4)], own 23 (eI .u32) Aa120 cc121 l119] → rivetlaw06_MachineMoves.j9 a0 v225 = some r → K209 a w := by
      intro v225 a w hs hw H
      unfold rivetlaw06_MachineMoves.j9 at H
      refine hK209 _ _ ?_
      refine go_sk fun K226 hK226 => ?_
      refine go_pvs 1 [] [(133, .pointer (some (⟨g136, 0, none⟩ : Addr)))] hs ?_; clear hs; intro a hs
      obtain ⟨t228, hx229, H⟩ := bind_some H
      refine go_call hs (by rfl) (machine_Machine_Regs.calls (some ⟨g136, 0, none⟩) v225 t228 _ (rSmachine_Machine.of_m (hw.up 1)) hx229) ?_
      rintro e wd230 ⟨rfl, hw231⟩
      refine ⟨_, rfl, ?_⟩
      replace hw := hw.call hw231
      clear hs; intro a hs; replace hs := hs.rms [133]
      obtain ⟨wd232, hx233, hw⟩ := x_put (P := Try.prog) (ty := 0) (t := 26) (x := (Operand.tmp 19)) (y := (Operand.tmp 134)) (off := 0) (p := ad203) (v := .agg (eSapi_Regs.enc t228).toArray) (vs := (eSapi_Regs.enc t228)) (i := 0) (e' := ((t228 : Sapi_Regs) : Sapi_Regs)) hs hw rfl (one_ok (t199 : Sapi_Regs)).1 (one_ok (t199 : Sapi_Regs)).2 (by kernel_rfl) (one_at _ _) (by kernel_rfl) rfl (by kernel_rfl) (Nat.le_of_ble_eq_true rfl) (eSapi_Regs.one _) (by kernel_rfl)
      refine go_unit hs (by rfl) hx233 [134] ?_; clear hs; intro a hs
      replace hw : St [] w0 wd232 [own 26 eSapi_Regs (some ad203) 1 [(t228 : Sapi_Regs)], mSmachine_Machine (some ⟨g136, 0, none⟩) v225, own 26 eSapi_Regs (some ad165) 1 [({ ({ ({ (⟨(Vector.replicate 16 0), 0, false, false, false, false⟩ : Sapi_Regs) with R := vset (Vector.replicate 16 0) 1 a0 } : Sapi_Regs) with R := vset (vset (Vector.replicate 16 0) 1 a0) 2 (wu32 (w64 (y12 - ((w64 a2).tmod 64)))) } : Sapi_Regs) with R := vset (vset (vset (Vector.replicate 16 0) 1 a0) 2 (wu32 (w64 (y12 - ((w64 a2).tmod 64))))) 4 (wu32 (w64 (y10 - ((w64 a2).tmod 64)))) } : Sapi_Regs)], own 63 eA63 (some ad20) 1 [(#v[v115, v116, v117, v118] : Vector Sapi_Instr 4)], own 23 (eI .u32) Aa120 cc121 l119] := hw
      refine go_end (hK226 _ _ ?_)
      refine go_seq_k fun K234 hK234 => ?_
      have hJ10 : ∀ (v243 : Bool) (a : Act) (w : World), Slots a 159 [(6, .bool v243)] → St [] w0 w [own 26 eSapi_Regs (some ad203) 1 [(t228 : Sapi_Regs)], mSmachine_Machine (some ⟨g136, 0, none⟩) v225, own 26 eSapi_Regs (some ad165) 1 [({ ({ ({ (⟨(Vector.replicate 16 0), 0, false, false, false, false⟩ : Sapi_Regs) with R := vset (Vector.replicate 16 0) 1 a0 } : Sapi_Regs) with R := vset (vset (Vector.replicate 16 0) 1 a0) 2 (wu32 (w64 (y12 - ((w64 a2).tmod 64)))) } : Sapi_Regs) with R := vset (vset (vset (Vector.replicate 16 0) 1 a0) 2 (wu32 (w64 (y12 - ((w64 a2).tmod 64))))) 4 (wu32 (w64 (y10 - ((w64 a2).tmod 64)))) } : Sapi_Regs)], own 63 eA63 (some ad20) 1 [(#v[v115, v116, v117, v118] : Vector Sapi_Instr 4)], own 23 (eI .u32) Aa120 cc121 l119] → rivetlaw06_MachineMoves.j10 v243 = some r → K234 a w := by
       intro v243 a w hs hw H
       unfold rivetlaw06_MachineMoves.j10 at H
       refine hK234 _ _ ?_
       refine wp_ret ?_
       obtain rfl := Option.some.inj H
       refine ret1 (t := 6) (v := .bool v243) hs (by kernel_rfl) (by kernel_rfl) ?_
       exact ⟨rfl, hw.only 0⟩
      refine go_region ?_
      refine go_pvs 1 [] [(135, .pointer (some ((ad203 : Addr).add 0)))] hs ?_; clear hs; intro a hs
      refine go_run hs (by rfl) (x_vidx (e := 23) (p := (ad203 : Addr).add 0) (n := 16) (k := .i64) (i := 5) (sz := 1) (⟨by decide, by decide⟩ : (0 : Int) ≤ 5 ∧ (5 : Int) < ((16 : Nat) : Int))) [135] ?_; clear hs; intro a hs
      refine go_run hs (by rfl) (x_ld (off := 5) (p := ((ad203 : Addr).add 0 : Addr).add ((5 : Int).toNat * 1)) (v := .int .u32 (vx 0 ((t228 : Sapi_Regs).R) 5)) (Rd.of_own (hw.up 0)) (one_ok (t228 : Sapi_Regs)) (by simp only [add_add', Int.toNat_zero, Nat.zero_mul, Nat.zero_add, Nat.mul_one] <;> rfl)) [136] ?_; clear hs; intro a hs
      refine go_pvs 7 [137] [(141, .bool ((vx 0 ((t228 : Sapi_Regs).R) 5) == (band .u32 a0 255)))] hs ?_; clear hs; intro a hs
      cases hb235 : ((vx 0 ((t228 : Sapi_Regs).R) 5) == (band .u32 a0 255))
      ·replace H := ite_f H (beq_eq_false_iff_ne.1 hb235)
       rw [hb235] at hs
       refine go_pvs 25 [0, 16, 19, 141] [(6, .bool false)] hs ?_; clear hs; intro a hs
       refine go_end ?_
       replace hw := hw.up 4
       replace hw := hw.up 4
       replace hw := hw.up 4
       replace hw := hw.up 4
       replace hw := hw.up 4
       exact hJ10 false _ _ hs.kx hw H
      ·replace H := ite_t H (beq_iff_eq.1 hb235)
       rw [hb235] at hs
       refine go_pvs 8 [] [(142, .pointer (some ((ad203 : Addr).add 17)))] hs ?_; clear hs; intro a hs
       refine go_run hs (by rfl) (x_ld (off := 17) (p := (ad203 : Addr).add 17) (v := .bool ((t228 : Sapi_Regs).N)) (Rd.of_own (hw.up 0)) (one_ok (t228 : Sapi_Regs)) (one_off _ _ _)) [142] ?_; clear hs; intro a hs
       refine go_pvs 12 [141, 143] [(146, .bool (!((t228 : Sapi_Regs).N)))] hs ?_; clear hs; intro a hs
       cases hb236 : (!((t228 : Sapi_Regs).N))
       ·replace H := ite_t H (nf hb236)
        rw [hb236] at hs
        refine go_pvs 25 [0, 16, 19, 146] [(6, .bool false)] hs ?_; clear hs; intro a hs
        refine go_end ?_
        replace hw := hw.up 4
        replace hw := hw.up 4
        replace hw := hw.up 4
        replace hw := hw.up 4
        replace hw := hw.up 4
        exact hJ10 false _ _ hs.kx hw H
       ·replace H := ite_f H (ff (nt hb236))
        rw [hb236] at hs
        refine go_pvs 13 [19] [(147, .pointer (some ((ad203 : Addr).add 18)))] hs ?_; clear hs; intro a hs
        refine go_run hs (by rfl) (x_ld (off := 18) (p := (ad203 : Addr).add 18) (v := .bool ((t228 : Sapi_Regs).Z)) (Rd.of_own (hw.up 0)) (one_ok (t228 : Sapi_Regs)) (one_off _ _ _)) [147] ?_; clear hs; intro a hs
        refine go_pvs 20 [0, 146, 148] [(154, .bool (((t228 : Sapi_Regs).Z) == ((band .u32 a0 255) == 0)))] hs ?_; clear hs; intro a hs
        cases hb237 : (((t228 : Sapi_Regs).Z) == ((band .u32 a0 255) == 0))
        ·replace H := ite_f H (ff hb237)
         rw [hb237] at hs
         refine go_pvs 25 [16, 154] [(6, .bool false)] hs ?_; clear hs; intro a hs
         refine go_end ?_
         replace hw := hw.up 4
         replace hw := hw.up 4
         replace hw := hw.up 4
         replace hw := hw.up 4
         replace hw := hw.up 4
         exact hJ10 false _ _ hs.kx hw H
        ·replace H := ite_t H hb237
         rw [hb237] at hs
         refine go_pvs 21 [16] [(155, .pointer (some (⟨g136, 0, none⟩ : Addr)))] hs ?_; clear hs; intro a hs
         obtain ⟨t239, hx240, H⟩ := bind_some H
         refine go_call hs (by rfl) (machine_Machine_PC.calls (some ⟨g136, 0, none⟩) v225 t239 _ (rSmachine_Machine.of_m (hw.up 1)) hx240) ?_
         rintro e wd241 ⟨rfl, hw242⟩
         refine ⟨_, rfl, ?_⟩
         replace hw := hw.call hw242
         clear hs; intro a hs; replace hs := hs.rms [155]
         refine go_pvs 25 [154, 156] [(6, .bool (t239 == 16))] hs ?_; clear hs; intro a hs
         refine go_end ?_
         replace hw := hw.up 4
         replace hw := hw.up 4
         replace hw := hw.up 4
         replace hw := hw.up 4
         replace hw := hw.up 4
         exact hJ10 (t239 == 16) _ _ hs.kx hw H
     refine go_seq_k fun K210 hK210 => ?_
     have hJ8 : ∀ (v220 : Smachine_Machine) (v221 : Bool) (a : Act) (w : World), Slots a 159 [(0, .int .u32 a0), (16, .pointer (some (⟨g136, 0, none⟩ : Addr))), (19, .pointer (some ad203)), (132, .bool v221)] → St [] w0 w [own 26 eSapi_Regs (some ad203) 1 [(t199 : Sapi_Regs)], mSmachine_Machine (some ⟨g136, 0, none⟩) v220, own 26 eSapi_Regs (some ad165) 1 [({ ({ ({ (⟨(Vector.replicate 16 0), 0, false, false, false, false⟩ : Sapi_Regs) with R := vset (Vector.replicate 16 0) 1 a0 } : Sapi_Regs) with R := vset (vset (Vector.replicate 16 0) 1 a0) 2 (wu32 (w64 (y12 - ((w64 a2).tmod 64)))) } : Sapi_Regs) with R := vset (vset (vset (Vector.replicate 16 0) 1 a0) 2 (wu32 (w64 (y12 - ((w64 a2).tmod 64))))) 4 (wu32 (w64 (y10 - ((w64 a2).tmod 64)))) } : Sapi_Regs)], own 63 eA63 (some ad20) 1 [(#v[v115, v116, v117, v118] : Vector Sapi_Instr 4)], own 23 (eI .u32) Aa120 cc121 l119] → rivetlaw06_MachineMoves.j8 a0 v220 v221 = some r → K210 a w := by
      intro v220 v221 a w hs hw H
      unfold rivetlaw06_MachineMoves.j8 at H
      refine hK210 _ _ ?_
      refine go_cond hs v221 (fun hc => ?_) fun hc => ?_
      ·replace H := ite_t H hc
       have hb222 := hc
       rw [hb222] at hs
       refine go_sp [0, 16, 19, 132] [(6, .bool false)] hs ?_; clear hs; intro a hs
       refine wp_ret ?_
       refine th_ret ?_
       obtain rfl := Option.some.inj H
       refine ret1 (t := 6) (v := .bool false) hs (by kernel_rfl) (by kernel_rfl) ?_
       exact ⟨rfl, hw.only 0⟩
      ·replace H := ite_f H (ff hc)
       have hb224 := hc
       rw [hb224] at hs
       refine wp_skip ?_
       replace hw := hw.up 4
       replace hw := hw.up 4
       replace hw := hw.up 4
       replace hw := hw.up 4
       replace hw := hw.up 4
       exact hJ9 v220 _ _ hs.kx hw H
     refine go_region ?_
     refine go_pvs 1 [] [(108, .pointer (some ((ad203 : Addr).add 0)))] hs ?_; clear hs; intro a hs
     refine go_run hs (by rfl) (x_vidx (e := 23) (p := (ad203 : Addr).add 0) (n := 16) (k := .i64) (i := 3) (sz := 1) (⟨by decide, by decide⟩ : (0 : Int) ≤ 3 ∧ (3 : Int) < ((16 : Nat) : Int))) [108] ?_; clear hs; intro a hs
     refine go_run hs (by rfl) (x_ld (off := 3) (p := ((ad203 : Addr).add 0 : Addr).add ((3 : Int).toNat * 1)) (v := .int .u32 (vx 0 ((t199 : Sapi_Regs).R) 3)) (Rd.of_own (hw.up 0)) (one_ok (t199 : Sapi_Regs)) (by simp only [add_add', Int.toNat_zero, Nat.zero_mul, Nat.zero_add, Nat.mul_one] <;> rfl)) [109] ?_; clear hs; intro a hs
     replace hs : Slots a 159 [(0, .int .u32 a0), (16, .pointer (some (⟨g136, 0, none⟩ : Addr))), (19, .pointer (some ad203)), (110, .int .u32 (vx 0 ((t199 : Sapi_Regs).R) 3))] := hs.kx
     refine go_pvs 6 [110] [(113, .bool ((vx 0 ((t199 : Sapi_Regs).R) 3) != a0))] hs ?_; clear hs; intro a hs
     cases hb211 : ((vx 0 ((t199 : Sapi_Regs).R) 3) != a0)
     ·replace H := ite_t H (bne_eq_false_iff_eq.1 hb211)
      rw [hb211] at hs
      refine go_pvs 7 [] [(114, .pointer (some ((ad203 : Addr).add 17)))] hs ?_; clear hs; intro a hs
      refine go_run hs (by rfl) (x_ld (off := 17) (p := (ad203 : Addr).add 17) (v := .bool ((t199 : Sapi_Regs).N)) (Rd.of_own (hw.up 0)) (one_ok (t199 : Sapi_Regs)) (one_off _ _ _)) [114] ?_; clear hs; intro a hs
      refine go_pvs 14 [113, 115] [(121, .bool (((t199 : Sapi_Regs).N) != ((a0.fdiv (2 ^ 31)) == 1)))] hs ?_; clear hs; intro a hs
      cases hb212 : (((t199 : Sapi_Regs).N) != ((a0.fdiv (2 ^ 31)) == 1))
      ·replace H := ite_f H (ff hb212)
       rw [hb212] at hs
       refine go_pvs 15 [] [(122, .pointer (some ((ad203 : Addr).add 18)))] hs ?_; clear hs; intro a hs
       refine go_run hs (by rfl) (x_ld (off := 18) (p := (ad203 : Addr).add 18) (v := .bool ((t199 : Sapi_Regs).Z)) (Rd.of_own (hw.up 0)) (one_ok (t199 : Sapi_Regs)) (one_off _ _ _)) [122] ?_; clear hs; intro a hs
       refine go_pvs 21 [121, 123] [(128, .bool (((t199 : Sapi_Regs).Z) != (a0 == 0)))] hs ?_; clear hs; intro a hs
       cases hb213 : (((t199 : Sapi_Regs).Z) != (a0 == 0))
       ·replace H := ite_f H (ff hb213)
        rw [hb213] at hs
        refine go_pvs 22 [] [(129, .pointer (some (⟨g136, 0, none⟩ : Addr)))] hs ?_; clear hs; intro a hs
        replace hw := hw.up 1
        obtain ⟨ks214, hgks214, hstks214, hbkks214⟩ := hw.lend 1
        obtain ⟨⟨t215, t216⟩, hx217, H⟩ := bind_some H
        refine go_call hs (by rfl) (machine_Machine_Run.calls ks214 (some ⟨g136, 0, none⟩) t190 2 (t215, t216) _ hgks214 hx217) ?_
        rintro e wd218 ⟨rfl, hw219⟩
        refine ⟨_, rfl, ?_⟩
        replace hw := hbkks214 _ _ hw219
        replace hw : St [] w0 wd218 [mSmachine_Machine (some ⟨g136, 0, none⟩) t216, own 26 eSapi_Regs (some ad203) 1 [(t199 : Sapi_Regs)], own 26 eSapi_Regs (some ad165) 1 [({ ({ ({ (⟨(Vector.replicate 16 0), 0, false, false, false, false⟩ : Sapi_Regs) with R := vset (Vector.replicate 16 0) 1 a0 } : Sapi_Regs) with R := vset (vset (Vector.replicate 16 0) 1 a0) 2 (wu32 (w64 (y12 - ((w64 a2).tmod 64)))) } : Sapi_Regs) with R := vset (vset (vset (Vector.replicate 16 0) 1 a0) 2 (wu32 (w64 (y12 - ((w64 a2).tmod 64))))) 4 (wu32 (w64 (y10 - ((w64 a2).tmod 64)))) } : Sapi_Regs)], own 63 eA63 (some ad20) 1 [(#v[v115, v116, v117, v118] : Vector Sapi_Instr 4)], own 23 (eI .u32) Aa120 cc121 l119] := hw
        clear hs; intro a hs; replace hs := hs.rms [129]
        refine go_pvs 25 [128, 130] [(132, .bool (t215 != 0))] hs ?_; clear hs; intro a hs
        refine go_end ?_
        replace hw := hw.up 4
        replace hw := hw.up 4
        replace hw := hw.up 4
        replace hw := hw.up 3
        replace hw := hw.up 4
        exact hJ8 t216 (t215 != 0) _ _ hs.kx hw H
       ·replace H := ite_t H hb213
        rw [hb213] at hs
        refine go_pvs 25 [128] [(132, .bool true)] hs ?_; clear hs; intro a hs
        refine go_end ?_
        replace hw := hw.up 4
        replace hw := hw.up 4
        replace hw := hw.up 4
        replace hw := hw.up 4
        replace hw := hw.up 4
        exact hJ8 t190 true _ _ hs.kx hw H
      ·replace H := ite_t H hb212
       rw [hb212] at hs
       refine go_pvs 25 [121] [(132, .bool true)] hs ?_; clear hs; intro a hs
       refine go_end ?_
       replace hw := hw.up 4
       replace hw := hw.up 4
       replace hw := hw.up 4
       replace hw := hw.up 4
       replace hw := hw.up 4
       exact hJ8 t190 true _ _ hs.kx hw H
     ·replace H := ite_f H (bne_iff_ne.1 hb211)
      rw [hb211] at hs
      refine go_pvs 25 [113] [(132, .bool true)] hs ?_; clear hs; intro a hs
      refine go_end ?_
      replace hw := hw.up 4
      replace hw := hw.up 4
      replace hw := hw.up 4
      replace hw := hw.up 4
      replace hw := hw.up 4
      exact hJ8 t190 true _ _ hs.kx hw H
   refine go_seq_k fun K138 hK138 => ?_
   have hJ6 : ∀ (v158 : Smachine_Machine) (v159 : Bool) (a : Act) (w : World), Slots a 159 [(0, .int .u32 a0), (8, .int .i64 ((w64 a2).tmod 64)), (9, .int .i64 y10), (10, .int .i64 y12), (16, .pointer (some (⟨g136, 0, none⟩ : Addr))), (83, .bool v159)] → St [] w0 w [mSmachine_Machine (some ⟨g136, 0, none⟩) v158, own 63 eA63 (some ad20) 1 [(#v[v115, v116, v117, v118] : Vector Sapi_Instr 4)], own 23 (eI .u32) Aa120 cc121 l119] → rivetlaw06_MachineMoves.j6 a0 y12 a2 y10 v158 v159 = some r → K138 a w := by
    intro v158 v159 a w hs hw H
    unfold rivetlaw06_MachineMoves.j6 at H
    refine hK138 _ _ ?_
    refine go_cond hs v159 (fun hc => ?_) fun hc => ?_
    ·replace H := ite_t H hc
     have hb160 := hc
     rw [hb160] at hs
     refine go_sp [0, 8, 9, 10, 16, 83] [(6, .bool false)] hs ?_; clear hs; intro a hs
     refine wp_ret ?_
     refine th_ret ?_
     obtain rfl := Option.some.inj H
     refine ret1 (t := 6) (v := .bool false) hs (by kernel_rfl) (by kernel_rfl) ?_
     exact ⟨rfl, hw.only 0⟩
    ·replace H := ite_f H (ff hc)
     have hb162 := hc
     rw [hb162] at hs
     refine wp_skip ?_
     replace hw := hw.up 2
     replace hw := hw.up 2
     replace hw := hw.up 2
     exact hJ7 v158 _ _ hs.kx hw H
   refine go_region ?_
   refine go_pvs 3 [7] [(67, .bool (!t4))] hs ?_; clear hs; intro a hs
   cases hb139 : (!t4)
   ·replace H := ite_t H (nf hb139)
    rw [hb139] at hs
    refine go_pvs 11 [17, 67] [(75, .bool (t125 != 0))] hs ?_; clear hs; intro a hs
    cases hb140 : (t125 != 0)
    ·replace H := ite_t H (bne_eq_false_iff_eq.1 hb140)
     rw [hb140] at hs
     refine go_pvs 14 [] [(78, .pointer (some (⟨g136, 0, none⟩ : Addr)))] hs ?_; clear hs; intro a hs
     obtain ⟨Aa141, Aa143, cc144, Aa146, cc147, hw⟩ := mSmachine_Machine.open1 hw
     replace hw : St [] w0 _ [box g136 40 ([.pointer Aa141] ++ eSapi_Regs.enc x131.s ++ [.int .u32 x131.pc, .int .i64 x131.status, .slice Aa143 x131.in'.length cc144, .slice Aa146 x131.out.length cc147]), oM mSmemory_Memory Aa141 x131.Memory, rdo (eI .u32) Aa143 cc144 x131.in', own 23 (eI .u32) Aa146 cc147 x131.out, own 63 eA63 (some ad20) 1 [(#v[v115, v116, v117, v118] : Vector Sapi_Instr 4)], own 23 (eI .u32) Aa120 cc121 l119] := hw
     replace hw := hw.up 1
     obtain ⟨y149, hy150, H⟩ := bind_some H
     replace hw := St.oM_some hw hy150
     obtain ⟨g151, hAg, hwg⟩ := St.one hw
     clear hw; subst hAg; have hw := hwg; clear hwg
     replace hw : St [] w0 _ [own 75 eSmemory_Memory (some (⟨g151, 0, none⟩ : Addr)) 1 [y149], box g136 40 ([.pointer (some (⟨g151, 0, none⟩ : Addr))] ++ eSapi_Regs.enc x131.s ++ [.int .u32 x131.pc, .int .i64 x131.status, .slice Aa143 x131.in'.length cc144, .slice Aa146 x131.out.length cc147]), rdo (eI .u32) Aa143 cc144 x131.in', own 23 (eI .u32) Aa146 cc147 x131.out, own 63 eA63 (some ad20) 1 [(#v[v115, v116, v117, v118] : Vector Sapi_Instr 4)], own 23 (eI .u32) Aa120 cc121 l119] := hw
     refine go_run hs (by rfl) (x_bld (g := g136) (o := 0) (p := (⟨g136, 0, none⟩ : Addr)) (v := .pointer (some (⟨g151, 0, none⟩ : Addr))) (hw.up 1)) [78] ?_; clear hs; intro a hs
     refine go_pvs 16 [11] [(80, .slice Aa120 l119.length cc121)] hs ?_; clear hs; intro a hs
     obtain ⟨ks152, hgks152, hstks152, hbkks152⟩ := hw.lend 1
     obtain ⟨⟨t153, t154⟩, hx155, H⟩ := bind_some H
     refine go_call hs (by rfl) (memory_Memory_Place.calls ks152 (some (⟨g151, 0, none⟩ : Addr)) y149 0 Aa120 cc121 l119 (t153, t154) _ hgks152 (fun wz hkz => (Rd.of_own ((hstks152 _ hkz).up 4))) hx155) ?_
     rintro e wd156 ⟨rfl, hw157⟩
     refine ⟨_, rfl, ?_⟩
     replace hw := hbkks152 _ _ hw157
     replace hw : St [] w0 _ [own 75 eSmemory_Memory (some (⟨g151, 0, none⟩ : Addr)) 1 [t154], box g136 40 ([.pointer (some (⟨g151, 0, none⟩ : Addr))] ++ eSapi_Regs.enc x131.s ++ [.int .u32 x131.pc, .int .i64 x131.status, .slice Aa143 x131.in'.length cc144, .slice Aa146 x131.out.length cc147]), rdo (eI .u32) Aa143 cc144 x131.in', own 23 (eI .u32) Aa146 cc147 x131.out, own 63 eA63 (some ad20) 1 [(#v[v115, v116, v117, v118] : Vector Sapi_Instr 4)], own 23 (eI .u32) Aa120 cc121 l119] := hw
     clear hs; intro a hs; replace hs := hs.rms [79, 80]
     refine go_pvs 19 [75, 81] [(83, .bool (t153 != 0))] hs ?_; clear hs; intro a hs
     refine go_end ?_
     replace hw := St.oM_of (m := mSmemory_Memory) (A := (some (⟨g151, 0, none⟩ : Addr))) (x := t154) hw
     replace hw := hw.up 3
     replace hw := hw.up 3
     replace hw := hw.up 2
     replace hw := hw.up 3
     replace hw := mSmachine_Machine.close (x := (⟨(some t154), x131.s, x131.pc, x131.status, x131.in', x131.out⟩ : Smachine_Machine)) hw
     replace hw := hw.up 2
     replace hw := hw.up 2
     replace hw := hw.up 2
     exact hJ6 (⟨(some t154), x131.s, x131.pc, x131.status, x131.in', x131.out⟩ : Smachine_Machine) (t153 != 0) _ _ hs.kx hw H
    ·replace H := ite_f H (bne_iff_ne.1 hb140)
     rw [hb140] at hs
     refine go_pvs 19 [11, 75] [(83, .bool true)] hs ?_; clear hs; intro a hs
     refine go_end ?_
     replace hw := hw.up 2
     replace hw := hw.up 2
     replace hw := hw.up 2
     exact hJ6 x131 true _ _ hs.kx hw H
   ·replace H := ite_f H (ff (nt hb139))
    rw [hb139] at hs
    refine go_pvs 19 [11, 17, 67] [(83, .bool true)] hs ?_; clear hs; intro a hs
    refine go_end ?_
    replace hw := hw.up 2
    replace hw := hw.up 2
    replace hw := hw.up 2
    exact hJ6 x131 true _ _ hs.kx hw H
 clear H
 refine go_loop (σ := Sapi_Instr × Sapi_Instr × Sapi_Instr × Sapi_Instr × (List Int) × Int) (fun σ a w => ∃ Aa34, ∃ cc35, Slots a 159 [(0, .int .u32 a0), (7, .bool t4), (8, .int .i64 ((w64 a2).tmod 64)), (9, .int .i64 y10), (10, .int .i64 y12), (11, .slice Aa34 σ.2.2.2.2.1.length cc35), (12, .pointer (some ad20)), (13, .int .i64 σ.2.2.2.2.2)] ∧ St [] w0 w [own 63 eA63 (some ad20) 1 [(#v[σ.1, σ.2.1, σ.2.2.1, σ.2.2.2.1] : Vector Sapi_Instr 4)], own 23 (eI .u32) Aa34 cc35 σ.2.2.2.2.1]) hl28 (by exact ⟨Aa14, cc15, hs.kx, hw⟩) ?_
 rintro ⟨v29, v30, v31, v32, l33, v36⟩ a w ⟨Aa34, cc35, hs, hw⟩ o H hr28
 replace hs : Slots a 159 [(0, .int .u32 a0), (7, .bool t4), (8, .int .i64 ((w64 a2).tmod 64)), (9, .int .i64 y10), (10, .int .i64 y12), (11, .slice Aa34 l33.length cc35), (12, .pointer (some ad20)), (13, .int .i64 v36)] := hs
 replace hw : St [] w0 w [own 63 eA63 (some ad20) 1 [(#v[v29, v30, v31, v32] : Vector Sapi_Instr 4)], own 23 (eI .u32) Aa34 cc35 l33] := hw
 replace H : rivetlaw06_MachineMoves.b28 v29 v30 v31 v32 l33 v36 = some o := H
 unfold rivetlaw06_MachineMoves.b28 at H
 refine go_seq_k fun K37 hK37 => ?_
 refine go_sp [] [(42, .bool (decide (v36 < 4)))] hs ?_; clear hs; intro a hs
 refine go_cond hs (decide (v36 < 4)) (fun hc => ?_) fun hc => ?_
 ·replace H := ite_t H (of_decide_eq_true hc)
  have hb39 := hc
  rw [hb39] at hs
  refine wp_skip ?_
  refine hK37 _ _ ?_
  refine go_seq_k fun K40 hK40 => ?_
  have hJ3 : ∀ (v107 : Sapi_Instr) (v108 : Sapi_Instr) (v109 : Sapi_Instr) (v110 : Sapi_Instr) (Aa112 : Option Addr) (cc113 : Nat) (l111 : List Int) (a : Act) (w : World), Slots a 159 [(0, .int .u32 a0), (7, .bool t4), (8, .int .i64 ((w64 a2).tmod 64)), (9, .int .i64 y10), (10, .int .i64 y12), (11, .slice Aa112 l111.length cc113), (12, .pointer (some ad20)), (13, .int .i64 v36)] → St [] w0 w [own 63 eA63 (some ad20) 1 [(#v[v107, v108, v109, v110] : Vector Sapi_Instr 4)], own 23 (eI .u32) Aa112 cc113 l111] → rivetlaw06_MachineMoves.j3 v36 v107 v108 v109 v110 l111 = some o → K40 a w := by
   intro v107 v108 v109 v110 Aa112 cc113 l111 a w hs hw H
   unfold rivetlaw06_MachineMoves.j3 at H
   refine hK40 _ _ ?_
   refine go_plain [] [(13, .int .i64 (w64 (v36 + 1)))] hs ?_; clear hs; intro a hs
   replace hw := hw.up 1
   replace hw := hw.up 1
   exact round_end (vx (⟨0, 0, 0, 0, 0, 0, false⟩ : Sapi_Instr) (#v[v107, v108, v109, v110] : Vector Sapi_Instr 4) 0, vx (⟨0, 0, 0, 0, 0, 0, false⟩ : Sapi_Instr) (#v[v107, v108, v109, v110] : Vector Sapi_Instr 4) 1, vx (⟨0, 0, 0, 0, 0, 0, false⟩ : Sapi_Instr) (#v[v107, v108, v109, v110] : Vector Sapi_Instr 4) 2, vx (⟨0, 0, 0, 0, 0, 0, false⟩ : Sapi_Instr) (#v[v107, v108, v109, v110] : Vector Sapi_Instr 4) 3, l111, w64 (v36 + 1)) (Option.some.inj H).symm ⟨Aa112, cc113, hs.kx, hw⟩
  refine wp_block ?_
  refine go_seq_k fun K41 hK41 => ?_
  have hJ1 : ∀ (v55 : Sapi_Instr) (v56 : Sapi_Instr) (v57 : Sapi_Instr) (v58 : Sapi_Instr) (a : Act) (w : World), Slots a 159 [(0, .int .u32 a0), (7, .bool t4), (8, .int .i64 ((w64 a2).tmod 64)), (9, .int .i64 y10), (10, .int .i64 y12), (11, .slice Aa34 l33.length cc35), (12, .pointer (some ad20)), (13, .int .i64 v36)] → St [] w0 w [own 63 eA63 (some ad20) 1 [(#v[v55, v56, v57, v58] : Vector Sapi_Instr 4)], own 23 (eI .u32) Aa34 cc35 l33] → rivetlaw06_MachineMoves.j1 v36 l33 v55 v56 v57 v58 = some o → K41 a w := by
   intro v55 v56 v57 v58 a w hs hw H
   unfold rivetlaw06_MachineMoves.j1 at H
   refine hK41 _ _ ?_
   refine go_seq_k fun K59 hK59 => ?_
   have hJ2 : ∀ (v89 : Int) (v90 : Int) (a : Act) (w : World), Slots a 159 [(0, .int .u32 a0), (7, .bool t4), (8, .int .i64 ((w64 a2).tmod 64)), (9, .int .i64 y10), (10, .int .i64 y12), (11, .slice Aa34 l33.length cc35), (12, .pointer (some ad20)), (13, .int .i64 v36), (14, .int .u32 v89), (15, .int .i64 v90)] → St [] w0 w [own 63 eA63 (some ad20) 1 [(#v[v55, v56, v57, v58] : Vector Sapi_Instr 4)], own 23 (eI .u32) Aa34 cc35 l33] → rivetlaw06_MachineMoves.j2 l33 v36 v55 v56 v57 v58 v89 v90 = some o → K59 a w := by
    intro v89 v90 a w hs hw H
    unfold rivetlaw06_MachineMoves.j2 at H
    refine hK59 _ _ ?_
    refine go_seq_k fun K91 hK91 => ?_
    refine go_sp [15] [(56, .bool (v90 != 0))] hs ?_; clear hs; intro a hs
    refine go_cond hs (v90 != 0) (fun hc => ?_) fun hc => ?_
    ·replace H := ite_f H (bne_iff_ne.1 hc)
     have hb93 := hc
     rw [hb93] at hs
     refine go_sp [0, 7, 8, 9, 10, 11, 12, 13, 14, 56] [(6, .bool false)] hs ?_; clear hs; intro a hs
     refine wp_ret ?_
     refine th_ret ?_
     refine ib_ret ?_
     refine th_ret ?_
     refine th_ret ?_
     refine ib_ret ?_
     refine th_ret ?_
     rw [← hr28 _ (Option.some.inj H).symm] at HX28
     replace H : some false = some r := HX28
     obtain rfl := Option.some.inj H
     refine ret1 (t := 6) (v := .bool false) hs (by kernel_rfl) (by kernel_rfl) ?_
     exact ⟨rfl, hw.only 0⟩
    ·replace H := ite_t H (bne_eq_false_iff_eq.1 hc)
     have hb95 := hc
     rw [hb95] at hs
     refine wp_skip ?_
     refine hK91 _ _ ?_
     refine go_region ?_
     refine go_pvs 2 [11, 14, 56] [(57, .slice Aa34 l33.length cc35), (58, .int .u32 v89)] hs ?_; clear hs; intro a hs
     obtain ⟨Aa96, cc97, wd98, hx99, hw⟩ := n_lit (P := Try.prog) (t := 22) (ty := 22) (T := 23) (len := 1) (parts := #[(0, (Operand.tmp 58))]) (z := .int .u32 0) (bytes := 4) (cells := #[.int .u32 v89]) hs hw (eI .u32) ([v89] : List Int) (by kernel_rfl) (by kernel_rfl) (by kernel_rfl) (by kernel_rfl) (by kernel_rfl) (by kernel_rfl) (by kernel_rfl)
     refine go_run hs (by rfl) hx99 [58] ?_; clear hs; intro a hs
     obtain ⟨hp101, H⟩ := ite_only H
     have hsrc106 : Src Try.prog (eI .u32).sz 22 (.slice Aa96 ([v89] : List Int).length cc97) ([v89] : List Int).length (([v89] : List Int).flatMap (eI .u32).enc) _ := (Src.of_rd (E := (eI .u32)) (e' := 23) (by kernel_rfl) (Rd.of_own (hw.up 0)))
     replace hw := hw.up 2
     obtain ⟨Aa102, cc103, wd104, hx105, hw⟩ := x_append (P := Try.prog) (t := 22) (tx := 22) (ty := 22) (x := (Operand.tmp 57)) (y := (Operand.tmp 59)) (z := .int .u32 0) (bytes := 4) (l2 := ([v89] : List Int)) hs hw (by kernel_rfl) (by kernel_rfl) (by kernel_rfl) (by kernel_rfl) (by kernel_rfl) hsrc106 (by omega) (by omega)
     refine go_run hs (by rfl) hx105 [57, 59] ?_; clear hs; intro a hs
     refine go_pvs 5 [60] [(11, .slice Aa102 (l33 ++ ([v89] : List Int)).length cc103)] hs ?_; clear hs; intro a hs
     refine go_end ?_
     refine ib_norm ?_
     replace hw := hw.up 2
     replace hw := hw.only 2
     exact hJ3 (vx (⟨0, 0, 0, 0, 0, 0, false⟩ : Sapi_Instr) (#v[v55, v56, v57, v58] : Vector Sapi_Instr 4) 0) (vx (⟨0, 0, 0, 0, 0, 0, false⟩ : Sapi_Instr) (#v[v55, v56, v57, v58] : Vector Sapi_Instr 4) 1) (vx (⟨0, 0, 0, 0, 0, 0, false⟩ : Sapi_Instr) (#v[v55, v56, v57, v58] : Vector Sapi_Instr 4) 2) (vx (⟨0, 0, 0, 0, 0, 0, false⟩ : Sapi_Instr) (#v[v55, v56, v57, v58] : Vector Sapi_Instr 4) 3) Aa102 cc103 (l33 ++ ([v89] : List Int)) _ _ hs.kx hw H
   refine go_region ?_
   refine go_pvs 1 [] [(49, .int .i64 v36)] hs ?_; clear hs; intro a hs
   obtain ⟨hp60, H⟩ := ite_only H
   replace hs : Slots a 159 [(0, .int .u32 a0), (7, .bool t4), (8, .int .i64 ((w64 a2).tmod 64)), (9, .int .i64 y10), (10, .int .i64 y12), (11, .slice Aa34 l33.length cc35), (12, .pointer (some ad20)), (13, .int .i64 v36), (49, .int .i64 v36)] := hs.kx
   by_cases hk61 : v36 = 0
   ·replace H := ite_t H hk61
    replace hs := (congrArg (fun z => Slots a 159 [(0, .int .u32 a0), (7, .bool t4), (8, .int .i64 ((w64 a2).tmod 64)), (9, .int .i64 y10), (10, .int .i64 y12), (11, .slice Aa34 l33.length cc35), (12, .pointer (some ad20)), (13, .int .i64 v36), (49, .int .i64 z)]) hk61).mp hs
    replace hs : Slots a 159 [(0, .int .u32 a0), (7, .bool t4), (8, .int .i64 ((w64 a2).tmod 64)), (9, .int .i64 y10), (10, .int .i64 y12), (11, .slice Aa34 l33.length cc35), (12, .pointer (some ad20)), (13, .int .i64 v36), (49, .int .i64 0)] := hs
    refine go_run hs (by rfl) (x_vidx (e := 45) (p := ad20) (n := 4) (k := .i64) (i := 0) (sz := 7) (⟨by decide, by decide⟩ : (0 : Int) ≤ 0 ∧ (0 : Int) < ((4 : Nat) : Int))) [49] ?_; clear hs; intro a hs
    refine go_run hs (by rfl) (x_lds (off := 0) (p := (ad20 : Addr).add ((0 : Int).toNat * 7)) (cs := (eSapi_Instr.enc (vx (⟨0, 0, 0, 0, 0, 0, false⟩ : Sapi_Instr) (#v[v55, v56, v57, v58] : Vector Sapi_Instr 4) 0))) (Rd.of_own (hw.up 0)) (one_ok (#v[(⟨0, 2, 1, 2, 0, (w64 a2).tmod 64, false⟩ : Sapi_Instr), (⟨0, 0, 3, 2, 0, (w64 a2).tmod 64, false⟩ : Sapi_Instr), (⟨0, 3, 1, 4, 0, (w64 a2).tmod 64, false⟩ : Sapi_Instr), (⟨0, 1, 5, 4, 0, (w64 a2).tmod 64, false⟩ : Sapi_Instr)] : Vector Sapi_Instr 4)) (by simp only [add_add', Int.toNat_zero, Nat.zero_mul, Nat.zero_add, Nat.mul_one] <;> rfl)) [50] ?_; clear hs; intro a hs
    obtain ⟨⟨t63, t64⟩, hx65, H⟩ := bind_some H
    refine go_call hs (by rfl) (isa_Encode.calls (vx (⟨0, 0, 0, 0, 0, 0, false⟩ : Sapi_Instr) (#v[v55, v56, v57, v58] : Vector Sapi_Instr 4) 0) (t63, t64) _ hx65) ?_
    rintro e wd66 ⟨rfl, hw67⟩
    refine ⟨_, rfl, ?_⟩
    replace hw := hw.call hw67
    clear hs; intro a hs; replace hs := hs.rms [51]
    refine go_pvs 9 [52] [(14, .int .u32 t63), (15, .int .i64 t64)] hs ?_; clear hs; intro a hs
    refine go_end ?_
    replace hw := hw.up 1
    replace hw := hw.up 1
    exact hJ2 t63 t64 _ _ hs.kx hw H
   ·replace H := ite_f H hk61
    replace hs : Slots a 159 [(0, .int .u32 a0), (7, .bool t4), (8, .int .i64 ((w64 a2).tmod 64)), (9, .int .i64 y10), (10, .int .i64 y12), (11, .slice Aa34 l33.length cc35), (12, .pointer (some ad20)), (13, .int .i64 v36), (49, .int .i64 v36)] := hs.kx
    by_cases hk68 : v36 = 1
    ·replace H := ite_t H hk68
     replace hs := (congrArg (fun z => Slots a 159 [(0, .int .u32 a0), (7, .bool t4), (8, .int .i64 ((w64 a2).tmod 64)), (9, .int .i64 y10), (10, .int .i64 y12), (11, .slice Aa34 l33.length cc35), (12, .pointer (some ad20)), (13, .int .i64 v36), (49, .int .i64 z)]) hk68).mp hs
     replace hs : Slots a 159 [(0, .int .u32 a0), (7, .bool t4), (8, .int .i64 ((w64 a2).tmod 64)), (9, .int .i64 y10), (10, .int .i64 y12), (11, .slice Aa34 l33.length cc35), (12, .pointer (some ad20)), (13, .int .i64 v36), (49, .int .i64 1)] := hs
     refine go_run hs (by rfl) (x_vidx (e := 45) (p := ad20) (n := 4) (k := .i64) (i := 1) (sz := 7) (⟨by decide, by decide⟩ : (0 : Int) ≤ 1 ∧ (1 : Int) < ((4 : Nat) : Int))) [49] ?_; clear hs; intro a hs
     refine go_run hs (by rfl) (x_lds (off := 7) (p := (ad20 : Addr).add ((1 : Int).toNat * 7)) (cs := (eSapi_Instr.enc (vx (⟨0, 0, 0, 0, 0, 0, false⟩ : Sapi_Instr) (#v[v55, v56, v57, v58] : Vector Sapi_Instr 4) 1))) (Rd.of_own (hw.up 0)) (one_ok (#v[(⟨0, 2, 1, 2, 0, (w64 a2).tmod 64, false⟩ : Sapi_Instr), (⟨0, 0, 3, 2, 0, (w64 a2).tmod 64, false⟩ : Sapi_Instr), (⟨0, 3, 1, 4, 0, (w64 a2).tmod 64, false⟩ : Sapi_Instr), (⟨0, 1, 5, 4, 0, (w64 a2).tmod 64, false⟩ : Sapi_Instr)] : Vector Sapi_Instr 4)) (by simp only [add_add', Int.toNat_zero, Nat.zero_mul, Nat.zero_add, Nat.mul_one] <;> rfl)) [50] ?_; clear hs; intro a hs
     obtain ⟨⟨t70, t71⟩, hx72, H⟩ := bind_some H
     refine go_call hs (by rfl) (isa_Encode.calls (vx (⟨0, 0, 0, 0, 0, 0, false⟩ : Sapi_Instr) (#v[v55, v56, v57, v58] : Vector Sapi_Instr 4) 1) (t70, t71) _ hx72) ?_
     rintro e wd73 ⟨rfl, hw74⟩
     refine ⟨_, rfl, ?_⟩
     replace hw := hw.call hw74
     clear hs; intro a hs; replace hs := hs.rms [51]
     refine go_pvs 9 [52] [(14, .int .u32 t70), (15, .int .i64 t71)] hs ?_; clear hs; intro a hs
     refine go_end ?_
     replace hw := hw.up 1
     replace hw := hw.up 1
     exact hJ2 t70 t71 _ _ hs.kx hw H
    ·replace H := ite_f H hk68
     replace hs : Slots a 159 [(0, .int .u32 a0), (7, .bool t4), (8, .int .i64 ((w64 a2).tmod 64)), (9, .int .i64 y10), (10, .int .i64 y12), (11, .slice Aa34 l33.length cc35), (12, .pointer (some ad20)), (13, .int .i64 v36), (49, .int .i64 v36)] := hs.kx
     by_cases hk75 : v36 = 2
     ·replace H := ite_t H hk75
      replace hs := (congrArg (fun z => Slots a 159 [(0, .int .u32 a0), (7, .bool t4), (8, .int .i64 ((w64 a2).tmod 64)), (9, .int .i64 y10), (10, .int .i64 y12), (11, .slice Aa34 l33.length cc35), (12, .pointer (some ad20)), (13, .int .i64 v36), (49, .int .i64 z)]) hk75).mp hs
      replace hs : Slots a 159 [(0, .int .u32 a0), (7, .bool t4), (8, .int .i64 ((w64 a2).tmod 64)), (9, .int .i64 y10), (10, .int .i64 y12), (11, .slice Aa34 l33.length cc35), (12, .pointer (some ad20)), (13, .int .i64 v36), (49, .int .i64 2)] := hs
      refine go_run hs (by rfl) (x_vidx (e := 45) (p := ad20) (n := 4) (k := .i64) (i := 2) (sz := 7) (⟨by decide, by decide⟩ : (0 : Int) ≤ 2 ∧ (2 : Int) < ((4 : Nat) : Int))) [49] ?_; clear hs; intro a hs
      refine go_run hs (by rfl) (x_lds (off := 14) (p := (ad20 : Addr).add ((2 : Int).toNat * 7)) (cs := (eSapi_Instr.enc (vx (⟨0, 0, 0, 0, 0, 0, false⟩ : Sapi_Instr) (#v[v55, v56, v57, v58] : Vector Sapi_Instr 4) 2))) (Rd.of_own (hw.up 0)) (one_ok (#v[(⟨0, 2, 1, 2, 0, (w64 a2).tmod 64, false⟩ : Sapi_Instr), (⟨0, 0, 3, 2, 0, (w64 a2).tmod 64, false⟩ : Sapi_Instr), (⟨0, 3, 1, 4, 0, (w64 a2).tmod 64, false⟩ : Sapi_Instr), (⟨0, 1, 5, 4, 0, (w64 a2).tmod 64, false⟩ : Sapi_Instr)] : Vector Sapi_Instr 4)) (by simp only [add_add', Int.toNat_zero, Nat.zero_mul, Nat.zero_add, Nat.mul_one] <;> rfl)) [50] ?_; clear hs; intro a hs
      obtain ⟨⟨t77, t78⟩, hx79, H⟩ := bind_some H
      refine go_call hs (by rfl) (isa_Encode.calls (vx (⟨0, 0, 0, 0, 0, 0, false⟩ : Sapi_Instr) (#v[v55, v56, v57, v58] : Vector Sapi_Instr 4) 2) (t77, t78) _ hx79) ?_
      rintro e wd80 ⟨rfl, hw81⟩
      refine ⟨_, rfl, ?_⟩
      replace hw := hw.call hw81
      clear hs; intro a hs; replace hs := hs.rms [51]
      refine go_pvs 9 [52] [(14, .int .u32 t77), (15, .int .i64 t78)] hs ?_; clear hs; intro a hs
      refine go_end ?_
      replace hw := hw.up 1
      replace hw := hw.up 1
      exact hJ2 t77 t78 _ _ hs.kx hw H
     ·replace H := ite_f H hk75
      replace hs : Slots a 159 [(0, .int .u32 a0), (7, .bool t4), (8, .int .i64 ((w64 a2).tmod 64)), (9, .int .i64 y10), (10, .int .i64 y12), (11, .slice Aa34 l33.length cc35), (12, .pointer (some ad20)), (13, .int .i64 v36), (49, .int .i64 v36)] := hs.kx
      by_cases hk82 : v36 = 3
      ·replace H := ite_t H hk82
       replace hs := (congrArg (fun z => Slots a 159 [(0, .int .u32 a0), (7, .bool t4), (8, .int .i64 ((w64 a2).tmod 64)), (9, .int .i64 y10), (10, .int .i64 y12), (11, .slice Aa34 l33.length cc35), (12, .pointer (some ad20)), (13, .int .i64 v36), (49, .int .i64 z)]) hk82).mp hs
       replace hs : Slots a 159 [(0, .int .u32 a0), (7, .bool t4), (8, .int .i64 ((w64 a2).tmod 64)), (9, .int .i64 y10), (10, .int .i64 y12), (11, .slice Aa34 l33.length cc35), (12, .pointer (some ad20)), (13, .int .i64 v36), (49, .int .i64 3)] := hs
       refine go_run hs (by rfl) (x_vidx (e := 45) (p := ad20) (n := 4) (k := .i64) (i := 3) (sz := 7) (⟨by decide, by decide⟩ : (0 : Int) ≤ 3 ∧ (3 : Int) < ((4 : Nat) : Int))) [49] ?_; clear hs; intro a hs
       refine go_run hs (by rfl) (x_lds (off := 21) (p := (ad20 : Addr).add ((3 : Int).toNat * 7)) (cs := (eSapi_Instr.enc (vx (⟨0, 0, 0, 0, 0, 0, false⟩ : Sapi_Instr) (#v[v55, v56, v57, v58] : Vector Sapi_Instr 4) 3))) (Rd.of_own (hw.up 0)) (one_ok (#v[(⟨0, 2, 1, 2, 0, (w64 a2).tmod 64, false⟩ : Sapi_Instr), (⟨0, 0, 3, 2, 0, (w64 a2).tmod 64, false⟩ : Sapi_Instr), (⟨0, 3, 1, 4, 0, (w64 a2).tmod 64, false⟩ : Sapi_Instr), (⟨0, 1, 5, 4, 0, (w64 a2).tmod 64, false⟩ : Sapi_Instr)] : Vector Sapi_Instr 4)) (by simp only [add_add', Int.toNat_zero, Nat.zero_mul, Nat.zero_add, Nat.mul_one] <;> rfl)) [50] ?_; clear hs; intro a hs
       obtain ⟨⟨t84, t85⟩, hx86, H⟩ := bind_some H
       refine go_call hs (by rfl) (isa_Encode.calls (vx (⟨0, 0, 0, 0, 0, 0, false⟩ : Sapi_Instr) (#v[v55, v56, v57, v58] : Vector Sapi_Instr 4) 3) (t84, t85) _ hx86) ?_
       rintro e wd87 ⟨rfl, hw88⟩
       refine ⟨_, rfl, ?_⟩
       replace hw := hw.call hw88
       clear hs; intro a hs; replace hs := hs.rms [51]
       refine go_pvs 9 [52] [(14, .int .u32 t84), (15, .int .i64 t85)] hs ?_; clear hs; intro a hs
       refine go_end ?_
       replace hw := hw.up 1
       replace hw := hw.up 1
       exact hJ2 t84 t85 _ _ hs.kx hw H
      ·replace H := ite_f H hk82
       cases H
  refine go_region ?_
  refine go_pvs 1 [42] [(45, .int .i64 v36)] hs ?_; clear hs; intro a hs
  obtain ⟨hp42, H⟩ := ite_only H
  replace hs : Slots a 159 [(0, .int .u32 a0), (7, .bool t4), (8, .int .i64 ((w64 a2).tmod 64)), (9, .int .i64 y10), (10, .int .i64 y12), (11, .slice Aa34 l33.length cc35), (12, .pointer (some ad20)), (13, .int .i64 v36), (45, .int .i64 v36)] := hs.kx
  by_cases hk43 : v36 = 0
  ·replace H := ite_t H hk43
   replace hs := (congrArg (fun z => Slots a 159 [(0, .int .u32 a0), (7, .bool t4), (8, .int .i64 ((w64 a2).tmod 64)), (9, .int .i64 y10), (10, .int .i64 y12), (11, .slice Aa34 l33.length cc35), (12, .pointer (some ad20)), (13, .int .i64 v36), (45, .int .i64 z)]) hk43).mp hs
   replace hs : Slots a 159 [(0, .int .u32 a0), (7, .bool t4), (8, .int .i64 ((w64 a2).tmod 64)), (9, .int .i64 y10), (10, .int .i64 y12), (11, .slice Aa34 l33.length cc35), (12, .pointer (some ad20)), (13, .int .i64 v36), (45, .int .i64 0)] := hs
   refine go_run hs (by rfl) (x_vidx (e := 45) (p := ad20) (n := 4) (k := .i64) (i := 0) (sz := 7) (⟨by decide, by decide⟩ : (0 : Int) ≤ 0 ∧ (0 : Int) < ((4 : Nat) : Int))) [45] ?_; clear hs; intro a hs
   refine go_pvs 3 [46] [(47, .pointer (some (((ad20 : Addr).add ((0 : Int).toNat * 7) : Addr).add 0)))] hs ?_; clear hs; intro a hs
   obtain ⟨wd44, hx45, hw⟩ := x_put (P := Try.prog) (ty := 0) (t := 3) (x := (Operand.tmp 47)) (y := (Operand.const (Value.int IntKind.i64 5))) (off := 0) (p := ((ad20 : Addr).add ((0 : Int).toNat * 7) : Addr).add 0) (v := .int .i64 5) (vs := [.int .i64 5]) (i := 0) (e' := (vset (#v[v29, v30, v31, v32] : Vector Sapi_Instr 4) 0 ({ vx (⟨0, 0, 0, 0, 0, 0, false⟩ : Sapi_Instr) (#v[v29, v30, v31, v32] : Vector Sapi_Instr 4) 0 with Kind := 5 } : Sapi_Instr) : Vector Sapi_Instr 4)) hs hw rfl (one_ok (#v[(⟨0, 2, 1, 2, 0, (w64 a2).tmod 64, false⟩ : Sapi_Instr), (⟨0, 0, 3, 2, 0, (w64 a2).tmod 64, false⟩ : Sapi_Instr), (⟨0, 3, 1, 4, 0, (w64 a2).tmod 64, false⟩ : Sapi_Instr), (⟨0, 1, 5, 4, 0, (w64 a2).tmod 64, false⟩ : Sapi_Instr)] : Vector Sapi_Instr 4)).1 (one_ok (#v[(⟨0, 2, 1, 2, 0, (w64 a2).tmod 64, false⟩ : Sapi_Instr), (⟨0, 0, 3, 2, 0, (w64 a2).tmod 64, false⟩ : Sapi_Instr), (⟨0, 3, 1, 4, 0, (w64 a2).tmod 64, false⟩ : Sapi_Instr), (⟨0, 1, 5, 4, 0, (w64 a2).tmod 64, false⟩ : Sapi_Instr)] : Vector Sapi_Instr 4)).2 (by kernel_rfl) (by simp only [add_add', Int.toNat_zero, Nat.zero_mul, Nat.zero_add, Nat.mul_one] <;> rfl) (by kernel_rfl) rfl (by kernel_rfl) (Nat.le_of_ble_eq_true rfl) (by simp [Value.oneCell']) (by kernel_rfl)
   refine go_unit hs (by rfl) hx45 [47] ?_; clear hs; intro a hs
   replace hw : St [] w0 wd44 [own 63 eA63 (some ad20) 1 [vset (#v[v29, v30, v31, v32] : Vector Sapi_Instr 4) 0 ({ vx (⟨0, 0, 0, 0, 0, 0, false⟩ : Sapi_Instr) (#v[v29, v30, v31, v32] : Vector Sapi_Instr 4) 0 with Kind := 5 } : Sapi_Instr)], own 23 (eI .u32) Aa34 cc35 l33] := hw
   refine go_end ?_
   replace hw := hw.up 1
   replace hw := hw.up 1
   exact hJ1 (vx (⟨0, 0, 0, 0, 0, 0, false⟩ : Sapi_Instr) (vset (#v[v29, v30, v31, v32] : Vector Sapi_Instr 4) 0 ({ vx (⟨0, 0, 0, 0, 0, 0, false⟩ : Sapi_Instr) (#v[v29, v30, v31, v32] : Vector Sapi_Instr 4) 0 with Kind := 5 } : Sapi_Instr)) 0) (vx (⟨0, 0, 0, 0, 0, 0, false⟩ : Sapi_Instr) (vset (#v[v29, v30, v31, v32] : Vector Sapi_Instr 4) 0 ({ vx (⟨0, 0, 0, 0, 0, 0, false⟩ : Sapi_Instr) (#v[v29, v30, v31, v32] : Vector Sapi_Instr 4) 0 with Kind := 5 } : Sapi_Instr)) 1) (vx (⟨0, 0, 0, 0, 0, 0, false⟩ : Sapi_Instr) (vset (#v[v29, v30, v31, v32] : Vector Sapi_Instr 4) 0 ({ vx (⟨0, 0, 0, 0, 0, 0, false⟩ : Sapi_Instr) (#v[v29, v30, v31, v32] : Vector Sapi_Instr 4) 0 with Kind := 5 } : Sapi_Instr)) 2) (vx (⟨0, 0, 0, 0, 0, 0, false⟩ : Sapi_Instr) (vset (#v[v29, v30, v31, v32] : Vector Sapi_Instr 4) 0 ({ vx (⟨0, 0, 0, 0, 0, 0, false⟩ : Sapi_Instr) (#v[v29, v30, v31, v32] : Vector Sapi_Instr 4) 0 with Kind := 5 } : Sapi_Instr)) 3) _ _ hs.kx hw H
  ·replace H := ite_f H hk43
   replace hs : Slots a 159 [(0, .int .u32 a0), (7, .bool t4), (8, .int .i64 ((w64 a2).tmod 64)), (9, .int .i64 y10), (10, .int .i64 y12), (11, .slice Aa34 l33.length cc35), (12, .pointer (some ad20)), (13, .int .i64 v36), (45, .int .i64 v36)] := hs.kx
   by_cases hk46 : v36 = 1
   ·replace H := ite_t H hk46
    replace hs := (congrArg (fun z => Slots a 159 [(0, .int .u32 a0), (7, .bool t4), (8, .int .i64 ((w64 a2).tmod 64)), (9, .int .i64 y10), (10, .int .i64 y12), (11, .slice Aa34 l33.length cc35), (12, .pointer (some ad20)), (13, .int .i64 v36), (45, .int .i64 z)]) hk46).mp hs
    replace hs : Slots a 159 [(0, .int .u32 a0), (7, .bool t4), (8, .int .i64 ((w64 a2).tmod 64)), (9, .int .i64 y10), (10, .int .i64 y12), (11, .slice Aa34 l33.length cc35), (12, .pointer (some ad20)), (13, .int .i64 v36), (45, .int .i64 1)] := hs
    refine go_run hs (by rfl) (x_vidx (e := 45) (p := ad20) (n := 4) (k := .i64) (i := 1) (sz := 7) (⟨by decide, by decide⟩ : (0 : Int) ≤ 1 ∧ (1 : Int) < ((4 : Nat) : Int))) [45] ?_; clear hs; intro a hs
    refine go_pvs 3 [46] [(47, .pointer (some (((ad20 : Addr).add ((1 : Int).toNat * 7) : Addr).add 0)))] hs ?_; clear hs; intro a hs
    obtain ⟨wd47, hx48, hw⟩ := x_put (P := Try.prog) (ty := 0) (t := 3) (x := (Operand.tmp 47)) (y := (Operand.const (Value.int IntKind.i64 5))) (off := 7) (p := ((ad20 : Addr).add ((1 : Int).toNat * 7) : Addr).add 0) (v := .int .i64 5) (vs := [.int .i64 5]) (i := 0) (e' := (vset (#v[v29, v30, v31, v32] : Vector Sapi_Instr 4) 1 ({ vx (⟨0, 0, 0, 0, 0, 0, false⟩ : Sapi_Instr) (#v[v29, v30, v31, v32] : Vector Sapi_Instr 4) 1 with Kind := 5 } : Sapi_Instr) : Vector Sapi_Instr 4)) hs hw rfl (one_ok (#v[(⟨0, 2, 1, 2, 0, (w64 a2).tmod 64, false⟩ : Sapi_Instr), (⟨0, 0, 3, 2, 0, (w64 a2).tmod 64, false⟩ : Sapi_Instr), (⟨0, 3, 1, 4, 0, (w64 a2).tmod 64, false⟩ : Sapi_Instr), (⟨0, 1, 5, 4, 0, (w64 a2).tmod 64, false⟩ : Sapi_Instr)] : Vector Sapi_Instr 4)).1 (one_ok (#v[(⟨0, 2, 1, 2, 0, (w64 a2).tmod 64, false⟩ : Sapi_Instr), (⟨0, 0, 3, 2, 0, (w64 a2).tmod 64, false⟩ : Sapi_Instr), (⟨0, 3, 1, 4, 0, (w64 a2).tmod 64, false⟩ : Sapi_Instr), (⟨0, 1, 5, 4, 0, (w64 a2).tmod 64, false⟩ : Sapi_Instr)] : Vector Sapi_Instr 4)).2 (by kernel_rfl) (by simp only [add_add', Int.toNat_zero, Nat.zero_mul, Nat.zero_add, Nat.mul_one] <;> rfl) (by kernel_rfl) rfl (by kernel_rfl) (Nat.le_of_ble_eq_true rfl) (by simp [Value.oneCell']) (by kernel_rfl)
    refine go_unit hs (by rfl) hx48 [47] ?_; clear hs; intro a hs
    replace hw : St [] w0 wd47 [own 63 eA63 (some ad20) 1 [vset (#v[v29, v30, v31, v32] : Vector Sapi_Instr 4) 1 ({ vx (⟨0, 0, 0, 0, 0, 0, false⟩ : Sapi_Instr) (#v[v29, v30, v31, v32] : Vector Sapi_Instr 4) 1 with Kind := 5 } : Sapi_Instr)], own 23 (eI .u32) Aa34 cc35 l33] := hw
    refine go_end ?_
    replace hw := hw.up 1
    replace hw := hw.up 1
    exact hJ1 (vx (⟨0, 0, 0, 0, 0, 0, false⟩ : Sapi_Instr) (vset (#v[v29, v30, v31, v32] : Vector Sapi_Instr 4) 1 ({ vx (⟨0, 0, 0, 0, 0, 0, false⟩ : Sapi_Instr) (#v[v29, v30, v31, v32] : Vector Sapi_Instr 4) 1 with Kind := 5 } : Sapi_Instr)) 0) (vx (⟨0, 0, 0, 0, 0, 0, false⟩ : Sapi_Instr) (vset (#v[v29, v30, v31, v32] : Vector Sapi_Instr 4) 1 ({ vx (⟨0, 0, 0, 0, 0, 0, false⟩ : Sapi_Instr) (#v[v29, v30, v31, v32] : Vector Sapi_Instr 4) 1 with Kind := 5 } : Sapi_Instr)) 1) (vx (⟨0, 0, 0, 0, 0, 0, false⟩ : Sapi_Instr) (vset (#v[v29, v30, v31, v32] : Vector Sapi_Instr 4) 1 ({ vx (⟨0, 0, 0, 0, 0, 0, false⟩ : Sapi_Instr) (#v[v29, v30, v31, v32] : Vector Sapi_Instr 4) 1 with Kind := 5 } : Sapi_Instr)) 2) (vx (⟨0, 0, 0, 0, 0, 0, false⟩ : Sapi_Instr) (vset (#v[v29, v30, v31, v32] : Vector Sapi_Instr 4) 1 ({ vx (⟨0, 0, 0, 0, 0, 0, false⟩ : Sapi_Instr) (#v[v29, v30, v31, v32] : Vector Sapi_Instr 4) 1 with Kind := 5 } : Sapi_Instr)) 3) _ _ hs.kx hw H
   ·replace H := ite_f H hk46
    replace hs : Slots a 159 [(0, .int .u32 a0), (7, .bool t4), (8, .int .i64 ((w64 a2).tmod 64)), (9, .int .i64 y10), (10, .int .i64 y12), (11, .slice Aa34 l33.length cc35), (12, .pointer (some ad20)), (13, .int .i64 v36), (45, .int .i64 v36)] := hs.kx
    by_cases hk49 : v36 = 2
    ·replace H := ite_t H hk49
     replace hs := (congrArg (fun z => Slots a 159 [(0, .int .u32 a0), (7, .bool t4), (8, .int .i64 ((w64 a2).tmod 64)), (9, .int .i64 y10), (10, .int .i64 y12), (11, .slice Aa34 l33.length cc35), (12, .pointer (some ad20)), (13, .int .i64 v36), (45, .int .i64 z)]) hk49).mp hs
     replace hs : Slots a 159 [(0, .int .u32 a0), (7, .bool t4), (8, .int .i64 ((w64 a2).tmod 64)), (9, .int .i64 y10), (10, .int .i64 y12), (11, .slice Aa34 l33.length cc35), (12, .pointer (some ad20)), (13, .int .i64 v36), (45, .int .i64 2)] := hs
     refine go_run hs (by rfl) (x_vidx (e := 45) (p := ad20) (n := 4) (k := .i64) (i := 2) (sz := 7) (⟨by decide, by decide⟩ : (0 : Int) ≤ 2 ∧ (2 : Int) < ((4 : Nat) : Int))) [45] ?_; clear hs; intro a hs
     refine go_pvs 3 [46] [(47, .pointer (some (((ad20 : Addr).add ((2 : Int).toNat * 7) : Addr).add 0)))] hs ?_; clear hs; intro a hs
     obtain ⟨wd50, hx51, hw⟩ := x_put (P := Try.prog) (ty := 0) (t := 3) (x := (Operand.tmp 47)) (y := (Operand.const (Value.int IntKind.i64 5))) (off := 14) (p := ((ad20 : Addr).add ((2 : Int).toNat * 7) : Addr).add 0) (v := .int .i64 5) (vs := [.int .i64 5]) (i := 0) (e' := (vset (#v[v29, v30, v31, v32] : Vector Sapi_Instr 4) 2 ({ vx (⟨0, 0, 0, 0, 0, 0, false⟩ : Sapi_Instr) (#v[v29, v30, v31, v32] : Vector Sapi_Instr 4) 2 with Kind := 5 } : Sapi_Instr) : Vector Sapi_Instr 4)) hs hw rfl (one_ok (#v[(⟨0, 2, 1, 2, 0, (w64 a2).tmod 64, false⟩ : Sapi_Instr), (⟨0, 0, 3, 2, 0, (w64 a2).tmod 64, false⟩ : Sapi_Instr), (⟨0, 3, 1, 4, 0, (w64 a2).tmod 64, false⟩ : Sapi_Instr), (⟨0, 1, 5, 4, 0, (w64 a2).tmod 64, false⟩ : Sapi_Instr)] : Vector Sapi_Instr 4)).1 (one_ok (#v[(⟨0, 2, 1, 2, 0, (w64 a2).tmod 64, false⟩ : Sapi_Instr), (⟨0, 0, 3, 2, 0, (w64 a2).tmod 64, false⟩ : Sapi_Instr), (⟨0, 3, 1, 4, 0, (w64 a2).tmod 64, false⟩ : Sapi_Instr), (⟨0, 1, 5, 4, 0, (w64 a2).tmod 64, false⟩ : Sapi_Instr)] : Vector Sapi_Instr 4)).2 (by kernel_rfl) (by simp only [add_add', Int.toNat_zero, Nat.zero_mul, Nat.zero_add, Nat.mul_one] <;> rfl) (by kernel_rfl) rfl (by kernel_rfl) (Nat.le_of_ble_eq_true rfl) (by simp [Value.oneCell']) (by kernel_rfl)
     refine go_unit hs (by rfl) hx51 [47] ?_; clear hs; intro a hs
     replace hw : St [] w0 wd50 [own 63 eA63 (some ad20) 1 [vset (#v[v29, v30, v31, v32] : Vector Sapi_Instr 4) 2 ({ vx (⟨0, 0, 0, 0, 0, 0, false⟩ : Sapi_Instr) (#v[v29, v30, v31, v32] : Vector Sapi_Instr 4) 2 with Kind := 5 } : Sapi_Instr)], own 23 (eI .u32) Aa34 cc35 l33] := hw
     refine go_end ?_
     replace hw := hw.up 1
     replace hw := hw.up 1
     exact hJ1 (vx (⟨0, 0, 0, 0, 0, 0, false⟩ : Sapi_Instr) (vset (#v[v29, v30, v31, v32] : Vector Sapi_Instr 4) 2 ({ vx (⟨0, 0, 0, 0, 0, 0, false⟩ : Sapi_Instr) (#v[v29, v30, v31, v32] : Vector Sapi_Instr 4) 2 with Kind := 5 } : Sapi_Instr)) 0) (vx (⟨0, 0, 0, 0, 0, 0, false⟩ : Sapi_Instr) (vset (#v[v29, v30, v31, v32] : Vector Sapi_Instr 4) 2 ({ vx (⟨0, 0, 0, 0, 0, 0, false⟩ : Sapi_Instr) (#v[v29, v30, v31, v32] : Vector Sapi_Instr 4) 2 with Kind := 5 } : Sapi_Instr)) 1) (vx (⟨0, 0, 0, 0, 0, 0, false⟩ : Sapi_Instr) (vset (#v[v29, v30, v31, v32] : Vector Sapi_Instr 4) 2 ({ vx (⟨0, 0, 0, 0, 0, 0, false⟩ : Sapi_Instr) (#v[v29, v30, v31, v32] : Vector Sapi_Instr 4) 2 with Kind := 5 } : Sapi_Instr)) 2) (vx (⟨0, 0, 0, 0, 0, 0, false⟩ : Sapi_Instr) (vset (#v[v29, v30, v31, v32] : Vector Sapi_Instr 4) 2 ({ vx (⟨0, 0, 0, 0, 0, 0, false⟩ : Sapi_Instr) (#v[v29, v30, v31, v32] : Vector Sapi_Instr 4) 2 with Kind := 5 } : Sapi_Instr)) 3) _ _ hs.kx hw H
    ·replace H := ite_f H hk49
     replace hs : Slots a 159 [(0, .int .u32 a0), (7, .bool t4), (8, .int .i64 ((w64 a2).tmod 64)), (9, .int .i64 y10), (10, .int .i64 y12), (11, .slice Aa34 l33.length cc35), (12, .pointer (some ad20)), (13, .int .i64 v36), (45, .int .i64 v36)] := hs.kx
     by_cases hk52 : v36 = 3
     ·replace H := ite_t H hk52
      replace hs := (congrArg (fun z => Slots a 159 [(0, .int .u32 a0), (7, .bool t4), (8, .int .i64 ((w64 a2).tmod 64)), (9, .int .i64 y10), (10, .int .i64 y12), (11, .slice Aa34 l33.length cc35), (12, .pointer (some ad20)), (13, .int .i64 v36), (45, .int .i64 z)]) hk52).mp hs
      replace hs : Slots a 159 [(0, .int .u32 a0), (7, .bool t4), (8, .int .i64 ((w64 a2).tmod 64)), (9, .int .i64 y10), (10, .int .i64 y12), (11, .slice Aa34 l33.length cc35), (12, .pointer (some ad20)), (13, .int .i64 v36), (45, .int .i64 3)] := hs
      refine go_run hs (by rfl) (x_vidx (e := 45) (p := ad20) (n := 4) (k := .i64) (i := 3) (sz := 7) (⟨by decide, by decide⟩ : (0 : Int) ≤ 3 ∧ (3 : Int) < ((4 : Nat) : Int))) [45] ?_; clear hs; intro a hs
      refine go_pvs 3 [46] [(47, .pointer (some (((ad20 : Addr).add ((3 : Int).toNat * 7) : Addr).add 0)))] hs ?_; clear hs; intro a hs
      obtain ⟨wd53, hx54, hw⟩ := x_put (P := Try.prog) (ty := 0) (t := 3) (x := (Operand.tmp 47)) (y := (Operand.const (Value.int IntKind.i64 5))) (off := 21) (p := ((ad20 : Addr).add ((3 : Int).toNat * 7) : Addr).add 0) (v := .int .i64 5) (vs := [.int .i64 5]) (i := 0) (e' := (vset (#v[v29, v30, v31, v32] : Vector Sapi_Instr 4) 3 ({ vx (⟨0, 0, 0, 0, 0, 0, false⟩ : Sapi_Instr) (#v[v29, v30, v31, v32] : Vector Sapi_Instr 4) 3 with Kind := 5 } : Sapi_Instr) : Vector Sapi_Instr 4)) hs hw rfl (one_ok (#v[(⟨0, 2, 1, 2, 0, (w64 a2).tmod 64, false⟩ : Sapi_Instr), (⟨0, 0, 3, 2, 0, (w64 a2).tmod 64, false⟩ : Sapi_Instr), (⟨0, 3, 1, 4, 0, (w64 a2).tmod 64, false⟩ : Sapi_Instr), (⟨0, 1, 5, 4, 0, (w64 a2).tmod 64, false⟩ : Sapi_Instr)] : Vector Sapi_Instr 4)).1 (one_ok (#v[(⟨0, 2, 1, 2, 0, (w64 a2).tmod 64, false⟩ : Sapi_Instr), (⟨0, 0, 3, 2, 0, (w64 a2).tmod 64, false⟩ : Sapi_Instr), (⟨0, 3, 1, 4, 0, (w64 a2).tmod 64, false⟩ : Sapi_Instr), (⟨0, 1, 5, 4, 0, (w64 a2).tmod 64, false⟩ : Sapi_Instr)] : Vector Sapi_Instr 4)).2 (by kernel_rfl) (by simp only [add_add', Int.toNat_zero, Nat.zero_mul, Nat.zero_add, Nat.mul_one] <;> rfl) (by kernel_rfl) rfl (by kernel_rfl) (Nat.le_of_ble_eq_true rfl) (by simp [Value.oneCell']) (by kernel_rfl)
      refine go_unit hs (by rfl) hx54 [47] ?_; clear hs; intro a hs
      replace hw : St [] w0 wd53 [own 63 eA63 (some ad20) 1 [vset (#v[v29, v30, v31, v32] : Vector Sapi_Instr 4) 3 ({ vx (⟨0, 0, 0, 0, 0, 0, false⟩ : Sapi_Instr) (#v[v29, v30, v31, v32] : Vector Sapi_Instr 4) 3 with Kind := 5 } : Sapi_Instr)], own 23 (eI .u32) Aa34 cc35 l33] := hw
      refine go_end ?_
      replace hw := hw.up 1
      replace hw := hw.up 1
      exact hJ1 (vx (⟨0, 0, 0, 0, 0, 0, false⟩ : Sapi_Instr) (vset (#v[v29, v30, v31, v32] : Vector Sapi_Instr 4) 3 ({ vx (⟨0, 0, 0, 0, 0, 0, false⟩ : Sapi_Instr) (#v[v29, v30, v31, v32] : Vector Sapi_Instr 4) 3 with Kind := 5 } : Sapi_Instr)) 0) (vx (⟨0, 0, 0, 0, 0, 0, false⟩ : Sapi_Instr) (vset (#v[v29, v30, v31, v32] : Vector Sapi_Instr 4) 3 ({ vx (⟨0, 0, 0, 0, 0, 0, false⟩ : Sapi_Instr) (#v[v29, v30, v31, v32] : Vector Sapi_Instr 4) 3 with Kind := 5 } : Sapi_Instr)) 1) (vx (⟨0, 0, 0, 0, 0, 0, false⟩ : Sapi_Instr) (vset (#v[v29, v30, v31, v32] : Vector Sapi_Instr 4) 3 ({ vx (⟨0, 0, 0, 0, 0, 0, false⟩ : Sapi_Instr) (#v[v29, v30, v31, v32] : Vector Sapi_Instr 4) 3 with Kind := 5 } : Sapi_Instr)) 2) (vx (⟨0, 0, 0, 0, 0, 0, false⟩ : Sapi_Instr) (vset (#v[v29, v30, v31, v32] : Vector Sapi_Instr 4) 3 ({ vx (⟨0, 0, 0, 0, 0, 0, false⟩ : Sapi_Instr) (#v[v29, v30, v31, v32] : Vector Sapi_Instr 4) 3 with Kind := 5 } : Sapi_Instr)) 3) _ _ hs.kx hw H
     ·replace H := ite_f H hk52
      cases H
 ·replace H := ite_f H (of_decide_eq_false hc)
  have hb114 := hc
  rw [hb114] at hs
  refine wp_exit ?_
  refine th_exit ?_
  refine th_exit ?_
  refine in_block ?_
  replace hw := hw.up 1
  replace hw := hw.up 1
  rw [← hr28 _ (Option.some.inj H).symm] at HX28
  exact hJ4 (vx (⟨0, 0, 0, 0, 0, 0, false⟩ : Sapi_Instr) (#v[v29, v30, v31, v32] : Vector Sapi_Instr 4) 0) (vx (⟨0, 0, 0, 0, 0, 0, false⟩ : Sapi_Instr) (#v[v29, v30, v31, v32] : Vector Sapi_Instr 4) 1) (vx (⟨0, 0, 0, 0, 0, 0, false⟩ : Sapi_Instr) (#v[v29, v30, v31, v32] : Vector Sapi_Instr 4) 2) (vx (⟨0, 0, 0, 0, 0, 0, false⟩ : Sapi_Instr) (#v[v29, v30, v31, v32] : Vector Sapi_Instr 4) 3) Aa34 cc35 l33 _ _ hs.kx hw HX28

end Go.Proofs.Ytheccnbamcdpmaa.T06
