/- YtheccnbamcdpmaaT06zMachinePorts: Go functions told as plain ones, each with a proof that its call comes to what is told, part 1. Condition of each: that the plain function comes to a value. -/
import Derived.Test.YtheccnbamcdpmaaT06
import Derived.Test.YtheccnbamcdpmaaEP
import Derived.Test.YtheccnbamcdpmaaProg
namespace Go.Proofs.Ytheccnbamcdpmaa.T06
open Go Go.RowKit Go.Proofs.Ytheccnbamcdpmaa.E
set_option linter.unusedVariables false
set_option linter.unusedSimpArgs false
def eA66 : Enc (Vector Sapi_Instr 5) := ⟨35, fun x => [.int .i64 ((vx (⟨0, 0, 0, 0, 0, 0, false⟩ : Sapi_Instr) x 0).Kind), .int .i64 ((vx (⟨0, 0, 0, 0, 0, 0, false⟩ : Sapi_Instr) x 0).Op), .int .i64 ((vx (⟨0, 0, 0, 0, 0, 0, false⟩ : Sapi_Instr) x 0).A), .int .i64 ((vx (⟨0, 0, 0, 0, 0, 0, false⟩ : Sapi_Instr) x 0).B), .int .i64 ((vx (⟨0, 0, 0, 0, 0, 0, false⟩ : Sapi_Instr) x 0).C), .int .i64 ((vx (⟨0, 0, 0, 0, 0, 0, false⟩ : Sapi_Instr) x 0).Imm), .bool ((vx (⟨0, 0, 0, 0, 0, 0, false⟩ : Sapi_Instr) x 0).U), .int .i64 ((vx (⟨0, 0, 0, 0, 0, 0, false⟩ : Sapi_Instr) x 1).Kind), .int .i64 ((vx (⟨0, 0, 0, 0, 0, 0, false⟩ : Sapi_Instr) x 1).Op), .int .i64 ((vx (⟨0, 0, 0, 0, 0, 0, false⟩ : Sapi_Instr) x 1).A), .int .i64 ((vx (⟨0, 0, 0, 0, 0, 0, false⟩ : Sapi_Instr) x 1).B), .int .i64 ((vx (⟨0, 0, 0, 0, 0, 0, false⟩ : Sapi_Instr) x 1).C), .int .i64 ((vx (⟨0, 0, 0, 0, 0, 0, false⟩ : Sapi_Instr) x 1).Imm), .bool ((vx (⟨0, 0, 0, 0, 0, 0, false⟩ : Sapi_Instr) x 1).U), .int .i64 ((vx (⟨0, 0, 0, 0, 0, 0, false⟩ : Sapi_Instr) x 2).Kind), .int .i64 ((vx (⟨0, 0, 0, 0, 0, 0, false⟩ : Sapi_Instr) x 2).Op), .int .i64 ((vx (⟨0, 0, 0, 0, 0, 0, false⟩ : Sapi_Instr) x 2).A), .int .i64 ((vx (⟨0, 0, 0, 0, 0, 0, false⟩ : Sapi_Instr) x 2).B), .int .i64 ((vx (⟨0, 0, 0, 0, 0, 0, false⟩ : Sapi_Instr) x 2).C), .int .i64 ((vx (⟨0, 0, 0, 0, 0, 0, false⟩ : Sapi_Instr) x 2).Imm), .bool ((vx (⟨0, 0, 0, 0, 0, 0, false⟩ : Sapi_Instr) x 2).U), .int .i64 ((vx (⟨0, 0, 0, 0, 0, 0, false⟩ : Sapi_Instr) x 3).Kind), .int .i64 ((vx (⟨0, 0, 0, 0, 0, 0, false⟩ : Sapi_Instr) x 3).Op), .int .i64 ((vx (⟨0, 0, 0, 0, 0, 0, false⟩ : Sapi_Instr) x 3).A), .int .i64 ((vx (⟨0, 0, 0, 0, 0, 0, false⟩ : Sapi_Instr) x 3).B), .int .i64 ((vx (⟨0, 0, 0, 0, 0, 0, false⟩ : Sapi_Instr) x 3).C), .int .i64 ((vx (⟨0, 0, 0, 0, 0, 0, false⟩ : Sapi_Instr) x 3).Imm), .bool ((vx (⟨0, 0, 0, 0, 0, 0, false⟩ : Sapi_Instr) x 3).U), .int .i64 ((vx (⟨0, 0, 0, 0, 0, 0, false⟩ : Sapi_Instr) x 4).Kind), .int .i64 ((vx (⟨0, 0, 0, 0, 0, 0, false⟩ : Sapi_Instr) x 4).Op), .int .i64 ((vx (⟨0, 0, 0, 0, 0, 0, false⟩ : Sapi_Instr) x 4).A), .int .i64 ((vx (⟨0, 0, 0, 0, 0, 0, false⟩ : Sapi_Instr) x 4).B), .int .i64 ((vx (⟨0, 0, 0, 0, 0, 0, false⟩ : Sapi_Instr) x 4).C), .int .i64 ((vx (⟨0, 0, 0, 0, 0, 0, false⟩ : Sapi_Instr) x 4).Imm), .bool ((vx (⟨0, 0, 0, 0, 0, 0, false⟩ : Sapi_Instr) x 4).U)], (Vector.replicate 5 (⟨0, 0, 0, 0, 0, 0, false⟩ : Sapi_Instr)), by decide, fun _ => rfl, fun x u hu => by simp at hu; rcases hu with rfl | rfl | rfl | rfl | rfl | rfl | rfl | rfl | rfl | rfl | rfl | rfl | rfl | rfl | rfl | rfl | rfl | rfl | rfl | rfl | rfl | rfl | rfl | rfl | rfl | rfl | rfl | rfl | rfl | rfl | rfl | rfl | rfl | rfl | rfl <;> rfl⟩
/-! rivet/rivetlaw06.MachinePorts: function 8 -/
noncomputable def rivetlaw06_MachinePorts.j1 : Option Bool := some false
noncomputable def rivetlaw06_MachinePorts.j9 (v145 : Int) (v262 : Sapi_Instr) (v263 : Sapi_Instr) (v264 : Sapi_Instr) (v265 : Sapi_Instr) (v266 : Sapi_Instr) (v267 : Smachine_Machine) : Option (Sapi_Instr × Sapi_Instr × Sapi_Instr × Sapi_Instr × Sapi_Instr × Smachine_Machine × Int ⊕ (Ex Bool (Sapi_Instr × Sapi_Instr × Sapi_Instr × Sapi_Instr × Sapi_Instr × Smachine_Machine))) := some (.inl (vx (⟨0, 0, 0, 0, 0, 0, false⟩ : Sapi_Instr) (#v[v262, v263, v264, v265, v266] : Vector Sapi_Instr 5) 0, vx (⟨0, 0, 0, 0, 0, 0, false⟩ : Sapi_Instr) (#v[v262, v263, v264, v265, v266] : Vector Sapi_Instr 5) 1, vx (⟨0, 0, 0, 0, 0, 0, false⟩ : Sapi_Instr) (#v[v262, v263, v264, v265, v266] : Vector Sapi_Instr 5) 2, vx (⟨0, 0, 0, 0, 0, 0, false⟩ : Sapi_Instr) (#v[v262, v263, v264, v265, v266] : Vector Sapi_Instr 5) 3, vx (⟨0, 0, 0, 0, 0, 0, false⟩ : Sapi_Instr) (#v[v262, v263, v264, v265, v266] : Vector Sapi_Instr 5) 4, v267, w64 (v145 + 1)))
noncomputable def rivetlaw06_MachinePorts.j8 (v145 : Int) (v167 : Sapi_Instr) (v168 : Sapi_Instr) (v169 : Sapi_Instr) (v170 : Sapi_Instr) (v171 : Sapi_Instr) (v257 : Smachine_Machine) (v258 : Bool) : Option (Sapi_Instr × Sapi_Instr × Sapi_Instr × Sapi_Instr × Sapi_Instr × Smachine_Machine × Int ⊕ (Ex Bool (Sapi_Instr × Sapi_Instr × Sapi_Instr × Sapi_Instr × Sapi_Instr × Smachine_Machine))) := (if v258 = true then some (.inr (.ret false)) else rivetlaw06_MachinePorts.j9 v145 (vx (⟨0, 0, 0, 0, 0, 0, false⟩ : Sapi_Instr) (#v[v167, v168, v169, v170, v171] : Vector Sapi_Instr 5) 0) (vx (⟨0, 0, 0, 0, 0, 0, false⟩ : Sapi_Instr) (#v[v167, v168, v169, v170, v171] : Vector Sapi_Instr 5) 1) (vx (⟨0, 0, 0, 0, 0, 0, false⟩ : Sapi_Instr) (#v[v167, v168, v169, v170, v171] : Vector Sapi_Instr 5) 2) (vx (⟨0, 0, 0, 0, 0, 0, false⟩ : Sapi_Instr) (#v[v167, v168, v169, v170, v171] : Vector Sapi_Instr 5) 3) (vx (⟨0, 0, 0, 0, 0, 0, false⟩ : Sapi_Instr) (#v[v167, v168, v169, v170, v171] : Vector Sapi_Instr 5) 4) v257)
noncomputable def rivetlaw06_MachinePorts.j7 (v144 : Smachine_Machine) (v145 : Int) (v167 : Sapi_Instr) (v168 : Sapi_Instr) (v169 : Sapi_Instr) (v170 : Sapi_Instr) (v171 : Sapi_Instr) (t99 : List Int) (v209 : Int) (v210 : Int) : Option (Sapi_Instr × Sapi_Instr × Sapi_Instr × Sapi_Instr × Sapi_Instr × Smachine_Machine × Int ⊕ (Ex Bool (Sapi_Instr × Sapi_Instr × Sapi_Instr × Sapi_Instr × Sapi_Instr × Smachine_Machine))) := ((v144.Memory).bind fun y220 => (((memory_Memory_Place y220 0 ([v209] : List Int)).bind fun ⟨t229, t230⟩ => (((machine_Machine_Start (⟨(some t230), v144.s, v144.pc, v144.status, v144.in', v144.out⟩ : Smachine_Machine) 0 (⟨(Vector.replicate 16 0), 0, false, false, false, false⟩ : Sapi_Regs)).bind fun t236 => ((if v210 = 0 then ((machine_Machine_Step t236).bind fun ⟨t243, t244⟩ => ((if t243 = 3 then ((machine_Machine_Out t244).bind fun t250 => (rivetlaw06_MachinePorts.j8 v145 v167 v168 v169 v170 v171 t244 ((t250.length : Int) != (t99.length : Int)))) else rivetlaw06_MachinePorts.j8 v145 v167 v168 v169 v170 v171 t244 true))) else rivetlaw06_MachinePorts.j8 v145 v167 v168 v169 v170 v171 t236 true)))))))
noncomputable def rivetlaw06_MachinePorts.j6 (v145 : Int) (v144 : Smachine_Machine) (t99 : List Int) (v167 : Sapi_Instr) (v168 : Sapi_Instr) (v169 : Sapi_Instr) (v170 : Sapi_Instr) (v171 : Sapi_Instr) : Option (Sapi_Instr × Sapi_Instr × Sapi_Instr × Sapi_Instr × Sapi_Instr × Smachine_Machine × Int ⊕ (Ex Bool (Sapi_Instr × Sapi_Instr × Sapi_Instr × Sapi_Instr × Sapi_Instr × Smachine_Machine))) := (if 0 ≤ v145 ∧ v145 < 5 then (if v145 = 0 then ((isa_Encode (vx (⟨0, 0, 0, 0, 0, 0, false⟩ : Sapi_Instr) (#v[v167, v168, v169, v170, v171] : Vector Sapi_Instr 5) 0)).bind fun ⟨t176, t177⟩ => (rivetlaw06_MachinePorts.j7 v144 v145 v167 v168 v169 v170 v171 t99 t176 t177)) else (if v145 = 1 then ((isa_Encode (vx (⟨0, 0, 0, 0, 0, 0, false⟩ : Sapi_Instr) (#v[v167, v168, v169, v170, v171] : Vector Sapi_Instr 5) 1)).bind fun ⟨t183, t184⟩ => (rivetlaw06_MachinePorts.j7 v144 v145 v167 v168 v169 v170 v171 t99 t183 t184)) else (if v145 = 2 then ((isa_Encode (vx (⟨0, 0, 0, 0, 0, 0, false⟩ : Sapi_Instr) (#v[v167, v168, v169, v170, v171] : Vector Sapi_Instr 5) 2)).bind fun ⟨t190, t191⟩ => (rivetlaw06_MachinePorts.j7 v144 v145 v167 v168 v169 v170 v171 t99 t190 t191)) else (if v145 = 3 then ((isa_Encode (vx (⟨0, 0, 0, 0, 0, 0, false⟩ : Sapi_Instr) (#v[v167, v168, v169, v170, v171] : Vector Sapi_Instr 5) 3)).bind fun ⟨t197, t198⟩ => (rivetlaw06_MachinePorts.j7 v144 v145 v167 v168 v169 v170 v171 t99 t197 t198)) else (if v145 = 4 then ((isa_Encode (vx (⟨0, 0, 0, 0, 0, 0, false⟩ : Sapi_Instr) (#v[v167, v168, v169, v170, v171] : Vector Sapi_Instr 5) 4)).bind fun ⟨t204, t205⟩ => (rivetlaw06_MachinePorts.j7 v144 v145 v167 v168 v169 v170 v171 t99 t204 t205)) else none))))) else none)
noncomputable def rivetlaw06_MachinePorts.b138 (t99 : List Int) (v139 : Sapi_Instr) (v140 : Sapi_Instr) (v141 : Sapi_Instr) (v142 : Sapi_Instr) (v143 : Sapi_Instr) (v144 : Smachine_Machine) (v145 : Int) : Option (Sapi_Instr × Sapi_Instr × Sapi_Instr × Sapi_Instr × Sapi_Instr × Smachine_Machine × Int ⊕ (Ex Bool (Sapi_Instr × Sapi_Instr × Sapi_Instr × Sapi_Instr × Sapi_Instr × Smachine_Machine))) := (if v145 < 5 then (if 0 ≤ v145 ∧ v145 < 5 then (if v145 = 0 then rivetlaw06_MachinePorts.j6 v145 v144 t99 (vx (⟨0, 0, 0, 0, 0, 0, false⟩ : Sapi_Instr) (vset (#v[v139, v140, v141, v142, v143] : Vector Sapi_Instr 5) 0 ({ vx (⟨0, 0, 0, 0, 0, 0, false⟩ : Sapi_Instr) (#v[v139, v140, v141, v142, v143] : Vector Sapi_Instr 5) 0 with Kind := 5 } : Sapi_Instr)) 0) (vx (⟨0, 0, 0, 0, 0, 0, false⟩ : Sapi_Instr) (vset (#v[v139, v140, v141, v142, v143] : Vector Sapi_Instr 5) 0 ({ vx (⟨0, 0, 0, 0, 0, 0, false⟩ : Sapi_Instr) (#v[v139, v140, v141, v142, v143] : Vector Sapi_Instr 5) 0 with Kind := 5 } : Sapi_Instr)) 1) (vx (⟨0, 0, 0, 0, 0, 0, false⟩ : Sapi_Instr) (vset (#v[v139, v140, v141, v142, v143] : Vector Sapi_Instr 5) 0 ({ vx (⟨0, 0, 0, 0, 0, 0, false⟩ : Sapi_Instr) (#v[v139, v140, v141, v142, v143] : Vector Sapi_Instr 5) 0 with Kind := 5 } : Sapi_Instr)) 2) (vx (⟨0, 0, 0, 0, 0, 0, false⟩ : Sapi_Instr) (vset (#v[v139, v140, v141, v142, v143] : Vector Sapi_Instr 5) 0 ({ vx (⟨0, 0, 0, 0, 0, 0, false⟩ : Sapi_Instr) (#v[v139, v140, v141, v142, v143] : Vector Sapi_Instr 5) 0 with Kind := 5 } : Sapi_Instr)) 3) (vx (⟨0, 0, 0, 0, 0, 0, false⟩ : Sapi_Instr) (vset (#v[v139, v140, v141, v142, v143] : Vector Sapi_Instr 5) 0 ({ vx (⟨0, 0, 0, 0, 0, 0, false⟩ : Sapi_Instr) (#v[v139, v140, v141, v142, v143] : Vector Sapi_Instr 5) 0 with Kind := 5 } : Sapi_Instr)) 4) else (if v145 = 1 then rivetlaw06_MachinePorts.j6 v145 v144 t99 (vx (⟨0, 0, 0, 0, 0, 0, false⟩ : Sapi_Instr) (vset (#v[v139, v140, v141, v142, v143] : Vector Sapi_Instr 5) 1 ({ vx (⟨0, 0, 0, 0, 0, 0, false⟩ : Sapi_Instr) (#v[v139, v140, v141, v142, v143] : Vector Sapi_Instr 5) 1 with Kind := 5 } : Sapi_Instr)) 0) (vx (⟨0, 0, 0, 0, 0, 0, false⟩ : Sapi_Instr) (vset (#v[v139, v140, v141, v142, v143] : Vector Sapi_Instr 5) 1 ({ vx (⟨0, 0, 0, 0, 0, 0, false⟩ : Sapi_Instr) (#v[v139, v140, v141, v142, v143] : Vector Sapi_Instr 5) 1 with Kind := 5 } : Sapi_Instr)) 1) (vx (⟨0, 0, 0, 0, 0, 0, false⟩ : Sapi_Instr) (vset (#v[v139, v140, v141, v142, v143] : Vector Sapi_Instr 5) 1 ({ vx (⟨0, 0, 0, 0, 0, 0, false⟩ : Sapi_Instr) (#v[v139, v140, v141, v142, v143] : Vector Sapi_Instr 5) 1 with Kind := 5 } : Sapi_Instr)) 2) (vx (⟨0, 0, 0, 0, 0, 0, false⟩ : Sapi_Instr) (vset (#v[v139, v140, v141, v142, v143] : Vector Sapi_Instr 5) 1 ({ vx (⟨0, 0, 0, 0, 0, 0, false⟩ : Sapi_Instr) (#v[v139, v140, v141, v142, v143] : Vector Sapi_Instr 5) 1 with Kind := 5 } : Sapi_Instr)) 3) (vx (⟨0, 0, 0, 0, 0, 0, false⟩ : Sapi_Instr) (vset (#v[v139, v140, v141, v142, v143] : Vector Sapi_Instr 5) 1 ({ vx (⟨0, 0, 0, 0, 0, 0, false⟩ : Sapi_Instr) (#v[v139, v140, v141, v142, v143] : Vector Sapi_Instr 5) 1 with Kind := 5 } : Sapi_Instr)) 4) else (if v145 = 2 then rivetlaw06_MachinePorts.j6 v145 v144 t99 (vx (⟨0, 0, 0, 0, 0, 0, false⟩ : Sapi_Instr) (vset (#v[v139, v140, v141, v142, v143] : Vector Sapi_Instr 5) 2 ({ vx (⟨0, 0, 0, 0, 0, 0, false⟩ : Sapi_Instr) (#v[v139, v140, v141, v142, v143] : Vector Sapi_Instr 5) 2 with Kind := 5 } : Sapi_Instr)) 0) (vx (⟨0, 0, 0, 0, 0, 0, false⟩ : Sapi_Instr) (vset (#v[v139, v140, v141, v142, v143] : Vector Sapi_Instr 5) 2 ({ vx (⟨0, 0, 0, 0, 0, 0, false⟩ : Sapi_Instr) (#v[v139, v140, v141, v142, v143] : Vector Sapi_Instr 5) 2 with Kind := 5 } : Sapi_Instr)) 1) (vx (⟨0, 0, 0, 0, 0, 0, false⟩ : Sapi_Instr) (vset (#v[v139, v140, v141, v142, v143] : Vector Sapi_Instr 5) 2 ({ vx (⟨0, 0, 0, 0, 0, 0, false⟩ : Sapi_Instr) (#v[v139, v140, v141, v142, v143] : Vector Sapi_Instr 5) 2 with Kind := 5 } : Sapi_Instr)) 2) (vx (⟨0, 0, 0, 0, 0, 0, false⟩ : Sapi_Instr) (vset (#v[v139, v140, v141, v142, v143] : Vector Sapi_Instr 5) 2 ({ vx (⟨0, 0, 0, 0, 0, 0, false⟩ : Sapi_Instr) (#v[v139, v140, v141, v142, v143] : Vector Sapi_Instr 5) 2 with Kind := 5 } : Sapi_Instr)) 3) (vx (⟨0, 0, 0, 0, 0, 0, false⟩ : Sapi_Instr) (vset (#v[v139, v140, v141, v142, v143] : Vector Sapi_Instr 5) 2 ({ vx (⟨0, 0, 0, 0, 0, 0, false⟩ : Sapi_Instr) (#v[v139, v140, v141, v142, v143] : Vector Sapi_Instr 5) 2 with Kind := 5 } : Sapi_Instr)) 4) else (if v145 = 3 then rivetlaw06_MachinePorts.j6 v145 v144 t99 (vx (⟨0, 0, 0, 0, 0, 0, false⟩ : Sapi_Instr) (vset (#v[v139, v140, v141, v142, v143] : Vector Sapi_Instr 5) 3 ({ vx (⟨0, 0, 0, 0, 0, 0, false⟩ : Sapi_Instr) (#v[v139, v140, v141, v142, v143] : Vector Sapi_Instr 5) 3 with Kind := 5 } : Sapi_Instr)) 0) (vx (⟨0, 0, 0, 0, 0, 0, false⟩ : Sapi_Instr) (vset (#v[v139, v140, v141, v142, v143] : Vector Sapi_Instr 5) 3 ({ vx (⟨0, 0, 0, 0, 0, 0, false⟩ : Sapi_Instr) (#v[v139, v140, v141, v142, v143] : Vector Sapi_Instr 5) 3 with Kind := 5 } : Sapi_Instr)) 1) (vx (⟨0, 0, 0, 0, 0, 0, false⟩ : Sapi_Instr) (vset (#v[v139, v140, v141, v142, v143] : Vector Sapi_Instr 5) 3 ({ vx (⟨0, 0, 0, 0, 0, 0, false⟩ : Sapi_Instr) (#v[v139, v140, v141, v142, v143] : Vector Sapi_Instr 5) 3 with Kind := 5 } : Sapi_Instr)) 2) (vx (⟨0, 0, 0, 0, 0, 0, false⟩ : Sapi_Instr) (vset (#v[v139, v140, v141, v142, v143] : Vector Sapi_Instr 5) 3 ({ vx (⟨0, 0, 0, 0, 0, 0, false⟩ : Sapi_Instr) (#v[v139, v140, v141, v142, v143] : Vector Sapi_Instr 5) 3 with Kind := 5 } : Sapi_Instr)) 3) (vx (⟨0, 0, 0, 0, 0, 0, false⟩ : Sapi_Instr) (vset (#v[v139, v140, v141, v142, v143] : Vector Sapi_Instr 5) 3 ({ vx (⟨0, 0, 0, 0, 0, 0, false⟩ : Sapi_Instr) (#v[v139, v140, v141, v142, v143] : Vector Sapi_Instr 5) 3 with Kind := 5 } : Sapi_Instr)) 4) else (if v145 = 4 then rivetlaw06_MachinePorts.j6 v145 v144 t99 (vx (⟨0, 0, 0, 0, 0, 0, false⟩ : Sapi_Instr) (vset (#v[v139, v140, v141, v142, v143] : Vector Sapi_Instr 5) 4 ({ vx (⟨0, 0, 0, 0, 0, 0, false⟩ : Sapi_Instr) (#v[v139, v140, v141, v142, v143] : Vector Sapi_Instr 5) 4 with Kind := 5 } : Sapi_Instr)) 0) (vx (⟨0, 0, 0, 0, 0, 0, false⟩ : Sapi_Instr) (vset (#v[v139, v140, v141, v142, v143] : Vector Sapi_Instr 5) 4 ({ vx (⟨0, 0, 0, 0, 0, 0, false⟩ : Sapi_Instr) (#v[v139, v140, v141, v142, v143] : Vector Sapi_Instr 5) 4 with Kind := 5 } : Sapi_Instr)) 1) (vx (⟨0, 0, 0, 0, 0, 0, false⟩ : Sapi_Instr) (vset (#v[v139, v140, v141, v142, v143] : Vector Sapi_Instr 5) 4 ({ vx (⟨0, 0, 0, 0, 0, 0, false⟩ : Sapi_Instr) (#v[v139, v140, v141, v142, v143] : Vector Sapi_Instr 5) 4 with Kind := 5 } : Sapi_Instr)) 2) (vx (⟨0, 0, 0, 0, 0, 0, false⟩ : Sapi_Instr) (vset (#v[v139, v140, v141, v142, v143] : Vector Sapi_Instr 5) 4 ({ vx (⟨0, 0, 0, 0, 0, 0, false⟩ : Sapi_Instr) (#v[v139, v140, v141, v142, v143] : Vector Sapi_Instr 5) 4 with Kind := 5 } : Sapi_Instr)) 3) (vx (⟨0, 0, 0, 0, 0, 0, false⟩ : Sapi_Instr) (vset (#v[v139, v140, v141, v142, v143] : Vector Sapi_Instr 5) 4 ({ vx (⟨0, 0, 0, 0, 0, 0, false⟩ : Sapi_Instr) (#v[v139, v140, v141, v142, v143] : Vector Sapi_Instr 5) 4 with Kind := 5 } : Sapi_Instr)) 4) else none))))) else none) else some (.inr (.done (vx (⟨0, 0, 0, 0, 0, 0, false⟩ : Sapi_Instr) (#v[v139, v140, v141, v142, v143] : Vector Sapi_Instr 5) 0, vx (⟨0, 0, 0, 0, 0, 0, false⟩ : Sapi_Instr) (#v[v139, v140, v141, v142, v143] : Vector Sapi_Instr 5) 1, vx (⟨0, 0, 0, 0, 0, 0, false⟩ : Sapi_Instr) (#v[v139, v140, v141, v142, v143] : Vector Sapi_Instr 5) 2, vx (⟨0, 0, 0, 0, 0, 0, false⟩ : Sapi_Instr) (#v[v139, v140, v141, v142, v143] : Vector Sapi_Instr 5) 3, vx (⟨0, 0, 0, 0, 0, 0, false⟩ : Sapi_Instr) (#v[v139, v140, v141, v142, v143] : Vector Sapi_Instr 5) 4, v144))))
noncomputable def rivetlaw06_MachinePorts.j11 (v331 : Smachine_Machine) (v332 : Bool) : Option Bool := some v332
noncomputable def rivetlaw06_MachinePorts.j10 (v269 : Sapi_Instr) (v270 : Sapi_Instr) (v271 : Sapi_Instr) (v272 : Sapi_Instr) (v273 : Sapi_Instr) (v274 : Smachine_Machine) : Option Bool := ((isa_Encode (⟨5, 2, 1, 0, 0, (-56), false⟩ : Sapi_Instr)).bind fun ⟨t277, t278⟩ => (((v274.Memory).bind fun y291 => (((memory_Memory_Place y291 0 ([t277] : List Int)).bind fun ⟨t300, t301⟩ => (((machine_Machine_Start (⟨(some t301), v274.s, v274.pc, v274.status, v274.in', v274.out⟩ : Smachine_Machine) 0 (⟨(Vector.replicate 16 0), 0, false, false, false, false⟩ : Sapi_Regs)).bind fun t307 => (((machine_Machine_Step t307).bind fun ⟨t313, t314⟩ => ((if t313 = 1 then ((machine_Machine_PC t314).bind fun t320 => ((if t320 = 4 then ((machine_Machine_Step t314).bind fun ⟨t326, t327⟩ => (rivetlaw06_MachinePorts.j11 t327 (t326 == 1))) else rivetlaw06_MachinePorts.j11 t314 false))) else rivetlaw06_MachinePorts.j11 t314 false)))))))))))
noncomputable def rivetlaw06_MachinePorts.j5 (t99 : List Int) (t90 : Smachine_Machine) : Option Bool := ((loopO (fun (σ : Sapi_Instr × Sapi_Instr × Sapi_Instr × Sapi_Instr × Sapi_Instr × Smachine_Machine × Int) => rivetlaw06_MachinePorts.b138 t99 σ.1 σ.2.1 σ.2.2.1 σ.2.2.2.1 σ.2.2.2.2.1 σ.2.2.2.2.2.1 σ.2.2.2.2.2.2) (vx (⟨0, 0, 0, 0, 0, 0, false⟩ : Sapi_Instr) (#v[(⟨0, 0, 0, 0, 0, (-60), false⟩ : Sapi_Instr), (⟨0, 2, 0, 0, 0, (-64), false⟩ : Sapi_Instr), (⟨0, 1, 0, 0, 0, (-64), false⟩ : Sapi_Instr), (⟨0, 3, 0, 0, 0, (-60), false⟩ : Sapi_Instr), (⟨0, 0, 0, 0, 0, (-56), false⟩ : Sapi_Instr)] : Vector Sapi_Instr 5) 0, vx (⟨0, 0, 0, 0, 0, 0, false⟩ : Sapi_Instr) (#v[(⟨0, 0, 0, 0, 0, (-60), false⟩ : Sapi_Instr), (⟨0, 2, 0, 0, 0, (-64), false⟩ : Sapi_Instr), (⟨0, 1, 0, 0, 0, (-64), false⟩ : Sapi_Instr), (⟨0, 3, 0, 0, 0, (-60), false⟩ : Sapi_Instr), (⟨0, 0, 0, 0, 0, (-56), false⟩ : Sapi_Instr)] : Vector Sapi_Instr 5) 1, vx (⟨0, 0, 0, 0, 0, 0, false⟩ : Sapi_Instr) (#v[(⟨0, 0, 0, 0, 0, (-60), false⟩ : Sapi_Instr), (⟨0, 2, 0, 0, 0, (-64), false⟩ : Sapi_Instr), (⟨0, 1, 0, 0, 0, (-64), false⟩ : Sapi_Instr), (⟨0, 3, 0, 0, 0, (-60), false⟩ : Sapi_Instr), (⟨0, 0, 0, 0, 0, (-56), false⟩ : Sapi_Instr)] : Vector Sapi_Instr 5) 2, vx (⟨0, 0, 0, 0, 0, 0, false⟩ : Sapi_Instr) (#v[(⟨0, 0, 0, 0, 0, (-60), false⟩ : Sapi_Instr), (⟨0, 2, 0, 0, 0, (-64), false⟩ : Sapi_Instr), (⟨0, 1, 0, 0, 0, (-64), false⟩ : Sapi_Instr), (⟨0, 3, 0, 0, 0, (-60), false⟩ : Sapi_Instr), (⟨0, 0, 0, 0, 0, (-56), false⟩ : Sapi_Instr)] : Vector Sapi_Instr 5) 3, vx (⟨0, 0, 0, 0, 0, 0, false⟩ : Sapi_Instr) (#v[(⟨0, 0, 0, 0, 0, (-60), false⟩ : Sapi_Instr), (⟨0, 2, 0, 0, 0, (-64), false⟩ : Sapi_Instr), (⟨0, 1, 0, 0, 0, (-64), false⟩ : Sapi_Instr), (⟨0, 3, 0, 0, 0, (-60), false⟩ : Sapi_Instr), (⟨0, 0, 0, 0, 0, (-56), false⟩ : Sapi_Instr)] : Vector Sapi_Instr 5) 4, t90, 0)).bind fun e => match e with | .ret x => some x | .done e => rivetlaw06_MachinePorts.j10 e.1 e.2.1 e.2.2.1 e.2.2.2.1 e.2.2.2.2.1 e.2.2.2.2.2)
noncomputable def rivetlaw06_MachinePorts.j4 (t99 : List Int) (t90 : Smachine_Machine) (v125 : Bool) : Option Bool := (if v125 = true then some false else rivetlaw06_MachinePorts.j5 t99 t90)
noncomputable def rivetlaw06_MachinePorts.j3 (t31 : List Int) (v85 : Smachine_Machine) : Option Bool := ((machine_Machine_Run v85 (w64 ((w64 (3 * (t31.length : Int))) + 6))).bind fun ⟨t89, t90⟩ => ((if t89 = 0 then ((machine_Machine_Out t90).bind fun t99 => ((if (t99.length : Int) = (w64 ((t31.length : Int) + 2)) then (if 0 ≤ (t31.length : Int) ∧ (t31.length : Int) ≤ (t99.length : Int) then ((rivetref05_Same (t99.take ((t31.length : Int) : Int).toNat) t31).bind fun t116 => ((if t116 = true then (if 0 ≤ (t31.length : Int) ∧ (t31.length : Int) < (t99.length : Int) then (if (ix (eI .u32).d t99 (t31.length : Int)) = 0 then (if 0 ≤ (w64 ((t31.length : Int) + 1)) ∧ (w64 ((t31.length : Int) + 1)) < (t99.length : Int) then rivetlaw06_MachinePorts.j4 t99 t90 ((ix (eI .u32).d t99 (w64 ((t31.length : Int) + 1))) != 0) else none) else rivetlaw06_MachinePorts.j4 t99 t90 true) else none) else rivetlaw06_MachinePorts.j4 t99 t90 true))) else none) else rivetlaw06_MachinePorts.j4 t99 t90 true))) else some false)))
noncomputable def rivetlaw06_MachinePorts.j2 (t31 : List Int) (v80 : Smachine_Machine) (v81 : Bool) : Option Bool := (if v81 = true then some false else rivetlaw06_MachinePorts.j3 t31 v80)
noncomputable def rivetlaw06_MachinePorts (l0 : List Int) : Option Bool := ((rivetlaw06_shown).bind fun t4 => (((isa_Encode (⟨5, 0, 1, 0, 0, (-64), false⟩ : Sapi_Instr)).bind fun ⟨t10, t11⟩ => (((isa_Encode (⟨5, 2, 1, 0, 0, (-60), false⟩ : Sapi_Instr)).bind fun ⟨t17, t18⟩ => (((isa_Encode (⟨7, 7, 0, 0, 0, (-3), false⟩ : Sapi_Instr)).bind fun ⟨t24, t25⟩ => (((rivetlaw06_few l0).bind fun t31 => (((machine_New 3 t31).bind fun ⟨t41, t42⟩ => ((match t41 with | none => (if t4 = true then rivetlaw06_MachinePorts.j1 else rivetlaw06_MachinePorts.j1) | some x48 => (if t4 = true then (if t42 = 0 then ((x48.Memory).bind fun y66 => (((memory_Memory_Place y66 0 ([t10, t17, t24] : List Int)).bind fun ⟨t75, t76⟩ => (rivetlaw06_MachinePorts.j2 t31 (⟨(some t76), x48.s, x48.pc, x48.status, x48.in', x48.out⟩ : Smachine_Machine) (t75 != 0))))) else rivetlaw06_MachinePorts.j2 t31 x48 true) else rivetlaw06_MachinePorts.j2 t31 x48 true))))))))))))))
set_option maxRecDepth 100000 in
set_option maxHeartbeats 4000000 in
theorem rivetlaw06_MachinePorts.calls (A0 : Option Addr) (c0 : Nat) (l0 : List Int) (r : Bool) (w0 : World) (hr0 : Rd w0 (eI .u32) A0 c0 l0) (H : rivetlaw06_MachinePorts l0 = some r) :
    Calls Try.prog 8 #[.slice A0 l0.length c0] w0 fun e w' => e = .returned (.bool r) ∧ St [] w0 w' [] := by
 have hw : St [] w0 w0 [] := St.nil w0
 unfold rivetlaw06_MachinePorts at H
 refine go_fn Try.func8 rfl Try.ntmps8 ?_; intro a hs
 refine go_sp [] [] hs ?_; clear hs; intro a hs
 refine go_sk fun K2 hK2 => ?_
 obtain ⟨t4, hx5, H⟩ := bind_some H
 refine go_call hs (by rfl) (rivetlaw06_shown.calls t4 _ hx5) ?_
 rintro e wd6 ⟨rfl, hw7⟩
 refine ⟨_, rfl, ?_⟩
 replace hw := hw.call hw7
 clear hs; intro a hs
 refine go_pvs 2 [20] [(3, .bool t4)] hs ?_; clear hs; intro a hs
 refine go_end (hK2 _ _ ?_)
 refine go_sk fun K8 hK8 => ?_
 refine go_pvs 1 [] [(22, .agg (eSapi_Instr.enc (⟨5, 0, 1, 0, 0, (-64), false⟩ : Sapi_Instr)).toArray)] hs ?_; clear hs; intro a hs
 obtain ⟨⟨t10, t11⟩, hx12, H⟩ := bind_some H
 refine go_call hs (by rfl) (isa_Encode.calls (⟨5, 0, 1, 0, 0, (-64), false⟩ : Sapi_Instr) (t10, t11) _ hx12) ?_
 rintro e wd13 ⟨rfl, hw14⟩
 refine ⟨_, rfl, ?_⟩
 replace hw := hw.call hw14
 clear hs; intro a hs; replace hs := hs.rms [22]
 refine go_pvs 7 [23] [(4, .int .u32 t10)] hs ?_; clear hs; intro a hs
 refine go_end (hK8 _ _ ?_)
 refine go_sk fun K15 hK15 => ?_
 refine go_pvs 1 [] [(27, .agg (eSapi_Instr.enc (⟨5, 2, 1, 0, 0, (-60), false⟩ : Sapi_Instr)).toArray)] hs ?_; clear hs; intro a hs
 obtain ⟨⟨t17, t18⟩, hx19, H⟩ := bind_some H
 refine go_call hs (by rfl) (isa_Encode.calls (⟨5, 2, 1, 0, 0, (-60), false⟩ : Sapi_Instr) (t17, t18) _ hx19) ?_
 rintro e wd20 ⟨rfl, hw21⟩
 refine ⟨_, rfl, ?_⟩
 replace hw := hw.call hw21
 clear hs; intro a hs; replace hs := hs.rms [27]
 refine go_pvs 7 [28] [(6, .int .u32 t17)] hs ?_; clear hs; intro a hs
 refine go_end (hK15 _ _ ?_)
 refine go_sk fun K22 hK22 => ?_
 refine go_pvs 1 [] [(32, .agg (eSapi_Instr.enc (⟨7, 7, 0, 0, 0, (-3), false⟩ : Sapi_Instr)).toArray)] hs ?_; clear hs; intro a hs
 obtain ⟨⟨t24, t25⟩, hx26, H⟩ := bind_some H
 refine go_call hs (by rfl) (isa_Encode.calls (⟨7, 7, 0, 0, 0, (-3), false⟩ : Sapi_Instr) (t24, t25) _ hx26) ?_
 rintro e wd27 ⟨rfl, hw28⟩
 refine ⟨_, rfl, ?_⟩
 replace hw := hw.call hw28
 clear hs; intro a hs; replace hs := hs.rms [32]
 refine go_pvs 7 [33] [(8, .int .u32 t24)] hs ?_; clear hs; intro a hs
 refine go_end (hK22 _ _ ?_)
 refine go_sk fun K29 hK29 => ?_
 refine go_pvs 1 [0] [(36, .slice A0 l0.length c0)] hs ?_; clear hs; intro a hs
 obtain ⟨t31, hx32, H⟩ := bind_some H
 refine go_call hs (by rfl) (rivetlaw06_few.calls A0 c0 l0 t31 _ (hr0.old hw) hx32) ?_
 rintro e wd35 ⟨Aa33, cc34, rfl, hc37, hw36⟩
 refine ⟨_, rfl, ?_⟩
 replace hw := hw.call hw36
 clear hs; intro a hs; replace hs := hs.rms [36]
 refine go_pvs 3 [37] [(10, .slice Aa33 t31.length cc34)] hs ?_; clear hs; intro a hs
 refine go_end (hK29 _ _ ?_)
 refine go_sk fun K39 hK39 => ?_
 refine go_pvs 1 [] [(39, .slice Aa33 t31.length cc34)] hs ?_; clear hs; intro a hs
 obtain ⟨⟨t41, t42⟩, hx43, H⟩ := bind_some H
 refine go_call hs (by rfl) (machine_New.calls 3 Aa33 cc34 t31 (t41, t42) _ (hc37 _ (hr0.old hw)) hx43) ?_
 rintro e wd45 ⟨Aa44, rfl, hw46⟩
 refine ⟨_, rfl, ?_⟩
 replace hw := hw.call hw46
 clear hs; intro a hs; replace hs := hs.rms [39]
 rcases t41 with _ | x48
 ·obtain ⟨hAg, hwg⟩ := St.oM_none hw
  clear hw; subst hAg; have hw := hwg; clear hwg
  refine go_pvs 7 [40] [(11, .pointer none), (12, .int .i64 t42)] hs ?_; clear hs; intro a hs
  refine go_end (hK39 _ _ ?_)
  refine go_seq_k fun K49 hK49 => ?_
  refine go_seq_k fun K50 hK50 => ?_
  have hJ1 : ∀ (a : Act) (w : World), Slots a 179 [(10, .slice Aa33 t31.length cc34), (11, .pointer none), (64, .bool true)] → St [] w0 w [] → rivetlaw06_MachinePorts.j1 = some r → K50 a w := by
   intro a w hs hw H
   unfold rivetlaw06_MachinePorts.j1 at H
   refine hK50 _ _ ?_
   refine go_cond hs true (fun hc => ?_) fun hc => ?_
   ·skip
    refine go_sp [10, 11, 64] [(2, .bool false)] hs ?_; clear hs; intro a hs
    refine wp_ret ?_
    refine th_ret ?_
    obtain rfl := Option.some.inj H
    refine ret1 (t := 2) (v := .bool false) hs (by kernel_rfl) (by kernel_rfl) ?_
    exact ⟨rfl, hw.only 0⟩
   ·cases hc
  refine go_region ?_
  refine go_pvs 3 [3] [(45, .bool (!t4))] hs ?_; clear hs; intro a hs
  cases hb51 : (!t4)
  ·replace H := ite_t H (nf hb51)
   rw [hb51] at hs
   refine go_pvs 22 [4, 6, 8, 12, 45] [(64, .bool true)] hs ?_; clear hs; intro a hs
   refine go_end ?_
   exact hJ1 _ _ hs.kx hw H
  ·replace H := ite_f H (ff (nt hb51))
   rw [hb51] at hs
   refine go_pvs 22 [4, 6, 8, 12, 45] [(64, .bool true)] hs ?_; clear hs; intro a hs
   refine go_end ?_
   exact hJ1 _ _ hs.kx hw H
 ·replace hw : St [] w0 _ [mSmachine_Machine Aa44 x48] := hw
  obtain ⟨g53, hAg, hwg⟩ := mSmachine_Machine.addr hw
  clear hw; subst hAg; have hw := hwg; clear hwg
  replace hw : St [] w0 _ [mSmachine_Machine (some ⟨g53, 0, none⟩) x48] := hw
  refine go_pvs 7 [40] [(11, .pointer (some (⟨g53, 0, none⟩ : Addr))), (12, .int .i64 t42)] hs ?_; clear hs; intro a hs
  refine go_end (hK39 _ _ ?_)
  refine go_seq_k fun K54 hK54 => ?_
  have hJ3 : ∀ (v85 : Smachine_Machine) (a : Act) (w : World), Slots a 179 [(10, .slice Aa33 t31.length cc34), (11, .pointer (some (⟨g53, 0, none⟩ : Addr)))] → St [] w0 w [mSmachine_Machine (some ⟨g53, 0, none⟩) v85] → rivetlaw06_MachinePorts.j3 t31 v85 = some r → K54 a w := by
   intro v85 a w hs hw H
   unfold rivetlaw06_MachinePorts.j3 at H
   refine hK54 _ _ ?_
   refine go_seq_k fun K86 hK86 => ?_
   refine go_sk fun K87 hK87 => ?_
   refine go_pvs 5 [] [(65, .pointer (some (⟨g53, 0, none⟩ : Addr))), (69, .int .i64 (w64 ((w64 (3 * (t31.length : Int))) + 6)))] hs ?_; clear hs; intro a hs
   obtain ⟨ks88, hgks88, hstks88, hbkks88⟩ := hw.lend 1
   obtain ⟨⟨t89, t90⟩, hx91, H⟩ := bind_some H
   refine go_call hs (by rfl) (machine_Machine_Run.calls ks88 (some ⟨g53, 0, none⟩) v85 (w64 ((w64 (3 * (t31.length : Int))) + 6)) (t89, t90) _ hgks88 hx91) ?_
   rintro e wd92 ⟨rfl, hw93⟩
   refine ⟨_, rfl, ?_⟩
   replace hw := hbkks88 _ _ hw93
   replace hw : St [] w0 wd92 [mSmachine_Machine (some ⟨g53, 0, none⟩) t90] := hw
   clear hs; intro a hs; replace hs := hs.rms [65, 69]
   refine go_pvs 7 [70] [(71, .bool (t89 != 0))] hs ?_; clear hs; intro a hs
   refine go_end (hK87 _ _ ?_)
   refine go_cond hs (t89 != 0) (fun hc => ?_) fun hc => ?_
   ·replace H := ite_f H (bne_iff_ne.1 hc)
    have hb94 := hc
    rw [hb94] at hs
    refine go_sp [10, 11, 71] [(2, .bool false)] hs ?_; clear hs; intro a hs
    refine wp_ret ?_
    refine th_ret ?_
    obtain rfl := Option.some.inj H
    refine ret1 (t := 2) (v := .bool false) hs (by kernel_rfl) (by kernel_rfl) ?_
    exact ⟨rfl, hw.only 0⟩
   ·replace H := ite_t H (bne_eq_false_iff_eq.1 hc)
    have hb96 := hc
    rw [hb96] at hs
    refine wp_skip ?_
    refine hK86 _ _ ?_
    refine go_sk fun K97 hK97 => ?_
    refine go_pvs 1 [71] [(72, .pointer (some (⟨g53, 0, none⟩ : Addr)))] hs ?_; clear hs; intro a hs
    obtain ⟨t99, hx100, H⟩ := bind_some H
    refine go_call hs (by rfl) (machine_Machine_Out.calls (some ⟨g53, 0, none⟩) t90 t99 _ (rSmachine_Machine.of_m (hw.up 0)) hx100) ?_
    rintro e wd103 ⟨Aa101, cc102, rfl, hw104⟩
    refine ⟨_, rfl, ?_⟩
    replace hw := hw.call hw104
    clear hs; intro a hs; replace hs := hs.rms [72]
    refine go_pvs 3 [73] [(13, .slice Aa101 t99.length cc102)] hs ?_; clear hs; intro a hs
    refine go_end (hK97 _ _ ?_)
    refine go_seq_k fun K106 hK106 => ?_
    have hJ5 : ∀ (a : Act) (w : World), Slots a 179 [(11, .pointer (some (⟨g53, 0, none⟩ : Addr))), (13, .slice Aa101 t99.length cc102)] → St [] w0 w [own 23 (eI .u32) Aa101 cc102 t99, mSmachine_Machine (some ⟨g53, 0, none⟩) t90] → rivetlaw06_MachinePorts.j5 t99 t90 = some r → K106 a w := by
     intro a w hs hw H
     unfold rivetlaw06_MachinePorts.j5 at H
     refine hK106 _ _ ?_
     refine go_sk fun K129 hK129 => ?_
     refine go_pvs 6 [] [(111, .agg (eA66.enc (#v[(⟨0, 0, 0, 0, 0, (-60), false⟩ : Sapi_Instr), (⟨0, 2, 0, 0, 0, (-64), false⟩ : Sapi_Instr), (⟨0, 1, 0, 0, 0, (-64), false⟩ : Sapi_Instr), (⟨0, 3, 0, 0, 0, (-60), false⟩ : Sapi_Instr), (⟨0, 0, 0, 0, 0, (-56), false⟩ : Sapi_Instr)] : Vector Sapi_Instr 5)).toArray)] hs ?_; clear hs; intro a hs
     obtain ⟨ad130, wd131, hx132, hw⟩ := x_alloc1 (P := Try.prog) (elem := 66) (ty := 0) (z := .agg (eA66.enc (Vector.replicate 5 (⟨0, 0, 0, 0, 0, 0, false⟩ : Sapi_Instr))).toArray) hs hw eA66 (Vector.replicate 5 (⟨0, 0, 0, 0, 0, 0, false⟩ : Sapi_Instr)) (by kernel_rfl) (by kernel_rfl)
     refine go_run hs (by rfl) hx132 [] ?_; clear hs; intro a hs
     obtain ⟨wd134, hx135, hw⟩ := x_put (P := Try.prog) (ty := 0) (t := 66) (x := (Operand.tmp 14)) (y := (Operand.tmp 111)) (off := 0) (p := ad130) (v := .agg (eA66.enc (#v[(⟨0, 0, 0, 0, 0, (-60), false⟩ : Sapi_Instr), (⟨0, 2, 0, 0, 0, (-64), false⟩ : Sapi_Instr), (⟨0, 1, 0, 0, 0, (-64), false⟩ : Sapi_Instr), (⟨0, 3, 0, 0, 0, (-60), false⟩ : Sapi_Instr), (⟨0, 0, 0, 0, 0, (-56), false⟩ : Sapi_Instr)] : Vector Sapi_Instr 5)).toArray) (vs := (eA66.enc (#v[(⟨0, 0, 0, 0, 0, (-60), false⟩ : Sapi_Instr), (⟨0, 2, 0, 0, 0, (-64), false⟩ : Sapi_Instr), (⟨0, 1, 0, 0, 0, (-64), false⟩ : Sapi_Instr), (⟨0, 3, 0, 0, 0, (-60), false⟩ : Sapi_Instr), (⟨0, 0, 0, 0, 0, (-56), false⟩ : Sapi_Instr)] : Vector Sapi_Instr 5))) (i := 0) (e' := ((#v[(⟨0, 0, 0, 0, 0, (-60), false⟩ : Sapi_Instr), (⟨0, 2, 0, 0, 0, (-64), false⟩ : Sapi_Instr), (⟨0, 1, 0, 0, 0, (-64), false⟩ : Sapi_Instr), (⟨0, 3, 0, 0, 0, (-60), false⟩ : Sapi_Instr), (⟨0, 0, 0, 0, 0, (-56), false⟩ : Sapi_Instr)] : Vector Sapi_Instr 5) : Vector Sapi_Instr 5)) hs hw rfl (one_ok (Vector.replicate 5 (⟨0, 0, 0, 0, 0, 0, false⟩ : Sapi_Instr))).1 (one_ok (Vector.replicate 5 (⟨0, 0, 0, 0, 0, 0, false⟩ : Sapi_Instr))).2 (by kernel_rfl) (one_at _ _) (by kernel_rfl) rfl (by kernel_rfl) (Nat.le_of_ble_eq_true rfl) (eA66.one _) (by kernel_rfl)
     refine go_unit hs (by rfl) hx135 [111] ?_; clear hs; intro a hs
     replace hw : St [] w0 wd134 [own 66 eA66 (some ad130) 1 [(#v[(⟨0, 0, 0, 0, 0, (-60), false⟩ : Sapi_Instr), (⟨0, 2, 0, 0, 0, (-64), false⟩ : Sapi_Instr), (⟨0, 1, 0, 0, 0, (-64), false⟩ : Sapi_Instr), (⟨0, 3, 0, 0, 0, (-60), false⟩ : Sapi_Instr), (⟨0, 0, 0, 0, 0, (-56), false⟩ : Sapi_Instr)] : Vector Sapi_Instr 5)], own 23 (eI .u32) Aa101 cc102 t99, mSmachine_Machine (some ⟨g53, 0, none⟩) t90] := hw
     refine go_end (hK129 _ _ ?_)
     refine go_seq_k fun K136 hK136 => ?_
     refine go_sp [] [(15, .int .i64 0)] hs ?_; clear hs; intro a hs
     refine wp_block ?_
     obtain ⟨e138, hl138, HX138⟩ := bind_some H
     have hJ10 : ∀ (v269 : Sapi_Instr) (v270 : Sapi_Instr) (v271 : Sapi_Instr) (v272 : Sapi_Instr) (v273 : Sapi_Instr) (v274 : Smachine_Machine) (a : Act) (w : World), Slots a 179 [(11, .pointer (some (⟨g53, 0, none⟩ : Addr)))] → St [] w0 w [own 66 eA66 (some ad130) 1 [(#v[v269, v270, v271, v272, v273] : Vector Sapi_Instr 5)], own 23 (eI .u32) Aa101 cc102 t99, mSmachine_Machine (some ⟨g53, 0, none⟩) v274] → rivetlaw06_MachinePorts.j10 v269 v270 v271 v272 v273 v274 = some r → K136 a w := by
      intro v269 v270 v271 v272 v273 v274 a w hs hw H
      unfold rivetlaw06_MachinePorts.j10 at H
      refine hK136 _ _ ?_
      refine go_sk fun K275 hK275 => ?_
      refine go_pvs 1 [] [(152, .agg (eSapi_Instr.enc (⟨5, 2, 1, 0, 0, (-56), false⟩ : Sapi_Instr)).toArray)] hs ?_; clear hs; intro a hs
      obtain ⟨⟨t277, t278⟩, hx279, H⟩ := bind_some H
      refine go_call hs (by rfl) (isa_Encode.calls (⟨5, 2, 1, 0, 0, (-56), false⟩ : Sapi_Instr) (t277, t278) _ hx279) ?_
      rintro e wd280 ⟨rfl, hw281⟩
      refine ⟨_, rfl, ?_⟩
      replace hw := hw.call hw281
      clear hs; intro a hs; replace hs := hs.rms [152]
      refine go_pvs 7 [153] [(18, .int .u32 t277)] hs ?_; clear hs; intro a hs
      refine go_end (hK275 _ _ ?_)
      refine go_sk fun K282 hK282 => ?_
      refine go_pvs 3 [] [(158, .pointer (some (⟨g53, 0, none⟩ : Addr)))] hs ?_; clear hs; intro a hs
      replace hw := hw.up 2
      obtain ⟨Aa283, Aa285, cc286, Aa288, cc289, hw⟩ := mSmachine_Machine.open1 hw
      replace hw : St [] w0 _ [box g53 40 ([.pointer Aa283] ++ eSapi_Regs.enc v274.s ++ [.int .u32 v274.pc, .int .i64 v274.status, .slice Aa285 v274.in'.length cc286, .slice Aa288 v274.out.length cc289]), oM mSmemory_Memory Aa283 v274.Memory, rdo (eI .u32) Aa285 cc286 v274.in', own 23 (eI .u32) Aa288 cc289 v274.out, own 66 eA66 (some ad130) 1 [(#v[v269, v270, v271, v272, v273] : Vector Sapi_Instr 5)], own 23 (eI .u32) Aa101 cc102 t99] := hw
      replace hw := hw.up 1
      obtain ⟨y291, hy292, H⟩ := bind_some H
      replace hw := St.oM_some hw hy292
      obtain ⟨g293, hAg, hwg⟩ := St.one hw
      clear hw; subst hAg; have hw := hwg; clear hwg
      replace hw : St [] w0 _ [own 75 eSmemory_Memory (some (⟨g293, 0, none⟩ : Addr)) 1 [y291], box g53 40 ([.pointer (some (⟨g293, 0, none⟩ : Addr))] ++ eSapi_Regs.enc v274.s ++ [.int .u32 v274.pc, .int .i64 v274.status, .slice Aa285 v274.in'.length cc286, .slice Aa288 v274.out.length cc289]), rdo (eI .u32) Aa285 cc286 v274.in', own 23 (eI .u32) Aa288 cc289 v274.out, own 66 eA66 (some ad130) 1 [(#v[v269, v270, v271, v272, v273] : Vector Sapi_Instr 5)], own 23 (eI .u32) Aa101 cc102 t99] := hw
      refine go_run hs (by rfl) (x_bld (g := g53) (o := 0) (p := (⟨g53, 0, none⟩ : Addr)) (v := .pointer (some (⟨g293, 0, none⟩ : Addr))) (hw.up 1)) [158] ?_; clear hs; intro a hs
      refine go_pvs 5 [18] [(160, .int .u32 t277)] hs ?_; clear hs; intro a hs
      obtain ⟨Aa294, cc295, wd296, hx297, hw⟩ := n_lit (P := Try.prog) (t := 22) (ty := 22) (T := 23) (len := 1) (parts := #[(0, (Operand.tmp 160))]) (z := .int .u32 0) (bytes := 4) (cells := #[.int .u32 t277]) hs hw (eI .u32) ([t277] : List Int) (by kernel_rfl) (by kernel_rfl) (by kernel_rfl) (by kernel_rfl) (by kernel_rfl) (by kernel_rfl) (by kernel_rfl)
      refine go_run hs (by rfl) hx297 [160] ?_; clear hs; intro a hs
      replace hw := hw.up 1
      obtain ⟨ks299, hgks299, hstks299, hbkks299⟩ := hw.lend 1
      obtain ⟨⟨t300, t301⟩, hx302, H⟩ := bind_some H
      refine go_call hs (by rfl) (memory_Memory_Place.calls ks299 (some (⟨g293, 0, none⟩ : Addr)) y291 0 Aa294 cc295 ([t277] : List Int) (t300, t301) _ hgks299 (fun wz hkz => (Rd.of_own ((hstks299 _ hkz).up 0))) hx302) ?_
      rintro e wd303 ⟨rfl, hw304⟩
      refine ⟨_, rfl, ?_⟩
      replace hw := hbkks299 _ _ hw304
      replace hw : St [] w0 _ [own 75 eSmemory_Memory (some (⟨g293, 0, none⟩ : Addr)) 1 [t301], own 23 (eI .u32) Aa294 cc295 ([t277] : List Int), box g53 40 ([.pointer (some (⟨g293, 0, none⟩ : Addr))] ++ eSapi_Regs.enc v274.s ++ [.int .u32 v274.pc, .int .i64 v274.status, .slice Aa285 v274.in'.length cc286, .slice Aa288 v274.out.length cc289]), rdo (eI .u32) Aa285 cc286 v274.in', own 23 (eI .u32) Aa288 cc289 v274.out, own 66 eA66 (some ad130) 1 [(#v[v269, v270, v271, v272, v273] : Vector Sapi_Instr 5)], own 23 (eI .u32) Aa101 cc102 t99] := hw
      clear hs; intro a hs; replace hs := hs.rms [159, 161, 162]
      refine go_end (hK282 _ _ ?_)
      refine go_sk fun K305 hK305 => ?_
      refine go_pvs 2 [] [(163, .pointer (some (⟨g53, 0, none⟩ : Addr))), (164, .agg (eSapi_Regs.enc (⟨(Vector.replicate 16 0), 0, false, false, false, false⟩ : Sapi_Regs)).toArray)] hs ?_; clear hs; intro a hs
      replace hw := St.oM_of (m := mSmemory_Memory) (A := (some (⟨g293, 0, none⟩ : Addr))) (x := t301) hw
      replace hw := hw.up 4
      replace hw := hw.up 4
      replace hw := hw.up 2
      replace hw := hw.up 4
      replace hw := mSmachine_Machine.close (x := (⟨(some t301), v274.s, v274.pc, v274.status, v274.in', v274.out⟩ : Smachine_Machine)) hw
      obtain ⟨ks306, hgks306, hstks306, hbkks306⟩ := hw.lend 1
      obtain ⟨t307, hx308, H⟩ := bind_some H
      refine go_call hs (by rfl) (machine_Machine_Start.calls ks306 (some ⟨g53, 0, none⟩) (⟨(some t301), v274.s, v274.pc, v274.status, v274.in', v274.out⟩ : Smachine_Machine) 0 (⟨(Vector.replicate 16 0), 0, false, false, false, false⟩ : Sapi_Regs) t307 _ hgks306 hx308) ?_
      rintro e wd309 ⟨rfl, hw310⟩
      refine ⟨_, rfl, ?_⟩
      replace hw := hbkks306 _ _ hw310
      replace hw : St [] w0 wd309 [mSmachine_Machine (some ⟨g53, 0, none⟩) t307, own 23 (eI .u32) Aa294 cc295 ([t277] : List Int), own 66 eA66 (some ad130) 1 [(#v[v269, v270, v271, v272, v273] : Vector Sapi_Instr 5)], own 23 (eI .u32) Aa101 cc102 t99] := hw
      clear hs; intro a hs; replace hs := hs.rms [163, 164, 165]
      refine go_end (hK305 _ _ ?_)
      refine go_seq_k fun K311 hK311 => ?_
      have hJ11 : ∀ (v331 : Smachine_Machine) (v332 : Bool) (a : Act) (w : World), Slots a 179 [(2, .bool v332)] → St [] w0 w [mSmachine_Machine (some ⟨g53, 0, none⟩) v331, own 23 (eI .u32) Aa294 cc295 ([t277] : List Int), own 66 eA66 (some ad130) 1 [(#v[v269, v270, v271, v272, v273] : Vector Sapi_Instr 5)], own 23 (eI .u32) Aa101 cc102 t99] → rivetlaw06_MachinePorts.j11 v331 v332 = some r → K311 a w := by
       intro v331 v332 a w hs hw H
       unfold rivetlaw06_MachinePorts.j11 at H
       refine hK311 _ _ ?_
       refine wp_ret ?_
       obtain rfl := Option.some.inj H
       refine ret1 (t := 2) (v := .bool v332) hs (by kernel_rfl) (by kernel_rfl) ?_
       exact ⟨rfl, hw.only 0⟩
      refine go_region ?_
      refine go_pvs 1 [] [(166, .pointer (some (⟨g53, 0, none⟩ : Addr)))] hs ?_; clear hs; intro a hs
      obtain ⟨ks312, hgks312, hstks312, hbkks312⟩ := hw.lend 1
      obtain ⟨⟨t313, t314⟩, hx315, H⟩ := bind_some H
      refine go_call hs (by rfl) (machine_Machine_Step.calls ks312 (some ⟨g53, 0, none⟩) t307 (t313, t314) _ hgks312 hx315) ?_
      rintro e wd316 ⟨rfl, hw317⟩
      refine ⟨_, rfl, ?_⟩
      replace hw := hbkks312 _ _ hw317
      replace hw : St [] w0 wd316 [mSmachine_Machine (some ⟨g53, 0, none⟩) t314, own 23 (eI .u32) Aa294 cc295 ([t277] : List Int), own 66 eA66 (some ad130) 1 [(#v[v269, v270, v271, v272, v273] : Vector Sapi_Instr 5)], own 23 (eI .u32) Aa101 cc102 t99] := hw
      clear hs; intro a hs; replace hs := hs.rms [166]
      refine go_pvs 4 [167] [(169, .bool (t313 == 1))] hs ?_; clear hs; intro a hs
      cases hb318 : (t313 == 1)
      ·replace H := ite_f H (beq_eq_false_iff_ne.1 hb318)
       rw [hb318] at hs
       refine go_pvs 14 [11, 169] [(2, .bool false)] hs ?_; clear hs; intro a hs
       refine go_end ?_
       replace hw := hw.up 3
       replace hw := hw.up 3
       replace hw := hw.up 3
       replace hw := hw.up 3
       exact hJ11 t314 false _ _ hs.kx hw H
      ·replace H := ite_t H (beq_iff_eq.1 hb318)
       rw [hb318] at hs
       refine go_pvs 5 [] [(170, .pointer (some (⟨g53, 0, none⟩ : Addr)))] hs ?_; clear hs; intro a hs
       obtain ⟨t320, hx321, H⟩ := bind_some H
       refine go_call hs (by rfl) (machine_Machine_PC.calls (some ⟨g53, 0, none⟩) t314 t320 _ (rSmachine_Machine.of_m (hw.up 0)) hx321) ?_
       rintro e wd322 ⟨rfl, hw323⟩
       refine ⟨_, rfl, ?_⟩
       replace hw := hw.call hw323
       clear hs; intro a hs; replace hs := hs.rms [170]
       refine go_pvs 9 [169, 171] [(174, .bool (t320 == 4))] hs ?_; clear hs; intro a hs
       cases hb324 : (t320 == 4)
       ·replace H := ite_f H (beq_eq_false_iff_ne.1 hb324)
        rw [hb324] at hs
        refine go_pvs 14 [11, 174] [(2, .bool false)] hs ?_; clear hs; intro a hs
        refine go_end ?_
        replace hw := hw.up 3
        replace hw := hw.up 3
        replace hw := hw.up 3
        replace hw := hw.up 3
        exact hJ11 t314 false _ _ hs.kx hw H
       ·replace H := ite_t H (beq_iff_eq.1 hb324)
        rw [hb324] at hs
        refine go_pvs 10 [11] [(175, .pointer (some (⟨g53, 0, none⟩ : Addr)))] hs ?_; clear hs; intro a hs
        obtain ⟨ks325, hgks325, hstks325, hbkks325⟩ := hw.lend 1
        obtain ⟨⟨t326, t327⟩, hx328, H⟩ := bind_some H
        refine go_call hs (by rfl) (machine_Machine_Step.calls ks325 (some ⟨g53, 0, none⟩) t314 (t326, t327) _ hgks325 hx328) ?_
        rintro e wd329 ⟨rfl, hw330⟩
        refine ⟨_, rfl, ?_⟩
        replace hw := hbkks325 _ _ hw330
        replace hw : St [] w0 wd329 [mSmachine_Machine (some ⟨g53, 0, none⟩) t327, own 23 (eI .u32) Aa294 cc295 ([t277] : List Int), own 66 eA66 (some ad130) 1 [(#v[v269, v270, v271, v272, v273] : Vector Sapi_Instr 5)], own 23 (eI .u32) Aa101 cc102 t99] := hw
        clear hs; intro a hs; replace hs := hs.rms [175]
        refine go_pvs 14 [174, 176] [(2, .bool (t326 == 1))] hs ?_; clear hs; intro a hs
        refine go_end ?_
        replace hw := hw.up 3
        replace hw := hw.up 3
        replace hw := hw.up 3
        replace hw := hw.up 3
        exact hJ11 t327 (t326 == 1) _ _ hs.kx hw H
     clear H
     refine go_loop (σ := Sapi_Instr × Sapi_Instr × Sapi_Instr × Sapi_Instr × Sapi_Instr × Smachine_Machine × Int) (fun σ a w => Slots a 179 [(11, .pointer (some (⟨g53, 0, none⟩ : Addr))), (13, .slice Aa101 t99.length cc102), (14, .pointer (some ad130)), (15, .int .i64 σ.2.2.2.2.2.2)] ∧ St [] w0 w [own 66 eA66 (some ad130) 1 [(#v[σ.1, σ.2.1, σ.2.2.1, σ.2.2.2.1, σ.2.2.2.2.1] : Vector Sapi_Instr 5)], own 23 (eI .u32) Aa101 cc102 t99, mSmachine_Machine (some ⟨g53, 0, none⟩) σ.2.2.2.2.2.1]) hl138 (by exact ⟨hs.kx, hw⟩) ?_
     rintro ⟨v139, v140, v141, v142, v143, v144, v145⟩ a w ⟨hs, hw⟩ o H hr138
     replace hs : Slots a 179 [(11, .pointer (some (⟨g53, 0, none⟩ : Addr))), (13, .slice Aa101 t99.length cc102), (14, .pointer (some ad130)), (15, .int .i64 v145)] := hs
     replace hw : St [] w0 w [own 66 eA66 (some ad130) 1 [(#v[v139, v140, v141, v142, v143] : Vector Sapi_Instr 5)], own 23 (eI .u32) Aa101 cc102 t99, mSmachine_Machine (some ⟨g53, 0, none⟩) v144] := hw
     replace H : rivetlaw06_MachinePorts.b138 t99 v139 v140 v141 v142 v143 v144 v145 = some o := H
     unfold rivetlaw06_MachinePorts.b138 at H
     refine go_seq_k fun K146 hK146 => ?_
     refine go_sp [] [(113, .bool (decide (v145 < 5)))] hs ?_; clear hs; intro a hs
     refine go_cond hs (decide (v145 < 5)) (fun hc => ?_) fun hc => ?_
     ·replace H := ite_t H (of_decide_eq_true hc)
      have hb148 := hc
      rw [hb148] at hs
      refine wp_skip ?_
      refine hK146 _ _ ?_
      refine go_seq_k fun K149 hK149 => ?_
      have hJ9 : ∀ (v262 : Sapi_Instr) (v263 : Sapi_Instr) (v264 : Sapi_Instr) (v265 : Sapi_Instr) (v266 : Sapi_Instr) (v267 : Smachine_Machine) (a : Act) (w : World), Slots a 179 [(11, .pointer (some (⟨g53, 0, none⟩ : Addr))), (13, .slice Aa101 t99.length cc102), (14, .pointer (some ad130)), (15, .int .i64 v145)] → St [] w0 w [own 66 eA66 (some ad130) 1 [(#v[v262, v263, v264, v265, v266] : Vector Sapi_Instr 5)], own 23 (eI .u32) Aa101 cc102 t99, mSmachine_Machine (some ⟨g53, 0, none⟩) v267] → rivetlaw06_MachinePorts.j9 v145 v262 v263 v264 v265 v266 v267 = some o → K149 a w := by
       intro v262 v263 v264 v265 v266 v267 a w hs hw H
       unfold rivetlaw06_MachinePorts.j9 at H
       refine hK149 _ _ ?_
       refine go_plain [] [(15, .int .i64 (w64 (v145 + 1)))] hs ?_; clear hs; intro a hs
       replace hw := hw.up 2
       replace hw := hw.up 2
       replace hw := hw.up 2
       exact round_end (vx (⟨0, 0, 0, 0, 0, 0, false⟩ : Sapi_Instr) (#v[v262, v263, v264, v265, v266] : Vector Sapi_Instr 5) 0, vx (⟨0, 0, 0, 0, 0, 0, false⟩ : Sapi_Instr) (#v[v262, v263, v264, v265, v266] : Vector Sapi_Instr 5) 1, vx (⟨0, 0, 0, 0, 0, 0, false⟩ : Sapi_Instr) (#v[v262, v263, v264, v265, v266] : Vector Sapi_Instr 5) 2, vx (⟨0, 0, 0, 0, 0, 0, false⟩ : Sapi_Instr) (#v[v262, v263, v264, v265, v266] : Vector Sapi_Instr 5) 3, vx (⟨0, 0, 0, 0, 0, 0, false⟩ : Sapi_Instr) (#v[v262, v263, v264, v265, v266] : Vector Sapi_Instr 5) 4, v267, w64 (v145 + 1)) (Option.some.inj H).symm ⟨hs.kx, hw⟩
      refine wp_block ?_
      refine go_seq_k fun K150 hK150 => ?_
      have hJ6 : ∀ (v167 : Sapi_Instr) (v168 : Sapi_Instr) (v169 : Sapi_Instr) (v170 : Sapi_Instr) (v171 : Sapi_Instr) (a : Act) (w : World), Slots a 179 [(11, .pointer (some (⟨g53, 0, none⟩ : Addr))), (13, .slice Aa101 t99.length cc102), (14, .pointer (some ad130)), (15, .int .i64 v145)] → St [] w0 w [own 66 eA66 (some ad130) 1 [(#v[v167, v168, v169, v170, v171] : Vector Sapi_Instr 5)], own 23 (eI .u32) Aa101 cc102 t99, mSmachine_Machine (some ⟨g53, 0, none⟩) v144] → rivetlaw06_MachinePorts.j6 v145 v144 t99 v167 v168 v169 v170 v171 = some o → K150 a w := by
       intro v167 v168 v169 v170 v171 a w hs hw H
       unfold rivetlaw06_MachinePorts.j6 at H
       refine hK150 _ _ ?_
       refine go_seq_k fun K172 hK172 => ?_
       have hJ7 : ∀ (v209 : Int) (v210 : Int) (a : Act) (w : World), Slots a 179 [(11, .pointer (some (⟨g53, 0, none⟩ : Addr))), (13, .slice Aa101 t99.length cc102), (14, .pointer (some ad130)), (15, .int .i64 v145), (16, .int .u32 v209), (17, .int .i64 v210)] → St [] w0 w [own 66 eA66 (some ad130) 1 [(#v[v167, v168, v169, v170, v171] : Vector Sapi_Instr 5)], own 23 (eI .u32) Aa101 cc102 t99, mSmachine_Machine (some ⟨g53, 0, none⟩) v144] → rivetlaw06_MachinePorts.j7 v144 v145 v167 v168 v169 v170 v171 t99 v209 v210 = some o → K172 a w := by
        intro v209 v210 a w hs hw H
        unfold rivetlaw06_MachinePorts.j7 at H
        refine hK172 _ _ ?_
        refine go_sk fun K211 hK211 => ?_
        refine go_pvs 3 [] [(128, .pointer (some (⟨g53, 0, none⟩ : Addr)))] hs ?_; clear hs; intro a hs
        replace hw := hw.up 2
        obtain ⟨Aa212, Aa214, cc215, Aa217, cc218, hw⟩ := mSmachine_Machine.open1 hw
        replace hw : St [] w0 _ [box g53 40 ([.pointer Aa212] ++ eSapi_Regs.enc v144.s ++ [.int .u32 v144.pc, .int .i64 v144.status, .slice Aa214 v144.in'.length cc215, .slice Aa217 v144.out.length cc218]), oM mSmemory_Memory Aa212 v144.Memory, rdo (eI .u32) Aa214 cc215 v144.in', own 23 (eI .u32) Aa217 cc218 v144.out, own 66 eA66 (some ad130) 1 [(#v[v167, v168, v169, v170, v171] : Vector Sapi_Instr 5)], own 23 (eI .u32) Aa101 cc102 t99] := hw
        replace hw := hw.up 1
        obtain ⟨y220, hy221, H⟩ := bind_some H
        replace hw := St.oM_some hw hy221
        obtain ⟨g222, hAg, hwg⟩ := St.one hw
        clear hw; subst hAg; have hw := hwg; clear hwg
        replace hw : St [] w0 _ [own 75 eSmemory_Memory (some (⟨g222, 0, none⟩ : Addr)) 1 [y220], box g53 40 ([.pointer (some (⟨g222, 0, none⟩ : Addr))] ++ eSapi_Regs.enc v144.s ++ [.int .u32 v144.pc, .int .i64 v144.status, .slice Aa214 v144.in'.length cc215, .slice Aa217 v144.out.length cc218]), rdo (eI .u32) Aa214 cc215 v144.in', own 23 (eI .u32) Aa217 cc218 v144.out, own 66 eA66 (some ad130) 1 [(#v[v167, v168, v169, v170, v171] : Vector Sapi_Instr 5)], own 23 (eI .u32) Aa101 cc102 t99] := hw
        refine go_run hs (by rfl) (x_bld (g := g53) (o := 0) (p := (⟨g53, 0, none⟩ : Addr)) (v := .pointer (some (⟨g222, 0, none⟩ : Addr))) (hw.up 1)) [128] ?_; clear hs; intro a hs
        refine go_pvs 5 [16] [(130, .int .u32 v209)] hs ?_; clear hs; intro a hs
        obtain ⟨Aa223, cc224, wd225, hx226, hw⟩ := n_lit (P := Try.prog) (t := 22) (ty := 22) (T := 23) (len := 1) (parts := #[(0, (Operand.tmp 130))]) (z := .int .u32 0) (bytes := 4) (cells := #[.int .u32 v209]) hs hw (eI .u32) ([v209] : List Int) (by kernel_rfl) (by kernel_rfl) (by kernel_rfl) (by kernel_rfl) (by kernel_rfl) (by kernel_rfl) (by kernel_rfl)
        refine go_run hs (by rfl) hx226 [130] ?_; clear hs; intro a hs
        replace hw := hw.up 1
        obtain ⟨ks228, hgks228, hstks228, hbkks228⟩ := hw.lend 1
        obtain ⟨⟨t229, t230⟩, hx231, H⟩ := bind_some H
        refine go_call hs (by rfl) (memory_Memory_Place.calls ks228 (some (⟨g222, 0, none⟩ : Addr)) y220 0 Aa223 cc224 ([v209] : List Int) (t229, t230) _ hgks228 (fun wz hkz => (Rd.of_own ((hstks228 _ hkz).up 0))) hx231) ?_
        rintro e wd232 ⟨rfl, hw233⟩
        refine ⟨_, rfl, ?_⟩
        replace hw := hbkks228 _ _ hw233
        replace hw : St [] w0 _ [own 75 eSmemory_Memory (some (⟨g222, 0, none⟩ : Addr)) 1 [t230], own 23 (eI .u32) Aa223 cc224 ([v209] : List Int), box g53 40 ([.pointer (some (⟨g222, 0, none⟩ : Addr))] ++ eSapi_Regs.enc v144.s ++ [.int .u32 v144.pc, .int .i64 v144.status, .slice Aa214 v144.in'.length cc215, .slice Aa217 v144.out.length cc218]), rdo (eI .u32) Aa214 cc215 v144.in', own 23 (eI .u32) Aa217 cc218 v144.out, own 66 eA66 (some ad130) 1 [(#v[v167, v168, v169, v170, v171] : Vector Sapi_Instr 5)], own 23 (eI .u32) Aa101 cc102 t99] := hw
        clear hs; intro a hs; replace hs := hs.rms [129, 131, 132]
        refine go_end (hK211 _ _ ?_)
        refine go_sk fun K234 hK234 => ?_
        refine go_pvs 2 [] [(133, .pointer (some (⟨g53, 0, none⟩ : Addr))), (134, .agg (eSapi_Regs.enc (⟨(Vector.replicate 16 0), 0, false, false, false, false⟩ : Sapi_Regs)).toArray)] hs ?_; clear hs; intro a hs
        replace hw := St.oM_of (m := mSmemory_Memory) (A := (some (⟨g222, 0, none⟩ : Addr))) (x := t230) hw
        replace hw := hw.up 4
        replace hw := hw.up 4
        replace hw := hw.up 2
        replace hw := hw.up 4
        replace hw := mSmachine_Machine.close (x := (⟨(some t230), v144.s, v144.pc, v144.status, v144.in', v144.out⟩ : Smachine_Machine)) hw
        obtain ⟨ks235, hgks235, hstks235, hbkks235⟩ := hw.lend 1
        obtain ⟨t236, hx237, H⟩ := bind_some H
        refine go_call hs (by rfl) (machine_Machine_Start.calls ks235 (some ⟨g53, 0, none⟩) (⟨(some t230), v144.s, v144.pc, v144.status, v144.in', v144.out⟩ : Smachine_Machine) 0 (⟨(Vector.replicate 16 0), 0, false, false, false, false⟩ : Sapi_Regs) t236 _ hgks235 hx237) ?_
        rintro e wd238 ⟨rfl, hw239⟩
        refine ⟨_, rfl, ?_⟩
        replace hw := hbkks235 _ _ hw239
        replace hw : St [] w0 wd238 [mSmachine_Machine (some ⟨g53, 0, none⟩) t236, own 23 (eI .u32) Aa223 cc224 ([v209] : List Int), own 66 eA66 (some ad130) 1 [(#v[v167, v168, v169, v170, v171] : Vector Sapi_Instr 5)], own 23 (eI .u32) Aa101 cc102 t99] := hw
        clear hs; intro a hs; replace hs := hs.rms [133, 134, 135]
        refine go_end (hK234 _ _ ?_)
        refine go_seq_k fun K240 hK240 => ?_
        have hJ8 : ∀ (v257 : Smachine_Machine) (v258 : Bool) (a : Act) (w : World), Slots a 179 [(11, .pointer (some (⟨g53, 0, none⟩ : Addr))), (13, .slice Aa101 t99.length cc102), (14, .pointer (some ad130)), (15, .int .i64 v145), (150, .bool v258)] → St [] w0 w [mSmachine_Machine (some ⟨g53, 0, none⟩) v257, own 23 (eI .u32) Aa223 cc224 ([v209] : List Int), own 66 eA66 (some ad130) 1 [(#v[v167, v168, v169, v170, v171] : Vector Sapi_Instr 5)], own 23 (eI .u32) Aa101 cc102 t99] → rivetlaw06_MachinePorts.j8 v145 v167 v168 v169 v170 v171 v257 v258 = some o → K240 a w := by
         intro v257 v258 a w hs hw H
         unfold rivetlaw06_MachinePorts.j8 at H
         refine hK240 _ _ ?_
         refine go_cond hs v258 (fun hc => ?_) fun hc => ?_
         ·replace H := ite_t H hc
          have hb259 := hc
          rw [hb259] at hs
          refine go_sp [11, 13, 14, 15, 150] [(2, .bool false)] hs ?_; clear hs; intro a hs
          refine wp_ret ?_
          refine ib_ret ?_
          refine th_ret ?_
          refine th_ret ?_
          refine ib_ret ?_
          refine th_ret ?_
          rw [← hr138 _ (Option.some.inj H).symm] at HX138
          replace H : some false = some r := HX138
          obtain rfl := Option.some.inj H
          refine ret1 (t := 2) (v := .bool false) hs (by kernel_rfl) (by kernel_rfl) ?_
          exact ⟨rfl, hw.only 0⟩
         ·replace H := ite_f H (ff hc)
          have hb261 := hc
          rw [hb261] at hs
          refine wp_skip ?_
          refine ib_norm ?_
          replace hw := hw.up 3
          replace hw := hw.up 3
          replace hw := hw.only 3
          exact hJ9 (vx (⟨0, 0, 0, 0, 0, 0, false⟩ : Sapi_Instr) (#v[v167, v168, v169, v170, v171] : Vector Sapi_Instr 5) 0) (vx (⟨0, 0, 0, 0, 0, 0, false⟩ : Sapi_Instr) (#v[v167, v168, v169, v170, v171] : Vector Sapi_Instr 5) 1) (vx (⟨0, 0, 0, 0, 0, 0, false⟩ : Sapi_Instr) (#v[v167, v168, v169, v170, v171] : Vector Sapi_Instr 5) 2) (vx (⟨0, 0, 0, 0, 0, 0, false⟩ : Sapi_Instr) (#v[v167, v168, v169, v170, v171] : Vector Sapi_Instr 5) 3) (vx (⟨0, 0, 0, 0, 0, 0, false⟩ : Sapi_Instr) (#v[v167, v168, v169, v170, v171] : Vector Sapi_Instr 5) 4) v257 _ _ hs.kx hw H
        refine go_region ?_
        refine go_pvs 3 [17] [(138, .bool (v210 != 0))] hs ?_; clear hs; intro a hs
        cases hb241 : (v210 != 0)
        ·replace H := ite_t H (bne_eq_false_iff_eq.1 hb241)
         rw [hb241] at hs
         refine go_pvs 4 [] [(139, .pointer (some (⟨g53, 0, none⟩ : Addr)))] hs ?_; clear hs; intro a hs
         obtain ⟨ks242, hgks242, hstks242, hbkks242⟩ := hw.lend 1
         obtain ⟨⟨t243, t244⟩, hx245, H⟩ := bind_some H
         refine go_call hs (by rfl) (machine_Machine_Step.calls ks242 (some ⟨g53, 0, none⟩) t236 (t243, t244) _ hgks242 hx245) ?_
         rintro e wd246 ⟨rfl, hw247⟩
         refine ⟨_, rfl, ?_⟩
         replace hw := hbkks242 _ _ hw247
         replace hw : St [] w0 wd246 [mSmachine_Machine (some ⟨g53, 0, none⟩) t244, own 23 (eI .u32) Aa223 cc224 ([v209] : List Int), own 66 eA66 (some ad130) 1 [(#v[v167, v168, v169, v170, v171] : Vector Sapi_Instr 5)], own 23 (eI .u32) Aa101 cc102 t99] := hw
         clear hs; intro a hs; replace hs := hs.rms [139]
         refine go_pvs 8 [138, 140] [(143, .bool (t243 != 3))] hs ?_; clear hs; intro a hs
         cases hb248 : (t243 != 3)
         ·replace H := ite_t H (bne_eq_false_iff_eq.1 hb248)
          rw [hb248] at hs
          refine go_pvs 9 [] [(144, .pointer (some (⟨g53, 0, none⟩ : Addr)))] hs ?_; clear hs; intro a hs
          obtain ⟨t250, hx251, H⟩ := bind_some H
          refine go_call hs (by rfl) (machine_Machine_Out.calls (some ⟨g53, 0, none⟩) t244 t250 _ (rSmachine_Machine.of_m (hw.up 0)) hx251) ?_
          rintro e wd254 ⟨Aa252, cc253, rfl, hw255⟩
          refine ⟨_, rfl, ?_⟩
          replace hw := hw.call hw255
          clear hs; intro a hs; replace hs := hs.rms [144]
          refine go_pvs 15 [143, 145] [(150, .bool ((t250.length : Int) != (t99.length : Int)))] hs ?_; clear hs; intro a hs
          refine go_end ?_
          replace hw := hw.up 4
          replace hw := hw.up 4
          replace hw := hw.up 4
          replace hw := hw.up 4
          replace hw := hw.only 4
          exact hJ8 t244 ((t250.length : Int) != (t99.length : Int)) _ _ hs.kx hw H
         ·replace H := ite_f H (bne_iff_ne.1 hb248)
          rw [hb248] at hs
          refine go_pvs 15 [143] [(150, .bool true)] hs ?_; clear hs; intro a hs
          refine go_end ?_
          replace hw := hw.up 3
          replace hw := hw.up 3
          replace hw := hw.up 3
          replace hw := hw.up 3
          exact hJ8 t244 true _ _ hs.kx hw H
        ·replace H := ite_f H (bne_iff_ne.1 hb241)
         rw [hb241] at hs
         refine go_pvs 15 [138] [(150, .bool true)] hs ?_; clear hs; intro a hs
         refine go_end ?_
         replace hw := hw.up 3
         replace hw := hw.up 3
         replace hw := hw.up 3
         replace hw := hw.up 3
         exact hJ8 t236 true _ _ hs.kx hw H
       refine go_region ?_
       refine go_pvs 1 [] [(120, .int .i64 v145)] hs ?_; clear hs; intro a hs
       obtain ⟨hp173, H⟩ := ite_only H
       replace hs : Slots a 179 [(11, .pointer (some (⟨g53, 0, none⟩ : Addr))), (13, .slice Aa101 t99.length cc102), (14, .pointer (some ad130)), (15, .int .i64 v145), (120, .int .i64 v145)] := hs.kx
       by_cases hk174 : v145 = 0
       ·replace H := ite_t H hk174
        replace hs := (congrArg (fun z => Slots a 179 [(11, .pointer (some (⟨g53, 0, none⟩ : Addr))), (13, .slice Aa101 t99.length cc102), (14, .pointer (some ad130)), (15, .int .i64 v145), (120, .int .i64 z)]) hk174).mp hs
        replace hs : Slots a 179 [(11, .pointer (some (⟨g53, 0, none⟩ : Addr))), (13, .slice Aa101 t99.length cc102), (14, .pointer (some ad130)), (15, .int .i64 v145), (120, .int .i64 0)] := hs
        refine go_run hs (by rfl) (x_vidx (e := 45) (p := ad130) (n := 5) (k := .i64) (i := 0) (sz := 7) (⟨by decide, by decide⟩ : (0 : Int) ≤ 0 ∧ (0 : Int) < ((5 : Nat) : Int))) [120] ?_; clear hs; intro a hs
        refine go_run hs (by rfl) (x_lds (off := 0) (p := (ad130 : Addr).add ((0 : Int).toNat * 7)) (cs := (eSapi_Instr.enc (vx (⟨0, 0, 0, 0, 0, 0, false⟩ : Sapi_Instr) (#v[v167, v168, v169, v170, v171] : Vector Sapi_Instr 5) 0))) (Rd.of_own (hw.up 0)) (one_ok (#v[(⟨0, 0, 0, 0, 0, (-60), false⟩ : Sapi_Instr), (⟨0, 2, 0, 0, 0, (-64), false⟩ : Sapi_Instr), (⟨0, 1, 0, 0, 0, (-64), false⟩ : Sapi_Instr), (⟨0, 3, 0, 0, 0, (-60), false⟩ : Sapi_Instr), (⟨0, 0, 0, 0, 0, (-56), false⟩ : Sapi_Instr)] : Vector Sapi_Instr 5)) (by simp only [add_add', Int.toNat_zero, Nat.zero_mul, Nat.zero_add, Nat.mul_one] <;> rfl)) [121] ?_; clear hs; intro a hs
        obtain ⟨⟨t176, t177⟩, hx178, H⟩ := bind_some H
        refine go_call hs (by rfl) (isa_Encode.calls (vx (⟨0, 0, 0, 0, 0, 0, false⟩ : Sapi_Instr) (#v[v167, v168, v169, v170, v171] : Vector Sapi_Instr 5) 0) (t176, t177) _ hx178) ?_
        rintro e wd179 ⟨rfl, hw180⟩
        refine ⟨_, rfl, ?_⟩
        replace hw := hw.call hw180
        clear hs; intro a hs; replace hs := hs.rms [122]
        refine go_pvs 9 [123] [(16, .int .u32 t176), (17, .int .i64 t177)] hs ?_; clear hs; intro a hs
        refine go_end ?_
        replace hw := hw.up 2
        replace hw := hw.up 2
        replace hw := hw.up 2
        exact hJ7 t176 t177 _ _ hs.kx hw H
       ·replace H := ite_f H hk174
        replace hs : Slots a 179 [(11, .pointer (some (⟨g53, 0, none⟩ : Addr))), (13, .slice Aa101 t99.length cc102), (14, .pointer (some ad130)), (15, .int .i64 v145), (120, .int .i64 v145)] := hs.kx
        by_cases hk181 : v145 = 1
        ·replace H := ite_t H hk181
         replace hs := (congrArg (fun z => Slots a 179 [(11, .pointer (some (⟨g53, 0, none⟩ : Addr))), (13, .slice Aa101 t99.length cc102), (14, .pointer (some ad130)), (15, .int .i64 v145), (120, .int .i64 z)]) hk181).mp hs
         replace hs : Slots a 179 [(11, .pointer (some (⟨g53, 0, none⟩ : Addr))), (13, .slice Aa101 t99.length cc102), (14, .pointer (some ad130)), (15, .int .i64 v145), (120, .int .i64 1)] := hs
         refine go_run hs (by rfl) (x_vidx (e := 45) (p := ad130) (n := 5) (k := .i64) (i := 1) (sz := 7) (⟨by decide, by decide⟩ : (0 : Int) ≤ 1 ∧ (1 : Int) < ((5 : Nat) : Int))) [120] ?_; clear hs; intro a hs
         refine go_run hs (by rfl) (x_lds (off := 7) (p := (ad130 : Addr).add ((1 : Int).toNat * 7)) (cs := (eSapi_Instr.enc (vx (⟨0, 0, 0, 0, 0, 0, false⟩ : Sapi_Instr) (#v[v167, v168, v169, v170, v171] : Vector Sapi_Instr 5) 1))) (Rd.of_own (hw.up 0)) (one_ok (#v[(⟨0, 0, 0, 0, 0, (-60), false⟩ : Sapi_Instr), (⟨0, 2, 0, 0, 0, (-64), false⟩ : Sapi_Instr), (⟨0, 1, 0, 0, 0, (-64), false⟩ : Sapi_Instr), (⟨0, 3, 0, 0, 0, (-60), false⟩ : Sapi_Instr), (⟨0, 0, 0, 0, 0, (-56), false⟩ : Sapi_Instr)] : Vector Sapi_Instr 5)) (by simp only [add_add', Int.toNat_zero, Nat.zero_mul, Nat.zero_add, Nat.mul_one] <;> rfl)) [121] ?_; clear hs; intro a hs
         obtain ⟨⟨t183, t184⟩, hx185, H⟩ := bind_some H
         refine go_call hs (by rfl) (isa_Encode.calls (vx (⟨0, 0, 0, 0, 0, 0, false⟩ : Sapi_Instr) (#v[v167, v168, v169, v170, v171] : Vector Sapi_Instr 5) 1) (t183, t184) _ hx185) ?_
         rintro e wd186 ⟨rfl, hw187⟩
         refine ⟨_, rfl, ?_⟩
         replace hw := hw.call hw187
         clear hs; intro a hs; replace hs := hs.rms [122]
         refine go_pvs 9 [123] [(16, .int .u32 t183), (17, .int .i64 t184)] hs ?_; clear hs; intro a hs
         refine go_end ?_
         replace hw := hw.up 2
         replace hw := hw.up 2
         replace hw := hw.up 2
         exact hJ7 t183 t184 _ _ hs.kx hw H
        ·replace H := ite_f H hk181
         replace hs : Slots a 179 [(11, .pointer (some (⟨g53, 0, none⟩ : Addr))), (13, .slice Aa101 t99.length cc102), (14, .pointer (some ad130)), (15, .int .i64 v145), (120, .int .i64 v145)] := hs.kx
         by_cases hk188 : v145 = 2
         ·replace H := ite_t H hk188
          replace hs := (congrArg (fun z => Slots a 179 [(11, .pointer (some (⟨g53, 0, none⟩ : Addr))), (13, .slice Aa101 t99.length cc102), (14, .pointer (some ad130)), (15, .int .i64 v145), (120, .int .i64 z)]) hk188).mp hs
          replace hs : Slots a 179 [(11, .pointer (some (⟨g53, 0, none⟩ : Addr))), (13, .slice Aa101 t99.length cc102), (14, .pointer (some ad130)), (15, .int .i64 v145), (120, .int .i64 2)] := hs
          refine go_run hs (by rfl) (x_vidx (e := 45) (p := ad130) (n := 5) (k := .i64) (i := 2) (sz := 7) (⟨by decide, by decide⟩ : (0 : Int) ≤ 2 ∧ (2 : Int) < ((5 : Nat) : Int))) [120] ?_; clear hs; intro a hs
          refine go_run hs (by rfl) (x_lds (off := 14) (p := (ad130 : Addr).add ((2 : Int).toNat * 7)) (cs := (eSapi_Instr.enc (vx (⟨0, 0, 0, 0, 0, 0, false⟩ : Sapi_Instr) (#v[v167, v168, v169, v170, v171] : Vector Sapi_Instr 5) 2))) (Rd.of_own (hw.up 0)) (one_ok (#v[(⟨0, 0, 0, 0, 0, (-60), false⟩ : Sapi_Instr), (⟨0, 2, 0, 0, 0, (-64), false⟩ : Sapi_Instr), (⟨0, 1, 0, 0, 0, (-64), false⟩ : Sapi_Instr), (⟨0, 3, 0, 0, 0, (-60), false⟩ : Sapi_Instr), (⟨0, 0, 0, 0, 0, (-56), false⟩ : Sapi_Instr)] : Vector Sapi_Instr 5)) (by simp only [add_add', Int.toNat_zero, Nat.zero_mul, Nat.zero_add, Nat.mul_one] <;> rfl)) [121] ?_; clear hs; intro a hs
          obtain ⟨⟨t190, t191⟩, hx192, H⟩ := bind_some H
          refine go_call hs (by rfl) (isa_Encode.calls (vx (⟨0, 0, 0, 0, 0, 0, false⟩ : Sapi_Instr) (#v[v167, v168, v169, v170, v171] : Vector Sapi_Instr 5) 2) (t190, t191) _ hx192) ?_
          rintro e wd193 ⟨rfl, hw194⟩
          refine ⟨_, rfl, ?_⟩
          replace hw := hw.call hw194
          clear hs; intro a hs; replace hs := hs.rms [122]
          refine go_pvs 9 [123] [(16, .int .u32 t190), (17, .int .i64 t191)] hs ?_; clear hs; intro a hs
          refine go_end ?_
          replace hw := hw.up 2
          replace hw := hw.up 2
          replace hw := hw.up 2
          exact hJ7 t190 t191 _ _ hs.kx hw H
         ·replace H := ite_f H hk188
          replace hs : Slots a 179 [(11, .pointer (some (⟨g53, 0, none⟩ : Addr))), (13, .slice Aa101 t99.length cc102), (14, .pointer (some ad130)), (15, .int .i64 v145), (120, .int .i64 v145)] := hs.kx
          by_cases hk195 : v145 = 3
          ·replace H := ite_t H hk195
           replace hs := (congrArg (fun z => Slots a 179 [(11, .pointer (some (⟨g53, 0, none⟩ : Addr))), (13, .slice Aa101 t99.length cc102), (14, .pointer (some ad130)), (15, .int .i64 v145), (120, .int .i64 z)]) hk195).mp hs
           replace hs : Slots a 179 [(11, .pointer (some (⟨g53, 0, none⟩ : Addr))), (13, .slice Aa101 t99.length cc102), (14, .pointer (some ad130)), (15, .int .i64 v145), (120, .int .i64 3)] := hs
           refine go_run hs (by rfl) (x_vidx (e := 45) (p := ad130) (n := 5) (k := .i64) (i := 3) (sz := 7) (⟨by decide, by decide⟩ : (0 : Int) ≤ 3 ∧ (3 : Int) < ((5 : Nat) : Int))) [120] ?_; clear hs; intro a hs
           refine go_run hs (by rfl) (x_lds (off := 21) (p := (ad130 : Addr).add ((3 : Int).toNat * 7)) (cs := (eSapi_Instr.enc (vx (⟨0, 0, 0, 0, 0, 0, false⟩ : Sapi_Instr) (#v[v167, v168, v169, v170, v171] : Vector Sapi_Instr 5) 3))) (Rd.of_own (hw.up 0)) (one_ok (#v[(⟨0, 0, 0, 0, 0, (-60), false⟩ : Sapi_Instr), (⟨0, 2, 0, 0, 0, (-64), false⟩ : Sapi_Instr), (⟨0, 1, 0, 0, 0, (-64), false⟩ : Sapi_Instr), (⟨0, 3, 0, 0, 0, (-60), false⟩ : Sapi_Instr), (⟨0, 0, 0, 0, 0, (-56), false⟩ : Sapi_Instr)] : Vector Sapi_Instr 5)) (by simp only [add_add', Int.toNat_zero, Nat.zero_mul, Nat.zero_add, Nat.mul_one] <;> rfl)) [121] ?_; clear hs; intro a hs
           obtain ⟨⟨t197, t198⟩, hx199, H⟩ := bind_some H
           refine go_call hs (by rfl) (isa_Encode.calls (vx (⟨0, 0, 0, 0, 0, 0, false⟩ : Sapi_Instr) (#v[v167, v168, v169, v170, v171] : Vector Sapi_Instr 5) 3) (t197, t198) _ hx199) ?_
           rintro e wd200 ⟨rfl, hw201⟩
           refine ⟨_, rfl, ?_⟩
           replace hw := hw.call hw201
           clear hs; intro a hs; replace hs := hs.rms [122]
           refine go_pvs 9 [123] [(16, .int .u32 t197), (17, .int .i64 t198)] hs ?_; clear hs; intro a hs
           refine go_end ?_
           replace hw := hw.up 2
           replace hw := hw.up 2
           replace hw := hw.up 2
           exact hJ7 t197 t198 _ _ hs.kx hw H
          ·replace H := ite_f H hk195
           replace hs : Slots a 179 [(11, .pointer (some (⟨g53, 0, none⟩ : Addr))), (13, .slice Aa101 t99.length cc102), (14, .pointer (some ad130)), (15, .int .i64 v145), (120, .int .i64 v145)] := hs.kx
           by_cases hk202 : v145 = 4
           ·replace H := ite_t H hk202
            replace hs := (congrArg (fun z => Slots a 179 [(11, .pointer (some (⟨g53, 0, none⟩ : Addr))), (13, .slice Aa101 t99.length cc102), (14, .pointer (some ad130)), (15, .int .i64 v145), (120, .int .i64 z)]) hk202).mp hs
            replace hs : Slots a 179 [(11, .pointer (some (⟨g53, 0, none⟩ : Addr))), (13, .slice Aa101 t99.length cc102), (14, .pointer (some ad130)), (15, .int .i64 v145), (120, .int .i64 4)] := hs
            refine go_run hs (by rfl) (x_vidx (e := 45) (p := ad130) (n := 5) (k := .i64) (i := 4) (sz := 7) (⟨by decide, by decide⟩ : (0 : Int) ≤ 4 ∧ (4 : Int) < ((5 : Nat) : Int))) [120] ?_; clear hs; intro a hs
            refine go_run hs (by rfl) (x_lds (off := 28) (p := (ad130 : Addr).add ((4 : Int).toNat * 7)) (cs := (eSapi_Instr.enc (vx (⟨0, 0, 0, 0, 0, 0, false⟩ : Sapi_Instr) (#v[v167, v168, v169, v170, v171] : Vector Sapi_Instr 5) 4))) (Rd.of_own (hw.up 0)) (one_ok (#v[(⟨0, 0, 0, 0, 0, (-60), false⟩ : Sapi_Instr), (⟨0, 2, 0, 0, 0, (-64), false⟩ : Sapi_Instr), (⟨0, 1, 0, 0, 0, (-64), false⟩ : Sapi_Instr), (⟨0, 3, 0, 0, 0, (-60), false⟩ : Sapi_Instr), (⟨0, 0, 0, 0, 0, (-56), false⟩ : Sapi_Instr)] : Vector Sapi_Instr 5)) (by simp only [add_add', Int.toNat_zero, Nat.zero_mul, Nat.zero_add, Nat.mul_one] <;> rfl)) [121] ?_; clear hs; intro a hs
            obtain ⟨⟨t204, t205⟩, hx206, H⟩ := bind_some H
            refine go_call hs (by rfl) (isa_Encode.calls (vx (⟨0, 0, 0, 0, 0, 0, false⟩ : Sapi_Instr) (#v[v167, v168, v169, v170, v171] : Vector Sapi_Instr 5) 4) (t204, t205) _ hx206) ?_
            rintro e wd207 ⟨rfl, hw208⟩
            refine ⟨_, rfl, ?_⟩
            replace hw := hw.call hw208
            clear hs; intro a hs; replace hs := hs.rms [122]
            refine go_pvs 9 [123] [(16, .int .u32 t204), (17, .int .i64 t205)] hs ?_; clear hs; intro a hs
            refine go_end ?_
            replace hw := hw.up 2
            replace hw := hw.up 2
            replace hw := hw.up 2
            exact hJ7 t204 t205 _ _ hs.kx hw H
           ·replace H := ite_f H hk202
            cases H
      refine go_region ?_
      refine go_pvs 1 [113] [(116, .int .i64 v145)] hs ?_; clear hs; intro a hs
      obtain ⟨hp151, H⟩ := ite_only H
      replace hs : Slots a 179 [(11, .pointer (some (⟨g53, 0, none⟩ : Addr))), (13, .slice Aa101 t99.length cc102), (14, .pointer (some ad130)), (15, .int .i64 v145), (116, .int .i64 v145)] := hs.kx
      by_cases hk152 : v145 = 0
      ·replace H := ite_t H hk152
       replace hs := (congrArg (fun z => Slots a 179 [(11, .pointer (some (⟨g53, 0, none⟩ : Addr))), (13, .slice Aa101 t99.length cc102), (14, .pointer (some ad130)), (15, .int .i64 v145), (116, .int .i64 z)]) hk152).mp hs
       replace hs : Slots a 179 [(11, .pointer (some (⟨g53, 0, none⟩ : Addr))), (13, .slice Aa101 t99.length cc102), (14, .pointer (some ad130)), (15, .int .i64 v145), (116, .int .i64 0)] := hs
       refine go_run hs (by rfl) (x_vidx (e := 45) (p := ad130) (n := 5) (k := .i64) (i := 0) (sz := 7) (⟨by decide, by decide⟩ : (0 : Int) ≤ 0 ∧ (0 : Int) < ((5 : Nat) : Int))) [116] ?_; clear hs; intro a hs
       refine go_pvs 3 [117] [(118, .pointer (some (((ad130 : Addr).add ((0 : Int).toNat * 7) : Addr).add 0)))] hs ?_; clear hs; intro a hs
       obtain ⟨wd153, hx154, hw⟩ := x_put (P := Try.prog) (ty := 0) (t := 3) (x := (Operand.tmp 118)) (y := (Operand.const (Value.int IntKind.i64 5))) (off := 0) (p := ((ad130 : Addr).add ((0 : Int).toNat * 7) : Addr).add 0) (v := .int .i64 5) (vs := [.int .i64 5]) (i := 0) (e' := (vset (#v[v139, v140, v141, v142, v143] : Vector Sapi_Instr 5) 0 ({ vx (⟨0, 0, 0, 0, 0, 0, false⟩ : Sapi_Instr) (#v[v139, v140, v141, v142, v143] : Vector Sapi_Instr 5) 0 with Kind := 5 } : Sapi_Instr) : Vector Sapi_Instr 5)) hs hw rfl (one_ok (#v[(⟨0, 0, 0, 0, 0, (-60), false⟩ : Sapi_Instr), (⟨0, 2, 0, 0, 0, (-64), false⟩ : Sapi_Instr), (⟨0, 1, 0, 0, 0, (-64), false⟩ : Sapi_Instr), (⟨0, 3, 0, 0, 0, (-60), false⟩ : Sapi_Instr), (⟨0, 0, 0, 0, 0, (-56), false⟩ : Sapi_Instr)] : Vector Sapi_Instr 5)).1 (one_ok (#v[(⟨0, 0, 0, 0, 0, (-60), false⟩ : Sapi_Instr), (⟨0, 2, 0, 0, 0, (-64), false⟩ : Sapi_Instr), (⟨0, 1, 0, 0, 0, (-64), false⟩ : Sapi_Instr), (⟨0, 3, 0, 0, 0, (-60), false⟩ : Sapi_Instr), (⟨0, 0, 0, 0, 0, (-56), false⟩ : Sapi_Instr)] : Vector Sapi_Instr 5)).2 (by kernel_rfl) (by simp only [add_add', Int.toNat_zero, Nat.zero_mul, Nat.zero_add, Nat.mul_one] <;> rfl) (by kernel_rfl) rfl (by kernel_rfl) (Nat.le_of_ble_eq_true rfl) (by simp [Value.oneCell']) (by kernel_rfl)
       refine go_unit hs (by rfl) hx154 [118] ?_; clear hs; intro a hs
       replace hw : St [] w0 wd153 [own 66 eA66 (some ad130) 1 [vset (#v[v139, v140, v141, v142, v143] : Vector Sapi_Instr 5) 0 ({ vx (⟨0, 0, 0, 0, 0, 0, false⟩ : Sapi_Instr) (#v[v139, v140, v141, v142, v143] : Vector Sapi_Instr 5) 0 with Kind := 5 } : Sapi_Instr)], own 23 (eI .u32) Aa101 cc102 t99, mSmachine_Machine (some ⟨g53, 0, none⟩) v144] := hw
       refine go_end ?_
       replace hw := hw.up 2
       replace hw := hw.up 2
       replace hw := hw.up 2
       exact hJ6 (vx (⟨0, 0, 0, 0, 0, 0, false⟩ : Sapi_Instr) (vset (#v[v139, v140, v141, v142, v143] : Vector Sapi_Instr 5) 0 ({ vx (⟨0, 0, 0, 0, 0, 0, false⟩ : Sapi_Instr) (#v[v139, v140, v141, v142, v143] : Vector Sapi_Instr 5) 0 with Kind := 5 } : Sapi_Instr)) 0) (vx (⟨0, 0, 0, 0, 0, 0, false⟩ : Sapi_Instr) (vset (#v[v139, v140, v141, v142, v143] : Vector Sapi_Instr 5) 0 ({ vx (⟨0, 0, 0, 0, 0, 0, false⟩ : Sapi_Instr) (#v[v139, v140, v141, v142, v143] : Vector Sapi_Instr 5) 0 with Kind := 5 } : Sapi_Instr)) 1) (vx (⟨0, 0, 0, 0, 0, 0, false⟩ : Sapi_Instr) (vset (#v[v139, v140, v141, v142, v143] : Vector Sapi_Instr 5) 0 ({ vx (⟨0, 0, 0, 0, 0, 0, false⟩ : Sapi_Instr) (#v[v139, v140, v141, v142, v143] : Vector Sapi_Instr 5) 0 with Kind := 5 } : Sapi_Instr)) 2) (vx (⟨0, 0, 0, 0, 0, 0, false⟩ : Sapi_Instr) (vset (#v[v139, v140, v141, v142, v143] : Vector Sapi_Instr 5) 0 ({ vx (⟨0, 0, 0, 0, 0, 0, false⟩ : Sapi_Instr) (#v[v139, v140, v141, v142, v143] : Vector Sapi_Instr 5) 0 with Kind := 5 } : Sapi_Instr)) 3) (vx (⟨0, 0, 0, 0, 0, 0, false⟩ : Sapi_Instr) (vset (#v[v139, v140, v141, v142, v143] : Vector Sapi_Instr 5) 0 ({ vx (⟨0, 0, 0, 0, 0, 0, false⟩ : Sapi_Instr) (#v[v139, v140, v141, v142, v143] : Vector Sapi_Instr 5) 0 with Kind := 5 } : Sapi_Instr)) 4) _ _ hs.kx hw H
      ·replace H := ite_f H hk152
       replace hs : Slots a 179 [(11, .pointer (some (⟨g53, 0, none⟩ : Addr))), (13, .slice Aa101 t99.length cc102), (14, .pointer (some ad130)), (15, .int .i64 v145), (116, .int .i64 v145)] := hs.kx
       by_cases hk155 : v145 = 1
       ·replace H := ite_t H hk155
        replace hs := (congrArg (fun z => Slots a 179 [(11, .pointer (some (⟨g53, 0, none⟩ : Addr))), (13, .slice Aa101 t99.length cc102), (14, .pointer (some ad130)), (15, .int .i64 v145), (116, .int .i64 z)]) hk155).mp hs
        replace hs : Slots a 179 [(11, .pointer (some (⟨g53, 0, none⟩ : Addr))), (13, .slice Aa101 t99.length cc102), (14, .pointer (some ad130)), (15, .int .i64 v145), (116, .int .i64 1)] := hs
        refine go_run hs (by rfl) (x_vidx (e := 45) (p := ad130) (n := 5) (k := .i64) (i := 1) (sz := 7) (⟨by decide, by decide⟩ : (0 : Int) ≤ 1 ∧ (1 : Int) < ((5 : Nat) : Int))) [116] ?_; clear hs; intro a hs
        refine go_pvs 3 [117] [(118, .pointer (some (((ad130 : Addr).add ((1 : Int).toNat * 7) : Addr).add 0)))] hs ?_; clear hs; intro a hs
        obtain ⟨wd156, hx157, hw⟩ := x_put (P := Try.prog) (ty := 0) (t := 3) (x := (Operand.tmp 118)) (y := (Operand.const (Value.int IntKind.i64 5))) (off := 7) (p := ((ad130 : Addr).add ((1 : Int).toNat * 7) : Addr).add 0) (v := .int .i64 5) (vs := [.int .i64 5]) (i := 0) (e' := (vset (#v[v139, v140, v141, v142, v143] : Vector Sapi_Instr 5) 1 ({ vx (⟨0, 0, 0, 0, 0, 0, false⟩ : Sapi_Instr) (#v[v139, v140, v141, v142, v143] : Vector Sapi_Instr 5) 1 with Kind := 5 } : Sapi_Instr) : Vector Sapi_Instr 5)) hs hw rfl (one_ok (#v[(⟨0, 0, 0, 0, 0, (-60), false⟩ : Sapi_Instr), (⟨0, 2, 0, 0, 0, (-64), false⟩ : Sapi_Instr), (⟨0, 1, 0, 0, 0, (-64), false⟩ : Sapi_Instr), (⟨0, 3, 0, 0, 0, (-60), false⟩ : Sapi_Instr), (⟨0, 0, 0, 0, 0, (-56), false⟩ : Sapi_Instr)] : Vector Sapi_Instr 5)).1 (one_ok (#v[(⟨0, 0, 0, 0, 0, (-60), false⟩ : Sapi_Instr), (⟨0, 2, 0, 0, 0, (-64), false⟩ : Sapi_Instr), (⟨0, 1, 0, 0, 0, (-64), false⟩ : Sapi_Instr), (⟨0, 3, 0, 0, 0, (-60), false⟩ : Sapi_Instr), (⟨0, 0, 0, 0, 0, (-56), false⟩ : Sapi_Instr)] : Vector Sapi_Instr 5)).2 (by kernel_rfl) (by simp only [add_add', Int.toNat_zero, Nat.zero_mul, Nat.zero_add, Nat.mul_one] <;> rfl) (by kernel_rfl) rfl (by kernel_rfl) (Nat.le_of_ble_eq_true rfl) (by simp [Value.oneCell']) (by kernel_rfl)
        refine go_unit hs (by rfl) hx157 [118] ?_; clear hs; intro a hs
        replace hw : St [] w0 wd156 [own 66 eA66 (some ad130) 1 [vset (#v[v139, v140, v141, v142, v143] : Vector Sapi_Instr 5) 1 ({ vx (⟨0, 0, 0, 0, 0, 0, false⟩ : Sapi_Instr) (#v[v139, v140, v141, v142, v143] : Vector Sapi_Instr 5) 1 with Kind := 5 } : Sapi_Instr)], own 23 (eI .u32) Aa101 cc102 t99, mSmachine_Machine (some ⟨g53, 0, none⟩) v144] := hw
        refine go_end ?_
        replace hw := hw.up 2
        replace hw := hw.up 2
        replace hw := hw.up 2
        exact hJ6 (vx (⟨0, 0, 0, 0, 0, 0, false⟩ : Sapi_Instr) (vset (#v[v139, v140, v141, v142, v143] : Vector Sapi_Instr 5) 1 ({ vx (⟨0, 0, 0, 0, 0, 0, false⟩ : Sapi_Instr) (#v[v139, v140, v141, v142, v143] : Vector Sapi_Instr 5) 1 with Kind := 5 } : Sapi_Instr)) 0) (vx (⟨0, 0, 0, 0, 0, 0, false⟩ : Sapi_Instr) (vset (#v[v139, v140, v141, v142, v143] : Vector Sapi_Instr 5) 1 ({ vx (⟨0, 0, 0, 0, 0, 0, false⟩ : Sapi_Instr) (#v[v139, v140, v141, v142, v143] : Vector Sapi_Instr 5) 1 with Kind := 5 } : Sapi_Instr)) 1) (vx (⟨0, 0, 0, 0, 0, 0, false⟩ : Sapi_Instr) (vset (#v[v139, v140, v141, v142, v143] : Vector Sapi_Instr 5) 1 ({ vx (⟨0, 0, 0, 0, 0, 0, false⟩ : Sapi_Instr) (#v[v139, v140, v141, v142, v143] : Vector Sapi_Instr 5) 1 with Kind := 5 } : Sapi_Instr)) 2) (vx (⟨0, 0, 0, 0, 0, 0, false⟩ : Sapi_Instr) (vset (#v[v139, v140, v141, v142, v143] : Vector Sapi_Instr 5) 1 ({ vx (⟨0, 0, 0, 0, 0, 0, false⟩ : Sapi_Instr) (#v[v139, v140, v141, v142, v143] : Vector Sapi_Instr 5) 1 with Kind := 5 } : Sapi_Instr)) 3) (vx (⟨0, 0, 0, 0, 0, 0, false⟩ : Sapi_Instr) (vset (#v[v139, v140, v141, v142, v143] : Vector Sapi_Instr 5) 1 ({ vx (⟨0, 0, 0, 0, 0, 0, false⟩ : Sapi_Instr) (#v[v139, v140, v141, v142, v143] : Vector Sapi_Instr 5) 1 with Kind := 5 } : Sapi_Instr)) 4) _ _ hs.kx hw H
       ·replace H := ite_f H hk155
        replace hs : Slots a 179 [(11, .pointer (some (⟨g53, 0, none⟩ : Addr))), (13, .slice Aa101 t99.length cc102), (14, .pointer (some ad130)), (15, .int .i64 v145), (116, .int .i64 v145)] := hs.kx
        by_cases hk158 : v145 = 2
        ·replace H := ite_t H hk158
         replace hs := (congrArg (fun z => Slots a 179 [(11, .pointer (some (⟨g53, 0, none⟩ : Addr))), (13, .slice Aa101 t99.length cc102), (14, .pointer (some ad130)), (15, .int .i64 v145), (116, .int .i64 z)]) hk158).mp hs
         replace hs : Slots a 179 [(11, .pointer (some (⟨g53, 0, none⟩ : Addr))), (13, .slice Aa101 t99.length cc102), (14, .pointer (some ad130)), (15, .int .i64 v145), (116, .int .i64 2)] := hs
         refine go_run hs (by rfl) (x_vidx (e := 45) (p := ad130) (n := 5) (k := .i64) (i := 2) (sz := 7) (⟨by decide, by decide⟩ : (0 : Int) ≤ 2 ∧ (2 : Int) < ((5 : Nat) : Int))) [116] ?_; clear hs; intro a hs
         refine go_pvs 3 [117] [(118, .pointer (some (((ad130 : Addr).add ((2 : Int).toNat * 7) : Addr).add 0)))] hs ?_; clear hs; intro a hs
         obtain ⟨wd159, hx160, hw⟩ := x_put (P := Try.prog) (ty := 0) (t := 3) (x := (Operand.tmp 118)) (y := (Operand.const (Value.int IntKind.i64 5))) (off := 14) (p := ((ad130 : Addr).add ((2 : Int).toNat * 7) : Addr).add 0) (v := .int .i64 5) (vs := [.int .i64 5]) (i := 0) (e' := (vset (#v[v139, v140, v141, v142, v143] : Vector Sapi_Instr 5) 2 ({ vx (⟨0, 0, 0, 0, 0, 0, false⟩ : Sapi_Instr) (#v[v139, v140, v141, v142, v143] : Vector Sapi_Instr 5) 2 with Kind := 5 } : Sapi_Instr) : Vector Sapi_Instr 5)) hs hw rfl (one_ok (#v[(⟨0, 0, 0, 0, 0, (-60), false⟩ : Sapi_Instr), (⟨0, 2, 0, 0, 0, (-64), false⟩ : Sapi_Instr), (⟨0, 1, 0, 0, 0, (-64), false⟩ : Sapi_Instr), (⟨0, 3, 0, 0, 0, (-60), false⟩ : Sapi_Instr), (⟨0, 0, 0, 0, 0, (-56), false⟩ : Sapi_Instr)] : Vector Sapi_Instr 5)).1 (one_ok (#v[(⟨0, 0, 0, 0, 0, (-60), false⟩ : Sapi_Instr), (⟨0, 2, 0, 0, 0, (-64), false⟩ : Sapi_Instr), (⟨0, 1, 0, 0, 0, (-64), false⟩ : Sapi_Instr), (⟨0, 3, 0, 0, 0, (-60), false⟩ : Sapi_Instr), (⟨0, 0, 0, 0, 0, (-56), false⟩ : Sapi_Instr)] : Vector Sapi_Instr 5)).2 (by kernel_rfl) (by simp only [add_add', Int.toNat_zero, Nat.zero_mul, Nat.zero_add, Nat.mul_one] <;> rfl) (by kernel_rfl) rfl (by kernel_rfl) (Nat.le_of_ble_eq_true rfl) (by simp [Value.oneCell']) (by kernel_rfl)
         refine go_unit hs (by rfl) hx160 [118] ?_; clear hs; intro a hs
         replace hw : St [] w0 wd159 [own 66 eA66 (some ad130) 1 [vset (#v[v139, v140, v141, v142, v143] : Vector Sapi_Instr 5) 2 ({ vx (⟨0, 0, 0, 0, 0, 0, false⟩ : Sapi_Instr) (#v[v139, v140, v141, v142, v143] : Vector Sapi_Instr 5) 2 with Kind := 5 } : Sapi_Instr)], own 23 (eI .u32) Aa101 cc102 t99, mSmachine_Machine (some ⟨g53, 0, none⟩) v144] := hw
         refine go_end ?_
         replace hw := hw.up 2
         replace hw := hw.up 2
         replace hw := hw.up 2
         exact hJ6 (vx (⟨0, 0, 0, 0, 0, 0, false⟩ : Sapi_Instr) (vset (#v[v139, v140, v141, v142, v143] : Vector Sapi_Instr 5) 2 ({ vx (⟨0, 0, 0, 0, 0, 0, false⟩ : Sapi_Instr) (#v[v139, v140, v141, v142, v143] : Vector Sapi_Instr 5) 2 with Kind := 5 } : Sapi_Instr)) 0) (vx (⟨0, 0, 0, 0, 0, 0, false⟩ : Sapi_Instr) (vset (#v[v139, v140, v141, v142, v143] : Vector Sapi_Instr 5) 2 ({ vx (⟨0, 0, 0, 0, 0, 0, false⟩ : Sapi_Instr) (#v[v139, v140, v141, v142, v143] : Vector Sapi_Instr 5) 2 with Kind := 5 } : Sapi_Instr)) 1) (vx (⟨0, 0, 0, 0, 0, 0, false⟩ : Sapi_Instr) (vset (#v[v139, v140, v141, v142, v143] : Vector Sapi_Instr 5) 2 ({ vx (⟨0, 0, 0, 0, 0, 0, false⟩ : Sapi_Instr) (#v[v139, v140, v141, v142, v143] : Vector Sapi_Instr 5) 2 with Kind := 5 } : Sapi_Instr)) 2) (vx (⟨0, 0, 0, 0, 0, 0, false⟩ : Sapi_Instr) (vset (#v[v139, v140, v141, v142, v143] : Vector Sapi_Instr 5) 2 ({ vx (⟨0, 0, 0, 0, 0, 0, false⟩ : Sapi_Instr) (#v[v139, v140, v141, v142, v143] : Vector Sapi_Instr 5) 2 with Kind := 5 } : Sapi_Instr)) 3) (vx (⟨0, 0, 0, 0, 0, 0, false⟩ : Sapi_Instr) (vset (#v[v139, v140, v141, v142, v143] : Vector Sapi_Instr 5) 2 ({ vx (⟨0, 0, 0, 0, 0, 0, false⟩ : Sapi_Instr) (#v[v139, v140, v141, v142, v143] : Vector Sapi_Instr 5) 2 with Kind := 5 } : Sapi_Instr)) 4) _ _ hs.kx hw H
        ·replace H := ite_f H hk158
         replace hs : Slots a 179 [(11, .pointer (some (⟨g53, 0, none⟩ : Addr))), (13, .slice Aa101 t99.length cc102), (14, .pointer (some ad130)), (15, .int .i64 v145), (116, .int .i64 v145)] := hs.kx
         by_cases hk161 : v145 = 3
         ·replace H := ite_t H hk161
          replace hs := (congrArg (fun z => Slots a 179 [(11, .pointer (some (⟨g53, 0, none⟩ : Addr))), (13, .slice Aa101 t99.length cc102), (14, .pointer (some ad130)), (15, .int .i64 v145), (116, .int .i64 z)]) hk161).mp hs
          replace hs : Slots a 179 [(11, .pointer (some (⟨g53, 0, none⟩ : Addr))), (13, .slice Aa101 t99.length cc102), (14, .pointer (some ad130)), (15, .int .i64 v145), (116, .int .i64 3)] := hs
          refine go_run hs (by rfl) (x_vidx (e := 45) (p := ad130) (n := 5) (k := .i64) (i := 3) (sz := 7) (⟨by decide, by decide⟩ : (0 : Int) ≤ 3 ∧ (3 : Int) < ((5 : Nat) : Int))) [116] ?_; clear hs; intro a hs
          refine go_pvs 3 [117] [(118, .pointer (some (((ad130 : Addr).add ((3 : Int).toNat * 7) : Addr).add 0)))] hs ?_; clear hs; intro a hs
          obtain ⟨wd162, hx163, hw⟩ := x_put (P := Try.prog) (ty := 0) (t := 3) (x := (Operand.tmp 118)) (y := (Operand.const (Value.int IntKind.i64 5))) (off := 21) (p := ((ad130 : Addr).add ((3 : Int).toNat * 7) : Addr).add 0) (v := .int .i64 5) (vs := [.int .i64 5]) (i := 0) (e' := (vset (#v[v139, v140, v141, v142, v143] : Vector Sapi_Instr 5) 3 ({ vx (⟨0, 0, 0, 0, 0, 0, false⟩ : Sapi_Instr) (#v[v139, v140, v141, v142, v143] : Vector Sapi_Instr 5) 3 with Kind := 5 } : Sapi_Instr) : Vector Sapi_Instr 5)) hs hw rfl (one_ok (#v[(⟨0, 0, 0, 0, 0, (-60), false⟩ : Sapi_Instr), (⟨0, 2, 0, 0, 0, (-64), false⟩ : Sapi_Instr), (⟨0, 1, 0, 0, 0, (-64), false⟩ : Sapi_Instr), (⟨0, 3, 0, 0, 0, (-60), false⟩ : Sapi_Instr), (⟨0, 0, 0, 0, 0, (-56), false⟩ : Sapi_Instr)] : Vector Sapi_Instr 5)).1 (one_ok (#v[(⟨0, 0, 0, 0, 0, (-60), false⟩ : Sapi_Instr), (⟨0, 2, 0, 0, 0, (-64), false⟩ : Sapi_Instr), (⟨0, 1, 0, 0, 0, (-64), false⟩ : Sapi_Instr), (⟨0, 3, 0, 0, 0, (-60), false⟩ : Sapi_Instr), (⟨0, 0, 0, 0, 0, (-56), false⟩ : Sapi_Instr)] : Vector Sapi_Instr 5)).2 (by kernel_rfl) (by simp only [add_add', Int.toNat_zero, Nat.zero_mul, Nat.zero_add, Nat.mul_one] <;> rfl) (by kernel_rfl) rfl (by kernel_rfl) (Nat.le_of_ble_eq_true rfl) (by simp [Value.oneCell']) (by kernel_rfl)
          refine go_unit hs (by rfl) hx163 [118] ?_; clear hs; intro a hs
          replace hw : St [] w0 wd162 [own 66 eA66 (some ad130) 1 [vset (#v[v139, v140, v141, v142, v143] : Vector Sapi_Instr 5) 3 ({ vx (⟨0, 0, 0, 0, 0, 0, false⟩ : Sapi_Instr) (#v[v139, v140, v141, v142, v143] : Vector Sapi_Instr 5) 3 with Kind := 5 } : Sapi_Instr)], own 23 (eI .u32) Aa101 cc102 t99, mSmachine_Machine (some ⟨g53, 0, none⟩) v144] := hw
          refine go_end ?_
          replace hw := hw.up 2
          replace hw := hw.up 2
          replace hw := hw.up 2
          exact hJ6 (vx (⟨0, 0, 0, 0, 0, 0, false⟩ : Sapi_Instr) (vset (#v[v139, v140, v141, v142, v143] : Vector Sapi_Instr 5) 3 ({ vx (⟨0, 0, 0, 0, 0, 0, false⟩ : Sapi_Instr) (#v[v139, v140, v141, v142, v143] : Vector Sapi_Instr 5) 3 with Kind := 5 } : Sapi_Instr)) 0) (vx (⟨0, 0, 0, 0, 0, 0, false⟩ : Sapi_Instr) (vset (#v[v139, v140, v141, v142, v143] : Vector Sapi_Instr 5) 3 ({ vx (⟨0, 0, 0, 0, 0, 0, false⟩ : Sapi_Instr) (#v[v139, v140, v141, v142, v143] : Vector Sapi_Instr 5) 3 with Kind := 5 } : Sapi_Instr)) 1) (vx (⟨0, 0, 0, 0, 0, 0, false⟩ : Sapi_Instr) (vset (#v[v139, v140, v141, v142, v143] : Vector Sapi_Instr 5) 3 ({ vx (⟨0, 0, 0, 0, 0, 0, false⟩ : Sapi_Instr) (#v[v139, v140, v141, v142, v143] : Vector Sapi_Instr 5) 3 with Kind := 5 } : Sapi_Instr)) 2) (vx (⟨0, 0, 0, 0, 0, 0, false⟩ : Sapi_Instr) (vset (#v[v139, v140, v141, v142, v143] : Vector Sapi_Instr 5) 3 ({ vx (⟨0, 0, 0, 0, 0, 0, false⟩ : Sapi_Instr) (#v[v139, v140, v141, v142, v143] : Vector Sapi_Instr 5) 3 with Kind := 5 } : Sapi_Instr)) 3) (vx (⟨0, 0, 0, 0, 0, 0, false⟩ : Sapi_Instr) (vset (#v[v139, v140, v141, v142, v143] : Vector Sapi_Instr 5) 3 ({ vx (⟨0, 0, 0, 0, 0, 0, false⟩ : Sapi_Instr) (#v[v139, v140, v141, v142, v143] : Vector Sapi_Instr 5) 3 with Kind := 5 } : Sapi_Instr)) 4) _ _ hs.kx hw H
         ·replace H := ite_f H hk161
          replace hs : Slots a 179 [(11, .pointer (some (⟨g53, 0, none⟩ : Addr))), (13, .slice Aa101 t99.length cc102), (14, .pointer (some ad130)), (15, .int .i64 v145), (116, .int .i64 v145)] := hs.kx
          by_cases hk164 : v145 = 4
          ·replace H := ite_t H hk164
           replace hs := (congrArg (fun z => Slots a 179 [(11, .pointer (some (⟨g53, 0, none⟩ : Addr))), (13, .slice Aa101 t99.length cc102), (14, .pointer (some ad130)), (15, .int .i64 v145), (116, .int .i64 z)]) hk164).mp hs
           replace hs : Slots a 179 [(11, .pointer (some (⟨g53, 0, none⟩ : Addr))), (13, .slice Aa101 t99.length cc102), (14, .pointer (some ad130)), (15, .int .i64 v145), (116, .int .i64 4)] := hs
           refine go_run hs (by rfl) (x_vidx (e := 45) (p := ad130) (n := 5) (k := .i64) (i := 4) (sz := 7) (⟨by decide, by decide⟩ : (0 : Int) ≤ 4 ∧ (4 : Int) < ((5 : Nat) : Int))) [116] ?_; clear hs; intro a hs
           refine go_pvs 3 [117] [(118, .pointer (some (((ad130 : Addr).add ((4 : Int).toNat * 7) : Addr).add 0)))] hs ?_; clear hs; intro a hs
           obtain ⟨wd165, hx166, hw⟩ := x_put (P := Try.prog) (ty := 0) (t := 3) (x := (Operand.tmp 118)) (y := (Operand.const (Value.int IntKind.i64 5))) (off := 28) (p := ((ad130 : Addr).add ((4 : Int).toNat * 7) : Addr).add 0) (v := .int .i64 5) (vs := [.int .i64 5]) (i := 0) (e' := (vset (#v[v139, v140, v141, v142, v143] : Vector Sapi_Instr 5) 4 ({ vx (⟨0, 0, 0, 0, 0, 0, false⟩ : Sapi_Instr) (#v[v139, v140, v141, v142, v143] : Vector Sapi_Instr 5) 4 with Kind := 5 } : Sapi_Instr) : Vector Sapi_Instr 5)) hs hw rfl (one_ok (#v[(⟨0, 0, 0, 0, 0, (-60), false⟩ : Sapi_Instr), (⟨0, 2, 0, 0, 0, (-64), false⟩ : Sapi_Instr), (⟨0, 1, 0, 0, 0, (-64), false⟩ : Sapi_Instr), (⟨0, 3, 0, 0, 0, (-60), false⟩ : Sapi_Instr), (⟨0, 0, 0, 0, 0, (-56), false⟩ : Sapi_Instr)] : Vector Sapi_Instr 5)).1 (one_ok (#v[(⟨0, 0, 0, 0, 0, (-60), false⟩ : Sapi_Instr), (⟨0, 2, 0, 0, 0, (-64), false⟩ : Sapi_Instr), (⟨0, 1, 0, 0, 0, (-64), false⟩ : Sapi_Instr), (⟨0, 3, 0, 0, 0, (-60), false⟩ : Sapi_Instr), (⟨0, 0, 0, 0, 0, (-56), false⟩ : Sapi_Instr)] : Vector Sapi_Instr 5)).2 (by kernel_rfl) (by simp only [add_add', Int.toNat_zero, Nat.zero_mul, Nat.zero_add, Nat.mul_one] <;> rfl) (by kernel_rfl) rfl (by kernel_rfl) (Nat.le_of_ble_eq_true rfl) (by simp [Value.oneCell']) (by kernel_rfl)
           refine go_unit hs (by rfl) hx166 [118] ?_; clear hs; intro a hs
           replace hw : St [] w0 wd165 [own 66 eA66 (some ad130) 1 [vset (#v[v139, v140, v141, v142, v143] : Vector Sapi_Instr 5) 4 ({ vx (⟨0, 0, 0, 0, 0, 0, false⟩ : Sapi_Instr) (#v[v139, v140, v141, v142, v143] : Vector Sapi_Instr 5) 4 with Kind := 5 } : Sapi_Instr)], own 23 (eI .u32) Aa101 cc102 t99, mSmachine_Machine (some ⟨g53, 0, none⟩) v144] := hw
           refine go_end ?_
           replace hw := hw.up 2
           replace hw := hw.up 2
           replace hw := hw.up 2
           exact hJ6 (vx (⟨0, 0, 0, 0, 0, 0, false⟩ : Sapi_Instr) (vset (#v[v139, v140, v141, v142, v143] : Vector Sapi_Instr 5) 4 ({ vx (⟨0, 0, 0, 0, 0, 0, false⟩ : Sapi_Instr) (#v[v139, v140, v141, v142, v143] : Vector Sapi_Instr 5) 4 with Kind := 5 } : Sapi_Instr)) 0) (vx (⟨0, 0, 0, 0, 0, 0, false⟩ : Sapi_Instr) (vset (#v[v139, v140, v141, v142, v143] : Vector Sapi_Instr 5) 4 ({ vx (⟨0, 0, 0, 0, 0, 0, false⟩ : Sapi_Instr) (#v[v139, v140, v141, v142, v143] : Vector Sapi_Instr 5) 4 with Kind := 5 } : Sapi_Instr)) 1) (vx (⟨0, 0, 0, 0, 0, 0, false⟩ : Sapi_Instr) (vset (#v[v139, v140, v141, v142, v143] : Vector Sapi_Instr 5) 4 ({ vx (⟨0, 0, 0, 0, 0, 0, false⟩ : Sapi_Instr) (#v[v139, v140, v141, v142, v143] : Vector Sapi_Instr 5) 4 with Kind := 5 } : Sapi_Instr)) 2) (vx (⟨0, 0, 0, 0, 0, 0, false⟩ : Sapi_Instr) (vset (#v[v139, v140, v141, v142, v143] : Vector Sapi_Instr 5) 4 ({ vx (⟨0, 0, 0, 0, 0, 0, false⟩ : Sapi_Instr) (#v[v139, v140, v141, v142, v143] : Vector Sapi_Instr 5) 4 with Kind := 5 } : Sapi_Instr)) 3) (vx (⟨0, 0, 0, 0, 0, 0, false⟩ : Sapi_Instr) (vset (#v[v139, v140, v141, v142, v143] : Vector Sapi_Instr 5) 4 ({ vx (⟨0, 0, 0, 0, 0, 0, false⟩ : Sapi_Instr) (#v[v139, v140, v141, v142, v143] : Vector Sapi_Instr 5) 4 with Kind := 5 } : Sapi_Instr)) 4) _ _ hs.kx hw H
          ·replace H := ite_f H hk164
           cases H
     ·replace H := ite_f H (of_decide_eq_false hc)
      have hb268 := hc
      rw [hb268] at hs
      refine wp_exit ?_
      refine th_exit ?_
      refine th_exit ?_
      refine in_block ?_
      replace hw := hw.up 2
      replace hw := hw.up 2
      replace hw := hw.up 2
      rw [← hr138 _ (Option.some.inj H).symm] at HX138
      exact hJ10 (vx (⟨0, 0, 0, 0, 0, 0, false⟩ : Sapi_Instr) (#v[v139, v140, v141, v142, v143] : Vector Sapi_Instr 5) 0) (vx (⟨0, 0, 0, 0, 0, 0, false⟩ : Sapi_Instr) (#v[v139, v140, v141, v142, v143] : Vector Sapi_Instr 5) 1) (vx (⟨0, 0, 0, 0, 0, 0, false⟩ : Sapi_Instr) (#v[v139, v140, v141, v142, v143] : Vector Sapi_Instr 5) 2) (vx (⟨0, 0, 0, 0, 0, 0, false⟩ : Sapi_Instr) (#v[v139, v140, v141, v142, v143] : Vector Sapi_Instr 5) 3) (vx (⟨0, 0, 0, 0, 0, 0, false⟩ : Sapi_Instr) (#v[v139, v140, v141, v142, v143] : Vector Sapi_Instr 5) 4) v144 _ _ hs.kx hw HX138
    refine go_seq_k fun K107 hK107 => ?_
    have hJ4 : ∀ (v125 : Bool) (a : Act) (w : World), Slots a 179 [(11, .pointer (some (⟨g53, 0, none⟩ : Addr))), (13, .slice Aa101 t99.length cc102), (105, .bool v125)] → St [] w0 w [own 23 (eI .u32) Aa101 cc102 t99, mSmachine_Machine (some ⟨g53, 0, none⟩) t90] → rivetlaw06_MachinePorts.j4 t99 t90 v125 = some r → K107 a w := by
     intro v125 a w hs hw H
     unfold rivetlaw06_MachinePorts.j4 at H
     refine hK107 _ _ ?_
     refine go_cond hs v125 (fun hc => ?_) fun hc => ?_
     ·replace H := ite_t H hc
      have hb126 := hc
      rw [hb126] at hs
      refine go_sp [11, 13, 105] [(2, .bool false)] hs ?_; clear hs; intro a hs
      refine wp_ret ?_
      refine th_ret ?_
      obtain rfl := Option.some.inj H
      refine ret1 (t := 2) (v := .bool false) hs (by kernel_rfl) (by kernel_rfl) ?_
      exact ⟨rfl, hw.only 0⟩
     ·replace H := ite_f H (ff hc)
      have hb128 := hc
      rw [hb128] at hs
      refine wp_skip ?_
      replace hw := hw.up 1
      replace hw := hw.up 1
      exact hJ5 _ _ hs.kx hw H
    refine go_region ?_
    refine go_pvs 7 [] [(80, .bool ((t99.length : Int) != (w64 ((t31.length : Int) + 2))))] hs ?_; clear hs; intro a hs
    cases hb108 : ((t99.length : Int) != (w64 ((t31.length : Int) + 2)))
    ·replace H := ite_t H (bne_eq_false_iff_eq.1 hb108)
     rw [hb108] at hs
     refine go_pvs 10 [] [(81, .slice Aa101 t99.length cc102), (83, .int .i64 (t31.length : Int))] hs ?_; clear hs; intro a hs
     obtain ⟨hp109, H⟩ := ite_only H
     obtain ⟨Aa110, cc111, hx112, hc113⟩ := c_hi (P := Try.prog) (ty := 22) (E := (eI .u32)) (T := 23) (t := 22) (x := (Operand.tmp 81)) (y := (Operand.tmp 83)) (k := .i64) hs (by kernel_rfl) (by kernel_rfl) (Rd.of_own (hw.up 0)) (by kernel_rfl) (by kernel_rfl) hp109.1 hp109.2
     refine go_run hs (by rfl) hx112 [81, 83] ?_; clear hs; intro a hs
     refine go_pvs 12 [] [(85, .slice Aa33 t31.length cc34)] hs ?_; clear hs; intro a hs
     obtain ⟨t116, hx117, H⟩ := bind_some H
     refine go_call hs (by rfl) (rivetref05_Same.calls Aa110 cc111 (t99.take ((t31.length : Int) : Int).toNat) Aa33 cc34 t31 t116 _ (hc113 _ (Rd.of_own (hw.up 0))) (hc37 _ (hr0.old hw)) hx117) ?_
     rintro e wd118 ⟨rfl, hw119⟩
     refine ⟨_, rfl, ?_⟩
     replace hw := hw.call hw119
     clear hs; intro a hs; replace hs := hs.rms [84, 85]
     refine go_pvs 16 [80, 86] [(89, .bool (!t116))] hs ?_; clear hs; intro a hs
     cases hb120 : (!t116)
     ·replace H := ite_t H (nf hb120)
      rw [hb120] at hs
      refine go_pvs 19 [] [(90, .slice Aa101 t99.length cc102), (92, .int .i64 (t31.length : Int))] hs ?_; clear hs; intro a hs
      obtain ⟨hp121, H⟩ := ite_only H
      obtain ⟨ad122, rfl⟩ := (Rd.of_own (hw.up 0)).some hp121.1 hp121.2
      refine go_run hs (by rfl) (x_idx (T := 23) (sz := 1) (a := ad122) (n := t99.length) (cap := cc102) (k := .i64) (i := (t31.length : Int)) hp121) [90, 92] ?_; clear hs; intro a hs
      refine go_run hs (by rfl) (x_ld (off := 0) (p := ad122.add ((t31.length : Int).toNat * 1)) (v := .int .u32 (ix (eI .u32).d t99 (t31.length : Int))) (Rd.of_own (hw.up 0)) hp121 rfl) [93] ?_; clear hs; intro a hs
      refine go_pvs 24 [89, 94] [(97, .bool ((ix (eI .u32).d t99 (t31.length : Int)) != 0))] hs ?_; clear hs; intro a hs
      cases hb123 : ((ix (eI .u32).d t99 (t31.length : Int)) != 0)
      ·replace H := ite_t H (bne_eq_false_iff_eq.1 hb123)
       rw [hb123] at hs
       refine go_pvs 28 [10] [(98, .slice (some ad122) t99.length cc102), (101, .int .i64 (w64 ((t31.length : Int) + 1)))] hs ?_; clear hs; intro a hs
       obtain ⟨hp124, H⟩ := ite_only H
       refine go_run hs (by rfl) (x_idx (T := 23) (sz := 1) (a := ad122) (n := t99.length) (cap := cc102) (k := .i64) (i := (w64 ((t31.length : Int) + 1))) hp124) [98, 101] ?_; clear hs; intro a hs
       refine go_run hs (by rfl) (x_ld (off := 0) (p := ad122.add ((w64 ((t31.length : Int) + 1)).toNat * 1)) (v := .int .u32 (ix (eI .u32).d t99 (w64 ((t31.length : Int) + 1)))) (Rd.of_own (hw.up 0)) hp124 rfl) [102] ?_; clear hs; intro a hs
       refine go_pvs 32 [97, 103] [(105, .bool ((ix (eI .u32).d t99 (w64 ((t31.length : Int) + 1))) != 0))] hs ?_; clear hs; intro a hs
       refine go_end ?_
       replace hw := hw.up 1
       replace hw := hw.up 1
       exact hJ4 ((ix (eI .u32).d t99 (w64 ((t31.length : Int) + 1))) != 0) _ _ hs.kx hw H
      ·replace H := ite_f H (bne_iff_ne.1 hb123)
       rw [hb123] at hs
       refine go_pvs 32 [10, 97] [(105, .bool true)] hs ?_; clear hs; intro a hs
       refine go_end ?_
       replace hw := hw.up 1
       replace hw := hw.up 1
       exact hJ4 true _ _ hs.kx hw H
     ·replace H := ite_f H (ff (nt hb120))
      rw [hb120] at hs
      refine go_pvs 32 [10, 89] [(105, .bool true)] hs ?_; clear hs; intro a hs
      refine go_end ?_
      replace hw := hw.up 1
      replace hw := hw.up 1
      exact hJ4 true _ _ hs.kx hw H
    ·replace H := ite_f H (bne_iff_ne.1 hb108)
     rw [hb108] at hs
     refine go_pvs 32 [10, 80] [(105, .bool true)] hs ?_; clear hs; intro a hs
     refine go_end ?_
     replace hw := hw.up 1
     replace hw := hw.up 1
     exact hJ4 true _ _ hs.kx hw H
  refine go_seq_k fun K55 hK55 => ?_
  have hJ2 : ∀ (v80 : Smachine_Machine) (v81 : Bool) (a : Act) (w : World), Slots a 179 [(10, .slice Aa33 t31.length cc34), (11, .pointer (some (⟨g53, 0, none⟩ : Addr))), (64, .bool v81)] → St [] w0 w [mSmachine_Machine (some ⟨g53, 0, none⟩) v80] → rivetlaw06_MachinePorts.j2 t31 v80 v81 = some r → K55 a w := by
   intro v80 v81 a w hs hw H
   unfold rivetlaw06_MachinePorts.j2 at H
   refine hK55 _ _ ?_
   refine go_cond hs v81 (fun hc => ?_) fun hc => ?_
   ·replace H := ite_t H hc
    have hb82 := hc
    rw [hb82] at hs
    refine go_sp [10, 11, 64] [(2, .bool false)] hs ?_; clear hs; intro a hs
    refine wp_ret ?_
    refine th_ret ?_
    obtain rfl := Option.some.inj H
    refine ret1 (t := 2) (v := .bool false) hs (by kernel_rfl) (by kernel_rfl) ?_
    exact ⟨rfl, hw.only 0⟩
   ·replace H := ite_f H (ff hc)
    have hb84 := hc
    rw [hb84] at hs
    refine wp_skip ?_
    exact hJ3 v80 _ _ hs.kx hw H
  refine go_region ?_
  refine go_pvs 3 [3] [(45, .bool (!t4))] hs ?_; clear hs; intro a hs
  cases hb56 : (!t4)
  ·replace H := ite_t H (nf hb56)
   rw [hb56] at hs
   refine go_pvs 11 [12, 45] [(53, .bool (t42 != 0))] hs ?_; clear hs; intro a hs
   cases hb57 : (t42 != 0)
   ·replace H := ite_t H (bne_eq_false_iff_eq.1 hb57)
    rw [hb57] at hs
    refine go_pvs 14 [] [(56, .pointer (some (⟨g53, 0, none⟩ : Addr)))] hs ?_; clear hs; intro a hs
    obtain ⟨Aa58, Aa60, cc61, Aa63, cc64, hw⟩ := mSmachine_Machine.open1 hw
    replace hw : St [] w0 _ [box g53 40 ([.pointer Aa58] ++ eSapi_Regs.enc x48.s ++ [.int .u32 x48.pc, .int .i64 x48.status, .slice Aa60 x48.in'.length cc61, .slice Aa63 x48.out.length cc64]), oM mSmemory_Memory Aa58 x48.Memory, rdo (eI .u32) Aa60 cc61 x48.in', own 23 (eI .u32) Aa63 cc64 x48.out] := hw
    replace hw := hw.up 1
    obtain ⟨y66, hy67, H⟩ := bind_some H
    replace hw := St.oM_some hw hy67
    obtain ⟨g68, hAg, hwg⟩ := St.one hw
    clear hw; subst hAg; have hw := hwg; clear hwg
    replace hw : St [] w0 _ [own 75 eSmemory_Memory (some (⟨g68, 0, none⟩ : Addr)) 1 [y66], box g53 40 ([.pointer (some (⟨g68, 0, none⟩ : Addr))] ++ eSapi_Regs.enc x48.s ++ [.int .u32 x48.pc, .int .i64 x48.status, .slice Aa60 x48.in'.length cc61, .slice Aa63 x48.out.length cc64]), rdo (eI .u32) Aa60 cc61 x48.in', own 23 (eI .u32) Aa63 cc64 x48.out] := hw
    refine go_run hs (by rfl) (x_bld (g := g53) (o := 0) (p := (⟨g53, 0, none⟩ : Addr)) (v := .pointer (some (⟨g68, 0, none⟩ : Addr))) (hw.up 1)) [56] ?_; clear hs; intro a hs
    refine go_pvs 18 [4, 6, 8] [(58, .int .u32 t10), (59, .int .u32 t17), (60, .int .u32 t24)] hs ?_; clear hs; intro a hs
    obtain ⟨Aa69, cc70, wd71, hx72, hw⟩ := n_lit (P := Try.prog) (t := 22) (ty := 22) (T := 23) (len := 3) (parts := #[(0, (Operand.tmp 58)), (1, (Operand.tmp 59)), (2, (Operand.tmp 60))]) (z := .int .u32 0) (bytes := 4) (cells := #[.int .u32 t10, .int .u32 t17, .int .u32 t24]) hs hw (eI .u32) ([t10, t17, t24] : List Int) (by kernel_rfl) (by kernel_rfl) (by kernel_rfl) (by kernel_rfl) (by kernel_rfl) (by kernel_rfl) (by kernel_rfl)
    refine go_run hs (by rfl) hx72 [58, 59, 60] ?_; clear hs; intro a hs
    replace hw := hw.up 1
    obtain ⟨ks74, hgks74, hstks74, hbkks74⟩ := hw.lend 1
    obtain ⟨⟨t75, t76⟩, hx77, H⟩ := bind_some H
    refine go_call hs (by rfl) (memory_Memory_Place.calls ks74 (some (⟨g68, 0, none⟩ : Addr)) y66 0 Aa69 cc70 ([t10, t17, t24] : List Int) (t75, t76) _ hgks74 (fun wz hkz => (Rd.of_own ((hstks74 _ hkz).up 0))) hx77) ?_
    rintro e wd78 ⟨rfl, hw79⟩
    refine ⟨_, rfl, ?_⟩
    replace hw := hbkks74 _ _ hw79
    replace hw : St [] w0 _ [own 75 eSmemory_Memory (some (⟨g68, 0, none⟩ : Addr)) 1 [t76], own 23 (eI .u32) Aa69 cc70 ([t10, t17, t24] : List Int), box g53 40 ([.pointer (some (⟨g68, 0, none⟩ : Addr))] ++ eSapi_Regs.enc x48.s ++ [.int .u32 x48.pc, .int .i64 x48.status, .slice Aa60 x48.in'.length cc61, .slice Aa63 x48.out.length cc64]), rdo (eI .u32) Aa60 cc61 x48.in', own 23 (eI .u32) Aa63 cc64 x48.out] := hw
    clear hs; intro a hs; replace hs := hs.rms [57, 61]
    replace hs : Slots a 179 [(10, .slice Aa33 t31.length cc34), (11, .pointer (some (⟨g53, 0, none⟩ : Addr))), (53, .bool false), (62, .int .i64 t75)] := hs.kx
    refine go_pvs 22 [53, 62] [(64, .bool (t75 != 0))] hs ?_; clear hs; intro a hs
    refine go_end ?_
    replace hw := St.oM_of (m := mSmemory_Memory) (A := (some (⟨g68, 0, none⟩ : Addr))) (x := t76) hw
    replace hw := hw.up 4
    replace hw := hw.up 4
    replace hw := hw.up 2
    replace hw := hw.up 4
    replace hw := mSmachine_Machine.close (x := (⟨(some t76), x48.s, x48.pc, x48.status, x48.in', x48.out⟩ : Smachine_Machine)) hw
    replace hw := hw.only 1
    exact hJ2 (⟨(some t76), x48.s, x48.pc, x48.status, x48.in', x48.out⟩ : Smachine_Machine) (t75 != 0) _ _ hs.kx hw H
   ·replace H := ite_f H (bne_iff_ne.1 hb57)
    rw [hb57] at hs
    refine go_pvs 22 [4, 6, 8, 53] [(64, .bool true)] hs ?_; clear hs; intro a hs
    refine go_end ?_
    exact hJ2 x48 true _ _ hs.kx hw H
  ·replace H := ite_f H (ff (nt hb56))
   rw [hb56] at hs
   refine go_pvs 22 [4, 6, 8, 12, 45] [(64, .bool true)] hs ?_; clear hs; intro a hs
   refine go_end ?_
   exact hJ2 x48 true _ _ hs.kx hw H

end Go.Proofs.Ytheccnbamcdpmaa.T06
