/- YtheccnbamcdpmaaT06: Go functions told as plain ones, each with a proof that its call comes to what is told, part 3. Condition of each: that the plain function comes to a value. -/
import Derived.Test.YtheccnbamcdpmaaT06b
namespace Go.Proofs.Ytheccnbamcdpmaa.T06
open Go Go.RowKit Go.Proofs.Ytheccnbamcdpmaa.E
set_option linter.unusedVariables false
set_option linter.unusedSimpArgs false

/-! rivet/rivetref03.May: function 44 -/
noncomputable def rivetref03_May.j11 (v97 : Bool) : Option Bool := some v97
noncomputable def rivetref03_May.j10 (v88 : Sapi_Instr) (a0 : Sapi_Instr) (v91 : Bool) : Option Bool := (if ((v88.Kind == a0.Kind) && ((v88.Op == a0.Op) && ((v88.A == a0.A) && ((v88.B == a0.B) && ((v88.C == a0.C) && ((v88.Imm == a0.Imm) && ((v88.U == a0.U) && true))))))) = true then (if a0.Imm ≤ 65535 then (if a0.Imm ≥ (-65536) then (if a0.Imm ≥ 0 then rivetref03_May.j11 true else rivetref03_May.j11 (!v91)) else rivetref03_May.j11 false) else rivetref03_May.j11 false) else rivetref03_May.j11 false)
noncomputable def rivetref03_May.j9 (a0 : Sapi_Instr) (v88 : Sapi_Instr) : Option Bool := (if a0.Op = 0 then rivetref03_May.j10 v88 a0 a0.U else rivetref03_May.j10 v88 a0 false)
noncomputable def rivetref03_May.j8 (a0 : Sapi_Instr) (v70 : Sapi_Instr) : Option Bool := (if a0.Kind = 1 then some ((v70.Kind == a0.Kind) && ((v70.Op == a0.Op) && ((v70.A == a0.A) && ((v70.B == a0.B) && ((a0.C == a0.C) && ((v70.Imm == a0.Imm) && ((v70.U == a0.U) && true))))))) else (if a0.Op = 0 then rivetref03_May.j9 a0 ({ ({ v70 with Imm := a0.Imm } : Sapi_Instr) with U := a0.U } : Sapi_Instr) else rivetref03_May.j9 a0 ({ v70 with Imm := a0.Imm } : Sapi_Instr)))
noncomputable def rivetref03_May.j7 (v38 : Bool) (a0 : Sapi_Instr) (v63 : Sapi_Instr) : Option Bool := (if v38 = true then rivetref03_May.j8 a0 ({ v63 with U := a0.U } : Sapi_Instr) else rivetref03_May.j8 a0 v63)
noncomputable def rivetref03_May.j6 (a0 : Sapi_Instr) (v38 : Bool) : Option Bool := (if a0.Op = 0 then rivetref03_May.j7 v38 a0 ({ (⟨a0.Kind, 0, a0.A, 0, 0, 0, false⟩ : Sapi_Instr) with Op := a0.Op } : Sapi_Instr) else rivetref03_May.j7 v38 a0 ({ ({ (⟨a0.Kind, 0, a0.A, 0, 0, 0, false⟩ : Sapi_Instr) with Op := a0.Op } : Sapi_Instr) with B := a0.B } : Sapi_Instr))
noncomputable def rivetref03_May.j5 (a0 : Sapi_Instr) (v38 : Bool) (v53 : Bool) : Option Bool := (if v53 = true then some false else rivetref03_May.j6 a0 v38)
noncomputable def rivetref03_May.j13 (v127 : Bool) : Option Bool := some v127
noncomputable def rivetref03_May.j14 (v141 : Bool) : Option Bool := some v141
noncomputable def rivetref03_May.j15 (v161 : Bool) : Option Bool := some v161
noncomputable def rivetref03_May.j16 : Option Bool := some false
noncomputable def rivetref03_May.j12 (a0 : Sapi_Instr) (v103 : Bool) : Option Bool := (if v103 = true then some ((a0.Kind == a0.Kind) && ((0 == a0.Op) && ((a0.A == a0.A) && ((0 == a0.B) && ((0 == a0.C) && ((0 == a0.Imm) && ((false == a0.U) && true))))))) else (if a0.Kind = 5 then (if ((a0.Kind == a0.Kind) && ((a0.Op == a0.Op) && ((a0.A == a0.A) && ((a0.B == a0.B) && ((0 == a0.C) && ((a0.Imm == a0.Imm) && ((false == a0.U) && true))))))) = true then (if a0.Op ≥ 0 then (if a0.Op ≤ 3 then ((rivetref02_Fits a0.Imm 20).bind fun t123 => (rivetref03_May.j13 t123)) else rivetref03_May.j13 false) else rivetref03_May.j13 false) else rivetref03_May.j13 false) else (if a0.Kind = 6 then (if ((a0.Kind == a0.Kind) && ((a0.Op == a0.Op) && ((0 == a0.A) && ((0 == a0.B) && ((a0.C == a0.C) && ((0 == a0.Imm) && ((a0.U == a0.U) && true))))))) = true then ((rivetref03_reg a0.Op).bind fun t137 => (rivetref03_May.j14 t137)) else rivetref03_May.j14 false) else (if a0.Kind = 7 then (if ((a0.Kind == a0.Kind) && ((a0.Op == a0.Op) && ((0 == a0.A) && ((0 == a0.B) && ((0 == a0.C) && ((a0.Imm == a0.Imm) && ((a0.U == a0.U) && true))))))) = true then ((rivetref03_reg a0.Op).bind fun t151 => ((if t151 = true then ((rivetref02_Fits a0.Imm 24).bind fun t157 => (rivetref03_May.j15 t157)) else rivetref03_May.j15 false))) else rivetref03_May.j15 false) else rivetref03_May.j16))))
noncomputable def rivetref03_May.j4 (a0 : Sapi_Instr) (v38 : Bool) (v45 : Bool) : Option Bool := (if v45 = true then (if a0.Op < 0 then rivetref03_May.j5 a0 v38 true else rivetref03_May.j5 a0 v38 (decide (a0.Op > 11))) else (if a0.Kind = 3 then rivetref03_May.j12 a0 true else rivetref03_May.j12 a0 (a0.Kind == 4)))
noncomputable def rivetref03_May.j3 (a0 : Sapi_Instr) (v38 : Bool) : Option Bool := (if a0.Kind = 1 then rivetref03_May.j4 a0 v38 true else rivetref03_May.j4 a0 v38 (a0.Kind == 2))
noncomputable def rivetref03_May.j2 (a0 : Sapi_Instr) : Option Bool := (if a0.Op ≥ 8 then rivetref03_May.j3 a0 (decide (a0.Op ≤ 10)) else rivetref03_May.j3 a0 false)
noncomputable def rivetref03_May.j1 (a0 : Sapi_Instr) (v25 : Bool) : Option Bool := (if v25 = true then some false else rivetref03_May.j2 a0)
noncomputable def rivetref03_May (a0 : Sapi_Instr) : Option Bool := ((rivetref03_reg a0.A).bind fun t9 => ((if t9 = true then ((rivetref03_reg a0.B).bind fun t15 => ((if t15 = true then ((rivetref03_reg a0.C).bind fun t21 => (rivetref03_May.j1 a0 (!t21))) else rivetref03_May.j1 a0 true))) else rivetref03_May.j1 a0 true)))
set_option maxRecDepth 100000 in
set_option maxHeartbeats 4000000 in
theorem rivetref03_May.calls (a0 : Sapi_Instr) (r : Bool) (w0 : World) (H : rivetref03_May a0 = some r) :
    Calls Try.prog 44 #[.agg (eSapi_Instr.enc a0).toArray] w0 fun e w' => e = .returned (.bool r) ∧ St [] w0 w' [] := by
 have hw : St [] w0 w0 [] := St.nil w0
 unfold rivetref03_May at H
 refine go_fn Try.func44 rfl Try.ntmps44 ?_; intro a hs
 refine go_sk fun K1 hK1 => ?_
 obtain ⟨ad2, wd3, hx4, hw⟩ := x_box1 (P := Try.prog) (elem := 45) (v := (Operand.tmp 0)) (ty := 0) hs hw eSapi_Instr a0 (by kernel_rfl)
 refine go_run hs (by rfl) hx4 [0] ?_; clear hs; intro a hs
 refine go_pvs 2 [] [] hs ?_; clear hs; intro a hs
 refine go_end (hK1 _ _ ?_)
 refine go_seq_k fun K6 hK6 => ?_
 have hJ2 : ∀ (a : Act) (w : World), Slots a 186 [(1, .pointer (some ad2))] → St [] w0 w [own 45 eSapi_Instr (some ad2) 1 [a0]] → rivetref03_May.j2 a0 = some r → K6 a w := by
  intro a w hs hw H
  unfold rivetref03_May.j2 at H
  refine hK6 _ _ ?_
  refine go_sk fun K29 hK29 => ?_
  refine go_pvs 1 [] [(22, .pointer (some ((ad2 : Addr).add 0)))] hs ?_; clear hs; intro a hs
  refine go_run hs (by rfl) (x_ld (off := 0) (p := (ad2 : Addr).add 0) (v := .int .i64 a0.Kind) (Rd.of_own (hw.up 0)) (one_ok a0) (one_off _ _ _)) [22] ?_; clear hs; intro a hs
  refine go_pvs 3 [] [(24, .pointer (some ((ad2 : Addr).add 2)))] hs ?_; clear hs; intro a hs
  refine go_run hs (by rfl) (x_ld (off := 2) (p := (ad2 : Addr).add 2) (v := .int .i64 a0.A) (Rd.of_own (hw.up 0)) (one_ok a0) (one_off _ _ _)) [24] ?_; clear hs; intro a hs
  refine go_pvs 5 [23, 25] [(26, .agg (eSapi_Instr.enc (⟨a0.Kind, 0, a0.A, 0, 0, 0, false⟩ : Sapi_Instr)).toArray)] hs ?_; clear hs; intro a hs
  obtain ⟨ad30, wd31, hx32, hw⟩ := x_alloc1 (P := Try.prog) (elem := 45) (ty := 0) (z := .agg (eSapi_Instr.enc (⟨0, 0, 0, 0, 0, 0, false⟩ : Sapi_Instr)).toArray) hs hw eSapi_Instr (⟨0, 0, 0, 0, 0, 0, false⟩ : Sapi_Instr) (by kernel_rfl) (by kernel_rfl)
  refine go_run hs (by rfl) hx32 [] ?_; clear hs; intro a hs
  obtain ⟨wd34, hx35, hw⟩ := x_put (P := Try.prog) (ty := 0) (t := 45) (x := (Operand.tmp 3)) (y := (Operand.tmp 26)) (off := 0) (p := ad30) (v := .agg (eSapi_Instr.enc (⟨a0.Kind, 0, a0.A, 0, 0, 0, false⟩ : Sapi_Instr)).toArray) (vs := (eSapi_Instr.enc (⟨a0.Kind, 0, a0.A, 0, 0, 0, false⟩ : Sapi_Instr))) (i := 0) (e' := ((⟨a0.Kind, 0, a0.A, 0, 0, 0, false⟩ : Sapi_Instr) : Sapi_Instr)) hs hw rfl (one_ok (⟨0, 0, 0, 0, 0, 0, false⟩ : Sapi_Instr)).1 (one_ok (⟨0, 0, 0, 0, 0, 0, false⟩ : Sapi_Instr)).2 (by kernel_rfl) (one_at _ _) (by kernel_rfl) rfl (by kernel_rfl) (Nat.le_of_ble_eq_true rfl) (eSapi_Instr.one _) (by kernel_rfl)
  refine go_unit hs (by rfl) hx35 [26] ?_; clear hs; intro a hs
  replace hw : St [] w0 wd34 [own 45 eSapi_Instr (some ad30) 1 [(⟨a0.Kind, 0, a0.A, 0, 0, 0, false⟩ : Sapi_Instr)], own 45 eSapi_Instr (some ad2) 1 [a0]] := hw
  refine go_end (hK29 _ _ ?_)
  refine go_seq_k fun K36 hK36 => ?_
  have hJ3 : ∀ (v38 : Bool) (a : Act) (w : World), Slots a 186 [(1, .pointer (some ad2)), (3, .pointer (some ad30)), (4, .bool v38)] → St [] w0 w [own 45 eSapi_Instr (some ad30) 1 [(⟨a0.Kind, 0, a0.A, 0, 0, 0, false⟩ : Sapi_Instr)], own 45 eSapi_Instr (some ad2) 1 [a0]] → rivetref03_May.j3 a0 v38 = some r → K36 a w := by
   intro v38 a w hs hw H
   unfold rivetref03_May.j3 at H
   refine hK36 _ _ ?_
   refine go_seq_k fun K39 hK39 => ?_
   have hJ16 : ∀ (a : Act) (w : World), Slots a 186 [] → St [] w0 w [own 45 eSapi_Instr (some ad30) 1 [(⟨a0.Kind, 0, a0.A, 0, 0, 0, false⟩ : Sapi_Instr)], own 45 eSapi_Instr (some ad2) 1 [a0]] → rivetref03_May.j16 = some r → K39 a w := by
    intro a w hs hw H
    unfold rivetref03_May.j16 at H
    refine hK39 _ _ ?_
    refine go_sp [] [(2, .bool false)] hs ?_; clear hs; intro a hs
    refine wp_ret ?_
    obtain rfl := Option.some.inj H
    refine ret1 (t := 2) (v := .bool false) hs (by kernel_rfl) (by kernel_rfl) ?_
    exact ⟨rfl, hw.only 0⟩
   refine go_sk fun K40 hK40 => ?_
   refine go_pvs 1 [] [(35, .pointer (some ((ad2 : Addr).add 0)))] hs ?_; clear hs; intro a hs
   refine go_run hs (by rfl) (x_ld (off := 0) (p := (ad2 : Addr).add 0) (v := .int .i64 a0.Kind) (Rd.of_own (hw.up 1)) (one_ok a0) (one_off _ _ _)) [35] ?_; clear hs; intro a hs
   refine go_end (hK40 _ _ ?_)
   refine wp_block ?_
   refine go_seq_k fun K41 hK41 => ?_
   have hJ4 : ∀ (v45 : Bool) (a : Act) (w : World), Slots a 186 [(1, .pointer (some ad2)), (3, .pointer (some ad30)), (4, .bool v38), (36, .int .i64 a0.Kind), (37, .bool v45)] → St [] w0 w [own 45 eSapi_Instr (some ad30) 1 [(⟨a0.Kind, 0, a0.A, 0, 0, 0, false⟩ : Sapi_Instr)], own 45 eSapi_Instr (some ad2) 1 [a0]] → rivetref03_May.j4 a0 v38 v45 = some r → K41 a w := by
    intro v45 a w hs hw H
    unfold rivetref03_May.j4 at H
    refine hK41 _ _ ?_
    refine go_cond hs v45 (fun hc => ?_) fun hc => ?_
    ·replace H := ite_t H hc
     have hb46 := hc
     rw [hb46] at hs
     refine go_sk fun K47 hK47 => ?_
     refine go_pvs 1 [36, 37] [(40, .pointer (some ((ad2 : Addr).add 1)))] hs ?_; clear hs; intro a hs
     refine go_run hs (by rfl) (x_ld (off := 1) (p := (ad2 : Addr).add 1) (v := .int .i64 a0.Op) (Rd.of_own (hw.up 1)) (one_ok a0) (one_off _ _ _)) [40] ?_; clear hs; intro a hs
     refine go_pvs 3 [] [(42, .pointer (some ((ad30 : Addr).add 1)))] hs ?_; clear hs; intro a hs
     obtain ⟨wd48, hx49, hw⟩ := x_put (P := Try.prog) (ty := 0) (t := 3) (x := (Operand.tmp 42)) (y := (Operand.tmp 41)) (off := 1) (p := (ad30 : Addr).add 1) (v := .int .i64 a0.Op) (vs := [.int .i64 a0.Op]) (i := 0) (e' := (({ (⟨a0.Kind, 0, a0.A, 0, 0, 0, false⟩ : Sapi_Instr) with Op := a0.Op } : Sapi_Instr) : Sapi_Instr)) hs hw rfl (one_ok (⟨a0.Kind, 0, a0.A, 0, 0, 0, false⟩ : Sapi_Instr)).1 (one_ok (⟨a0.Kind, 0, a0.A, 0, 0, 0, false⟩ : Sapi_Instr)).2 (by kernel_rfl) (one_off _ _ _) (by kernel_rfl) rfl (by kernel_rfl) (Nat.le_of_ble_eq_true rfl) (by simp [Value.oneCell']) (by kernel_rfl)
     refine go_unit hs (by rfl) hx49 [41, 42] ?_; clear hs; intro a hs
     replace hw : St [] w0 wd48 [own 45 eSapi_Instr (some ad30) 1 [({ (⟨a0.Kind, 0, a0.A, 0, 0, 0, false⟩ : Sapi_Instr) with Op := a0.Op } : Sapi_Instr)], own 45 eSapi_Instr (some ad2) 1 [a0]] := hw
     refine go_end (hK47 _ _ ?_)
     refine go_seq_k fun K50 hK50 => ?_
     have hJ6 : ∀ (a : Act) (w : World), Slots a 186 [(1, .pointer (some ad2)), (3, .pointer (some ad30)), (4, .bool v38)] → St [] w0 w [own 45 eSapi_Instr (some ad30) 1 [({ (⟨a0.Kind, 0, a0.A, 0, 0, 0, false⟩ : Sapi_Instr) with Op := a0.Op } : Sapi_Instr)], own 45 eSapi_Instr (some ad2) 1 [a0]] → rivetref03_May.j6 a0 v38 = some r → K50 a w := by
      intro a w hs hw H
      unfold rivetref03_May.j6 at H
      refine hK50 _ _ ?_
      refine go_seq_k fun K57 hK57 => ?_
      have hJ7 : ∀ (v63 : Sapi_Instr) (a : Act) (w : World), Slots a 186 [(1, .pointer (some ad2)), (3, .pointer (some ad30)), (4, .bool v38)] → St [] w0 w [own 45 eSapi_Instr (some ad30) 1 [v63], own 45 eSapi_Instr (some ad2) 1 [a0]] → rivetref03_May.j7 v38 a0 v63 = some r → K57 a w := by
       intro v63 a w hs hw H
       unfold rivetref03_May.j7 at H
       refine hK57 _ _ ?_
       refine go_seq_k fun K64 hK64 => ?_
       have hJ8 : ∀ (v70 : Sapi_Instr) (a : Act) (w : World), Slots a 186 [(1, .pointer (some ad2)), (3, .pointer (some ad30))] → St [] w0 w [own 45 eSapi_Instr (some ad30) 1 [v70], own 45 eSapi_Instr (some ad2) 1 [a0]] → rivetref03_May.j8 a0 v70 = some r → K64 a w := by
        intro v70 a w hs hw H
        unfold rivetref03_May.j8 at H
        refine hK64 _ _ ?_
        refine go_seq_k fun K71 hK71 => ?_
        refine go_sk fun K72 hK72 => ?_
        refine go_pvs 1 [] [(61, .pointer (some ((ad2 : Addr).add 0)))] hs ?_; clear hs; intro a hs
        refine go_run hs (by rfl) (x_ld (off := 0) (p := (ad2 : Addr).add 0) (v := .int .i64 a0.Kind) (Rd.of_own (hw.up 1)) (one_ok a0) (one_off _ _ _)) [61] ?_; clear hs; intro a hs
        refine go_pvs 3 [62] [(63, .bool (a0.Kind == 1))] hs ?_; clear hs; intro a hs
        refine go_end (hK72 _ _ ?_)
        refine go_cond hs (a0.Kind == 1) (fun hc => ?_) fun hc => ?_
        ·replace H := ite_t H (beq_iff_eq.1 hc)
         have hb73 := hc
         rw [hb73] at hs
         refine go_sk fun K74 hK74 => ?_
         refine go_pvs 1 [63] [(64, .pointer (some ((ad2 : Addr).add 4)))] hs ?_; clear hs; intro a hs
         refine go_run hs (by rfl) (x_ld (off := 4) (p := (ad2 : Addr).add 4) (v := .int .i64 a0.C) (Rd.of_own (hw.up 1)) (one_ok a0) (one_off _ _ _)) [64] ?_; clear hs; intro a hs
         refine go_pvs 3 [] [(66, .pointer (some ((ad30 : Addr).add 4)))] hs ?_; clear hs; intro a hs
         obtain ⟨wd75, hx76, hw⟩ := x_put (P := Try.prog) (ty := 0) (t := 3) (x := (Operand.tmp 66)) (y := (Operand.tmp 65)) (off := 4) (p := (ad30 : Addr).add 4) (v := .int .i64 a0.C) (vs := [.int .i64 a0.C]) (i := 0) (e' := (({ v70 with C := a0.C } : Sapi_Instr) : Sapi_Instr)) hs hw rfl (one_ok ({ (⟨a0.Kind, 0, a0.A, 0, 0, 0, false⟩ : Sapi_Instr) with Op := a0.Op } : Sapi_Instr)).1 (one_ok ({ (⟨a0.Kind, 0, a0.A, 0, 0, 0, false⟩ : Sapi_Instr) with Op := a0.Op } : Sapi_Instr)).2 (by kernel_rfl) (one_off _ _ _) (by kernel_rfl) rfl (by kernel_rfl) (Nat.le_of_ble_eq_true rfl) (by simp [Value.oneCell']) (by kernel_rfl)
         refine go_unit hs (by rfl) hx76 [65, 66] ?_; clear hs; intro a hs
         replace hw : St [] w0 wd75 [own 45 eSapi_Instr (some ad30) 1 [({ v70 with C := a0.C } : Sapi_Instr)], own 45 eSapi_Instr (some ad2) 1 [a0]] := hw
         refine go_end (hK74 _ _ ?_)
         refine go_sk fun K77 hK77 => ?_
         refine go_run hs (by rfl) (x_lds (off := 0) (p := ad30) (cs := (eSapi_Instr.enc ({ v70 with C := a0.C } : Sapi_Instr))) (Rd.of_own (hw.up 0)) (one_ok ({ v70 with C := a0.C } : Sapi_Instr)) (one_at _ _)) [3] ?_; clear hs; intro a hs
         refine go_run hs (by rfl) (x_lds (off := 0) (p := ad2) (cs := (eSapi_Instr.enc a0)) (Rd.of_own (hw.up 1)) (one_ok a0) (one_at _ _)) [1] ?_; clear hs; intro a hs
         refine go_run hs (by rfl) (x_eql (xs := (eSapi_Instr.enc ({ v70 with C := a0.C } : Sapi_Instr)).toArray) (ys := (eSapi_Instr.enc a0).toArray) (r := ((v70.Kind == a0.Kind) && ((v70.Op == a0.Op) && ((v70.A == a0.A) && ((v70.B == a0.B) && ((a0.C == a0.C) && ((v70.Imm == a0.Imm) && ((v70.U == a0.U) && true)))))))) (by kernel_rfl) (by kernel_rfl) (by kernel_rfl) (eq_struct Try.underlying45 (by kernel_rfl) (eq_cons (a := .int .i64 v70.Kind) (b := .int .i64 a0.Kind) (r := (v70.Kind == a0.Kind)) (s := ((v70.Op == a0.Op) && ((v70.A == a0.A) && ((v70.B == a0.B) && ((a0.C == a0.C) && ((v70.Imm == a0.Imm) && ((v70.U == a0.U) && true))))))) (by kernel_rfl) (part_pv (by kernel_rfl)) (part_pv (by kernel_rfl)) (eq_pv (by kernel_rfl)) (eq_cons (a := .int .i64 v70.Op) (b := .int .i64 a0.Op) (r := (v70.Op == a0.Op)) (s := ((v70.A == a0.A) && ((v70.B == a0.B) && ((a0.C == a0.C) && ((v70.Imm == a0.Imm) && ((v70.U == a0.U) && true)))))) (by kernel_rfl) (part_pv (by kernel_rfl)) (part_pv (by kernel_rfl)) (eq_pv (by kernel_rfl)) (eq_cons (a := .int .i64 v70.A) (b := .int .i64 a0.A) (r := (v70.A == a0.A)) (s := ((v70.B == a0.B) && ((a0.C == a0.C) && ((v70.Imm == a0.Imm) && ((v70.U == a0.U) && true))))) (by kernel_rfl) (part_pv (by kernel_rfl)) (part_pv (by kernel_rfl)) (eq_pv (by kernel_rfl)) (eq_cons (a := .int .i64 v70.B) (b := .int .i64 a0.B) (r := (v70.B == a0.B)) (s := ((a0.C == a0.C) && ((v70.Imm == a0.Imm) && ((v70.U == a0.U) && true)))) (by kernel_rfl) (part_pv (by kernel_rfl)) (part_pv (by kernel_rfl)) (eq_pv (by kernel_rfl)) (eq_cons (a := .int .i64 a0.C) (b := .int .i64 a0.C) (r := (a0.C == a0.C)) (s := ((v70.Imm == a0.Imm) && ((v70.U == a0.U) && true))) (by kernel_rfl) (part_pv (by kernel_rfl)) (part_pv (by kernel_rfl)) (eq_pv (by kernel_rfl)) (eq_cons (a := .int .i64 v70.Imm) (b := .int .i64 a0.Imm) (r := (v70.Imm == a0.Imm)) (s := ((v70.U == a0.U) && true)) (by kernel_rfl) (part_pv (by kernel_rfl)) (part_pv (by kernel_rfl)) (eq_pv (by kernel_rfl)) (eq_cons (a := .bool v70.U) (b := .bool a0.U) (r := (v70.U == a0.U)) (s := true) (by kernel_rfl) (part_pv (by kernel_rfl)) (part_pv (by kernel_rfl)) (eq_pv (by kernel_rfl)) eq_nil))))))))) [67, 68] ?_; clear hs; intro a hs
         refine go_pvs 4 [69] [(2, .bool ((v70.Kind == a0.Kind) && ((v70.Op == a0.Op) && ((v70.A == a0.A) && ((v70.B == a0.B) && ((a0.C == a0.C) && ((v70.Imm == a0.Imm) && ((v70.U == a0.U) && true))))))))] hs ?_; clear hs; intro a hs
         refine go_end (hK77 _ _ ?_)
         refine wp_ret ?_
         refine th_ret ?_
         refine ib_ret ?_
         refine th_ret ?_
         obtain rfl := Option.some.inj H
         refine ret1 (t := 2) (v := .bool ((v70.Kind == a0.Kind) && ((v70.Op == a0.Op) && ((v70.A == a0.A) && ((v70.B == a0.B) && ((a0.C == a0.C) && ((v70.Imm == a0.Imm) && ((v70.U == a0.U) && true)))))))) hs (by kernel_rfl) (by kernel_rfl) ?_
         exact ⟨rfl, hw.only 0⟩
        ·replace H := ite_f H (beq_eq_false_iff_ne.1 hc)
         have hb78 := hc
         rw [hb78] at hs
         refine wp_skip ?_
         refine hK71 _ _ ?_
         refine go_sk fun K79 hK79 => ?_
         refine go_pvs 1 [63] [(70, .pointer (some ((ad2 : Addr).add 5)))] hs ?_; clear hs; intro a hs
         refine go_run hs (by rfl) (x_ld (off := 5) (p := (ad2 : Addr).add 5) (v := .int .i64 a0.Imm) (Rd.of_own (hw.up 1)) (one_ok a0) (one_off _ _ _)) [70] ?_; clear hs; intro a hs
         refine go_pvs 3 [] [(72, .pointer (some ((ad30 : Addr).add 5)))] hs ?_; clear hs; intro a hs
         obtain ⟨wd80, hx81, hw⟩ := x_put (P := Try.prog) (ty := 0) (t := 3) (x := (Operand.tmp 72)) (y := (Operand.tmp 71)) (off := 5) (p := (ad30 : Addr).add 5) (v := .int .i64 a0.Imm) (vs := [.int .i64 a0.Imm]) (i := 0) (e' := (({ v70 with Imm := a0.Imm } : Sapi_Instr) : Sapi_Instr)) hs hw rfl (one_ok ({ (⟨a0.Kind, 0, a0.A, 0, 0, 0, false⟩ : Sapi_Instr) with Op := a0.Op } : Sapi_Instr)).1 (one_ok ({ (⟨a0.Kind, 0, a0.A, 0, 0, 0, false⟩ : Sapi_Instr) with Op := a0.Op } : Sapi_Instr)).2 (by kernel_rfl) (one_off _ _ _) (by kernel_rfl) rfl (by kernel_rfl) (Nat.le_of_ble_eq_true rfl) (by simp [Value.oneCell']) (by kernel_rfl)
         refine go_unit hs (by rfl) hx81 [71, 72] ?_; clear hs; intro a hs
         replace hw : St [] w0 wd80 [own 45 eSapi_Instr (some ad30) 1 [({ v70 with Imm := a0.Imm } : Sapi_Instr)], own 45 eSapi_Instr (some ad2) 1 [a0]] := hw
         refine go_end (hK79 _ _ ?_)
         refine go_seq_k fun K82 hK82 => ?_
         have hJ9 : ∀ (v88 : Sapi_Instr) (a : Act) (w : World), Slots a 186 [(1, .pointer (some ad2)), (3, .pointer (some ad30))] → St [] w0 w [own 45 eSapi_Instr (some ad30) 1 [v88], own 45 eSapi_Instr (some ad2) 1 [a0]] → rivetref03_May.j9 a0 v88 = some r → K82 a w := by
          intro v88 a w hs hw H
          unfold rivetref03_May.j9 at H
          refine hK82 _ _ ?_
          refine go_seq_k fun K89 hK89 => ?_
          have hJ10 : ∀ (v91 : Bool) (a : Act) (w : World), Slots a 186 [(1, .pointer (some ad2)), (3, .pointer (some ad30)), (5, .bool v91)] → St [] w0 w [own 45 eSapi_Instr (some ad30) 1 [v88], own 45 eSapi_Instr (some ad2) 1 [a0]] → rivetref03_May.j10 v88 a0 v91 = some r → K89 a w := by
           intro v91 a w hs hw H
           unfold rivetref03_May.j10 at H
           refine hK89 _ _ ?_
           refine go_seq_k fun K92 hK92 => ?_
           have hJ11 : ∀ (v97 : Bool) (a : Act) (w : World), Slots a 186 [(2, .bool v97)] → St [] w0 w [own 45 eSapi_Instr (some ad30) 1 [v88], own 45 eSapi_Instr (some ad2) 1 [a0]] → rivetref03_May.j11 v97 = some r → K92 a w := by
            intro v97 a w hs hw H
            unfold rivetref03_May.j11 at H
            refine hK92 _ _ ?_
            refine wp_ret ?_
            refine ib_ret ?_
            refine th_ret ?_
            obtain rfl := Option.some.inj H
            refine ret1 (t := 2) (v := .bool v97) hs (by kernel_rfl) (by kernel_rfl) ?_
            exact ⟨rfl, hw.only 0⟩
           refine go_region ?_
           refine go_run hs (by rfl) (x_lds (off := 0) (p := ad30) (cs := (eSapi_Instr.enc v88)) (Rd.of_own (hw.up 0)) (one_ok ({ v70 with Imm := a0.Imm } : Sapi_Instr)) (one_at _ _)) [3] ?_; clear hs; intro a hs
           refine go_run hs (by rfl) (x_lds (off := 0) (p := ad2) (cs := (eSapi_Instr.enc a0)) (Rd.of_own (hw.up 1)) (one_ok a0) (one_at _ _)) [] ?_; clear hs; intro a hs
           refine go_run hs (by rfl) (x_eql (xs := (eSapi_Instr.enc v88).toArray) (ys := (eSapi_Instr.enc a0).toArray) (r := ((v88.Kind == a0.Kind) && ((v88.Op == a0.Op) && ((v88.A == a0.A) && ((v88.B == a0.B) && ((v88.C == a0.C) && ((v88.Imm == a0.Imm) && ((v88.U == a0.U) && true)))))))) (by kernel_rfl) (by kernel_rfl) (by kernel_rfl) (eq_struct Try.underlying45 (by kernel_rfl) (eq_cons (a := .int .i64 v88.Kind) (b := .int .i64 a0.Kind) (r := (v88.Kind == a0.Kind)) (s := ((v88.Op == a0.Op) && ((v88.A == a0.A) && ((v88.B == a0.B) && ((v88.C == a0.C) && ((v88.Imm == a0.Imm) && ((v88.U == a0.U) && true))))))) (by kernel_rfl) (part_pv (by kernel_rfl)) (part_pv (by kernel_rfl)) (eq_pv (by kernel_rfl)) (eq_cons (a := .int .i64 v88.Op) (b := .int .i64 a0.Op) (r := (v88.Op == a0.Op)) (s := ((v88.A == a0.A) && ((v88.B == a0.B) && ((v88.C == a0.C) && ((v88.Imm == a0.Imm) && ((v88.U == a0.U) && true)))))) (by kernel_rfl) (part_pv (by kernel_rfl)) (part_pv (by kernel_rfl)) (eq_pv (by kernel_rfl)) (eq_cons (a := .int .i64 v88.A) (b := .int .i64 a0.A) (r := (v88.A == a0.A)) (s := ((v88.B == a0.B) && ((v88.C == a0.C) && ((v88.Imm == a0.Imm) && ((v88.U == a0.U) && true))))) (by kernel_rfl) (part_pv (by kernel_rfl)) (part_pv (by kernel_rfl)) (eq_pv (by kernel_rfl)) (eq_cons (a := .int .i64 v88.B) (b := .int .i64 a0.B) (r := (v88.B == a0.B)) (s := ((v88.C == a0.C) && ((v88.Imm == a0.Imm) && ((v88.U == a0.U) && true)))) (by kernel_rfl) (part_pv (by kernel_rfl)) (part_pv (by kernel_rfl)) (eq_pv (by kernel_rfl)) (eq_cons (a := .int .i64 v88.C) (b := .int .i64 a0.C) (r := (v88.C == a0.C)) (s := ((v88.Imm == a0.Imm) && ((v88.U == a0.U) && true))) (by kernel_rfl) (part_pv (by kernel_rfl)) (part_pv (by kernel_rfl)) (eq_pv (by kernel_rfl)) (eq_cons (a := .int .i64 v88.Imm) (b := .int .i64 a0.Imm) (r := (v88.Imm == a0.Imm)) (s := ((v88.U == a0.U) && true)) (by kernel_rfl) (part_pv (by kernel_rfl)) (part_pv (by kernel_rfl)) (eq_pv (by kernel_rfl)) (eq_cons (a := .bool v88.U) (b := .bool a0.U) (r := (v88.U == a0.U)) (s := true) (by kernel_rfl) (part_pv (by kernel_rfl)) (part_pv (by kernel_rfl)) (eq_pv (by kernel_rfl)) eq_nil))))))))) [86, 87] ?_; clear hs; intro a hs
           refine go_pvs 4 [88] [(89, .bool ((v88.Kind == a0.Kind) && ((v88.Op == a0.Op) && ((v88.A == a0.A) && ((v88.B == a0.B) && ((v88.C == a0.C) && ((v88.Imm == a0.Imm) && ((v88.U == a0.U) && true))))))))] hs ?_; clear hs; intro a hs
           cases hb93 : ((v88.Kind == a0.Kind) && ((v88.Op == a0.Op) && ((v88.A == a0.A) && ((v88.B == a0.B) && ((v88.C == a0.C) && ((v88.Imm == a0.Imm) && ((v88.U == a0.U) && true)))))))
           ·replace H := ite_f H (ff hb93)
            rw [hb93] at hs
            refine go_pvs 23 [1, 5, 89] [(2, .bool false)] hs ?_; clear hs; intro a hs
            refine go_end ?_
            replace hw := hw.up 1
            replace hw := hw.up 1
            exact hJ11 false _ _ hs.kx hw H
           ·replace H := ite_t H hb93
            rw [hb93] at hs
            refine go_pvs 5 [] [(90, .pointer (some ((ad2 : Addr).add 5)))] hs ?_; clear hs; intro a hs
            refine go_run hs (by rfl) (x_ld (off := 5) (p := (ad2 : Addr).add 5) (v := .int .i64 a0.Imm) (Rd.of_own (hw.up 1)) (one_ok a0) (one_off _ _ _)) [90] ?_; clear hs; intro a hs
            refine go_pvs 9 [89, 91] [(94, .bool (decide (a0.Imm ≤ 65535)))] hs ?_; clear hs; intro a hs
            cases hb94 : (decide (a0.Imm ≤ 65535))
            ·replace H := ite_f H (of_decide_eq_false hb94)
             rw [hb94] at hs
             refine go_pvs 23 [1, 5, 94] [(2, .bool false)] hs ?_; clear hs; intro a hs
             refine go_end ?_
             replace hw := hw.up 1
             replace hw := hw.up 1
             exact hJ11 false _ _ hs.kx hw H
            ·replace H := ite_t H (of_decide_eq_true hb94)
             rw [hb94] at hs
             refine go_pvs 10 [] [(95, .pointer (some ((ad2 : Addr).add 5)))] hs ?_; clear hs; intro a hs
             refine go_run hs (by rfl) (x_ld (off := 5) (p := (ad2 : Addr).add 5) (v := .int .i64 a0.Imm) (Rd.of_own (hw.up 1)) (one_ok a0) (one_off _ _ _)) [95] ?_; clear hs; intro a hs
             refine go_pvs 14 [94, 96] [(99, .bool (decide (a0.Imm ≥ (-65536))))] hs ?_; clear hs; intro a hs
             cases hb95 : (decide (a0.Imm ≥ (-65536)))
             ·replace H := ite_f H (of_decide_eq_false hb95)
              rw [hb95] at hs
              refine go_pvs 23 [1, 5, 99] [(2, .bool false)] hs ?_; clear hs; intro a hs
              refine go_end ?_
              replace hw := hw.up 1
              replace hw := hw.up 1
              exact hJ11 false _ _ hs.kx hw H
             ·replace H := ite_t H (of_decide_eq_true hb95)
              rw [hb95] at hs
              refine go_pvs 15 [1] [(100, .pointer (some ((ad2 : Addr).add 5)))] hs ?_; clear hs; intro a hs
              refine go_run hs (by rfl) (x_ld (off := 5) (p := (ad2 : Addr).add 5) (v := .int .i64 a0.Imm) (Rd.of_own (hw.up 1)) (one_ok a0) (one_off _ _ _)) [100] ?_; clear hs; intro a hs
              refine go_pvs 18 [101] [(103, .bool (decide (a0.Imm ≥ 0)))] hs ?_; clear hs; intro a hs
              cases hb96 : (decide (a0.Imm ≥ 0))
              ·replace H := ite_f H (of_decide_eq_false hb96)
               rw [hb96] at hs
               refine go_pvs 23 [5, 99, 103] [(2, .bool (!v91))] hs ?_; clear hs; intro a hs
               refine go_end ?_
               replace hw := hw.up 1
               replace hw := hw.up 1
               exact hJ11 (!v91) _ _ hs.kx hw H
              ·replace H := ite_t H (of_decide_eq_true hb96)
               rw [hb96] at hs
               refine go_pvs 23 [5, 99, 103] [(2, .bool true)] hs ?_; clear hs; intro a hs
               refine go_end ?_
               replace hw := hw.up 1
               replace hw := hw.up 1
               exact hJ11 true _ _ hs.kx hw H
          refine go_region ?_
          refine go_pvs 1 [] [(79, .pointer (some ((ad2 : Addr).add 1)))] hs ?_; clear hs; intro a hs
          refine go_run hs (by rfl) (x_ld (off := 1) (p := (ad2 : Addr).add 1) (v := .int .i64 a0.Op) (Rd.of_own (hw.up 1)) (one_ok a0) (one_off _ _ _)) [79] ?_; clear hs; intro a hs
          refine go_pvs 4 [80] [(82, .bool (a0.Op == 0))] hs ?_; clear hs; intro a hs
          cases hb90 : (a0.Op == 0)
          ·replace H := ite_f H (beq_eq_false_iff_ne.1 hb90)
           rw [hb90] at hs
           refine go_pvs 8 [82] [(5, .bool false)] hs ?_; clear hs; intro a hs
           refine go_end ?_
           replace hw := hw.up 1
           replace hw := hw.up 1
           exact hJ10 false _ _ hs.kx hw H
          ·replace H := ite_t H (beq_iff_eq.1 hb90)
           rw [hb90] at hs
           refine go_pvs 5 [] [(83, .pointer (some ((ad2 : Addr).add 6)))] hs ?_; clear hs; intro a hs
           refine go_run hs (by rfl) (x_ld (off := 6) (p := (ad2 : Addr).add 6) (v := .bool a0.U) (Rd.of_own (hw.up 1)) (one_ok a0) (one_off _ _ _)) [83] ?_; clear hs; intro a hs
           refine go_pvs 8 [82, 84] [(5, .bool a0.U)] hs ?_; clear hs; intro a hs
           refine go_end ?_
           replace hw := hw.up 1
           replace hw := hw.up 1
           exact hJ10 a0.U _ _ hs.kx hw H
         refine go_sk fun K83 hK83 => ?_
         refine go_pvs 1 [] [(73, .pointer (some ((ad2 : Addr).add 1)))] hs ?_; clear hs; intro a hs
         refine go_run hs (by rfl) (x_ld (off := 1) (p := (ad2 : Addr).add 1) (v := .int .i64 a0.Op) (Rd.of_own (hw.up 1)) (one_ok a0) (one_off _ _ _)) [73] ?_; clear hs; intro a hs
         refine go_pvs 3 [74] [(75, .bool (a0.Op == 0))] hs ?_; clear hs; intro a hs
         refine go_end (hK83 _ _ ?_)
         refine go_cond hs (a0.Op == 0) (fun hc => ?_) fun hc => ?_
         ·replace H := ite_t H (beq_iff_eq.1 hc)
          have hb84 := hc
          rw [hb84] at hs
          refine go_region ?_
          refine go_pvs 1 [75] [(76, .pointer (some ((ad2 : Addr).add 6)))] hs ?_; clear hs; intro a hs
          refine go_run hs (by rfl) (x_ld (off := 6) (p := (ad2 : Addr).add 6) (v := .bool a0.U) (Rd.of_own (hw.up 1)) (one_ok a0) (one_off _ _ _)) [76] ?_; clear hs; intro a hs
          refine go_pvs 3 [] [(78, .pointer (some ((ad30 : Addr).add 6)))] hs ?_; clear hs; intro a hs
          obtain ⟨wd85, hx86, hw⟩ := x_put (P := Try.prog) (ty := 0) (t := 4) (x := (Operand.tmp 78)) (y := (Operand.tmp 77)) (off := 6) (p := (ad30 : Addr).add 6) (v := .bool a0.U) (vs := [.bool a0.U]) (i := 0) (e' := (({ ({ v70 with Imm := a0.Imm } : Sapi_Instr) with U := a0.U } : Sapi_Instr) : Sapi_Instr)) hs hw rfl (one_ok ({ v70 with Imm := a0.Imm } : Sapi_Instr)).1 (one_ok ({ v70 with Imm := a0.Imm } : Sapi_Instr)).2 (by kernel_rfl) (one_off _ _ _) (by kernel_rfl) rfl (by kernel_rfl) (Nat.le_of_ble_eq_true rfl) (by simp [Value.oneCell']) (by kernel_rfl)
          refine go_unit hs (by rfl) hx86 [77, 78] ?_; clear hs; intro a hs
          replace hw : St [] w0 wd85 [own 45 eSapi_Instr (some ad30) 1 [({ ({ v70 with Imm := a0.Imm } : Sapi_Instr) with U := a0.U } : Sapi_Instr)], own 45 eSapi_Instr (some ad2) 1 [a0]] := hw
          refine go_end ?_
          replace hw := hw.up 1
          replace hw := hw.up 1
          exact hJ9 ({ ({ v70 with Imm := a0.Imm } : Sapi_Instr) with U := a0.U } : Sapi_Instr) _ _ hs.kx hw H
         ·replace H := ite_f H (beq_eq_false_iff_ne.1 hc)
          have hb87 := hc
          rw [hb87] at hs
          refine wp_skip ?_
          replace hw := hw.up 1
          replace hw := hw.up 1
          exact hJ9 ({ v70 with Imm := a0.Imm } : Sapi_Instr) _ _ hs.kx hw H
       refine go_sp [4] [(57, .bool v38)] hs ?_; clear hs; intro a hs
       refine go_cond hs v38 (fun hc => ?_) fun hc => ?_
       ·replace H := ite_t H hc
        have hb66 := hc
        rw [hb66] at hs
        refine go_region ?_
        refine go_pvs 1 [57] [(58, .pointer (some ((ad2 : Addr).add 6)))] hs ?_; clear hs; intro a hs
        refine go_run hs (by rfl) (x_ld (off := 6) (p := (ad2 : Addr).add 6) (v := .bool a0.U) (Rd.of_own (hw.up 1)) (one_ok a0) (one_off _ _ _)) [58] ?_; clear hs; intro a hs
        refine go_pvs 3 [] [(60, .pointer (some ((ad30 : Addr).add 6)))] hs ?_; clear hs; intro a hs
        obtain ⟨wd67, hx68, hw⟩ := x_put (P := Try.prog) (ty := 0) (t := 4) (x := (Operand.tmp 60)) (y := (Operand.tmp 59)) (off := 6) (p := (ad30 : Addr).add 6) (v := .bool a0.U) (vs := [.bool a0.U]) (i := 0) (e' := (({ v63 with U := a0.U } : Sapi_Instr) : Sapi_Instr)) hs hw rfl (one_ok ({ (⟨a0.Kind, 0, a0.A, 0, 0, 0, false⟩ : Sapi_Instr) with Op := a0.Op } : Sapi_Instr)).1 (one_ok ({ (⟨a0.Kind, 0, a0.A, 0, 0, 0, false⟩ : Sapi_Instr) with Op := a0.Op } : Sapi_Instr)).2 (by kernel_rfl) (one_off _ _ _) (by kernel_rfl) rfl (by kernel_rfl) (Nat.le_of_ble_eq_true rfl) (by simp [Value.oneCell']) (by kernel_rfl)
        refine go_unit hs (by rfl) hx68 [59, 60] ?_; clear hs; intro a hs
        replace hw : St [] w0 wd67 [own 45 eSapi_Instr (some ad30) 1 [({ v63 with U := a0.U } : Sapi_Instr)], own 45 eSapi_Instr (some ad2) 1 [a0]] := hw
        refine go_end ?_
        replace hw := hw.up 1
        replace hw := hw.up 1
        exact hJ8 ({ v63 with U := a0.U } : Sapi_Instr) _ _ hs.kx hw H
       ·replace H := ite_f H (ff hc)
        have hb69 := hc
        rw [hb69] at hs
        refine wp_skip ?_
        replace hw := hw.up 1
        replace hw := hw.up 1
        exact hJ8 v63 _ _ hs.kx hw H
      refine go_sk fun K58 hK58 => ?_
      refine go_pvs 1 [] [(51, .pointer (some ((ad2 : Addr).add 1)))] hs ?_; clear hs; intro a hs
      refine go_run hs (by rfl) (x_ld (off := 1) (p := (ad2 : Addr).add 1) (v := .int .i64 a0.Op) (Rd.of_own (hw.up 1)) (one_ok a0) (one_off _ _ _)) [51] ?_; clear hs; intro a hs
      refine go_pvs 3 [52] [(53, .bool (a0.Op != 0))] hs ?_; clear hs; intro a hs
      refine go_end (hK58 _ _ ?_)
      refine go_cond hs (a0.Op != 0) (fun hc => ?_) fun hc => ?_
      ·replace H := ite_f H (bne_iff_ne.1 hc)
       have hb59 := hc
       rw [hb59] at hs
       refine go_region ?_
       refine go_pvs 1 [53] [(54, .pointer (some ((ad2 : Addr).add 3)))] hs ?_; clear hs; intro a hs
       refine go_run hs (by rfl) (x_ld (off := 3) (p := (ad2 : Addr).add 3) (v := .int .i64 a0.B) (Rd.of_own (hw.up 1)) (one_ok a0) (one_off _ _ _)) [54] ?_; clear hs; intro a hs
       refine go_pvs 3 [] [(56, .pointer (some ((ad30 : Addr).add 3)))] hs ?_; clear hs; intro a hs
       obtain ⟨wd60, hx61, hw⟩ := x_put (P := Try.prog) (ty := 0) (t := 3) (x := (Operand.tmp 56)) (y := (Operand.tmp 55)) (off := 3) (p := (ad30 : Addr).add 3) (v := .int .i64 a0.B) (vs := [.int .i64 a0.B]) (i := 0) (e' := (({ ({ (⟨a0.Kind, 0, a0.A, 0, 0, 0, false⟩ : Sapi_Instr) with Op := a0.Op } : Sapi_Instr) with B := a0.B } : Sapi_Instr) : Sapi_Instr)) hs hw rfl (one_ok ({ (⟨a0.Kind, 0, a0.A, 0, 0, 0, false⟩ : Sapi_Instr) with Op := a0.Op } : Sapi_Instr)).1 (one_ok ({ (⟨a0.Kind, 0, a0.A, 0, 0, 0, false⟩ : Sapi_Instr) with Op := a0.Op } : Sapi_Instr)).2 (by kernel_rfl) (one_off _ _ _) (by kernel_rfl) rfl (by kernel_rfl) (Nat.le_of_ble_eq_true rfl) (by simp [Value.oneCell']) (by kernel_rfl)
       refine go_unit hs (by rfl) hx61 [55, 56] ?_; clear hs; intro a hs
       replace hw : St [] w0 wd60 [own 45 eSapi_Instr (some ad30) 1 [({ ({ (⟨a0.Kind, 0, a0.A, 0, 0, 0, false⟩ : Sapi_Instr) with Op := a0.Op } : Sapi_Instr) with B := a0.B } : Sapi_Instr)], own 45 eSapi_Instr (some ad2) 1 [a0]] := hw
       refine go_end ?_
       replace hw := hw.up 1
       replace hw := hw.up 1
       exact hJ7 ({ ({ (⟨a0.Kind, 0, a0.A, 0, 0, 0, false⟩ : Sapi_Instr) with Op := a0.Op } : Sapi_Instr) with B := a0.B } : Sapi_Instr) _ _ hs.kx hw H
      ·replace H := ite_t H (bne_eq_false_iff_eq.1 hc)
       have hb62 := hc
       rw [hb62] at hs
       refine wp_skip ?_
       replace hw := hw.up 1
       replace hw := hw.up 1
       exact hJ7 ({ (⟨a0.Kind, 0, a0.A, 0, 0, 0, false⟩ : Sapi_Instr) with Op := a0.Op } : Sapi_Instr) _ _ hs.kx hw H
     refine go_seq_k fun K51 hK51 => ?_
     have hJ5 : ∀ (v53 : Bool) (a : Act) (w : World), Slots a 186 [(1, .pointer (some ad2)), (3, .pointer (some ad30)), (4, .bool v38), (50, .bool v53)] → St [] w0 w [own 45 eSapi_Instr (some ad30) 1 [({ (⟨a0.Kind, 0, a0.A, 0, 0, 0, false⟩ : Sapi_Instr) with Op := a0.Op } : Sapi_Instr)], own 45 eSapi_Instr (some ad2) 1 [a0]] → rivetref03_May.j5 a0 v38 v53 = some r → K51 a w := by
      intro v53 a w hs hw H
      unfold rivetref03_May.j5 at H
      refine hK51 _ _ ?_
      refine go_cond hs v53 (fun hc => ?_) fun hc => ?_
      ·replace H := ite_t H hc
       have hb54 := hc
       rw [hb54] at hs
       refine go_sp [1, 3, 4, 50] [(2, .bool false)] hs ?_; clear hs; intro a hs
       refine wp_ret ?_
       refine th_ret ?_
       refine ib_ret ?_
       refine th_ret ?_
       obtain rfl := Option.some.inj H
       refine ret1 (t := 2) (v := .bool false) hs (by kernel_rfl) (by kernel_rfl) ?_
       exact ⟨rfl, hw.only 0⟩
      ·replace H := ite_f H (ff hc)
       have hb56 := hc
       rw [hb56] at hs
       refine wp_skip ?_
       replace hw := hw.up 1
       replace hw := hw.up 1
       exact hJ6 _ _ hs.kx hw H
     refine go_region ?_
     refine go_pvs 1 [] [(43, .pointer (some ((ad2 : Addr).add 1)))] hs ?_; clear hs; intro a hs
     refine go_run hs (by rfl) (x_ld (off := 1) (p := (ad2 : Addr).add 1) (v := .int .i64 a0.Op) (Rd.of_own (hw.up 1)) (one_ok a0) (one_off _ _ _)) [43] ?_; clear hs; intro a hs
     refine go_pvs 4 [44] [(46, .bool (decide (a0.Op < 0)))] hs ?_; clear hs; intro a hs
     cases hb52 : (decide (a0.Op < 0))
     ·replace H := ite_f H (of_decide_eq_false hb52)
      rw [hb52] at hs
      refine go_pvs 5 [] [(47, .pointer (some ((ad2 : Addr).add 1)))] hs ?_; clear hs; intro a hs
      refine go_run hs (by rfl) (x_ld (off := 1) (p := (ad2 : Addr).add 1) (v := .int .i64 a0.Op) (Rd.of_own (hw.up 1)) (one_ok a0) (one_off _ _ _)) [47] ?_; clear hs; intro a hs
      refine go_pvs 8 [46, 48] [(50, .bool (decide (a0.Op > 11)))] hs ?_; clear hs; intro a hs
      refine go_end ?_
      replace hw := hw.up 1
      replace hw := hw.up 1
      exact hJ5 (decide (a0.Op > 11)) _ _ hs.kx hw H
     ·replace H := ite_t H (of_decide_eq_true hb52)
      rw [hb52] at hs
      refine go_pvs 8 [46] [(50, .bool true)] hs ?_; clear hs; intro a hs
      refine go_end ?_
      replace hw := hw.up 1
      replace hw := hw.up 1
      exact hJ5 true _ _ hs.kx hw H
    ·replace H := ite_f H (ff hc)
     have hb98 := hc
     rw [hb98] at hs
     refine go_seq_k fun K99 hK99 => ?_
     have hJ12 : ∀ (v103 : Bool) (a : Act) (w : World), Slots a 186 [(1, .pointer (some ad2)), (3, .pointer (some ad30)), (36, .int .i64 a0.Kind), (108, .bool v103)] → St [] w0 w [own 45 eSapi_Instr (some ad30) 1 [(⟨a0.Kind, 0, a0.A, 0, 0, 0, false⟩ : Sapi_Instr)], own 45 eSapi_Instr (some ad2) 1 [a0]] → rivetref03_May.j12 a0 v103 = some r → K99 a w := by
      intro v103 a w hs hw H
      unfold rivetref03_May.j12 at H
      refine hK99 _ _ ?_
      refine go_cond hs v103 (fun hc => ?_) fun hc => ?_
      ·replace H := ite_t H hc
       have hb104 := hc
       rw [hb104] at hs
       refine go_sk fun K105 hK105 => ?_
       refine go_run hs (by rfl) (x_lds (off := 0) (p := ad30) (cs := (eSapi_Instr.enc (⟨a0.Kind, 0, a0.A, 0, 0, 0, false⟩ : Sapi_Instr))) (Rd.of_own (hw.up 0)) (one_ok (⟨a0.Kind, 0, a0.A, 0, 0, 0, false⟩ : Sapi_Instr)) (one_at _ _)) [3, 36, 108] ?_; clear hs; intro a hs
       refine go_run hs (by rfl) (x_lds (off := 0) (p := ad2) (cs := (eSapi_Instr.enc a0)) (Rd.of_own (hw.up 1)) (one_ok a0) (one_at _ _)) [1] ?_; clear hs; intro a hs
       refine go_run hs (by rfl) (x_eql (xs := (eSapi_Instr.enc (⟨a0.Kind, 0, a0.A, 0, 0, 0, false⟩ : Sapi_Instr)).toArray) (ys := (eSapi_Instr.enc a0).toArray) (r := ((a0.Kind == a0.Kind) && ((0 == a0.Op) && ((a0.A == a0.A) && ((0 == a0.B) && ((0 == a0.C) && ((0 == a0.Imm) && ((false == a0.U) && true)))))))) (by kernel_rfl) (by kernel_rfl) (by kernel_rfl) (eq_struct Try.underlying45 (by kernel_rfl) (eq_cons (a := .int .i64 a0.Kind) (b := .int .i64 a0.Kind) (r := (a0.Kind == a0.Kind)) (s := ((0 == a0.Op) && ((a0.A == a0.A) && ((0 == a0.B) && ((0 == a0.C) && ((0 == a0.Imm) && ((false == a0.U) && true))))))) (by kernel_rfl) (part_pv (by kernel_rfl)) (part_pv (by kernel_rfl)) (eq_pv (by kernel_rfl)) (eq_cons (a := .int .i64 0) (b := .int .i64 a0.Op) (r := (0 == a0.Op)) (s := ((a0.A == a0.A) && ((0 == a0.B) && ((0 == a0.C) && ((0 == a0.Imm) && ((false == a0.U) && true)))))) (by kernel_rfl) (part_pv (by kernel_rfl)) (part_pv (by kernel_rfl)) (eq_pv (by kernel_rfl)) (eq_cons (a := .int .i64 a0.A) (b := .int .i64 a0.A) (r := (a0.A == a0.A)) (s := ((0 == a0.B) && ((0 == a0.C) && ((0 == a0.Imm) && ((false == a0.U) && true))))) (by kernel_rfl) (part_pv (by kernel_rfl)) (part_pv (by kernel_rfl)) (eq_pv (by kernel_rfl)) (eq_cons (a := .int .i64 0) (b := .int .i64 a0.B) (r := (0 == a0.B)) (s := ((0 == a0.C) && ((0 == a0.Imm) && ((false == a0.U) && true)))) (by kernel_rfl) (part_pv (by kernel_rfl)) (part_pv (by kernel_rfl)) (eq_pv (by kernel_rfl)) (eq_cons (a := .int .i64 0) (b := .int .i64 a0.C) (r := (0 == a0.C)) (s := ((0 == a0.Imm) && ((false == a0.U) && true))) (by kernel_rfl) (part_pv (by kernel_rfl)) (part_pv (by kernel_rfl)) (eq_pv (by kernel_rfl)) (eq_cons (a := .int .i64 0) (b := .int .i64 a0.Imm) (r := (0 == a0.Imm)) (s := ((false == a0.U) && true)) (by kernel_rfl) (part_pv (by kernel_rfl)) (part_pv (by kernel_rfl)) (eq_pv (by kernel_rfl)) (eq_cons (a := .bool false) (b := .bool a0.U) (r := (false == a0.U)) (s := true) (by kernel_rfl) (part_pv (by kernel_rfl)) (part_pv (by kernel_rfl)) (eq_pv (by kernel_rfl)) eq_nil))))))))) [111, 112] ?_; clear hs; intro a hs
       refine go_pvs 4 [113] [(2, .bool ((a0.Kind == a0.Kind) && ((0 == a0.Op) && ((a0.A == a0.A) && ((0 == a0.B) && ((0 == a0.C) && ((0 == a0.Imm) && ((false == a0.U) && true))))))))] hs ?_; clear hs; intro a hs
       refine go_end (hK105 _ _ ?_)
       refine wp_ret ?_
       refine ib_ret ?_
       refine th_ret ?_
       obtain rfl := Option.some.inj H
       refine ret1 (t := 2) (v := .bool ((a0.Kind == a0.Kind) && ((0 == a0.Op) && ((a0.A == a0.A) && ((0 == a0.B) && ((0 == a0.C) && ((0 == a0.Imm) && ((false == a0.U) && true)))))))) hs (by kernel_rfl) (by kernel_rfl) ?_
       exact ⟨rfl, hw.only 0⟩
      ·replace H := ite_f H (ff hc)
       have hb106 := hc
       rw [hb106] at hs
       refine go_sp [108] [(114, .bool (a0.Kind == 5))] hs ?_; clear hs; intro a hs
       refine go_cond hs (a0.Kind == 5) (fun hc => ?_) fun hc => ?_
       ·replace H := ite_t H (beq_iff_eq.1 hc)
        have hb108 := hc
        rw [hb108] at hs
        refine go_sk fun K109 hK109 => ?_
        refine go_pvs 1 [36, 114] [(116, .pointer (some ((ad2 : Addr).add 1)))] hs ?_; clear hs; intro a hs
        refine go_run hs (by rfl) (x_ld (off := 1) (p := (ad2 : Addr).add 1) (v := .int .i64 a0.Op) (Rd.of_own (hw.up 1)) (one_ok a0) (one_off _ _ _)) [116] ?_; clear hs; intro a hs
        refine go_pvs 3 [] [(118, .pointer (some ((ad30 : Addr).add 1)))] hs ?_; clear hs; intro a hs
        obtain ⟨wd110, hx111, hw⟩ := x_put (P := Try.prog) (ty := 0) (t := 3) (x := (Operand.tmp 118)) (y := (Operand.tmp 117)) (off := 1) (p := (ad30 : Addr).add 1) (v := .int .i64 a0.Op) (vs := [.int .i64 a0.Op]) (i := 0) (e' := (({ (⟨a0.Kind, 0, a0.A, 0, 0, 0, false⟩ : Sapi_Instr) with Op := a0.Op } : Sapi_Instr) : Sapi_Instr)) hs hw rfl (one_ok (⟨a0.Kind, 0, a0.A, 0, 0, 0, false⟩ : Sapi_Instr)).1 (one_ok (⟨a0.Kind, 0, a0.A, 0, 0, 0, false⟩ : Sapi_Instr)).2 (by kernel_rfl) (one_off _ _ _) (by kernel_rfl) rfl (by kernel_rfl) (Nat.le_of_ble_eq_true rfl) (by simp [Value.oneCell']) (by kernel_rfl)
        refine go_unit hs (by rfl) hx111 [117, 118] ?_; clear hs; intro a hs
        replace hw : St [] w0 wd110 [own 45 eSapi_Instr (some ad30) 1 [({ (⟨a0.Kind, 0, a0.A, 0, 0, 0, false⟩ : Sapi_Instr) with Op := a0.Op } : Sapi_Instr)], own 45 eSapi_Instr (some ad2) 1 [a0]] := hw
        refine go_end (hK109 _ _ ?_)
        refine go_sk fun K112 hK112 => ?_
        refine go_pvs 1 [] [(119, .pointer (some ((ad2 : Addr).add 3)))] hs ?_; clear hs; intro a hs
        refine go_run hs (by rfl) (x_ld (off := 3) (p := (ad2 : Addr).add 3) (v := .int .i64 a0.B) (Rd.of_own (hw.up 1)) (one_ok a0) (one_off _ _ _)) [119] ?_; clear hs; intro a hs
        refine go_pvs 3 [] [(121, .pointer (some ((ad30 : Addr).add 3)))] hs ?_; clear hs; intro a hs
        obtain ⟨wd113, hx114, hw⟩ := x_put (P := Try.prog) (ty := 0) (t := 3) (x := (Operand.tmp 121)) (y := (Operand.tmp 120)) (off := 3) (p := (ad30 : Addr).add 3) (v := .int .i64 a0.B) (vs := [.int .i64 a0.B]) (i := 0) (e' := (({ ({ (⟨a0.Kind, 0, a0.A, 0, 0, 0, false⟩ : Sapi_Instr) with Op := a0.Op } : Sapi_Instr) with B := a0.B } : Sapi_Instr) : Sapi_Instr)) hs hw rfl (one_ok ({ (⟨a0.Kind, 0, a0.A, 0, 0, 0, false⟩ : Sapi_Instr) with Op := a0.Op } : Sapi_Instr)).1 (one_ok ({ (⟨a0.Kind, 0, a0.A, 0, 0, 0, false⟩ : Sapi_Instr) with Op := a0.Op } : Sapi_Instr)).2 (by kernel_rfl) (one_off _ _ _) (by kernel_rfl) rfl (by kernel_rfl) (Nat.le_of_ble_eq_true rfl) (by simp [Value.oneCell']) (by kernel_rfl)
        refine go_unit hs (by rfl) hx114 [120, 121] ?_; clear hs; intro a hs
        replace hw : St [] w0 wd113 [own 45 eSapi_Instr (some ad30) 1 [({ ({ (⟨a0.Kind, 0, a0.A, 0, 0, 0, false⟩ : Sapi_Instr) with Op := a0.Op } : Sapi_Instr) with B := a0.B } : Sapi_Instr)], own 45 eSapi_Instr (some ad2) 1 [a0]] := hw
        refine go_end (hK112 _ _ ?_)
        refine go_sk fun K115 hK115 => ?_
        refine go_pvs 1 [] [(122, .pointer (some ((ad2 : Addr).add 5)))] hs ?_; clear hs; intro a hs
        refine go_run hs (by rfl) (x_ld (off := 5) (p := (ad2 : Addr).add 5) (v := .int .i64 a0.Imm) (Rd.of_own (hw.up 1)) (one_ok a0) (one_off _ _ _)) [122] ?_; clear hs; intro a hs
        refine go_pvs 3 [] [(124, .pointer (some ((ad30 : Addr).add 5)))] hs ?_; clear hs; intro a hs
        obtain ⟨wd116, hx117, hw⟩ := x_put (P := Try.prog) (ty := 0) (t := 3) (x := (Operand.tmp 124)) (y := (Operand.tmp 123)) (off := 5) (p := (ad30 : Addr).add 5) (v := .int .i64 a0.Imm) (vs := [.int .i64 a0.Imm]) (i := 0) (e' := (({ ({ ({ (⟨a0.Kind, 0, a0.A, 0, 0, 0, false⟩ : Sapi_Instr) with Op := a0.Op } : Sapi_Instr) with B := a0.B } : Sapi_Instr) with Imm := a0.Imm } : Sapi_Instr) : Sapi_Instr)) hs hw rfl (one_ok ({ ({ (⟨a0.Kind, 0, a0.A, 0, 0, 0, false⟩ : Sapi_Instr) with Op := a0.Op } : Sapi_Instr) with B := a0.B } : Sapi_Instr)).1 (one_ok ({ ({ (⟨a0.Kind, 0, a0.A, 0, 0, 0, false⟩ : Sapi_Instr) with Op := a0.Op } : Sapi_Instr) with B := a0.B } : Sapi_Instr)).2 (by kernel_rfl) (one_off _ _ _) (by kernel_rfl) rfl (by kernel_rfl) (Nat.le_of_ble_eq_true rfl) (by simp [Value.oneCell']) (by kernel_rfl)
        refine go_unit hs (by rfl) hx117 [123, 124] ?_; clear hs; intro a hs
        replace hw : St [] w0 wd116 [own 45 eSapi_Instr (some ad30) 1 [({ ({ ({ (⟨a0.Kind, 0, a0.A, 0, 0, 0, false⟩ : Sapi_Instr) with Op := a0.Op } : Sapi_Instr) with B := a0.B } : Sapi_Instr) with Imm := a0.Imm } : Sapi_Instr)], own 45 eSapi_Instr (some ad2) 1 [a0]] := hw
        refine go_end (hK115 _ _ ?_)
        refine go_seq_k fun K118 hK118 => ?_
        have hJ13 : ∀ (v127 : Bool) (a : Act) (w : World), Slots a 186 [(2, .bool v127)] → St [] w0 w [own 45 eSapi_Instr (some ad30) 1 [({ ({ ({ (⟨a0.Kind, 0, a0.A, 0, 0, 0, false⟩ : Sapi_Instr) with Op := a0.Op } : Sapi_Instr) with B := a0.B } : Sapi_Instr) with Imm := a0.Imm } : Sapi_Instr)], own 45 eSapi_Instr (some ad2) 1 [a0]] → rivetref03_May.j13 v127 = some r → K118 a w := by
         intro v127 a w hs hw H
         unfold rivetref03_May.j13 at H
         refine hK118 _ _ ?_
         refine wp_ret ?_
         refine ib_ret ?_
         refine th_ret ?_
         obtain rfl := Option.some.inj H
         refine ret1 (t := 2) (v := .bool v127) hs (by kernel_rfl) (by kernel_rfl) ?_
         exact ⟨rfl, hw.only 0⟩
        refine go_region ?_
        refine go_run hs (by rfl) (x_lds (off := 0) (p := ad30) (cs := (eSapi_Instr.enc ({ ({ ({ (⟨a0.Kind, 0, a0.A, 0, 0, 0, false⟩ : Sapi_Instr) with Op := a0.Op } : Sapi_Instr) with B := a0.B } : Sapi_Instr) with Imm := a0.Imm } : Sapi_Instr))) (Rd.of_own (hw.up 0)) (one_ok ({ ({ ({ (⟨a0.Kind, 0, a0.A, 0, 0, 0, false⟩ : Sapi_Instr) with Op := a0.Op } : Sapi_Instr) with B := a0.B } : Sapi_Instr) with Imm := a0.Imm } : Sapi_Instr)) (one_at _ _)) [3] ?_; clear hs; intro a hs
        refine go_run hs (by rfl) (x_lds (off := 0) (p := ad2) (cs := (eSapi_Instr.enc a0)) (Rd.of_own (hw.up 1)) (one_ok a0) (one_at _ _)) [] ?_; clear hs; intro a hs
        refine go_run hs (by rfl) (x_eql (xs := (eSapi_Instr.enc ({ ({ ({ (⟨a0.Kind, 0, a0.A, 0, 0, 0, false⟩ : Sapi_Instr) with Op := a0.Op } : Sapi_Instr) with B := a0.B } : Sapi_Instr) with Imm := a0.Imm } : Sapi_Instr)).toArray) (ys := (eSapi_Instr.enc a0).toArray) (r := ((a0.Kind == a0.Kind) && ((a0.Op == a0.Op) && ((a0.A == a0.A) && ((a0.B == a0.B) && ((0 == a0.C) && ((a0.Imm == a0.Imm) && ((false == a0.U) && true)))))))) (by kernel_rfl) (by kernel_rfl) (by kernel_rfl) (eq_struct Try.underlying45 (by kernel_rfl) (eq_cons (a := .int .i64 a0.Kind) (b := .int .i64 a0.Kind) (r := (a0.Kind == a0.Kind)) (s := ((a0.Op == a0.Op) && ((a0.A == a0.A) && ((a0.B == a0.B) && ((0 == a0.C) && ((a0.Imm == a0.Imm) && ((false == a0.U) && true))))))) (by kernel_rfl) (part_pv (by kernel_rfl)) (part_pv (by kernel_rfl)) (eq_pv (by kernel_rfl)) (eq_cons (a := .int .i64 a0.Op) (b := .int .i64 a0.Op) (r := (a0.Op == a0.Op)) (s := ((a0.A == a0.A) && ((a0.B == a0.B) && ((0 == a0.C) && ((a0.Imm == a0.Imm) && ((false == a0.U) && true)))))) (by kernel_rfl) (part_pv (by kernel_rfl)) (part_pv (by kernel_rfl)) (eq_pv (by kernel_rfl)) (eq_cons (a := .int .i64 a0.A) (b := .int .i64 a0.A) (r := (a0.A == a0.A)) (s := ((a0.B == a0.B) && ((0 == a0.C) && ((a0.Imm == a0.Imm) && ((false == a0.U) && true))))) (by kernel_rfl) (part_pv (by kernel_rfl)) (part_pv (by kernel_rfl)) (eq_pv (by kernel_rfl)) (eq_cons (a := .int .i64 a0.B) (b := .int .i64 a0.B) (r := (a0.B == a0.B)) (s := ((0 == a0.C) && ((a0.Imm == a0.Imm) && ((false == a0.U) && true)))) (by kernel_rfl) (part_pv (by kernel_rfl)) (part_pv (by kernel_rfl)) (eq_pv (by kernel_rfl)) (eq_cons (a := .int .i64 0) (b := .int .i64 a0.C) (r := (0 == a0.C)) (s := ((a0.Imm == a0.Imm) && ((false == a0.U) && true))) (by kernel_rfl) (part_pv (by kernel_rfl)) (part_pv (by kernel_rfl)) (eq_pv (by kernel_rfl)) (eq_cons (a := .int .i64 a0.Imm) (b := .int .i64 a0.Imm) (r := (a0.Imm == a0.Imm)) (s := ((false == a0.U) && true)) (by kernel_rfl) (part_pv (by kernel_rfl)) (part_pv (by kernel_rfl)) (eq_pv (by kernel_rfl)) (eq_cons (a := .bool false) (b := .bool a0.U) (r := (false == a0.U)) (s := true) (by kernel_rfl) (part_pv (by kernel_rfl)) (part_pv (by kernel_rfl)) (eq_pv (by kernel_rfl)) eq_nil))))))))) [125, 126] ?_; clear hs; intro a hs
        refine go_pvs 4 [127] [(128, .bool ((a0.Kind == a0.Kind) && ((a0.Op == a0.Op) && ((a0.A == a0.A) && ((a0.B == a0.B) && ((0 == a0.C) && ((a0.Imm == a0.Imm) && ((false == a0.U) && true))))))))] hs ?_; clear hs; intro a hs
        cases hb119 : ((a0.Kind == a0.Kind) && ((a0.Op == a0.Op) && ((a0.A == a0.A) && ((a0.B == a0.B) && ((0 == a0.C) && ((a0.Imm == a0.Imm) && ((false == a0.U) && true)))))))
        ·replace H := ite_f H (ff hb119)
         rw [hb119] at hs
         refine go_pvs 19 [1, 128] [(2, .bool false)] hs ?_; clear hs; intro a hs
         refine go_end ?_
         replace hw := hw.up 1
         replace hw := hw.up 1
         exact hJ13 false _ _ hs.kx hw H
        ·replace H := ite_t H hb119
         rw [hb119] at hs
         refine go_pvs 5 [] [(129, .pointer (some ((ad2 : Addr).add 1)))] hs ?_; clear hs; intro a hs
         refine go_run hs (by rfl) (x_ld (off := 1) (p := (ad2 : Addr).add 1) (v := .int .i64 a0.Op) (Rd.of_own (hw.up 1)) (one_ok a0) (one_off _ _ _)) [129] ?_; clear hs; intro a hs
         refine go_pvs 9 [128, 130] [(133, .bool (decide (a0.Op ≥ 0)))] hs ?_; clear hs; intro a hs
         cases hb120 : (decide (a0.Op ≥ 0))
         ·replace H := ite_f H (of_decide_eq_false hb120)
          rw [hb120] at hs
          refine go_pvs 19 [1, 133] [(2, .bool false)] hs ?_; clear hs; intro a hs
          refine go_end ?_
          replace hw := hw.up 1
          replace hw := hw.up 1
          exact hJ13 false _ _ hs.kx hw H
         ·replace H := ite_t H (of_decide_eq_true hb120)
          rw [hb120] at hs
          refine go_pvs 10 [] [(134, .pointer (some ((ad2 : Addr).add 1)))] hs ?_; clear hs; intro a hs
          refine go_run hs (by rfl) (x_ld (off := 1) (p := (ad2 : Addr).add 1) (v := .int .i64 a0.Op) (Rd.of_own (hw.up 1)) (one_ok a0) (one_off _ _ _)) [134] ?_; clear hs; intro a hs
          refine go_pvs 14 [133, 135] [(138, .bool (decide (a0.Op ≤ 3)))] hs ?_; clear hs; intro a hs
          cases hb121 : (decide (a0.Op ≤ 3))
          ·replace H := ite_f H (of_decide_eq_false hb121)
           rw [hb121] at hs
           refine go_pvs 19 [1, 138] [(2, .bool false)] hs ?_; clear hs; intro a hs
           refine go_end ?_
           replace hw := hw.up 1
           replace hw := hw.up 1
           exact hJ13 false _ _ hs.kx hw H
          ·replace H := ite_t H (of_decide_eq_true hb121)
           rw [hb121] at hs
           refine go_pvs 15 [1] [(139, .pointer (some ((ad2 : Addr).add 5)))] hs ?_; clear hs; intro a hs
           refine go_run hs (by rfl) (x_ld (off := 5) (p := (ad2 : Addr).add 5) (v := .int .i64 a0.Imm) (Rd.of_own (hw.up 1)) (one_ok a0) (one_off _ _ _)) [139] ?_; clear hs; intro a hs
           replace hs : Slots a 186 [(138, .bool true), (140, .int .i64 a0.Imm)] := hs.kx
           obtain ⟨t123, hx124, H⟩ := bind_some H
           refine go_call hs (by rfl) (rivetref02_Fits.calls a0.Imm 20 t123 _ hx124) ?_
           rintro e wd125 ⟨rfl, hw126⟩
           refine ⟨_, rfl, ?_⟩
           replace hw := hw.call hw126
           clear hs; intro a hs; replace hs := hs.rms [140]
           refine go_pvs 19 [138, 141] [(2, .bool t123)] hs ?_; clear hs; intro a hs
           refine go_end ?_
           replace hw := hw.up 1
           replace hw := hw.up 1
           exact hJ13 t123 _ _ hs.kx hw H
       ·replace H := ite_f H (beq_eq_false_iff_ne.1 hc)
        have hb128 := hc
        rw [hb128] at hs
        refine go_sp [114] [(143, .bool (a0.Kind == 6))] hs ?_; clear hs; intro a hs
        refine go_cond hs (a0.Kind == 6) (fun hc => ?_) fun hc => ?_
        ·replace H := ite_t H (beq_iff_eq.1 hc)
         have hb130 := hc
         rw [hb130] at hs
         refine go_sk fun K131 hK131 => ?_
         refine go_pvs 1 [36, 143] [(145, .pointer (some ((ad2 : Addr).add 0)))] hs ?_; clear hs; intro a hs
         refine go_run hs (by rfl) (x_ld (off := 0) (p := (ad2 : Addr).add 0) (v := .int .i64 a0.Kind) (Rd.of_own (hw.up 1)) (one_ok a0) (one_off _ _ _)) [145] ?_; clear hs; intro a hs
         refine go_pvs 3 [] [(147, .pointer (some ((ad2 : Addr).add 1)))] hs ?_; clear hs; intro a hs
         refine go_run hs (by rfl) (x_ld (off := 1) (p := (ad2 : Addr).add 1) (v := .int .i64 a0.Op) (Rd.of_own (hw.up 1)) (one_ok a0) (one_off _ _ _)) [147] ?_; clear hs; intro a hs
         refine go_pvs 5 [] [(149, .pointer (some ((ad2 : Addr).add 4)))] hs ?_; clear hs; intro a hs
         refine go_run hs (by rfl) (x_ld (off := 4) (p := (ad2 : Addr).add 4) (v := .int .i64 a0.C) (Rd.of_own (hw.up 1)) (one_ok a0) (one_off _ _ _)) [149] ?_; clear hs; intro a hs
         refine go_pvs 7 [] [(151, .pointer (some ((ad2 : Addr).add 6)))] hs ?_; clear hs; intro a hs
         refine go_run hs (by rfl) (x_ld (off := 6) (p := (ad2 : Addr).add 6) (v := .bool a0.U) (Rd.of_own (hw.up 1)) (one_ok a0) (one_off _ _ _)) [151] ?_; clear hs; intro a hs
         refine go_pvs 9 [146, 148, 150, 152] [(153, .agg (eSapi_Instr.enc (⟨a0.Kind, a0.Op, 0, 0, a0.C, 0, a0.U⟩ : Sapi_Instr)).toArray)] hs ?_; clear hs; intro a hs
         obtain ⟨wd132, hx133, hw⟩ := x_put (P := Try.prog) (ty := 0) (t := 45) (x := (Operand.tmp 3)) (y := (Operand.tmp 153)) (off := 0) (p := ad30) (v := .agg (eSapi_Instr.enc (⟨a0.Kind, a0.Op, 0, 0, a0.C, 0, a0.U⟩ : Sapi_Instr)).toArray) (vs := (eSapi_Instr.enc (⟨a0.Kind, a0.Op, 0, 0, a0.C, 0, a0.U⟩ : Sapi_Instr))) (i := 0) (e' := ((⟨a0.Kind, a0.Op, 0, 0, a0.C, 0, a0.U⟩ : Sapi_Instr) : Sapi_Instr)) hs hw rfl (one_ok (⟨a0.Kind, 0, a0.A, 0, 0, 0, false⟩ : Sapi_Instr)).1 (one_ok (⟨a0.Kind, 0, a0.A, 0, 0, 0, false⟩ : Sapi_Instr)).2 (by kernel_rfl) (one_at _ _) (by kernel_rfl) rfl (by kernel_rfl) (Nat.le_of_ble_eq_true rfl) (eSapi_Instr.one _) (by kernel_rfl)
         refine go_unit hs (by rfl) hx133 [153] ?_; clear hs; intro a hs
         replace hw : St [] w0 wd132 [own 45 eSapi_Instr (some ad30) 1 [(⟨a0.Kind, a0.Op, 0, 0, a0.C, 0, a0.U⟩ : Sapi_Instr)], own 45 eSapi_Instr (some ad2) 1 [a0]] := hw
         refine go_end (hK131 _ _ ?_)
         refine go_seq_k fun K134 hK134 => ?_
         have hJ14 : ∀ (v141 : Bool) (a : Act) (w : World), Slots a 186 [(2, .bool v141)] → St [] w0 w [own 45 eSapi_Instr (some ad30) 1 [(⟨a0.Kind, a0.Op, 0, 0, a0.C, 0, a0.U⟩ : Sapi_Instr)], own 45 eSapi_Instr (some ad2) 1 [a0]] → rivetref03_May.j14 v141 = some r → K134 a w := by
          intro v141 a w hs hw H
          unfold rivetref03_May.j14 at H
          refine hK134 _ _ ?_
          refine wp_ret ?_
          refine ib_ret ?_
          refine th_ret ?_
          obtain rfl := Option.some.inj H
          refine ret1 (t := 2) (v := .bool v141) hs (by kernel_rfl) (by kernel_rfl) ?_
          exact ⟨rfl, hw.only 0⟩
         refine go_region ?_
         refine go_run hs (by rfl) (x_lds (off := 0) (p := ad30) (cs := (eSapi_Instr.enc (⟨a0.Kind, a0.Op, 0, 0, a0.C, 0, a0.U⟩ : Sapi_Instr))) (Rd.of_own (hw.up 0)) (one_ok (⟨a0.Kind, a0.Op, 0, 0, a0.C, 0, a0.U⟩ : Sapi_Instr)) (one_at _ _)) [3] ?_; clear hs; intro a hs
         refine go_run hs (by rfl) (x_lds (off := 0) (p := ad2) (cs := (eSapi_Instr.enc a0)) (Rd.of_own (hw.up 1)) (one_ok a0) (one_at _ _)) [] ?_; clear hs; intro a hs
         refine go_run hs (by rfl) (x_eql (xs := (eSapi_Instr.enc (⟨a0.Kind, a0.Op, 0, 0, a0.C, 0, a0.U⟩ : Sapi_Instr)).toArray) (ys := (eSapi_Instr.enc a0).toArray) (r := ((a0.Kind == a0.Kind) && ((a0.Op == a0.Op) && ((0 == a0.A) && ((0 == a0.B) && ((a0.C == a0.C) && ((0 == a0.Imm) && ((a0.U == a0.U) && true)))))))) (by kernel_rfl) (by kernel_rfl) (by kernel_rfl) (eq_struct Try.underlying45 (by kernel_rfl) (eq_cons (a := .int .i64 a0.Kind) (b := .int .i64 a0.Kind) (r := (a0.Kind == a0.Kind)) (s := ((a0.Op == a0.Op) && ((0 == a0.A) && ((0 == a0.B) && ((a0.C == a0.C) && ((0 == a0.Imm) && ((a0.U == a0.U) && true))))))) (by kernel_rfl) (part_pv (by kernel_rfl)) (part_pv (by kernel_rfl)) (eq_pv (by kernel_rfl)) (eq_cons (a := .int .i64 a0.Op) (b := .int .i64 a0.Op) (r := (a0.Op == a0.Op)) (s := ((0 == a0.A) && ((0 == a0.B) && ((a0.C == a0.C) && ((0 == a0.Imm) && ((a0.U == a0.U) && true)))))) (by kernel_rfl) (part_pv (by kernel_rfl)) (part_pv (by kernel_rfl)) (eq_pv (by kernel_rfl)) (eq_cons (a := .int .i64 0) (b := .int .i64 a0.A) (r := (0 == a0.A)) (s := ((0 == a0.B) && ((a0.C == a0.C) && ((0 == a0.Imm) && ((a0.U == a0.U) && true))))) (by kernel_rfl) (part_pv (by kernel_rfl)) (part_pv (by kernel_rfl)) (eq_pv (by kernel_rfl)) (eq_cons (a := .int .i64 0) (b := .int .i64 a0.B) (r := (0 == a0.B)) (s := ((a0.C == a0.C) && ((0 == a0.Imm) && ((a0.U == a0.U) && true)))) (by kernel_rfl) (part_pv (by kernel_rfl)) (part_pv (by kernel_rfl)) (eq_pv (by kernel_rfl)) (eq_cons (a := .int .i64 a0.C) (b := .int .i64 a0.C) (r := (a0.C == a0.C)) (s := ((0 == a0.Imm) && ((a0.U == a0.U) && true))) (by kernel_rfl) (part_pv (by kernel_rfl)) (part_pv (by kernel_rfl)) (eq_pv (by kernel_rfl)) (eq_cons (a := .int .i64 0) (b := .int .i64 a0.Imm) (r := (0 == a0.Imm)) (s := ((a0.U == a0.U) && true)) (by kernel_rfl) (part_pv (by kernel_rfl)) (part_pv (by kernel_rfl)) (eq_pv (by kernel_rfl)) (eq_cons (a := .bool a0.U) (b := .bool a0.U) (r := (a0.U == a0.U)) (s := true) (by kernel_rfl) (part_pv (by kernel_rfl)) (part_pv (by kernel_rfl)) (eq_pv (by kernel_rfl)) eq_nil))))))))) [154, 155] ?_; clear hs; intro a hs
         refine go_pvs 4 [156] [(157, .bool ((a0.Kind == a0.Kind) && ((a0.Op == a0.Op) && ((0 == a0.A) && ((0 == a0.B) && ((a0.C == a0.C) && ((0 == a0.Imm) && ((a0.U == a0.U) && true))))))))] hs ?_; clear hs; intro a hs
         cases hb135 : ((a0.Kind == a0.Kind) && ((a0.Op == a0.Op) && ((0 == a0.A) && ((0 == a0.B) && ((a0.C == a0.C) && ((0 == a0.Imm) && ((a0.U == a0.U) && true)))))))
         ·replace H := ite_f H (ff hb135)
          rw [hb135] at hs
          refine go_pvs 9 [1, 157] [(2, .bool false)] hs ?_; clear hs; intro a hs
          refine go_end ?_
          replace hw := hw.up 1
          replace hw := hw.up 1
          exact hJ14 false _ _ hs.kx hw H
         ·replace H := ite_t H hb135
          rw [hb135] at hs
          refine go_pvs 5 [1] [(158, .pointer (some ((ad2 : Addr).add 1)))] hs ?_; clear hs; intro a hs
          refine go_run hs (by rfl) (x_ld (off := 1) (p := (ad2 : Addr).add 1) (v := .int .i64 a0.Op) (Rd.of_own (hw.up 1)) (one_ok a0) (one_off _ _ _)) [158] ?_; clear hs; intro a hs
          obtain ⟨t137, hx138, H⟩ := bind_some H
          refine go_call hs (by rfl) (rivetref03_reg.calls a0.Op t137 _ hx138) ?_
          rintro e wd139 ⟨rfl, hw140⟩
          refine ⟨_, rfl, ?_⟩
          replace hw := hw.call hw140
          clear hs; intro a hs; replace hs := hs.rms [159]
          refine go_pvs 9 [157, 160] [(2, .bool t137)] hs ?_; clear hs; intro a hs
          refine go_end ?_
          replace hw := hw.up 1
          replace hw := hw.up 1
          exact hJ14 t137 _ _ hs.kx hw H
        ·replace H := ite_f H (beq_eq_false_iff_ne.1 hc)
         have hb142 := hc
         rw [hb142] at hs
         refine go_sp [36, 143] [(162, .bool (a0.Kind == 7))] hs ?_; clear hs; intro a hs
         refine go_cond hs (a0.Kind == 7) (fun hc => ?_) fun hc => ?_
         ·replace H := ite_t H (beq_iff_eq.1 hc)
          have hb144 := hc
          rw [hb144] at hs
          refine go_sk fun K145 hK145 => ?_
          refine go_pvs 1 [162] [(164, .pointer (some ((ad2 : Addr).add 0)))] hs ?_; clear hs; intro a hs
          refine go_run hs (by rfl) (x_ld (off := 0) (p := (ad2 : Addr).add 0) (v := .int .i64 a0.Kind) (Rd.of_own (hw.up 1)) (one_ok a0) (one_off _ _ _)) [164] ?_; clear hs; intro a hs
          refine go_pvs 3 [] [(166, .pointer (some ((ad2 : Addr).add 1)))] hs ?_; clear hs; intro a hs
          refine go_run hs (by rfl) (x_ld (off := 1) (p := (ad2 : Addr).add 1) (v := .int .i64 a0.Op) (Rd.of_own (hw.up 1)) (one_ok a0) (one_off _ _ _)) [166] ?_; clear hs; intro a hs
          refine go_pvs 5 [] [(168, .pointer (some ((ad2 : Addr).add 5)))] hs ?_; clear hs; intro a hs
          refine go_run hs (by rfl) (x_ld (off := 5) (p := (ad2 : Addr).add 5) (v := .int .i64 a0.Imm) (Rd.of_own (hw.up 1)) (one_ok a0) (one_off _ _ _)) [168] ?_; clear hs; intro a hs
          refine go_pvs 7 [] [(170, .pointer (some ((ad2 : Addr).add 6)))] hs ?_; clear hs; intro a hs
          refine go_run hs (by rfl) (x_ld (off := 6) (p := (ad2 : Addr).add 6) (v := .bool a0.U) (Rd.of_own (hw.up 1)) (one_ok a0) (one_off _ _ _)) [170] ?_; clear hs; intro a hs
          refine go_pvs 9 [165, 167, 169, 171] [(172, .agg (eSapi_Instr.enc (⟨a0.Kind, a0.Op, 0, 0, 0, a0.Imm, a0.U⟩ : Sapi_Instr)).toArray)] hs ?_; clear hs; intro a hs
          obtain ⟨wd146, hx147, hw⟩ := x_put (P := Try.prog) (ty := 0) (t := 45) (x := (Operand.tmp 3)) (y := (Operand.tmp 172)) (off := 0) (p := ad30) (v := .agg (eSapi_Instr.enc (⟨a0.Kind, a0.Op, 0, 0, 0, a0.Imm, a0.U⟩ : Sapi_Instr)).toArray) (vs := (eSapi_Instr.enc (⟨a0.Kind, a0.Op, 0, 0, 0, a0.Imm, a0.U⟩ : Sapi_Instr))) (i := 0) (e' := ((⟨a0.Kind, a0.Op, 0, 0, 0, a0.Imm, a0.U⟩ : Sapi_Instr) : Sapi_Instr)) hs hw rfl (one_ok (⟨a0.Kind, 0, a0.A, 0, 0, 0, false⟩ : Sapi_Instr)).1 (one_ok (⟨a0.Kind, 0, a0.A, 0, 0, 0, false⟩ : Sapi_Instr)).2 (by kernel_rfl) (one_at _ _) (by kernel_rfl) rfl (by kernel_rfl) (Nat.le_of_ble_eq_true rfl) (eSapi_Instr.one _) (by kernel_rfl)
          refine go_unit hs (by rfl) hx147 [172] ?_; clear hs; intro a hs
          replace hw : St [] w0 wd146 [own 45 eSapi_Instr (some ad30) 1 [(⟨a0.Kind, a0.Op, 0, 0, 0, a0.Imm, a0.U⟩ : Sapi_Instr)], own 45 eSapi_Instr (some ad2) 1 [a0]] := hw
          refine go_end (hK145 _ _ ?_)
          refine go_seq_k fun K148 hK148 => ?_
          have hJ15 : ∀ (v161 : Bool) (a : Act) (w : World), Slots a 186 [(2, .bool v161)] → St [] w0 w [own 45 eSapi_Instr (some ad30) 1 [(⟨a0.Kind, a0.Op, 0, 0, 0, a0.Imm, a0.U⟩ : Sapi_Instr)], own 45 eSapi_Instr (some ad2) 1 [a0]] → rivetref03_May.j15 v161 = some r → K148 a w := by
           intro v161 a w hs hw H
           unfold rivetref03_May.j15 at H
           refine hK148 _ _ ?_
           refine wp_ret ?_
           refine ib_ret ?_
           refine th_ret ?_
           obtain rfl := Option.some.inj H
           refine ret1 (t := 2) (v := .bool v161) hs (by kernel_rfl) (by kernel_rfl) ?_
           exact ⟨rfl, hw.only 0⟩
          refine go_region ?_
          refine go_run hs (by rfl) (x_lds (off := 0) (p := ad30) (cs := (eSapi_Instr.enc (⟨a0.Kind, a0.Op, 0, 0, 0, a0.Imm, a0.U⟩ : Sapi_Instr))) (Rd.of_own (hw.up 0)) (one_ok (⟨a0.Kind, a0.Op, 0, 0, 0, a0.Imm, a0.U⟩ : Sapi_Instr)) (one_at _ _)) [3] ?_; clear hs; intro a hs
          refine go_run hs (by rfl) (x_lds (off := 0) (p := ad2) (cs := (eSapi_Instr.enc a0)) (Rd.of_own (hw.up 1)) (one_ok a0) (one_at _ _)) [] ?_; clear hs; intro a hs
          refine go_run hs (by rfl) (x_eql (xs := (eSapi_Instr.enc (⟨a0.Kind, a0.Op, 0, 0, 0, a0.Imm, a0.U⟩ : Sapi_Instr)).toArray) (ys := (eSapi_Instr.enc a0).toArray) (r := ((a0.Kind == a0.Kind) && ((a0.Op == a0.Op) && ((0 == a0.A) && ((0 == a0.B) && ((0 == a0.C) && ((a0.Imm == a0.Imm) && ((a0.U == a0.U) && true)))))))) (by kernel_rfl) (by kernel_rfl) (by kernel_rfl) (eq_struct Try.underlying45 (by kernel_rfl) (eq_cons (a := .int .i64 a0.Kind) (b := .int .i64 a0.Kind) (r := (a0.Kind == a0.Kind)) (s := ((a0.Op == a0.Op) && ((0 == a0.A) && ((0 == a0.B) && ((0 == a0.C) && ((a0.Imm == a0.Imm) && ((a0.U == a0.U) && true))))))) (by kernel_rfl) (part_pv (by kernel_rfl)) (part_pv (by kernel_rfl)) (eq_pv (by kernel_rfl)) (eq_cons (a := .int .i64 a0.Op) (b := .int .i64 a0.Op) (r := (a0.Op == a0.Op)) (s := ((0 == a0.A) && ((0 == a0.B) && ((0 == a0.C) && ((a0.Imm == a0.Imm) && ((a0.U == a0.U) && true)))))) (by kernel_rfl) (part_pv (by kernel_rfl)) (part_pv (by kernel_rfl)) (eq_pv (by kernel_rfl)) (eq_cons (a := .int .i64 0) (b := .int .i64 a0.A) (r := (0 == a0.A)) (s := ((0 == a0.B) && ((0 == a0.C) && ((a0.Imm == a0.Imm) && ((a0.U == a0.U) && true))))) (by kernel_rfl) (part_pv (by kernel_rfl)) (part_pv (by kernel_rfl)) (eq_pv (by kernel_rfl)) (eq_cons (a := .int .i64 0) (b := .int .i64 a0.B) (r := (0 == a0.B)) (s := ((0 == a0.C) && ((a0.Imm == a0.Imm) && ((a0.U == a0.U) && true)))) (by kernel_rfl) (part_pv (by kernel_rfl)) (part_pv (by kernel_rfl)) (eq_pv (by kernel_rfl)) (eq_cons (a := .int .i64 0) (b := .int .i64 a0.C) (r := (0 == a0.C)) (s := ((a0.Imm == a0.Imm) && ((a0.U == a0.U) && true))) (by kernel_rfl) (part_pv (by kernel_rfl)) (part_pv (by kernel_rfl)) (eq_pv (by kernel_rfl)) (eq_cons (a := .int .i64 a0.Imm) (b := .int .i64 a0.Imm) (r := (a0.Imm == a0.Imm)) (s := ((a0.U == a0.U) && true)) (by kernel_rfl) (part_pv (by kernel_rfl)) (part_pv (by kernel_rfl)) (eq_pv (by kernel_rfl)) (eq_cons (a := .bool a0.U) (b := .bool a0.U) (r := (a0.U == a0.U)) (s := true) (by kernel_rfl) (part_pv (by kernel_rfl)) (part_pv (by kernel_rfl)) (eq_pv (by kernel_rfl)) eq_nil))))))))) [173, 174] ?_; clear hs; intro a hs
          refine go_pvs 4 [175] [(176, .bool ((a0.Kind == a0.Kind) && ((a0.Op == a0.Op) && ((0 == a0.A) && ((0 == a0.B) && ((0 == a0.C) && ((a0.Imm == a0.Imm) && ((a0.U == a0.U) && true))))))))] hs ?_; clear hs; intro a hs
          cases hb149 : ((a0.Kind == a0.Kind) && ((a0.Op == a0.Op) && ((0 == a0.A) && ((0 == a0.B) && ((0 == a0.C) && ((a0.Imm == a0.Imm) && ((a0.U == a0.U) && true)))))))
          ·replace H := ite_f H (ff hb149)
           rw [hb149] at hs
           refine go_pvs 14 [1, 176] [(2, .bool false)] hs ?_; clear hs; intro a hs
           refine go_end ?_
           replace hw := hw.up 1
           replace hw := hw.up 1
           exact hJ15 false _ _ hs.kx hw H
          ·replace H := ite_t H hb149
           rw [hb149] at hs
           refine go_pvs 5 [] [(177, .pointer (some ((ad2 : Addr).add 1)))] hs ?_; clear hs; intro a hs
           refine go_run hs (by rfl) (x_ld (off := 1) (p := (ad2 : Addr).add 1) (v := .int .i64 a0.Op) (Rd.of_own (hw.up 1)) (one_ok a0) (one_off _ _ _)) [177] ?_; clear hs; intro a hs
           obtain ⟨t151, hx152, H⟩ := bind_some H
           refine go_call hs (by rfl) (rivetref03_reg.calls a0.Op t151 _ hx152) ?_
           rintro e wd153 ⟨rfl, hw154⟩
           refine ⟨_, rfl, ?_⟩
           replace hw := hw.call hw154
           clear hs; intro a hs; replace hs := hs.rms [178]
           refine go_pvs 9 [176, 179] [(181, .bool t151)] hs ?_; clear hs; intro a hs
           cases hb155 : t151
           ·replace H := ite_f H (ff hb155)
            rw [hb155] at hs
            refine go_pvs 14 [1, 181] [(2, .bool false)] hs ?_; clear hs; intro a hs
            refine go_end ?_
            replace hw := hw.up 1
            replace hw := hw.up 1
            exact hJ15 false _ _ hs.kx hw H
           ·replace H := ite_t H hb155
            rw [hb155] at hs
            refine go_pvs 10 [1] [(182, .pointer (some ((ad2 : Addr).add 5)))] hs ?_; clear hs; intro a hs
            refine go_run hs (by rfl) (x_ld (off := 5) (p := (ad2 : Addr).add 5) (v := .int .i64 a0.Imm) (Rd.of_own (hw.up 1)) (one_ok a0) (one_off _ _ _)) [182] ?_; clear hs; intro a hs
            obtain ⟨t157, hx158, H⟩ := bind_some H
            refine go_call hs (by rfl) (rivetref02_Fits.calls a0.Imm 24 t157 _ hx158) ?_
            rintro e wd159 ⟨rfl, hw160⟩
            refine ⟨_, rfl, ?_⟩
            replace hw := hw.call hw160
            clear hs; intro a hs; replace hs := hs.rms [183]
            refine go_pvs 14 [181, 184] [(2, .bool t157)] hs ?_; clear hs; intro a hs
            replace hs : Slots a 186 [(2, .bool t157)] := hs.kx
            refine go_end ?_
            replace hw := hw.up 1
            replace hw := hw.up 1
            exact hJ15 t157 _ _ hs.kx hw H
         ·replace H := ite_f H (beq_eq_false_iff_ne.1 hc)
          have hb162 := hc
          rw [hb162] at hs
          refine wp_skip ?_
          refine ib_norm ?_
          replace hw := hw.up 1
          replace hw := hw.up 1
          exact hJ16 _ _ hs.kx hw H
     refine go_sp [4, 37] [(108, .bool (a0.Kind == 3))] hs ?_; clear hs; intro a hs
     refine go_cond hs (a0.Kind == 3) (fun hc => ?_) fun hc => ?_
     ·replace H := ite_t H (beq_iff_eq.1 hc)
      have hb101 := hc
      rw [hb101] at hs
      refine wp_skip ?_
      replace hw := hw.up 1
      replace hw := hw.up 1
      exact hJ12 true _ _ hs.kx hw H
     ·replace H := ite_f H (beq_eq_false_iff_ne.1 hc)
      have hb102 := hc
      rw [hb102] at hs
      refine go_plain [] [(108, .bool (a0.Kind == 4))] hs ?_; clear hs; intro a hs
      replace hw := hw.up 1
      replace hw := hw.up 1
      exact hJ12 (a0.Kind == 4) _ _ hs.kx hw H
   refine go_sp [] [(37, .bool (a0.Kind == 1))] hs ?_; clear hs; intro a hs
   refine go_cond hs (a0.Kind == 1) (fun hc => ?_) fun hc => ?_
   ·replace H := ite_t H (beq_iff_eq.1 hc)
    have hb43 := hc
    rw [hb43] at hs
    refine wp_skip ?_
    replace hw := hw.up 1
    replace hw := hw.up 1
    exact hJ4 true _ _ hs.kx hw H
   ·replace H := ite_f H (beq_eq_false_iff_ne.1 hc)
    have hb44 := hc
    rw [hb44] at hs
    refine go_plain [] [(37, .bool (a0.Kind == 2))] hs ?_; clear hs; intro a hs
    replace hw := hw.up 1
    replace hw := hw.up 1
    exact hJ4 (a0.Kind == 2) _ _ hs.kx hw H
  refine go_region ?_
  refine go_pvs 1 [] [(27, .pointer (some ((ad2 : Addr).add 1)))] hs ?_; clear hs; intro a hs
  refine go_run hs (by rfl) (x_ld (off := 1) (p := (ad2 : Addr).add 1) (v := .int .i64 a0.Op) (Rd.of_own (hw.up 1)) (one_ok a0) (one_off _ _ _)) [27] ?_; clear hs; intro a hs
  refine go_pvs 4 [28] [(30, .bool (decide (a0.Op ≥ 8)))] hs ?_; clear hs; intro a hs
  cases hb37 : (decide (a0.Op ≥ 8))
  ·replace H := ite_f H (of_decide_eq_false hb37)
   rw [hb37] at hs
   refine go_pvs 9 [30] [(4, .bool false)] hs ?_; clear hs; intro a hs
   refine go_end ?_
   replace hw := hw.up 1
   replace hw := hw.up 1
   exact hJ3 false _ _ hs.kx hw H
  ·replace H := ite_t H (of_decide_eq_true hb37)
   rw [hb37] at hs
   refine go_pvs 5 [] [(31, .pointer (some ((ad2 : Addr).add 1)))] hs ?_; clear hs; intro a hs
   refine go_run hs (by rfl) (x_ld (off := 1) (p := (ad2 : Addr).add 1) (v := .int .i64 a0.Op) (Rd.of_own (hw.up 1)) (one_ok a0) (one_off _ _ _)) [31] ?_; clear hs; intro a hs
   refine go_pvs 9 [30, 32] [(4, .bool (decide (a0.Op ≤ 10)))] hs ?_; clear hs; intro a hs
   refine go_end ?_
   replace hw := hw.up 1
   replace hw := hw.up 1
   exact hJ3 (decide (a0.Op ≤ 10)) _ _ hs.kx hw H
 refine go_seq_k fun K7 hK7 => ?_
 have hJ1 : ∀ (v25 : Bool) (a : Act) (w : World), Slots a 186 [(1, .pointer (some ad2)), (21, .bool v25)] → St [] w0 w [own 45 eSapi_Instr (some ad2) 1 [a0]] → rivetref03_May.j1 a0 v25 = some r → K7 a w := by
  intro v25 a w hs hw H
  unfold rivetref03_May.j1 at H
  refine hK7 _ _ ?_
  refine go_cond hs v25 (fun hc => ?_) fun hc => ?_
  ·replace H := ite_t H hc
   have hb26 := hc
   rw [hb26] at hs
   refine go_sp [1, 21] [(2, .bool false)] hs ?_; clear hs; intro a hs
   refine wp_ret ?_
   refine th_ret ?_
   obtain rfl := Option.some.inj H
   refine ret1 (t := 2) (v := .bool false) hs (by kernel_rfl) (by kernel_rfl) ?_
   exact ⟨rfl, hw.only 0⟩
  ·replace H := ite_f H (ff hc)
   have hb28 := hc
   rw [hb28] at hs
   refine wp_skip ?_
   exact hJ2 _ _ hs.kx hw H
 refine go_region ?_
 refine go_pvs 1 [] [(6, .pointer (some ((ad2 : Addr).add 2)))] hs ?_; clear hs; intro a hs
 refine go_run hs (by rfl) (x_ld (off := 2) (p := (ad2 : Addr).add 2) (v := .int .i64 a0.A) (Rd.of_own (hw.up 0)) (one_ok a0) (one_off _ _ _)) [6] ?_; clear hs; intro a hs
 obtain ⟨t9, hx10, H⟩ := bind_some H
 refine go_call hs (by rfl) (rivetref03_reg.calls a0.A t9 _ hx10) ?_
 rintro e wd11 ⟨rfl, hw12⟩
 refine ⟨_, rfl, ?_⟩
 replace hw := hw.call hw12
 clear hs; intro a hs; replace hs := hs.rms [7]
 refine go_pvs 5 [8] [(10, .bool (!t9))] hs ?_; clear hs; intro a hs
 cases hb13 : (!t9)
 ·replace H := ite_t H (nf hb13)
  rw [hb13] at hs
  refine go_pvs 6 [] [(11, .pointer (some ((ad2 : Addr).add 3)))] hs ?_; clear hs; intro a hs
  refine go_run hs (by rfl) (x_ld (off := 3) (p := (ad2 : Addr).add 3) (v := .int .i64 a0.B) (Rd.of_own (hw.up 0)) (one_ok a0) (one_off _ _ _)) [11] ?_; clear hs; intro a hs
  obtain ⟨t15, hx16, H⟩ := bind_some H
  refine go_call hs (by rfl) (rivetref03_reg.calls a0.B t15 _ hx16) ?_
  rintro e wd17 ⟨rfl, hw18⟩
  refine ⟨_, rfl, ?_⟩
  replace hw := hw.call hw18
  clear hs; intro a hs; replace hs := hs.rms [12]
  refine go_pvs 11 [10, 13] [(16, .bool (!t15))] hs ?_; clear hs; intro a hs
  cases hb19 : (!t15)
  ·replace H := ite_t H (nf hb19)
   rw [hb19] at hs
   refine go_pvs 12 [] [(17, .pointer (some ((ad2 : Addr).add 4)))] hs ?_; clear hs; intro a hs
   refine go_run hs (by rfl) (x_ld (off := 4) (p := (ad2 : Addr).add 4) (v := .int .i64 a0.C) (Rd.of_own (hw.up 0)) (one_ok a0) (one_off _ _ _)) [17] ?_; clear hs; intro a hs
   obtain ⟨t21, hx22, H⟩ := bind_some H
   refine go_call hs (by rfl) (rivetref03_reg.calls a0.C t21 _ hx22) ?_
   rintro e wd23 ⟨rfl, hw24⟩
   refine ⟨_, rfl, ?_⟩
   replace hw := hw.call hw24
   clear hs; intro a hs; replace hs := hs.rms [18]
   refine go_pvs 16 [16, 19] [(21, .bool (!t21))] hs ?_; clear hs; intro a hs
   refine go_end ?_
   exact hJ1 (!t21) _ _ hs.kx hw H
  ·replace H := ite_f H (ff (nt hb19))
   rw [hb19] at hs
   refine go_pvs 16 [16] [(21, .bool true)] hs ?_; clear hs; intro a hs
   refine go_end ?_
   exact hJ1 true _ _ hs.kx hw H
 ·replace H := ite_f H (ff (nt hb13))
  rw [hb13] at hs
  refine go_pvs 16 [10] [(21, .bool true)] hs ?_; clear hs; intro a hs
  refine go_end ?_
  exact hJ1 true _ _ hs.kx hw H

/-! rivet/rivetref03.Fit: function 19 -/
noncomputable def rivetref03_Fit.j5 (v91 : Sapi_Instr) : Option Sapi_Instr := some (v91 : Sapi_Instr)
noncomputable def rivetref03_Fit.j4 (v45 : Sapi_Instr) (a0 : Sapi_Instr) (v61 : Bool) : Option Sapi_Instr := (if v61 = true then rivetref03_Fit.j5 ({ ({ ({ v45 with Imm := w64 ((band .i64 a0.Imm 131071) - 65536) } : Sapi_Instr) with U := true } : Sapi_Instr) with Imm := band .i64 a0.Imm 65535 } : Sapi_Instr) else rivetref03_Fit.j5 ({ v45 with Imm := w64 ((band .i64 a0.Imm 131071) - 65536) } : Sapi_Instr))
noncomputable def rivetref03_Fit.j3 (a0 : Sapi_Instr) (v45 : Sapi_Instr) : Option Sapi_Instr := (if v45.Kind = 1 then some ({ v45 with C := band .i64 a0.C 15 } : Sapi_Instr) else (if ((w64 ((a0.Op.tmod 12) + 12)).tmod 12) = 0 then rivetref03_Fit.j4 v45 a0 a0.U else rivetref03_Fit.j4 v45 a0 false))
noncomputable def rivetref03_Fit.j2 (a0 : Sapi_Instr) (v35 : Sapi_Instr) : Option Sapi_Instr := (if a0.U = true then (if ((w64 ((a0.Op.tmod 12) + 12)).tmod 12) ≥ 8 then rivetref03_Fit.j3 a0 ({ v35 with U := decide (((w64 ((a0.Op.tmod 12) + 12)).tmod 12) ≤ 10) } : Sapi_Instr) else rivetref03_Fit.j3 a0 ({ v35 with U := false } : Sapi_Instr)) else rivetref03_Fit.j3 a0 ({ v35 with U := false } : Sapi_Instr))
noncomputable def rivetref03_Fit.j1 (a0 : Sapi_Instr) (v24 : Bool) : Option Sapi_Instr := (if v24 = true then (if ((w64 ((a0.Op.tmod 12) + 12)).tmod 12) = 0 then rivetref03_Fit.j2 a0 ({ (⟨w64 (1 + ((w64 ((a0.Kind.tmod 7) + 7)).tmod 7)), 0, band .i64 a0.A 15, 0, 0, 0, false⟩ : Sapi_Instr) with Op := (w64 ((a0.Op.tmod 12) + 12)).tmod 12 } : Sapi_Instr) else rivetref03_Fit.j2 a0 ({ ({ (⟨w64 (1 + ((w64 ((a0.Kind.tmod 7) + 7)).tmod 7)), 0, band .i64 a0.A 15, 0, 0, 0, false⟩ : Sapi_Instr) with Op := (w64 ((a0.Op.tmod 12) + 12)).tmod 12 } : Sapi_Instr) with B := band .i64 a0.B 15 } : Sapi_Instr)) else (if (w64 (1 + ((w64 ((a0.Kind.tmod 7) + 7)).tmod 7))) = 5 then rivetref03_Fit.j5 ({ ({ ({ (⟨w64 (1 + ((w64 ((a0.Kind.tmod 7) + 7)).tmod 7)), 0, band .i64 a0.A 15, 0, 0, 0, false⟩ : Sapi_Instr) with Op := band .i64 a0.Op 3 } : Sapi_Instr) with B := band .i64 a0.B 15 } : Sapi_Instr) with Imm := w64 ((band .i64 a0.Imm 1048575) - 524288) } : Sapi_Instr) else (if (w64 (1 + ((w64 ((a0.Kind.tmod 7) + 7)).tmod 7))) = 6 then rivetref03_Fit.j5 (⟨w64 (1 + ((w64 ((a0.Kind.tmod 7) + 7)).tmod 7)), band .i64 a0.Op 15, 0, 0, band .i64 a0.C 15, 0, a0.U⟩ : Sapi_Instr) else (if (w64 (1 + ((w64 ((a0.Kind.tmod 7) + 7)).tmod 7))) = 7 then rivetref03_Fit.j5 (⟨w64 (1 + ((w64 ((a0.Kind.tmod 7) + 7)).tmod 7)), band .i64 a0.Op 15, 0, 0, 0, w64 ((band .i64 a0.Imm 16777215) - 8388608), a0.U⟩ : Sapi_Instr) else rivetref03_Fit.j5 (⟨w64 (1 + ((w64 ((a0.Kind.tmod 7) + 7)).tmod 7)), 0, band .i64 a0.A 15, 0, 0, 0, false⟩ : Sapi_Instr)))))
noncomputable def rivetref03_Fit (a0 : Sapi_Instr) : Option Sapi_Instr := (if (w64 (1 + ((w64 ((a0.Kind.tmod 7) + 7)).tmod 7))) = 1 then rivetref03_Fit.j1 a0 true else rivetref03_Fit.j1 a0 ((w64 (1 + ((w64 ((a0.Kind.tmod 7) + 7)).tmod 7))) == 2))
set_option maxRecDepth 100000 in
set_option maxHeartbeats 4000000 in
theorem rivetref03_Fit.calls (a0 : Sapi_Instr) (r : Sapi_Instr) (w0 : World) (H : rivetref03_Fit a0 = some r) :
    Calls Try.prog 19 #[.agg (eSapi_Instr.enc a0).toArray] w0 fun e w' => e = .returned (.agg (eSapi_Instr.enc r).toArray) ∧ St [] w0 w' [] := by
 have hw : St [] w0 w0 [] := St.nil w0
 unfold rivetref03_Fit at H
 refine go_fn Try.func19 rfl Try.ntmps19 ?_; intro a hs
 refine go_sk fun K1 hK1 => ?_
 obtain ⟨ad2, wd3, hx4, hw⟩ := x_box1 (P := Try.prog) (elem := 45) (v := (Operand.tmp 0)) (ty := 0) hs hw eSapi_Instr a0 (by kernel_rfl)
 refine go_run hs (by rfl) hx4 [0] ?_; clear hs; intro a hs
 obtain ⟨ad6, wd7, hx8, hw⟩ := x_alloc1 (P := Try.prog) (elem := 45) (ty := 0) (z := .agg (eSapi_Instr.enc (⟨0, 0, 0, 0, 0, 0, false⟩ : Sapi_Instr)).toArray) hs hw eSapi_Instr (⟨0, 0, 0, 0, 0, 0, false⟩ : Sapi_Instr) (by kernel_rfl) (by kernel_rfl)
 refine go_run hs (by rfl) hx8 [] ?_; clear hs; intro a hs
 refine go_end (hK1 _ _ ?_)
 refine go_sk fun K10 hK10 => ?_
 refine go_pvs 1 [] [(5, .pointer (some ((ad2 : Addr).add 0)))] hs ?_; clear hs; intro a hs
 refine go_run hs (by rfl) (x_ld (off := 0) (p := (ad2 : Addr).add 0) (v := .int .i64 a0.Kind) (Rd.of_own (hw.up 1)) (one_ok a0) (one_off _ _ _)) [5] ?_; clear hs; intro a hs
 refine go_pvs 7 [6] [(10, .int .i64 (w64 (1 + ((w64 ((a0.Kind.tmod 7) + 7)).tmod 7)))), (11, .pointer (some ((ad2 : Addr).add 2)))] hs ?_; clear hs; intro a hs
 refine go_run hs (by rfl) (x_ld (off := 2) (p := (ad2 : Addr).add 2) (v := .int .i64 a0.A) (Rd.of_own (hw.up 1)) (one_ok a0) (one_off _ _ _)) [11] ?_; clear hs; intro a hs
 refine go_pvs 10 [10, 12] [(14, .agg (eSapi_Instr.enc (⟨w64 (1 + ((w64 ((a0.Kind.tmod 7) + 7)).tmod 7)), 0, band .i64 a0.A 15, 0, 0, 0, false⟩ : Sapi_Instr)).toArray)] hs ?_; clear hs; intro a hs
 obtain ⟨ad11, wd12, hx13, hw⟩ := x_alloc1 (P := Try.prog) (elem := 45) (ty := 0) (z := .agg (eSapi_Instr.enc (⟨0, 0, 0, 0, 0, 0, false⟩ : Sapi_Instr)).toArray) hs hw eSapi_Instr (⟨0, 0, 0, 0, 0, 0, false⟩ : Sapi_Instr) (by kernel_rfl) (by kernel_rfl)
 refine go_run hs (by rfl) hx13 [] ?_; clear hs; intro a hs
 obtain ⟨wd15, hx16, hw⟩ := x_put (P := Try.prog) (ty := 0) (t := 45) (x := (Operand.tmp 3)) (y := (Operand.tmp 14)) (off := 0) (p := ad11) (v := .agg (eSapi_Instr.enc (⟨w64 (1 + ((w64 ((a0.Kind.tmod 7) + 7)).tmod 7)), 0, band .i64 a0.A 15, 0, 0, 0, false⟩ : Sapi_Instr)).toArray) (vs := (eSapi_Instr.enc (⟨w64 (1 + ((w64 ((a0.Kind.tmod 7) + 7)).tmod 7)), 0, band .i64 a0.A 15, 0, 0, 0, false⟩ : Sapi_Instr))) (i := 0) (e' := ((⟨w64 (1 + ((w64 ((a0.Kind.tmod 7) + 7)).tmod 7)), 0, band .i64 a0.A 15, 0, 0, 0, false⟩ : Sapi_Instr) : Sapi_Instr)) hs hw rfl (one_ok (⟨0, 0, 0, 0, 0, 0, false⟩ : Sapi_Instr)).1 (one_ok (⟨0, 0, 0, 0, 0, 0, false⟩ : Sapi_Instr)).2 (by kernel_rfl) (one_at _ _) (by kernel_rfl) rfl (by kernel_rfl) (Nat.le_of_ble_eq_true rfl) (eSapi_Instr.one _) (by kernel_rfl)
 refine go_unit hs (by rfl) hx16 [14] ?_; clear hs; intro a hs
 replace hw : St [] w0 wd15 [own 45 eSapi_Instr (some ad11) 1 [(⟨w64 (1 + ((w64 ((a0.Kind.tmod 7) + 7)).tmod 7)), 0, band .i64 a0.A 15, 0, 0, 0, false⟩ : Sapi_Instr)], own 45 eSapi_Instr (some ad6) 1 [(⟨0, 0, 0, 0, 0, 0, false⟩ : Sapi_Instr)], own 45 eSapi_Instr (some ad2) 1 [a0]] := hw
 refine go_end (hK10 _ _ ?_)
 refine go_sk fun K17 hK17 => ?_
 refine go_pvs 1 [] [(15, .pointer (some ((ad2 : Addr).add 1)))] hs ?_; clear hs; intro a hs
 refine go_run hs (by rfl) (x_ld (off := 1) (p := (ad2 : Addr).add 1) (v := .int .i64 a0.Op) (Rd.of_own (hw.up 2)) (one_ok a0) (one_off _ _ _)) [15] ?_; clear hs; intro a hs
 refine go_pvs 6 [16] [(4, .int .i64 ((w64 ((a0.Op.tmod 12) + 12)).tmod 12))] hs ?_; clear hs; intro a hs
 refine go_end (hK17 _ _ ?_)
 refine go_seq_k fun K18 hK18 => ?_
 have hJ5 : ∀ (v91 : Sapi_Instr) (a : Act) (w : World), Slots a 111 [(2, .pointer (some ad6)), (3, .pointer (some ad11))] → St [] w0 w [own 45 eSapi_Instr (some ad11) 1 [v91], own 45 eSapi_Instr (some ad6) 1 [(⟨0, 0, 0, 0, 0, 0, false⟩ : Sapi_Instr)], own 45 eSapi_Instr (some ad2) 1 [a0]] → rivetref03_Fit.j5 v91 = some r → K18 a w := by
  intro v91 a w hs hw H
  unfold rivetref03_Fit.j5 at H
  refine hK18 _ _ ?_
  refine go_sk fun K92 hK92 => ?_
  refine go_run hs (by rfl) (x_lds (off := 0) (p := ad11) (cs := (eSapi_Instr.enc v91)) (Rd.of_own (hw.up 0)) (one_ok (⟨w64 (1 + ((w64 ((a0.Kind.tmod 7) + 7)).tmod 7)), 0, band .i64 a0.A 15, 0, 0, 0, false⟩ : Sapi_Instr)) (one_at _ _)) [3] ?_; clear hs; intro a hs
  replace hw := hw.up 1
  obtain ⟨wd93, hx94, hw⟩ := x_put (P := Try.prog) (ty := 0) (t := 45) (x := (Operand.tmp 2)) (y := (Operand.tmp 110)) (off := 0) (p := ad6) (v := .agg (eSapi_Instr.enc v91).toArray) (vs := (eSapi_Instr.enc v91)) (i := 0) (e' := ((v91 : Sapi_Instr) : Sapi_Instr)) hs hw rfl (one_ok (⟨0, 0, 0, 0, 0, 0, false⟩ : Sapi_Instr)).1 (one_ok (⟨0, 0, 0, 0, 0, 0, false⟩ : Sapi_Instr)).2 (by kernel_rfl) (one_at _ _) (by kernel_rfl) rfl (by kernel_rfl) (Nat.le_of_ble_eq_true rfl) (eSapi_Instr.one _) (by kernel_rfl)
  refine go_unit hs (by rfl) hx94 [110] ?_; clear hs; intro a hs
  replace hw : St [] w0 wd93 [own 45 eSapi_Instr (some ad6) 1 [(v91 : Sapi_Instr)], own 45 eSapi_Instr (some ad11) 1 [v91], own 45 eSapi_Instr (some ad2) 1 [a0]] := hw
  refine go_end (hK92 _ _ ?_)
  refine wp_ret ?_
  obtain rfl := Option.some.inj H
  replace hs : Slots a 111 [(2, .pointer (some ad6))] := hs.kx
  refine ret1g (L := [(2, .pointer (some ad6))]) (r1 := .cell 2 45) (v1 := .agg (eSapi_Instr.enc (v91 : Sapi_Instr)).toArray) hs (by kernel_rfl) ⟨_, (show lk 2 [(2, .pointer (some ad6))] = some (.pointer (some ad6)) by kernel_rfl), lv_row (E := eSapi_Instr) (x := (v91 : Sapi_Instr)) (by kernel_rfl) (by kernel_rfl) (Rd.of_own (hw.up 0))⟩ ?_
  exact ⟨rfl, hw.only 0⟩
 refine go_sk fun K19 hK19 => ?_
 refine go_pvs 1 [] [(20, .pointer (some ((ad11 : Addr).add 0)))] hs ?_; clear hs; intro a hs
 refine go_run hs (by rfl) (x_ld (off := 0) (p := (ad11 : Addr).add 0) (v := .int .i64 (w64 (1 + ((w64 ((a0.Kind.tmod 7) + 7)).tmod 7)))) (Rd.of_own (hw.up 0)) (one_ok (⟨w64 (1 + ((w64 ((a0.Kind.tmod 7) + 7)).tmod 7)), 0, band .i64 a0.A 15, 0, 0, 0, false⟩ : Sapi_Instr)) (one_off _ _ _)) [20] ?_; clear hs; intro a hs
 refine go_end (hK19 _ _ ?_)
 refine wp_block ?_
 refine go_seq_k fun K20 hK20 => ?_
 have hJ1 : ∀ (v24 : Bool) (a : Act) (w : World), Slots a 111 [(1, .pointer (some ad2)), (2, .pointer (some ad6)), (3, .pointer (some ad11)), (4, .int .i64 ((w64 ((a0.Op.tmod 12) + 12)).tmod 12)), (21, .int .i64 (w64 (1 + ((w64 ((a0.Kind.tmod 7) + 7)).tmod 7)))), (22, .bool v24)] → St [] w0 w [own 45 eSapi_Instr (some ad11) 1 [(⟨w64 (1 + ((w64 ((a0.Kind.tmod 7) + 7)).tmod 7)), 0, band .i64 a0.A 15, 0, 0, 0, false⟩ : Sapi_Instr)], own 45 eSapi_Instr (some ad6) 1 [(⟨0, 0, 0, 0, 0, 0, false⟩ : Sapi_Instr)], own 45 eSapi_Instr (some ad2) 1 [a0]] → rivetref03_Fit.j1 a0 v24 = some r → K20 a w := by
  intro v24 a w hs hw H
  unfold rivetref03_Fit.j1 at H
  refine hK20 _ _ ?_
  refine go_cond hs v24 (fun hc => ?_) fun hc => ?_
  ·replace H := ite_t H hc
   have hb25 := hc
   rw [hb25] at hs
   refine go_sk fun K26 hK26 => ?_
   refine go_pvs 2 [21, 22] [(25, .int .i64 ((w64 ((a0.Op.tmod 12) + 12)).tmod 12)), (26, .pointer (some ((ad11 : Addr).add 1)))] hs ?_; clear hs; intro a hs
   obtain ⟨wd27, hx28, hw⟩ := x_put (P := Try.prog) (ty := 0) (t := 3) (x := (Operand.tmp 26)) (y := (Operand.tmp 25)) (off := 1) (p := (ad11 : Addr).add 1) (v := .int .i64 ((w64 ((a0.Op.tmod 12) + 12)).tmod 12)) (vs := [.int .i64 ((w64 ((a0.Op.tmod 12) + 12)).tmod 12)]) (i := 0) (e' := (({ (⟨w64 (1 + ((w64 ((a0.Kind.tmod 7) + 7)).tmod 7)), 0, band .i64 a0.A 15, 0, 0, 0, false⟩ : Sapi_Instr) with Op := (w64 ((a0.Op.tmod 12) + 12)).tmod 12 } : Sapi_Instr) : Sapi_Instr)) hs hw rfl (one_ok (⟨w64 (1 + ((w64 ((a0.Kind.tmod 7) + 7)).tmod 7)), 0, band .i64 a0.A 15, 0, 0, 0, false⟩ : Sapi_Instr)).1 (one_ok (⟨w64 (1 + ((w64 ((a0.Kind.tmod 7) + 7)).tmod 7)), 0, band .i64 a0.A 15, 0, 0, 0, false⟩ : Sapi_Instr)).2 (by kernel_rfl) (one_off _ _ _) (by kernel_rfl) rfl (by kernel_rfl) (Nat.le_of_ble_eq_true rfl) (by simp [Value.oneCell']) (by kernel_rfl)
   refine go_unit hs (by rfl) hx28 [25, 26] ?_; clear hs; intro a hs
   replace hw : St [] w0 wd27 [own 45 eSapi_Instr (some ad11) 1 [({ (⟨w64 (1 + ((w64 ((a0.Kind.tmod 7) + 7)).tmod 7)), 0, band .i64 a0.A 15, 0, 0, 0, false⟩ : Sapi_Instr) with Op := (w64 ((a0.Op.tmod 12) + 12)).tmod 12 } : Sapi_Instr)], own 45 eSapi_Instr (some ad6) 1 [(⟨0, 0, 0, 0, 0, 0, false⟩ : Sapi_Instr)], own 45 eSapi_Instr (some ad2) 1 [a0]] := hw
   refine go_end (hK26 _ _ ?_)
   refine go_seq_k fun K29 hK29 => ?_
   have hJ2 : ∀ (v35 : Sapi_Instr) (a : Act) (w : World), Slots a 111 [(1, .pointer (some ad2)), (2, .pointer (some ad6)), (3, .pointer (some ad11)), (4, .int .i64 ((w64 ((a0.Op.tmod 12) + 12)).tmod 12))] → St [] w0 w [own 45 eSapi_Instr (some ad11) 1 [v35], own 45 eSapi_Instr (some ad6) 1 [(⟨0, 0, 0, 0, 0, 0, false⟩ : Sapi_Instr)], own 45 eSapi_Instr (some ad2) 1 [a0]] → rivetref03_Fit.j2 a0 v35 = some r → K29 a w := by
    intro v35 a w hs hw H
    unfold rivetref03_Fit.j2 at H
    refine hK29 _ _ ?_
    refine go_seq_k fun K36 hK36 => ?_
    have hJ3 : ∀ (v45 : Sapi_Instr) (a : Act) (w : World), Slots a 111 [(1, .pointer (some ad2)), (2, .pointer (some ad6)), (3, .pointer (some ad11)), (4, .int .i64 ((w64 ((a0.Op.tmod 12) + 12)).tmod 12))] → St [] w0 w [own 45 eSapi_Instr (some ad11) 1 [v45], own 45 eSapi_Instr (some ad6) 1 [(⟨0, 0, 0, 0, 0, 0, false⟩ : Sapi_Instr)], own 45 eSapi_Instr (some ad2) 1 [a0]] → rivetref03_Fit.j3 a0 v45 = some r → K36 a w := by
     intro v45 a w hs hw H
     unfold rivetref03_Fit.j3 at H
     refine hK36 _ _ ?_
     refine go_seq_k fun K46 hK46 => ?_
     refine go_sk fun K47 hK47 => ?_
     refine go_pvs 1 [] [(44, .pointer (some ((ad11 : Addr).add 0)))] hs ?_; clear hs; intro a hs
     refine go_run hs (by rfl) (x_ld (off := 0) (p := (ad11 : Addr).add 0) (v := .int .i64 v45.Kind) (Rd.of_own (hw.up 0)) (one_ok ({ (⟨w64 (1 + ((w64 ((a0.Kind.tmod 7) + 7)).tmod 7)), 0, band .i64 a0.A 15, 0, 0, 0, false⟩ : Sapi_Instr) with Op := (w64 ((a0.Op.tmod 12) + 12)).tmod 12 } : Sapi_Instr)) (one_off _ _ _)) [44] ?_; clear hs; intro a hs
     refine go_pvs 3 [45] [(46, .bool (v45.Kind == 1))] hs ?_; clear hs; intro a hs
     refine go_end (hK47 _ _ ?_)
     refine go_cond hs (v45.Kind == 1) (fun hc => ?_) fun hc => ?_
     ·replace H := ite_t H (beq_iff_eq.1 hc)
      have hb48 := hc
      rw [hb48] at hs
      refine go_sk fun K49 hK49 => ?_
      refine go_pvs 1 [1, 4, 46] [(47, .pointer (some ((ad2 : Addr).add 4)))] hs ?_; clear hs; intro a hs
      refine go_run hs (by rfl) (x_ld (off := 4) (p := (ad2 : Addr).add 4) (v := .int .i64 a0.C) (Rd.of_own (hw.up 2)) (one_ok a0) (one_off _ _ _)) [47] ?_; clear hs; intro a hs
      refine go_pvs 4 [48] [(49, .int .i64 (band .i64 a0.C 15)), (50, .pointer (some ((ad11 : Addr).add 4)))] hs ?_; clear hs; intro a hs
      obtain ⟨wd50, hx51, hw⟩ := x_put (P := Try.prog) (ty := 0) (t := 3) (x := (Operand.tmp 50)) (y := (Operand.tmp 49)) (off := 4) (p := (ad11 : Addr).add 4) (v := .int .i64 (band .i64 a0.C 15)) (vs := [.int .i64 (band .i64 a0.C 15)]) (i := 0) (e' := (({ v45 with C := band .i64 a0.C 15 } : Sapi_Instr) : Sapi_Instr)) hs hw rfl (one_ok ({ (⟨w64 (1 + ((w64 ((a0.Kind.tmod 7) + 7)).tmod 7)), 0, band .i64 a0.A 15, 0, 0, 0, false⟩ : Sapi_Instr) with Op := (w64 ((a0.Op.tmod 12) + 12)).tmod 12 } : Sapi_Instr)).1 (one_ok ({ (⟨w64 (1 + ((w64 ((a0.Kind.tmod 7) + 7)).tmod 7)), 0, band .i64 a0.A 15, 0, 0, 0, false⟩ : Sapi_Instr) with Op := (w64 ((a0.Op.tmod 12) + 12)).tmod 12 } : Sapi_Instr)).2 (by kernel_rfl) (one_off _ _ _) (by kernel_rfl) rfl (by kernel_rfl) (Nat.le_of_ble_eq_true rfl) (by simp [Value.oneCell']) (by kernel_rfl)
      refine go_unit hs (by rfl) hx51 [49, 50] ?_; clear hs; intro a hs
      replace hw : St [] w0 wd50 [own 45 eSapi_Instr (some ad11) 1 [({ v45 with C := band .i64 a0.C 15 } : Sapi_Instr)], own 45 eSapi_Instr (some ad6) 1 [(⟨0, 0, 0, 0, 0, 0, false⟩ : Sapi_Instr)], own 45 eSapi_Instr (some ad2) 1 [a0]] := hw
      refine go_end (hK49 _ _ ?_)
      refine go_sk fun K52 hK52 => ?_
      refine go_run hs (by rfl) (x_lds (off := 0) (p := ad11) (cs := (eSapi_Instr.enc ({ v45 with C := band .i64 a0.C 15 } : Sapi_Instr))) (Rd.of_own (hw.up 0)) (one_ok ({ v45 with C := band .i64 a0.C 15 } : Sapi_Instr)) (one_at _ _)) [3] ?_; clear hs; intro a hs
      replace hw := hw.up 1
      obtain ⟨wd53, hx54, hw⟩ := x_put (P := Try.prog) (ty := 0) (t := 45) (x := (Operand.tmp 2)) (y := (Operand.tmp 51)) (off := 0) (p := ad6) (v := .agg (eSapi_Instr.enc ({ v45 with C := band .i64 a0.C 15 } : Sapi_Instr)).toArray) (vs := (eSapi_Instr.enc ({ v45 with C := band .i64 a0.C 15 } : Sapi_Instr))) (i := 0) (e' := (({ v45 with C := band .i64 a0.C 15 } : Sapi_Instr) : Sapi_Instr)) hs hw rfl (one_ok (⟨0, 0, 0, 0, 0, 0, false⟩ : Sapi_Instr)).1 (one_ok (⟨0, 0, 0, 0, 0, 0, false⟩ : Sapi_Instr)).2 (by kernel_rfl) (one_at _ _) (by kernel_rfl) rfl (by kernel_rfl) (Nat.le_of_ble_eq_true rfl) (eSapi_Instr.one _) (by kernel_rfl)
      refine go_unit hs (by rfl) hx54 [51] ?_; clear hs; intro a hs
      replace hw : St [] w0 wd53 [own 45 eSapi_Instr (some ad6) 1 [({ v45 with C := band .i64 a0.C 15 } : Sapi_Instr)], own 45 eSapi_Instr (some ad11) 1 [({ v45 with C := band .i64 a0.C 15 } : Sapi_Instr)], own 45 eSapi_Instr (some ad2) 1 [a0]] := hw
      refine go_end (hK52 _ _ ?_)
      refine wp_ret ?_
      refine th_ret ?_
      refine ib_ret ?_
      refine th_ret ?_
      obtain rfl := Option.some.inj H
      replace hs : Slots a 111 [(2, .pointer (some ad6))] := hs.kx
      refine ret1g (L := [(2, .pointer (some ad6))]) (r1 := .cell 2 45) (v1 := .agg (eSapi_Instr.enc ({ v45 with C := band .i64 a0.C 15 } : Sapi_Instr)).toArray) hs (by kernel_rfl) ⟨_, (show lk 2 [(2, .pointer (some ad6))] = some (.pointer (some ad6)) by kernel_rfl), lv_row (E := eSapi_Instr) (x := ({ v45 with C := band .i64 a0.C 15 } : Sapi_Instr)) (by kernel_rfl) (by kernel_rfl) (Rd.of_own (hw.up 0))⟩ ?_
      exact ⟨rfl, hw.only 0⟩
     ·replace H := ite_f H (beq_eq_false_iff_ne.1 hc)
      have hb55 := hc
      rw [hb55] at hs
      refine wp_skip ?_
      refine hK46 _ _ ?_
      refine go_sk fun K56 hK56 => ?_
      refine go_pvs 1 [46] [(52, .pointer (some ((ad2 : Addr).add 5)))] hs ?_; clear hs; intro a hs
      refine go_run hs (by rfl) (x_ld (off := 5) (p := (ad2 : Addr).add 5) (v := .int .i64 a0.Imm) (Rd.of_own (hw.up 2)) (one_ok a0) (one_off _ _ _)) [52] ?_; clear hs; intro a hs
      refine go_pvs 5 [53] [(55, .int .i64 (w64 ((band .i64 a0.Imm 131071) - 65536))), (56, .pointer (some ((ad11 : Addr).add 5)))] hs ?_; clear hs; intro a hs
      obtain ⟨wd57, hx58, hw⟩ := x_put (P := Try.prog) (ty := 0) (t := 3) (x := (Operand.tmp 56)) (y := (Operand.tmp 55)) (off := 5) (p := (ad11 : Addr).add 5) (v := .int .i64 (w64 ((band .i64 a0.Imm 131071) - 65536))) (vs := [.int .i64 (w64 ((band .i64 a0.Imm 131071) - 65536))]) (i := 0) (e' := (({ v45 with Imm := w64 ((band .i64 a0.Imm 131071) - 65536) } : Sapi_Instr) : Sapi_Instr)) hs hw rfl (one_ok ({ (⟨w64 (1 + ((w64 ((a0.Kind.tmod 7) + 7)).tmod 7)), 0, band .i64 a0.A 15, 0, 0, 0, false⟩ : Sapi_Instr) with Op := (w64 ((a0.Op.tmod 12) + 12)).tmod 12 } : Sapi_Instr)).1 (one_ok ({ (⟨w64 (1 + ((w64 ((a0.Kind.tmod 7) + 7)).tmod 7)), 0, band .i64 a0.A 15, 0, 0, 0, false⟩ : Sapi_Instr) with Op := (w64 ((a0.Op.tmod 12) + 12)).tmod 12 } : Sapi_Instr)).2 (by kernel_rfl) (one_off _ _ _) (by kernel_rfl) rfl (by kernel_rfl) (Nat.le_of_ble_eq_true rfl) (by simp [Value.oneCell']) (by kernel_rfl)
      refine go_unit hs (by rfl) hx58 [55, 56] ?_; clear hs; intro a hs
      replace hw : St [] w0 wd57 [own 45 eSapi_Instr (some ad11) 1 [({ v45 with Imm := w64 ((band .i64 a0.Imm 131071) - 65536) } : Sapi_Instr)], own 45 eSapi_Instr (some ad6) 1 [(⟨0, 0, 0, 0, 0, 0, false⟩ : Sapi_Instr)], own 45 eSapi_Instr (some ad2) 1 [a0]] := hw
      refine go_end (hK56 _ _ ?_)
      refine go_seq_k fun K59 hK59 => ?_
      have hJ4 : ∀ (v61 : Bool) (a : Act) (w : World), Slots a 111 [(1, .pointer (some ad2)), (2, .pointer (some ad6)), (3, .pointer (some ad11)), (62, .bool v61)] → St [] w0 w [own 45 eSapi_Instr (some ad11) 1 [({ v45 with Imm := w64 ((band .i64 a0.Imm 131071) - 65536) } : Sapi_Instr)], own 45 eSapi_Instr (some ad6) 1 [(⟨0, 0, 0, 0, 0, 0, false⟩ : Sapi_Instr)], own 45 eSapi_Instr (some ad2) 1 [a0]] → rivetref03_Fit.j4 v45 a0 v61 = some r → K59 a w := by
       intro v61 a w hs hw H
       unfold rivetref03_Fit.j4 at H
       refine hK59 _ _ ?_
       refine go_cond hs v61 (fun hc => ?_) fun hc => ?_
       ·replace H := ite_t H hc
        have hb62 := hc
        rw [hb62] at hs
        refine go_sk fun K63 hK63 => ?_
        refine go_pvs 1 [62] [(63, .pointer (some ((ad11 : Addr).add 6)))] hs ?_; clear hs; intro a hs
        obtain ⟨wd64, hx65, hw⟩ := x_put (P := Try.prog) (ty := 0) (t := 4) (x := (Operand.tmp 63)) (y := (Operand.const (Value.bool true))) (off := 6) (p := (ad11 : Addr).add 6) (v := .bool true) (vs := [.bool true]) (i := 0) (e' := (({ ({ v45 with Imm := w64 ((band .i64 a0.Imm 131071) - 65536) } : Sapi_Instr) with U := true } : Sapi_Instr) : Sapi_Instr)) hs hw rfl (one_ok ({ v45 with Imm := w64 ((band .i64 a0.Imm 131071) - 65536) } : Sapi_Instr)).1 (one_ok ({ v45 with Imm := w64 ((band .i64 a0.Imm 131071) - 65536) } : Sapi_Instr)).2 (by kernel_rfl) (one_off _ _ _) (by kernel_rfl) rfl (by kernel_rfl) (Nat.le_of_ble_eq_true rfl) (by simp [Value.oneCell']) (by kernel_rfl)
        refine go_unit hs (by rfl) hx65 [63] ?_; clear hs; intro a hs
        replace hw : St [] w0 wd64 [own 45 eSapi_Instr (some ad11) 1 [({ ({ v45 with Imm := w64 ((band .i64 a0.Imm 131071) - 65536) } : Sapi_Instr) with U := true } : Sapi_Instr)], own 45 eSapi_Instr (some ad6) 1 [(⟨0, 0, 0, 0, 0, 0, false⟩ : Sapi_Instr)], own 45 eSapi_Instr (some ad2) 1 [a0]] := hw
        refine go_end (hK63 _ _ ?_)
        refine go_region ?_
        refine go_pvs 1 [1] [(64, .pointer (some ((ad2 : Addr).add 5)))] hs ?_; clear hs; intro a hs
        refine go_run hs (by rfl) (x_ld (off := 5) (p := (ad2 : Addr).add 5) (v := .int .i64 a0.Imm) (Rd.of_own (hw.up 2)) (one_ok a0) (one_off _ _ _)) [64] ?_; clear hs; intro a hs
        refine go_pvs 4 [65] [(66, .int .i64 (band .i64 a0.Imm 65535)), (67, .pointer (some ((ad11 : Addr).add 5)))] hs ?_; clear hs; intro a hs
        obtain ⟨wd66, hx67, hw⟩ := x_put (P := Try.prog) (ty := 0) (t := 3) (x := (Operand.tmp 67)) (y := (Operand.tmp 66)) (off := 5) (p := (ad11 : Addr).add 5) (v := .int .i64 (band .i64 a0.Imm 65535)) (vs := [.int .i64 (band .i64 a0.Imm 65535)]) (i := 0) (e' := (({ ({ ({ v45 with Imm := w64 ((band .i64 a0.Imm 131071) - 65536) } : Sapi_Instr) with U := true } : Sapi_Instr) with Imm := band .i64 a0.Imm 65535 } : Sapi_Instr) : Sapi_Instr)) hs hw rfl (one_ok ({ ({ v45 with Imm := w64 ((band .i64 a0.Imm 131071) - 65536) } : Sapi_Instr) with U := true } : Sapi_Instr)).1 (one_ok ({ ({ v45 with Imm := w64 ((band .i64 a0.Imm 131071) - 65536) } : Sapi_Instr) with U := true } : Sapi_Instr)).2 (by kernel_rfl) (one_off _ _ _) (by kernel_rfl) rfl (by kernel_rfl) (Nat.le_of_ble_eq_true rfl) (by simp [Value.oneCell']) (by kernel_rfl)
        refine go_unit hs (by rfl) hx67 [66, 67] ?_; clear hs; intro a hs
        replace hw : St [] w0 wd66 [own 45 eSapi_Instr (some ad11) 1 [({ ({ ({ v45 with Imm := w64 ((band .i64 a0.Imm 131071) - 65536) } : Sapi_Instr) with U := true } : Sapi_Instr) with Imm := band .i64 a0.Imm 65535 } : Sapi_Instr)], own 45 eSapi_Instr (some ad6) 1 [(⟨0, 0, 0, 0, 0, 0, false⟩ : Sapi_Instr)], own 45 eSapi_Instr (some ad2) 1 [a0]] := hw
        refine go_end ?_
        refine ib_norm ?_
        replace hw := hw.up 2
        replace hw := hw.up 2
        replace hw := hw.up 2
        exact hJ5 ({ ({ ({ v45 with Imm := w64 ((band .i64 a0.Imm 131071) - 65536) } : Sapi_Instr) with U := true } : Sapi_Instr) with Imm := band .i64 a0.Imm 65535 } : Sapi_Instr) _ _ hs.kx hw H
       ·replace H := ite_f H (ff hc)
        have hb68 := hc
        rw [hb68] at hs
        refine wp_skip ?_
        refine ib_norm ?_
        replace hw := hw.up 2
        replace hw := hw.up 2
        replace hw := hw.up 2
        exact hJ5 ({ v45 with Imm := w64 ((band .i64 a0.Imm 131071) - 65536) } : Sapi_Instr) _ _ hs.kx hw H
      refine go_region ?_
      refine go_pvs 3 [4] [(59, .bool (((w64 ((a0.Op.tmod 12) + 12)).tmod 12) == 0))] hs ?_; clear hs; intro a hs
      cases hb60 : (((w64 ((a0.Op.tmod 12) + 12)).tmod 12) == 0)
      ·replace H := ite_f H (beq_eq_false_iff_ne.1 hb60)
       rw [hb60] at hs
       refine go_pvs 6 [59] [(62, .bool false)] hs ?_; clear hs; intro a hs
       refine go_end ?_
       replace hw := hw.up 2
       replace hw := hw.up 2
       replace hw := hw.up 2
       exact hJ4 false _ _ hs.kx hw H
      ·replace H := ite_t H (beq_iff_eq.1 hb60)
       rw [hb60] at hs
       refine go_pvs 4 [] [(60, .pointer (some ((ad2 : Addr).add 6)))] hs ?_; clear hs; intro a hs
       refine go_run hs (by rfl) (x_ld (off := 6) (p := (ad2 : Addr).add 6) (v := .bool a0.U) (Rd.of_own (hw.up 2)) (one_ok a0) (one_off _ _ _)) [60] ?_; clear hs; intro a hs
       refine go_pvs 6 [59, 61] [(62, .bool a0.U)] hs ?_; clear hs; intro a hs
       refine go_end ?_
       replace hw := hw.up 2
       replace hw := hw.up 2
       replace hw := hw.up 2
       exact hJ4 a0.U _ _ hs.kx hw H
    refine go_region ?_
    refine go_pvs 1 [] [(33, .pointer (some ((ad2 : Addr).add 6)))] hs ?_; clear hs; intro a hs
    refine go_run hs (by rfl) (x_ld (off := 6) (p := (ad2 : Addr).add 6) (v := .bool a0.U) (Rd.of_own (hw.up 2)) (one_ok a0) (one_off _ _ _)) [33] ?_; clear hs; intro a hs
    refine go_pvs 3 [34] [(35, .bool a0.U)] hs ?_; clear hs; intro a hs
    cases hb37 : a0.U
    ·replace H := ite_f H (ff hb37)
     rw [hb37] at hs
     refine go_pvs 11 [35] [(42, .bool false), (43, .pointer (some ((ad11 : Addr).add 6)))] hs ?_; clear hs; intro a hs
     obtain ⟨wd38, hx39, hw⟩ := x_put (P := Try.prog) (ty := 0) (t := 4) (x := (Operand.tmp 43)) (y := (Operand.tmp 42)) (off := 6) (p := (ad11 : Addr).add 6) (v := .bool false) (vs := [.bool false]) (i := 0) (e' := (({ v35 with U := false } : Sapi_Instr) : Sapi_Instr)) hs hw rfl (one_ok ({ (⟨w64 (1 + ((w64 ((a0.Kind.tmod 7) + 7)).tmod 7)), 0, band .i64 a0.A 15, 0, 0, 0, false⟩ : Sapi_Instr) with Op := (w64 ((a0.Op.tmod 12) + 12)).tmod 12 } : Sapi_Instr)).1 (one_ok ({ (⟨w64 (1 + ((w64 ((a0.Kind.tmod 7) + 7)).tmod 7)), 0, band .i64 a0.A 15, 0, 0, 0, false⟩ : Sapi_Instr) with Op := (w64 ((a0.Op.tmod 12) + 12)).tmod 12 } : Sapi_Instr)).2 (by kernel_rfl) (one_off _ _ _) (by kernel_rfl) rfl (by kernel_rfl) (Nat.le_of_ble_eq_true rfl) (by simp [Value.oneCell']) (by kernel_rfl)
     refine go_unit hs (by rfl) hx39 [42, 43] ?_; clear hs; intro a hs
     replace hw : St [] w0 wd38 [own 45 eSapi_Instr (some ad11) 1 [({ v35 with U := false } : Sapi_Instr)], own 45 eSapi_Instr (some ad6) 1 [(⟨0, 0, 0, 0, 0, 0, false⟩ : Sapi_Instr)], own 45 eSapi_Instr (some ad2) 1 [a0]] := hw
     refine go_end ?_
     replace hw := hw.up 2
     replace hw := hw.up 2
     replace hw := hw.up 2
     exact hJ3 ({ v35 with U := false } : Sapi_Instr) _ _ hs.kx hw H
    ·replace H := ite_t H hb37
     rw [hb37] at hs
     refine go_pvs 7 [35] [(39, .bool (decide (((w64 ((a0.Op.tmod 12) + 12)).tmod 12) ≥ 8)))] hs ?_; clear hs; intro a hs
     cases hb40 : (decide (((w64 ((a0.Op.tmod 12) + 12)).tmod 12) ≥ 8))
     ·replace H := ite_f H (of_decide_eq_false hb40)
      rw [hb40] at hs
      refine go_pvs 11 [39] [(42, .bool false), (43, .pointer (some ((ad11 : Addr).add 6)))] hs ?_; clear hs; intro a hs
      obtain ⟨wd41, hx42, hw⟩ := x_put (P := Try.prog) (ty := 0) (t := 4) (x := (Operand.tmp 43)) (y := (Operand.tmp 42)) (off := 6) (p := (ad11 : Addr).add 6) (v := .bool false) (vs := [.bool false]) (i := 0) (e' := (({ v35 with U := false } : Sapi_Instr) : Sapi_Instr)) hs hw rfl (one_ok ({ (⟨w64 (1 + ((w64 ((a0.Kind.tmod 7) + 7)).tmod 7)), 0, band .i64 a0.A 15, 0, 0, 0, false⟩ : Sapi_Instr) with Op := (w64 ((a0.Op.tmod 12) + 12)).tmod 12 } : Sapi_Instr)).1 (one_ok ({ (⟨w64 (1 + ((w64 ((a0.Kind.tmod 7) + 7)).tmod 7)), 0, band .i64 a0.A 15, 0, 0, 0, false⟩ : Sapi_Instr) with Op := (w64 ((a0.Op.tmod 12) + 12)).tmod 12 } : Sapi_Instr)).2 (by kernel_rfl) (one_off _ _ _) (by kernel_rfl) rfl (by kernel_rfl) (Nat.le_of_ble_eq_true rfl) (by simp [Value.oneCell']) (by kernel_rfl)
      refine go_unit hs (by rfl) hx42 [42, 43] ?_; clear hs; intro a hs
      replace hw : St [] w0 wd41 [own 45 eSapi_Instr (some ad11) 1 [({ v35 with U := false } : Sapi_Instr)], own 45 eSapi_Instr (some ad6) 1 [(⟨0, 0, 0, 0, 0, 0, false⟩ : Sapi_Instr)], own 45 eSapi_Instr (some ad2) 1 [a0]] := hw
      refine go_end ?_
      replace hw := hw.up 2
      replace hw := hw.up 2
      replace hw := hw.up 2
      exact hJ3 ({ v35 with U := false } : Sapi_Instr) _ _ hs.kx hw H
     ·replace H := ite_t H (of_decide_eq_true hb40)
      rw [hb40] at hs
      refine go_pvs 11 [39] [(42, .bool (decide (((w64 ((a0.Op.tmod 12) + 12)).tmod 12) ≤ 10))), (43, .pointer (some ((ad11 : Addr).add 6)))] hs ?_; clear hs; intro a hs
      obtain ⟨wd43, hx44, hw⟩ := x_put (P := Try.prog) (ty := 0) (t := 4) (x := (Operand.tmp 43)) (y := (Operand.tmp 42)) (off := 6) (p := (ad11 : Addr).add 6) (v := .bool (decide (((w64 ((a0.Op.tmod 12) + 12)).tmod 12) ≤ 10))) (vs := [.bool (decide (((w64 ((a0.Op.tmod 12) + 12)).tmod 12) ≤ 10))]) (i := 0) (e' := (({ v35 with U := decide (((w64 ((a0.Op.tmod 12) + 12)).tmod 12) ≤ 10) } : Sapi_Instr) : Sapi_Instr)) hs hw rfl (one_ok ({ (⟨w64 (1 + ((w64 ((a0.Kind.tmod 7) + 7)).tmod 7)), 0, band .i64 a0.A 15, 0, 0, 0, false⟩ : Sapi_Instr) with Op := (w64 ((a0.Op.tmod 12) + 12)).tmod 12 } : Sapi_Instr)).1 (one_ok ({ (⟨w64 (1 + ((w64 ((a0.Kind.tmod 7) + 7)).tmod 7)), 0, band .i64 a0.A 15, 0, 0, 0, false⟩ : Sapi_Instr) with Op := (w64 ((a0.Op.tmod 12) + 12)).tmod 12 } : Sapi_Instr)).2 (by kernel_rfl) (one_off _ _ _) (by kernel_rfl) rfl (by kernel_rfl) (Nat.le_of_ble_eq_true rfl) (by simp [Value.oneCell']) (by kernel_rfl)
      refine go_unit hs (by rfl) hx44 [42, 43] ?_; clear hs; intro a hs
      replace hw : St [] w0 wd43 [own 45 eSapi_Instr (some ad11) 1 [({ v35 with U := decide (((w64 ((a0.Op.tmod 12) + 12)).tmod 12) ≤ 10) } : Sapi_Instr)], own 45 eSapi_Instr (some ad6) 1 [(⟨0, 0, 0, 0, 0, 0, false⟩ : Sapi_Instr)], own 45 eSapi_Instr (some ad2) 1 [a0]] := hw
      refine go_end ?_
      replace hw := hw.up 2
      replace hw := hw.up 2
      replace hw := hw.up 2
      exact hJ3 ({ v35 with U := decide (((w64 ((a0.Op.tmod 12) + 12)).tmod 12) ≤ 10) } : Sapi_Instr) _ _ hs.kx hw H
   refine go_sp [] [(28, .bool (((w64 ((a0.Op.tmod 12) + 12)).tmod 12) != 0))] hs ?_; clear hs; intro a hs
   refine go_cond hs (((w64 ((a0.Op.tmod 12) + 12)).tmod 12) != 0) (fun hc => ?_) fun hc => ?_
   ·replace H := ite_f H (bne_iff_ne.1 hc)
    have hb31 := hc
    rw [hb31] at hs
    refine go_region ?_
    refine go_pvs 1 [28] [(29, .pointer (some ((ad2 : Addr).add 3)))] hs ?_; clear hs; intro a hs
    refine go_run hs (by rfl) (x_ld (off := 3) (p := (ad2 : Addr).add 3) (v := .int .i64 a0.B) (Rd.of_own (hw.up 2)) (one_ok a0) (one_off _ _ _)) [29] ?_; clear hs; intro a hs
    refine go_pvs 4 [30] [(31, .int .i64 (band .i64 a0.B 15)), (32, .pointer (some ((ad11 : Addr).add 3)))] hs ?_; clear hs; intro a hs
    obtain ⟨wd32, hx33, hw⟩ := x_put (P := Try.prog) (ty := 0) (t := 3) (x := (Operand.tmp 32)) (y := (Operand.tmp 31)) (off := 3) (p := (ad11 : Addr).add 3) (v := .int .i64 (band .i64 a0.B 15)) (vs := [.int .i64 (band .i64 a0.B 15)]) (i := 0) (e' := (({ ({ (⟨w64 (1 + ((w64 ((a0.Kind.tmod 7) + 7)).tmod 7)), 0, band .i64 a0.A 15, 0, 0, 0, false⟩ : Sapi_Instr) with Op := (w64 ((a0.Op.tmod 12) + 12)).tmod 12 } : Sapi_Instr) with B := band .i64 a0.B 15 } : Sapi_Instr) : Sapi_Instr)) hs hw rfl (one_ok ({ (⟨w64 (1 + ((w64 ((a0.Kind.tmod 7) + 7)).tmod 7)), 0, band .i64 a0.A 15, 0, 0, 0, false⟩ : Sapi_Instr) with Op := (w64 ((a0.Op.tmod 12) + 12)).tmod 12 } : Sapi_Instr)).1 (one_ok ({ (⟨w64 (1 + ((w64 ((a0.Kind.tmod 7) + 7)).tmod 7)), 0, band .i64 a0.A 15, 0, 0, 0, false⟩ : Sapi_Instr) with Op := (w64 ((a0.Op.tmod 12) + 12)).tmod 12 } : Sapi_Instr)).2 (by kernel_rfl) (one_off _ _ _) (by kernel_rfl) rfl (by kernel_rfl) (Nat.le_of_ble_eq_true rfl) (by simp [Value.oneCell']) (by kernel_rfl)
    refine go_unit hs (by rfl) hx33 [31, 32] ?_; clear hs; intro a hs
    replace hw : St [] w0 wd32 [own 45 eSapi_Instr (some ad11) 1 [({ ({ (⟨w64 (1 + ((w64 ((a0.Kind.tmod 7) + 7)).tmod 7)), 0, band .i64 a0.A 15, 0, 0, 0, false⟩ : Sapi_Instr) with Op := (w64 ((a0.Op.tmod 12) + 12)).tmod 12 } : Sapi_Instr) with B := band .i64 a0.B 15 } : Sapi_Instr)], own 45 eSapi_Instr (some ad6) 1 [(⟨0, 0, 0, 0, 0, 0, false⟩ : Sapi_Instr)], own 45 eSapi_Instr (some ad2) 1 [a0]] := hw
    refine go_end ?_
    replace hw := hw.up 2
    replace hw := hw.up 2
    replace hw := hw.up 2
    exact hJ2 ({ ({ (⟨w64 (1 + ((w64 ((a0.Kind.tmod 7) + 7)).tmod 7)), 0, band .i64 a0.A 15, 0, 0, 0, false⟩ : Sapi_Instr) with Op := (w64 ((a0.Op.tmod 12) + 12)).tmod 12 } : Sapi_Instr) with B := band .i64 a0.B 15 } : Sapi_Instr) _ _ hs.kx hw H
   ·replace H := ite_t H (bne_eq_false_iff_eq.1 hc)
    have hb34 := hc
    rw [hb34] at hs
    refine wp_skip ?_
    replace hw := hw.up 2
    replace hw := hw.up 2
    replace hw := hw.up 2
    exact hJ2 ({ (⟨w64 (1 + ((w64 ((a0.Kind.tmod 7) + 7)).tmod 7)), 0, band .i64 a0.A 15, 0, 0, 0, false⟩ : Sapi_Instr) with Op := (w64 ((a0.Op.tmod 12) + 12)).tmod 12 } : Sapi_Instr) _ _ hs.kx hw H
  ·replace H := ite_f H (ff hc)
   have hb69 := hc
   rw [hb69] at hs
   refine go_sp [4, 22] [(68, .bool ((w64 (1 + ((w64 ((a0.Kind.tmod 7) + 7)).tmod 7))) == 5))] hs ?_; clear hs; intro a hs
   refine go_cond hs ((w64 (1 + ((w64 ((a0.Kind.tmod 7) + 7)).tmod 7))) == 5) (fun hc => ?_) fun hc => ?_
   ·replace H := ite_t H (beq_iff_eq.1 hc)
    have hb71 := hc
    rw [hb71] at hs
    refine go_sk fun K72 hK72 => ?_
    refine go_pvs 1 [21, 68] [(70, .pointer (some ((ad2 : Addr).add 1)))] hs ?_; clear hs; intro a hs
    refine go_run hs (by rfl) (x_ld (off := 1) (p := (ad2 : Addr).add 1) (v := .int .i64 a0.Op) (Rd.of_own (hw.up 2)) (one_ok a0) (one_off _ _ _)) [70] ?_; clear hs; intro a hs
    refine go_pvs 4 [71] [(72, .int .i64 (band .i64 a0.Op 3)), (73, .pointer (some ((ad11 : Addr).add 1)))] hs ?_; clear hs; intro a hs
    obtain ⟨wd73, hx74, hw⟩ := x_put (P := Try.prog) (ty := 0) (t := 3) (x := (Operand.tmp 73)) (y := (Operand.tmp 72)) (off := 1) (p := (ad11 : Addr).add 1) (v := .int .i64 (band .i64 a0.Op 3)) (vs := [.int .i64 (band .i64 a0.Op 3)]) (i := 0) (e' := (({ (⟨w64 (1 + ((w64 ((a0.Kind.tmod 7) + 7)).tmod 7)), 0, band .i64 a0.A 15, 0, 0, 0, false⟩ : Sapi_Instr) with Op := band .i64 a0.Op 3 } : Sapi_Instr) : Sapi_Instr)) hs hw rfl (one_ok (⟨w64 (1 + ((w64 ((a0.Kind.tmod 7) + 7)).tmod 7)), 0, band .i64 a0.A 15, 0, 0, 0, false⟩ : Sapi_Instr)).1 (one_ok (⟨w64 (1 + ((w64 ((a0.Kind.tmod 7) + 7)).tmod 7)), 0, band .i64 a0.A 15, 0, 0, 0, false⟩ : Sapi_Instr)).2 (by kernel_rfl) (one_off _ _ _) (by kernel_rfl) rfl (by kernel_rfl) (Nat.le_of_ble_eq_true rfl) (by simp [Value.oneCell']) (by kernel_rfl)
    refine go_unit hs (by rfl) hx74 [72, 73] ?_; clear hs; intro a hs
    replace hw : St [] w0 wd73 [own 45 eSapi_Instr (some ad11) 1 [({ (⟨w64 (1 + ((w64 ((a0.Kind.tmod 7) + 7)).tmod 7)), 0, band .i64 a0.A 15, 0, 0, 0, false⟩ : Sapi_Instr) with Op := band .i64 a0.Op 3 } : Sapi_Instr)], own 45 eSapi_Instr (some ad6) 1 [(⟨0, 0, 0, 0, 0, 0, false⟩ : Sapi_Instr)], own 45 eSapi_Instr (some ad2) 1 [a0]] := hw
    refine go_end (hK72 _ _ ?_)
    refine go_sk fun K75 hK75 => ?_
    refine go_pvs 1 [] [(74, .pointer (some ((ad2 : Addr).add 3)))] hs ?_; clear hs; intro a hs
    refine go_run hs (by rfl) (x_ld (off := 3) (p := (ad2 : Addr).add 3) (v := .int .i64 a0.B) (Rd.of_own (hw.up 2)) (one_ok a0) (one_off _ _ _)) [74] ?_; clear hs; intro a hs
    refine go_pvs 4 [75] [(76, .int .i64 (band .i64 a0.B 15)), (77, .pointer (some ((ad11 : Addr).add 3)))] hs ?_; clear hs; intro a hs
    obtain ⟨wd76, hx77, hw⟩ := x_put (P := Try.prog) (ty := 0) (t := 3) (x := (Operand.tmp 77)) (y := (Operand.tmp 76)) (off := 3) (p := (ad11 : Addr).add 3) (v := .int .i64 (band .i64 a0.B 15)) (vs := [.int .i64 (band .i64 a0.B 15)]) (i := 0) (e' := (({ ({ (⟨w64 (1 + ((w64 ((a0.Kind.tmod 7) + 7)).tmod 7)), 0, band .i64 a0.A 15, 0, 0, 0, false⟩ : Sapi_Instr) with Op := band .i64 a0.Op 3 } : Sapi_Instr) with B := band .i64 a0.B 15 } : Sapi_Instr) : Sapi_Instr)) hs hw rfl (one_ok ({ (⟨w64 (1 + ((w64 ((a0.Kind.tmod 7) + 7)).tmod 7)), 0, band .i64 a0.A 15, 0, 0, 0, false⟩ : Sapi_Instr) with Op := band .i64 a0.Op 3 } : Sapi_Instr)).1 (one_ok ({ (⟨w64 (1 + ((w64 ((a0.Kind.tmod 7) + 7)).tmod 7)), 0, band .i64 a0.A 15, 0, 0, 0, false⟩ : Sapi_Instr) with Op := band .i64 a0.Op 3 } : Sapi_Instr)).2 (by kernel_rfl) (one_off _ _ _) (by kernel_rfl) rfl (by kernel_rfl) (Nat.le_of_ble_eq_true rfl) (by simp [Value.oneCell']) (by kernel_rfl)
    refine go_unit hs (by rfl) hx77 [76, 77] ?_; clear hs; intro a hs
    replace hw : St [] w0 wd76 [own 45 eSapi_Instr (some ad11) 1 [({ ({ (⟨w64 (1 + ((w64 ((a0.Kind.tmod 7) + 7)).tmod 7)), 0, band .i64 a0.A 15, 0, 0, 0, false⟩ : Sapi_Instr) with Op := band .i64 a0.Op 3 } : Sapi_Instr) with B := band .i64 a0.B 15 } : Sapi_Instr)], own 45 eSapi_Instr (some ad6) 1 [(⟨0, 0, 0, 0, 0, 0, false⟩ : Sapi_Instr)], own 45 eSapi_Instr (some ad2) 1 [a0]] := hw
    refine go_end (hK75 _ _ ?_)
    refine go_region ?_
    refine go_pvs 1 [1] [(78, .pointer (some ((ad2 : Addr).add 5)))] hs ?_; clear hs; intro a hs
    refine go_run hs (by rfl) (x_ld (off := 5) (p := (ad2 : Addr).add 5) (v := .int .i64 a0.Imm) (Rd.of_own (hw.up 2)) (one_ok a0) (one_off _ _ _)) [78] ?_; clear hs; intro a hs
    refine go_pvs 5 [79] [(81, .int .i64 (w64 ((band .i64 a0.Imm 1048575) - 524288))), (82, .pointer (some ((ad11 : Addr).add 5)))] hs ?_; clear hs; intro a hs
    obtain ⟨wd78, hx79, hw⟩ := x_put (P := Try.prog) (ty := 0) (t := 3) (x := (Operand.tmp 82)) (y := (Operand.tmp 81)) (off := 5) (p := (ad11 : Addr).add 5) (v := .int .i64 (w64 ((band .i64 a0.Imm 1048575) - 524288))) (vs := [.int .i64 (w64 ((band .i64 a0.Imm 1048575) - 524288))]) (i := 0) (e' := (({ ({ ({ (⟨w64 (1 + ((w64 ((a0.Kind.tmod 7) + 7)).tmod 7)), 0, band .i64 a0.A 15, 0, 0, 0, false⟩ : Sapi_Instr) with Op := band .i64 a0.Op 3 } : Sapi_Instr) with B := band .i64 a0.B 15 } : Sapi_Instr) with Imm := w64 ((band .i64 a0.Imm 1048575) - 524288) } : Sapi_Instr) : Sapi_Instr)) hs hw rfl (one_ok ({ ({ (⟨w64 (1 + ((w64 ((a0.Kind.tmod 7) + 7)).tmod 7)), 0, band .i64 a0.A 15, 0, 0, 0, false⟩ : Sapi_Instr) with Op := band .i64 a0.Op 3 } : Sapi_Instr) with B := band .i64 a0.B 15 } : Sapi_Instr)).1 (one_ok ({ ({ (⟨w64 (1 + ((w64 ((a0.Kind.tmod 7) + 7)).tmod 7)), 0, band .i64 a0.A 15, 0, 0, 0, false⟩ : Sapi_Instr) with Op := band .i64 a0.Op 3 } : Sapi_Instr) with B := band .i64 a0.B 15 } : Sapi_Instr)).2 (by kernel_rfl) (one_off _ _ _) (by kernel_rfl) rfl (by kernel_rfl) (Nat.le_of_ble_eq_true rfl) (by simp [Value.oneCell']) (by kernel_rfl)
    refine go_unit hs (by rfl) hx79 [81, 82] ?_; clear hs; intro a hs
    replace hw : St [] w0 wd78 [own 45 eSapi_Instr (some ad11) 1 [({ ({ ({ (⟨w64 (1 + ((w64 ((a0.Kind.tmod 7) + 7)).tmod 7)), 0, band .i64 a0.A 15, 0, 0, 0, false⟩ : Sapi_Instr) with Op := band .i64 a0.Op 3 } : Sapi_Instr) with B := band .i64 a0.B 15 } : Sapi_Instr) with Imm := w64 ((band .i64 a0.Imm 1048575) - 524288) } : Sapi_Instr)], own 45 eSapi_Instr (some ad6) 1 [(⟨0, 0, 0, 0, 0, 0, false⟩ : Sapi_Instr)], own 45 eSapi_Instr (some ad2) 1 [a0]] := hw
    refine go_end ?_
    refine ib_norm ?_
    replace hw := hw.up 2
    replace hw := hw.up 2
    replace hw := hw.up 2
    exact hJ5 ({ ({ ({ (⟨w64 (1 + ((w64 ((a0.Kind.tmod 7) + 7)).tmod 7)), 0, band .i64 a0.A 15, 0, 0, 0, false⟩ : Sapi_Instr) with Op := band .i64 a0.Op 3 } : Sapi_Instr) with B := band .i64 a0.B 15 } : Sapi_Instr) with Imm := w64 ((band .i64 a0.Imm 1048575) - 524288) } : Sapi_Instr) _ _ hs.kx hw H
   ·replace H := ite_f H (beq_eq_false_iff_ne.1 hc)
    have hb80 := hc
    rw [hb80] at hs
    refine go_sp [68] [(83, .bool ((w64 (1 + ((w64 ((a0.Kind.tmod 7) + 7)).tmod 7))) == 6))] hs ?_; clear hs; intro a hs
    refine go_cond hs ((w64 (1 + ((w64 ((a0.Kind.tmod 7) + 7)).tmod 7))) == 6) (fun hc => ?_) fun hc => ?_
    ·replace H := ite_t H (beq_iff_eq.1 hc)
     have hb82 := hc
     rw [hb82] at hs
     refine go_region ?_
     refine go_pvs 1 [21, 83] [(85, .pointer (some ((ad11 : Addr).add 0)))] hs ?_; clear hs; intro a hs
     refine go_run hs (by rfl) (x_ld (off := 0) (p := (ad11 : Addr).add 0) (v := .int .i64 (w64 (1 + ((w64 ((a0.Kind.tmod 7) + 7)).tmod 7)))) (Rd.of_own (hw.up 0)) (one_ok (⟨w64 (1 + ((w64 ((a0.Kind.tmod 7) + 7)).tmod 7)), 0, band .i64 a0.A 15, 0, 0, 0, false⟩ : Sapi_Instr)) (one_off _ _ _)) [85] ?_; clear hs; intro a hs
     refine go_pvs 3 [] [(87, .pointer (some ((ad2 : Addr).add 1)))] hs ?_; clear hs; intro a hs
     refine go_run hs (by rfl) (x_ld (off := 1) (p := (ad2 : Addr).add 1) (v := .int .i64 a0.Op) (Rd.of_own (hw.up 2)) (one_ok a0) (one_off _ _ _)) [87] ?_; clear hs; intro a hs
     refine go_pvs 6 [88] [(89, .int .i64 (band .i64 a0.Op 15)), (90, .pointer (some ((ad2 : Addr).add 4)))] hs ?_; clear hs; intro a hs
     refine go_run hs (by rfl) (x_ld (off := 4) (p := (ad2 : Addr).add 4) (v := .int .i64 a0.C) (Rd.of_own (hw.up 2)) (one_ok a0) (one_off _ _ _)) [90] ?_; clear hs; intro a hs
     refine go_pvs 9 [1, 91] [(92, .int .i64 (band .i64 a0.C 15)), (93, .pointer (some ((ad2 : Addr).add 6)))] hs ?_; clear hs; intro a hs
     refine go_run hs (by rfl) (x_ld (off := 6) (p := (ad2 : Addr).add 6) (v := .bool a0.U) (Rd.of_own (hw.up 2)) (one_ok a0) (one_off _ _ _)) [93] ?_; clear hs; intro a hs
     refine go_pvs 11 [86, 89, 92, 94] [(95, .agg (eSapi_Instr.enc (⟨w64 (1 + ((w64 ((a0.Kind.tmod 7) + 7)).tmod 7)), band .i64 a0.Op 15, 0, 0, band .i64 a0.C 15, 0, a0.U⟩ : Sapi_Instr)).toArray)] hs ?_; clear hs; intro a hs
     obtain ⟨wd83, hx84, hw⟩ := x_put (P := Try.prog) (ty := 0) (t := 45) (x := (Operand.tmp 3)) (y := (Operand.tmp 95)) (off := 0) (p := ad11) (v := .agg (eSapi_Instr.enc (⟨w64 (1 + ((w64 ((a0.Kind.tmod 7) + 7)).tmod 7)), band .i64 a0.Op 15, 0, 0, band .i64 a0.C 15, 0, a0.U⟩ : Sapi_Instr)).toArray) (vs := (eSapi_Instr.enc (⟨w64 (1 + ((w64 ((a0.Kind.tmod 7) + 7)).tmod 7)), band .i64 a0.Op 15, 0, 0, band .i64 a0.C 15, 0, a0.U⟩ : Sapi_Instr))) (i := 0) (e' := ((⟨w64 (1 + ((w64 ((a0.Kind.tmod 7) + 7)).tmod 7)), band .i64 a0.Op 15, 0, 0, band .i64 a0.C 15, 0, a0.U⟩ : Sapi_Instr) : Sapi_Instr)) hs hw rfl (one_ok (⟨w64 (1 + ((w64 ((a0.Kind.tmod 7) + 7)).tmod 7)), 0, band .i64 a0.A 15, 0, 0, 0, false⟩ : Sapi_Instr)).1 (one_ok (⟨w64 (1 + ((w64 ((a0.Kind.tmod 7) + 7)).tmod 7)), 0, band .i64 a0.A 15, 0, 0, 0, false⟩ : Sapi_Instr)).2 (by kernel_rfl) (one_at _ _) (by kernel_rfl) rfl (by kernel_rfl) (Nat.le_of_ble_eq_true rfl) (eSapi_Instr.one _) (by kernel_rfl)
     refine go_unit hs (by rfl) hx84 [95] ?_; clear hs; intro a hs
     replace hw : St [] w0 wd83 [own 45 eSapi_Instr (some ad11) 1 [(⟨w64 (1 + ((w64 ((a0.Kind.tmod 7) + 7)).tmod 7)), band .i64 a0.Op 15, 0, 0, band .i64 a0.C 15, 0, a0.U⟩ : Sapi_Instr)], own 45 eSapi_Instr (some ad6) 1 [(⟨0, 0, 0, 0, 0, 0, false⟩ : Sapi_Instr)], own 45 eSapi_Instr (some ad2) 1 [a0]] := hw
     refine go_end ?_
     refine ib_norm ?_
     replace hw := hw.up 2
     replace hw := hw.up 2
     replace hw := hw.up 2
     exact hJ5 (⟨w64 (1 + ((w64 ((a0.Kind.tmod 7) + 7)).tmod 7)), band .i64 a0.Op 15, 0, 0, band .i64 a0.C 15, 0, a0.U⟩ : Sapi_Instr) _ _ hs.kx hw H
    ·replace H := ite_f H (beq_eq_false_iff_ne.1 hc)
     have hb85 := hc
     rw [hb85] at hs
     refine go_sp [21, 83] [(96, .bool ((w64 (1 + ((w64 ((a0.Kind.tmod 7) + 7)).tmod 7))) == 7))] hs ?_; clear hs; intro a hs
     refine go_cond hs ((w64 (1 + ((w64 ((a0.Kind.tmod 7) + 7)).tmod 7))) == 7) (fun hc => ?_) fun hc => ?_
     ·replace H := ite_t H (beq_iff_eq.1 hc)
      have hb87 := hc
      rw [hb87] at hs
      refine go_region ?_
      refine go_pvs 1 [96] [(98, .pointer (some ((ad11 : Addr).add 0)))] hs ?_; clear hs; intro a hs
      refine go_run hs (by rfl) (x_ld (off := 0) (p := (ad11 : Addr).add 0) (v := .int .i64 (w64 (1 + ((w64 ((a0.Kind.tmod 7) + 7)).tmod 7)))) (Rd.of_own (hw.up 0)) (one_ok (⟨w64 (1 + ((w64 ((a0.Kind.tmod 7) + 7)).tmod 7)), 0, band .i64 a0.A 15, 0, 0, 0, false⟩ : Sapi_Instr)) (one_off _ _ _)) [98] ?_; clear hs; intro a hs
      refine go_pvs 3 [] [(100, .pointer (some ((ad2 : Addr).add 1)))] hs ?_; clear hs; intro a hs
      refine go_run hs (by rfl) (x_ld (off := 1) (p := (ad2 : Addr).add 1) (v := .int .i64 a0.Op) (Rd.of_own (hw.up 2)) (one_ok a0) (one_off _ _ _)) [100] ?_; clear hs; intro a hs
      refine go_pvs 6 [101] [(102, .int .i64 (band .i64 a0.Op 15)), (103, .pointer (some ((ad2 : Addr).add 5)))] hs ?_; clear hs; intro a hs
      refine go_run hs (by rfl) (x_ld (off := 5) (p := (ad2 : Addr).add 5) (v := .int .i64 a0.Imm) (Rd.of_own (hw.up 2)) (one_ok a0) (one_off _ _ _)) [103] ?_; clear hs; intro a hs
      refine go_pvs 10 [1, 104] [(106, .int .i64 (w64 ((band .i64 a0.Imm 16777215) - 8388608))), (107, .pointer (some ((ad2 : Addr).add 6)))] hs ?_; clear hs; intro a hs
      refine go_run hs (by rfl) (x_ld (off := 6) (p := (ad2 : Addr).add 6) (v := .bool a0.U) (Rd.of_own (hw.up 2)) (one_ok a0) (one_off _ _ _)) [107] ?_; clear hs; intro a hs
      refine go_pvs 12 [99, 102, 106, 108] [(109, .agg (eSapi_Instr.enc (⟨w64 (1 + ((w64 ((a0.Kind.tmod 7) + 7)).tmod 7)), band .i64 a0.Op 15, 0, 0, 0, w64 ((band .i64 a0.Imm 16777215) - 8388608), a0.U⟩ : Sapi_Instr)).toArray)] hs ?_; clear hs; intro a hs
      obtain ⟨wd88, hx89, hw⟩ := x_put (P := Try.prog) (ty := 0) (t := 45) (x := (Operand.tmp 3)) (y := (Operand.tmp 109)) (off := 0) (p := ad11) (v := .agg (eSapi_Instr.enc (⟨w64 (1 + ((w64 ((a0.Kind.tmod 7) + 7)).tmod 7)), band .i64 a0.Op 15, 0, 0, 0, w64 ((band .i64 a0.Imm 16777215) - 8388608), a0.U⟩ : Sapi_Instr)).toArray) (vs := (eSapi_Instr.enc (⟨w64 (1 + ((w64 ((a0.Kind.tmod 7) + 7)).tmod 7)), band .i64 a0.Op 15, 0, 0, 0, w64 ((band .i64 a0.Imm 16777215) - 8388608), a0.U⟩ : Sapi_Instr))) (i := 0) (e' := ((⟨w64 (1 + ((w64 ((a0.Kind.tmod 7) + 7)).tmod 7)), band .i64 a0.Op 15, 0, 0, 0, w64 ((band .i64 a0.Imm 16777215) - 8388608), a0.U⟩ : Sapi_Instr) : Sapi_Instr)) hs hw rfl (one_ok (⟨w64 (1 + ((w64 ((a0.Kind.tmod 7) + 7)).tmod 7)), 0, band .i64 a0.A 15, 0, 0, 0, false⟩ : Sapi_Instr)).1 (one_ok (⟨w64 (1 + ((w64 ((a0.Kind.tmod 7) + 7)).tmod 7)), 0, band .i64 a0.A 15, 0, 0, 0, false⟩ : Sapi_Instr)).2 (by kernel_rfl) (one_at _ _) (by kernel_rfl) rfl (by kernel_rfl) (Nat.le_of_ble_eq_true rfl) (eSapi_Instr.one _) (by kernel_rfl)
      refine go_unit hs (by rfl) hx89 [109] ?_; clear hs; intro a hs
      replace hw : St [] w0 wd88 [own 45 eSapi_Instr (some ad11) 1 [(⟨w64 (1 + ((w64 ((a0.Kind.tmod 7) + 7)).tmod 7)), band .i64 a0.Op 15, 0, 0, 0, w64 ((band .i64 a0.Imm 16777215) - 8388608), a0.U⟩ : Sapi_Instr)], own 45 eSapi_Instr (some ad6) 1 [(⟨0, 0, 0, 0, 0, 0, false⟩ : Sapi_Instr)], own 45 eSapi_Instr (some ad2) 1 [a0]] := hw
      refine go_end ?_
      refine ib_norm ?_
      replace hw := hw.up 2
      replace hw := hw.up 2
      replace hw := hw.up 2
      exact hJ5 (⟨w64 (1 + ((w64 ((a0.Kind.tmod 7) + 7)).tmod 7)), band .i64 a0.Op 15, 0, 0, 0, w64 ((band .i64 a0.Imm 16777215) - 8388608), a0.U⟩ : Sapi_Instr) _ _ hs.kx hw H
     ·replace H := ite_f H (beq_eq_false_iff_ne.1 hc)
      have hb90 := hc
      rw [hb90] at hs
      refine wp_skip ?_
      refine ib_norm ?_
      replace hw := hw.up 2
      replace hw := hw.up 2
      replace hw := hw.up 2
      exact hJ5 (⟨w64 (1 + ((w64 ((a0.Kind.tmod 7) + 7)).tmod 7)), 0, band .i64 a0.A 15, 0, 0, 0, false⟩ : Sapi_Instr) _ _ hs.kx hw H
 refine go_sp [] [(22, .bool ((w64 (1 + ((w64 ((a0.Kind.tmod 7) + 7)).tmod 7))) == 1))] hs ?_; clear hs; intro a hs
 refine go_cond hs ((w64 (1 + ((w64 ((a0.Kind.tmod 7) + 7)).tmod 7))) == 1) (fun hc => ?_) fun hc => ?_
 ·replace H := ite_t H (beq_iff_eq.1 hc)
  have hb22 := hc
  rw [hb22] at hs
  refine wp_skip ?_
  replace hw := hw.up 2
  replace hw := hw.up 2
  replace hw := hw.up 2
  exact hJ1 true _ _ hs.kx hw H
 ·replace H := ite_f H (beq_eq_false_iff_ne.1 hc)
  have hb23 := hc
  rw [hb23] at hs
  refine go_plain [] [(22, .bool ((w64 (1 + ((w64 ((a0.Kind.tmod 7) + 7)).tmod 7))) == 2))] hs ?_; clear hs; intro a hs
  replace hw := hw.up 2
  replace hw := hw.up 2
  replace hw := hw.up 2
  exact hJ1 ((w64 (1 + ((w64 ((a0.Kind.tmod 7) + 7)).tmod 7))) == 2) _ _ hs.kx hw H

/-! rivet/rivetref03.one: function 45 -/
noncomputable def rivetref03_one (a0 : Bool) : Option Int := (if a0 = true then some 1 else some 0)
set_option maxRecDepth 100000 in
set_option maxHeartbeats 4000000 in
theorem rivetref03_one.calls (a0 : Bool) (r : Int) (w0 : World) (H : rivetref03_one a0 = some r) :
    Calls Try.prog 45 #[.bool a0] w0 fun e w' => e = .returned (.int .u32 r) ∧ St [] w0 w' [] := by
 have hw : St [] w0 w0 [] := St.nil w0
 unfold rivetref03_one at H
 refine go_fn Try.func45 rfl Try.ntmps45 ?_; intro a hs
 refine go_sp [] [] hs ?_; clear hs; intro a hs
 refine go_seq_k fun K2 hK2 => ?_
 refine go_sp [0] [(3, .bool a0)] hs ?_; clear hs; intro a hs
 refine go_cond hs a0 (fun hc => ?_) fun hc => ?_
 ·replace H := ite_t H hc
  have hb4 := hc
  rw [hb4] at hs
  refine go_sp [3] [(2, .int .u32 1)] hs ?_; clear hs; intro a hs
  refine wp_ret ?_
  refine th_ret ?_
  obtain rfl := Option.some.inj H
  refine ret1 (t := 2) (v := .int .u32 1) hs (by kernel_rfl) (by kernel_rfl) ?_
  exact ⟨rfl, hw.only 0⟩
 ·replace H := ite_f H (ff hc)
  have hb6 := hc
  rw [hb6] at hs
  refine wp_skip ?_
  refine hK2 _ _ ?_
  refine go_sp [3] [(2, .int .u32 0)] hs ?_; clear hs; intro a hs
  refine wp_ret ?_
  obtain rfl := Option.some.inj H
  refine ret1 (t := 2) (v := .int .u32 0) hs (by kernel_rfl) (by kernel_rfl) ?_
  exact ⟨rfl, hw.only 0⟩

/-! rivet/rivetref03.Encode: function 31 -/
noncomputable def rivetref03_Encode (a0 : Sapi_Instr) : Option (Int × Int) := ((rivetref03_May a0).bind fun t9 => ((if t9 = true then ((rivetref03_one a0.U).bind fun t22 => ((if a0.Kind = 1 then some (bor .u32 (bor .u32 (bor .u32 (bor .u32 (wu32 (t22 * 2 ^ 29)) (wu32 ((wu32 a0.A) * 2 ^ 24))) (wu32 ((wu32 a0.B) * 2 ^ 20))) (wu32 ((wu32 a0.Op) * 2 ^ 16))) (wu32 a0.C), 0) else (if a0.Kind = 2 then ((rivetref03_one (decide (a0.Imm < 0))).bind fun t36 => (some (bor .u32 (bor .u32 (bor .u32 (bor .u32 (bor .u32 (bor .u32 1073741824 (wu32 (t22 * 2 ^ 29))) (wu32 (t36 * 2 ^ 28))) (wu32 ((wu32 a0.A) * 2 ^ 24))) (wu32 ((wu32 a0.B) * 2 ^ 20))) (wu32 ((wu32 a0.Op) * 2 ^ 16))) ((wu32 a0.Imm).tmod 65536), 0))) else (if a0.Kind = 3 then some (bor .u32 536870912 (wu32 ((wu32 a0.A) * 2 ^ 24)), 0) else (if a0.Kind = 4 then some (bor .u32 805306368 (wu32 ((wu32 a0.A) * 2 ^ 24)), 0) else (if a0.Kind = 5 then ((rivetref03_one (decide (a0.Op ≥ 2))).bind fun t51 => (((rivetref03_one ((a0.Op.tmod 2) == 1)).bind fun t54 => (some (bor .u32 (bor .u32 (bor .u32 (bor .u32 (bor .u32 2147483648 (wu32 (t51 * 2 ^ 29))) (wu32 (t54 * 2 ^ 28))) (wu32 ((wu32 a0.A) * 2 ^ 24))) (wu32 ((wu32 a0.B) * 2 ^ 20))) ((wu32 a0.Imm).tmod 1048576), 0))))) else (if a0.Kind = 6 then some (bor .u32 (bor .u32 (bor .u32 3221225472 (wu32 (t22 * 2 ^ 28))) (wu32 ((wu32 a0.Op) * 2 ^ 24))) (wu32 a0.C), 0) else some (bor .u32 (bor .u32 (bor .u32 3758096384 (wu32 (t22 * 2 ^ 28))) (wu32 ((wu32 a0.Op) * 2 ^ 24))) ((wu32 a0.Imm).tmod 16777216), 0))))))))) else some (0, 1))))
set_option maxRecDepth 100000 in
set_option maxHeartbeats 4000000 in
theorem rivetref03_Encode.calls (a0 : Sapi_Instr) (r : Int × Int) (w0 : World) (H : rivetref03_Encode a0 = some r) :
    Calls Try.prog 31 #[.agg (eSapi_Instr.enc a0).toArray] w0 fun e w' => e = .returned (.tuple #[.int .u32 r.1, .int .i64 r.2]) ∧ St [] w0 w' [] := by
 have hw : St [] w0 w0 [] := St.nil w0
 unfold rivetref03_Encode at H
 refine go_fn Try.func31 rfl Try.ntmps31 ?_; intro a hs
 refine go_sk fun K1 hK1 => ?_
 obtain ⟨ad2, wd3, hx4, hw⟩ := x_box1 (P := Try.prog) (elem := 45) (v := (Operand.tmp 0)) (ty := 0) hs hw eSapi_Instr a0 (by kernel_rfl)
 refine go_run hs (by rfl) hx4 [0] ?_; clear hs; intro a hs
 refine go_pvs 3 [] [] hs ?_; clear hs; intro a hs
 refine go_end (hK1 _ _ ?_)
 refine go_seq_k fun K6 hK6 => ?_
 refine go_sk fun K7 hK7 => ?_
 refine go_run hs (by rfl) (x_lds (off := 0) (p := ad2) (cs := (eSapi_Instr.enc a0)) (Rd.of_own (hw.up 0)) (one_ok a0) (one_at _ _)) [] ?_; clear hs; intro a hs
 obtain ⟨t9, hx10, H⟩ := bind_some H
 refine go_call hs (by rfl) (rivetref03_May.calls a0 t9 _ hx10) ?_
 rintro e wd11 ⟨rfl, hw12⟩
 refine ⟨_, rfl, ?_⟩
 replace hw := hw.call hw12
 clear hs; intro a hs; replace hs := hs.rms [9]
 refine go_pvs 3 [10] [(11, .bool (!t9))] hs ?_; clear hs; intro a hs
 refine go_end (hK7 _ _ ?_)
 refine go_cond hs (!t9) (fun hc => ?_) fun hc => ?_
 ·replace H := ite_f H (ff (nt hc))
  have hb13 := hc
  rw [hb13] at hs
  refine go_sp [1, 11] [(2, .int .u32 0), (3, .int .i64 1)] hs ?_; clear hs; intro a hs
  refine wp_ret ?_
  refine th_ret ?_
  obtain rfl := Option.some.inj H
  refine ret2 (t1 := 2) (v1 := .int .u32 0) (t2 := 3) (v2 := .int .i64 1) hs (by kernel_rfl) (by kernel_rfl) (by kernel_rfl) ?_
  exact ⟨rfl, hw.only 0⟩
 ·replace H := ite_t H (nf hc)
  have hb15 := hc
  rw [hb15] at hs
  refine wp_skip ?_
  refine hK6 _ _ ?_
  refine go_sk fun K16 hK16 => ?_
  refine go_pvs 1 [11] [(12, .pointer (some ((ad2 : Addr).add 2)))] hs ?_; clear hs; intro a hs
  refine go_run hs (by rfl) (x_ld (off := 2) (p := (ad2 : Addr).add 2) (v := .int .i64 a0.A) (Rd.of_own (hw.up 0)) (one_ok a0) (one_off _ _ _)) [12] ?_; clear hs; intro a hs
  refine go_pvs 5 [13] [(4, .int .u32 (wu32 ((wu32 a0.A) * 2 ^ 24)))] hs ?_; clear hs; intro a hs
  refine go_end (hK16 _ _ ?_)
  refine go_sk fun K17 hK17 => ?_
  refine go_pvs 1 [] [(16, .pointer (some ((ad2 : Addr).add 3)))] hs ?_; clear hs; intro a hs
  refine go_run hs (by rfl) (x_ld (off := 3) (p := (ad2 : Addr).add 3) (v := .int .i64 a0.B) (Rd.of_own (hw.up 0)) (one_ok a0) (one_off _ _ _)) [16] ?_; clear hs; intro a hs
  refine go_pvs 5 [17] [(5, .int .u32 (wu32 ((wu32 a0.B) * 2 ^ 20)))] hs ?_; clear hs; intro a hs
  refine go_end (hK17 _ _ ?_)
  refine go_sk fun K18 hK18 => ?_
  refine go_pvs 1 [] [(20, .pointer (some ((ad2 : Addr).add 1)))] hs ?_; clear hs; intro a hs
  refine go_run hs (by rfl) (x_ld (off := 1) (p := (ad2 : Addr).add 1) (v := .int .i64 a0.Op) (Rd.of_own (hw.up 0)) (one_ok a0) (one_off _ _ _)) [20] ?_; clear hs; intro a hs
  refine go_pvs 5 [21] [(6, .int .u32 (wu32 ((wu32 a0.Op) * 2 ^ 16)))] hs ?_; clear hs; intro a hs
  refine go_end (hK18 _ _ ?_)
  refine go_sk fun K19 hK19 => ?_
  refine go_pvs 1 [] [(24, .pointer (some ((ad2 : Addr).add 1)))] hs ?_; clear hs; intro a hs
  refine go_run hs (by rfl) (x_ld (off := 1) (p := (ad2 : Addr).add 1) (v := .int .i64 a0.Op) (Rd.of_own (hw.up 0)) (one_ok a0) (one_off _ _ _)) [24] ?_; clear hs; intro a hs
  refine go_pvs 5 [25] [(7, .int .u32 (wu32 ((wu32 a0.Op) * 2 ^ 24)))] hs ?_; clear hs; intro a hs
  refine go_end (hK19 _ _ ?_)
  refine go_sk fun K20 hK20 => ?_
  refine go_pvs 1 [] [(28, .pointer (some ((ad2 : Addr).add 6)))] hs ?_; clear hs; intro a hs
  refine go_run hs (by rfl) (x_ld (off := 6) (p := (ad2 : Addr).add 6) (v := .bool a0.U) (Rd.of_own (hw.up 0)) (one_ok a0) (one_off _ _ _)) [28] ?_; clear hs; intro a hs
  obtain ⟨t22, hx23, H⟩ := bind_some H
  refine go_call hs (by rfl) (rivetref03_one.calls a0.U t22 _ hx23) ?_
  rintro e wd24 ⟨rfl, hw25⟩
  refine ⟨_, rfl, ?_⟩
  replace hw := hw.call hw25
  clear hs; intro a hs; replace hs := hs.rms [29]
  refine go_pvs 4 [30] [(8, .int .u32 t22)] hs ?_; clear hs; intro a hs
  refine go_end (hK20 _ _ ?_)
  refine go_seq_k fun K26 hK26 => ?_
  refine go_sk fun K27 hK27 => ?_
  refine go_pvs 1 [] [(31, .pointer (some ((ad2 : Addr).add 0)))] hs ?_; clear hs; intro a hs
  refine go_run hs (by rfl) (x_ld (off := 0) (p := (ad2 : Addr).add 0) (v := .int .i64 a0.Kind) (Rd.of_own (hw.up 0)) (one_ok a0) (one_off _ _ _)) [31] ?_; clear hs; intro a hs
  refine go_end (hK27 _ _ ?_)
  refine wp_block ?_
  refine go_sp [] [(33, .bool (a0.Kind == 1))] hs ?_; clear hs; intro a hs
  refine go_cond hs (a0.Kind == 1) (fun hc => ?_) fun hc => ?_
  ·replace H := ite_t H (beq_iff_eq.1 hc)
   have hb29 := hc
   rw [hb29] at hs
   refine go_sk fun K30 hK30 => ?_
   refine go_pvs 9 [1, 4, 5, 6, 7, 8, 32, 33] [(42, .int .u32 (bor .u32 (bor .u32 (bor .u32 (wu32 (t22 * 2 ^ 29)) (wu32 ((wu32 a0.A) * 2 ^ 24))) (wu32 ((wu32 a0.B) * 2 ^ 20))) (wu32 ((wu32 a0.Op) * 2 ^ 16)))), (43, .pointer (some ((ad2 : Addr).add 4)))] hs ?_; clear hs; intro a hs
   replace hs : Slots a 122 [(42, .int .u32 (bor .u32 (bor .u32 (bor .u32 (wu32 (t22 * 2 ^ 29)) (wu32 ((wu32 a0.A) * 2 ^ 24))) (wu32 ((wu32 a0.B) * 2 ^ 20))) (wu32 ((wu32 a0.Op) * 2 ^ 16)))), (43, .pointer (some ((ad2 : Addr).add 4)))] := hs.kx
   refine go_run hs (by rfl) (x_ld (off := 4) (p := (ad2 : Addr).add 4) (v := .int .i64 a0.C) (Rd.of_own (hw.up 0)) (one_ok a0) (one_off _ _ _)) [43] ?_; clear hs; intro a hs
   refine go_pvs 14 [42, 44] [(2, .int .u32 (bor .u32 (bor .u32 (bor .u32 (bor .u32 (wu32 (t22 * 2 ^ 29)) (wu32 ((wu32 a0.A) * 2 ^ 24))) (wu32 ((wu32 a0.B) * 2 ^ 20))) (wu32 ((wu32 a0.Op) * 2 ^ 16))) (wu32 a0.C))), (3, .int .i64 0)] hs ?_; clear hs; intro a hs
   refine go_end (hK30 _ _ ?_)
   refine wp_ret ?_
   refine ib_ret ?_
   refine th_ret ?_
   obtain rfl := Option.some.inj H
   refine ret2 (t1 := 2) (v1 := .int .u32 (bor .u32 (bor .u32 (bor .u32 (bor .u32 (wu32 (t22 * 2 ^ 29)) (wu32 ((wu32 a0.A) * 2 ^ 24))) (wu32 ((wu32 a0.B) * 2 ^ 20))) (wu32 ((wu32 a0.Op) * 2 ^ 16))) (wu32 a0.C))) (t2 := 3) (v2 := .int .i64 0) hs (by kernel_rfl) (by kernel_rfl) (by kernel_rfl) ?_
   exact ⟨rfl, hw.only 0⟩
  ·replace H := ite_f H (beq_eq_false_iff_ne.1 hc)
   have hb31 := hc
   rw [hb31] at hs
   refine go_sp [33] [(47, .bool (a0.Kind == 2))] hs ?_; clear hs; intro a hs
   replace hs : Slots a 122 [(1, .pointer (some ad2)), (4, .int .u32 (wu32 ((wu32 a0.A) * 2 ^ 24))), (5, .int .u32 (wu32 ((wu32 a0.B) * 2 ^ 20))), (6, .int .u32 (wu32 ((wu32 a0.Op) * 2 ^ 16))), (7, .int .u32 (wu32 ((wu32 a0.Op) * 2 ^ 24))), (8, .int .u32 t22), (32, .int .i64 a0.Kind), (47, .bool (a0.Kind == 2))] := hs.kx
   refine go_cond hs (a0.Kind == 2) (fun hc => ?_) fun hc => ?_
   ·replace H := ite_t H (beq_iff_eq.1 hc)
    have hb33 := hc
    rw [hb33] at hs
    refine go_seq_k fun K34 hK34 => ?_
    refine q2_region (by kernel_rfl) (by kernel_rfl) ?_
    refine q_pvs 4 [7, 8, 32, 47] [(51, .int .u32 (bor .u32 1073741824 (wu32 (t22 * 2 ^ 29)))), (52, .pointer (some ((ad2 : Addr).add 5)))] hs ?_; clear hs; intro a hs
    refine q_run hs (by rfl) (fun wx hbx => (x_ld (off := 5) (p := (ad2 : Addr).add 5) (v := .int .i64 a0.Imm) ((Rd.of_own (hw.up 0)).below hbx) (one_ok a0) (one_off _ _ _))) [52] ?_; clear hs; intro a hs
    refine q_pvs 6 [53] [(54, .bool (decide (a0.Imm < 0)))] hs ?_; clear hs; intro a hs
    obtain ⟨t36, hx37, H⟩ := bind_some H
    refine q_call hs (by rfl) (fun wx hbx => (rivetref03_one.calls (decide (a0.Imm < 0)) t36 _ hx37).mono fun e wy h => ⟨h.1, below_st hbx h.2⟩) [54] ?_; clear hs; intro a hs
    refine q_pvs 16 [1, 4, 5, 6, 51, 55] [(63, .int .u32 (bor .u32 (bor .u32 (bor .u32 (bor .u32 (bor .u32 1073741824 (wu32 (t22 * 2 ^ 29))) (wu32 (t36 * 2 ^ 28))) (wu32 ((wu32 a0.A) * 2 ^ 24))) (wu32 ((wu32 a0.B) * 2 ^ 20))) (wu32 ((wu32 a0.Op) * 2 ^ 16)))), (64, .pointer (some ((ad2 : Addr).add 5)))] hs ?_; clear hs; intro a hs
    refine q_run hs (by rfl) (fun wx hbx => (x_ld (off := 5) (p := (ad2 : Addr).add 5) (v := .int .i64 a0.Imm) ((Rd.of_own (hw.up 0)).below hbx) (one_ok a0) (one_off _ _ _))) [64] ?_; clear hs; intro a hs
    refine q_pvs 22 [63, 65] [(2, .int .u32 (bor .u32 (bor .u32 (bor .u32 (bor .u32 (bor .u32 (bor .u32 1073741824 (wu32 (t22 * 2 ^ 29))) (wu32 (t36 * 2 ^ 28))) (wu32 ((wu32 a0.A) * 2 ^ 24))) (wu32 ((wu32 a0.B) * 2 ^ 20))) (wu32 ((wu32 a0.Op) * 2 ^ 16))) ((wu32 a0.Imm).tmod 65536))), (3, .int .i64 0)] hs ?_; clear hs; intro a hs
    refine q_end ?_
    intro wq hbq
    replace hw := hw.behind hbq
    refine hK34 _ _ ?_
    refine wp_ret ?_
    refine ib_ret ?_
    refine th_ret ?_
    obtain rfl := Option.some.inj H
    refine ret2 (t1 := 2) (v1 := .int .u32 (bor .u32 (bor .u32 (bor .u32 (bor .u32 (bor .u32 (bor .u32 1073741824 (wu32 (t22 * 2 ^ 29))) (wu32 (t36 * 2 ^ 28))) (wu32 ((wu32 a0.A) * 2 ^ 24))) (wu32 ((wu32 a0.B) * 2 ^ 20))) (wu32 ((wu32 a0.Op) * 2 ^ 16))) ((wu32 a0.Imm).tmod 65536))) (t2 := 3) (v2 := .int .i64 0) hs (by kernel_rfl) (by kernel_rfl) (by kernel_rfl) ?_
    exact ⟨rfl, hw.only 0⟩
   ·replace H := ite_f H (beq_eq_false_iff_ne.1 hc)
    have hb38 := hc
    rw [hb38] at hs
    refine go_sp [6, 47] [(69, .bool (a0.Kind == 3))] hs ?_; clear hs; intro a hs
    refine go_cond hs (a0.Kind == 3) (fun hc => ?_) fun hc => ?_
    ·replace H := ite_t H (beq_iff_eq.1 hc)
     have hb40 := hc
     rw [hb40] at hs
     refine go_sp [1, 4, 5, 7, 8, 32, 69] [(2, .int .u32 (bor .u32 536870912 (wu32 ((wu32 a0.A) * 2 ^ 24)))), (3, .int .i64 0)] hs ?_; clear hs; intro a hs
     refine wp_ret ?_
     refine ib_ret ?_
     refine th_ret ?_
     obtain rfl := Option.some.inj H
     refine ret2 (t1 := 2) (v1 := .int .u32 (bor .u32 536870912 (wu32 ((wu32 a0.A) * 2 ^ 24)))) (t2 := 3) (v2 := .int .i64 0) hs (by kernel_rfl) (by kernel_rfl) (by kernel_rfl) ?_
     exact ⟨rfl, hw.only 0⟩
    ·replace H := ite_f H (beq_eq_false_iff_ne.1 hc)
     have hb42 := hc
     rw [hb42] at hs
     refine go_sp [69] [(73, .bool (a0.Kind == 4))] hs ?_; clear hs; intro a hs
     refine go_cond hs (a0.Kind == 4) (fun hc => ?_) fun hc => ?_
     ·replace H := ite_t H (beq_iff_eq.1 hc)
      have hb44 := hc
      rw [hb44] at hs
      refine go_sp [1, 4, 5, 7, 8, 32, 73] [(2, .int .u32 (bor .u32 805306368 (wu32 ((wu32 a0.A) * 2 ^ 24)))), (3, .int .i64 0)] hs ?_; clear hs; intro a hs
      refine wp_ret ?_
      refine ib_ret ?_
      refine th_ret ?_
      obtain rfl := Option.some.inj H
      refine ret2 (t1 := 2) (v1 := .int .u32 (bor .u32 805306368 (wu32 ((wu32 a0.A) * 2 ^ 24)))) (t2 := 3) (v2 := .int .i64 0) hs (by kernel_rfl) (by kernel_rfl) (by kernel_rfl) ?_
      exact ⟨rfl, hw.only 0⟩
     ·replace H := ite_f H (beq_eq_false_iff_ne.1 hc)
      have hb46 := hc
      rw [hb46] at hs
      refine go_sp [73] [(77, .bool (a0.Kind == 5))] hs ?_; clear hs; intro a hs
      refine go_cond hs (a0.Kind == 5) (fun hc => ?_) fun hc => ?_
      ·replace H := ite_t H (beq_iff_eq.1 hc)
       have hb48 := hc
       rw [hb48] at hs
       refine go_seq_k fun K49 hK49 => ?_
       refine q2_region (by kernel_rfl) (by kernel_rfl) ?_
       refine q_pvs 1 [7, 8, 32, 77] [(79, .pointer (some ((ad2 : Addr).add 1)))] hs ?_; clear hs; intro a hs
       refine q_run hs (by rfl) (fun wx hbx => (x_ld (off := 1) (p := (ad2 : Addr).add 1) (v := .int .i64 a0.Op) ((Rd.of_own (hw.up 0)).below hbx) (one_ok a0) (one_off _ _ _))) [79] ?_; clear hs; intro a hs
       refine q_pvs 3 [80] [(81, .bool (decide (a0.Op ≥ 2)))] hs ?_; clear hs; intro a hs
       obtain ⟨t51, hx52, H⟩ := bind_some H
       refine q_call hs (by rfl) (fun wx hbx => (rivetref03_one.calls (decide (a0.Op ≥ 2)) t51 _ hx52).mono fun e wy h => ⟨h.1, below_st hbx h.2⟩) [81] ?_; clear hs; intro a hs
       refine q_pvs 7 [82] [(84, .int .u32 (bor .u32 2147483648 (wu32 (t51 * 2 ^ 29)))), (85, .pointer (some ((ad2 : Addr).add 1)))] hs ?_; clear hs; intro a hs
       refine q_run hs (by rfl) (fun wx hbx => (x_ld (off := 1) (p := (ad2 : Addr).add 1) (v := .int .i64 a0.Op) ((Rd.of_own (hw.up 0)).below hbx) (one_ok a0) (one_off _ _ _))) [85] ?_; clear hs; intro a hs
       refine q_pvs 10 [86] [(88, .bool ((a0.Op.tmod 2) == 1))] hs ?_; clear hs; intro a hs
       obtain ⟨t54, hx55, H⟩ := bind_some H
       refine q_call hs (by rfl) (fun wx hbx => (rivetref03_one.calls ((a0.Op.tmod 2) == 1) t54 _ hx55).mono fun e wy h => ⟨h.1, below_st hbx h.2⟩) [88] ?_; clear hs; intro a hs
       refine q_pvs 18 [1, 4, 5, 84, 89] [(95, .int .u32 (bor .u32 (bor .u32 (bor .u32 (bor .u32 2147483648 (wu32 (t51 * 2 ^ 29))) (wu32 (t54 * 2 ^ 28))) (wu32 ((wu32 a0.A) * 2 ^ 24))) (wu32 ((wu32 a0.B) * 2 ^ 20)))), (96, .pointer (some ((ad2 : Addr).add 5)))] hs ?_; clear hs; intro a hs
       refine q_run hs (by rfl) (fun wx hbx => (x_ld (off := 5) (p := (ad2 : Addr).add 5) (v := .int .i64 a0.Imm) ((Rd.of_own (hw.up 0)).below hbx) (one_ok a0) (one_off _ _ _))) [96] ?_; clear hs; intro a hs
       refine q_pvs 24 [95, 97] [(2, .int .u32 (bor .u32 (bor .u32 (bor .u32 (bor .u32 (bor .u32 2147483648 (wu32 (t51 * 2 ^ 29))) (wu32 (t54 * 2 ^ 28))) (wu32 ((wu32 a0.A) * 2 ^ 24))) (wu32 ((wu32 a0.B) * 2 ^ 20))) ((wu32 a0.Imm).tmod 1048576))), (3, .int .i64 0)] hs ?_; clear hs; intro a hs
       refine q_end ?_
       intro wq hbq
       replace hw := hw.behind hbq
       refine hK49 _ _ ?_
       refine wp_ret ?_
       refine ib_ret ?_
       refine th_ret ?_
       obtain rfl := Option.some.inj H
       refine ret2 (t1 := 2) (v1 := .int .u32 (bor .u32 (bor .u32 (bor .u32 (bor .u32 (bor .u32 2147483648 (wu32 (t51 * 2 ^ 29))) (wu32 (t54 * 2 ^ 28))) (wu32 ((wu32 a0.A) * 2 ^ 24))) (wu32 ((wu32 a0.B) * 2 ^ 20))) ((wu32 a0.Imm).tmod 1048576))) (t2 := 3) (v2 := .int .i64 0) hs (by kernel_rfl) (by kernel_rfl) (by kernel_rfl) ?_
       exact ⟨rfl, hw.only 0⟩
      ·replace H := ite_f H (beq_eq_false_iff_ne.1 hc)
       have hb56 := hc
       rw [hb56] at hs
       refine go_sp [4, 5, 32, 77] [(101, .bool (a0.Kind == 6))] hs ?_; clear hs; intro a hs
       refine go_cond hs (a0.Kind == 6) (fun hc => ?_) fun hc => ?_
       ·replace H := ite_t H (beq_iff_eq.1 hc)
        have hb58 := hc
        rw [hb58] at hs
        refine go_sk fun K59 hK59 => ?_
        refine go_pvs 6 [1, 7, 8, 101] [(107, .int .u32 (bor .u32 (bor .u32 3221225472 (wu32 (t22 * 2 ^ 28))) (wu32 ((wu32 a0.Op) * 2 ^ 24)))), (108, .pointer (some ((ad2 : Addr).add 4)))] hs ?_; clear hs; intro a hs
        refine go_run hs (by rfl) (x_ld (off := 4) (p := (ad2 : Addr).add 4) (v := .int .i64 a0.C) (Rd.of_own (hw.up 0)) (one_ok a0) (one_off _ _ _)) [108] ?_; clear hs; intro a hs
        refine go_pvs 11 [107, 109] [(2, .int .u32 (bor .u32 (bor .u32 (bor .u32 3221225472 (wu32 (t22 * 2 ^ 28))) (wu32 ((wu32 a0.Op) * 2 ^ 24))) (wu32 a0.C))), (3, .int .i64 0)] hs ?_; clear hs; intro a hs
        refine go_end (hK59 _ _ ?_)
        refine wp_ret ?_
        refine ib_ret ?_
        refine th_ret ?_
        obtain rfl := Option.some.inj H
        refine ret2 (t1 := 2) (v1 := .int .u32 (bor .u32 (bor .u32 (bor .u32 3221225472 (wu32 (t22 * 2 ^ 28))) (wu32 ((wu32 a0.Op) * 2 ^ 24))) (wu32 a0.C))) (t2 := 3) (v2 := .int .i64 0) hs (by kernel_rfl) (by kernel_rfl) (by kernel_rfl) ?_
        exact ⟨rfl, hw.only 0⟩
       ·replace H := ite_f H (beq_eq_false_iff_ne.1 hc)
        have hb60 := hc
        rw [hb60] at hs
        refine wp_skip ?_
        refine ib_norm ?_
        refine hK26 _ _ ?_
        refine go_sk fun K61 hK61 => ?_
        refine go_pvs 6 [1, 7, 8, 101] [(116, .int .u32 (bor .u32 (bor .u32 3758096384 (wu32 (t22 * 2 ^ 28))) (wu32 ((wu32 a0.Op) * 2 ^ 24)))), (117, .pointer (some ((ad2 : Addr).add 5)))] hs ?_; clear hs; intro a hs
        refine go_run hs (by rfl) (x_ld (off := 5) (p := (ad2 : Addr).add 5) (v := .int .i64 a0.Imm) (Rd.of_own (hw.up 0)) (one_ok a0) (one_off _ _ _)) [117] ?_; clear hs; intro a hs
        refine go_pvs 12 [116, 118] [(2, .int .u32 (bor .u32 (bor .u32 (bor .u32 3758096384 (wu32 (t22 * 2 ^ 28))) (wu32 ((wu32 a0.Op) * 2 ^ 24))) ((wu32 a0.Imm).tmod 16777216))), (3, .int .i64 0)] hs ?_; clear hs; intro a hs
        refine go_end (hK61 _ _ ?_)
        refine wp_ret ?_
        obtain rfl := Option.some.inj H
        refine ret2 (t1 := 2) (v1 := .int .u32 (bor .u32 (bor .u32 (bor .u32 3758096384 (wu32 (t22 * 2 ^ 28))) (wu32 ((wu32 a0.Op) * 2 ^ 24))) ((wu32 a0.Imm).tmod 16777216))) (t2 := 3) (v2 := .int .i64 0) hs (by kernel_rfl) (by kernel_rfl) (by kernel_rfl) ?_
        exact ⟨rfl, hw.only 0⟩

/-! slices.Clone[[]uint32,uint32]: function 32 -/
noncomputable def slices_Clone_uint32_uint32 (l0 : List Int) : Option (List Int) := (if ([] : List Int).length + l0.length ≤ 35184372088832 then some (([] : List Int) ++ l0) else none)
set_option maxRecDepth 100000 in
set_option maxHeartbeats 4000000 in
theorem slices_Clone_uint32_uint32.calls (A0 : Option Addr) (c0 : Nat) (l0 : List Int) (r : (List Int)) (w0 : World) (hr0 : Rd w0 (eI .u32) A0 c0 l0) (H : slices_Clone_uint32_uint32 l0 = some r) :
    Calls Try.prog 32 #[.slice A0 l0.length c0] w0 fun e w' => ∃ A_0 c_0, e = .returned (.slice A_0 r.length c_0) ∧ St [] w0 w' [own 23 (eI .u32) A_0 c_0 r] := by
 have hw : St [] w0 w0 [] := St.nil w0
 unfold slices_Clone_uint32_uint32 at H
 refine go_fn Try.func32 rfl Try.ntmps32 ?_; intro a hs
 refine go_sp [] [] hs ?_; clear hs; intro a hs
 refine go_seq_k fun K2 hK2 => ?_
 refine go_sk fun K3 hK3 => ?_
 refine go_pvs 1 [] [(3, .slice A0 l0.length c0)] hs ?_; clear hs; intro a hs
 have hnil := (hr0.old hw)
 rcases A0 with _ | ad4
 ·obtain rfl := Rd.none hnil
  clear hnil
  replace H : some ([] : List Int) = some r := by simpa using H
  refine go_pvs 2 [3] [(0, .slice none ([] : List Int).length c0), (4, .bool true)] hs ?_; clear hs; intro a hs
  refine go_end (hK3 _ _ ?_)
  refine go_cond hs true (fun hc => ?_) fun hc => ?_
  ·skip
   refine go_sp [0, 4] [(2, .slice none 0 0)] hs ?_; clear hs; intro a hs
   refine wp_ret ?_
   refine th_ret ?_
   obtain rfl := Option.some.inj H
   replace hw := St.own_nil hw 23 (eI .u32)
   refine ret1 (t := 2) (v := .slice none 0 0) hs (by kernel_rfl) (by kernel_rfl) ?_
   exact ⟨none, 0, rfl, hw.only 1⟩
  ·cases hc
 ·clear hnil
  refine go_pvs 2 [3] [(0, .slice (some ad4) l0.length c0), (4, .bool false)] hs ?_; clear hs; intro a hs
  refine go_end (hK3 _ _ ?_)
  refine go_cond hs false (fun hc => ?_) fun hc => ?_
  ·cases hc
  ·skip
   refine wp_skip ?_
   refine hK2 _ _ ?_
   refine go_sk fun K7 hK7 => ?_
   obtain ⟨Aa8, cc9, wd10, hx11, hw⟩ := n_lit0 (P := Try.prog) (t := 22) (ty := 22) (T := 23) hs hw (eI .u32) (by kernel_rfl) (by kernel_rfl)
   refine go_run hs (by rfl) hx11 [4] ?_; clear hs; intro a hs
   refine go_pvs 2 [0] [(6, .slice (some ad4) l0.length c0)] hs ?_; clear hs; intro a hs
   obtain ⟨hp13, H⟩ := ite_only H
   have hsrc18 : Src Try.prog (eI .u32).sz 22 (.slice (some ad4) l0.length c0) l0.length (l0.flatMap (eI .u32).enc) _ := (Src.of_rd (E := (eI .u32)) (e' := 23) (by kernel_rfl) (hr0.old hw))
   obtain ⟨Aa14, cc15, wd16, hx17, hw⟩ := x_append (P := Try.prog) (t := 22) (tx := 22) (ty := 22) (x := (Operand.tmp 5)) (y := (Operand.tmp 6)) (z := .int .u32 0) (bytes := 4) (l2 := l0) hs hw (by kernel_rfl) (by kernel_rfl) (by kernel_rfl) (by kernel_rfl) (by kernel_rfl) hsrc18 (by omega) (by omega)
   refine go_run hs (by rfl) hx17 [5, 6] ?_; clear hs; intro a hs
   refine go_pvs 4 [7] [(2, .slice Aa14 (([] : List Int) ++ l0).length cc15)] hs ?_; clear hs; intro a hs
   refine go_end (hK7 _ _ ?_)
   refine wp_ret ?_
   obtain rfl := Option.some.inj H
   refine ret1 (t := 2) (v := .slice Aa14 (([] : List Int) ++ l0).length cc15) hs (by kernel_rfl) (by kernel_rfl) ?_
   exact ⟨Aa14, cc15, rfl, hw.only 1⟩

/-! rivet/rivetref05.Same: function 18 -/
noncomputable def rivetref05_Same.j1 : Option Bool := some true
noncomputable def rivetref05_Same.b9 (l0 : List Int) (l1 : List Int) (v10 : Int) : Option (Int ⊕ (Ex Bool Unit)) := (if v10 < (l0.length : Int) then (if 0 ≤ v10 ∧ v10 < (l0.length : Int) then (if 0 ≤ v10 ∧ v10 < (l1.length : Int) then (if (ix (eI .u32).d l0 v10) = (ix (eI .u32).d l1 v10) then some (.inl (w64 (v10 + 1))) else some (.inr (.ret false))) else none) else none) else some (.inr (.done ())))
noncomputable def rivetref05_Same (l0 : List Int) (l1 : List Int) : Option Bool := (if (l0.length : Int) = (l1.length : Int) then ((loopO (fun (σ : Int) => rivetref05_Same.b9 l0 l1 σ) 0).bind fun e => match e with | .ret x => some x | .done e => rivetref05_Same.j1) else some false)
set_option maxRecDepth 100000 in
set_option maxHeartbeats 4000000 in
theorem rivetref05_Same.calls (A0 : Option Addr) (c0 : Nat) (l0 : List Int) (A1 : Option Addr) (c1 : Nat) (l1 : List Int) (r : Bool) (w0 : World) (hr0 : Rd w0 (eI .u32) A0 c0 l0) (hr1 : Rd w0 (eI .u32) A1 c1 l1) (H : rivetref05_Same l0 l1 = some r) :
    Calls Try.prog 18 #[.slice A0 l0.length c0, .slice A1 l1.length c1] w0 fun e w' => e = .returned (.bool r) ∧ St [] w0 w' [] := by
 have hw : St [] w0 w0 [] := St.nil w0
 unfold rivetref05_Same at H
 refine go_fn Try.func18 rfl Try.ntmps18 ?_; intro a hs
 refine go_sp [] [] hs ?_; clear hs; intro a hs
 refine go_seq_k fun K2 hK2 => ?_
 refine go_sp [] [(10, .bool ((l0.length : Int) != (l1.length : Int)))] hs ?_; clear hs; intro a hs
 refine go_cond hs ((l0.length : Int) != (l1.length : Int)) (fun hc => ?_) fun hc => ?_
 ·replace H := ite_f H (bne_iff_ne.1 hc)
  have hb4 := hc
  rw [hb4] at hs
  refine go_sp [0, 1, 10] [(4, .bool false)] hs ?_; clear hs; intro a hs
  refine wp_ret ?_
  refine th_ret ?_
  obtain rfl := Option.some.inj H
  refine ret1 (t := 4) (v := .bool false) hs (by kernel_rfl) (by kernel_rfl) ?_
  exact ⟨rfl, hw.only 0⟩
 ·replace H := ite_t H (bne_eq_false_iff_eq.1 hc)
  have hb6 := hc
  rw [hb6] at hs
  refine wp_skip ?_
  refine hK2 _ _ ?_
  refine go_seq_k fun K7 hK7 => ?_
  refine go_sp [10] [(5, .int .i64 0)] hs ?_; clear hs; intro a hs
  refine wp_block ?_
  obtain ⟨e9, hl9, HX9⟩ := bind_some H
  have hJ1 : ∀ (a : Act) (w : World), Slots a 26 [] → St [] w0 w [] → rivetref05_Same.j1 = some r → K7 a w := by
   intro a w hs hw H
   unfold rivetref05_Same.j1 at H
   refine hK7 _ _ ?_
   refine go_sp [] [(4, .bool true)] hs ?_; clear hs; intro a hs
   refine wp_ret ?_
   obtain rfl := Option.some.inj H
   refine ret1 (t := 4) (v := .bool true) hs (by kernel_rfl) (by kernel_rfl) ?_
   exact ⟨rfl, hw.only 0⟩
  clear H
  refine go_loop (σ := Int) (fun σ a w => Slots a 26 [(0, .slice A0 l0.length c0), (1, .slice A1 l1.length c1), (5, .int .i64 σ)] ∧ St [] w0 w []) hl9 (by exact ⟨hs.kx, hw⟩) ?_
  rintro v10 a w ⟨hs, hw⟩ o H hr9
  replace hs : Slots a 26 [(0, .slice A0 l0.length c0), (1, .slice A1 l1.length c1), (5, .int .i64 v10)] := hs
  replace hw : St [] w0 w [] := hw
  replace H : rivetref05_Same.b9 l0 l1 v10 = some o := H
  unfold rivetref05_Same.b9 at H
  refine go_seq_k fun K11 hK11 => ?_
  refine go_sp [] [(14, .bool (decide (v10 < (l0.length : Int))))] hs ?_; clear hs; intro a hs
  refine go_cond hs (decide (v10 < (l0.length : Int))) (fun hc => ?_) fun hc => ?_
  ·replace H := ite_t H (of_decide_eq_true hc)
   have hb13 := hc
   rw [hb13] at hs
   refine wp_skip ?_
   refine hK11 _ _ ?_
   refine go_seq_k fun K14 hK14 => ?_
   refine wp_block ?_
   refine go_seq_k fun K15 hK15 => ?_
   refine q2_region (by kernel_rfl) (by kernel_rfl) ?_
   refine q_pvs 2 [14] [(17, .slice A0 l0.length c0), (18, .int .i64 v10)] hs ?_; clear hs; intro a hs
   obtain ⟨hp16, H⟩ := ite_only H
   obtain ⟨ad17, rfl⟩ := (hr0.old hw).some hp16.1 hp16.2
   refine q_run hs (by rfl) (fun wx hbx => (x_idx (T := 23) (sz := 1) (a := ad17) (n := l0.length) (cap := c0) (k := .i64) (i := v10) hp16)) [17, 18] ?_; clear hs; intro a hs
   refine q_run hs (by rfl) (fun wx hbx => (x_ld (off := 0) (p := ad17.add (v10.toNat * 1)) (v := .int .u32 (ix (eI .u32).d l0 v10)) ((hr0.old hw).below hbx) hp16 rfl)) [19] ?_; clear hs; intro a hs
   refine q_pvs 6 [] [(21, .slice A1 l1.length c1), (22, .int .i64 v10)] hs ?_; clear hs; intro a hs
   obtain ⟨hp18, H⟩ := ite_only H
   obtain ⟨ad19, rfl⟩ := (hr1.old hw).some hp18.1 hp18.2
   refine q_run hs (by rfl) (fun wx hbx => (x_idx (T := 23) (sz := 1) (a := ad19) (n := l1.length) (cap := c1) (k := .i64) (i := v10) hp18)) [21, 22] ?_; clear hs; intro a hs
   refine q_run hs (by rfl) (fun wx hbx => (x_ld (off := 0) (p := ad19.add (v10.toNat * 1)) (v := .int .u32 (ix (eI .u32).d l1 v10)) ((hr1.old hw).below hbx) hp18 rfl)) [23] ?_; clear hs; intro a hs
   refine q_pvs 9 [20, 24] [(25, .bool ((ix (eI .u32).d l0 v10) != (ix (eI .u32).d l1 v10)))] hs ?_; clear hs; intro a hs
   refine q_end ?_
   intro wq hbq
   replace hw := hw.behind hbq
   refine hK15 _ _ ?_
   refine go_cond hs ((ix (eI .u32).d l0 v10) != (ix (eI .u32).d l1 v10)) (fun hc => ?_) fun hc => ?_
   ·replace H := ite_f H (bne_iff_ne.1 hc)
    have hb20 := hc
    rw [hb20] at hs
    refine go_sp [0, 1, 5, 25] [(4, .bool false)] hs ?_; clear hs; intro a hs
    refine wp_ret ?_
    refine ib_ret ?_
    refine th_ret ?_
    refine th_ret ?_
    refine ib_ret ?_
    refine th_ret ?_
    rw [← hr9 _ (Option.some.inj H).symm] at HX9
    replace H : some false = some r := HX9
    obtain rfl := Option.some.inj H
    refine ret1 (t := 4) (v := .bool false) hs (by kernel_rfl) (by kernel_rfl) ?_
    exact ⟨rfl, hw.only 0⟩
   ·replace H := ite_t H (bne_eq_false_iff_eq.1 hc)
    have hb22 := hc
    rw [hb22] at hs
    refine wp_skip ?_
    refine ib_norm ?_
    refine hK14 _ _ ?_
    refine go_plain [25] [(5, .int .i64 (w64 (v10 + 1)))] hs ?_; clear hs; intro a hs
    exact round_end (w64 (v10 + 1)) (Option.some.inj H).symm ⟨hs.kx, hw⟩
  ·replace H := ite_f H (of_decide_eq_false hc)
   have hb23 := hc
   rw [hb23] at hs
   refine wp_exit ?_
   refine th_exit ?_
   refine th_exit ?_
   refine in_block ?_
   rw [← hr9 _ (Option.some.inj H).symm] at HX9
   exact hJ1 _ _ hs.kx hw HX9

/-! rivet/memory.New: function 38 -/
noncomputable def memory_New.j2 (a0 : Int) : Option ((Option Smemory_Memory) × Int) := some ((some (⟨(Vector.replicate 4096 0), a0⟩ : Smemory_Memory)), 0)
noncomputable def memory_New.j1 (a0 : Int) (v5 : Bool) : Option ((Option Smemory_Memory) × Int) := (if v5 = true then some ((none : Option Smemory_Memory), 2) else memory_New.j2 a0)
noncomputable def memory_New (a0 : Int) : Option ((Option Smemory_Memory) × Int) := (if a0 < 0 then memory_New.j1 a0 true else memory_New.j1 a0 (decide (a0 > 4096)))
set_option maxRecDepth 100000 in
set_option maxHeartbeats 4000000 in
theorem memory_New.calls (a0 : Int) (r : (Option Smemory_Memory) × Int) (w0 : World) (H : memory_New a0 = some r) :
    Calls Try.prog 38 #[.int .i64 a0] w0 fun e w' => ∃ A_0, e = .returned (.tuple #[.pointer A_0, .int .i64 r.2]) ∧ St [] w0 w' [oM mSmemory_Memory A_0 r.1] := by
 have hw : St [] w0 w0 [] := St.nil w0
 unfold memory_New at H
 refine go_fn Try.func38 rfl Try.ntmps38 ?_; intro a hs
 refine go_sp [] [] hs ?_; clear hs; intro a hs
 refine go_seq_k fun K2 hK2 => ?_
 have hJ2 : ∀ (a : Act) (w : World), Slots a 13 [(0, .int .i64 a0)] → St [] w0 w [] → memory_New.j2 a0 = some r → K2 a w := by
  intro a w hs hw H
  unfold memory_New.j2 at H
  refine hK2 _ _ ?_
  refine go_sk fun K10 hK10 => ?_
  refine go_pvs 2 [0] [(11, .agg (eSmemory_Memory.enc (⟨(Vector.replicate 4096 0), a0⟩ : Smemory_Memory)).toArray)] hs ?_; clear hs; intro a hs
  obtain ⟨ad11, wd12, hx13, hw⟩ := x_box1 (P := Try.prog) (elem := 75) (v := (Operand.tmp 11)) (ty := 38) hs hw eSmemory_Memory (⟨(Vector.replicate 4096 0), a0⟩ : Smemory_Memory) (by kernel_rfl)
  refine go_run hs (by rfl) hx13 [11] ?_; clear hs; intro a hs
  refine go_pvs 5 [12] [(2, .pointer (some ad11)), (3, .int .i64 0)] hs ?_; clear hs; intro a hs
  refine go_end (hK10 _ _ ?_)
  refine wp_ret ?_
  obtain rfl := Option.some.inj H
  refine ret2 (t1 := 2) (v1 := .pointer (some ad11)) (t2 := 3) (v2 := .int .i64 0) hs (by kernel_rfl) (by kernel_rfl) (by kernel_rfl) ?_
  exact ⟨(some ad11), rfl, hw.only 1⟩
 refine go_seq_k fun K3 hK3 => ?_
 have hJ1 : ∀ (v5 : Bool) (a : Act) (w : World), Slots a 13 [(0, .int .i64 a0), (9, .bool v5)] → St [] w0 w [] → memory_New.j1 a0 v5 = some r → K3 a w := by
  intro v5 a w hs hw H
  unfold memory_New.j1 at H
  refine hK3 _ _ ?_
  refine go_cond hs v5 (fun hc => ?_) fun hc => ?_
  ·replace H := ite_t H hc
   have hb6 := hc
   rw [hb6] at hs
   refine go_sp [0, 9] [(2, .pointer none), (3, .int .i64 2)] hs ?_; clear hs; intro a hs
   refine wp_ret ?_
   refine th_ret ?_
   obtain rfl := Option.some.inj H
   replace hw := St.oM_nil mSmemory_Memory hw
   refine ret2 (t1 := 2) (v1 := .pointer none) (t2 := 3) (v2 := .int .i64 2) hs (by kernel_rfl) (by kernel_rfl) (by kernel_rfl) ?_
   exact ⟨none, rfl, hw.only 1⟩
  ·replace H := ite_f H (ff hc)
   have hb9 := hc
   rw [hb9] at hs
   refine wp_skip ?_
   exact hJ2 _ _ hs.kx hw H
 refine go_region ?_
 refine go_pvs 3 [] [(6, .bool (decide (a0 < 0)))] hs ?_; clear hs; intro a hs
 cases hb4 : (decide (a0 < 0))
 ·replace H := ite_f H (of_decide_eq_false hb4)
  rw [hb4] at hs
  refine go_pvs 6 [6] [(9, .bool (decide (a0 > 4096)))] hs ?_; clear hs; intro a hs
  refine go_end ?_
  exact hJ1 (decide (a0 > 4096)) _ _ hs.kx hw H
 ·replace H := ite_t H (of_decide_eq_true hb4)
  rw [hb4] at hs
  refine go_pvs 6 [6] [(9, .bool true)] hs ?_; clear hs; intro a hs
  refine go_end ?_
  exact hJ1 true _ _ hs.kx hw H

/-! (*rivet/memory.Memory).Word: function 33 -/
noncomputable def memory_Memory_Word (x0 : Smemory_Memory) (a1 : Int) : Option (Int × Int) := (if (a1.tmod 4) = 0 then (if (w64 (wu32 (a1.tdiv 4))) ≥ x0.n then some (0, 3) else (if 0 ≤ (wu32 (a1.tdiv 4)) ∧ (wu32 (a1.tdiv 4)) < ((4096 : Nat) : Int) then (nm (vx 0 x0.w (wu32 (a1.tdiv 4) : Int).toNat) fun y27 => some (y27, 0)) else none)) else some (0, 4))
set_option maxRecDepth 100000 in
set_option maxHeartbeats 4000000 in
theorem memory_Memory_Word.calls (A0 : Option Addr) (x0 : Smemory_Memory) (a1 : Int) (r : Int × Int) (w0 : World) (hr0 : rSmemory_Memory w0 A0 x0) (H : memory_Memory_Word x0 a1 = some r) :
    Calls Try.prog 33 #[.pointer A0, .int .u32 a1] w0 fun e w' => e = .returned (.tuple #[.int .u32 r.1, .int .i64 r.2]) ∧ St [] w0 w' [] := by
 have hw : St [] w0 w0 [] := St.nil w0
 unfold memory_Memory_Word at H
 refine go_fn Try.func33 rfl Try.ntmps33 ?_; intro a hs
 obtain ⟨ad1, hAg⟩ := Rd.one hr0; subst hAg
 have hr2 : Rd w0 eSmemory_Memory (some ad1) 1 [x0] := hr0
 refine go_sp [] [(0, .pointer (some ad1))] hs ?_; clear hs; intro a hs
 refine go_sk fun K4 hK4 => ?_
 refine go_pvs 2 [0, 1] [(9, .pointer (some ad1)), (10, .int .u32 a1)] hs ?_; clear hs; intro a hs
 refine go_inline_k hs (by rfl) (f := 46) (args := #[.pointer (some ad1), .int .u32 a1, .int .u32 4]) (fun KR5 hKR5 => ?_)
 refine go_fn Try.func46 rfl Try.ntmps46 ?_; clear hs; intro a hs
 refine go_sp [] [] hs ?_; clear hs; intro a hs
 refine go_seq_k fun K7 hK7 => ?_
 refine wp_block ?_
 refine go_sp [2] [(8, .bool ((a1.tmod 4) != 0))] hs ?_; clear hs; intro a hs
 refine go_cond hs ((a1.tmod 4) != 0) (fun hc => ?_) fun hc => ?_
 ·replace H := ite_f H (bne_iff_ne.1 hc)
  have hb9 := hc
  rw [hb9] at hs
  refine go_sp [0, 1, 8] [(6, .pointer none), (7, .int .i64 4)] hs ?_; clear hs; intro a hs
  refine wp_ret ?_
  refine ib_ret ?_
  refine th_ret ?_
  refine ret2 (t1 := 6) (v1 := .pointer none) (t2 := 7) (v2 := .int .i64 4) hs (by kernel_rfl) (by kernel_rfl) (by kernel_rfl) ?_
  refine ⟨_, rfl, ?_⟩
  refine hKR5 _ _ ?_
  intro a hs1; have hs : Slots a _ [(11, .tuple #[.pointer none, .int .i64 4])] := hs1.kx; clear hs1
  refine go_pvs 8 [11] [(6, .pointer none), (7, .int .i64 4)] hs ?_; clear hs; intro a hs
  refine go_end (hK4 _ _ ?_)
  refine go_seq_k fun K11 hK11 => ?_
  refine go_sp [] [(15, .bool true)] hs ?_; clear hs; intro a hs
  refine go_cond hs true (fun hc => ?_) fun hc => ?_
  ·skip
   refine go_sp [6, 7, 15] [(4, .int .u32 0), (5, .int .i64 4)] hs ?_; clear hs; intro a hs
   refine wp_ret ?_
   refine th_ret ?_
   obtain rfl := Option.some.inj H
   refine ret2 (t1 := 4) (v1 := .int .u32 0) (t2 := 5) (v2 := .int .i64 4) hs (by kernel_rfl) (by kernel_rfl) (by kernel_rfl) ?_
   exact ⟨rfl, hw.only 0⟩
  ·cases hc
 ·replace H := ite_t H (bne_eq_false_iff_eq.1 hc)
  have hb14 := hc
  rw [hb14] at hs
  refine go_sk fun K15 hK15 => ?_
  refine go_pvs 6 [8] [(16, .int .i64 (w64 (wu32 (a1.tdiv 4)))), (19, .pointer (some ((ad1 : Addr).add 4096)))] hs ?_; clear hs; intro a hs
  refine go_run hs (by rfl) (x_ld (off := 4096) (p := (ad1 : Addr).add 4096) (v := .int .i64 x0.n) (hr2.old hw) (one_ok x0) (one_off _ _ _) (hv := ((vafter (cs := eSmemory_Memory.enc x0) (pre := []) (post := [.int .i64 x0.n]) (f := (fun j : Nat => .int .u32 (vx 0 x0.w j))) (n := 4096) (o := 4096) (j := 0) (by rw [List.nil_append, ← vec_range 0 x0.w (Value.int .u32)]; rfl) rfl).trans (by kernel_rfl)))) [19] ?_; clear hs; intro a hs
  refine go_pvs 9 [16, 20] [(13, .bool (decide ((w64 (wu32 (a1.tdiv 4))) ≥ x0.n)))] hs ?_; clear hs; intro a hs
  refine go_end (hK15 _ _ ?_)
  refine go_cond hs (decide ((w64 (wu32 (a1.tdiv 4))) ≥ x0.n)) (fun hc => ?_) fun hc => ?_
  ·replace H := ite_t H (of_decide_eq_true hc)
   have hb16 := hc
   rw [hb16] at hs
   refine go_sp [0, 1, 13] [(6, .pointer none), (7, .int .i64 3)] hs ?_; clear hs; intro a hs
   refine wp_ret ?_
   refine ib_ret ?_
   refine th_ret ?_
   refine ret2 (t1 := 6) (v1 := .pointer none) (t2 := 7) (v2 := .int .i64 3) hs (by kernel_rfl) (by kernel_rfl) (by kernel_rfl) ?_
   refine ⟨_, rfl, ?_⟩
   refine hKR5 _ _ ?_
   intro a hs1; have hs : Slots a _ [(11, .tuple #[.pointer none, .int .i64 3])] := hs1.kx; clear hs1
   refine go_pvs 8 [11] [(6, .pointer none), (7, .int .i64 3)] hs ?_; clear hs; intro a hs
   refine go_end (hK4 _ _ ?_)
   refine go_seq_k fun K18 hK18 => ?_
   refine go_sp [] [(15, .bool true)] hs ?_; clear hs; intro a hs
   refine go_cond hs true (fun hc => ?_) fun hc => ?_
   ·skip
    refine go_sp [6, 7, 15] [(4, .int .u32 0), (5, .int .i64 3)] hs ?_; clear hs; intro a hs
    refine wp_ret ?_
    refine th_ret ?_
    obtain rfl := Option.some.inj H
    refine ret2 (t1 := 4) (v1 := .int .u32 0) (t2 := 5) (v2 := .int .i64 3) hs (by kernel_rfl) (by kernel_rfl) (by kernel_rfl) ?_
    exact ⟨rfl, hw.only 0⟩
   ·cases hc
  ·replace H := ite_f H (of_decide_eq_false hc)
   have hb21 := hc
   rw [hb21] at hs
   refine wp_skip ?_
   refine ib_norm ?_
   refine hK7 _ _ ?_
   refine go_sk fun K22 hK22 => ?_
   refine go_pvs 5 [0, 1, 13] [(24, .int .u32 (wu32 (a1.tdiv 4))), (26, .pointer (some ((ad1 : Addr).add 0)))] hs ?_; clear hs; intro a hs
   obtain ⟨hp23, H⟩ := ite_only H
   refine go_run hs (by rfl) (x_vidx (e := 23) (p := (ad1 : Addr).add 0) (n := 4096) (k := .u32) (i := (wu32 (a1.tdiv 4))) (sz := 1) hp23) [24, 26] ?_; clear hs; intro a hs
   refine go_pvs 8 [27] [(6, .pointer (some (((ad1 : Addr).add 0 : Addr).add ((wu32 (a1.tdiv 4) : Int).toNat * 1)))), (7, .int .i64 0)] hs ?_; clear hs; intro a hs
   refine go_end (hK22 _ _ ?_)
   refine wp_ret ?_
   refine ret2 (t1 := 6) (v1 := .pointer (some (((ad1 : Addr).add 0 : Addr).add ((wu32 (a1.tdiv 4) : Int).toNat * 1)))) (t2 := 7) (v2 := .int .i64 0) hs (by kernel_rfl) (by kernel_rfl) (by kernel_rfl) ?_
   refine ⟨_, rfl, ?_⟩
   refine hKR5 _ _ ?_
   intro a hs1; have hs : Slots a _ [(11, .tuple #[.pointer (some (((ad1 : Addr).add 0 : Addr).add ((wu32 (a1.tdiv 4) : Int).toNat * 1))), .int .i64 0])] := hs1.kx; clear hs1
   refine go_pvs 8 [11] [(6, .pointer (some (((ad1 : Addr).add 0 : Addr).add ((wu32 (a1.tdiv 4) : Int).toNat * 1)))), (7, .int .i64 0)] hs ?_; clear hs; intro a hs
   refine go_end (hK4 _ _ ?_)
   refine go_seq_k fun K24 hK24 => ?_
   refine go_sp [] [(15, .bool false)] hs ?_; clear hs; intro a hs
   refine go_cond hs false (fun hc => ?_) fun hc => ?_
   ·cases hc
   ·skip
    refine wp_skip ?_
    refine hK24 _ _ ?_
    refine go_sk fun K26 hK26 => ?_
    refine go_pvs 2 [6, 15] [(18, .pointer (some (((ad1 : Addr).add 0 : Addr).add ((wu32 (a1.tdiv 4) : Int).toNat * 1))))] hs ?_; clear hs; intro a hs
    refine go_run hs (by rfl) (x_ld (off := 0 + (wu32 (a1.tdiv 4) : Int).toNat * 1) (p := ((ad1 : Addr).add 0 : Addr).add ((wu32 (a1.tdiv 4) : Int).toNat * 1)) (v := .int .u32 (vx 0 x0.w (wu32 (a1.tdiv 4) : Int).toNat)) (hr2.old hw) (one_ok x0) (by simp only [add_add', Int.toNat_zero, Nat.zero_mul, Nat.zero_add, Nat.mul_one] <;> rfl) (hv := (vget (cs := eSmemory_Memory.enc x0) (pre := []) (post := [.int .i64 x0.n]) (f := (fun j : Nat => .int .u32 (vx 0 x0.w j))) (n := 4096) (o := 0) (i := (wu32 (a1.tdiv 4) : Int).toNat) (by rw [List.nil_append, ← vec_range 0 x0.w (Value.int .u32)]; rfl) rfl (by have := hp23; omega)))) [18] ?_; clear hs; intro a hs
    refine go_pvs 6 [7, 19] [(4, .int .u32 (vx 0 x0.w (wu32 (a1.tdiv 4) : Int).toNat)), (5, .int .i64 0)] hs ?_; clear hs; intro a hs
    obtain ⟨y27, hy27, H⟩ := nm_some H
    replace hs : Slots a 21 [(4, .int .u32 y27), (5, .int .i64 0)] := by rw [hy27]; exact hs.kx
    refine go_end (hK26 _ _ ?_)
    refine wp_ret ?_
    obtain rfl := Option.some.inj H
    refine ret2 (t1 := 4) (v1 := .int .u32 y27) (t2 := 5) (v2 := .int .i64 0) hs (by kernel_rfl) (by kernel_rfl) (by kernel_rfl) ?_
    exact ⟨rfl, hw.only 0⟩

/-! (*rivet/memory.Memory).Byte: function 77 -/
noncomputable def memory_Memory_Byte (x0 : Smemory_Memory) (a1 : Int) : Option (Int × Int) := (if (a1.tmod 1) = 0 then (if (w64 (wu32 (a1.tdiv 4))) ≥ x0.n then some (0, 3) else (if 0 ≤ (wu32 (a1.tdiv 4)) ∧ (wu32 (a1.tdiv 4)) < ((4096 : Nat) : Int) then (if 0 ≤ (wu32 ((a1.tmod 4) * 8)) then (nm (wu8 (shr .u32 (vx 0 x0.w (wu32 (a1.tdiv 4) : Int).toNat) (wu32 ((a1.tmod 4) * 8)))) fun y28 => some (y28, 0)) else none) else none)) else some (0, 4))
set_option maxRecDepth 100000 in
set_option maxHeartbeats 4000000 in
theorem memory_Memory_Byte.calls (A0 : Option Addr) (x0 : Smemory_Memory) (a1 : Int) (r : Int × Int) (w0 : World) (hr0 : rSmemory_Memory w0 A0 x0) (H : memory_Memory_Byte x0 a1 = some r) :
    Calls Try.prog 77 #[.pointer A0, .int .u32 a1] w0 fun e w' => e = .returned (.tuple #[.int .u8 r.1, .int .i64 r.2]) ∧ St [] w0 w' [] := by
 have hw : St [] w0 w0 [] := St.nil w0
 unfold memory_Memory_Byte at H
 refine go_fn Try.func77 rfl Try.ntmps77 ?_; intro a hs
 obtain ⟨ad1, hAg⟩ := Rd.one hr0; subst hAg
 have hr2 : Rd w0 eSmemory_Memory (some ad1) 1 [x0] := hr0
 refine go_sp [] [(0, .pointer (some ad1))] hs ?_; clear hs; intro a hs
 refine go_sk fun K4 hK4 => ?_
 refine go_pvs 2 [0] [(9, .pointer (some ad1)), (10, .int .u32 a1)] hs ?_; clear hs; intro a hs
 refine go_inline_k hs (by rfl) (f := 46) (args := #[.pointer (some ad1), .int .u32 a1, .int .u32 1]) (fun KR5 hKR5 => ?_)
 refine go_fn Try.func46 rfl Try.ntmps46 ?_; clear hs; intro a hs
 refine go_sp [] [] hs ?_; clear hs; intro a hs
 refine go_seq_k fun K7 hK7 => ?_
 refine wp_block ?_
 refine go_sp [2] [(8, .bool ((a1.tmod 1) != 0))] hs ?_; clear hs; intro a hs
 refine go_cond hs ((a1.tmod 1) != 0) (fun hc => ?_) fun hc => ?_
 ·replace H := ite_f H (bne_iff_ne.1 hc)
  have hb9 := hc
  rw [hb9] at hs
  refine go_sp [0, 1, 8] [(6, .pointer none), (7, .int .i64 4)] hs ?_; clear hs; intro a hs
  refine wp_ret ?_
  refine ib_ret ?_
  refine th_ret ?_
  refine ret2 (t1 := 6) (v1 := .pointer none) (t2 := 7) (v2 := .int .i64 4) hs (by kernel_rfl) (by kernel_rfl) (by kernel_rfl) ?_
  refine ⟨_, rfl, ?_⟩
  refine hKR5 _ _ ?_
  intro a hs1; have hs : Slots a _ [(1, .int .u32 a1), (11, .tuple #[.pointer none, .int .i64 4])] := hs1.kx; clear hs1
  refine go_pvs 8 [11] [(6, .pointer none), (7, .int .i64 4)] hs ?_; clear hs; intro a hs
  refine go_end (hK4 _ _ ?_)
  refine go_seq_k fun K11 hK11 => ?_
  refine go_sp [] [(15, .bool true)] hs ?_; clear hs; intro a hs
  refine go_cond hs true (fun hc => ?_) fun hc => ?_
  ·skip
   refine go_sp [1, 6, 7, 15] [(4, .int .u8 0), (5, .int .i64 4)] hs ?_; clear hs; intro a hs
   refine wp_ret ?_
   refine th_ret ?_
   obtain rfl := Option.some.inj H
   refine ret2 (t1 := 4) (v1 := .int .u8 0) (t2 := 5) (v2 := .int .i64 4) hs (by kernel_rfl) (by kernel_rfl) (by kernel_rfl) ?_
   exact ⟨rfl, hw.only 0⟩
  ·cases hc
 ·replace H := ite_t H (bne_eq_false_iff_eq.1 hc)
  have hb14 := hc
  rw [hb14] at hs
  refine go_sk fun K15 hK15 => ?_
  refine go_pvs 6 [8] [(16, .int .i64 (w64 (wu32 (a1.tdiv 4)))), (19, .pointer (some ((ad1 : Addr).add 4096)))] hs ?_; clear hs; intro a hs
  refine go_run hs (by rfl) (x_ld (off := 4096) (p := (ad1 : Addr).add 4096) (v := .int .i64 x0.n) (hr2.old hw) (one_ok x0) (one_off _ _ _) (hv := ((vafter (cs := eSmemory_Memory.enc x0) (pre := []) (post := [.int .i64 x0.n]) (f := (fun j : Nat => .int .u32 (vx 0 x0.w j))) (n := 4096) (o := 4096) (j := 0) (by rw [List.nil_append, ← vec_range 0 x0.w (Value.int .u32)]; rfl) rfl).trans (by kernel_rfl)))) [19] ?_; clear hs; intro a hs
  refine go_pvs 9 [16, 20] [(13, .bool (decide ((w64 (wu32 (a1.tdiv 4))) ≥ x0.n)))] hs ?_; clear hs; intro a hs
  refine go_end (hK15 _ _ ?_)
  refine go_cond hs (decide ((w64 (wu32 (a1.tdiv 4))) ≥ x0.n)) (fun hc => ?_) fun hc => ?_
  ·replace H := ite_t H (of_decide_eq_true hc)
   have hb16 := hc
   rw [hb16] at hs
   refine go_sp [0, 1, 13] [(6, .pointer none), (7, .int .i64 3)] hs ?_; clear hs; intro a hs
   refine wp_ret ?_
   refine ib_ret ?_
   refine th_ret ?_
   refine ret2 (t1 := 6) (v1 := .pointer none) (t2 := 7) (v2 := .int .i64 3) hs (by kernel_rfl) (by kernel_rfl) (by kernel_rfl) ?_
   refine ⟨_, rfl, ?_⟩
   refine hKR5 _ _ ?_
   intro a hs1; have hs : Slots a _ [(1, .int .u32 a1), (11, .tuple #[.pointer none, .int .i64 3])] := hs1.kx; clear hs1
   refine go_pvs 8 [11] [(6, .pointer none), (7, .int .i64 3)] hs ?_; clear hs; intro a hs
   refine go_end (hK4 _ _ ?_)
   refine go_seq_k fun K18 hK18 => ?_
   refine go_sp [] [(15, .bool true)] hs ?_; clear hs; intro a hs
   refine go_cond hs true (fun hc => ?_) fun hc => ?_
   ·skip
    refine go_sp [1, 6, 7, 15] [(4, .int .u8 0), (5, .int .i64 3)] hs ?_; clear hs; intro a hs
    refine wp_ret ?_
    refine th_ret ?_
    obtain rfl := Option.some.inj H
    refine ret2 (t1 := 4) (v1 := .int .u8 0) (t2 := 5) (v2 := .int .i64 3) hs (by kernel_rfl) (by kernel_rfl) (by kernel_rfl) ?_
    exact ⟨rfl, hw.only 0⟩
   ·cases hc
  ·replace H := ite_f H (of_decide_eq_false hc)
   have hb21 := hc
   rw [hb21] at hs
   refine wp_skip ?_
   refine ib_norm ?_
   refine hK7 _ _ ?_
   refine go_sk fun K22 hK22 => ?_
   refine go_pvs 5 [0, 1, 13] [(24, .int .u32 (wu32 (a1.tdiv 4))), (26, .pointer (some ((ad1 : Addr).add 0)))] hs ?_; clear hs; intro a hs
   obtain ⟨hp23, H⟩ := ite_only H
   refine go_run hs (by rfl) (x_vidx (e := 23) (p := (ad1 : Addr).add 0) (n := 4096) (k := .u32) (i := (wu32 (a1.tdiv 4))) (sz := 1) hp23) [24, 26] ?_; clear hs; intro a hs
   refine go_pvs 8 [27] [(6, .pointer (some (((ad1 : Addr).add 0 : Addr).add ((wu32 (a1.tdiv 4) : Int).toNat * 1)))), (7, .int .i64 0)] hs ?_; clear hs; intro a hs
   refine go_end (hK22 _ _ ?_)
   refine wp_ret ?_
   refine ret2 (t1 := 6) (v1 := .pointer (some (((ad1 : Addr).add 0 : Addr).add ((wu32 (a1.tdiv 4) : Int).toNat * 1)))) (t2 := 7) (v2 := .int .i64 0) hs (by kernel_rfl) (by kernel_rfl) (by kernel_rfl) ?_
   refine ⟨_, rfl, ?_⟩
   refine hKR5 _ _ ?_
   intro a hs1; have hs : Slots a _ [(1, .int .u32 a1), (11, .tuple #[.pointer (some (((ad1 : Addr).add 0 : Addr).add ((wu32 (a1.tdiv 4) : Int).toNat * 1))), .int .i64 0])] := hs1.kx; clear hs1
   refine go_pvs 8 [11] [(6, .pointer (some (((ad1 : Addr).add 0 : Addr).add ((wu32 (a1.tdiv 4) : Int).toNat * 1)))), (7, .int .i64 0)] hs ?_; clear hs; intro a hs
   refine go_end (hK4 _ _ ?_)
   refine go_seq_k fun K24 hK24 => ?_
   refine go_sp [] [(15, .bool false)] hs ?_; clear hs; intro a hs
   refine go_cond hs false (fun hc => ?_) fun hc => ?_
   ·cases hc
   ·skip
    refine wp_skip ?_
    refine hK24 _ _ ?_
    refine go_sk fun K26 hK26 => ?_
    refine go_pvs 2 [6, 15] [(18, .pointer (some (((ad1 : Addr).add 0 : Addr).add ((wu32 (a1.tdiv 4) : Int).toNat * 1))))] hs ?_; clear hs; intro a hs
    refine go_run hs (by rfl) (x_ld (off := 0 + (wu32 (a1.tdiv 4) : Int).toNat * 1) (p := ((ad1 : Addr).add 0 : Addr).add ((wu32 (a1.tdiv 4) : Int).toNat * 1)) (v := .int .u32 (vx 0 x0.w (wu32 (a1.tdiv 4) : Int).toNat)) (hr2.old hw) (one_ok x0) (by simp only [add_add', Int.toNat_zero, Nat.zero_mul, Nat.zero_add, Nat.mul_one] <;> rfl) (hv := (vget (cs := eSmemory_Memory.enc x0) (pre := []) (post := [.int .i64 x0.n]) (f := (fun j : Nat => .int .u32 (vx 0 x0.w j))) (n := 4096) (o := 0) (i := (wu32 (a1.tdiv 4) : Int).toNat) (by rw [List.nil_append, ← vec_range 0 x0.w (Value.int .u32)]; rfl) rfl (by have := hp23; omega)))) [18] ?_; clear hs; intro a hs
    refine go_pvs 6 [1] [(22, .int .u32 (wu32 ((a1.tmod 4) * 8)))] hs ?_; clear hs; intro a hs
    obtain ⟨hp27, H⟩ := ite_only H
    refine go_run hs (by rfl) (x_shr (k := .u32) (k' := .u32) (m := vx 0 x0.w (wu32 (a1.tdiv 4) : Int).toNat) (n := wu32 ((a1.tmod 4) * 8)) (by kernel_rfl) (by kernel_rfl) hp27) [19, 22] ?_; clear hs; intro a hs
    refine go_pvs 11 [7, 23] [(4, .int .u8 (wu8 (shr .u32 (vx 0 x0.w (wu32 (a1.tdiv 4) : Int).toNat) (wu32 ((a1.tmod 4) * 8))))), (5, .int .i64 0)] hs ?_; clear hs; intro a hs
    obtain ⟨y28, hy28, H⟩ := nm_some H
    replace hs : Slots a 26 [(4, .int .u8 y28), (5, .int .i64 0)] := by rw [hy28]; exact hs.kx
    refine go_end (hK26 _ _ ?_)
    refine wp_ret ?_
    obtain rfl := Option.some.inj H
    refine ret2 (t1 := 4) (v1 := .int .u8 y28) (t2 := 5) (v2 := .int .i64 0) hs (by kernel_rfl) (by kernel_rfl) (by kernel_rfl) ?_
    exact ⟨rfl, hw.only 0⟩

/-! (*rivet/memory.Memory).SetWord: function 76 -/
noncomputable def memory_Memory_SetWord.j1 (x0 : Smemory_Memory) : Option (Int × Smemory_Memory) := some (4, x0)
noncomputable def memory_Memory_SetWord.j2 (x0 : Smemory_Memory) : Option (Int × Smemory_Memory) := some (3, x0)
noncomputable def memory_Memory_SetWord.j3 (v27 : Smemory_Memory) : Option (Int × Smemory_Memory) := some (0, v27)
noncomputable def memory_Memory_SetWord (x0 : Smemory_Memory) (a1 : Int) (a2 : Int) : Option (Int × Smemory_Memory) := (if (a1.tmod 4) = 0 then (if (w64 (wu32 (a1.tdiv 4))) ≥ x0.n then memory_Memory_SetWord.j2 x0 else (if 0 ≤ (wu32 (a1.tdiv 4)) ∧ (wu32 (a1.tdiv 4)) < ((4096 : Nat) : Int) then memory_Memory_SetWord.j3 ({ x0 with w := vset x0.w (wu32 (a1.tdiv 4) : Int).toNat a2 } : Smemory_Memory) else none)) else memory_Memory_SetWord.j1 x0)
set_option maxRecDepth 100000 in
set_option maxHeartbeats 4000000 in
theorem memory_Memory_SetWord.calls (ks0 : List Nat) (A0 : Option Addr) (x0 : Smemory_Memory) (a1 : Int) (a2 : Int) (r : Int × Smemory_Memory) (w0 : World) (hw : St ks0 w0 w0 [mSmemory_Memory A0 x0]) (H : memory_Memory_SetWord x0 a1 a2 = some r) :
    Calls Try.prog 76 #[.pointer A0, .int .u32 a1, .int .u32 a2] w0 fun e w' => e = .returned (.int .i64 r.1) ∧ St ks0 w0 w' [mSmemory_Memory A0 r.2] := by
 unfold memory_Memory_SetWord at H
 refine go_fn Try.func76 rfl Try.ntmps76 ?_; intro a hs
 obtain ⟨g1, hAg, hwg⟩ := St.one hw
 clear hw; subst hAg; have hw := hwg; clear hwg
 refine go_sp [] [(0, .pointer (some (⟨g1, 0, none⟩ : Addr)))] hs ?_; clear hs; intro a hs
 refine go_sk fun K3 hK3 => ?_
 refine go_pvs 2 [0, 1] [(10, .pointer (some (⟨g1, 0, none⟩ : Addr))), (11, .int .u32 a1)] hs ?_; clear hs; intro a hs
 refine go_inline_k hs (by rfl) (f := 46) (args := #[.pointer (some (⟨g1, 0, none⟩ : Addr)), .int .u32 a1, .int .u32 4]) (fun KR4 hKR4 => ?_)
 refine go_fn Try.func46 rfl Try.ntmps46 ?_; clear hs; intro a hs
 refine go_sp [] [] hs ?_; clear hs; intro a hs
 refine go_seq_k fun K6 hK6 => ?_
 refine wp_block ?_
 refine go_sp [2] [(8, .bool ((a1.tmod 4) != 0))] hs ?_; clear hs; intro a hs
 refine go_cond hs ((a1.tmod 4) != 0) (fun hc => ?_) fun hc => ?_
 ·replace H := ite_f H (bne_iff_ne.1 hc)
  have hb8 := hc
  rw [hb8] at hs
  refine go_sp [0, 1, 8] [(6, .pointer none), (7, .int .i64 4)] hs ?_; clear hs; intro a hs
  refine wp_ret ?_
  refine ib_ret ?_
  refine th_ret ?_
  refine ret2 (t1 := 6) (v1 := .pointer none) (t2 := 7) (v2 := .int .i64 4) hs (by kernel_rfl) (by kernel_rfl) (by kernel_rfl) ?_
  refine ⟨_, rfl, ?_⟩
  refine hKR4 _ _ ?_
  intro a hs1; have hs : Slots a _ [(2, .int .u32 a2), (12, .tuple #[.pointer none, .int .i64 4])] := hs1.kx; clear hs1
  refine go_pvs 8 [12] [(7, .pointer none), (8, .int .i64 4)] hs ?_; clear hs; intro a hs
  refine go_end (hK3 _ _ ?_)
  refine go_seq_k fun K10 hK10 => ?_
  have hJ1 : ∀ (a : Act) (w : World), Slots a 21 [(8, .int .i64 4)] → St ks0 w0 w [own 75 eSmemory_Memory (some (⟨g1, 0, none⟩ : Addr)) 1 [x0]] → memory_Memory_SetWord.j1 x0 = some r → K10 a w := by
   intro a w hs hw H
   unfold memory_Memory_SetWord.j1 at H
   refine hK10 _ _ ?_
   refine go_sp [8] [(6, .int .i64 4)] hs ?_; clear hs; intro a hs
   refine wp_ret ?_
   obtain rfl := Option.some.inj H
   refine ret1 (t := 6) (v := .int .i64 4) hs (by kernel_rfl) (by kernel_rfl) ?_
   exact ⟨rfl, hw.only 1⟩
  refine go_sp [] [(16, .bool false)] hs ?_; clear hs; intro a hs
  refine go_cond hs false (fun hc => ?_) fun hc => ?_
  ·cases hc
  ·skip
   refine wp_skip ?_
   exact hJ1 _ _ hs.kx hw H
 ·replace H := ite_t H (bne_eq_false_iff_eq.1 hc)
  have hb13 := hc
  rw [hb13] at hs
  refine go_sk fun K14 hK14 => ?_
  refine go_pvs 6 [8] [(16, .int .i64 (w64 (wu32 (a1.tdiv 4)))), (19, .pointer (some (((⟨g1, 0, none⟩ : Addr) : Addr).add 4096)))] hs ?_; clear hs; intro a hs
  refine go_run hs (by rfl) (x_ld (off := 4096) (p := ((⟨g1, 0, none⟩ : Addr) : Addr).add 4096) (v := .int .i64 x0.n) (Rd.of_own (hw.up 0)) (one_ok x0) (one_off _ _ _) (hv := ((vafter (cs := eSmemory_Memory.enc x0) (pre := []) (post := [.int .i64 x0.n]) (f := (fun j : Nat => .int .u32 (vx 0 x0.w j))) (n := 4096) (o := 4096) (j := 0) (by rw [List.nil_append, ← vec_range 0 x0.w (Value.int .u32)]; rfl) rfl).trans (by kernel_rfl)))) [19] ?_; clear hs; intro a hs
  refine go_pvs 9 [16, 20] [(13, .bool (decide ((w64 (wu32 (a1.tdiv 4))) ≥ x0.n)))] hs ?_; clear hs; intro a hs
  refine go_end (hK14 _ _ ?_)
  refine go_cond hs (decide ((w64 (wu32 (a1.tdiv 4))) ≥ x0.n)) (fun hc => ?_) fun hc => ?_
  ·replace H := ite_t H (of_decide_eq_true hc)
   have hb15 := hc
   rw [hb15] at hs
   refine go_sp [0, 1, 13] [(6, .pointer none), (7, .int .i64 3)] hs ?_; clear hs; intro a hs
   refine wp_ret ?_
   refine ib_ret ?_
   refine th_ret ?_
   refine ret2 (t1 := 6) (v1 := .pointer none) (t2 := 7) (v2 := .int .i64 3) hs (by kernel_rfl) (by kernel_rfl) (by kernel_rfl) ?_
   refine ⟨_, rfl, ?_⟩
   refine hKR4 _ _ ?_
   intro a hs1; have hs : Slots a _ [(2, .int .u32 a2), (12, .tuple #[.pointer none, .int .i64 3])] := hs1.kx; clear hs1
   refine go_pvs 8 [12] [(7, .pointer none), (8, .int .i64 3)] hs ?_; clear hs; intro a hs
   refine go_end (hK3 _ _ ?_)
   refine go_seq_k fun K17 hK17 => ?_
   have hJ2 : ∀ (a : Act) (w : World), Slots a 21 [(8, .int .i64 3)] → St ks0 w0 w [own 75 eSmemory_Memory (some (⟨g1, 0, none⟩ : Addr)) 1 [x0]] → memory_Memory_SetWord.j2 x0 = some r → K17 a w := by
    intro a w hs hw H
    unfold memory_Memory_SetWord.j2 at H
    refine hK17 _ _ ?_
    refine go_sp [8] [(6, .int .i64 3)] hs ?_; clear hs; intro a hs
    refine wp_ret ?_
    obtain rfl := Option.some.inj H
    refine ret1 (t := 6) (v := .int .i64 3) hs (by kernel_rfl) (by kernel_rfl) ?_
    exact ⟨rfl, hw.only 1⟩
   refine go_sp [] [(16, .bool false)] hs ?_; clear hs; intro a hs
   refine go_cond hs false (fun hc => ?_) fun hc => ?_
   ·cases hc
   ·skip
    refine wp_skip ?_
    exact hJ2 _ _ hs.kx hw H
  ·replace H := ite_f H (of_decide_eq_false hc)
   have hb20 := hc
   rw [hb20] at hs
   refine wp_skip ?_
   refine ib_norm ?_
   refine hK6 _ _ ?_
   refine go_sk fun K21 hK21 => ?_
   refine go_pvs 5 [0, 1, 13] [(24, .int .u32 (wu32 (a1.tdiv 4))), (26, .pointer (some (((⟨g1, 0, none⟩ : Addr) : Addr).add 0)))] hs ?_; clear hs; intro a hs
   obtain ⟨hp22, H⟩ := ite_only H
   refine go_run hs (by rfl) (x_vidx (e := 23) (p := ((⟨g1, 0, none⟩ : Addr) : Addr).add 0) (n := 4096) (k := .u32) (i := (wu32 (a1.tdiv 4))) (sz := 1) hp22) [24, 26] ?_; clear hs; intro a hs
   refine go_pvs 8 [27] [(6, .pointer (some ((((⟨g1, 0, none⟩ : Addr) : Addr).add 0 : Addr).add ((wu32 (a1.tdiv 4) : Int).toNat * 1)))), (7, .int .i64 0)] hs ?_; clear hs; intro a hs
   refine go_end (hK21 _ _ ?_)
   refine wp_ret ?_
   refine ret2 (t1 := 6) (v1 := .pointer (some ((((⟨g1, 0, none⟩ : Addr) : Addr).add 0 : Addr).add ((wu32 (a1.tdiv 4) : Int).toNat * 1)))) (t2 := 7) (v2 := .int .i64 0) hs (by kernel_rfl) (by kernel_rfl) (by kernel_rfl) ?_
   refine ⟨_, rfl, ?_⟩
   refine hKR4 _ _ ?_
   intro a hs1; have hs : Slots a _ [(2, .int .u32 a2), (12, .tuple #[.pointer (some ((((⟨g1, 0, none⟩ : Addr) : Addr).add 0 : Addr).add ((wu32 (a1.tdiv 4) : Int).toNat * 1))), .int .i64 0])] := hs1.kx; clear hs1
   refine go_pvs 8 [12] [(7, .pointer (some ((((⟨g1, 0, none⟩ : Addr) : Addr).add 0 : Addr).add ((wu32 (a1.tdiv 4) : Int).toNat * 1)))), (8, .int .i64 0)] hs ?_; clear hs; intro a hs
   refine go_end (hK3 _ _ ?_)
   refine go_seq_k fun K23 hK23 => ?_
   have hJ3 : ∀ (v27 : Smemory_Memory) (a : Act) (w : World), Slots a 21 [(8, .int .i64 0)] → St ks0 w0 w [own 75 eSmemory_Memory (some (⟨g1, 0, none⟩ : Addr)) 1 [v27]] → memory_Memory_SetWord.j3 v27 = some r → K23 a w := by
    intro v27 a w hs hw H
    unfold memory_Memory_SetWord.j3 at H
    refine hK23 _ _ ?_
    refine go_sp [8] [(6, .int .i64 0)] hs ?_; clear hs; intro a hs
    refine wp_ret ?_
    obtain rfl := Option.some.inj H
    refine ret1 (t := 6) (v := .int .i64 0) hs (by kernel_rfl) (by kernel_rfl) ?_
    exact ⟨rfl, hw.only 1⟩
   refine go_sp [] [(16, .bool true)] hs ?_; clear hs; intro a hs
   refine go_cond hs true (fun hc => ?_) fun hc => ?_
   ·skip
    refine go_region ?_
    refine go_pvs 3 [2, 7, 16] [(18, .int .u32 a2), (19, .pointer (some ((((⟨g1, 0, none⟩ : Addr) : Addr).add 0 : Addr).add ((wu32 (a1.tdiv 4) : Int).toNat * 1))))] hs ?_; clear hs; intro a hs
    obtain ⟨wd25, hx26, hw⟩ := x_put (P := Try.prog) (ty := 0) (t := 23) (x := (Operand.tmp 19)) (y := (Operand.tmp 18)) (off := 0 + (wu32 (a1.tdiv 4) : Int).toNat * 1) (p := (((⟨g1, 0, none⟩ : Addr) : Addr).add 0 : Addr).add ((wu32 (a1.tdiv 4) : Int).toNat * 1)) (v := .int .u32 a2) (vs := [.int .u32 a2]) (i := 0) (e' := (({ x0 with w := vset x0.w (wu32 (a1.tdiv 4) : Int).toNat a2 } : Smemory_Memory) : Smemory_Memory)) hs hw rfl (one_ok x0).1 (one_ok x0).2 (by kernel_rfl) (by simp only [add_add', Int.toNat_zero, Nat.zero_mul, Nat.zero_add, Nat.mul_one] <;> rfl) (by kernel_rfl) rfl (by kernel_rfl) (by have := hp22; show 0 + _ * 1 + 1 ≤ 4097; omega) (by simp [Value.oneCell']) (vput (cs := eSmemory_Memory.enc x0) (cs' := eSmemory_Memory.enc ({ x0 with w := vset x0.w (wu32 (a1.tdiv 4) : Int).toNat a2 } : Smemory_Memory)) (pre := []) (post := [.int .i64 x0.n]) (f := (fun j : Nat => .int .u32 (vx 0 x0.w j))) (f' := (fun j : Nat => .int .u32 (vx 0 (vset x0.w (wu32 (a1.tdiv 4) : Int).toNat a2) j))) (n := 4096) (o := 0) (i := (wu32 (a1.tdiv 4) : Int).toNat) (v := .int .u32 a2) (by rw [List.nil_append, ← vec_range 0 x0.w (Value.int .u32)]; rfl) (by rw [List.nil_append, ← vec_range 0 (vset x0.w (wu32 (a1.tdiv 4) : Int).toNat a2) (Value.int .u32)]; rfl) rfl (by have := hp22; omega) (vx_put (by have := hp22; omega)))
    refine go_unit hs (by rfl) hx26 [18, 19] ?_; clear hs; intro a hs
    replace hw : St ks0 w0 wd25 [own 75 eSmemory_Memory (some (⟨g1, 0, none⟩ : Addr)) 1 [({ x0 with w := vset x0.w (wu32 (a1.tdiv 4) : Int).toNat a2 } : Smemory_Memory)]] := hw
    refine go_end ?_
    exact hJ3 ({ x0 with w := vset x0.w (wu32 (a1.tdiv 4) : Int).toNat a2 } : Smemory_Memory) _ _ hs.kx hw H
   ·cases hc

/-! (*rivet/memory.Memory).SetByte: function 75 -/
noncomputable def memory_Memory_SetByte.j1 (x0 : Smemory_Memory) : Option (Int × Smemory_Memory) := some (4, x0)
noncomputable def memory_Memory_SetByte.j2 (x0 : Smemory_Memory) : Option (Int × Smemory_Memory) := some (3, x0)
noncomputable def memory_Memory_SetByte.j3 (v30 : Smemory_Memory) : Option (Int × Smemory_Memory) := some (0, v30)
noncomputable def memory_Memory_SetByte (x0 : Smemory_Memory) (a1 : Int) (a2 : Int) : Option (Int × Smemory_Memory) := (if (a1.tmod 1) = 0 then (if (w64 (wu32 (a1.tdiv 4))) ≥ x0.n then memory_Memory_SetByte.j2 x0 else (if 0 ≤ (wu32 (a1.tdiv 4)) ∧ (wu32 (a1.tdiv 4)) < ((4096 : Nat) : Int) then (if 0 ≤ (wu32 ((a1.tmod 4) * 8)) then (if 0 ≤ (wu32 ((a1.tmod 4) * 8)) then memory_Memory_SetByte.j3 ({ x0 with w := vset x0.w (wu32 (a1.tdiv 4) : Int).toNat (bor .u32 (bandn .u32 (vx 0 x0.w (wu32 (a1.tdiv 4) : Int).toNat) (shl .u32 255 (wu32 ((a1.tmod 4) * 8)))) (shl .u32 (wu32 a2) (wu32 ((a1.tmod 4) * 8)))) } : Smemory_Memory) else none) else none) else none)) else memory_Memory_SetByte.j1 x0)
set_option maxRecDepth 100000 in
set_option maxHeartbeats 4000000 in
theorem memory_Memory_SetByte.calls (ks0 : List Nat) (A0 : Option Addr) (x0 : Smemory_Memory) (a1 : Int) (a2 : Int) (r : Int × Smemory_Memory) (w0 : World) (hw : St ks0 w0 w0 [mSmemory_Memory A0 x0]) (H : memory_Memory_SetByte x0 a1 a2 = some r) :
    Calls Try.prog 75 #[.pointer A0, .int .u32 a1, .int .u8 a2] w0 fun e w' => e = .returned (.int .i64 r.1) ∧ St ks0 w0 w' [mSmemory_Memory A0 r.2] := by
 unfold memory_Memory_SetByte at H
 refine go_fn Try.func75 rfl Try.ntmps75 ?_; intro a hs
 obtain ⟨g1, hAg, hwg⟩ := St.one hw
 clear hw; subst hAg; have hw := hwg; clear hwg
 refine go_sp [] [(0, .pointer (some (⟨g1, 0, none⟩ : Addr)))] hs ?_; clear hs; intro a hs
 refine go_sk fun K3 hK3 => ?_
 refine go_pvs 2 [0] [(11, .pointer (some (⟨g1, 0, none⟩ : Addr))), (12, .int .u32 a1)] hs ?_; clear hs; intro a hs
 refine go_inline_k hs (by rfl) (f := 46) (args := #[.pointer (some (⟨g1, 0, none⟩ : Addr)), .int .u32 a1, .int .u32 1]) (fun KR4 hKR4 => ?_)
 refine go_fn Try.func46 rfl Try.ntmps46 ?_; clear hs; intro a hs
 refine go_sp [] [] hs ?_; clear hs; intro a hs
 refine go_seq_k fun K6 hK6 => ?_
 refine wp_block ?_
 refine go_sp [2] [(8, .bool ((a1.tmod 1) != 0))] hs ?_; clear hs; intro a hs
 refine go_cond hs ((a1.tmod 1) != 0) (fun hc => ?_) fun hc => ?_
 ·replace H := ite_f H (bne_iff_ne.1 hc)
  have hb8 := hc
  rw [hb8] at hs
  refine go_sp [0, 1, 8] [(6, .pointer none), (7, .int .i64 4)] hs ?_; clear hs; intro a hs
  refine wp_ret ?_
  refine ib_ret ?_
  refine th_ret ?_
  refine ret2 (t1 := 6) (v1 := .pointer none) (t2 := 7) (v2 := .int .i64 4) hs (by kernel_rfl) (by kernel_rfl) (by kernel_rfl) ?_
  refine ⟨_, rfl, ?_⟩
  refine hKR4 _ _ ?_
  intro a hs1; have hs : Slots a _ [(1, .int .u32 a1), (2, .int .u8 a2), (13, .tuple #[.pointer none, .int .i64 4])] := hs1.kx; clear hs1
  refine go_pvs 8 [13] [(7, .pointer none), (8, .int .i64 4)] hs ?_; clear hs; intro a hs
  refine go_end (hK3 _ _ ?_)
  refine go_seq_k fun K10 hK10 => ?_
  have hJ1 : ∀ (a : Act) (w : World), Slots a 35 [(8, .int .i64 4)] → St ks0 w0 w [own 75 eSmemory_Memory (some (⟨g1, 0, none⟩ : Addr)) 1 [x0]] → memory_Memory_SetByte.j1 x0 = some r → K10 a w := by
   intro a w hs hw H
   unfold memory_Memory_SetByte.j1 at H
   refine hK10 _ _ ?_
   refine go_sp [8] [(6, .int .i64 4)] hs ?_; clear hs; intro a hs
   refine wp_ret ?_
   obtain rfl := Option.some.inj H
   refine ret1 (t := 6) (v := .int .i64 4) hs (by kernel_rfl) (by kernel_rfl) ?_
   exact ⟨rfl, hw.only 1⟩
  refine go_sp [] [(17, .bool false)] hs ?_; clear hs; intro a hs
  refine go_cond hs false (fun hc => ?_) fun hc => ?_
  ·cases hc
  ·skip
   refine wp_skip ?_
   exact hJ1 _ _ hs.kx hw H
 ·replace H := ite_t H (bne_eq_false_iff_eq.1 hc)
  have hb13 := hc
  rw [hb13] at hs
  refine go_sk fun K14 hK14 => ?_
  refine go_pvs 6 [8] [(16, .int .i64 (w64 (wu32 (a1.tdiv 4)))), (19, .pointer (some (((⟨g1, 0, none⟩ : Addr) : Addr).add 4096)))] hs ?_; clear hs; intro a hs
  refine go_run hs (by rfl) (x_ld (off := 4096) (p := ((⟨g1, 0, none⟩ : Addr) : Addr).add 4096) (v := .int .i64 x0.n) (Rd.of_own (hw.up 0)) (one_ok x0) (one_off _ _ _) (hv := ((vafter (cs := eSmemory_Memory.enc x0) (pre := []) (post := [.int .i64 x0.n]) (f := (fun j : Nat => .int .u32 (vx 0 x0.w j))) (n := 4096) (o := 4096) (j := 0) (by rw [List.nil_append, ← vec_range 0 x0.w (Value.int .u32)]; rfl) rfl).trans (by kernel_rfl)))) [19] ?_; clear hs; intro a hs
  refine go_pvs 9 [16, 20] [(13, .bool (decide ((w64 (wu32 (a1.tdiv 4))) ≥ x0.n)))] hs ?_; clear hs; intro a hs
  refine go_end (hK14 _ _ ?_)
  refine go_cond hs (decide ((w64 (wu32 (a1.tdiv 4))) ≥ x0.n)) (fun hc => ?_) fun hc => ?_
  ·replace H := ite_t H (of_decide_eq_true hc)
   have hb15 := hc
   rw [hb15] at hs
   refine go_sp [0, 1, 13] [(6, .pointer none), (7, .int .i64 3)] hs ?_; clear hs; intro a hs
   refine wp_ret ?_
   refine ib_ret ?_
   refine th_ret ?_
   refine ret2 (t1 := 6) (v1 := .pointer none) (t2 := 7) (v2 := .int .i64 3) hs (by kernel_rfl) (by kernel_rfl) (by kernel_rfl) ?_
   refine ⟨_, rfl, ?_⟩
   refine hKR4 _ _ ?_
   intro a hs1; have hs : Slots a _ [(1, .int .u32 a1), (2, .int .u8 a2), (13, .tuple #[.pointer none, .int .i64 3])] := hs1.kx; clear hs1
   refine go_pvs 8 [13] [(7, .pointer none), (8, .int .i64 3)] hs ?_; clear hs; intro a hs
   refine go_end (hK3 _ _ ?_)
   refine go_seq_k fun K17 hK17 => ?_
   have hJ2 : ∀ (a : Act) (w : World), Slots a 35 [(8, .int .i64 3)] → St ks0 w0 w [own 75 eSmemory_Memory (some (⟨g1, 0, none⟩ : Addr)) 1 [x0]] → memory_Memory_SetByte.j2 x0 = some r → K17 a w := by
    intro a w hs hw H
    unfold memory_Memory_SetByte.j2 at H
    refine hK17 _ _ ?_
    refine go_sp [8] [(6, .int .i64 3)] hs ?_; clear hs; intro a hs
    refine wp_ret ?_
    obtain rfl := Option.some.inj H
    refine ret1 (t := 6) (v := .int .i64 3) hs (by kernel_rfl) (by kernel_rfl) ?_
    exact ⟨rfl, hw.only 1⟩
   refine go_sp [] [(17, .bool false)] hs ?_; clear hs; intro a hs
   refine go_cond hs false (fun hc => ?_) fun hc => ?_
   ·cases hc
   ·skip
    refine wp_skip ?_
    exact hJ2 _ _ hs.kx hw H
  ·replace H := ite_f H (of_decide_eq_false hc)
   have hb20 := hc
   rw [hb20] at hs
   refine wp_skip ?_
   refine ib_norm ?_
   refine hK6 _ _ ?_
   refine go_sk fun K21 hK21 => ?_
   refine go_pvs 5 [0, 1, 13] [(24, .int .u32 (wu32 (a1.tdiv 4))), (26, .pointer (some (((⟨g1, 0, none⟩ : Addr) : Addr).add 0)))] hs ?_; clear hs; intro a hs
   obtain ⟨hp22, H⟩ := ite_only H
   refine go_run hs (by rfl) (x_vidx (e := 23) (p := ((⟨g1, 0, none⟩ : Addr) : Addr).add 0) (n := 4096) (k := .u32) (i := (wu32 (a1.tdiv 4))) (sz := 1) hp22) [24, 26] ?_; clear hs; intro a hs
   refine go_pvs 8 [27] [(6, .pointer (some ((((⟨g1, 0, none⟩ : Addr) : Addr).add 0 : Addr).add ((wu32 (a1.tdiv 4) : Int).toNat * 1)))), (7, .int .i64 0)] hs ?_; clear hs; intro a hs
   refine go_end (hK21 _ _ ?_)
   refine wp_ret ?_
   refine ret2 (t1 := 6) (v1 := .pointer (some ((((⟨g1, 0, none⟩ : Addr) : Addr).add 0 : Addr).add ((wu32 (a1.tdiv 4) : Int).toNat * 1)))) (t2 := 7) (v2 := .int .i64 0) hs (by kernel_rfl) (by kernel_rfl) (by kernel_rfl) ?_
   refine ⟨_, rfl, ?_⟩
   refine hKR4 _ _ ?_
   intro a hs1; have hs : Slots a _ [(1, .int .u32 a1), (2, .int .u8 a2), (13, .tuple #[.pointer (some ((((⟨g1, 0, none⟩ : Addr) : Addr).add 0 : Addr).add ((wu32 (a1.tdiv 4) : Int).toNat * 1))), .int .i64 0])] := hs1.kx; clear hs1
   refine go_pvs 8 [13] [(7, .pointer (some ((((⟨g1, 0, none⟩ : Addr) : Addr).add 0 : Addr).add ((wu32 (a1.tdiv 4) : Int).toNat * 1)))), (8, .int .i64 0)] hs ?_; clear hs; intro a hs
   refine go_end (hK3 _ _ ?_)
   refine go_seq_k fun K23 hK23 => ?_
   have hJ3 : ∀ (v30 : Smemory_Memory) (a : Act) (w : World), Slots a 35 [(8, .int .i64 0)] → St ks0 w0 w [own 75 eSmemory_Memory (some (⟨g1, 0, none⟩ : Addr)) 1 [v30]] → memory_Memory_SetByte.j3 v30 = some r → K23 a w := by
    intro v30 a w hs hw H
    unfold memory_Memory_SetByte.j3 at H
    refine hK23 _ _ ?_
    refine go_sp [8] [(6, .int .i64 0)] hs ?_; clear hs; intro a hs
    refine wp_ret ?_
    obtain rfl := Option.some.inj H
    refine ret1 (t := 6) (v := .int .i64 0) hs (by kernel_rfl) (by kernel_rfl) ?_
    exact ⟨rfl, hw.only 1⟩
   refine go_sp [] [(17, .bool true)] hs ?_; clear hs; intro a hs
   refine go_cond hs true (fun hc => ?_) fun hc => ?_
   ·skip
    refine go_sp [1, 17] [(9, .int .u32 (wu32 ((a1.tmod 4) * 8)))] hs ?_; clear hs; intro a hs
    refine go_region ?_
    refine go_pvs 3 [7] [(21, .pointer (some ((((⟨g1, 0, none⟩ : Addr) : Addr).add 0 : Addr).add ((wu32 (a1.tdiv 4) : Int).toNat * 1)))), (23, .pointer (some ((((⟨g1, 0, none⟩ : Addr) : Addr).add 0 : Addr).add ((wu32 (a1.tdiv 4) : Int).toNat * 1))))] hs ?_; clear hs; intro a hs
    refine go_run hs (by rfl) (x_ld (off := 0 + (wu32 (a1.tdiv 4) : Int).toNat * 1) (p := (((⟨g1, 0, none⟩ : Addr) : Addr).add 0 : Addr).add ((wu32 (a1.tdiv 4) : Int).toNat * 1)) (v := .int .u32 (vx 0 x0.w (wu32 (a1.tdiv 4) : Int).toNat)) (Rd.of_own (hw.up 0)) (one_ok x0) (by simp only [add_add', Int.toNat_zero, Nat.zero_mul, Nat.zero_add, Nat.mul_one] <;> rfl) (hv := (vget (cs := eSmemory_Memory.enc x0) (pre := []) (post := [.int .i64 x0.n]) (f := (fun j : Nat => .int .u32 (vx 0 x0.w j))) (n := 4096) (o := 0) (i := (wu32 (a1.tdiv 4) : Int).toNat) (by rw [List.nil_append, ← vec_range 0 x0.w (Value.int .u32)]; rfl) rfl (by have := hp22; omega)))) [23] ?_; clear hs; intro a hs
    refine go_pvs 5 [] [(25, .int .u32 (wu32 ((a1.tmod 4) * 8)))] hs ?_; clear hs; intro a hs
    obtain ⟨hp26, H⟩ := ite_only H
    refine go_run hs (by rfl) (x_shl (k := .u32) (k' := .u32) (m := 255) (n := wu32 ((a1.tmod 4) * 8)) (by kernel_rfl) (by kernel_rfl) hp26) [25] ?_; clear hs; intro a hs
    refine go_pvs 10 [2, 9, 24, 26] [(27, .int .u32 (bandn .u32 (vx 0 x0.w (wu32 (a1.tdiv 4) : Int).toNat) (shl .u32 255 (wu32 ((a1.tmod 4) * 8))))), (29, .int .u32 (wu32 a2)), (30, .int .u32 (wu32 ((a1.tmod 4) * 8)))] hs ?_; clear hs; intro a hs
    obtain ⟨hp27, H⟩ := ite_only H
    refine go_run hs (by rfl) (x_shl (k := .u32) (k' := .u32) (m := wu32 a2) (n := wu32 ((a1.tmod 4) * 8)) (by kernel_rfl) (by kernel_rfl) hp27) [29, 30] ?_; clear hs; intro a hs
    refine go_pvs 13 [21, 27, 31] [(32, .int .u32 (bor .u32 (bandn .u32 (vx 0 x0.w (wu32 (a1.tdiv 4) : Int).toNat) (shl .u32 255 (wu32 ((a1.tmod 4) * 8)))) (shl .u32 (wu32 a2) (wu32 ((a1.tmod 4) * 8))))), (33, .pointer (some ((((⟨g1, 0, none⟩ : Addr) : Addr).add 0 : Addr).add ((wu32 (a1.tdiv 4) : Int).toNat * 1))))] hs ?_; clear hs; intro a hs
    obtain ⟨wd28, hx29, hw⟩ := x_put (P := Try.prog) (ty := 0) (t := 23) (x := (Operand.tmp 33)) (y := (Operand.tmp 32)) (off := 0 + (wu32 (a1.tdiv 4) : Int).toNat * 1) (p := (((⟨g1, 0, none⟩ : Addr) : Addr).add 0 : Addr).add ((wu32 (a1.tdiv 4) : Int).toNat * 1)) (v := .int .u32 (bor .u32 (bandn .u32 (vx 0 x0.w (wu32 (a1.tdiv 4) : Int).toNat) (shl .u32 255 (wu32 ((a1.tmod 4) * 8)))) (shl .u32 (wu32 a2) (wu32 ((a1.tmod 4) * 8))))) (vs := [.int .u32 (bor .u32 (bandn .u32 (vx 0 x0.w (wu32 (a1.tdiv 4) : Int).toNat) (shl .u32 255 (wu32 ((a1.tmod 4) * 8)))) (shl .u32 (wu32 a2) (wu32 ((a1.tmod 4) * 8))))]) (i := 0) (e' := (({ x0 with w := vset x0.w (wu32 (a1.tdiv 4) : Int).toNat (bor .u32 (bandn .u32 (vx 0 x0.w (wu32 (a1.tdiv 4) : Int).toNat) (shl .u32 255 (wu32 ((a1.tmod 4) * 8)))) (shl .u32 (wu32 a2) (wu32 ((a1.tmod 4) * 8)))) } : Smemory_Memory) : Smemory_Memory)) hs hw rfl (one_ok x0).1 (one_ok x0).2 (by kernel_rfl) (by simp only [add_add', Int.toNat_zero, Nat.zero_mul, Nat.zero_add, Nat.mul_one] <;> rfl) (by kernel_rfl) rfl (by kernel_rfl) (by have := hp22; show 0 + _ * 1 + 1 ≤ 4097; omega) (by simp [Value.oneCell']) (vput (cs := eSmemory_Memory.enc x0) (cs' := eSmemory_Memory.enc ({ x0 with w := vset x0.w (wu32 (a1.tdiv 4) : Int).toNat (bor .u32 (bandn .u32 (vx 0 x0.w (wu32 (a1.tdiv 4) : Int).toNat) (shl .u32 255 (wu32 ((a1.tmod 4) * 8)))) (shl .u32 (wu32 a2) (wu32 ((a1.tmod 4) * 8)))) } : Smemory_Memory)) (pre := []) (post := [.int .i64 x0.n]) (f := (fun j : Nat => .int .u32 (vx 0 x0.w j))) (f' := (fun j : Nat => .int .u32 (vx 0 (vset x0.w (wu32 (a1.tdiv 4) : Int).toNat (bor .u32 (bandn .u32 (vx 0 x0.w (wu32 (a1.tdiv 4) : Int).toNat) (shl .u32 255 (wu32 ((a1.tmod 4) * 8)))) (shl .u32 (wu32 a2) (wu32 ((a1.tmod 4) * 8))))) j))) (n := 4096) (o := 0) (i := (wu32 (a1.tdiv 4) : Int).toNat) (v := .int .u32 (bor .u32 (bandn .u32 (vx 0 x0.w (wu32 (a1.tdiv 4) : Int).toNat) (shl .u32 255 (wu32 ((a1.tmod 4) * 8)))) (shl .u32 (wu32 a2) (wu32 ((a1.tmod 4) * 8))))) (by rw [List.nil_append, ← vec_range 0 x0.w (Value.int .u32)]; rfl) (by rw [List.nil_append, ← vec_range 0 (vset x0.w (wu32 (a1.tdiv 4) : Int).toNat (bor .u32 (bandn .u32 (vx 0 x0.w (wu32 (a1.tdiv 4) : Int).toNat) (shl .u32 255 (wu32 ((a1.tmod 4) * 8)))) (shl .u32 (wu32 a2) (wu32 ((a1.tmod 4) * 8))))) (Value.int .u32)]; rfl) rfl (by have := hp22; omega) (vx_put (by have := hp22; omega)))
    refine go_unit hs (by rfl) hx29 [32, 33] ?_; clear hs; intro a hs
    replace hw : St ks0 w0 wd28 [own 75 eSmemory_Memory (some (⟨g1, 0, none⟩ : Addr)) 1 [({ x0 with w := vset x0.w (wu32 (a1.tdiv 4) : Int).toNat (bor .u32 (bandn .u32 (vx 0 x0.w (wu32 (a1.tdiv 4) : Int).toNat) (shl .u32 255 (wu32 ((a1.tmod 4) * 8)))) (shl .u32 (wu32 a2) (wu32 ((a1.tmod 4) * 8)))) } : Smemory_Memory)]] := hw
    refine go_end ?_
    exact hJ3 ({ x0 with w := vset x0.w (wu32 (a1.tdiv 4) : Int).toNat (bor .u32 (bandn .u32 (vx 0 x0.w (wu32 (a1.tdiv 4) : Int).toNat) (shl .u32 255 (wu32 ((a1.tmod 4) * 8)))) (shl .u32 (wu32 a2) (wu32 ((a1.tmod 4) * 8)))) } : Smemory_Memory) _ _ hs.kx hw H
   ·cases hc

end Go.Proofs.Ytheccnbamcdpmaa.T06
