/- YtheccnbamcdpmaaT06: Go functions told as plain ones, each with a proof that its call comes to what is told, part 2. Condition of each: that the plain function comes to a value. -/
import Derived.Test.YtheccnbamcdpmaaT06a
namespace Go.Proofs.Ytheccnbamcdpmaa.T06
open Go Go.RowKit Go.Proofs.Ytheccnbamcdpmaa.E
set_option linter.unusedVariables false
set_option linter.unusedSimpArgs false

/-! rivet/alu.units: function 40 -/
noncomputable def alu_units : Option Unit := some ()
set_option maxRecDepth 100000 in
set_option maxHeartbeats 4000000 in
theorem alu_units.calls (r : Unit) (w0 : World) (H : alu_units = some r) :
    Calls Try.prog 40 #[] w0 fun e w' => ∃ g2 : Nat, ∃ g131 : Nat, ∃ g127 : Nat, ∃ g118 : Nat, ∃ g114 : Nat, ∃ g105 : Nat, ∃ g101 : Nat, ∃ g92 : Nat, ∃ g88 : Nat, ∃ g66 : Nat, ∃ g77 : Nat, ∃ g73 : Nat, ∃ ad62 : Addr, ∃ g40 : Nat, ∃ g51 : Nat, ∃ g47 : Nat, ∃ ad36 : Addr, ∃ g14 : Nat, ∃ g25 : Nat, ∃ g21 : Nat, ∃ ad10 : Addr, e = .returned (.agg #[.func (.func 57) #[] #[], .func (.func 80) #[] #[.pointer (some (⟨g21, 0, none⟩ : Addr))], .func (.func 80) #[] #[.pointer (some (⟨g47, 0, none⟩ : Addr))], .func (.func 80) #[] #[.pointer (some (⟨g73, 0, none⟩ : Addr))], .func (.func 80) #[] #[.pointer (some (⟨g88, 0, none⟩ : Addr))], .func (.func 80) #[] #[.pointer (some (⟨g101, 0, none⟩ : Addr))], .func (.func 80) #[] #[.pointer (some (⟨g114, 0, none⟩ : Addr))], .func (.func 80) #[] #[.pointer (some (⟨g127, 0, none⟩ : Addr))], .func (.func 62) #[] #[], .func (.func 64) #[] #[], .func (.func 66) #[] #[], .func (.func 68) #[] #[]]) ∧ St [] w0 w' [box g2 90 [.func (.func 57) #[] #[], .func (.func 80) #[] #[.pointer (some (⟨g21, 0, none⟩ : Addr))], .func (.func 80) #[] #[.pointer (some (⟨g47, 0, none⟩ : Addr))], .func (.func 80) #[] #[.pointer (some (⟨g73, 0, none⟩ : Addr))], .func (.func 80) #[] #[.pointer (some (⟨g88, 0, none⟩ : Addr))], .func (.func 80) #[] #[.pointer (some (⟨g101, 0, none⟩ : Addr))], .func (.func 80) #[] #[.pointer (some (⟨g114, 0, none⟩ : Addr))], .func (.func 80) #[] #[.pointer (some (⟨g127, 0, none⟩ : Addr))], .func (.func 62) #[] #[], .func (.func 64) #[] #[], .func (.func 66) #[] #[], .func (.func 68) #[] #[]], box g131 89 [.func (.func 80) #[] #[.pointer (some (⟨g127, 0, none⟩ : Addr))]], box g127 115 [.func (.func 61) #[] #[]], box g118 89 [.func (.func 80) #[] #[.pointer (some (⟨g114, 0, none⟩ : Addr))]], box g114 115 [.func (.func 60) #[] #[]], box g105 89 [.func (.func 80) #[] #[.pointer (some (⟨g101, 0, none⟩ : Addr))]], box g101 115 [.func (.func 59) #[] #[]], box g92 89 [.func (.func 80) #[] #[.pointer (some (⟨g88, 0, none⟩ : Addr))]], box g88 115 [.func (.func 58) #[] #[]], box g66 89 [.func (.func 80) #[] #[.pointer (some (⟨g73, 0, none⟩ : Addr))]], box g77 89 [.func (.func 80) #[] #[.pointer (some (⟨g73, 0, none⟩ : Addr))]], box g73 115 [.func (.func 55) #[] #[.pointer (some ad62)]], own 3 (eI .i64) (some ad62) 1 [3], box g40 89 [.func (.func 80) #[] #[.pointer (some (⟨g47, 0, none⟩ : Addr))]], box g51 89 [.func (.func 80) #[] #[.pointer (some (⟨g47, 0, none⟩ : Addr))]], box g47 115 [.func (.func 55) #[] #[.pointer (some ad36)]], own 3 (eI .i64) (some ad36) 1 [2], box g14 89 [.func (.func 80) #[] #[.pointer (some (⟨g21, 0, none⟩ : Addr))]], box g25 89 [.func (.func 80) #[] #[.pointer (some (⟨g21, 0, none⟩ : Addr))]], box g21 115 [.func (.func 55) #[] #[.pointer (some ad10)]], own 3 (eI .i64) (some ad10) 1 [1]] := by
 have hw : St [] w0 w0 [] := St.nil w0
 unfold alu_units at H
 refine go_fn Try.func40 rfl Try.ntmps40 ?_; intro a hs
 refine go_sk fun K1 hK1 => ?_
 obtain ⟨g2, wd3, hx4, hw⟩ := x_allocc (P := Try.prog) (elem := 90) (ty := 0) (z := .agg #[.nilFunc, .nilFunc, .nilFunc, .nilFunc, .nilFunc, .nilFunc, .nilFunc, .nilFunc, .nilFunc, .nilFunc, .nilFunc, .nilFunc]) (cs := [.nilFunc, .nilFunc, .nilFunc, .nilFunc, .nilFunc, .nilFunc, .nilFunc, .nilFunc, .nilFunc, .nilFunc, .nilFunc, .nilFunc]) hs hw (by kernel_rfl) (by kernel_rfl)
 refine go_run hs (by rfl) hx4 [] ?_; clear hs; intro a hs
 refine go_end (hK1 _ _ ?_)
 refine go_sp [] [(1, .func (.func 53) #[] #[])] hs ?_; clear hs; intro a hs
 refine go_sk fun K7 hK7 => ?_
 refine go_pvs 2 [] [(2, .agg #[.func (.func 57) #[] #[]]), (3, .func (.func 53) #[] #[])] hs ?_; clear hs; intro a hs
 refine go_inline_k hs (by rfl) (f := 53) (args := #[.int .i64 1]) (fun KR8 hKR8 => ?_)
 refine go_fn Try.func53 rfl Try.ntmps53 ?_; clear hs; intro a hs
 refine go_sk fun K9 hK9 => ?_
 obtain ⟨ad10, wd11, hx12, hw⟩ := x_box1 (P := Try.prog) (elem := 3) (v := (Operand.tmp 0)) (ty := 0) hs hw (eI .i64) 1 (by kernel_rfl)
 refine go_run hs (by rfl) hx12 [0] ?_; clear hs; intro a hs
 obtain ⟨g14, wd15, hx16, hw⟩ := x_allocc (P := Try.prog) (elem := 89) (ty := 0) (z := .agg #[.nilFunc]) (cs := [.nilFunc]) hs hw (by kernel_rfl) (by kernel_rfl)
 refine go_run hs (by rfl) hx16 [] ?_; clear hs; intro a hs
 refine go_end (hK9 _ _ ?_)
 refine go_sk fun K18 hK18 => ?_
 refine go_pvs 1 [1] [(3, .func (.func 55) #[] #[.pointer (some ad10)])] hs ?_; clear hs; intro a hs
 refine go_inline_k hs (by rfl) (f := 54) (args := #[.func (.func 55) #[] #[.pointer (some ad10)]]) (fun KR19 hKR19 => ?_)
 refine go_fn Try.func54 rfl Try.ntmps54 ?_; clear hs; intro a hs
 refine go_sk fun K20 hK20 => ?_
 obtain ⟨g21, wd22, hx23, hw⟩ := x_boxc (P := Try.prog) (elem := 115) (v := (Operand.tmp 0)) (ty := 0) (cs := [.func (.func 55) #[] #[.pointer (some ad10)]]) hs hw (by kernel_rfl)
 refine go_run hs (by rfl) hx23 [0] ?_; clear hs; intro a hs
 obtain ⟨g25, wd26, hx27, hw⟩ := x_allocc (P := Try.prog) (elem := 89) (ty := 0) (z := .agg #[.nilFunc]) (cs := [.nilFunc]) hs hw (by kernel_rfl) (by kernel_rfl)
 refine go_run hs (by rfl) hx27 [] ?_; clear hs; intro a hs
 refine go_end (hK20 _ _ ?_)
 refine go_sk fun K29 hK29 => ?_
 refine go_pvs 2 [1] [(4, .agg #[.func (.func 80) #[] #[.pointer (some (⟨g21, 0, none⟩ : Addr))]])] hs ?_; clear hs; intro a hs
 obtain ⟨wd30, hx31, hw⟩ := x_bput (P := Try.prog) (ty := 0) (t := 89) (y := (Operand.tmp 2)) (z := (Operand.tmp 4)) (o := 0) (p := (⟨g25, 0, none⟩ : Addr)) (v := .agg #[.func (.func 80) #[] #[.pointer (some (⟨g21, 0, none⟩ : Addr))]]) (vs := [.func (.func 80) #[] #[.pointer (some (⟨g21, 0, none⟩ : Addr))]]) (cs' := [.func (.func 80) #[] #[.pointer (some (⟨g21, 0, none⟩ : Addr))]]) hs hw (by kernel_rfl) rfl (by kernel_rfl) rfl (by kernel_rfl) (by kernel_rfl) (by simp [Value.oneCell']) rfl
 refine go_unit hs (by rfl) hx31 [4] ?_; clear hs; intro a hs
 refine go_end (hK29 _ _ ?_)
 refine wp_ret ?_
 replace hs : Slots a 5 [(2, .pointer (some (⟨g25, 0, none⟩ : Addr)))] := hs.kx
 refine ret1g (L := [(2, .pointer (some (⟨g25, 0, none⟩ : Addr)))]) (r1 := .cell 2 89) (v1 := .agg #[.func (.func 80) #[] #[.pointer (some (⟨g21, 0, none⟩ : Addr))]]) hs (by kernel_rfl) ⟨_, (show lk 2 [(2, .pointer (some (⟨g25, 0, none⟩ : Addr)))] = some (.pointer (some (⟨g25, 0, none⟩ : Addr))) by kernel_rfl), lvb_row (hw.up 0) (by kernel_rfl) (by kernel_rfl) (by kernel_rfl)⟩ ?_
 refine ⟨_, rfl, ?_⟩
 refine hKR19 _ _ ?_
 intro a hs1; have hs : Slots a _ [(2, .pointer (some (⟨g14, 0, none⟩ : Addr))), (4, .agg #[.func (.func 80) #[] #[.pointer (some (⟨g21, 0, none⟩ : Addr))]])] := hs1.kx; clear hs1
 replace hw := hw.up 2
 obtain ⟨wd32, hx33, hw⟩ := x_bput (P := Try.prog) (ty := 0) (t := 89) (y := (Operand.tmp 2)) (z := (Operand.tmp 4)) (o := 0) (p := (⟨g14, 0, none⟩ : Addr)) (v := .agg #[.func (.func 80) #[] #[.pointer (some (⟨g21, 0, none⟩ : Addr))]]) (vs := [.func (.func 80) #[] #[.pointer (some (⟨g21, 0, none⟩ : Addr))]]) (cs' := [.func (.func 80) #[] #[.pointer (some (⟨g21, 0, none⟩ : Addr))]]) hs hw (by kernel_rfl) rfl (by kernel_rfl) rfl (by kernel_rfl) (by kernel_rfl) (by simp [Value.oneCell']) rfl
 refine go_unit hs (by rfl) hx33 [4] ?_; clear hs; intro a hs
 refine go_end (hK18 _ _ ?_)
 refine wp_ret ?_
 replace hs : Slots a 5 [(2, .pointer (some (⟨g14, 0, none⟩ : Addr)))] := hs.kx
 refine ret1g (L := [(2, .pointer (some (⟨g14, 0, none⟩ : Addr)))]) (r1 := .cell 2 89) (v1 := .agg #[.func (.func 80) #[] #[.pointer (some (⟨g21, 0, none⟩ : Addr))]]) hs (by kernel_rfl) ⟨_, (show lk 2 [(2, .pointer (some (⟨g14, 0, none⟩ : Addr)))] = some (.pointer (some (⟨g14, 0, none⟩ : Addr))) by kernel_rfl), lvb_row (hw.up 0) (by kernel_rfl) (by kernel_rfl) (by kernel_rfl)⟩ ?_
 refine ⟨_, rfl, ?_⟩
 refine hKR8 _ _ ?_
 intro a hs1; have hs : Slots a _ [(0, .pointer (some (⟨g2, 0, none⟩ : Addr))), (1, .func (.func 53) #[] #[]), (2, .agg #[.func (.func 57) #[] #[]]), (4, .agg #[.func (.func 80) #[] #[.pointer (some (⟨g21, 0, none⟩ : Addr))]])] := hs1.kx; clear hs1
 refine go_pvs 4 [] [(5, .func (.func 53) #[] #[])] hs ?_; clear hs; intro a hs
 refine go_inline_k hs (by rfl) (f := 53) (args := #[.int .i64 2]) (fun KR34 hKR34 => ?_)
 refine go_fn Try.func53 rfl Try.ntmps53 ?_; clear hs; intro a hs
 refine go_sk fun K35 hK35 => ?_
 obtain ⟨ad36, wd37, hx38, hw⟩ := x_box1 (P := Try.prog) (elem := 3) (v := (Operand.tmp 0)) (ty := 0) hs hw (eI .i64) 2 (by kernel_rfl)
 refine go_run hs (by rfl) hx38 [0] ?_; clear hs; intro a hs
 obtain ⟨g40, wd41, hx42, hw⟩ := x_allocc (P := Try.prog) (elem := 89) (ty := 0) (z := .agg #[.nilFunc]) (cs := [.nilFunc]) hs hw (by kernel_rfl) (by kernel_rfl)
 refine go_run hs (by rfl) hx42 [] ?_; clear hs; intro a hs
 refine go_end (hK35 _ _ ?_)
 refine go_sk fun K44 hK44 => ?_
 refine go_pvs 1 [1] [(3, .func (.func 55) #[] #[.pointer (some ad36)])] hs ?_; clear hs; intro a hs
 refine go_inline_k hs (by rfl) (f := 54) (args := #[.func (.func 55) #[] #[.pointer (some ad36)]]) (fun KR45 hKR45 => ?_)
 refine go_fn Try.func54 rfl Try.ntmps54 ?_; clear hs; intro a hs
 refine go_sk fun K46 hK46 => ?_
 obtain ⟨g47, wd48, hx49, hw⟩ := x_boxc (P := Try.prog) (elem := 115) (v := (Operand.tmp 0)) (ty := 0) (cs := [.func (.func 55) #[] #[.pointer (some ad36)]]) hs hw (by kernel_rfl)
 refine go_run hs (by rfl) hx49 [0] ?_; clear hs; intro a hs
 obtain ⟨g51, wd52, hx53, hw⟩ := x_allocc (P := Try.prog) (elem := 89) (ty := 0) (z := .agg #[.nilFunc]) (cs := [.nilFunc]) hs hw (by kernel_rfl) (by kernel_rfl)
 refine go_run hs (by rfl) hx53 [] ?_; clear hs; intro a hs
 refine go_end (hK46 _ _ ?_)
 refine go_sk fun K55 hK55 => ?_
 refine go_pvs 2 [1] [(4, .agg #[.func (.func 80) #[] #[.pointer (some (⟨g47, 0, none⟩ : Addr))]])] hs ?_; clear hs; intro a hs
 obtain ⟨wd56, hx57, hw⟩ := x_bput (P := Try.prog) (ty := 0) (t := 89) (y := (Operand.tmp 2)) (z := (Operand.tmp 4)) (o := 0) (p := (⟨g51, 0, none⟩ : Addr)) (v := .agg #[.func (.func 80) #[] #[.pointer (some (⟨g47, 0, none⟩ : Addr))]]) (vs := [.func (.func 80) #[] #[.pointer (some (⟨g47, 0, none⟩ : Addr))]]) (cs' := [.func (.func 80) #[] #[.pointer (some (⟨g47, 0, none⟩ : Addr))]]) hs hw (by kernel_rfl) rfl (by kernel_rfl) rfl (by kernel_rfl) (by kernel_rfl) (by simp [Value.oneCell']) rfl
 refine go_unit hs (by rfl) hx57 [4] ?_; clear hs; intro a hs
 refine go_end (hK55 _ _ ?_)
 refine wp_ret ?_
 replace hs : Slots a 5 [(2, .pointer (some (⟨g51, 0, none⟩ : Addr)))] := hs.kx
 refine ret1g (L := [(2, .pointer (some (⟨g51, 0, none⟩ : Addr)))]) (r1 := .cell 2 89) (v1 := .agg #[.func (.func 80) #[] #[.pointer (some (⟨g47, 0, none⟩ : Addr))]]) hs (by kernel_rfl) ⟨_, (show lk 2 [(2, .pointer (some (⟨g51, 0, none⟩ : Addr)))] = some (.pointer (some (⟨g51, 0, none⟩ : Addr))) by kernel_rfl), lvb_row (hw.up 0) (by kernel_rfl) (by kernel_rfl) (by kernel_rfl)⟩ ?_
 refine ⟨_, rfl, ?_⟩
 refine hKR45 _ _ ?_
 intro a hs1; have hs : Slots a _ [(2, .pointer (some (⟨g40, 0, none⟩ : Addr))), (4, .agg #[.func (.func 80) #[] #[.pointer (some (⟨g47, 0, none⟩ : Addr))]])] := hs1.kx; clear hs1
 replace hw := hw.up 2
 obtain ⟨wd58, hx59, hw⟩ := x_bput (P := Try.prog) (ty := 0) (t := 89) (y := (Operand.tmp 2)) (z := (Operand.tmp 4)) (o := 0) (p := (⟨g40, 0, none⟩ : Addr)) (v := .agg #[.func (.func 80) #[] #[.pointer (some (⟨g47, 0, none⟩ : Addr))]]) (vs := [.func (.func 80) #[] #[.pointer (some (⟨g47, 0, none⟩ : Addr))]]) (cs' := [.func (.func 80) #[] #[.pointer (some (⟨g47, 0, none⟩ : Addr))]]) hs hw (by kernel_rfl) rfl (by kernel_rfl) rfl (by kernel_rfl) (by kernel_rfl) (by simp [Value.oneCell']) rfl
 refine go_unit hs (by rfl) hx59 [4] ?_; clear hs; intro a hs
 refine go_end (hK44 _ _ ?_)
 refine wp_ret ?_
 replace hs : Slots a 5 [(2, .pointer (some (⟨g40, 0, none⟩ : Addr)))] := hs.kx
 refine ret1g (L := [(2, .pointer (some (⟨g40, 0, none⟩ : Addr)))]) (r1 := .cell 2 89) (v1 := .agg #[.func (.func 80) #[] #[.pointer (some (⟨g47, 0, none⟩ : Addr))]]) hs (by kernel_rfl) ⟨_, (show lk 2 [(2, .pointer (some (⟨g40, 0, none⟩ : Addr)))] = some (.pointer (some (⟨g40, 0, none⟩ : Addr))) by kernel_rfl), lvb_row (hw.up 0) (by kernel_rfl) (by kernel_rfl) (by kernel_rfl)⟩ ?_
 refine ⟨_, rfl, ?_⟩
 refine hKR34 _ _ ?_
 intro a hs1; have hs : Slots a _ [(0, .pointer (some (⟨g2, 0, none⟩ : Addr))), (1, .func (.func 53) #[] #[]), (2, .agg #[.func (.func 57) #[] #[]]), (4, .agg #[.func (.func 80) #[] #[.pointer (some (⟨g21, 0, none⟩ : Addr))]]), (6, .agg #[.func (.func 80) #[] #[.pointer (some (⟨g47, 0, none⟩ : Addr))]])] := hs1.kx; clear hs1
 refine go_pvs 6 [1] [(7, .func (.func 53) #[] #[])] hs ?_; clear hs; intro a hs
 refine go_inline_k hs (by rfl) (f := 53) (args := #[.int .i64 3]) (fun KR60 hKR60 => ?_)
 refine go_fn Try.func53 rfl Try.ntmps53 ?_; clear hs; intro a hs
 refine go_sk fun K61 hK61 => ?_
 obtain ⟨ad62, wd63, hx64, hw⟩ := x_box1 (P := Try.prog) (elem := 3) (v := (Operand.tmp 0)) (ty := 0) hs hw (eI .i64) 3 (by kernel_rfl)
 refine go_run hs (by rfl) hx64 [0] ?_; clear hs; intro a hs
 obtain ⟨g66, wd67, hx68, hw⟩ := x_allocc (P := Try.prog) (elem := 89) (ty := 0) (z := .agg #[.nilFunc]) (cs := [.nilFunc]) hs hw (by kernel_rfl) (by kernel_rfl)
 refine go_run hs (by rfl) hx68 [] ?_; clear hs; intro a hs
 refine go_end (hK61 _ _ ?_)
 refine go_sk fun K70 hK70 => ?_
 refine go_pvs 1 [1] [(3, .func (.func 55) #[] #[.pointer (some ad62)])] hs ?_; clear hs; intro a hs
 refine go_inline_k hs (by rfl) (f := 54) (args := #[.func (.func 55) #[] #[.pointer (some ad62)]]) (fun KR71 hKR71 => ?_)
 refine go_fn Try.func54 rfl Try.ntmps54 ?_; clear hs; intro a hs
 refine go_sk fun K72 hK72 => ?_
 obtain ⟨g73, wd74, hx75, hw⟩ := x_boxc (P := Try.prog) (elem := 115) (v := (Operand.tmp 0)) (ty := 0) (cs := [.func (.func 55) #[] #[.pointer (some ad62)]]) hs hw (by kernel_rfl)
 refine go_run hs (by rfl) hx75 [0] ?_; clear hs; intro a hs
 obtain ⟨g77, wd78, hx79, hw⟩ := x_allocc (P := Try.prog) (elem := 89) (ty := 0) (z := .agg #[.nilFunc]) (cs := [.nilFunc]) hs hw (by kernel_rfl) (by kernel_rfl)
 refine go_run hs (by rfl) hx79 [] ?_; clear hs; intro a hs
 refine go_end (hK72 _ _ ?_)
 refine go_sk fun K81 hK81 => ?_
 refine go_pvs 2 [1] [(4, .agg #[.func (.func 80) #[] #[.pointer (some (⟨g73, 0, none⟩ : Addr))]])] hs ?_; clear hs; intro a hs
 obtain ⟨wd82, hx83, hw⟩ := x_bput (P := Try.prog) (ty := 0) (t := 89) (y := (Operand.tmp 2)) (z := (Operand.tmp 4)) (o := 0) (p := (⟨g77, 0, none⟩ : Addr)) (v := .agg #[.func (.func 80) #[] #[.pointer (some (⟨g73, 0, none⟩ : Addr))]]) (vs := [.func (.func 80) #[] #[.pointer (some (⟨g73, 0, none⟩ : Addr))]]) (cs' := [.func (.func 80) #[] #[.pointer (some (⟨g73, 0, none⟩ : Addr))]]) hs hw (by kernel_rfl) rfl (by kernel_rfl) rfl (by kernel_rfl) (by kernel_rfl) (by simp [Value.oneCell']) rfl
 refine go_unit hs (by rfl) hx83 [4] ?_; clear hs; intro a hs
 refine go_end (hK81 _ _ ?_)
 refine wp_ret ?_
 replace hs : Slots a 5 [(2, .pointer (some (⟨g77, 0, none⟩ : Addr)))] := hs.kx
 refine ret1g (L := [(2, .pointer (some (⟨g77, 0, none⟩ : Addr)))]) (r1 := .cell 2 89) (v1 := .agg #[.func (.func 80) #[] #[.pointer (some (⟨g73, 0, none⟩ : Addr))]]) hs (by kernel_rfl) ⟨_, (show lk 2 [(2, .pointer (some (⟨g77, 0, none⟩ : Addr)))] = some (.pointer (some (⟨g77, 0, none⟩ : Addr))) by kernel_rfl), lvb_row (hw.up 0) (by kernel_rfl) (by kernel_rfl) (by kernel_rfl)⟩ ?_
 refine ⟨_, rfl, ?_⟩
 refine hKR71 _ _ ?_
 intro a hs1; have hs : Slots a _ [(2, .pointer (some (⟨g66, 0, none⟩ : Addr))), (4, .agg #[.func (.func 80) #[] #[.pointer (some (⟨g73, 0, none⟩ : Addr))]])] := hs1.kx; clear hs1
 replace hw := hw.up 2
 obtain ⟨wd84, hx85, hw⟩ := x_bput (P := Try.prog) (ty := 0) (t := 89) (y := (Operand.tmp 2)) (z := (Operand.tmp 4)) (o := 0) (p := (⟨g66, 0, none⟩ : Addr)) (v := .agg #[.func (.func 80) #[] #[.pointer (some (⟨g73, 0, none⟩ : Addr))]]) (vs := [.func (.func 80) #[] #[.pointer (some (⟨g73, 0, none⟩ : Addr))]]) (cs' := [.func (.func 80) #[] #[.pointer (some (⟨g73, 0, none⟩ : Addr))]]) hs hw (by kernel_rfl) rfl (by kernel_rfl) rfl (by kernel_rfl) (by kernel_rfl) (by simp [Value.oneCell']) rfl
 refine go_unit hs (by rfl) hx85 [4] ?_; clear hs; intro a hs
 refine go_end (hK70 _ _ ?_)
 refine wp_ret ?_
 replace hs : Slots a 5 [(2, .pointer (some (⟨g66, 0, none⟩ : Addr)))] := hs.kx
 refine ret1g (L := [(2, .pointer (some (⟨g66, 0, none⟩ : Addr)))]) (r1 := .cell 2 89) (v1 := .agg #[.func (.func 80) #[] #[.pointer (some (⟨g73, 0, none⟩ : Addr))]]) hs (by kernel_rfl) ⟨_, (show lk 2 [(2, .pointer (some (⟨g66, 0, none⟩ : Addr)))] = some (.pointer (some (⟨g66, 0, none⟩ : Addr))) by kernel_rfl), lvb_row (hw.up 0) (by kernel_rfl) (by kernel_rfl) (by kernel_rfl)⟩ ?_
 refine ⟨_, rfl, ?_⟩
 refine hKR60 _ _ ?_
 intro a hs1; have hs : Slots a _ [(0, .pointer (some (⟨g2, 0, none⟩ : Addr))), (2, .agg #[.func (.func 57) #[] #[]]), (4, .agg #[.func (.func 80) #[] #[.pointer (some (⟨g21, 0, none⟩ : Addr))]]), (6, .agg #[.func (.func 80) #[] #[.pointer (some (⟨g47, 0, none⟩ : Addr))]]), (8, .agg #[.func (.func 80) #[] #[.pointer (some (⟨g73, 0, none⟩ : Addr))]])] := hs1.kx; clear hs1
 refine go_inline_k hs (by rfl) (f := 54) (args := #[.func (.func 58) #[] #[]]) (fun KR86 hKR86 => ?_)
 refine go_fn Try.func54 rfl Try.ntmps54 ?_; clear hs; intro a hs
 refine go_sk fun K87 hK87 => ?_
 obtain ⟨g88, wd89, hx90, hw⟩ := x_boxc (P := Try.prog) (elem := 115) (v := (Operand.tmp 0)) (ty := 0) (cs := [.func (.func 58) #[] #[]]) hs hw (by kernel_rfl)
 refine go_run hs (by rfl) hx90 [0] ?_; clear hs; intro a hs
 obtain ⟨g92, wd93, hx94, hw⟩ := x_allocc (P := Try.prog) (elem := 89) (ty := 0) (z := .agg #[.nilFunc]) (cs := [.nilFunc]) hs hw (by kernel_rfl) (by kernel_rfl)
 refine go_run hs (by rfl) hx94 [] ?_; clear hs; intro a hs
 refine go_end (hK87 _ _ ?_)
 refine go_sk fun K96 hK96 => ?_
 refine go_pvs 2 [1] [(4, .agg #[.func (.func 80) #[] #[.pointer (some (⟨g88, 0, none⟩ : Addr))]])] hs ?_; clear hs; intro a hs
 obtain ⟨wd97, hx98, hw⟩ := x_bput (P := Try.prog) (ty := 0) (t := 89) (y := (Operand.tmp 2)) (z := (Operand.tmp 4)) (o := 0) (p := (⟨g92, 0, none⟩ : Addr)) (v := .agg #[.func (.func 80) #[] #[.pointer (some (⟨g88, 0, none⟩ : Addr))]]) (vs := [.func (.func 80) #[] #[.pointer (some (⟨g88, 0, none⟩ : Addr))]]) (cs' := [.func (.func 80) #[] #[.pointer (some (⟨g88, 0, none⟩ : Addr))]]) hs hw (by kernel_rfl) rfl (by kernel_rfl) rfl (by kernel_rfl) (by kernel_rfl) (by simp [Value.oneCell']) rfl
 refine go_unit hs (by rfl) hx98 [4] ?_; clear hs; intro a hs
 refine go_end (hK96 _ _ ?_)
 refine wp_ret ?_
 replace hs : Slots a 5 [(2, .pointer (some (⟨g92, 0, none⟩ : Addr)))] := hs.kx
 refine ret1g (L := [(2, .pointer (some (⟨g92, 0, none⟩ : Addr)))]) (r1 := .cell 2 89) (v1 := .agg #[.func (.func 80) #[] #[.pointer (some (⟨g88, 0, none⟩ : Addr))]]) hs (by kernel_rfl) ⟨_, (show lk 2 [(2, .pointer (some (⟨g92, 0, none⟩ : Addr)))] = some (.pointer (some (⟨g92, 0, none⟩ : Addr))) by kernel_rfl), lvb_row (hw.up 0) (by kernel_rfl) (by kernel_rfl) (by kernel_rfl)⟩ ?_
 refine ⟨_, rfl, ?_⟩
 refine hKR86 _ _ ?_
 intro a hs1; have hs : Slots a _ [(0, .pointer (some (⟨g2, 0, none⟩ : Addr))), (2, .agg #[.func (.func 57) #[] #[]]), (4, .agg #[.func (.func 80) #[] #[.pointer (some (⟨g21, 0, none⟩ : Addr))]]), (6, .agg #[.func (.func 80) #[] #[.pointer (some (⟨g47, 0, none⟩ : Addr))]]), (8, .agg #[.func (.func 80) #[] #[.pointer (some (⟨g73, 0, none⟩ : Addr))]]), (9, .agg #[.func (.func 80) #[] #[.pointer (some (⟨g88, 0, none⟩ : Addr))]])] := hs1.kx; clear hs1
 refine go_inline_k hs (by rfl) (f := 54) (args := #[.func (.func 59) #[] #[]]) (fun KR99 hKR99 => ?_)
 refine go_fn Try.func54 rfl Try.ntmps54 ?_; clear hs; intro a hs
 refine go_sk fun K100 hK100 => ?_
 obtain ⟨g101, wd102, hx103, hw⟩ := x_boxc (P := Try.prog) (elem := 115) (v := (Operand.tmp 0)) (ty := 0) (cs := [.func (.func 59) #[] #[]]) hs hw (by kernel_rfl)
 refine go_run hs (by rfl) hx103 [0] ?_; clear hs; intro a hs
 obtain ⟨g105, wd106, hx107, hw⟩ := x_allocc (P := Try.prog) (elem := 89) (ty := 0) (z := .agg #[.nilFunc]) (cs := [.nilFunc]) hs hw (by kernel_rfl) (by kernel_rfl)
 refine go_run hs (by rfl) hx107 [] ?_; clear hs; intro a hs
 refine go_end (hK100 _ _ ?_)
 refine go_sk fun K109 hK109 => ?_
 refine go_pvs 2 [1] [(4, .agg #[.func (.func 80) #[] #[.pointer (some (⟨g101, 0, none⟩ : Addr))]])] hs ?_; clear hs; intro a hs
 obtain ⟨wd110, hx111, hw⟩ := x_bput (P := Try.prog) (ty := 0) (t := 89) (y := (Operand.tmp 2)) (z := (Operand.tmp 4)) (o := 0) (p := (⟨g105, 0, none⟩ : Addr)) (v := .agg #[.func (.func 80) #[] #[.pointer (some (⟨g101, 0, none⟩ : Addr))]]) (vs := [.func (.func 80) #[] #[.pointer (some (⟨g101, 0, none⟩ : Addr))]]) (cs' := [.func (.func 80) #[] #[.pointer (some (⟨g101, 0, none⟩ : Addr))]]) hs hw (by kernel_rfl) rfl (by kernel_rfl) rfl (by kernel_rfl) (by kernel_rfl) (by simp [Value.oneCell']) rfl
 refine go_unit hs (by rfl) hx111 [4] ?_; clear hs; intro a hs
 refine go_end (hK109 _ _ ?_)
 refine wp_ret ?_
 replace hs : Slots a 5 [(2, .pointer (some (⟨g105, 0, none⟩ : Addr)))] := hs.kx
 refine ret1g (L := [(2, .pointer (some (⟨g105, 0, none⟩ : Addr)))]) (r1 := .cell 2 89) (v1 := .agg #[.func (.func 80) #[] #[.pointer (some (⟨g101, 0, none⟩ : Addr))]]) hs (by kernel_rfl) ⟨_, (show lk 2 [(2, .pointer (some (⟨g105, 0, none⟩ : Addr)))] = some (.pointer (some (⟨g105, 0, none⟩ : Addr))) by kernel_rfl), lvb_row (hw.up 0) (by kernel_rfl) (by kernel_rfl) (by kernel_rfl)⟩ ?_
 refine ⟨_, rfl, ?_⟩
 refine hKR99 _ _ ?_
 intro a hs1; have hs : Slots a _ [(0, .pointer (some (⟨g2, 0, none⟩ : Addr))), (2, .agg #[.func (.func 57) #[] #[]]), (4, .agg #[.func (.func 80) #[] #[.pointer (some (⟨g21, 0, none⟩ : Addr))]]), (6, .agg #[.func (.func 80) #[] #[.pointer (some (⟨g47, 0, none⟩ : Addr))]]), (8, .agg #[.func (.func 80) #[] #[.pointer (some (⟨g73, 0, none⟩ : Addr))]]), (9, .agg #[.func (.func 80) #[] #[.pointer (some (⟨g88, 0, none⟩ : Addr))]]), (10, .agg #[.func (.func 80) #[] #[.pointer (some (⟨g101, 0, none⟩ : Addr))]])] := hs1.kx; clear hs1
 refine go_inline_k hs (by rfl) (f := 54) (args := #[.func (.func 60) #[] #[]]) (fun KR112 hKR112 => ?_)
 refine go_fn Try.func54 rfl Try.ntmps54 ?_; clear hs; intro a hs
 refine go_sk fun K113 hK113 => ?_
 obtain ⟨g114, wd115, hx116, hw⟩ := x_boxc (P := Try.prog) (elem := 115) (v := (Operand.tmp 0)) (ty := 0) (cs := [.func (.func 60) #[] #[]]) hs hw (by kernel_rfl)
 refine go_run hs (by rfl) hx116 [0] ?_; clear hs; intro a hs
 obtain ⟨g118, wd119, hx120, hw⟩ := x_allocc (P := Try.prog) (elem := 89) (ty := 0) (z := .agg #[.nilFunc]) (cs := [.nilFunc]) hs hw (by kernel_rfl) (by kernel_rfl)
 refine go_run hs (by rfl) hx120 [] ?_; clear hs; intro a hs
 refine go_end (hK113 _ _ ?_)
 refine go_sk fun K122 hK122 => ?_
 refine go_pvs 2 [1] [(4, .agg #[.func (.func 80) #[] #[.pointer (some (⟨g114, 0, none⟩ : Addr))]])] hs ?_; clear hs; intro a hs
 obtain ⟨wd123, hx124, hw⟩ := x_bput (P := Try.prog) (ty := 0) (t := 89) (y := (Operand.tmp 2)) (z := (Operand.tmp 4)) (o := 0) (p := (⟨g118, 0, none⟩ : Addr)) (v := .agg #[.func (.func 80) #[] #[.pointer (some (⟨g114, 0, none⟩ : Addr))]]) (vs := [.func (.func 80) #[] #[.pointer (some (⟨g114, 0, none⟩ : Addr))]]) (cs' := [.func (.func 80) #[] #[.pointer (some (⟨g114, 0, none⟩ : Addr))]]) hs hw (by kernel_rfl) rfl (by kernel_rfl) rfl (by kernel_rfl) (by kernel_rfl) (by simp [Value.oneCell']) rfl
 refine go_unit hs (by rfl) hx124 [4] ?_; clear hs; intro a hs
 refine go_end (hK122 _ _ ?_)
 refine wp_ret ?_
 replace hs : Slots a 5 [(2, .pointer (some (⟨g118, 0, none⟩ : Addr)))] := hs.kx
 refine ret1g (L := [(2, .pointer (some (⟨g118, 0, none⟩ : Addr)))]) (r1 := .cell 2 89) (v1 := .agg #[.func (.func 80) #[] #[.pointer (some (⟨g114, 0, none⟩ : Addr))]]) hs (by kernel_rfl) ⟨_, (show lk 2 [(2, .pointer (some (⟨g118, 0, none⟩ : Addr)))] = some (.pointer (some (⟨g118, 0, none⟩ : Addr))) by kernel_rfl), lvb_row (hw.up 0) (by kernel_rfl) (by kernel_rfl) (by kernel_rfl)⟩ ?_
 refine ⟨_, rfl, ?_⟩
 refine hKR112 _ _ ?_
 intro a hs1; have hs : Slots a _ [(0, .pointer (some (⟨g2, 0, none⟩ : Addr))), (2, .agg #[.func (.func 57) #[] #[]]), (4, .agg #[.func (.func 80) #[] #[.pointer (some (⟨g21, 0, none⟩ : Addr))]]), (6, .agg #[.func (.func 80) #[] #[.pointer (some (⟨g47, 0, none⟩ : Addr))]]), (8, .agg #[.func (.func 80) #[] #[.pointer (some (⟨g73, 0, none⟩ : Addr))]]), (9, .agg #[.func (.func 80) #[] #[.pointer (some (⟨g88, 0, none⟩ : Addr))]]), (10, .agg #[.func (.func 80) #[] #[.pointer (some (⟨g101, 0, none⟩ : Addr))]]), (11, .agg #[.func (.func 80) #[] #[.pointer (some (⟨g114, 0, none⟩ : Addr))]])] := hs1.kx; clear hs1
 refine go_inline_k hs (by rfl) (f := 54) (args := #[.func (.func 61) #[] #[]]) (fun KR125 hKR125 => ?_)
 refine go_fn Try.func54 rfl Try.ntmps54 ?_; clear hs; intro a hs
 refine go_sk fun K126 hK126 => ?_
 obtain ⟨g127, wd128, hx129, hw⟩ := x_boxc (P := Try.prog) (elem := 115) (v := (Operand.tmp 0)) (ty := 0) (cs := [.func (.func 61) #[] #[]]) hs hw (by kernel_rfl)
 refine go_run hs (by rfl) hx129 [0] ?_; clear hs; intro a hs
 obtain ⟨g131, wd132, hx133, hw⟩ := x_allocc (P := Try.prog) (elem := 89) (ty := 0) (z := .agg #[.nilFunc]) (cs := [.nilFunc]) hs hw (by kernel_rfl) (by kernel_rfl)
 refine go_run hs (by rfl) hx133 [] ?_; clear hs; intro a hs
 refine go_end (hK126 _ _ ?_)
 refine go_sk fun K135 hK135 => ?_
 refine go_pvs 2 [1] [(4, .agg #[.func (.func 80) #[] #[.pointer (some (⟨g127, 0, none⟩ : Addr))]])] hs ?_; clear hs; intro a hs
 obtain ⟨wd136, hx137, hw⟩ := x_bput (P := Try.prog) (ty := 0) (t := 89) (y := (Operand.tmp 2)) (z := (Operand.tmp 4)) (o := 0) (p := (⟨g131, 0, none⟩ : Addr)) (v := .agg #[.func (.func 80) #[] #[.pointer (some (⟨g127, 0, none⟩ : Addr))]]) (vs := [.func (.func 80) #[] #[.pointer (some (⟨g127, 0, none⟩ : Addr))]]) (cs' := [.func (.func 80) #[] #[.pointer (some (⟨g127, 0, none⟩ : Addr))]]) hs hw (by kernel_rfl) rfl (by kernel_rfl) rfl (by kernel_rfl) (by kernel_rfl) (by simp [Value.oneCell']) rfl
 refine go_unit hs (by rfl) hx137 [4] ?_; clear hs; intro a hs
 refine go_end (hK135 _ _ ?_)
 refine wp_ret ?_
 replace hs : Slots a 5 [(2, .pointer (some (⟨g131, 0, none⟩ : Addr)))] := hs.kx
 refine ret1g (L := [(2, .pointer (some (⟨g131, 0, none⟩ : Addr)))]) (r1 := .cell 2 89) (v1 := .agg #[.func (.func 80) #[] #[.pointer (some (⟨g127, 0, none⟩ : Addr))]]) hs (by kernel_rfl) ⟨_, (show lk 2 [(2, .pointer (some (⟨g131, 0, none⟩ : Addr)))] = some (.pointer (some (⟨g131, 0, none⟩ : Addr))) by kernel_rfl), lvb_row (hw.up 0) (by kernel_rfl) (by kernel_rfl) (by kernel_rfl)⟩ ?_
 refine ⟨_, rfl, ?_⟩
 refine hKR125 _ _ ?_
 intro a hs1; have hs : Slots a _ [(0, .pointer (some (⟨g2, 0, none⟩ : Addr))), (2, .agg #[.func (.func 57) #[] #[]]), (4, .agg #[.func (.func 80) #[] #[.pointer (some (⟨g21, 0, none⟩ : Addr))]]), (6, .agg #[.func (.func 80) #[] #[.pointer (some (⟨g47, 0, none⟩ : Addr))]]), (8, .agg #[.func (.func 80) #[] #[.pointer (some (⟨g73, 0, none⟩ : Addr))]]), (9, .agg #[.func (.func 80) #[] #[.pointer (some (⟨g88, 0, none⟩ : Addr))]]), (10, .agg #[.func (.func 80) #[] #[.pointer (some (⟨g101, 0, none⟩ : Addr))]]), (11, .agg #[.func (.func 80) #[] #[.pointer (some (⟨g114, 0, none⟩ : Addr))]]), (12, .agg #[.func (.func 80) #[] #[.pointer (some (⟨g127, 0, none⟩ : Addr))]])] := hs1.kx; clear hs1
 refine go_pvs 16 [2, 4, 6, 8, 9, 10, 11, 12] [(17, .agg #[.func (.func 57) #[] #[], .func (.func 80) #[] #[.pointer (some (⟨g21, 0, none⟩ : Addr))], .func (.func 80) #[] #[.pointer (some (⟨g47, 0, none⟩ : Addr))], .func (.func 80) #[] #[.pointer (some (⟨g73, 0, none⟩ : Addr))], .func (.func 80) #[] #[.pointer (some (⟨g88, 0, none⟩ : Addr))], .func (.func 80) #[] #[.pointer (some (⟨g101, 0, none⟩ : Addr))], .func (.func 80) #[] #[.pointer (some (⟨g114, 0, none⟩ : Addr))], .func (.func 80) #[] #[.pointer (some (⟨g127, 0, none⟩ : Addr))], .func (.func 62) #[] #[], .func (.func 64) #[] #[], .func (.func 66) #[] #[], .func (.func 68) #[] #[]])] hs ?_; clear hs; intro a hs
 replace hw := hw.up 20
 obtain ⟨wd138, hx139, hw⟩ := x_bput (P := Try.prog) (ty := 0) (t := 90) (y := (Operand.tmp 0)) (z := (Operand.tmp 17)) (o := 0) (p := (⟨g2, 0, none⟩ : Addr)) (v := .agg #[.func (.func 57) #[] #[], .func (.func 80) #[] #[.pointer (some (⟨g21, 0, none⟩ : Addr))], .func (.func 80) #[] #[.pointer (some (⟨g47, 0, none⟩ : Addr))], .func (.func 80) #[] #[.pointer (some (⟨g73, 0, none⟩ : Addr))], .func (.func 80) #[] #[.pointer (some (⟨g88, 0, none⟩ : Addr))], .func (.func 80) #[] #[.pointer (some (⟨g101, 0, none⟩ : Addr))], .func (.func 80) #[] #[.pointer (some (⟨g114, 0, none⟩ : Addr))], .func (.func 80) #[] #[.pointer (some (⟨g127, 0, none⟩ : Addr))], .func (.func 62) #[] #[], .func (.func 64) #[] #[], .func (.func 66) #[] #[], .func (.func 68) #[] #[]]) (vs := [.func (.func 57) #[] #[], .func (.func 80) #[] #[.pointer (some (⟨g21, 0, none⟩ : Addr))], .func (.func 80) #[] #[.pointer (some (⟨g47, 0, none⟩ : Addr))], .func (.func 80) #[] #[.pointer (some (⟨g73, 0, none⟩ : Addr))], .func (.func 80) #[] #[.pointer (some (⟨g88, 0, none⟩ : Addr))], .func (.func 80) #[] #[.pointer (some (⟨g101, 0, none⟩ : Addr))], .func (.func 80) #[] #[.pointer (some (⟨g114, 0, none⟩ : Addr))], .func (.func 80) #[] #[.pointer (some (⟨g127, 0, none⟩ : Addr))], .func (.func 62) #[] #[], .func (.func 64) #[] #[], .func (.func 66) #[] #[], .func (.func 68) #[] #[]]) (cs' := [.func (.func 57) #[] #[], .func (.func 80) #[] #[.pointer (some (⟨g21, 0, none⟩ : Addr))], .func (.func 80) #[] #[.pointer (some (⟨g47, 0, none⟩ : Addr))], .func (.func 80) #[] #[.pointer (some (⟨g73, 0, none⟩ : Addr))], .func (.func 80) #[] #[.pointer (some (⟨g88, 0, none⟩ : Addr))], .func (.func 80) #[] #[.pointer (some (⟨g101, 0, none⟩ : Addr))], .func (.func 80) #[] #[.pointer (some (⟨g114, 0, none⟩ : Addr))], .func (.func 80) #[] #[.pointer (some (⟨g127, 0, none⟩ : Addr))], .func (.func 62) #[] #[], .func (.func 64) #[] #[], .func (.func 66) #[] #[], .func (.func 68) #[] #[]]) hs hw (by kernel_rfl) rfl (by kernel_rfl) rfl (by kernel_rfl) (by kernel_rfl) (by simp [Value.oneCell']) rfl
 refine go_unit hs (by rfl) hx139 [17] ?_; clear hs; intro a hs
 refine go_end (hK7 _ _ ?_)
 refine wp_ret ?_
 obtain rfl := Option.some.inj H
 replace hs : Slots a 18 [(0, .pointer (some (⟨g2, 0, none⟩ : Addr)))] := hs.kx
 refine ret1g (L := [(0, .pointer (some (⟨g2, 0, none⟩ : Addr)))]) (r1 := .cell 0 90) (v1 := .agg #[.func (.func 57) #[] #[], .func (.func 80) #[] #[.pointer (some (⟨g21, 0, none⟩ : Addr))], .func (.func 80) #[] #[.pointer (some (⟨g47, 0, none⟩ : Addr))], .func (.func 80) #[] #[.pointer (some (⟨g73, 0, none⟩ : Addr))], .func (.func 80) #[] #[.pointer (some (⟨g88, 0, none⟩ : Addr))], .func (.func 80) #[] #[.pointer (some (⟨g101, 0, none⟩ : Addr))], .func (.func 80) #[] #[.pointer (some (⟨g114, 0, none⟩ : Addr))], .func (.func 80) #[] #[.pointer (some (⟨g127, 0, none⟩ : Addr))], .func (.func 62) #[] #[], .func (.func 64) #[] #[], .func (.func 66) #[] #[], .func (.func 68) #[] #[]]) hs (by kernel_rfl) ⟨_, (show lk 0 [(0, .pointer (some (⟨g2, 0, none⟩ : Addr)))] = some (.pointer (some (⟨g2, 0, none⟩ : Addr))) by kernel_rfl), lvb_row (hw.up 0) (by kernel_rfl) (by kernel_rfl) (by kernel_rfl)⟩ ?_
 exact ⟨g2, g131, g127, g118, g114, g105, g101, g92, g88, g66, g77, g73, ad62, g40, g51, g47, ad36, g14, g25, g21, ad10, rfl, hw⟩

/-! rivet/alu.Do: function 24 -/
noncomputable def alu_Do.j7 (a1 : Sapi_Instr) (v282 : Sapi_Regs) (v283 : Int) : Option (Sapi_Regs × Int) := (if 0 ≤ a1.A ∧ a1.A < ((16 : Nat) : Int) then ((alu_Show ({ v282 with R := vset v282.R (a1.A : Int).toNat v283 } : Sapi_Regs) v283).bind fun t290 => (some ((t290 : Sapi_Regs), 0))) else none)
noncomputable def alu_Do.j4 (a1 : Sapi_Instr) (a0 : Sapi_Regs) (v111 : Int) : Option (Sapi_Regs × Int) := alu_Do.j7 a1 (a0 : Sapi_Regs) v111
noncomputable def alu_Do.j5 (a1 : Sapi_Instr) (v212 : Sapi_Regs) (v213 : Int) : Option (Sapi_Regs × Int) := alu_Do.j7 a1 v212 v213
noncomputable def alu_Do.j6 (a1 : Sapi_Instr) (v243 : Sapi_Regs) (v244 : Int) : Option (Sapi_Regs × Int) := alu_Do.j7 a1 v243 v244
noncomputable def alu_Do.j3 (a1 : Sapi_Instr) (a0 : Sapi_Regs) (v55 : Int) : Option (Sapi_Regs × Int) := (if 0 ≤ a1.B ∧ a1.B < ((16 : Nat) : Int) then (if 0 ≤ a1.Op ∧ a1.Op < 12 then (if a1.Op = 0 then (if a1.U = true then alu_Do.j4 a1 a0 (wu32 (v55 * 2 ^ 16)) else alu_Do.j4 a1 a0 v55) else (if a1.Op = 1 then ((word_Shift 1 (vx 0 a0.R (a1.B : Int).toNat) v55).bind fun t122 => (alu_Do.j7 a1 (a0 : Sapi_Regs) t122)) else (if a1.Op = 2 then ((word_Shift 2 (vx 0 a0.R (a1.B : Int).toNat) v55).bind fun t135 => (alu_Do.j7 a1 (a0 : Sapi_Regs) t135)) else (if a1.Op = 3 then ((word_Shift 3 (vx 0 a0.R (a1.B : Int).toNat) v55).bind fun t148 => (alu_Do.j7 a1 (a0 : Sapi_Regs) t148)) else (if a1.Op = 4 then alu_Do.j7 a1 (a0 : Sapi_Regs) (band .u32 (vx 0 a0.R (a1.B : Int).toNat) v55) else (if a1.Op = 5 then alu_Do.j7 a1 (a0 : Sapi_Regs) (bandn .u32 (vx 0 a0.R (a1.B : Int).toNat) v55) else (if a1.Op = 6 then alu_Do.j7 a1 (a0 : Sapi_Regs) (bor .u32 (vx 0 a0.R (a1.B : Int).toNat) v55) else (if a1.Op = 7 then alu_Do.j7 a1 (a0 : Sapi_Regs) (bxor .u32 (vx 0 a0.R (a1.B : Int).toNat) v55) else (if a1.Op = 8 then (if a1.U = true then ((word_Add (vx 0 a0.R (a1.B : Int).toNat) v55 ((a0 : Sapi_Regs).C)).bind fun ⟨t202, t203, t204⟩ => (alu_Do.j5 a1 ({ ({ (a0 : Sapi_Regs) with C := t203 } : Sapi_Regs) with V := t204 } : Sapi_Regs) t202)) else ((word_Add (vx 0 a0.R (a1.B : Int).toNat) v55 false).bind fun ⟨t191, t192, t193⟩ => (alu_Do.j5 a1 ({ ({ (a0 : Sapi_Regs) with C := t192 } : Sapi_Regs) with V := t193 } : Sapi_Regs) t191))) else (if a1.Op = 9 then (if a1.U = true then ((word_Sub (vx 0 a0.R (a1.B : Int).toNat) v55 ((a0 : Sapi_Regs).C)).bind fun ⟨t233, t234, t235⟩ => (alu_Do.j6 a1 ({ ({ (a0 : Sapi_Regs) with C := t234 } : Sapi_Regs) with V := t235 } : Sapi_Regs) t233)) else ((word_Sub (vx 0 a0.R (a1.B : Int).toNat) v55 false).bind fun ⟨t222, t223, t224⟩ => (alu_Do.j6 a1 ({ ({ (a0 : Sapi_Regs) with C := t223 } : Sapi_Regs) with V := t224 } : Sapi_Regs) t222))) else (if a1.Op = 10 then ((word_Mul (vx 0 a0.R (a1.B : Int).toNat) v55 a1.U).bind fun ⟨t252, t253⟩ => (alu_Do.j7 a1 ({ (a0 : Sapi_Regs) with H := t253 } : Sapi_Regs) t252)) else (if a1.Op = 11 then ((word_Div (vx 0 a0.R (a1.B : Int).toNat) v55).bind fun ⟨t266, t267, t268⟩ => ((if t268 = true then alu_Do.j7 a1 ({ (a0 : Sapi_Regs) with H := t267 } : Sapi_Regs) t266 else some ((a0 : Sapi_Regs), 5)))) else none)))))))))))) else none) else none)
noncomputable def alu_Do.j2 (a1 : Sapi_Instr) (a0 : Sapi_Regs) : Option (Sapi_Regs × Int) := (if a1.Kind = 3 then alu_Do.j7 a1 (a0 : Sapi_Regs) a0.H else (if a1.Kind = 4 then ((alu_flags a0).bind fun t44 => (alu_Do.j7 a1 (a0 : Sapi_Regs) t44)) else (if 0 ≤ a1.C ∧ a1.C < ((16 : Nat) : Int) then (if a1.Kind = 2 then alu_Do.j3 a1 a0 (wu32 a1.Imm) else alu_Do.j3 a1 a0 (vx 0 a0.R (a1.C : Int).toNat)) else none)))
noncomputable def alu_Do.j1 (a0 : Sapi_Regs) (a1 : Sapi_Instr) (v22 : Bool) : Option (Sapi_Regs × Int) := (if v22 = true then some ((a0 : Sapi_Regs), 0) else alu_Do.j2 a1 a0)
noncomputable def alu_Do (a0 : Sapi_Regs) (a1 : Sapi_Instr) : Option (Sapi_Regs × Int) := ((isa_May a1).bind fun t17 => ((if t17 = true then alu_Do.j1 a0 a1 (decide (a1.Kind ≥ 5)) else alu_Do.j1 a0 a1 true)))
set_option maxRecDepth 100000 in
set_option maxHeartbeats 4000000 in
theorem alu_Do.calls (a0 : Sapi_Regs) (a1 : Sapi_Instr) (r : Sapi_Regs × Int) (w0 : World) (H : alu_Do a0 a1 = some r) :
    Calls Try.prog 24 #[.agg (eSapi_Regs.enc a0).toArray, .agg (eSapi_Instr.enc a1).toArray] w0 fun e w' => e = .returned (.tuple #[.agg (eSapi_Regs.enc r.1).toArray, .int .i64 r.2]) ∧ St [] w0 w' [] := by
 have hw : St [] w0 w0 [] := St.nil w0
 unfold alu_Do at H
 refine go_fn Try.func24 rfl Try.ntmps24 ?_; intro a hs
 refine go_sk fun K1 hK1 => ?_
 obtain ⟨ad2, wd3, hx4, hw⟩ := x_box1 (P := Try.prog) (elem := 26) (v := (Operand.tmp 0)) (ty := 0) hs hw eSapi_Regs a0 (by kernel_rfl)
 refine go_run hs (by rfl) hx4 [0] ?_; clear hs; intro a hs
 obtain ⟨ad6, wd7, hx8, hw⟩ := x_box1 (P := Try.prog) (elem := 45) (v := (Operand.tmp 1)) (ty := 0) hs hw eSapi_Instr a1 (by kernel_rfl)
 refine go_run hs (by rfl) hx8 [1] ?_; clear hs; intro a hs
 obtain ⟨ad10, wd11, hx12, hw⟩ := x_alloc1 (P := Try.prog) (elem := 26) (ty := 0) (z := .agg (eSapi_Regs.enc (⟨(Vector.replicate 16 0), 0, false, false, false, false⟩ : Sapi_Regs)).toArray) hs hw eSapi_Regs (⟨(Vector.replicate 16 0), 0, false, false, false, false⟩ : Sapi_Regs) (by kernel_rfl) (by kernel_rfl)
 refine go_run hs (by rfl) hx12 [] ?_; clear hs; intro a hs
 refine go_pvs 4 [] [] hs ?_; clear hs; intro a hs
 refine go_end (hK1 _ _ ?_)
 refine go_seq_k fun K14 hK14 => ?_
 have hJ2 : ∀ (a : Act) (w : World), Slots a 69 [(2, .pointer (some ad2)), (3, .pointer (some ad6)), (4, .pointer (some ad10))] → St [] w0 w [own 26 eSapi_Regs (some ad10) 1 [(⟨(Vector.replicate 16 0), 0, false, false, false, false⟩ : Sapi_Regs)], own 45 eSapi_Instr (some ad6) 1 [a1], own 26 eSapi_Regs (some ad2) 1 [a0]] → alu_Do.j2 a1 a0 = some r → K14 a w := by
  intro a w hs hw H
  unfold alu_Do.j2 at H
  refine hK14 _ _ ?_
  refine go_sk fun K28 hK28 => ?_
  refine go_run hs (by rfl) (x_lds (off := 0) (p := ad2) (cs := (eSapi_Regs.enc a0)) (Rd.of_own (hw.up 2)) (one_ok a0) (one_at _ _)) [] ?_; clear hs; intro a hs
  obtain ⟨ad29, wd30, hx31, hw⟩ := x_alloc1 (P := Try.prog) (elem := 26) (ty := 0) (z := .agg (eSapi_Regs.enc (⟨(Vector.replicate 16 0), 0, false, false, false, false⟩ : Sapi_Regs)).toArray) hs hw eSapi_Regs (⟨(Vector.replicate 16 0), 0, false, false, false, false⟩ : Sapi_Regs) (by kernel_rfl) (by kernel_rfl)
  refine go_run hs (by rfl) hx31 [] ?_; clear hs; intro a hs
  obtain ⟨wd33, hx34, hw⟩ := x_put (P := Try.prog) (ty := 0) (t := 26) (x := (Operand.tmp 6)) (y := (Operand.tmp 19)) (off := 0) (p := ad29) (v := .agg (eSapi_Regs.enc a0).toArray) (vs := (eSapi_Regs.enc a0)) (i := 0) (e' := ((a0 : Sapi_Regs) : Sapi_Regs)) hs hw rfl (one_ok (⟨(Vector.replicate 16 0), 0, false, false, false, false⟩ : Sapi_Regs)).1 (one_ok (⟨(Vector.replicate 16 0), 0, false, false, false, false⟩ : Sapi_Regs)).2 (by kernel_rfl) (one_at _ _) (by kernel_rfl) rfl (by kernel_rfl) (Nat.le_of_ble_eq_true rfl) (eSapi_Regs.one _) (by kernel_rfl)
  refine go_unit hs (by rfl) hx34 [19] ?_; clear hs; intro a hs
  replace hw : St [] w0 wd33 [own 26 eSapi_Regs (some ad29) 1 [(a0 : Sapi_Regs)], own 26 eSapi_Regs (some ad10) 1 [(⟨(Vector.replicate 16 0), 0, false, false, false, false⟩ : Sapi_Regs)], own 45 eSapi_Instr (some ad6) 1 [a1], own 26 eSapi_Regs (some ad2) 1 [a0]] := hw
  refine go_end (hK28 _ _ ?_)
  refine go_sp [] [] hs ?_; clear hs; intro a hs
  refine go_seq_k fun K36 hK36 => ?_
  have hJ7 : ∀ (v282 : Sapi_Regs) (v283 : Int) (a : Act) (w : World), Slots a 69 [(3, .pointer (some ad6)), (4, .pointer (some ad10)), (6, .pointer (some ad29)), (7, .int .u32 v283)] → St [] w0 w [own 26 eSapi_Regs (some ad29) 1 [v282], own 26 eSapi_Regs (some ad10) 1 [(⟨(Vector.replicate 16 0), 0, false, false, false, false⟩ : Sapi_Regs)], own 45 eSapi_Instr (some ad6) 1 [a1], own 26 eSapi_Regs (some ad2) 1 [a0]] → alu_Do.j7 a1 v282 v283 = some r → K36 a w := by
   intro v282 v283 a w hs hw H
   unfold alu_Do.j7 at H
   refine hK36 _ _ ?_
   refine go_sk fun K284 hK284 => ?_
   refine go_pvs 1 [3] [(61, .pointer (some ((ad6 : Addr).add 2)))] hs ?_; clear hs; intro a hs
   refine go_run hs (by rfl) (x_ld (off := 2) (p := (ad6 : Addr).add 2) (v := .int .i64 a1.A) (Rd.of_own (hw.up 2)) (one_ok a1) (one_off _ _ _)) [61] ?_; clear hs; intro a hs
   refine go_pvs 4 [] [(63, .int .u32 v283), (64, .pointer (some ((ad29 : Addr).add 0)))] hs ?_; clear hs; intro a hs
   obtain ⟨hp285, H⟩ := ite_only H
   refine go_run hs (by rfl) (x_vidx (e := 23) (p := (ad29 : Addr).add 0) (n := 16) (k := .i64) (i := a1.A) (sz := 1) hp285) [62, 64] ?_; clear hs; intro a hs
   obtain ⟨wd286, hx287, hw⟩ := x_put (P := Try.prog) (ty := 0) (t := 23) (x := (Operand.tmp 65)) (y := (Operand.tmp 63)) (off := 0 + (a1.A : Int).toNat * 1) (p := ((ad29 : Addr).add 0 : Addr).add ((a1.A : Int).toNat * 1)) (v := .int .u32 v283) (vs := [.int .u32 v283]) (i := 0) (e' := (({ v282 with R := vset v282.R (a1.A : Int).toNat v283 } : Sapi_Regs) : Sapi_Regs)) hs hw rfl (one_ok (a0 : Sapi_Regs)).1 (one_ok (a0 : Sapi_Regs)).2 (by kernel_rfl) (by simp only [add_add', Int.toNat_zero, Nat.zero_mul, Nat.zero_add, Nat.mul_one] <;> rfl) (by kernel_rfl) rfl (by kernel_rfl) (by have := hp285; show 0 + _ * 1 + 1 ≤ 21; omega) (by simp [Value.oneCell']) (vput (cs := eSapi_Regs.enc v282) (cs' := eSapi_Regs.enc ({ v282 with R := vset v282.R (a1.A : Int).toNat v283 } : Sapi_Regs)) (pre := []) (post := [.int .u32 v282.H, .bool v282.N, .bool v282.Z, .bool v282.C, .bool v282.V]) (f := (fun j : Nat => .int .u32 (vx 0 v282.R j))) (f' := (fun j : Nat => .int .u32 (vx 0 (vset v282.R (a1.A : Int).toNat v283) j))) (n := 16) (o := 0) (i := (a1.A : Int).toNat) (v := .int .u32 v283) (by kernel_rfl) (by kernel_rfl) rfl (by have := hp285; omega) (vx_put (by have := hp285; omega)))
   refine go_unit hs (by rfl) hx287 [63, 65] ?_; clear hs; intro a hs
   replace hw : St [] w0 wd286 [own 26 eSapi_Regs (some ad29) 1 [({ v282 with R := vset v282.R (a1.A : Int).toNat v283 } : Sapi_Regs)], own 26 eSapi_Regs (some ad10) 1 [(⟨(Vector.replicate 16 0), 0, false, false, false, false⟩ : Sapi_Regs)], own 45 eSapi_Instr (some ad6) 1 [a1], own 26 eSapi_Regs (some ad2) 1 [a0]] := hw
   refine go_end (hK284 _ _ ?_)
   refine go_sk fun K288 hK288 => ?_
   refine go_run hs (by rfl) (x_lds (off := 0) (p := ad29) (cs := (eSapi_Regs.enc ({ v282 with R := vset v282.R (a1.A : Int).toNat v283 } : Sapi_Regs))) (Rd.of_own (hw.up 0)) (one_ok ({ v282 with R := vset v282.R (a1.A : Int).toNat v283 } : Sapi_Regs)) (one_at _ _)) [6] ?_; clear hs; intro a hs
   refine go_pvs 2 [7] [(67, .int .u32 v283)] hs ?_; clear hs; intro a hs
   obtain ⟨t290, hx291, H⟩ := bind_some H
   refine go_call hs (by rfl) (alu_Show.calls ({ v282 with R := vset v282.R (a1.A : Int).toNat v283 } : Sapi_Regs) v283 t290 _ hx291) ?_
   rintro e wd292 ⟨rfl, hw293⟩
   refine ⟨_, rfl, ?_⟩
   replace hw := hw.call hw293
   clear hs; intro a hs; replace hs := hs.rms [66, 67]
   replace hw := hw.up 1
   obtain ⟨wd294, hx295, hw⟩ := x_put (P := Try.prog) (ty := 0) (t := 26) (x := (Operand.tmp 4)) (y := (Operand.tmp 68)) (off := 0) (p := ad10) (v := .agg (eSapi_Regs.enc t290).toArray) (vs := (eSapi_Regs.enc t290)) (i := 0) (e' := ((t290 : Sapi_Regs) : Sapi_Regs)) hs hw rfl (one_ok (⟨(Vector.replicate 16 0), 0, false, false, false, false⟩ : Sapi_Regs)).1 (one_ok (⟨(Vector.replicate 16 0), 0, false, false, false, false⟩ : Sapi_Regs)).2 (by kernel_rfl) (one_at _ _) (by kernel_rfl) rfl (by kernel_rfl) (Nat.le_of_ble_eq_true rfl) (eSapi_Regs.one _) (by kernel_rfl)
   refine go_unit hs (by rfl) hx295 [68] ?_; clear hs; intro a hs
   replace hw : St [] w0 wd294 [own 26 eSapi_Regs (some ad10) 1 [(t290 : Sapi_Regs)], own 26 eSapi_Regs (some ad29) 1 [({ v282 with R := vset v282.R (a1.A : Int).toNat v283 } : Sapi_Regs)], own 45 eSapi_Instr (some ad6) 1 [a1], own 26 eSapi_Regs (some ad2) 1 [a0]] := hw
   refine go_pvs 5 [] [(5, .int .i64 0)] hs ?_; clear hs; intro a hs
   refine go_end (hK288 _ _ ?_)
   refine wp_ret ?_
   obtain rfl := Option.some.inj H
   replace hs : Slots a 69 [(4, .pointer (some ad10)), (5, .int .i64 0)] := hs.kx
   refine ret2g (L := [(4, .pointer (some ad10)), (5, .int .i64 0)]) (r1 := .cell 4 26) (v1 := .agg (eSapi_Regs.enc (t290 : Sapi_Regs)).toArray) (r2 := .tmp 5) (v2 := .int .i64 0) hs (by kernel_rfl) ⟨_, (show lk 4 [(4, .pointer (some ad10)), (5, .int .i64 0)] = some (.pointer (some ad10)) by kernel_rfl), lv_row (E := eSapi_Regs) (x := (t290 : Sapi_Regs)) (by kernel_rfl) (by kernel_rfl) (Rd.of_own (hw.up 0))⟩ (show lk 5 [(4, .pointer (some ad10)), (5, .int .i64 0)] = some (.int .i64 0) by kernel_rfl) ?_
   exact ⟨rfl, hw.only 0⟩
  refine go_sk fun K37 hK37 => ?_
  refine go_pvs 1 [] [(20, .pointer (some ((ad6 : Addr).add 0)))] hs ?_; clear hs; intro a hs
  refine go_run hs (by rfl) (x_ld (off := 0) (p := (ad6 : Addr).add 0) (v := .int .i64 a1.Kind) (Rd.of_own (hw.up 2)) (one_ok a1) (one_off _ _ _)) [20] ?_; clear hs; intro a hs
  refine go_end (hK37 _ _ ?_)
  refine wp_block ?_
  refine go_sp [] [(53, .bool (a1.Kind == 3))] hs ?_; clear hs; intro a hs
  refine go_cond hs (a1.Kind == 3) (fun hc => ?_) fun hc => ?_
  ·replace H := ite_t H (beq_iff_eq.1 hc)
   have hb39 := hc
   rw [hb39] at hs
   refine go_region ?_
   refine go_pvs 1 [2, 21, 53] [(55, .pointer (some ((ad2 : Addr).add 16)))] hs ?_; clear hs; intro a hs
   refine go_run hs (by rfl) (x_ld (off := 16) (p := (ad2 : Addr).add 16) (v := .int .u32 a0.H) (Rd.of_own (hw.up 3)) (one_ok a0) (one_off _ _ _)) [55] ?_; clear hs; intro a hs
   refine go_pvs 3 [56] [(7, .int .u32 a0.H)] hs ?_; clear hs; intro a hs
   refine go_end ?_
   refine ib_norm ?_
   replace hw := hw.up 3
   replace hw := hw.up 3
   replace hw := hw.up 3
   replace hw := hw.up 3
   exact hJ7 (a0 : Sapi_Regs) a0.H _ _ hs.kx hw H
  ·replace H := ite_f H (beq_eq_false_iff_ne.1 hc)
   have hb40 := hc
   rw [hb40] at hs
   refine go_sp [21, 53] [(57, .bool (a1.Kind == 4))] hs ?_; clear hs; intro a hs
   refine go_cond hs (a1.Kind == 4) (fun hc => ?_) fun hc => ?_
   ·replace H := ite_t H (beq_iff_eq.1 hc)
    have hb42 := hc
    rw [hb42] at hs
    refine go_region ?_
    refine go_run hs (by rfl) (x_lds (off := 0) (p := ad2) (cs := (eSapi_Regs.enc a0)) (Rd.of_own (hw.up 3)) (one_ok a0) (one_at _ _)) [2, 57] ?_; clear hs; intro a hs
    obtain ⟨t44, hx45, H⟩ := bind_some H
    refine go_call hs (by rfl) (alu_flags.calls a0 t44 _ hx45) ?_
    rintro e wd46 ⟨rfl, hw47⟩
    refine ⟨_, rfl, ?_⟩
    replace hw := hw.call hw47
    clear hs; intro a hs; replace hs := hs.rms [59]
    refine go_pvs 3 [60] [(7, .int .u32 t44)] hs ?_; clear hs; intro a hs
    refine go_end ?_
    refine ib_norm ?_
    replace hw := hw.up 3
    replace hw := hw.up 3
    replace hw := hw.up 3
    replace hw := hw.up 3
    exact hJ7 (a0 : Sapi_Regs) t44 _ _ hs.kx hw H
   ·replace H := ite_f H (beq_eq_false_iff_ne.1 hc)
    have hb48 := hc
    rw [hb48] at hs
    refine go_sk fun K49 hK49 => ?_
    refine go_pvs 1 [57] [(22, .pointer (some ((ad6 : Addr).add 4)))] hs ?_; clear hs; intro a hs
    refine go_run hs (by rfl) (x_ld (off := 4) (p := (ad6 : Addr).add 4) (v := .int .i64 a1.C) (Rd.of_own (hw.up 2)) (one_ok a1) (one_off _ _ _)) [22] ?_; clear hs; intro a hs
    refine go_pvs 3 [] [(24, .pointer (some ((ad2 : Addr).add 0)))] hs ?_; clear hs; intro a hs
    obtain ⟨hp50, H⟩ := ite_only H
    refine go_run hs (by rfl) (x_vidx (e := 23) (p := (ad2 : Addr).add 0) (n := 16) (k := .i64) (i := a1.C) (sz := 1) hp50) [23, 24] ?_; clear hs; intro a hs
    refine go_run hs (by rfl) (x_ld (off := 0 + (a1.C : Int).toNat * 1) (p := ((ad2 : Addr).add 0 : Addr).add ((a1.C : Int).toNat * 1)) (v := .int .u32 (vx 0 a0.R (a1.C : Int).toNat)) (Rd.of_own (hw.up 3)) (one_ok a0) (by simp only [add_add', Int.toNat_zero, Nat.zero_mul, Nat.zero_add, Nat.mul_one] <;> rfl) (hv := (vget (cs := eSapi_Regs.enc a0) (pre := []) (post := [.int .u32 a0.H, .bool a0.N, .bool a0.Z, .bool a0.C, .bool a0.V]) (f := (fun j : Nat => .int .u32 (vx 0 a0.R j))) (n := 16) (o := 0) (i := (a1.C : Int).toNat) (by kernel_rfl) rfl (by have := hp50; omega)))) [25] ?_; clear hs; intro a hs
    refine go_pvs 6 [26] [(8, .int .u32 (vx 0 a0.R (a1.C : Int).toNat))] hs ?_; clear hs; intro a hs
    refine go_end (hK49 _ _ ?_)
    refine go_seq_k fun K51 hK51 => ?_
    have hJ3 : ∀ (v55 : Int) (a : Act) (w : World), Slots a 69 [(2, .pointer (some ad2)), (3, .pointer (some ad6)), (4, .pointer (some ad10)), (6, .pointer (some ad29)), (8, .int .u32 v55)] → St [] w0 w [own 26 eSapi_Regs (some ad29) 1 [(a0 : Sapi_Regs)], own 26 eSapi_Regs (some ad10) 1 [(⟨(Vector.replicate 16 0), 0, false, false, false, false⟩ : Sapi_Regs)], own 45 eSapi_Instr (some ad6) 1 [a1], own 26 eSapi_Regs (some ad2) 1 [a0]] → alu_Do.j3 a1 a0 v55 = some r → K51 a w := by
     intro v55 a w hs hw H
     unfold alu_Do.j3 at H
     refine hK51 _ _ ?_
     refine go_sp [] [] hs ?_; clear hs; intro a hs
     refine go_seq_k fun K57 hK57 => ?_
     refine s_region [(1, true), (2, false), (5, true), (6, false), (7, true), (8, true), (9, false), (10, true), (11, true), (12, false)] [0, 3, 4] [13] [14, 15, 16, 17, 18] (by kernel_rfl) (by kernel_rfl) (fun c a d v w h => by cases d <;> exact h) ?_
     refine t_pvs [1] [(2, false), (5, true), (6, false), (7, true), (8, true), (9, false), (10, true), (11, true), (12, false)] [] [(35, .pointer (some ((ad6 : Addr).add 1)))] hs ?_; clear hs; intro a hs
     refine t_rd hs (by rfl) (fun wx hbx => (x_ld (off := 1) (p := (ad6 : Addr).add 1) (v := .int .i64 a1.Op) ((Rd.of_own (hw.up 2)).below hbx) (one_ok a1) (one_off _ _ _))) [35] ?_; clear hs; intro a hs
     refine t_pvs [5] [(6, false), (7, true), (8, true), (9, false), (10, true), (11, true), (12, false)] [] [(39, .pointer (some ((ad6 : Addr).add 3)))] hs ?_; clear hs; intro a hs
     refine t_rd hs (by rfl) (fun wx hbx => (x_ld (off := 3) (p := (ad6 : Addr).add 3) (v := .int .i64 a1.B) ((Rd.of_own (hw.up 2)).below hbx) (one_ok a1) (one_off _ _ _))) [39] ?_; clear hs; intro a hs
     refine t_pvs [7] [(8, true), (9, false), (10, true), (11, true), (12, false)] [] [(41, .pointer (some ((ad2 : Addr).add 0)))] hs ?_; clear hs; intro a hs
     obtain ⟨hp58, H⟩ := ite_only H
     refine t_run hs (by rfl) (fun wx => (x_vidx (e := 23) (p := (ad2 : Addr).add 0) (n := 16) (k := .i64) (i := a1.B) (sz := 1) hp58)) [40, 41] ?_; clear hs; intro a hs
     refine t_rd hs (by rfl) (fun wx hbx => (x_ld (off := 0 + (a1.B : Int).toNat * 1) (p := ((ad2 : Addr).add 0 : Addr).add ((a1.B : Int).toNat * 1)) (v := .int .u32 (vx 0 a0.R (a1.B : Int).toNat)) ((Rd.of_own (hw.up 3)).below hbx) (one_ok a0) (by simp only [add_add', Int.toNat_zero, Nat.zero_mul, Nat.zero_add, Nat.mul_one] <;> rfl) (hv := (vget (cs := eSapi_Regs.enc a0) (pre := []) (post := [.int .u32 a0.H, .bool a0.N, .bool a0.Z, .bool a0.C, .bool a0.V]) (f := (fun j : Nat => .int .u32 (vx 0 a0.R j))) (n := 16) (o := 0) (i := (a1.B : Int).toNat) (by kernel_rfl) rfl (by have := hp58; omega))))) [42] ?_; clear hs; intro a hs
     refine t_pvs [10, 11] [(12, false)] [8] [(44, .int .u32 v55), (45, .pointer (some ((ad6 : Addr).add 6)))] hs ?_; clear hs; intro a hs
     refine t_rd hs (by rfl) (fun wx hbx => (x_ld (off := 6) (p := (ad6 : Addr).add 6) (v := .bool a1.U) ((Rd.of_own (hw.up 2)).below hbx) (one_ok a1) (one_off _ _ _))) [45] ?_; clear hs; intro a hs
     refine t_end ?_
     intro wq hbq
     replace hw := hw.behind hbq
     refine s_call hs (by rfl) (alu_units.calls () _ rfl) ?_
     rintro e wd101 ⟨g59, g60, g61, g62, g63, g64, g65, g66, g67, g68, g69, g70, ad71, g72, g73, g74, ad75, g76, g77, g78, ad79, rfl, hw102⟩
     refine ⟨_, rfl, below_st hbq hw102, ?_⟩
     replace hbq := below_st hbq hw102
     replace hw := hw.call hw102
     replace hw : St [] w0 wd101 [box g59 90 [.func (.func 57) #[] #[], .func (.func 80) #[] #[.pointer (some (⟨g78, 0, none⟩ : Addr))], .func (.func 80) #[] #[.pointer (some (⟨g74, 0, none⟩ : Addr))], .func (.func 80) #[] #[.pointer (some (⟨g70, 0, none⟩ : Addr))], .func (.func 80) #[] #[.pointer (some (⟨g67, 0, none⟩ : Addr))], .func (.func 80) #[] #[.pointer (some (⟨g65, 0, none⟩ : Addr))], .func (.func 80) #[] #[.pointer (some (⟨g63, 0, none⟩ : Addr))], .func (.func 80) #[] #[.pointer (some (⟨g61, 0, none⟩ : Addr))], .func (.func 62) #[] #[], .func (.func 64) #[] #[], .func (.func 66) #[] #[], .func (.func 68) #[] #[]], box g60 89 [.func (.func 80) #[] #[.pointer (some (⟨g61, 0, none⟩ : Addr))]], box g61 115 [.func (.func 61) #[] #[]], box g62 89 [.func (.func 80) #[] #[.pointer (some (⟨g63, 0, none⟩ : Addr))]], box g63 115 [.func (.func 60) #[] #[]], box g64 89 [.func (.func 80) #[] #[.pointer (some (⟨g65, 0, none⟩ : Addr))]], box g65 115 [.func (.func 59) #[] #[]], box g66 89 [.func (.func 80) #[] #[.pointer (some (⟨g67, 0, none⟩ : Addr))]], box g67 115 [.func (.func 58) #[] #[]], box g68 89 [.func (.func 80) #[] #[.pointer (some (⟨g70, 0, none⟩ : Addr))]], box g69 89 [.func (.func 80) #[] #[.pointer (some (⟨g70, 0, none⟩ : Addr))]], box g70 115 [.func (.func 55) #[] #[.pointer (some ad71)]], own 3 (eI .i64) (some ad71) 1 [3], box g72 89 [.func (.func 80) #[] #[.pointer (some (⟨g74, 0, none⟩ : Addr))]], box g73 89 [.func (.func 80) #[] #[.pointer (some (⟨g74, 0, none⟩ : Addr))]], box g74 115 [.func (.func 55) #[] #[.pointer (some ad75)]], own 3 (eI .i64) (some ad75) 1 [2], box g76 89 [.func (.func 80) #[] #[.pointer (some (⟨g78, 0, none⟩ : Addr))]], box g77 89 [.func (.func 80) #[] #[.pointer (some (⟨g78, 0, none⟩ : Addr))]], box g78 115 [.func (.func 55) #[] #[.pointer (some ad79)]], own 3 (eI .i64) (some ad79) 1 [1], own 26 eSapi_Regs (some ad29) 1 [(a0 : Sapi_Regs)], own 26 eSapi_Regs (some ad10) 1 [(⟨(Vector.replicate 16 0), 0, false, false, false, false⟩ : Sapi_Regs)], own 45 eSapi_Instr (some ad6) 1 [a1], own 26 eSapi_Regs (some ad2) 1 [a0]] := hw
     intro a hs1; replace hs : Slots a 69 [(2, .pointer (some ad2)), (3, .pointer (some ad6)), (4, .pointer (some ad10)), (6, .pointer (some ad29)), (34, .agg #[.func (.func 57) #[] #[], .func (.func 80) #[] #[.pointer (some (⟨g78, 0, none⟩ : Addr))], .func (.func 80) #[] #[.pointer (some (⟨g74, 0, none⟩ : Addr))], .func (.func 80) #[] #[.pointer (some (⟨g70, 0, none⟩ : Addr))], .func (.func 80) #[] #[.pointer (some (⟨g67, 0, none⟩ : Addr))], .func (.func 80) #[] #[.pointer (some (⟨g65, 0, none⟩ : Addr))], .func (.func 80) #[] #[.pointer (some (⟨g63, 0, none⟩ : Addr))], .func (.func 80) #[] #[.pointer (some (⟨g61, 0, none⟩ : Addr))], .func (.func 62) #[] #[], .func (.func 64) #[] #[], .func (.func 66) #[] #[], .func (.func 68) #[] #[]]), (36, .int .i64 a1.Op), (43, .int .u32 (vx 0 a0.R (a1.B : Int).toNat)), (44, .int .u32 v55), (46, .bool a1.U)] := hs1.kx; clear hs1
     obtain ⟨hp103, H⟩ := ite_only H
     replace hs : Slots a 69 [(2, .pointer (some ad2)), (3, .pointer (some ad6)), (4, .pointer (some ad10)), (6, .pointer (some ad29)), (34, .agg #[.func (.func 57) #[] #[], .func (.func 80) #[] #[.pointer (some (⟨g78, 0, none⟩ : Addr))], .func (.func 80) #[] #[.pointer (some (⟨g74, 0, none⟩ : Addr))], .func (.func 80) #[] #[.pointer (some (⟨g70, 0, none⟩ : Addr))], .func (.func 80) #[] #[.pointer (some (⟨g67, 0, none⟩ : Addr))], .func (.func 80) #[] #[.pointer (some (⟨g65, 0, none⟩ : Addr))], .func (.func 80) #[] #[.pointer (some (⟨g63, 0, none⟩ : Addr))], .func (.func 80) #[] #[.pointer (some (⟨g61, 0, none⟩ : Addr))], .func (.func 62) #[] #[], .func (.func 64) #[] #[], .func (.func 66) #[] #[], .func (.func 68) #[] #[]]), (36, .int .i64 a1.Op), (43, .int .u32 (vx 0 a0.R (a1.B : Int).toNat)), (44, .int .u32 v55), (46, .bool a1.U)] := hs.kx
     by_cases hk104 : a1.Op = 0
     ·replace H := ite_t H hk104
      replace hs := (congrArg (fun z => Slots a 69 [(2, .pointer (some ad2)), (3, .pointer (some ad6)), (4, .pointer (some ad10)), (6, .pointer (some ad29)), (34, .agg #[.func (.func 57) #[] #[], .func (.func 80) #[] #[.pointer (some (⟨g78, 0, none⟩ : Addr))], .func (.func 80) #[] #[.pointer (some (⟨g74, 0, none⟩ : Addr))], .func (.func 80) #[] #[.pointer (some (⟨g70, 0, none⟩ : Addr))], .func (.func 80) #[] #[.pointer (some (⟨g67, 0, none⟩ : Addr))], .func (.func 80) #[] #[.pointer (some (⟨g65, 0, none⟩ : Addr))], .func (.func 80) #[] #[.pointer (some (⟨g63, 0, none⟩ : Addr))], .func (.func 80) #[] #[.pointer (some (⟨g61, 0, none⟩ : Addr))], .func (.func 62) #[] #[], .func (.func 64) #[] #[], .func (.func 66) #[] #[], .func (.func 68) #[] #[]]), (36, .int .i64 z), (43, .int .u32 (vx 0 a0.R (a1.B : Int).toNat)), (44, .int .u32 v55), (46, .bool a1.U)]) hk104).mp hs
      replace hs : Slots a 69 [(2, .pointer (some ad2)), (3, .pointer (some ad6)), (4, .pointer (some ad10)), (6, .pointer (some ad29)), (34, .agg #[.func (.func 57) #[] #[], .func (.func 80) #[] #[.pointer (some (⟨g78, 0, none⟩ : Addr))], .func (.func 80) #[] #[.pointer (some (⟨g74, 0, none⟩ : Addr))], .func (.func 80) #[] #[.pointer (some (⟨g70, 0, none⟩ : Addr))], .func (.func 80) #[] #[.pointer (some (⟨g67, 0, none⟩ : Addr))], .func (.func 80) #[] #[.pointer (some (⟨g65, 0, none⟩ : Addr))], .func (.func 80) #[] #[.pointer (some (⟨g63, 0, none⟩ : Addr))], .func (.func 80) #[] #[.pointer (some (⟨g61, 0, none⟩ : Addr))], .func (.func 62) #[] #[], .func (.func 64) #[] #[], .func (.func 66) #[] #[], .func (.func 68) #[] #[]]), (36, .int .i64 0), (43, .int .u32 (vx 0 a0.R (a1.B : Int).toNat)), (44, .int .u32 v55), (46, .bool a1.U)] := hs
      refine s_pvs [3, 4] [] [34, 36] [(38, .func (.func 57) #[] #[])] hbq hs ?_; clear hs; intro a hs
      refine s_end ?_
      refine p_inline_k hs (by rfl) (f := 57) (args := #[.pointer (some ad29), .int .u32 (vx 0 a0.R (a1.B : Int).toNat), .int .u32 v55, .bool a1.U]) (fun KR105 hKR105 => ?_)
      refine go_fn Try.func57 rfl Try.ntmps57 ?_; clear hs; intro a hs
      refine go_sp [0, 1] [] hs ?_; clear hs; intro a hs
      refine go_seq_k fun K107 hK107 => ?_
      have hJ4 : ∀ (v111 : Int) (a : Act) (w : World), Slots a 14 [(2, .int .u32 v111)] → St [] w0 w [box g59 90 [.func (.func 57) #[] #[], .func (.func 80) #[] #[.pointer (some (⟨g78, 0, none⟩ : Addr))], .func (.func 80) #[] #[.pointer (some (⟨g74, 0, none⟩ : Addr))], .func (.func 80) #[] #[.pointer (some (⟨g70, 0, none⟩ : Addr))], .func (.func 80) #[] #[.pointer (some (⟨g67, 0, none⟩ : Addr))], .func (.func 80) #[] #[.pointer (some (⟨g65, 0, none⟩ : Addr))], .func (.func 80) #[] #[.pointer (some (⟨g63, 0, none⟩ : Addr))], .func (.func 80) #[] #[.pointer (some (⟨g61, 0, none⟩ : Addr))], .func (.func 62) #[] #[], .func (.func 64) #[] #[], .func (.func 66) #[] #[], .func (.func 68) #[] #[]], box g60 89 [.func (.func 80) #[] #[.pointer (some (⟨g61, 0, none⟩ : Addr))]], box g61 115 [.func (.func 61) #[] #[]], box g62 89 [.func (.func 80) #[] #[.pointer (some (⟨g63, 0, none⟩ : Addr))]], box g63 115 [.func (.func 60) #[] #[]], box g64 89 [.func (.func 80) #[] #[.pointer (some (⟨g65, 0, none⟩ : Addr))]], box g65 115 [.func (.func 59) #[] #[]], box g66 89 [.func (.func 80) #[] #[.pointer (some (⟨g67, 0, none⟩ : Addr))]], box g67 115 [.func (.func 58) #[] #[]], box g68 89 [.func (.func 80) #[] #[.pointer (some (⟨g70, 0, none⟩ : Addr))]], box g69 89 [.func (.func 80) #[] #[.pointer (some (⟨g70, 0, none⟩ : Addr))]], box g70 115 [.func (.func 55) #[] #[.pointer (some ad71)]], own 3 (eI .i64) (some ad71) 1 [3], box g72 89 [.func (.func 80) #[] #[.pointer (some (⟨g74, 0, none⟩ : Addr))]], box g73 89 [.func (.func 80) #[] #[.pointer (some (⟨g74, 0, none⟩ : Addr))]], box g74 115 [.func (.func 55) #[] #[.pointer (some ad75)]], own 3 (eI .i64) (some ad75) 1 [2], box g76 89 [.func (.func 80) #[] #[.pointer (some (⟨g78, 0, none⟩ : Addr))]], box g77 89 [.func (.func 80) #[] #[.pointer (some (⟨g78, 0, none⟩ : Addr))]], box g78 115 [.func (.func 55) #[] #[.pointer (some ad79)]], own 3 (eI .i64) (some ad79) 1 [1], own 26 eSapi_Regs (some ad29) 1 [(a0 : Sapi_Regs)], own 26 eSapi_Regs (some ad10) 1 [(⟨(Vector.replicate 16 0), 0, false, false, false, false⟩ : Sapi_Regs)], own 45 eSapi_Instr (some ad6) 1 [a1], own 26 eSapi_Regs (some ad2) 1 [a0]] → alu_Do.j4 a1 a0 v111 = some r → K107 a w := by
       intro v111 a w hs hw H
       unfold alu_Do.j4 at H
       refine hK107 _ _ ?_
       refine go_sp [2] [(8, .int .u32 v111), (9, .bool true)] hs ?_; clear hs; intro a hs
       refine wp_ret ?_
       refine ret2 (t1 := 8) (v1 := .int .u32 v111) (t2 := 9) (v2 := .bool true) hs (by kernel_rfl) (by kernel_rfl) (by kernel_rfl) ?_
       refine ⟨_, rfl, ?_⟩
       refine hKR105 _ _ ?_
       intro a hs1; have hs : Slots a _ [(2, .pointer (some ad2)), (3, .pointer (some ad6)), (4, .pointer (some ad10)), (6, .pointer (some ad29)), (47, .tuple #[.int .u32 v111, .bool true])] := hs1.kx; clear hs1
       refine p_last ?_
       refine e_pvs [14, 15, 16, 17, 18] [] [47] [(7, .int .u32 v111), (9, .bool true)] hs ?_; clear hs; intro a hs
       refine e_end ?_
       refine hK57 _ _ ?_
       refine go_sp [9] [(51, .bool false)] hs ?_; clear hs; intro a hs
       refine go_cond hs false (fun hc => ?_) fun hc => ?_
       ·cases hc
       ·skip
        refine wp_skip ?_
        refine ib_norm ?_
        replace hw := hw.up 24
        replace hw := hw.up 24
        replace hw := hw.up 24
        replace hw := hw.up 24
        replace hw := hw.only 4
        exact hJ7 (a0 : Sapi_Regs) v111 _ _ hs.kx hw H
      refine go_sp [3] [(10, .bool a1.U)] hs ?_; clear hs; intro a hs
      refine go_cond hs a1.U (fun hc => ?_) fun hc => ?_
      ·replace H := ite_t H hc
       have hb109 := hc
       rw [hb109] at hs
       refine go_plain [10] [(2, .int .u32 (wu32 (v55 * 2 ^ 16)))] hs ?_; clear hs; intro a hs
       replace hw := hw.up 24
       replace hw := hw.up 24
       replace hw := hw.up 24
       replace hw := hw.up 24
       replace hw := hw.up 24
       replace hw := hw.up 24
       replace hw := hw.up 24
       replace hw := hw.up 24
       replace hw := hw.up 24
       replace hw := hw.up 24
       replace hw := hw.up 24
       replace hw := hw.up 24
       replace hw := hw.up 24
       replace hw := hw.up 24
       replace hw := hw.up 24
       replace hw := hw.up 24
       replace hw := hw.up 24
       replace hw := hw.up 24
       replace hw := hw.up 24
       replace hw := hw.up 24
       replace hw := hw.up 24
       replace hw := hw.up 24
       replace hw := hw.up 24
       replace hw := hw.up 24
       replace hw := hw.up 24
       exact hJ4 (wu32 (v55 * 2 ^ 16)) _ _ hs.kx hw H
      ·replace H := ite_f H (ff hc)
       have hb110 := hc
       rw [hb110] at hs
       refine wp_skip ?_
       replace hw := hw.up 24
       replace hw := hw.up 24
       replace hw := hw.up 24
       replace hw := hw.up 24
       replace hw := hw.up 24
       replace hw := hw.up 24
       replace hw := hw.up 24
       replace hw := hw.up 24
       replace hw := hw.up 24
       replace hw := hw.up 24
       replace hw := hw.up 24
       replace hw := hw.up 24
       replace hw := hw.up 24
       replace hw := hw.up 24
       replace hw := hw.up 24
       replace hw := hw.up 24
       replace hw := hw.up 24
       replace hw := hw.up 24
       replace hw := hw.up 24
       replace hw := hw.up 24
       replace hw := hw.up 24
       replace hw := hw.up 24
       replace hw := hw.up 24
       replace hw := hw.up 24
       replace hw := hw.up 24
       exact hJ4 v55 _ _ hs.kx hw H
     ·replace H := ite_f H hk104
      replace hs : Slots a 69 [(2, .pointer (some ad2)), (3, .pointer (some ad6)), (4, .pointer (some ad10)), (6, .pointer (some ad29)), (34, .agg #[.func (.func 57) #[] #[], .func (.func 80) #[] #[.pointer (some (⟨g78, 0, none⟩ : Addr))], .func (.func 80) #[] #[.pointer (some (⟨g74, 0, none⟩ : Addr))], .func (.func 80) #[] #[.pointer (some (⟨g70, 0, none⟩ : Addr))], .func (.func 80) #[] #[.pointer (some (⟨g67, 0, none⟩ : Addr))], .func (.func 80) #[] #[.pointer (some (⟨g65, 0, none⟩ : Addr))], .func (.func 80) #[] #[.pointer (some (⟨g63, 0, none⟩ : Addr))], .func (.func 80) #[] #[.pointer (some (⟨g61, 0, none⟩ : Addr))], .func (.func 62) #[] #[], .func (.func 64) #[] #[], .func (.func 66) #[] #[], .func (.func 68) #[] #[]]), (36, .int .i64 a1.Op), (43, .int .u32 (vx 0 a0.R (a1.B : Int).toNat)), (44, .int .u32 v55), (46, .bool a1.U)] := hs.kx
      by_cases hk114 : a1.Op = 1
      ·replace H := ite_t H hk114
       replace hs := (congrArg (fun z => Slots a 69 [(2, .pointer (some ad2)), (3, .pointer (some ad6)), (4, .pointer (some ad10)), (6, .pointer (some ad29)), (34, .agg #[.func (.func 57) #[] #[], .func (.func 80) #[] #[.pointer (some (⟨g78, 0, none⟩ : Addr))], .func (.func 80) #[] #[.pointer (some (⟨g74, 0, none⟩ : Addr))], .func (.func 80) #[] #[.pointer (some (⟨g70, 0, none⟩ : Addr))], .func (.func 80) #[] #[.pointer (some (⟨g67, 0, none⟩ : Addr))], .func (.func 80) #[] #[.pointer (some (⟨g65, 0, none⟩ : Addr))], .func (.func 80) #[] #[.pointer (some (⟨g63, 0, none⟩ : Addr))], .func (.func 80) #[] #[.pointer (some (⟨g61, 0, none⟩ : Addr))], .func (.func 62) #[] #[], .func (.func 64) #[] #[], .func (.func 66) #[] #[], .func (.func 68) #[] #[]]), (36, .int .i64 z), (43, .int .u32 (vx 0 a0.R (a1.B : Int).toNat)), (44, .int .u32 v55), (46, .bool a1.U)]) hk114).mp hs
       replace hs : Slots a 69 [(2, .pointer (some ad2)), (3, .pointer (some ad6)), (4, .pointer (some ad10)), (6, .pointer (some ad29)), (34, .agg #[.func (.func 57) #[] #[], .func (.func 80) #[] #[.pointer (some (⟨g78, 0, none⟩ : Addr))], .func (.func 80) #[] #[.pointer (some (⟨g74, 0, none⟩ : Addr))], .func (.func 80) #[] #[.pointer (some (⟨g70, 0, none⟩ : Addr))], .func (.func 80) #[] #[.pointer (some (⟨g67, 0, none⟩ : Addr))], .func (.func 80) #[] #[.pointer (some (⟨g65, 0, none⟩ : Addr))], .func (.func 80) #[] #[.pointer (some (⟨g63, 0, none⟩ : Addr))], .func (.func 80) #[] #[.pointer (some (⟨g61, 0, none⟩ : Addr))], .func (.func 62) #[] #[], .func (.func 64) #[] #[], .func (.func 66) #[] #[], .func (.func 68) #[] #[]]), (36, .int .i64 1), (43, .int .u32 (vx 0 a0.R (a1.B : Int).toNat)), (44, .int .u32 v55), (46, .bool a1.U)] := hs
       refine s_pvs [3, 4] [] [34, 36] [(38, .func (.func 80) #[] #[.pointer (some (⟨g78, 0, none⟩ : Addr))])] hbq hs ?_; clear hs; intro a hs
       refine s_end ?_
       refine p_inline_k hs (by rfl) (f := 80) (args := #[.pointer (some ad29), .int .u32 (vx 0 a0.R (a1.B : Int).toNat), .int .u32 v55, .bool a1.U, .pointer (some (⟨g78, 0, none⟩ : Addr))]) (fun KR115 hKR115 => ?_)
       refine go_fn Try.func80 rfl Try.ntmps80 ?_; clear hs; intro a hs
       refine go_sp [0, 3] [] hs ?_; clear hs; intro a hs
       refine go_sk fun K117 hK117 => ?_
       refine go_run hs (by rfl) (x_bld (g := g78) (o := 0) (p := (⟨g78, 0, none⟩ : Addr)) (v := .func (.func 55) #[] #[.pointer (some ad79)]) (hw.up 19)) [4] ?_; clear hs; intro a hs
       refine go_pvs 3 [1, 2] [(12, .int .u32 (vx 0 a0.R (a1.B : Int).toNat)), (13, .int .u32 v55)] hs ?_; clear hs; intro a hs
       refine go_inline_k hs (by rfl) (f := 55) (args := #[.int .u32 (vx 0 a0.R (a1.B : Int).toNat), .int .u32 v55, .pointer (some ad79)]) (fun KR118 hKR118 => ?_)
       refine go_fn Try.func55 rfl Try.ntmps55 ?_; clear hs; intro a hs
       refine go_sp [] [] hs ?_; clear hs; intro a hs
       refine go_sk fun K120 hK120 => ?_
       refine go_run hs (by rfl) (x_ld (off := 0) (p := ad79) (v := .int .i64 1) (Rd.of_own (hw.up 20)) (one_ok 1) (one_at _ _)) [2] ?_; clear hs; intro a hs
       refine go_pvs 3 [0, 1] [(7, .int .u32 (vx 0 a0.R (a1.B : Int).toNat)), (8, .int .u32 v55)] hs ?_; clear hs; intro a hs
       obtain ⟨t122, hx123, H⟩ := bind_some H
       refine go_call hs (by rfl) (word_Shift.calls 1 (vx 0 a0.R (a1.B : Int).toNat) v55 t122 _ hx123) ?_
       rintro e wd124 ⟨rfl, hw125⟩
       refine ⟨_, rfl, ?_⟩
       replace hw := hw.call hw125
       clear hs; intro a hs; replace hs := hs.rms [6, 7, 8]
       refine go_pvs 5 [9] [(5, .int .u32 t122)] hs ?_; clear hs; intro a hs
       refine go_end (hK120 _ _ ?_)
       refine wp_ret ?_
       refine ret1 (t := 5) (v := .int .u32 t122) hs (by kernel_rfl) (by kernel_rfl) ?_
       refine ⟨_, rfl, ?_⟩
       refine hKR118 _ _ ?_
       intro a hs1; have hs : Slots a _ [(14, .int .u32 t122)] := hs1.kx; clear hs1
       refine go_pvs 6 [14] [(9, .int .u32 t122), (10, .bool true)] hs ?_; clear hs; intro a hs
       refine go_end (hK117 _ _ ?_)
       refine wp_ret ?_
       refine ret2 (t1 := 9) (v1 := .int .u32 t122) (t2 := 10) (v2 := .bool true) hs (by kernel_rfl) (by kernel_rfl) (by kernel_rfl) ?_
       refine ⟨_, rfl, ?_⟩
       refine hKR115 _ _ ?_
       intro a hs1; have hs : Slots a _ [(2, .pointer (some ad2)), (3, .pointer (some ad6)), (4, .pointer (some ad10)), (6, .pointer (some ad29)), (47, .tuple #[.int .u32 t122, .bool true])] := hs1.kx; clear hs1
       refine p_last ?_
       refine e_pvs [14, 15, 16, 17, 18] [] [47] [(7, .int .u32 t122), (9, .bool true)] hs ?_; clear hs; intro a hs
       refine e_end ?_
       refine hK57 _ _ ?_
       refine go_sp [9] [(51, .bool false)] hs ?_; clear hs; intro a hs
       refine go_cond hs false (fun hc => ?_) fun hc => ?_
       ·cases hc
       ·skip
        refine wp_skip ?_
        refine ib_norm ?_
        replace hw := hw.up 24
        replace hw := hw.up 24
        replace hw := hw.up 24
        replace hw := hw.up 24
        replace hw := hw.only 4
        exact hJ7 (a0 : Sapi_Regs) t122 _ _ hs.kx hw H
      ·replace H := ite_f H hk114
       replace hs : Slots a 69 [(2, .pointer (some ad2)), (3, .pointer (some ad6)), (4, .pointer (some ad10)), (6, .pointer (some ad29)), (34, .agg #[.func (.func 57) #[] #[], .func (.func 80) #[] #[.pointer (some (⟨g78, 0, none⟩ : Addr))], .func (.func 80) #[] #[.pointer (some (⟨g74, 0, none⟩ : Addr))], .func (.func 80) #[] #[.pointer (some (⟨g70, 0, none⟩ : Addr))], .func (.func 80) #[] #[.pointer (some (⟨g67, 0, none⟩ : Addr))], .func (.func 80) #[] #[.pointer (some (⟨g65, 0, none⟩ : Addr))], .func (.func 80) #[] #[.pointer (some (⟨g63, 0, none⟩ : Addr))], .func (.func 80) #[] #[.pointer (some (⟨g61, 0, none⟩ : Addr))], .func (.func 62) #[] #[], .func (.func 64) #[] #[], .func (.func 66) #[] #[], .func (.func 68) #[] #[]]), (36, .int .i64 a1.Op), (43, .int .u32 (vx 0 a0.R (a1.B : Int).toNat)), (44, .int .u32 v55), (46, .bool a1.U)] := hs.kx
       by_cases hk127 : a1.Op = 2
       ·replace H := ite_t H hk127
        replace hs := (congrArg (fun z => Slots a 69 [(2, .pointer (some ad2)), (3, .pointer (some ad6)), (4, .pointer (some ad10)), (6, .pointer (some ad29)), (34, .agg #[.func (.func 57) #[] #[], .func (.func 80) #[] #[.pointer (some (⟨g78, 0, none⟩ : Addr))], .func (.func 80) #[] #[.pointer (some (⟨g74, 0, none⟩ : Addr))], .func (.func 80) #[] #[.pointer (some (⟨g70, 0, none⟩ : Addr))], .func (.func 80) #[] #[.pointer (some (⟨g67, 0, none⟩ : Addr))], .func (.func 80) #[] #[.pointer (some (⟨g65, 0, none⟩ : Addr))], .func (.func 80) #[] #[.pointer (some (⟨g63, 0, none⟩ : Addr))], .func (.func 80) #[] #[.pointer (some (⟨g61, 0, none⟩ : Addr))], .func (.func 62) #[] #[], .func (.func 64) #[] #[], .func (.func 66) #[] #[], .func (.func 68) #[] #[]]), (36, .int .i64 z), (43, .int .u32 (vx 0 a0.R (a1.B : Int).toNat)), (44, .int .u32 v55), (46, .bool a1.U)]) hk127).mp hs
        replace hs : Slots a 69 [(2, .pointer (some ad2)), (3, .pointer (some ad6)), (4, .pointer (some ad10)), (6, .pointer (some ad29)), (34, .agg #[.func (.func 57) #[] #[], .func (.func 80) #[] #[.pointer (some (⟨g78, 0, none⟩ : Addr))], .func (.func 80) #[] #[.pointer (some (⟨g74, 0, none⟩ : Addr))], .func (.func 80) #[] #[.pointer (some (⟨g70, 0, none⟩ : Addr))], .func (.func 80) #[] #[.pointer (some (⟨g67, 0, none⟩ : Addr))], .func (.func 80) #[] #[.pointer (some (⟨g65, 0, none⟩ : Addr))], .func (.func 80) #[] #[.pointer (some (⟨g63, 0, none⟩ : Addr))], .func (.func 80) #[] #[.pointer (some (⟨g61, 0, none⟩ : Addr))], .func (.func 62) #[] #[], .func (.func 64) #[] #[], .func (.func 66) #[] #[], .func (.func 68) #[] #[]]), (36, .int .i64 2), (43, .int .u32 (vx 0 a0.R (a1.B : Int).toNat)), (44, .int .u32 v55), (46, .bool a1.U)] := hs
        refine s_pvs [3, 4] [] [34, 36] [(38, .func (.func 80) #[] #[.pointer (some (⟨g74, 0, none⟩ : Addr))])] hbq hs ?_; clear hs; intro a hs
        refine s_end ?_
        refine p_inline_k hs (by rfl) (f := 80) (args := #[.pointer (some ad29), .int .u32 (vx 0 a0.R (a1.B : Int).toNat), .int .u32 v55, .bool a1.U, .pointer (some (⟨g74, 0, none⟩ : Addr))]) (fun KR128 hKR128 => ?_)
        refine go_fn Try.func80 rfl Try.ntmps80 ?_; clear hs; intro a hs
        refine go_sp [0, 3] [] hs ?_; clear hs; intro a hs
        refine go_sk fun K130 hK130 => ?_
        refine go_run hs (by rfl) (x_bld (g := g74) (o := 0) (p := (⟨g74, 0, none⟩ : Addr)) (v := .func (.func 55) #[] #[.pointer (some ad75)]) (hw.up 15)) [4] ?_; clear hs; intro a hs
        refine go_pvs 3 [1, 2] [(12, .int .u32 (vx 0 a0.R (a1.B : Int).toNat)), (13, .int .u32 v55)] hs ?_; clear hs; intro a hs
        refine go_inline_k hs (by rfl) (f := 55) (args := #[.int .u32 (vx 0 a0.R (a1.B : Int).toNat), .int .u32 v55, .pointer (some ad75)]) (fun KR131 hKR131 => ?_)
        refine go_fn Try.func55 rfl Try.ntmps55 ?_; clear hs; intro a hs
        refine go_sp [] [] hs ?_; clear hs; intro a hs
        refine go_sk fun K133 hK133 => ?_
        refine go_run hs (by rfl) (x_ld (off := 0) (p := ad75) (v := .int .i64 2) (Rd.of_own (hw.up 16)) (one_ok 2) (one_at _ _)) [2] ?_; clear hs; intro a hs
        refine go_pvs 3 [0, 1] [(7, .int .u32 (vx 0 a0.R (a1.B : Int).toNat)), (8, .int .u32 v55)] hs ?_; clear hs; intro a hs
        obtain ⟨t135, hx136, H⟩ := bind_some H
        refine go_call hs (by rfl) (word_Shift.calls 2 (vx 0 a0.R (a1.B : Int).toNat) v55 t135 _ hx136) ?_
        rintro e wd137 ⟨rfl, hw138⟩
        refine ⟨_, rfl, ?_⟩
        replace hw := hw.call hw138
        clear hs; intro a hs; replace hs := hs.rms [6, 7, 8]
        refine go_pvs 5 [9] [(5, .int .u32 t135)] hs ?_; clear hs; intro a hs
        refine go_end (hK133 _ _ ?_)
        refine wp_ret ?_
        refine ret1 (t := 5) (v := .int .u32 t135) hs (by kernel_rfl) (by kernel_rfl) ?_
        refine ⟨_, rfl, ?_⟩
        refine hKR131 _ _ ?_
        intro a hs1; have hs : Slots a _ [(14, .int .u32 t135)] := hs1.kx; clear hs1
        refine go_pvs 6 [14] [(9, .int .u32 t135), (10, .bool true)] hs ?_; clear hs; intro a hs
        refine go_end (hK130 _ _ ?_)
        refine wp_ret ?_
        refine ret2 (t1 := 9) (v1 := .int .u32 t135) (t2 := 10) (v2 := .bool true) hs (by kernel_rfl) (by kernel_rfl) (by kernel_rfl) ?_
        refine ⟨_, rfl, ?_⟩
        refine hKR128 _ _ ?_
        intro a hs1; have hs : Slots a _ [(2, .pointer (some ad2)), (3, .pointer (some ad6)), (4, .pointer (some ad10)), (6, .pointer (some ad29)), (47, .tuple #[.int .u32 t135, .bool true])] := hs1.kx; clear hs1
        refine p_last ?_
        refine e_pvs [14, 15, 16, 17, 18] [] [47] [(7, .int .u32 t135), (9, .bool true)] hs ?_; clear hs; intro a hs
        refine e_end ?_
        refine hK57 _ _ ?_
        refine go_sp [9] [(51, .bool false)] hs ?_; clear hs; intro a hs
        refine go_cond hs false (fun hc => ?_) fun hc => ?_
        ·cases hc
        ·skip
         refine wp_skip ?_
         refine ib_norm ?_
         replace hw := hw.up 24
         replace hw := hw.up 24
         replace hw := hw.up 24
         replace hw := hw.up 24
         replace hw := hw.only 4
         exact hJ7 (a0 : Sapi_Regs) t135 _ _ hs.kx hw H
       ·replace H := ite_f H hk127
        replace hs : Slots a 69 [(2, .pointer (some ad2)), (3, .pointer (some ad6)), (4, .pointer (some ad10)), (6, .pointer (some ad29)), (34, .agg #[.func (.func 57) #[] #[], .func (.func 80) #[] #[.pointer (some (⟨g78, 0, none⟩ : Addr))], .func (.func 80) #[] #[.pointer (some (⟨g74, 0, none⟩ : Addr))], .func (.func 80) #[] #[.pointer (some (⟨g70, 0, none⟩ : Addr))], .func (.func 80) #[] #[.pointer (some (⟨g67, 0, none⟩ : Addr))], .func (.func 80) #[] #[.pointer (some (⟨g65, 0, none⟩ : Addr))], .func (.func 80) #[] #[.pointer (some (⟨g63, 0, none⟩ : Addr))], .func (.func 80) #[] #[.pointer (some (⟨g61, 0, none⟩ : Addr))], .func (.func 62) #[] #[], .func (.func 64) #[] #[], .func (.func 66) #[] #[], .func (.func 68) #[] #[]]), (36, .int .i64 a1.Op), (43, .int .u32 (vx 0 a0.R (a1.B : Int).toNat)), (44, .int .u32 v55), (46, .bool a1.U)] := hs.kx
        by_cases hk140 : a1.Op = 3
        ·replace H := ite_t H hk140
         replace hs := (congrArg (fun z => Slots a 69 [(2, .pointer (some ad2)), (3, .pointer (some ad6)), (4, .pointer (some ad10)), (6, .pointer (some ad29)), (34, .agg #[.func (.func 57) #[] #[], .func (.func 80) #[] #[.pointer (some (⟨g78, 0, none⟩ : Addr))], .func (.func 80) #[] #[.pointer (some (⟨g74, 0, none⟩ : Addr))], .func (.func 80) #[] #[.pointer (some (⟨g70, 0, none⟩ : Addr))], .func (.func 80) #[] #[.pointer (some (⟨g67, 0, none⟩ : Addr))], .func (.func 80) #[] #[.pointer (some (⟨g65, 0, none⟩ : Addr))], .func (.func 80) #[] #[.pointer (some (⟨g63, 0, none⟩ : Addr))], .func (.func 80) #[] #[.pointer (some (⟨g61, 0, none⟩ : Addr))], .func (.func 62) #[] #[], .func (.func 64) #[] #[], .func (.func 66) #[] #[], .func (.func 68) #[] #[]]), (36, .int .i64 z), (43, .int .u32 (vx 0 a0.R (a1.B : Int).toNat)), (44, .int .u32 v55), (46, .bool a1.U)]) hk140).mp hs
         replace hs : Slots a 69 [(2, .pointer (some ad2)), (3, .pointer (some ad6)), (4, .pointer (some ad10)), (6, .pointer (some ad29)), (34, .agg #[.func (.func 57) #[] #[], .func (.func 80) #[] #[.pointer (some (⟨g78, 0, none⟩ : Addr))], .func (.func 80) #[] #[.pointer (some (⟨g74, 0, none⟩ : Addr))], .func (.func 80) #[] #[.pointer (some (⟨g70, 0, none⟩ : Addr))], .func (.func 80) #[] #[.pointer (some (⟨g67, 0, none⟩ : Addr))], .func (.func 80) #[] #[.pointer (some (⟨g65, 0, none⟩ : Addr))], .func (.func 80) #[] #[.pointer (some (⟨g63, 0, none⟩ : Addr))], .func (.func 80) #[] #[.pointer (some (⟨g61, 0, none⟩ : Addr))], .func (.func 62) #[] #[], .func (.func 64) #[] #[], .func (.func 66) #[] #[], .func (.func 68) #[] #[]]), (36, .int .i64 3), (43, .int .u32 (vx 0 a0.R (a1.B : Int).toNat)), (44, .int .u32 v55), (46, .bool a1.U)] := hs
         refine s_pvs [3, 4] [] [34, 36] [(38, .func (.func 80) #[] #[.pointer (some (⟨g70, 0, none⟩ : Addr))])] hbq hs ?_; clear hs; intro a hs
         refine s_end ?_
         refine p_inline_k hs (by rfl) (f := 80) (args := #[.pointer (some ad29), .int .u32 (vx 0 a0.R (a1.B : Int).toNat), .int .u32 v55, .bool a1.U, .pointer (some (⟨g70, 0, none⟩ : Addr))]) (fun KR141 hKR141 => ?_)
         refine go_fn Try.func80 rfl Try.ntmps80 ?_; clear hs; intro a hs
         refine go_sp [0, 3] [] hs ?_; clear hs; intro a hs
         refine go_sk fun K143 hK143 => ?_
         refine go_run hs (by rfl) (x_bld (g := g70) (o := 0) (p := (⟨g70, 0, none⟩ : Addr)) (v := .func (.func 55) #[] #[.pointer (some ad71)]) (hw.up 11)) [4] ?_; clear hs; intro a hs
         refine go_pvs 3 [1, 2] [(12, .int .u32 (vx 0 a0.R (a1.B : Int).toNat)), (13, .int .u32 v55)] hs ?_; clear hs; intro a hs
         refine go_inline_k hs (by rfl) (f := 55) (args := #[.int .u32 (vx 0 a0.R (a1.B : Int).toNat), .int .u32 v55, .pointer (some ad71)]) (fun KR144 hKR144 => ?_)
         refine go_fn Try.func55 rfl Try.ntmps55 ?_; clear hs; intro a hs
         refine go_sp [] [] hs ?_; clear hs; intro a hs
         refine go_sk fun K146 hK146 => ?_
         refine go_run hs (by rfl) (x_ld (off := 0) (p := ad71) (v := .int .i64 3) (Rd.of_own (hw.up 12)) (one_ok 3) (one_at _ _)) [2] ?_; clear hs; intro a hs
         refine go_pvs 3 [0, 1] [(7, .int .u32 (vx 0 a0.R (a1.B : Int).toNat)), (8, .int .u32 v55)] hs ?_; clear hs; intro a hs
         obtain ⟨t148, hx149, H⟩ := bind_some H
         refine go_call hs (by rfl) (word_Shift.calls 3 (vx 0 a0.R (a1.B : Int).toNat) v55 t148 _ hx149) ?_
         rintro e wd150 ⟨rfl, hw151⟩
         refine ⟨_, rfl, ?_⟩
         replace hw := hw.call hw151
         clear hs; intro a hs; replace hs := hs.rms [6, 7, 8]
         refine go_pvs 5 [9] [(5, .int .u32 t148)] hs ?_; clear hs; intro a hs
         refine go_end (hK146 _ _ ?_)
         refine wp_ret ?_
         refine ret1 (t := 5) (v := .int .u32 t148) hs (by kernel_rfl) (by kernel_rfl) ?_
         refine ⟨_, rfl, ?_⟩
         refine hKR144 _ _ ?_
         intro a hs1; have hs : Slots a _ [(14, .int .u32 t148)] := hs1.kx; clear hs1
         refine go_pvs 6 [14] [(9, .int .u32 t148), (10, .bool true)] hs ?_; clear hs; intro a hs
         refine go_end (hK143 _ _ ?_)
         refine wp_ret ?_
         refine ret2 (t1 := 9) (v1 := .int .u32 t148) (t2 := 10) (v2 := .bool true) hs (by kernel_rfl) (by kernel_rfl) (by kernel_rfl) ?_
         refine ⟨_, rfl, ?_⟩
         refine hKR141 _ _ ?_
         intro a hs1; have hs : Slots a _ [(2, .pointer (some ad2)), (3, .pointer (some ad6)), (4, .pointer (some ad10)), (6, .pointer (some ad29)), (47, .tuple #[.int .u32 t148, .bool true])] := hs1.kx; clear hs1
         refine p_last ?_
         refine e_pvs [14, 15, 16, 17, 18] [] [47] [(7, .int .u32 t148), (9, .bool true)] hs ?_; clear hs; intro a hs
         refine e_end ?_
         refine hK57 _ _ ?_
         refine go_sp [9] [(51, .bool false)] hs ?_; clear hs; intro a hs
         refine go_cond hs false (fun hc => ?_) fun hc => ?_
         ·cases hc
         ·skip
          refine wp_skip ?_
          refine ib_norm ?_
          replace hw := hw.up 24
          replace hw := hw.up 24
          replace hw := hw.up 24
          replace hw := hw.up 24
          replace hw := hw.only 4
          exact hJ7 (a0 : Sapi_Regs) t148 _ _ hs.kx hw H
        ·replace H := ite_f H hk140
         replace hs : Slots a 69 [(2, .pointer (some ad2)), (3, .pointer (some ad6)), (4, .pointer (some ad10)), (6, .pointer (some ad29)), (34, .agg #[.func (.func 57) #[] #[], .func (.func 80) #[] #[.pointer (some (⟨g78, 0, none⟩ : Addr))], .func (.func 80) #[] #[.pointer (some (⟨g74, 0, none⟩ : Addr))], .func (.func 80) #[] #[.pointer (some (⟨g70, 0, none⟩ : Addr))], .func (.func 80) #[] #[.pointer (some (⟨g67, 0, none⟩ : Addr))], .func (.func 80) #[] #[.pointer (some (⟨g65, 0, none⟩ : Addr))], .func (.func 80) #[] #[.pointer (some (⟨g63, 0, none⟩ : Addr))], .func (.func 80) #[] #[.pointer (some (⟨g61, 0, none⟩ : Addr))], .func (.func 62) #[] #[], .func (.func 64) #[] #[], .func (.func 66) #[] #[], .func (.func 68) #[] #[]]), (36, .int .i64 a1.Op), (43, .int .u32 (vx 0 a0.R (a1.B : Int).toNat)), (44, .int .u32 v55), (46, .bool a1.U)] := hs.kx
         by_cases hk153 : a1.Op = 4
         ·replace H := ite_t H hk153
          replace hs := (congrArg (fun z => Slots a 69 [(2, .pointer (some ad2)), (3, .pointer (some ad6)), (4, .pointer (some ad10)), (6, .pointer (some ad29)), (34, .agg #[.func (.func 57) #[] #[], .func (.func 80) #[] #[.pointer (some (⟨g78, 0, none⟩ : Addr))], .func (.func 80) #[] #[.pointer (some (⟨g74, 0, none⟩ : Addr))], .func (.func 80) #[] #[.pointer (some (⟨g70, 0, none⟩ : Addr))], .func (.func 80) #[] #[.pointer (some (⟨g67, 0, none⟩ : Addr))], .func (.func 80) #[] #[.pointer (some (⟨g65, 0, none⟩ : Addr))], .func (.func 80) #[] #[.pointer (some (⟨g63, 0, none⟩ : Addr))], .func (.func 80) #[] #[.pointer (some (⟨g61, 0, none⟩ : Addr))], .func (.func 62) #[] #[], .func (.func 64) #[] #[], .func (.func 66) #[] #[], .func (.func 68) #[] #[]]), (36, .int .i64 z), (43, .int .u32 (vx 0 a0.R (a1.B : Int).toNat)), (44, .int .u32 v55), (46, .bool a1.U)]) hk153).mp hs
          replace hs : Slots a 69 [(2, .pointer (some ad2)), (3, .pointer (some ad6)), (4, .pointer (some ad10)), (6, .pointer (some ad29)), (34, .agg #[.func (.func 57) #[] #[], .func (.func 80) #[] #[.pointer (some (⟨g78, 0, none⟩ : Addr))], .func (.func 80) #[] #[.pointer (some (⟨g74, 0, none⟩ : Addr))], .func (.func 80) #[] #[.pointer (some (⟨g70, 0, none⟩ : Addr))], .func (.func 80) #[] #[.pointer (some (⟨g67, 0, none⟩ : Addr))], .func (.func 80) #[] #[.pointer (some (⟨g65, 0, none⟩ : Addr))], .func (.func 80) #[] #[.pointer (some (⟨g63, 0, none⟩ : Addr))], .func (.func 80) #[] #[.pointer (some (⟨g61, 0, none⟩ : Addr))], .func (.func 62) #[] #[], .func (.func 64) #[] #[], .func (.func 66) #[] #[], .func (.func 68) #[] #[]]), (36, .int .i64 4), (43, .int .u32 (vx 0 a0.R (a1.B : Int).toNat)), (44, .int .u32 v55), (46, .bool a1.U)] := hs
          refine s_pvs [3, 4] [] [34, 36] [(38, .func (.func 80) #[] #[.pointer (some (⟨g67, 0, none⟩ : Addr))])] hbq hs ?_; clear hs; intro a hs
          refine s_end ?_
          refine p_inline_k hs (by rfl) (f := 80) (args := #[.pointer (some ad29), .int .u32 (vx 0 a0.R (a1.B : Int).toNat), .int .u32 v55, .bool a1.U, .pointer (some (⟨g67, 0, none⟩ : Addr))]) (fun KR154 hKR154 => ?_)
          refine go_fn Try.func80 rfl Try.ntmps80 ?_; clear hs; intro a hs
          refine go_sp [0, 3] [] hs ?_; clear hs; intro a hs
          refine go_sk fun K156 hK156 => ?_
          refine go_run hs (by rfl) (x_bld (g := g67) (o := 0) (p := (⟨g67, 0, none⟩ : Addr)) (v := .func (.func 58) #[] #[]) (hw.up 8)) [4] ?_; clear hs; intro a hs
          refine go_pvs 3 [1, 2] [(12, .int .u32 (vx 0 a0.R (a1.B : Int).toNat)), (13, .int .u32 v55)] hs ?_; clear hs; intro a hs
          refine go_inline_k hs (by rfl) (f := 58) (args := #[.int .u32 (vx 0 a0.R (a1.B : Int).toNat), .int .u32 v55]) (fun KR157 hKR157 => ?_)
          refine go_fn Try.func58 rfl Try.ntmps58 ?_; clear hs; intro a hs
          refine go_sp [] [] hs ?_; clear hs; intro a hs
          refine go_sp [0, 1] [(4, .int .u32 (band .u32 (vx 0 a0.R (a1.B : Int).toNat) v55))] hs ?_; clear hs; intro a hs
          refine wp_ret ?_
          refine ret1 (t := 4) (v := .int .u32 (band .u32 (vx 0 a0.R (a1.B : Int).toNat) v55)) hs (by kernel_rfl) (by kernel_rfl) ?_
          refine ⟨_, rfl, ?_⟩
          refine hKR157 _ _ ?_
          intro a hs1; have hs : Slots a _ [(14, .int .u32 (band .u32 (vx 0 a0.R (a1.B : Int).toNat) v55))] := hs1.kx; clear hs1
          refine go_pvs 6 [14] [(9, .int .u32 (band .u32 (vx 0 a0.R (a1.B : Int).toNat) v55)), (10, .bool true)] hs ?_; clear hs; intro a hs
          refine go_end (hK156 _ _ ?_)
          refine wp_ret ?_
          refine ret2 (t1 := 9) (v1 := .int .u32 (band .u32 (vx 0 a0.R (a1.B : Int).toNat) v55)) (t2 := 10) (v2 := .bool true) hs (by kernel_rfl) (by kernel_rfl) (by kernel_rfl) ?_
          refine ⟨_, rfl, ?_⟩
          refine hKR154 _ _ ?_
          intro a hs1; have hs : Slots a _ [(2, .pointer (some ad2)), (3, .pointer (some ad6)), (4, .pointer (some ad10)), (6, .pointer (some ad29)), (47, .tuple #[.int .u32 (band .u32 (vx 0 a0.R (a1.B : Int).toNat) v55), .bool true])] := hs1.kx; clear hs1
          refine p_last ?_
          refine e_pvs [14, 15, 16, 17, 18] [] [47] [(7, .int .u32 (band .u32 (vx 0 a0.R (a1.B : Int).toNat) v55)), (9, .bool true)] hs ?_; clear hs; intro a hs
          refine e_end ?_
          refine hK57 _ _ ?_
          refine go_sp [9] [(51, .bool false)] hs ?_; clear hs; intro a hs
          refine go_cond hs false (fun hc => ?_) fun hc => ?_
          ·cases hc
          ·skip
           refine wp_skip ?_
           refine ib_norm ?_
           replace hw := hw.up 24
           replace hw := hw.up 24
           replace hw := hw.up 24
           replace hw := hw.up 24
           replace hw := hw.only 4
           exact hJ7 (a0 : Sapi_Regs) (band .u32 (vx 0 a0.R (a1.B : Int).toNat) v55) _ _ hs.kx hw H
         ·replace H := ite_f H hk153
          replace hs : Slots a 69 [(2, .pointer (some ad2)), (3, .pointer (some ad6)), (4, .pointer (some ad10)), (6, .pointer (some ad29)), (34, .agg #[.func (.func 57) #[] #[], .func (.func 80) #[] #[.pointer (some (⟨g78, 0, none⟩ : Addr))], .func (.func 80) #[] #[.pointer (some (⟨g74, 0, none⟩ : Addr))], .func (.func 80) #[] #[.pointer (some (⟨g70, 0, none⟩ : Addr))], .func (.func 80) #[] #[.pointer (some (⟨g67, 0, none⟩ : Addr))], .func (.func 80) #[] #[.pointer (some (⟨g65, 0, none⟩ : Addr))], .func (.func 80) #[] #[.pointer (some (⟨g63, 0, none⟩ : Addr))], .func (.func 80) #[] #[.pointer (some (⟨g61, 0, none⟩ : Addr))], .func (.func 62) #[] #[], .func (.func 64) #[] #[], .func (.func 66) #[] #[], .func (.func 68) #[] #[]]), (36, .int .i64 a1.Op), (43, .int .u32 (vx 0 a0.R (a1.B : Int).toNat)), (44, .int .u32 v55), (46, .bool a1.U)] := hs.kx
          by_cases hk161 : a1.Op = 5
          ·replace H := ite_t H hk161
           replace hs := (congrArg (fun z => Slots a 69 [(2, .pointer (some ad2)), (3, .pointer (some ad6)), (4, .pointer (some ad10)), (6, .pointer (some ad29)), (34, .agg #[.func (.func 57) #[] #[], .func (.func 80) #[] #[.pointer (some (⟨g78, 0, none⟩ : Addr))], .func (.func 80) #[] #[.pointer (some (⟨g74, 0, none⟩ : Addr))], .func (.func 80) #[] #[.pointer (some (⟨g70, 0, none⟩ : Addr))], .func (.func 80) #[] #[.pointer (some (⟨g67, 0, none⟩ : Addr))], .func (.func 80) #[] #[.pointer (some (⟨g65, 0, none⟩ : Addr))], .func (.func 80) #[] #[.pointer (some (⟨g63, 0, none⟩ : Addr))], .func (.func 80) #[] #[.pointer (some (⟨g61, 0, none⟩ : Addr))], .func (.func 62) #[] #[], .func (.func 64) #[] #[], .func (.func 66) #[] #[], .func (.func 68) #[] #[]]), (36, .int .i64 z), (43, .int .u32 (vx 0 a0.R (a1.B : Int).toNat)), (44, .int .u32 v55), (46, .bool a1.U)]) hk161).mp hs
           replace hs : Slots a 69 [(2, .pointer (some ad2)), (3, .pointer (some ad6)), (4, .pointer (some ad10)), (6, .pointer (some ad29)), (34, .agg #[.func (.func 57) #[] #[], .func (.func 80) #[] #[.pointer (some (⟨g78, 0, none⟩ : Addr))], .func (.func 80) #[] #[.pointer (some (⟨g74, 0, none⟩ : Addr))], .func (.func 80) #[] #[.pointer (some (⟨g70, 0, none⟩ : Addr))], .func (.func 80) #[] #[.pointer (some (⟨g67, 0, none⟩ : Addr))], .func (.func 80) #[] #[.pointer (some (⟨g65, 0, none⟩ : Addr))], .func (.func 80) #[] #[.pointer (some (⟨g63, 0, none⟩ : Addr))], .func (.func 80) #[] #[.pointer (some (⟨g61, 0, none⟩ : Addr))], .func (.func 62) #[] #[], .func (.func 64) #[] #[], .func (.func 66) #[] #[], .func (.func 68) #[] #[]]), (36, .int .i64 5), (43, .int .u32 (vx 0 a0.R (a1.B : Int).toNat)), (44, .int .u32 v55), (46, .bool a1.U)] := hs
           refine s_pvs [3, 4] [] [34, 36] [(38, .func (.func 80) #[] #[.pointer (some (⟨g65, 0, none⟩ : Addr))])] hbq hs ?_; clear hs; intro a hs
           refine s_end ?_
           refine p_inline_k hs (by rfl) (f := 80) (args := #[.pointer (some ad29), .int .u32 (vx 0 a0.R (a1.B : Int).toNat), .int .u32 v55, .bool a1.U, .pointer (some (⟨g65, 0, none⟩ : Addr))]) (fun KR162 hKR162 => ?_)
           refine go_fn Try.func80 rfl Try.ntmps80 ?_; clear hs; intro a hs
           refine go_sp [0, 3] [] hs ?_; clear hs; intro a hs
           refine go_sk fun K164 hK164 => ?_
           refine go_run hs (by rfl) (x_bld (g := g65) (o := 0) (p := (⟨g65, 0, none⟩ : Addr)) (v := .func (.func 59) #[] #[]) (hw.up 6)) [4] ?_; clear hs; intro a hs
           refine go_pvs 3 [1, 2] [(12, .int .u32 (vx 0 a0.R (a1.B : Int).toNat)), (13, .int .u32 v55)] hs ?_; clear hs; intro a hs
           refine go_inline_k hs (by rfl) (f := 59) (args := #[.int .u32 (vx 0 a0.R (a1.B : Int).toNat), .int .u32 v55]) (fun KR165 hKR165 => ?_)
           refine go_fn Try.func59 rfl Try.ntmps59 ?_; clear hs; intro a hs
           refine go_sp [] [] hs ?_; clear hs; intro a hs
           refine go_sp [0, 1] [(4, .int .u32 (bandn .u32 (vx 0 a0.R (a1.B : Int).toNat) v55))] hs ?_; clear hs; intro a hs
           refine wp_ret ?_
           refine ret1 (t := 4) (v := .int .u32 (bandn .u32 (vx 0 a0.R (a1.B : Int).toNat) v55)) hs (by kernel_rfl) (by kernel_rfl) ?_
           refine ⟨_, rfl, ?_⟩
           refine hKR165 _ _ ?_
           intro a hs1; have hs : Slots a _ [(14, .int .u32 (bandn .u32 (vx 0 a0.R (a1.B : Int).toNat) v55))] := hs1.kx; clear hs1
           refine go_pvs 6 [14] [(9, .int .u32 (bandn .u32 (vx 0 a0.R (a1.B : Int).toNat) v55)), (10, .bool true)] hs ?_; clear hs; intro a hs
           refine go_end (hK164 _ _ ?_)
           refine wp_ret ?_
           refine ret2 (t1 := 9) (v1 := .int .u32 (bandn .u32 (vx 0 a0.R (a1.B : Int).toNat) v55)) (t2 := 10) (v2 := .bool true) hs (by kernel_rfl) (by kernel_rfl) (by kernel_rfl) ?_
           refine ⟨_, rfl, ?_⟩
           refine hKR162 _ _ ?_
           intro a hs1; have hs : Slots a _ [(2, .pointer (some ad2)), (3, .pointer (some ad6)), (4, .pointer (some ad10)), (6, .pointer (some ad29)), (47, .tuple #[.int .u32 (bandn .u32 (vx 0 a0.R (a1.B : Int).toNat) v55), .bool true])] := hs1.kx; clear hs1
           refine p_last ?_
           refine e_pvs [14, 15, 16, 17, 18] [] [47] [(7, .int .u32 (bandn .u32 (vx 0 a0.R (a1.B : Int).toNat) v55)), (9, .bool true)] hs ?_; clear hs; intro a hs
           refine e_end ?_
           refine hK57 _ _ ?_
           refine go_sp [9] [(51, .bool false)] hs ?_; clear hs; intro a hs
           refine go_cond hs false (fun hc => ?_) fun hc => ?_
           ·cases hc
           ·skip
            refine wp_skip ?_
            refine ib_norm ?_
            replace hw := hw.up 24
            replace hw := hw.up 24
            replace hw := hw.up 24
            replace hw := hw.up 24
            replace hw := hw.only 4
            exact hJ7 (a0 : Sapi_Regs) (bandn .u32 (vx 0 a0.R (a1.B : Int).toNat) v55) _ _ hs.kx hw H
          ·replace H := ite_f H hk161
           replace hs : Slots a 69 [(2, .pointer (some ad2)), (3, .pointer (some ad6)), (4, .pointer (some ad10)), (6, .pointer (some ad29)), (34, .agg #[.func (.func 57) #[] #[], .func (.func 80) #[] #[.pointer (some (⟨g78, 0, none⟩ : Addr))], .func (.func 80) #[] #[.pointer (some (⟨g74, 0, none⟩ : Addr))], .func (.func 80) #[] #[.pointer (some (⟨g70, 0, none⟩ : Addr))], .func (.func 80) #[] #[.pointer (some (⟨g67, 0, none⟩ : Addr))], .func (.func 80) #[] #[.pointer (some (⟨g65, 0, none⟩ : Addr))], .func (.func 80) #[] #[.pointer (some (⟨g63, 0, none⟩ : Addr))], .func (.func 80) #[] #[.pointer (some (⟨g61, 0, none⟩ : Addr))], .func (.func 62) #[] #[], .func (.func 64) #[] #[], .func (.func 66) #[] #[], .func (.func 68) #[] #[]]), (36, .int .i64 a1.Op), (43, .int .u32 (vx 0 a0.R (a1.B : Int).toNat)), (44, .int .u32 v55), (46, .bool a1.U)] := hs.kx
           by_cases hk169 : a1.Op = 6
           ·replace H := ite_t H hk169
            replace hs := (congrArg (fun z => Slots a 69 [(2, .pointer (some ad2)), (3, .pointer (some ad6)), (4, .pointer (some ad10)), (6, .pointer (some ad29)), (34, .agg #[.func (.func 57) #[] #[], .func (.func 80) #[] #[.pointer (some (⟨g78, 0, none⟩ : Addr))], .func (.func 80) #[] #[.pointer (some (⟨g74, 0, none⟩ : Addr))], .func (.func 80) #[] #[.pointer (some (⟨g70, 0, none⟩ : Addr))], .func (.func 80) #[] #[.pointer (some (⟨g67, 0, none⟩ : Addr))], .func (.func 80) #[] #[.pointer (some (⟨g65, 0, none⟩ : Addr))], .func (.func 80) #[] #[.pointer (some (⟨g63, 0, none⟩ : Addr))], .func (.func 80) #[] #[.pointer (some (⟨g61, 0, none⟩ : Addr))], .func (.func 62) #[] #[], .func (.func 64) #[] #[], .func (.func 66) #[] #[], .func (.func 68) #[] #[]]), (36, .int .i64 z), (43, .int .u32 (vx 0 a0.R (a1.B : Int).toNat)), (44, .int .u32 v55), (46, .bool a1.U)]) hk169).mp hs
            replace hs : Slots a 69 [(2, .pointer (some ad2)), (3, .pointer (some ad6)), (4, .pointer (some ad10)), (6, .pointer (some ad29)), (34, .agg #[.func (.func 57) #[] #[], .func (.func 80) #[] #[.pointer (some (⟨g78, 0, none⟩ : Addr))], .func (.func 80) #[] #[.pointer (some (⟨g74, 0, none⟩ : Addr))], .func (.func 80) #[] #[.pointer (some (⟨g70, 0, none⟩ : Addr))], .func (.func 80) #[] #[.pointer (some (⟨g67, 0, none⟩ : Addr))], .func (.func 80) #[] #[.pointer (some (⟨g65, 0, none⟩ : Addr))], .func (.func 80) #[] #[.pointer (some (⟨g63, 0, none⟩ : Addr))], .func (.func 80) #[] #[.pointer (some (⟨g61, 0, none⟩ : Addr))], .func (.func 62) #[] #[], .func (.func 64) #[] #[], .func (.func 66) #[] #[], .func (.func 68) #[] #[]]), (36, .int .i64 6), (43, .int .u32 (vx 0 a0.R (a1.B : Int).toNat)), (44, .int .u32 v55), (46, .bool a1.U)] := hs
            refine s_pvs [3, 4] [] [34, 36] [(38, .func (.func 80) #[] #[.pointer (some (⟨g63, 0, none⟩ : Addr))])] hbq hs ?_; clear hs; intro a hs
            refine s_end ?_
            refine p_inline_k hs (by rfl) (f := 80) (args := #[.pointer (some ad29), .int .u32 (vx 0 a0.R (a1.B : Int).toNat), .int .u32 v55, .bool a1.U, .pointer (some (⟨g63, 0, none⟩ : Addr))]) (fun KR170 hKR170 => ?_)
            refine go_fn Try.func80 rfl Try.ntmps80 ?_; clear hs; intro a hs
            refine go_sp [0, 3] [] hs ?_; clear hs; intro a hs
            refine go_sk fun K172 hK172 => ?_
            refine go_run hs (by rfl) (x_bld (g := g63) (o := 0) (p := (⟨g63, 0, none⟩ : Addr)) (v := .func (.func 60) #[] #[]) (hw.up 4)) [4] ?_; clear hs; intro a hs
            refine go_pvs 3 [1, 2] [(12, .int .u32 (vx 0 a0.R (a1.B : Int).toNat)), (13, .int .u32 v55)] hs ?_; clear hs; intro a hs
            refine go_inline_k hs (by rfl) (f := 60) (args := #[.int .u32 (vx 0 a0.R (a1.B : Int).toNat), .int .u32 v55]) (fun KR173 hKR173 => ?_)
            refine go_fn Try.func60 rfl Try.ntmps60 ?_; clear hs; intro a hs
            refine go_sp [] [] hs ?_; clear hs; intro a hs
            refine go_sp [0, 1] [(4, .int .u32 (bor .u32 (vx 0 a0.R (a1.B : Int).toNat) v55))] hs ?_; clear hs; intro a hs
            refine wp_ret ?_
            refine ret1 (t := 4) (v := .int .u32 (bor .u32 (vx 0 a0.R (a1.B : Int).toNat) v55)) hs (by kernel_rfl) (by kernel_rfl) ?_
            refine ⟨_, rfl, ?_⟩
            refine hKR173 _ _ ?_
            intro a hs1; have hs : Slots a _ [(14, .int .u32 (bor .u32 (vx 0 a0.R (a1.B : Int).toNat) v55))] := hs1.kx; clear hs1
            refine go_pvs 6 [14] [(9, .int .u32 (bor .u32 (vx 0 a0.R (a1.B : Int).toNat) v55)), (10, .bool true)] hs ?_; clear hs; intro a hs
            refine go_end (hK172 _ _ ?_)
            refine wp_ret ?_
            refine ret2 (t1 := 9) (v1 := .int .u32 (bor .u32 (vx 0 a0.R (a1.B : Int).toNat) v55)) (t2 := 10) (v2 := .bool true) hs (by kernel_rfl) (by kernel_rfl) (by kernel_rfl) ?_
            refine ⟨_, rfl, ?_⟩
            refine hKR170 _ _ ?_
            intro a hs1; have hs : Slots a _ [(2, .pointer (some ad2)), (3, .pointer (some ad6)), (4, .pointer (some ad10)), (6, .pointer (some ad29)), (47, .tuple #[.int .u32 (bor .u32 (vx 0 a0.R (a1.B : Int).toNat) v55), .bool true])] := hs1.kx; clear hs1
            refine p_last ?_
            refine e_pvs [14, 15, 16, 17, 18] [] [47] [(7, .int .u32 (bor .u32 (vx 0 a0.R (a1.B : Int).toNat) v55)), (9, .bool true)] hs ?_; clear hs; intro a hs
            refine e_end ?_
            refine hK57 _ _ ?_
            refine go_sp [9] [(51, .bool false)] hs ?_; clear hs; intro a hs
            refine go_cond hs false (fun hc => ?_) fun hc => ?_
            ·cases hc
            ·skip
             refine wp_skip ?_
             refine ib_norm ?_
             replace hw := hw.up 24
             replace hw := hw.up 24
             replace hw := hw.up 24
             replace hw := hw.up 24
             replace hw := hw.only 4
             exact hJ7 (a0 : Sapi_Regs) (bor .u32 (vx 0 a0.R (a1.B : Int).toNat) v55) _ _ hs.kx hw H
           ·replace H := ite_f H hk169
            replace hs : Slots a 69 [(2, .pointer (some ad2)), (3, .pointer (some ad6)), (4, .pointer (some ad10)), (6, .pointer (some ad29)), (34, .agg #[.func (.func 57) #[] #[], .func (.func 80) #[] #[.pointer (some (⟨g78, 0, none⟩ : Addr))], .func (.func 80) #[] #[.pointer (some (⟨g74, 0, none⟩ : Addr))], .func (.func 80) #[] #[.pointer (some (⟨g70, 0, none⟩ : Addr))], .func (.func 80) #[] #[.pointer (some (⟨g67, 0, none⟩ : Addr))], .func (.func 80) #[] #[.pointer (some (⟨g65, 0, none⟩ : Addr))], .func (.func 80) #[] #[.pointer (some (⟨g63, 0, none⟩ : Addr))], .func (.func 80) #[] #[.pointer (some (⟨g61, 0, none⟩ : Addr))], .func (.func 62) #[] #[], .func (.func 64) #[] #[], .func (.func 66) #[] #[], .func (.func 68) #[] #[]]), (36, .int .i64 a1.Op), (43, .int .u32 (vx 0 a0.R (a1.B : Int).toNat)), (44, .int .u32 v55), (46, .bool a1.U)] := hs.kx
            by_cases hk177 : a1.Op = 7
            ·replace H := ite_t H hk177
             replace hs := (congrArg (fun z => Slots a 69 [(2, .pointer (some ad2)), (3, .pointer (some ad6)), (4, .pointer (some ad10)), (6, .pointer (some ad29)), (34, .agg #[.func (.func 57) #[] #[], .func (.func 80) #[] #[.pointer (some (⟨g78, 0, none⟩ : Addr))], .func (.func 80) #[] #[.pointer (some (⟨g74, 0, none⟩ : Addr))], .func (.func 80) #[] #[.pointer (some (⟨g70, 0, none⟩ : Addr))], .func (.func 80) #[] #[.pointer (some (⟨g67, 0, none⟩ : Addr))], .func (.func 80) #[] #[.pointer (some (⟨g65, 0, none⟩ : Addr))], .func (.func 80) #[] #[.pointer (some (⟨g63, 0, none⟩ : Addr))], .func (.func 80) #[] #[.pointer (some (⟨g61, 0, none⟩ : Addr))], .func (.func 62) #[] #[], .func (.func 64) #[] #[], .func (.func 66) #[] #[], .func (.func 68) #[] #[]]), (36, .int .i64 z), (43, .int .u32 (vx 0 a0.R (a1.B : Int).toNat)), (44, .int .u32 v55), (46, .bool a1.U)]) hk177).mp hs
             replace hs : Slots a 69 [(2, .pointer (some ad2)), (3, .pointer (some ad6)), (4, .pointer (some ad10)), (6, .pointer (some ad29)), (34, .agg #[.func (.func 57) #[] #[], .func (.func 80) #[] #[.pointer (some (⟨g78, 0, none⟩ : Addr))], .func (.func 80) #[] #[.pointer (some (⟨g74, 0, none⟩ : Addr))], .func (.func 80) #[] #[.pointer (some (⟨g70, 0, none⟩ : Addr))], .func (.func 80) #[] #[.pointer (some (⟨g67, 0, none⟩ : Addr))], .func (.func 80) #[] #[.pointer (some (⟨g65, 0, none⟩ : Addr))], .func (.func 80) #[] #[.pointer (some (⟨g63, 0, none⟩ : Addr))], .func (.func 80) #[] #[.pointer (some (⟨g61, 0, none⟩ : Addr))], .func (.func 62) #[] #[], .func (.func 64) #[] #[], .func (.func 66) #[] #[], .func (.func 68) #[] #[]]), (36, .int .i64 7), (43, .int .u32 (vx 0 a0.R (a1.B : Int).toNat)), (44, .int .u32 v55), (46, .bool a1.U)] := hs
             refine s_pvs [3, 4] [] [34, 36] [(38, .func (.func 80) #[] #[.pointer (some (⟨g61, 0, none⟩ : Addr))])] hbq hs ?_; clear hs; intro a hs
             refine s_end ?_
             refine p_inline_k hs (by rfl) (f := 80) (args := #[.pointer (some ad29), .int .u32 (vx 0 a0.R (a1.B : Int).toNat), .int .u32 v55, .bool a1.U, .pointer (some (⟨g61, 0, none⟩ : Addr))]) (fun KR178 hKR178 => ?_)
             refine go_fn Try.func80 rfl Try.ntmps80 ?_; clear hs; intro a hs
             refine go_sp [0, 3] [] hs ?_; clear hs; intro a hs
             refine go_sk fun K180 hK180 => ?_
             refine go_run hs (by rfl) (x_bld (g := g61) (o := 0) (p := (⟨g61, 0, none⟩ : Addr)) (v := .func (.func 61) #[] #[]) (hw.up 2)) [4] ?_; clear hs; intro a hs
             refine go_pvs 3 [1, 2] [(12, .int .u32 (vx 0 a0.R (a1.B : Int).toNat)), (13, .int .u32 v55)] hs ?_; clear hs; intro a hs
             refine go_inline_k hs (by rfl) (f := 61) (args := #[.int .u32 (vx 0 a0.R (a1.B : Int).toNat), .int .u32 v55]) (fun KR181 hKR181 => ?_)
             refine go_fn Try.func61 rfl Try.ntmps61 ?_; clear hs; intro a hs
             refine go_sp [] [] hs ?_; clear hs; intro a hs
             refine go_sp [0, 1] [(4, .int .u32 (bxor .u32 (vx 0 a0.R (a1.B : Int).toNat) v55))] hs ?_; clear hs; intro a hs
             refine wp_ret ?_
             refine ret1 (t := 4) (v := .int .u32 (bxor .u32 (vx 0 a0.R (a1.B : Int).toNat) v55)) hs (by kernel_rfl) (by kernel_rfl) ?_
             refine ⟨_, rfl, ?_⟩
             refine hKR181 _ _ ?_
             intro a hs1; have hs : Slots a _ [(14, .int .u32 (bxor .u32 (vx 0 a0.R (a1.B : Int).toNat) v55))] := hs1.kx; clear hs1
             refine go_pvs 6 [14] [(9, .int .u32 (bxor .u32 (vx 0 a0.R (a1.B : Int).toNat) v55)), (10, .bool true)] hs ?_; clear hs; intro a hs
             refine go_end (hK180 _ _ ?_)
             refine wp_ret ?_
             refine ret2 (t1 := 9) (v1 := .int .u32 (bxor .u32 (vx 0 a0.R (a1.B : Int).toNat) v55)) (t2 := 10) (v2 := .bool true) hs (by kernel_rfl) (by kernel_rfl) (by kernel_rfl) ?_
             refine ⟨_, rfl, ?_⟩
             refine hKR178 _ _ ?_
             intro a hs1; have hs : Slots a _ [(2, .pointer (some ad2)), (3, .pointer (some ad6)), (4, .pointer (some ad10)), (6, .pointer (some ad29)), (47, .tuple #[.int .u32 (bxor .u32 (vx 0 a0.R (a1.B : Int).toNat) v55), .bool true])] := hs1.kx; clear hs1
             refine p_last ?_
             refine e_pvs [14, 15, 16, 17, 18] [] [47] [(7, .int .u32 (bxor .u32 (vx 0 a0.R (a1.B : Int).toNat) v55)), (9, .bool true)] hs ?_; clear hs; intro a hs
             refine e_end ?_
             refine hK57 _ _ ?_
             refine go_sp [9] [(51, .bool false)] hs ?_; clear hs; intro a hs
             refine go_cond hs false (fun hc => ?_) fun hc => ?_
             ·cases hc
             ·skip
              refine wp_skip ?_
              refine ib_norm ?_
              replace hw := hw.up 24
              replace hw := hw.up 24
              replace hw := hw.up 24
              replace hw := hw.up 24
              replace hw := hw.only 4
              exact hJ7 (a0 : Sapi_Regs) (bxor .u32 (vx 0 a0.R (a1.B : Int).toNat) v55) _ _ hs.kx hw H
            ·replace H := ite_f H hk177
             replace hs : Slots a 69 [(2, .pointer (some ad2)), (3, .pointer (some ad6)), (4, .pointer (some ad10)), (6, .pointer (some ad29)), (34, .agg #[.func (.func 57) #[] #[], .func (.func 80) #[] #[.pointer (some (⟨g78, 0, none⟩ : Addr))], .func (.func 80) #[] #[.pointer (some (⟨g74, 0, none⟩ : Addr))], .func (.func 80) #[] #[.pointer (some (⟨g70, 0, none⟩ : Addr))], .func (.func 80) #[] #[.pointer (some (⟨g67, 0, none⟩ : Addr))], .func (.func 80) #[] #[.pointer (some (⟨g65, 0, none⟩ : Addr))], .func (.func 80) #[] #[.pointer (some (⟨g63, 0, none⟩ : Addr))], .func (.func 80) #[] #[.pointer (some (⟨g61, 0, none⟩ : Addr))], .func (.func 62) #[] #[], .func (.func 64) #[] #[], .func (.func 66) #[] #[], .func (.func 68) #[] #[]]), (36, .int .i64 a1.Op), (43, .int .u32 (vx 0 a0.R (a1.B : Int).toNat)), (44, .int .u32 v55), (46, .bool a1.U)] := hs.kx
             by_cases hk185 : a1.Op = 8
             ·replace H := ite_t H hk185
              replace hs := (congrArg (fun z => Slots a 69 [(2, .pointer (some ad2)), (3, .pointer (some ad6)), (4, .pointer (some ad10)), (6, .pointer (some ad29)), (34, .agg #[.func (.func 57) #[] #[], .func (.func 80) #[] #[.pointer (some (⟨g78, 0, none⟩ : Addr))], .func (.func 80) #[] #[.pointer (some (⟨g74, 0, none⟩ : Addr))], .func (.func 80) #[] #[.pointer (some (⟨g70, 0, none⟩ : Addr))], .func (.func 80) #[] #[.pointer (some (⟨g67, 0, none⟩ : Addr))], .func (.func 80) #[] #[.pointer (some (⟨g65, 0, none⟩ : Addr))], .func (.func 80) #[] #[.pointer (some (⟨g63, 0, none⟩ : Addr))], .func (.func 80) #[] #[.pointer (some (⟨g61, 0, none⟩ : Addr))], .func (.func 62) #[] #[], .func (.func 64) #[] #[], .func (.func 66) #[] #[], .func (.func 68) #[] #[]]), (36, .int .i64 z), (43, .int .u32 (vx 0 a0.R (a1.B : Int).toNat)), (44, .int .u32 v55), (46, .bool a1.U)]) hk185).mp hs
              replace hs : Slots a 69 [(2, .pointer (some ad2)), (3, .pointer (some ad6)), (4, .pointer (some ad10)), (6, .pointer (some ad29)), (34, .agg #[.func (.func 57) #[] #[], .func (.func 80) #[] #[.pointer (some (⟨g78, 0, none⟩ : Addr))], .func (.func 80) #[] #[.pointer (some (⟨g74, 0, none⟩ : Addr))], .func (.func 80) #[] #[.pointer (some (⟨g70, 0, none⟩ : Addr))], .func (.func 80) #[] #[.pointer (some (⟨g67, 0, none⟩ : Addr))], .func (.func 80) #[] #[.pointer (some (⟨g65, 0, none⟩ : Addr))], .func (.func 80) #[] #[.pointer (some (⟨g63, 0, none⟩ : Addr))], .func (.func 80) #[] #[.pointer (some (⟨g61, 0, none⟩ : Addr))], .func (.func 62) #[] #[], .func (.func 64) #[] #[], .func (.func 66) #[] #[], .func (.func 68) #[] #[]]), (36, .int .i64 8), (43, .int .u32 (vx 0 a0.R (a1.B : Int).toNat)), (44, .int .u32 v55), (46, .bool a1.U)] := hs
              refine s_pvs [3, 4] [] [34, 36] [(38, .func (.func 62) #[] #[])] hbq hs ?_; clear hs; intro a hs
              refine s_end ?_
              refine p_inline_k hs (by rfl) (f := 62) (args := #[.pointer (some ad29), .int .u32 (vx 0 a0.R (a1.B : Int).toNat), .int .u32 v55, .bool a1.U]) (fun KR186 hKR186 => ?_)
              refine go_fn Try.func62 rfl Try.ntmps62 ?_; clear hs; intro a hs
              refine go_sp [] [] hs ?_; clear hs; intro a hs
              refine go_seq_k fun K188 hK188 => ?_
              have hJ5 : ∀ (v212 : Sapi_Regs) (v213 : Int) (a : Act) (w : World), Slots a 31 [(8, .int .u32 v213)] → St [] w0 w [box g59 90 [.func (.func 57) #[] #[], .func (.func 80) #[] #[.pointer (some (⟨g78, 0, none⟩ : Addr))], .func (.func 80) #[] #[.pointer (some (⟨g74, 0, none⟩ : Addr))], .func (.func 80) #[] #[.pointer (some (⟨g70, 0, none⟩ : Addr))], .func (.func 80) #[] #[.pointer (some (⟨g67, 0, none⟩ : Addr))], .func (.func 80) #[] #[.pointer (some (⟨g65, 0, none⟩ : Addr))], .func (.func 80) #[] #[.pointer (some (⟨g63, 0, none⟩ : Addr))], .func (.func 80) #[] #[.pointer (some (⟨g61, 0, none⟩ : Addr))], .func (.func 62) #[] #[], .func (.func 64) #[] #[], .func (.func 66) #[] #[], .func (.func 68) #[] #[]], box g60 89 [.func (.func 80) #[] #[.pointer (some (⟨g61, 0, none⟩ : Addr))]], box g61 115 [.func (.func 61) #[] #[]], box g62 89 [.func (.func 80) #[] #[.pointer (some (⟨g63, 0, none⟩ : Addr))]], box g63 115 [.func (.func 60) #[] #[]], box g64 89 [.func (.func 80) #[] #[.pointer (some (⟨g65, 0, none⟩ : Addr))]], box g65 115 [.func (.func 59) #[] #[]], box g66 89 [.func (.func 80) #[] #[.pointer (some (⟨g67, 0, none⟩ : Addr))]], box g67 115 [.func (.func 58) #[] #[]], box g68 89 [.func (.func 80) #[] #[.pointer (some (⟨g70, 0, none⟩ : Addr))]], box g69 89 [.func (.func 80) #[] #[.pointer (some (⟨g70, 0, none⟩ : Addr))]], box g70 115 [.func (.func 55) #[] #[.pointer (some ad71)]], own 3 (eI .i64) (some ad71) 1 [3], box g72 89 [.func (.func 80) #[] #[.pointer (some (⟨g74, 0, none⟩ : Addr))]], box g73 89 [.func (.func 80) #[] #[.pointer (some (⟨g74, 0, none⟩ : Addr))]], box g74 115 [.func (.func 55) #[] #[.pointer (some ad75)]], own 3 (eI .i64) (some ad75) 1 [2], box g76 89 [.func (.func 80) #[] #[.pointer (some (⟨g78, 0, none⟩ : Addr))]], box g77 89 [.func (.func 80) #[] #[.pointer (some (⟨g78, 0, none⟩ : Addr))]], box g78 115 [.func (.func 55) #[] #[.pointer (some ad79)]], own 3 (eI .i64) (some ad79) 1 [1], own 26 eSapi_Regs (some ad29) 1 [v212], own 26 eSapi_Regs (some ad10) 1 [(⟨(Vector.replicate 16 0), 0, false, false, false, false⟩ : Sapi_Regs)], own 45 eSapi_Instr (some ad6) 1 [a1], own 26 eSapi_Regs (some ad2) 1 [a0]] → alu_Do.j5 a1 v212 v213 = some r → K188 a w := by
               intro v212 v213 a w hs hw H
               unfold alu_Do.j5 at H
               refine hK188 _ _ ?_
               refine go_sp [] [(9, .bool true)] hs ?_; clear hs; intro a hs
               refine wp_ret ?_
               refine ret2 (t1 := 8) (v1 := .int .u32 v213) (t2 := 9) (v2 := .bool true) hs (by kernel_rfl) (by kernel_rfl) (by kernel_rfl) ?_
               refine ⟨_, rfl, ?_⟩
               refine hKR186 _ _ ?_
               intro a hs1; have hs : Slots a _ [(2, .pointer (some ad2)), (3, .pointer (some ad6)), (4, .pointer (some ad10)), (6, .pointer (some ad29)), (47, .tuple #[.int .u32 v213, .bool true])] := hs1.kx; clear hs1
               refine p_last ?_
               refine e_pvs [14, 15, 16, 17, 18] [] [47] [(7, .int .u32 v213), (9, .bool true)] hs ?_; clear hs; intro a hs
               refine e_end ?_
               refine hK57 _ _ ?_
               refine go_sp [9] [(51, .bool false)] hs ?_; clear hs; intro a hs
               refine go_cond hs false (fun hc => ?_) fun hc => ?_
               ·cases hc
               ·skip
                refine wp_skip ?_
                refine ib_norm ?_
                replace hw := hw.up 24
                replace hw := hw.up 24
                replace hw := hw.up 24
                replace hw := hw.up 24
                replace hw := hw.only 4
                exact hJ7 v212 v213 _ _ hs.kx hw H
              refine go_region ?_
              refine go_pvs 6 [1, 2, 3] [(11, .pointer (some ad29)), (12, .pointer (some ad29)), (13, .int .u32 (vx 0 a0.R (a1.B : Int).toNat)), (14, .int .u32 v55), (16, .bool a1.U)] hs ?_; clear hs; intro a hs
              cases hb189 : a1.U
              ·replace H := ite_f H (ff hb189)
               rw [hb189] at hs
               refine go_pvs 11 [0, 16] [(21, .bool false)] hs ?_; clear hs; intro a hs
               obtain ⟨⟨t191, t192, t193⟩, hx194, H⟩ := bind_some H
               refine go_call hs (by rfl) (word_Add.calls (vx 0 a0.R (a1.B : Int).toNat) v55 false (t191, t192, t193) _ hx194) ?_
               rintro e wd195 ⟨rfl, hw196⟩
               refine ⟨_, rfl, ?_⟩
               replace hw := hw.call hw196
               clear hs; intro a hs; replace hs := hs.rms [13, 14, 21]
               refine go_pvs 19 [11, 22] [(8, .int .u32 t191), (24, .bool t192), (25, .bool t193), (27, .pointer (some ((ad29 : Addr).add 19)))] hs ?_; clear hs; intro a hs
               replace hw := hw.up 21
               obtain ⟨wd197, hx198, hw⟩ := x_put (P := Try.prog) (ty := 0) (t := 4) (x := (Operand.tmp 27)) (y := (Operand.tmp 24)) (off := 19) (p := (ad29 : Addr).add 19) (v := .bool t192) (vs := [.bool t192]) (i := 0) (e' := (({ (a0 : Sapi_Regs) with C := t192 } : Sapi_Regs) : Sapi_Regs)) hs hw rfl (one_ok (a0 : Sapi_Regs)).1 (one_ok (a0 : Sapi_Regs)).2 (by kernel_rfl) (one_off _ _ _) (by kernel_rfl) rfl (by kernel_rfl) (Nat.le_of_ble_eq_true rfl) (by simp [Value.oneCell']) (by kernel_rfl)
               refine go_unit hs (by rfl) hx198 [24, 27] ?_; clear hs; intro a hs
               replace hw : St [] w0 wd197 [own 26 eSapi_Regs (some ad29) 1 [({ (a0 : Sapi_Regs) with C := t192 } : Sapi_Regs)], box g59 90 [.func (.func 57) #[] #[], .func (.func 80) #[] #[.pointer (some (⟨g78, 0, none⟩ : Addr))], .func (.func 80) #[] #[.pointer (some (⟨g74, 0, none⟩ : Addr))], .func (.func 80) #[] #[.pointer (some (⟨g70, 0, none⟩ : Addr))], .func (.func 80) #[] #[.pointer (some (⟨g67, 0, none⟩ : Addr))], .func (.func 80) #[] #[.pointer (some (⟨g65, 0, none⟩ : Addr))], .func (.func 80) #[] #[.pointer (some (⟨g63, 0, none⟩ : Addr))], .func (.func 80) #[] #[.pointer (some (⟨g61, 0, none⟩ : Addr))], .func (.func 62) #[] #[], .func (.func 64) #[] #[], .func (.func 66) #[] #[], .func (.func 68) #[] #[]], box g60 89 [.func (.func 80) #[] #[.pointer (some (⟨g61, 0, none⟩ : Addr))]], box g61 115 [.func (.func 61) #[] #[]], box g62 89 [.func (.func 80) #[] #[.pointer (some (⟨g63, 0, none⟩ : Addr))]], box g63 115 [.func (.func 60) #[] #[]], box g64 89 [.func (.func 80) #[] #[.pointer (some (⟨g65, 0, none⟩ : Addr))]], box g65 115 [.func (.func 59) #[] #[]], box g66 89 [.func (.func 80) #[] #[.pointer (some (⟨g67, 0, none⟩ : Addr))]], box g67 115 [.func (.func 58) #[] #[]], box g68 89 [.func (.func 80) #[] #[.pointer (some (⟨g70, 0, none⟩ : Addr))]], box g69 89 [.func (.func 80) #[] #[.pointer (some (⟨g70, 0, none⟩ : Addr))]], box g70 115 [.func (.func 55) #[] #[.pointer (some ad71)]], own 3 (eI .i64) (some ad71) 1 [3], box g72 89 [.func (.func 80) #[] #[.pointer (some (⟨g74, 0, none⟩ : Addr))]], box g73 89 [.func (.func 80) #[] #[.pointer (some (⟨g74, 0, none⟩ : Addr))]], box g74 115 [.func (.func 55) #[] #[.pointer (some ad75)]], own 3 (eI .i64) (some ad75) 1 [2], box g76 89 [.func (.func 80) #[] #[.pointer (some (⟨g78, 0, none⟩ : Addr))]], box g77 89 [.func (.func 80) #[] #[.pointer (some (⟨g78, 0, none⟩ : Addr))]], box g78 115 [.func (.func 55) #[] #[.pointer (some ad79)]], own 3 (eI .i64) (some ad79) 1 [1], own 26 eSapi_Regs (some ad10) 1 [(⟨(Vector.replicate 16 0), 0, false, false, false, false⟩ : Sapi_Regs)], own 45 eSapi_Instr (some ad6) 1 [a1], own 26 eSapi_Regs (some ad2) 1 [a0]] := hw
               refine go_pvs 22 [12] [(29, .pointer (some ((ad29 : Addr).add 20)))] hs ?_; clear hs; intro a hs
               obtain ⟨wd199, hx200, hw⟩ := x_put (P := Try.prog) (ty := 0) (t := 4) (x := (Operand.tmp 29)) (y := (Operand.tmp 25)) (off := 20) (p := (ad29 : Addr).add 20) (v := .bool t193) (vs := [.bool t193]) (i := 0) (e' := (({ ({ (a0 : Sapi_Regs) with C := t192 } : Sapi_Regs) with V := t193 } : Sapi_Regs) : Sapi_Regs)) hs hw rfl (one_ok ({ (a0 : Sapi_Regs) with C := t192 } : Sapi_Regs)).1 (one_ok ({ (a0 : Sapi_Regs) with C := t192 } : Sapi_Regs)).2 (by kernel_rfl) (one_off _ _ _) (by kernel_rfl) rfl (by kernel_rfl) (Nat.le_of_ble_eq_true rfl) (by simp [Value.oneCell']) (by kernel_rfl)
               refine go_unit hs (by rfl) hx200 [25, 29] ?_; clear hs; intro a hs
               replace hw : St [] w0 wd199 [own 26 eSapi_Regs (some ad29) 1 [({ ({ (a0 : Sapi_Regs) with C := t192 } : Sapi_Regs) with V := t193 } : Sapi_Regs)], box g59 90 [.func (.func 57) #[] #[], .func (.func 80) #[] #[.pointer (some (⟨g78, 0, none⟩ : Addr))], .func (.func 80) #[] #[.pointer (some (⟨g74, 0, none⟩ : Addr))], .func (.func 80) #[] #[.pointer (some (⟨g70, 0, none⟩ : Addr))], .func (.func 80) #[] #[.pointer (some (⟨g67, 0, none⟩ : Addr))], .func (.func 80) #[] #[.pointer (some (⟨g65, 0, none⟩ : Addr))], .func (.func 80) #[] #[.pointer (some (⟨g63, 0, none⟩ : Addr))], .func (.func 80) #[] #[.pointer (some (⟨g61, 0, none⟩ : Addr))], .func (.func 62) #[] #[], .func (.func 64) #[] #[], .func (.func 66) #[] #[], .func (.func 68) #[] #[]], box g60 89 [.func (.func 80) #[] #[.pointer (some (⟨g61, 0, none⟩ : Addr))]], box g61 115 [.func (.func 61) #[] #[]], box g62 89 [.func (.func 80) #[] #[.pointer (some (⟨g63, 0, none⟩ : Addr))]], box g63 115 [.func (.func 60) #[] #[]], box g64 89 [.func (.func 80) #[] #[.pointer (some (⟨g65, 0, none⟩ : Addr))]], box g65 115 [.func (.func 59) #[] #[]], box g66 89 [.func (.func 80) #[] #[.pointer (some (⟨g67, 0, none⟩ : Addr))]], box g67 115 [.func (.func 58) #[] #[]], box g68 89 [.func (.func 80) #[] #[.pointer (some (⟨g70, 0, none⟩ : Addr))]], box g69 89 [.func (.func 80) #[] #[.pointer (some (⟨g70, 0, none⟩ : Addr))]], box g70 115 [.func (.func 55) #[] #[.pointer (some ad71)]], own 3 (eI .i64) (some ad71) 1 [3], box g72 89 [.func (.func 80) #[] #[.pointer (some (⟨g74, 0, none⟩ : Addr))]], box g73 89 [.func (.func 80) #[] #[.pointer (some (⟨g74, 0, none⟩ : Addr))]], box g74 115 [.func (.func 55) #[] #[.pointer (some ad75)]], own 3 (eI .i64) (some ad75) 1 [2], box g76 89 [.func (.func 80) #[] #[.pointer (some (⟨g78, 0, none⟩ : Addr))]], box g77 89 [.func (.func 80) #[] #[.pointer (some (⟨g78, 0, none⟩ : Addr))]], box g78 115 [.func (.func 55) #[] #[.pointer (some ad79)]], own 3 (eI .i64) (some ad79) 1 [1], own 26 eSapi_Regs (some ad10) 1 [(⟨(Vector.replicate 16 0), 0, false, false, false, false⟩ : Sapi_Regs)], own 45 eSapi_Instr (some ad6) 1 [a1], own 26 eSapi_Regs (some ad2) 1 [a0]] := hw
               refine go_end ?_
               replace hw := hw.up 24
               replace hw := hw.up 24
               replace hw := hw.up 24
               replace hw := hw.up 3
               replace hw := hw.up 24
               replace hw := hw.up 24
               replace hw := hw.up 24
               replace hw := hw.up 24
               replace hw := hw.up 24
               replace hw := hw.up 24
               replace hw := hw.up 24
               replace hw := hw.up 24
               replace hw := hw.up 24
               replace hw := hw.up 24
               replace hw := hw.up 24
               replace hw := hw.up 24
               replace hw := hw.up 24
               replace hw := hw.up 24
               replace hw := hw.up 24
               replace hw := hw.up 24
               replace hw := hw.up 24
               replace hw := hw.up 24
               replace hw := hw.up 24
               replace hw := hw.up 24
               replace hw := hw.up 24
               exact hJ5 ({ ({ (a0 : Sapi_Regs) with C := t192 } : Sapi_Regs) with V := t193 } : Sapi_Regs) t191 _ _ hs.kx hw H
              ·replace H := ite_t H hb189
               rw [hb189] at hs
               refine go_pvs 9 [0] [(19, .pointer (some ((ad29 : Addr).add 19)))] hs ?_; clear hs; intro a hs
               refine go_run hs (by rfl) (x_ld (off := 19) (p := (ad29 : Addr).add 19) (v := .bool ((a0 : Sapi_Regs).C)) (Rd.of_own (hw.up 21)) (one_ok (a0 : Sapi_Regs)) (one_off _ _ _)) [19] ?_; clear hs; intro a hs
               refine go_pvs 11 [16, 20] [(21, .bool ((a0 : Sapi_Regs).C))] hs ?_; clear hs; intro a hs
               obtain ⟨⟨t202, t203, t204⟩, hx205, H⟩ := bind_some H
               refine go_call hs (by rfl) (word_Add.calls (vx 0 a0.R (a1.B : Int).toNat) v55 ((a0 : Sapi_Regs).C) (t202, t203, t204) _ hx205) ?_
               rintro e wd206 ⟨rfl, hw207⟩
               refine ⟨_, rfl, ?_⟩
               replace hw := hw.call hw207
               clear hs; intro a hs; replace hs := hs.rms [13, 14, 21]
               refine go_pvs 19 [11, 22] [(8, .int .u32 t202), (24, .bool t203), (25, .bool t204), (27, .pointer (some ((ad29 : Addr).add 19)))] hs ?_; clear hs; intro a hs
               replace hw := hw.up 21
               obtain ⟨wd208, hx209, hw⟩ := x_put (P := Try.prog) (ty := 0) (t := 4) (x := (Operand.tmp 27)) (y := (Operand.tmp 24)) (off := 19) (p := (ad29 : Addr).add 19) (v := .bool t203) (vs := [.bool t203]) (i := 0) (e' := (({ (a0 : Sapi_Regs) with C := t203 } : Sapi_Regs) : Sapi_Regs)) hs hw rfl (one_ok (a0 : Sapi_Regs)).1 (one_ok (a0 : Sapi_Regs)).2 (by kernel_rfl) (one_off _ _ _) (by kernel_rfl) rfl (by kernel_rfl) (Nat.le_of_ble_eq_true rfl) (by simp [Value.oneCell']) (by kernel_rfl)
               refine go_unit hs (by rfl) hx209 [24, 27] ?_; clear hs; intro a hs
               replace hw : St [] w0 wd208 [own 26 eSapi_Regs (some ad29) 1 [({ (a0 : Sapi_Regs) with C := t203 } : Sapi_Regs)], box g59 90 [.func (.func 57) #[] #[], .func (.func 80) #[] #[.pointer (some (⟨g78, 0, none⟩ : Addr))], .func (.func 80) #[] #[.pointer (some (⟨g74, 0, none⟩ : Addr))], .func (.func 80) #[] #[.pointer (some (⟨g70, 0, none⟩ : Addr))], .func (.func 80) #[] #[.pointer (some (⟨g67, 0, none⟩ : Addr))], .func (.func 80) #[] #[.pointer (some (⟨g65, 0, none⟩ : Addr))], .func (.func 80) #[] #[.pointer (some (⟨g63, 0, none⟩ : Addr))], .func (.func 80) #[] #[.pointer (some (⟨g61, 0, none⟩ : Addr))], .func (.func 62) #[] #[], .func (.func 64) #[] #[], .func (.func 66) #[] #[], .func (.func 68) #[] #[]], box g60 89 [.func (.func 80) #[] #[.pointer (some (⟨g61, 0, none⟩ : Addr))]], box g61 115 [.func (.func 61) #[] #[]], box g62 89 [.func (.func 80) #[] #[.pointer (some (⟨g63, 0, none⟩ : Addr))]], box g63 115 [.func (.func 60) #[] #[]], box g64 89 [.func (.func 80) #[] #[.pointer (some (⟨g65, 0, none⟩ : Addr))]], box g65 115 [.func (.func 59) #[] #[]], box g66 89 [.func (.func 80) #[] #[.pointer (some (⟨g67, 0, none⟩ : Addr))]], box g67 115 [.func (.func 58) #[] #[]], box g68 89 [.func (.func 80) #[] #[.pointer (some (⟨g70, 0, none⟩ : Addr))]], box g69 89 [.func (.func 80) #[] #[.pointer (some (⟨g70, 0, none⟩ : Addr))]], box g70 115 [.func (.func 55) #[] #[.pointer (some ad71)]], own 3 (eI .i64) (some ad71) 1 [3], box g72 89 [.func (.func 80) #[] #[.pointer (some (⟨g74, 0, none⟩ : Addr))]], box g73 89 [.func (.func 80) #[] #[.pointer (some (⟨g74, 0, none⟩ : Addr))]], box g74 115 [.func (.func 55) #[] #[.pointer (some ad75)]], own 3 (eI .i64) (some ad75) 1 [2], box g76 89 [.func (.func 80) #[] #[.pointer (some (⟨g78, 0, none⟩ : Addr))]], box g77 89 [.func (.func 80) #[] #[.pointer (some (⟨g78, 0, none⟩ : Addr))]], box g78 115 [.func (.func 55) #[] #[.pointer (some ad79)]], own 3 (eI .i64) (some ad79) 1 [1], own 26 eSapi_Regs (some ad10) 1 [(⟨(Vector.replicate 16 0), 0, false, false, false, false⟩ : Sapi_Regs)], own 45 eSapi_Instr (some ad6) 1 [a1], own 26 eSapi_Regs (some ad2) 1 [a0]] := hw
               refine go_pvs 22 [12] [(29, .pointer (some ((ad29 : Addr).add 20)))] hs ?_; clear hs; intro a hs
               obtain ⟨wd210, hx211, hw⟩ := x_put (P := Try.prog) (ty := 0) (t := 4) (x := (Operand.tmp 29)) (y := (Operand.tmp 25)) (off := 20) (p := (ad29 : Addr).add 20) (v := .bool t204) (vs := [.bool t204]) (i := 0) (e' := (({ ({ (a0 : Sapi_Regs) with C := t203 } : Sapi_Regs) with V := t204 } : Sapi_Regs) : Sapi_Regs)) hs hw rfl (one_ok ({ (a0 : Sapi_Regs) with C := t203 } : Sapi_Regs)).1 (one_ok ({ (a0 : Sapi_Regs) with C := t203 } : Sapi_Regs)).2 (by kernel_rfl) (one_off _ _ _) (by kernel_rfl) rfl (by kernel_rfl) (Nat.le_of_ble_eq_true rfl) (by simp [Value.oneCell']) (by kernel_rfl)
               refine go_unit hs (by rfl) hx211 [25, 29] ?_; clear hs; intro a hs
               replace hw : St [] w0 wd210 [own 26 eSapi_Regs (some ad29) 1 [({ ({ (a0 : Sapi_Regs) with C := t203 } : Sapi_Regs) with V := t204 } : Sapi_Regs)], box g59 90 [.func (.func 57) #[] #[], .func (.func 80) #[] #[.pointer (some (⟨g78, 0, none⟩ : Addr))], .func (.func 80) #[] #[.pointer (some (⟨g74, 0, none⟩ : Addr))], .func (.func 80) #[] #[.pointer (some (⟨g70, 0, none⟩ : Addr))], .func (.func 80) #[] #[.pointer (some (⟨g67, 0, none⟩ : Addr))], .func (.func 80) #[] #[.pointer (some (⟨g65, 0, none⟩ : Addr))], .func (.func 80) #[] #[.pointer (some (⟨g63, 0, none⟩ : Addr))], .func (.func 80) #[] #[.pointer (some (⟨g61, 0, none⟩ : Addr))], .func (.func 62) #[] #[], .func (.func 64) #[] #[], .func (.func 66) #[] #[], .func (.func 68) #[] #[]], box g60 89 [.func (.func 80) #[] #[.pointer (some (⟨g61, 0, none⟩ : Addr))]], box g61 115 [.func (.func 61) #[] #[]], box g62 89 [.func (.func 80) #[] #[.pointer (some (⟨g63, 0, none⟩ : Addr))]], box g63 115 [.func (.func 60) #[] #[]], box g64 89 [.func (.func 80) #[] #[.pointer (some (⟨g65, 0, none⟩ : Addr))]], box g65 115 [.func (.func 59) #[] #[]], box g66 89 [.func (.func 80) #[] #[.pointer (some (⟨g67, 0, none⟩ : Addr))]], box g67 115 [.func (.func 58) #[] #[]], box g68 89 [.func (.func 80) #[] #[.pointer (some (⟨g70, 0, none⟩ : Addr))]], box g69 89 [.func (.func 80) #[] #[.pointer (some (⟨g70, 0, none⟩ : Addr))]], box g70 115 [.func (.func 55) #[] #[.pointer (some ad71)]], own 3 (eI .i64) (some ad71) 1 [3], box g72 89 [.func (.func 80) #[] #[.pointer (some (⟨g74, 0, none⟩ : Addr))]], box g73 89 [.func (.func 80) #[] #[.pointer (some (⟨g74, 0, none⟩ : Addr))]], box g74 115 [.func (.func 55) #[] #[.pointer (some ad75)]], own 3 (eI .i64) (some ad75) 1 [2], box g76 89 [.func (.func 80) #[] #[.pointer (some (⟨g78, 0, none⟩ : Addr))]], box g77 89 [.func (.func 80) #[] #[.pointer (some (⟨g78, 0, none⟩ : Addr))]], box g78 115 [.func (.func 55) #[] #[.pointer (some ad79)]], own 3 (eI .i64) (some ad79) 1 [1], own 26 eSapi_Regs (some ad10) 1 [(⟨(Vector.replicate 16 0), 0, false, false, false, false⟩ : Sapi_Regs)], own 45 eSapi_Instr (some ad6) 1 [a1], own 26 eSapi_Regs (some ad2) 1 [a0]] := hw
               refine go_end ?_
               replace hw := hw.up 24
               replace hw := hw.up 24
               replace hw := hw.up 24
               replace hw := hw.up 3
               replace hw := hw.up 24
               replace hw := hw.up 24
               replace hw := hw.up 24
               replace hw := hw.up 24
               replace hw := hw.up 24
               replace hw := hw.up 24
               replace hw := hw.up 24
               replace hw := hw.up 24
               replace hw := hw.up 24
               replace hw := hw.up 24
               replace hw := hw.up 24
               replace hw := hw.up 24
               replace hw := hw.up 24
               replace hw := hw.up 24
               replace hw := hw.up 24
               replace hw := hw.up 24
               replace hw := hw.up 24
               replace hw := hw.up 24
               replace hw := hw.up 24
               replace hw := hw.up 24
               replace hw := hw.up 24
               exact hJ5 ({ ({ (a0 : Sapi_Regs) with C := t203 } : Sapi_Regs) with V := t204 } : Sapi_Regs) t202 _ _ hs.kx hw H
             ·replace H := ite_f H hk185
              replace hs : Slots a 69 [(2, .pointer (some ad2)), (3, .pointer (some ad6)), (4, .pointer (some ad10)), (6, .pointer (some ad29)), (34, .agg #[.func (.func 57) #[] #[], .func (.func 80) #[] #[.pointer (some (⟨g78, 0, none⟩ : Addr))], .func (.func 80) #[] #[.pointer (some (⟨g74, 0, none⟩ : Addr))], .func (.func 80) #[] #[.pointer (some (⟨g70, 0, none⟩ : Addr))], .func (.func 80) #[] #[.pointer (some (⟨g67, 0, none⟩ : Addr))], .func (.func 80) #[] #[.pointer (some (⟨g65, 0, none⟩ : Addr))], .func (.func 80) #[] #[.pointer (some (⟨g63, 0, none⟩ : Addr))], .func (.func 80) #[] #[.pointer (some (⟨g61, 0, none⟩ : Addr))], .func (.func 62) #[] #[], .func (.func 64) #[] #[], .func (.func 66) #[] #[], .func (.func 68) #[] #[]]), (36, .int .i64 a1.Op), (43, .int .u32 (vx 0 a0.R (a1.B : Int).toNat)), (44, .int .u32 v55), (46, .bool a1.U)] := hs.kx
              by_cases hk216 : a1.Op = 9
              ·replace H := ite_t H hk216
               replace hs := (congrArg (fun z => Slots a 69 [(2, .pointer (some ad2)), (3, .pointer (some ad6)), (4, .pointer (some ad10)), (6, .pointer (some ad29)), (34, .agg #[.func (.func 57) #[] #[], .func (.func 80) #[] #[.pointer (some (⟨g78, 0, none⟩ : Addr))], .func (.func 80) #[] #[.pointer (some (⟨g74, 0, none⟩ : Addr))], .func (.func 80) #[] #[.pointer (some (⟨g70, 0, none⟩ : Addr))], .func (.func 80) #[] #[.pointer (some (⟨g67, 0, none⟩ : Addr))], .func (.func 80) #[] #[.pointer (some (⟨g65, 0, none⟩ : Addr))], .func (.func 80) #[] #[.pointer (some (⟨g63, 0, none⟩ : Addr))], .func (.func 80) #[] #[.pointer (some (⟨g61, 0, none⟩ : Addr))], .func (.func 62) #[] #[], .func (.func 64) #[] #[], .func (.func 66) #[] #[], .func (.func 68) #[] #[]]), (36, .int .i64 z), (43, .int .u32 (vx 0 a0.R (a1.B : Int).toNat)), (44, .int .u32 v55), (46, .bool a1.U)]) hk216).mp hs
               replace hs : Slots a 69 [(2, .pointer (some ad2)), (3, .pointer (some ad6)), (4, .pointer (some ad10)), (6, .pointer (some ad29)), (34, .agg #[.func (.func 57) #[] #[], .func (.func 80) #[] #[.pointer (some (⟨g78, 0, none⟩ : Addr))], .func (.func 80) #[] #[.pointer (some (⟨g74, 0, none⟩ : Addr))], .func (.func 80) #[] #[.pointer (some (⟨g70, 0, none⟩ : Addr))], .func (.func 80) #[] #[.pointer (some (⟨g67, 0, none⟩ : Addr))], .func (.func 80) #[] #[.pointer (some (⟨g65, 0, none⟩ : Addr))], .func (.func 80) #[] #[.pointer (some (⟨g63, 0, none⟩ : Addr))], .func (.func 80) #[] #[.pointer (some (⟨g61, 0, none⟩ : Addr))], .func (.func 62) #[] #[], .func (.func 64) #[] #[], .func (.func 66) #[] #[], .func (.func 68) #[] #[]]), (36, .int .i64 9), (43, .int .u32 (vx 0 a0.R (a1.B : Int).toNat)), (44, .int .u32 v55), (46, .bool a1.U)] := hs
               refine s_pvs [3, 4] [] [34, 36] [(38, .func (.func 64) #[] #[])] hbq hs ?_; clear hs; intro a hs
               refine s_end ?_
               refine p_inline_k hs (by rfl) (f := 64) (args := #[.pointer (some ad29), .int .u32 (vx 0 a0.R (a1.B : Int).toNat), .int .u32 v55, .bool a1.U]) (fun KR217 hKR217 => ?_)
               refine go_fn Try.func64 rfl Try.ntmps64 ?_; clear hs; intro a hs
               refine go_sp [] [] hs ?_; clear hs; intro a hs
               refine go_seq_k fun K219 hK219 => ?_
               have hJ6 : ∀ (v243 : Sapi_Regs) (v244 : Int) (a : Act) (w : World), Slots a 31 [(8, .int .u32 v244)] → St [] w0 w [box g59 90 [.func (.func 57) #[] #[], .func (.func 80) #[] #[.pointer (some (⟨g78, 0, none⟩ : Addr))], .func (.func 80) #[] #[.pointer (some (⟨g74, 0, none⟩ : Addr))], .func (.func 80) #[] #[.pointer (some (⟨g70, 0, none⟩ : Addr))], .func (.func 80) #[] #[.pointer (some (⟨g67, 0, none⟩ : Addr))], .func (.func 80) #[] #[.pointer (some (⟨g65, 0, none⟩ : Addr))], .func (.func 80) #[] #[.pointer (some (⟨g63, 0, none⟩ : Addr))], .func (.func 80) #[] #[.pointer (some (⟨g61, 0, none⟩ : Addr))], .func (.func 62) #[] #[], .func (.func 64) #[] #[], .func (.func 66) #[] #[], .func (.func 68) #[] #[]], box g60 89 [.func (.func 80) #[] #[.pointer (some (⟨g61, 0, none⟩ : Addr))]], box g61 115 [.func (.func 61) #[] #[]], box g62 89 [.func (.func 80) #[] #[.pointer (some (⟨g63, 0, none⟩ : Addr))]], box g63 115 [.func (.func 60) #[] #[]], box g64 89 [.func (.func 80) #[] #[.pointer (some (⟨g65, 0, none⟩ : Addr))]], box g65 115 [.func (.func 59) #[] #[]], box g66 89 [.func (.func 80) #[] #[.pointer (some (⟨g67, 0, none⟩ : Addr))]], box g67 115 [.func (.func 58) #[] #[]], box g68 89 [.func (.func 80) #[] #[.pointer (some (⟨g70, 0, none⟩ : Addr))]], box g69 89 [.func (.func 80) #[] #[.pointer (some (⟨g70, 0, none⟩ : Addr))]], box g70 115 [.func (.func 55) #[] #[.pointer (some ad71)]], own 3 (eI .i64) (some ad71) 1 [3], box g72 89 [.func (.func 80) #[] #[.pointer (some (⟨g74, 0, none⟩ : Addr))]], box g73 89 [.func (.func 80) #[] #[.pointer (some (⟨g74, 0, none⟩ : Addr))]], box g74 115 [.func (.func 55) #[] #[.pointer (some ad75)]], own 3 (eI .i64) (some ad75) 1 [2], box g76 89 [.func (.func 80) #[] #[.pointer (some (⟨g78, 0, none⟩ : Addr))]], box g77 89 [.func (.func 80) #[] #[.pointer (some (⟨g78, 0, none⟩ : Addr))]], box g78 115 [.func (.func 55) #[] #[.pointer (some ad79)]], own 3 (eI .i64) (some ad79) 1 [1], own 26 eSapi_Regs (some ad29) 1 [v243], own 26 eSapi_Regs (some ad10) 1 [(⟨(Vector.replicate 16 0), 0, false, false, false, false⟩ : Sapi_Regs)], own 45 eSapi_Instr (some ad6) 1 [a1], own 26 eSapi_Regs (some ad2) 1 [a0]] → alu_Do.j6 a1 v243 v244 = some r → K219 a w := by
                intro v243 v244 a w hs hw H
                unfold alu_Do.j6 at H
                refine hK219 _ _ ?_
                refine go_sp [] [(9, .bool true)] hs ?_; clear hs; intro a hs
                refine wp_ret ?_
                refine ret2 (t1 := 8) (v1 := .int .u32 v244) (t2 := 9) (v2 := .bool true) hs (by kernel_rfl) (by kernel_rfl) (by kernel_rfl) ?_
                refine ⟨_, rfl, ?_⟩
                refine hKR217 _ _ ?_
                intro a hs1; have hs : Slots a _ [(2, .pointer (some ad2)), (3, .pointer (some ad6)), (4, .pointer (some ad10)), (6, .pointer (some ad29)), (47, .tuple #[.int .u32 v244, .bool true])] := hs1.kx; clear hs1
                refine p_last ?_
                refine e_pvs [14, 15, 16, 17, 18] [] [47] [(7, .int .u32 v244), (9, .bool true)] hs ?_; clear hs; intro a hs
                refine e_end ?_
                refine hK57 _ _ ?_
                refine go_sp [9] [(51, .bool false)] hs ?_; clear hs; intro a hs
                refine go_cond hs false (fun hc => ?_) fun hc => ?_
                ·cases hc
                ·skip
                 refine wp_skip ?_
                 refine ib_norm ?_
                 replace hw := hw.up 24
                 replace hw := hw.up 24
                 replace hw := hw.up 24
                 replace hw := hw.up 24
                 replace hw := hw.only 4
                 exact hJ7 v243 v244 _ _ hs.kx hw H
               refine go_region ?_
               refine go_pvs 6 [1, 2, 3] [(11, .pointer (some ad29)), (12, .pointer (some ad29)), (13, .int .u32 (vx 0 a0.R (a1.B : Int).toNat)), (14, .int .u32 v55), (16, .bool a1.U)] hs ?_; clear hs; intro a hs
               cases hb220 : a1.U
               ·replace H := ite_f H (ff hb220)
                rw [hb220] at hs
                refine go_pvs 11 [0, 16] [(21, .bool false)] hs ?_; clear hs; intro a hs
                obtain ⟨⟨t222, t223, t224⟩, hx225, H⟩ := bind_some H
                refine go_call hs (by rfl) (word_Sub.calls (vx 0 a0.R (a1.B : Int).toNat) v55 false (t222, t223, t224) _ hx225) ?_
                rintro e wd226 ⟨rfl, hw227⟩
                refine ⟨_, rfl, ?_⟩
                replace hw := hw.call hw227
                clear hs; intro a hs; replace hs := hs.rms [13, 14, 21]
                refine go_pvs 19 [11, 22] [(8, .int .u32 t222), (24, .bool t223), (25, .bool t224), (27, .pointer (some ((ad29 : Addr).add 19)))] hs ?_; clear hs; intro a hs
                replace hw := hw.up 21
                obtain ⟨wd228, hx229, hw⟩ := x_put (P := Try.prog) (ty := 0) (t := 4) (x := (Operand.tmp 27)) (y := (Operand.tmp 24)) (off := 19) (p := (ad29 : Addr).add 19) (v := .bool t223) (vs := [.bool t223]) (i := 0) (e' := (({ (a0 : Sapi_Regs) with C := t223 } : Sapi_Regs) : Sapi_Regs)) hs hw rfl (one_ok (a0 : Sapi_Regs)).1 (one_ok (a0 : Sapi_Regs)).2 (by kernel_rfl) (one_off _ _ _) (by kernel_rfl) rfl (by kernel_rfl) (Nat.le_of_ble_eq_true rfl) (by simp [Value.oneCell']) (by kernel_rfl)
                refine go_unit hs (by rfl) hx229 [24, 27] ?_; clear hs; intro a hs
                replace hw : St [] w0 wd228 [own 26 eSapi_Regs (some ad29) 1 [({ (a0 : Sapi_Regs) with C := t223 } : Sapi_Regs)], box g59 90 [.func (.func 57) #[] #[], .func (.func 80) #[] #[.pointer (some (⟨g78, 0, none⟩ : Addr))], .func (.func 80) #[] #[.pointer (some (⟨g74, 0, none⟩ : Addr))], .func (.func 80) #[] #[.pointer (some (⟨g70, 0, none⟩ : Addr))], .func (.func 80) #[] #[.pointer (some (⟨g67, 0, none⟩ : Addr))], .func (.func 80) #[] #[.pointer (some (⟨g65, 0, none⟩ : Addr))], .func (.func 80) #[] #[.pointer (some (⟨g63, 0, none⟩ : Addr))], .func (.func 80) #[] #[.pointer (some (⟨g61, 0, none⟩ : Addr))], .func (.func 62) #[] #[], .func (.func 64) #[] #[], .func (.func 66) #[] #[], .func (.func 68) #[] #[]], box g60 89 [.func (.func 80) #[] #[.pointer (some (⟨g61, 0, none⟩ : Addr))]], box g61 115 [.func (.func 61) #[] #[]], box g62 89 [.func (.func 80) #[] #[.pointer (some (⟨g63, 0, none⟩ : Addr))]], box g63 115 [.func (.func 60) #[] #[]], box g64 89 [.func (.func 80) #[] #[.pointer (some (⟨g65, 0, none⟩ : Addr))]], box g65 115 [.func (.func 59) #[] #[]], box g66 89 [.func (.func 80) #[] #[.pointer (some (⟨g67, 0, none⟩ : Addr))]], box g67 115 [.func (.func 58) #[] #[]], box g68 89 [.func (.func 80) #[] #[.pointer (some (⟨g70, 0, none⟩ : Addr))]], box g69 89 [.func (.func 80) #[] #[.pointer (some (⟨g70, 0, none⟩ : Addr))]], box g70 115 [.func (.func 55) #[] #[.pointer (some ad71)]], own 3 (eI .i64) (some ad71) 1 [3], box g72 89 [.func (.func 80) #[] #[.pointer (some (⟨g74, 0, none⟩ : Addr))]], box g73 89 [.func (.func 80) #[] #[.pointer (some (⟨g74, 0, none⟩ : Addr))]], box g74 115 [.func (.func 55) #[] #[.pointer (some ad75)]], own 3 (eI .i64) (some ad75) 1 [2], box g76 89 [.func (.func 80) #[] #[.pointer (some (⟨g78, 0, none⟩ : Addr))]], box g77 89 [.func (.func 80) #[] #[.pointer (some (⟨g78, 0, none⟩ : Addr))]], box g78 115 [.func (.func 55) #[] #[.pointer (some ad79)]], own 3 (eI .i64) (some ad79) 1 [1], own 26 eSapi_Regs (some ad10) 1 [(⟨(Vector.replicate 16 0), 0, false, false, false, false⟩ : Sapi_Regs)], own 45 eSapi_Instr (some ad6) 1 [a1], own 26 eSapi_Regs (some ad2) 1 [a0]] := hw
                refine go_pvs 22 [12] [(29, .pointer (some ((ad29 : Addr).add 20)))] hs ?_; clear hs; intro a hs
                obtain ⟨wd230, hx231, hw⟩ := x_put (P := Try.prog) (ty := 0) (t := 4) (x := (Operand.tmp 29)) (y := (Operand.tmp 25)) (off := 20) (p := (ad29 : Addr).add 20) (v := .bool t224) (vs := [.bool t224]) (i := 0) (e' := (({ ({ (a0 : Sapi_Regs) with C := t223 } : Sapi_Regs) with V := t224 } : Sapi_Regs) : Sapi_Regs)) hs hw rfl (one_ok ({ (a0 : Sapi_Regs) with C := t223 } : Sapi_Regs)).1 (one_ok ({ (a0 : Sapi_Regs) with C := t223 } : Sapi_Regs)).2 (by kernel_rfl) (one_off _ _ _) (by kernel_rfl) rfl (by kernel_rfl) (Nat.le_of_ble_eq_true rfl) (by simp [Value.oneCell']) (by kernel_rfl)
                refine go_unit hs (by rfl) hx231 [25, 29] ?_; clear hs; intro a hs
                replace hw : St [] w0 wd230 [own 26 eSapi_Regs (some ad29) 1 [({ ({ (a0 : Sapi_Regs) with C := t223 } : Sapi_Regs) with V := t224 } : Sapi_Regs)], box g59 90 [.func (.func 57) #[] #[], .func (.func 80) #[] #[.pointer (some (⟨g78, 0, none⟩ : Addr))], .func (.func 80) #[] #[.pointer (some (⟨g74, 0, none⟩ : Addr))], .func (.func 80) #[] #[.pointer (some (⟨g70, 0, none⟩ : Addr))], .func (.func 80) #[] #[.pointer (some (⟨g67, 0, none⟩ : Addr))], .func (.func 80) #[] #[.pointer (some (⟨g65, 0, none⟩ : Addr))], .func (.func 80) #[] #[.pointer (some (⟨g63, 0, none⟩ : Addr))], .func (.func 80) #[] #[.pointer (some (⟨g61, 0, none⟩ : Addr))], .func (.func 62) #[] #[], .func (.func 64) #[] #[], .func (.func 66) #[] #[], .func (.func 68) #[] #[]], box g60 89 [.func (.func 80) #[] #[.pointer (some (⟨g61, 0, none⟩ : Addr))]], box g61 115 [.func (.func 61) #[] #[]], box g62 89 [.func (.func 80) #[] #[.pointer (some (⟨g63, 0, none⟩ : Addr))]], box g63 115 [.func (.func 60) #[] #[]], box g64 89 [.func (.func 80) #[] #[.pointer (some (⟨g65, 0, none⟩ : Addr))]], box g65 115 [.func (.func 59) #[] #[]], box g66 89 [.func (.func 80) #[] #[.pointer (some (⟨g67, 0, none⟩ : Addr))]], box g67 115 [.func (.func 58) #[] #[]], box g68 89 [.func (.func 80) #[] #[.pointer (some (⟨g70, 0, none⟩ : Addr))]], box g69 89 [.func (.func 80) #[] #[.pointer (some (⟨g70, 0, none⟩ : Addr))]], box g70 115 [.func (.func 55) #[] #[.pointer (some ad71)]], own 3 (eI .i64) (some ad71) 1 [3], box g72 89 [.func (.func 80) #[] #[.pointer (some (⟨g74, 0, none⟩ : Addr))]], box g73 89 [.func (.func 80) #[] #[.pointer (some (⟨g74, 0, none⟩ : Addr))]], box g74 115 [.func (.func 55) #[] #[.pointer (some ad75)]], own 3 (eI .i64) (some ad75) 1 [2], box g76 89 [.func (.func 80) #[] #[.pointer (some (⟨g78, 0, none⟩ : Addr))]], box g77 89 [.func (.func 80) #[] #[.pointer (some (⟨g78, 0, none⟩ : Addr))]], box g78 115 [.func (.func 55) #[] #[.pointer (some ad79)]], own 3 (eI .i64) (some ad79) 1 [1], own 26 eSapi_Regs (some ad10) 1 [(⟨(Vector.replicate 16 0), 0, false, false, false, false⟩ : Sapi_Regs)], own 45 eSapi_Instr (some ad6) 1 [a1], own 26 eSapi_Regs (some ad2) 1 [a0]] := hw
                refine go_end ?_
                replace hw := hw.up 24
                replace hw := hw.up 24
                replace hw := hw.up 24
                replace hw := hw.up 3
                replace hw := hw.up 24
                replace hw := hw.up 24
                replace hw := hw.up 24
                replace hw := hw.up 24
                replace hw := hw.up 24
                replace hw := hw.up 24
                replace hw := hw.up 24
                replace hw := hw.up 24
                replace hw := hw.up 24
                replace hw := hw.up 24
                replace hw := hw.up 24
                replace hw := hw.up 24
                replace hw := hw.up 24
                replace hw := hw.up 24
                replace hw := hw.up 24
                replace hw := hw.up 24
                replace hw := hw.up 24
                replace hw := hw.up 24
                replace hw := hw.up 24
                replace hw := hw.up 24
                replace hw := hw.up 24
                exact hJ6 ({ ({ (a0 : Sapi_Regs) with C := t223 } : Sapi_Regs) with V := t224 } : Sapi_Regs) t222 _ _ hs.kx hw H
               ·replace H := ite_t H hb220
                rw [hb220] at hs
                refine go_pvs 9 [0] [(19, .pointer (some ((ad29 : Addr).add 19)))] hs ?_; clear hs; intro a hs
                refine go_run hs (by rfl) (x_ld (off := 19) (p := (ad29 : Addr).add 19) (v := .bool ((a0 : Sapi_Regs).C)) (Rd.of_own (hw.up 21)) (one_ok (a0 : Sapi_Regs)) (one_off _ _ _)) [19] ?_; clear hs; intro a hs
                refine go_pvs 11 [16, 20] [(21, .bool ((a0 : Sapi_Regs).C))] hs ?_; clear hs; intro a hs
                obtain ⟨⟨t233, t234, t235⟩, hx236, H⟩ := bind_some H
                refine go_call hs (by rfl) (word_Sub.calls (vx 0 a0.R (a1.B : Int).toNat) v55 ((a0 : Sapi_Regs).C) (t233, t234, t235) _ hx236) ?_
                rintro e wd237 ⟨rfl, hw238⟩
                refine ⟨_, rfl, ?_⟩
                replace hw := hw.call hw238
                clear hs; intro a hs; replace hs := hs.rms [13, 14, 21]
                refine go_pvs 19 [11, 22] [(8, .int .u32 t233), (24, .bool t234), (25, .bool t235), (27, .pointer (some ((ad29 : Addr).add 19)))] hs ?_; clear hs; intro a hs
                replace hw := hw.up 21
                obtain ⟨wd239, hx240, hw⟩ := x_put (P := Try.prog) (ty := 0) (t := 4) (x := (Operand.tmp 27)) (y := (Operand.tmp 24)) (off := 19) (p := (ad29 : Addr).add 19) (v := .bool t234) (vs := [.bool t234]) (i := 0) (e' := (({ (a0 : Sapi_Regs) with C := t234 } : Sapi_Regs) : Sapi_Regs)) hs hw rfl (one_ok (a0 : Sapi_Regs)).1 (one_ok (a0 : Sapi_Regs)).2 (by kernel_rfl) (one_off _ _ _) (by kernel_rfl) rfl (by kernel_rfl) (Nat.le_of_ble_eq_true rfl) (by simp [Value.oneCell']) (by kernel_rfl)
                refine go_unit hs (by rfl) hx240 [24, 27] ?_; clear hs; intro a hs
                replace hw : St [] w0 wd239 [own 26 eSapi_Regs (some ad29) 1 [({ (a0 : Sapi_Regs) with C := t234 } : Sapi_Regs)], box g59 90 [.func (.func 57) #[] #[], .func (.func 80) #[] #[.pointer (some (⟨g78, 0, none⟩ : Addr))], .func (.func 80) #[] #[.pointer (some (⟨g74, 0, none⟩ : Addr))], .func (.func 80) #[] #[.pointer (some (⟨g70, 0, none⟩ : Addr))], .func (.func 80) #[] #[.pointer (some (⟨g67, 0, none⟩ : Addr))], .func (.func 80) #[] #[.pointer (some (⟨g65, 0, none⟩ : Addr))], .func (.func 80) #[] #[.pointer (some (⟨g63, 0, none⟩ : Addr))], .func (.func 80) #[] #[.pointer (some (⟨g61, 0, none⟩ : Addr))], .func (.func 62) #[] #[], .func (.func 64) #[] #[], .func (.func 66) #[] #[], .func (.func 68) #[] #[]], box g60 89 [.func (.func 80) #[] #[.pointer (some (⟨g61, 0, none⟩ : Addr))]], box g61 115 [.func (.func 61) #[] #[]], box g62 89 [.func (.func 80) #[] #[.pointer (some (⟨g63, 0, none⟩ : Addr))]], box g63 115 [.func (.func 60) #[] #[]], box g64 89 [.func (.func 80) #[] #[.pointer (some (⟨g65, 0, none⟩ : Addr))]], box g65 115 [.func (.func 59) #[] #[]], box g66 89 [.func (.func 80) #[] #[.pointer (some (⟨g67, 0, none⟩ : Addr))]], box g67 115 [.func (.func 58) #[] #[]], box g68 89 [.func (.func 80) #[] #[.pointer (some (⟨g70, 0, none⟩ : Addr))]], box g69 89 [.func (.func 80) #[] #[.pointer (some (⟨g70, 0, none⟩ : Addr))]], box g70 115 [.func (.func 55) #[] #[.pointer (some ad71)]], own 3 (eI .i64) (some ad71) 1 [3], box g72 89 [.func (.func 80) #[] #[.pointer (some (⟨g74, 0, none⟩ : Addr))]], box g73 89 [.func (.func 80) #[] #[.pointer (some (⟨g74, 0, none⟩ : Addr))]], box g74 115 [.func (.func 55) #[] #[.pointer (some ad75)]], own 3 (eI .i64) (some ad75) 1 [2], box g76 89 [.func (.func 80) #[] #[.pointer (some (⟨g78, 0, none⟩ : Addr))]], box g77 89 [.func (.func 80) #[] #[.pointer (some (⟨g78, 0, none⟩ : Addr))]], box g78 115 [.func (.func 55) #[] #[.pointer (some ad79)]], own 3 (eI .i64) (some ad79) 1 [1], own 26 eSapi_Regs (some ad10) 1 [(⟨(Vector.replicate 16 0), 0, false, false, false, false⟩ : Sapi_Regs)], own 45 eSapi_Instr (some ad6) 1 [a1], own 26 eSapi_Regs (some ad2) 1 [a0]] := hw
                refine go_pvs 22 [12] [(29, .pointer (some ((ad29 : Addr).add 20)))] hs ?_; clear hs; intro a hs
                obtain ⟨wd241, hx242, hw⟩ := x_put (P := Try.prog) (ty := 0) (t := 4) (x := (Operand.tmp 29)) (y := (Operand.tmp 25)) (off := 20) (p := (ad29 : Addr).add 20) (v := .bool t235) (vs := [.bool t235]) (i := 0) (e' := (({ ({ (a0 : Sapi_Regs) with C := t234 } : Sapi_Regs) with V := t235 } : Sapi_Regs) : Sapi_Regs)) hs hw rfl (one_ok ({ (a0 : Sapi_Regs) with C := t234 } : Sapi_Regs)).1 (one_ok ({ (a0 : Sapi_Regs) with C := t234 } : Sapi_Regs)).2 (by kernel_rfl) (one_off _ _ _) (by kernel_rfl) rfl (by kernel_rfl) (Nat.le_of_ble_eq_true rfl) (by simp [Value.oneCell']) (by kernel_rfl)
                refine go_unit hs (by rfl) hx242 [25, 29] ?_; clear hs; intro a hs
                replace hw : St [] w0 wd241 [own 26 eSapi_Regs (some ad29) 1 [({ ({ (a0 : Sapi_Regs) with C := t234 } : Sapi_Regs) with V := t235 } : Sapi_Regs)], box g59 90 [.func (.func 57) #[] #[], .func (.func 80) #[] #[.pointer (some (⟨g78, 0, none⟩ : Addr))], .func (.func 80) #[] #[.pointer (some (⟨g74, 0, none⟩ : Addr))], .func (.func 80) #[] #[.pointer (some (⟨g70, 0, none⟩ : Addr))], .func (.func 80) #[] #[.pointer (some (⟨g67, 0, none⟩ : Addr))], .func (.func 80) #[] #[.pointer (some (⟨g65, 0, none⟩ : Addr))], .func (.func 80) #[] #[.pointer (some (⟨g63, 0, none⟩ : Addr))], .func (.func 80) #[] #[.pointer (some (⟨g61, 0, none⟩ : Addr))], .func (.func 62) #[] #[], .func (.func 64) #[] #[], .func (.func 66) #[] #[], .func (.func 68) #[] #[]], box g60 89 [.func (.func 80) #[] #[.pointer (some (⟨g61, 0, none⟩ : Addr))]], box g61 115 [.func (.func 61) #[] #[]], box g62 89 [.func (.func 80) #[] #[.pointer (some (⟨g63, 0, none⟩ : Addr))]], box g63 115 [.func (.func 60) #[] #[]], box g64 89 [.func (.func 80) #[] #[.pointer (some (⟨g65, 0, none⟩ : Addr))]], box g65 115 [.func (.func 59) #[] #[]], box g66 89 [.func (.func 80) #[] #[.pointer (some (⟨g67, 0, none⟩ : Addr))]], box g67 115 [.func (.func 58) #[] #[]], box g68 89 [.func (.func 80) #[] #[.pointer (some (⟨g70, 0, none⟩ : Addr))]], box g69 89 [.func (.func 80) #[] #[.pointer (some (⟨g70, 0, none⟩ : Addr))]], box g70 115 [.func (.func 55) #[] #[.pointer (some ad71)]], own 3 (eI .i64) (some ad71) 1 [3], box g72 89 [.func (.func 80) #[] #[.pointer (some (⟨g74, 0, none⟩ : Addr))]], box g73 89 [.func (.func 80) #[] #[.pointer (some (⟨g74, 0, none⟩ : Addr))]], box g74 115 [.func (.func 55) #[] #[.pointer (some ad75)]], own 3 (eI .i64) (some ad75) 1 [2], box g76 89 [.func (.func 80) #[] #[.pointer (some (⟨g78, 0, none⟩ : Addr))]], box g77 89 [.func (.func 80) #[] #[.pointer (some (⟨g78, 0, none⟩ : Addr))]], box g78 115 [.func (.func 55) #[] #[.pointer (some ad79)]], own 3 (eI .i64) (some ad79) 1 [1], own 26 eSapi_Regs (some ad10) 1 [(⟨(Vector.replicate 16 0), 0, false, false, false, false⟩ : Sapi_Regs)], own 45 eSapi_Instr (some ad6) 1 [a1], own 26 eSapi_Regs (some ad2) 1 [a0]] := hw
                refine go_end ?_
                replace hw := hw.up 24
                replace hw := hw.up 24
                replace hw := hw.up 24
                replace hw := hw.up 3
                replace hw := hw.up 24
                replace hw := hw.up 24
                replace hw := hw.up 24
                replace hw := hw.up 24
                replace hw := hw.up 24
                replace hw := hw.up 24
                replace hw := hw.up 24
                replace hw := hw.up 24
                replace hw := hw.up 24
                replace hw := hw.up 24
                replace hw := hw.up 24
                replace hw := hw.up 24
                replace hw := hw.up 24
                replace hw := hw.up 24
                replace hw := hw.up 24
                replace hw := hw.up 24
                replace hw := hw.up 24
                replace hw := hw.up 24
                replace hw := hw.up 24
                replace hw := hw.up 24
                replace hw := hw.up 24
                exact hJ6 ({ ({ (a0 : Sapi_Regs) with C := t234 } : Sapi_Regs) with V := t235 } : Sapi_Regs) t233 _ _ hs.kx hw H
              ·replace H := ite_f H hk216
               replace hs : Slots a 69 [(2, .pointer (some ad2)), (3, .pointer (some ad6)), (4, .pointer (some ad10)), (6, .pointer (some ad29)), (34, .agg #[.func (.func 57) #[] #[], .func (.func 80) #[] #[.pointer (some (⟨g78, 0, none⟩ : Addr))], .func (.func 80) #[] #[.pointer (some (⟨g74, 0, none⟩ : Addr))], .func (.func 80) #[] #[.pointer (some (⟨g70, 0, none⟩ : Addr))], .func (.func 80) #[] #[.pointer (some (⟨g67, 0, none⟩ : Addr))], .func (.func 80) #[] #[.pointer (some (⟨g65, 0, none⟩ : Addr))], .func (.func 80) #[] #[.pointer (some (⟨g63, 0, none⟩ : Addr))], .func (.func 80) #[] #[.pointer (some (⟨g61, 0, none⟩ : Addr))], .func (.func 62) #[] #[], .func (.func 64) #[] #[], .func (.func 66) #[] #[], .func (.func 68) #[] #[]]), (36, .int .i64 a1.Op), (43, .int .u32 (vx 0 a0.R (a1.B : Int).toNat)), (44, .int .u32 v55), (46, .bool a1.U)] := hs.kx
               by_cases hk247 : a1.Op = 10
               ·replace H := ite_t H hk247
                replace hs := (congrArg (fun z => Slots a 69 [(2, .pointer (some ad2)), (3, .pointer (some ad6)), (4, .pointer (some ad10)), (6, .pointer (some ad29)), (34, .agg #[.func (.func 57) #[] #[], .func (.func 80) #[] #[.pointer (some (⟨g78, 0, none⟩ : Addr))], .func (.func 80) #[] #[.pointer (some (⟨g74, 0, none⟩ : Addr))], .func (.func 80) #[] #[.pointer (some (⟨g70, 0, none⟩ : Addr))], .func (.func 80) #[] #[.pointer (some (⟨g67, 0, none⟩ : Addr))], .func (.func 80) #[] #[.pointer (some (⟨g65, 0, none⟩ : Addr))], .func (.func 80) #[] #[.pointer (some (⟨g63, 0, none⟩ : Addr))], .func (.func 80) #[] #[.pointer (some (⟨g61, 0, none⟩ : Addr))], .func (.func 62) #[] #[], .func (.func 64) #[] #[], .func (.func 66) #[] #[], .func (.func 68) #[] #[]]), (36, .int .i64 z), (43, .int .u32 (vx 0 a0.R (a1.B : Int).toNat)), (44, .int .u32 v55), (46, .bool a1.U)]) hk247).mp hs
                replace hs : Slots a 69 [(2, .pointer (some ad2)), (3, .pointer (some ad6)), (4, .pointer (some ad10)), (6, .pointer (some ad29)), (34, .agg #[.func (.func 57) #[] #[], .func (.func 80) #[] #[.pointer (some (⟨g78, 0, none⟩ : Addr))], .func (.func 80) #[] #[.pointer (some (⟨g74, 0, none⟩ : Addr))], .func (.func 80) #[] #[.pointer (some (⟨g70, 0, none⟩ : Addr))], .func (.func 80) #[] #[.pointer (some (⟨g67, 0, none⟩ : Addr))], .func (.func 80) #[] #[.pointer (some (⟨g65, 0, none⟩ : Addr))], .func (.func 80) #[] #[.pointer (some (⟨g63, 0, none⟩ : Addr))], .func (.func 80) #[] #[.pointer (some (⟨g61, 0, none⟩ : Addr))], .func (.func 62) #[] #[], .func (.func 64) #[] #[], .func (.func 66) #[] #[], .func (.func 68) #[] #[]]), (36, .int .i64 10), (43, .int .u32 (vx 0 a0.R (a1.B : Int).toNat)), (44, .int .u32 v55), (46, .bool a1.U)] := hs
                refine s_pvs [3, 4] [] [34, 36] [(38, .func (.func 66) #[] #[])] hbq hs ?_; clear hs; intro a hs
                refine s_end ?_
                refine p_inline_k hs (by rfl) (f := 66) (args := #[.pointer (some ad29), .int .u32 (vx 0 a0.R (a1.B : Int).toNat), .int .u32 v55, .bool a1.U]) (fun KR248 hKR248 => ?_)
                refine go_fn Try.func66 rfl Try.ntmps66 ?_; clear hs; intro a hs
                refine go_sp [] [] hs ?_; clear hs; intro a hs
                refine go_sk fun K250 hK250 => ?_
                refine go_pvs 4 [0, 1, 2, 3] [(11, .pointer (some ad29)), (12, .int .u32 (vx 0 a0.R (a1.B : Int).toNat)), (13, .int .u32 v55), (14, .bool a1.U)] hs ?_; clear hs; intro a hs
                obtain ⟨⟨t252, t253⟩, hx254, H⟩ := bind_some H
                refine go_call hs (by rfl) (word_Mul.calls (vx 0 a0.R (a1.B : Int).toNat) v55 a1.U (t252, t253) _ hx254) ?_
                rintro e wd255 ⟨rfl, hw256⟩
                refine ⟨_, rfl, ?_⟩
                replace hw := hw.call hw256
                clear hs; intro a hs; replace hs := hs.rms [12, 13, 14]
                refine go_pvs 11 [11, 15] [(8, .int .u32 t252), (17, .int .u32 t253), (19, .pointer (some ((ad29 : Addr).add 16)))] hs ?_; clear hs; intro a hs
                replace hw := hw.up 21
                obtain ⟨wd257, hx258, hw⟩ := x_put (P := Try.prog) (ty := 0) (t := 23) (x := (Operand.tmp 19)) (y := (Operand.tmp 17)) (off := 16) (p := (ad29 : Addr).add 16) (v := .int .u32 t253) (vs := [.int .u32 t253]) (i := 0) (e' := (({ (a0 : Sapi_Regs) with H := t253 } : Sapi_Regs) : Sapi_Regs)) hs hw rfl (one_ok (a0 : Sapi_Regs)).1 (one_ok (a0 : Sapi_Regs)).2 (by kernel_rfl) (one_off _ _ _) (by kernel_rfl) rfl (by kernel_rfl) (Nat.le_of_ble_eq_true rfl) (by simp [Value.oneCell']) (by kernel_rfl)
                refine go_unit hs (by rfl) hx258 [17, 19] ?_; clear hs; intro a hs
                replace hw : St [] w0 wd257 [own 26 eSapi_Regs (some ad29) 1 [({ (a0 : Sapi_Regs) with H := t253 } : Sapi_Regs)], box g59 90 [.func (.func 57) #[] #[], .func (.func 80) #[] #[.pointer (some (⟨g78, 0, none⟩ : Addr))], .func (.func 80) #[] #[.pointer (some (⟨g74, 0, none⟩ : Addr))], .func (.func 80) #[] #[.pointer (some (⟨g70, 0, none⟩ : Addr))], .func (.func 80) #[] #[.pointer (some (⟨g67, 0, none⟩ : Addr))], .func (.func 80) #[] #[.pointer (some (⟨g65, 0, none⟩ : Addr))], .func (.func 80) #[] #[.pointer (some (⟨g63, 0, none⟩ : Addr))], .func (.func 80) #[] #[.pointer (some (⟨g61, 0, none⟩ : Addr))], .func (.func 62) #[] #[], .func (.func 64) #[] #[], .func (.func 66) #[] #[], .func (.func 68) #[] #[]], box g60 89 [.func (.func 80) #[] #[.pointer (some (⟨g61, 0, none⟩ : Addr))]], box g61 115 [.func (.func 61) #[] #[]], box g62 89 [.func (.func 80) #[] #[.pointer (some (⟨g63, 0, none⟩ : Addr))]], box g63 115 [.func (.func 60) #[] #[]], box g64 89 [.func (.func 80) #[] #[.pointer (some (⟨g65, 0, none⟩ : Addr))]], box g65 115 [.func (.func 59) #[] #[]], box g66 89 [.func (.func 80) #[] #[.pointer (some (⟨g67, 0, none⟩ : Addr))]], box g67 115 [.func (.func 58) #[] #[]], box g68 89 [.func (.func 80) #[] #[.pointer (some (⟨g70, 0, none⟩ : Addr))]], box g69 89 [.func (.func 80) #[] #[.pointer (some (⟨g70, 0, none⟩ : Addr))]], box g70 115 [.func (.func 55) #[] #[.pointer (some ad71)]], own 3 (eI .i64) (some ad71) 1 [3], box g72 89 [.func (.func 80) #[] #[.pointer (some (⟨g74, 0, none⟩ : Addr))]], box g73 89 [.func (.func 80) #[] #[.pointer (some (⟨g74, 0, none⟩ : Addr))]], box g74 115 [.func (.func 55) #[] #[.pointer (some ad75)]], own 3 (eI .i64) (some ad75) 1 [2], box g76 89 [.func (.func 80) #[] #[.pointer (some (⟨g78, 0, none⟩ : Addr))]], box g77 89 [.func (.func 80) #[] #[.pointer (some (⟨g78, 0, none⟩ : Addr))]], box g78 115 [.func (.func 55) #[] #[.pointer (some ad79)]], own 3 (eI .i64) (some ad79) 1 [1], own 26 eSapi_Regs (some ad10) 1 [(⟨(Vector.replicate 16 0), 0, false, false, false, false⟩ : Sapi_Regs)], own 45 eSapi_Instr (some ad6) 1 [a1], own 26 eSapi_Regs (some ad2) 1 [a0]] := hw
                refine go_end (hK250 _ _ ?_)
                refine go_sp [] [(9, .bool true)] hs ?_; clear hs; intro a hs
                refine wp_ret ?_
                refine ret2 (t1 := 8) (v1 := .int .u32 t252) (t2 := 9) (v2 := .bool true) hs (by kernel_rfl) (by kernel_rfl) (by kernel_rfl) ?_
                refine ⟨_, rfl, ?_⟩
                refine hKR248 _ _ ?_
                intro a hs1; have hs : Slots a _ [(2, .pointer (some ad2)), (3, .pointer (some ad6)), (4, .pointer (some ad10)), (6, .pointer (some ad29)), (47, .tuple #[.int .u32 t252, .bool true])] := hs1.kx; clear hs1
                refine p_last ?_
                refine e_pvs [14, 15, 16, 17, 18] [] [47] [(7, .int .u32 t252), (9, .bool true)] hs ?_; clear hs; intro a hs
                refine e_end ?_
                refine hK57 _ _ ?_
                refine go_sp [9] [(51, .bool false)] hs ?_; clear hs; intro a hs
                refine go_cond hs false (fun hc => ?_) fun hc => ?_
                ·cases hc
                ·skip
                 refine wp_skip ?_
                 refine ib_norm ?_
                 replace hw := hw.up 24
                 replace hw := hw.up 24
                 replace hw := hw.up 24
                 replace hw := hw.up 3
                 replace hw := hw.only 4
                 exact hJ7 ({ (a0 : Sapi_Regs) with H := t253 } : Sapi_Regs) t252 _ _ hs.kx hw H
               ·replace H := ite_f H hk247
                replace hs : Slots a 69 [(2, .pointer (some ad2)), (3, .pointer (some ad6)), (4, .pointer (some ad10)), (6, .pointer (some ad29)), (34, .agg #[.func (.func 57) #[] #[], .func (.func 80) #[] #[.pointer (some (⟨g78, 0, none⟩ : Addr))], .func (.func 80) #[] #[.pointer (some (⟨g74, 0, none⟩ : Addr))], .func (.func 80) #[] #[.pointer (some (⟨g70, 0, none⟩ : Addr))], .func (.func 80) #[] #[.pointer (some (⟨g67, 0, none⟩ : Addr))], .func (.func 80) #[] #[.pointer (some (⟨g65, 0, none⟩ : Addr))], .func (.func 80) #[] #[.pointer (some (⟨g63, 0, none⟩ : Addr))], .func (.func 80) #[] #[.pointer (some (⟨g61, 0, none⟩ : Addr))], .func (.func 62) #[] #[], .func (.func 64) #[] #[], .func (.func 66) #[] #[], .func (.func 68) #[] #[]]), (36, .int .i64 a1.Op), (43, .int .u32 (vx 0 a0.R (a1.B : Int).toNat)), (44, .int .u32 v55), (46, .bool a1.U)] := hs.kx
                by_cases hk261 : a1.Op = 11
                ·replace H := ite_t H hk261
                 replace hs := (congrArg (fun z => Slots a 69 [(2, .pointer (some ad2)), (3, .pointer (some ad6)), (4, .pointer (some ad10)), (6, .pointer (some ad29)), (34, .agg #[.func (.func 57) #[] #[], .func (.func 80) #[] #[.pointer (some (⟨g78, 0, none⟩ : Addr))], .func (.func 80) #[] #[.pointer (some (⟨g74, 0, none⟩ : Addr))], .func (.func 80) #[] #[.pointer (some (⟨g70, 0, none⟩ : Addr))], .func (.func 80) #[] #[.pointer (some (⟨g67, 0, none⟩ : Addr))], .func (.func 80) #[] #[.pointer (some (⟨g65, 0, none⟩ : Addr))], .func (.func 80) #[] #[.pointer (some (⟨g63, 0, none⟩ : Addr))], .func (.func 80) #[] #[.pointer (some (⟨g61, 0, none⟩ : Addr))], .func (.func 62) #[] #[], .func (.func 64) #[] #[], .func (.func 66) #[] #[], .func (.func 68) #[] #[]]), (36, .int .i64 z), (43, .int .u32 (vx 0 a0.R (a1.B : Int).toNat)), (44, .int .u32 v55), (46, .bool a1.U)]) hk261).mp hs
                 replace hs : Slots a 69 [(2, .pointer (some ad2)), (3, .pointer (some ad6)), (4, .pointer (some ad10)), (6, .pointer (some ad29)), (34, .agg #[.func (.func 57) #[] #[], .func (.func 80) #[] #[.pointer (some (⟨g78, 0, none⟩ : Addr))], .func (.func 80) #[] #[.pointer (some (⟨g74, 0, none⟩ : Addr))], .func (.func 80) #[] #[.pointer (some (⟨g70, 0, none⟩ : Addr))], .func (.func 80) #[] #[.pointer (some (⟨g67, 0, none⟩ : Addr))], .func (.func 80) #[] #[.pointer (some (⟨g65, 0, none⟩ : Addr))], .func (.func 80) #[] #[.pointer (some (⟨g63, 0, none⟩ : Addr))], .func (.func 80) #[] #[.pointer (some (⟨g61, 0, none⟩ : Addr))], .func (.func 62) #[] #[], .func (.func 64) #[] #[], .func (.func 66) #[] #[], .func (.func 68) #[] #[]]), (36, .int .i64 11), (43, .int .u32 (vx 0 a0.R (a1.B : Int).toNat)), (44, .int .u32 v55), (46, .bool a1.U)] := hs
                 refine s_pvs [3, 4] [] [34, 36] [(38, .func (.func 68) #[] #[])] hbq hs ?_; clear hs; intro a hs
                 refine s_end ?_
                 refine p_inline_k hs (by rfl) (f := 68) (args := #[.pointer (some ad29), .int .u32 (vx 0 a0.R (a1.B : Int).toNat), .int .u32 v55, .bool a1.U]) (fun KR262 hKR262 => ?_)
                 refine go_fn Try.func68 rfl Try.ntmps68 ?_; clear hs; intro a hs
                 refine go_sp [3] [] hs ?_; clear hs; intro a hs
                 refine go_sk fun K264 hK264 => ?_
                 refine go_pvs 2 [1, 2] [(14, .int .u32 (vx 0 a0.R (a1.B : Int).toNat)), (15, .int .u32 v55)] hs ?_; clear hs; intro a hs
                 obtain ⟨⟨t266, t267, t268⟩, hx269, H⟩ := bind_some H
                 refine go_call hs (by rfl) (word_Div.calls (vx 0 a0.R (a1.B : Int).toNat) v55 (t266, t267, t268) _ hx269) ?_
                 rintro e wd270 ⟨rfl, hw271⟩
                 refine ⟨_, rfl, ?_⟩
                 replace hw := hw.call hw271
                 clear hs; intro a hs; replace hs := hs.rms [14, 15]
                 refine go_pvs 10 [16] [(10, .int .u32 t266), (11, .int .u32 t267), (12, .bool t268)] hs ?_; clear hs; intro a hs
                 refine go_end (hK264 _ _ ?_)
                 refine go_sk fun K272 hK272 => ?_
                 refine go_pvs 4 [0, 11] [(21, .int .u32 t267), (23, .pointer (some ((ad29 : Addr).add 16)))] hs ?_; clear hs; intro a hs
                 replace hw := hw.up 21
                 obtain ⟨wd273, hx274, hw⟩ := x_put (P := Try.prog) (ty := 0) (t := 23) (x := (Operand.tmp 23)) (y := (Operand.tmp 21)) (off := 16) (p := (ad29 : Addr).add 16) (v := .int .u32 t267) (vs := [.int .u32 t267]) (i := 0) (e' := (({ (a0 : Sapi_Regs) with H := t267 } : Sapi_Regs) : Sapi_Regs)) hs hw rfl (one_ok (a0 : Sapi_Regs)).1 (one_ok (a0 : Sapi_Regs)).2 (by kernel_rfl) (one_off _ _ _) (by kernel_rfl) rfl (by kernel_rfl) (Nat.le_of_ble_eq_true rfl) (by simp [Value.oneCell']) (by kernel_rfl)
                 refine go_unit hs (by rfl) hx274 [21, 23] ?_; clear hs; intro a hs
                 replace hw : St [] w0 wd273 [own 26 eSapi_Regs (some ad29) 1 [({ (a0 : Sapi_Regs) with H := t267 } : Sapi_Regs)], box g59 90 [.func (.func 57) #[] #[], .func (.func 80) #[] #[.pointer (some (⟨g78, 0, none⟩ : Addr))], .func (.func 80) #[] #[.pointer (some (⟨g74, 0, none⟩ : Addr))], .func (.func 80) #[] #[.pointer (some (⟨g70, 0, none⟩ : Addr))], .func (.func 80) #[] #[.pointer (some (⟨g67, 0, none⟩ : Addr))], .func (.func 80) #[] #[.pointer (some (⟨g65, 0, none⟩ : Addr))], .func (.func 80) #[] #[.pointer (some (⟨g63, 0, none⟩ : Addr))], .func (.func 80) #[] #[.pointer (some (⟨g61, 0, none⟩ : Addr))], .func (.func 62) #[] #[], .func (.func 64) #[] #[], .func (.func 66) #[] #[], .func (.func 68) #[] #[]], box g60 89 [.func (.func 80) #[] #[.pointer (some (⟨g61, 0, none⟩ : Addr))]], box g61 115 [.func (.func 61) #[] #[]], box g62 89 [.func (.func 80) #[] #[.pointer (some (⟨g63, 0, none⟩ : Addr))]], box g63 115 [.func (.func 60) #[] #[]], box g64 89 [.func (.func 80) #[] #[.pointer (some (⟨g65, 0, none⟩ : Addr))]], box g65 115 [.func (.func 59) #[] #[]], box g66 89 [.func (.func 80) #[] #[.pointer (some (⟨g67, 0, none⟩ : Addr))]], box g67 115 [.func (.func 58) #[] #[]], box g68 89 [.func (.func 80) #[] #[.pointer (some (⟨g70, 0, none⟩ : Addr))]], box g69 89 [.func (.func 80) #[] #[.pointer (some (⟨g70, 0, none⟩ : Addr))]], box g70 115 [.func (.func 55) #[] #[.pointer (some ad71)]], own 3 (eI .i64) (some ad71) 1 [3], box g72 89 [.func (.func 80) #[] #[.pointer (some (⟨g74, 0, none⟩ : Addr))]], box g73 89 [.func (.func 80) #[] #[.pointer (some (⟨g74, 0, none⟩ : Addr))]], box g74 115 [.func (.func 55) #[] #[.pointer (some ad75)]], own 3 (eI .i64) (some ad75) 1 [2], box g76 89 [.func (.func 80) #[] #[.pointer (some (⟨g78, 0, none⟩ : Addr))]], box g77 89 [.func (.func 80) #[] #[.pointer (some (⟨g78, 0, none⟩ : Addr))]], box g78 115 [.func (.func 55) #[] #[.pointer (some ad79)]], own 3 (eI .i64) (some ad79) 1 [1], own 26 eSapi_Regs (some ad10) 1 [(⟨(Vector.replicate 16 0), 0, false, false, false, false⟩ : Sapi_Regs)], own 45 eSapi_Instr (some ad6) 1 [a1], own 26 eSapi_Regs (some ad2) 1 [a0]] := hw
                 refine go_end (hK272 _ _ ?_)
                 refine go_sp [10, 12] [(8, .int .u32 t266), (9, .bool t268)] hs ?_; clear hs; intro a hs
                 refine wp_ret ?_
                 refine ret2 (t1 := 8) (v1 := .int .u32 t266) (t2 := 9) (v2 := .bool t268) hs (by kernel_rfl) (by kernel_rfl) (by kernel_rfl) ?_
                 refine ⟨_, rfl, ?_⟩
                 refine hKR262 _ _ ?_
                 intro a hs1; have hs : Slots a _ [(2, .pointer (some ad2)), (3, .pointer (some ad6)), (4, .pointer (some ad10)), (6, .pointer (some ad29)), (47, .tuple #[.int .u32 t266, .bool t268])] := hs1.kx; clear hs1
                 refine p_last ?_
                 refine e_pvs [14, 15, 16, 17, 18] [] [47] [(7, .int .u32 t266), (9, .bool t268)] hs ?_; clear hs; intro a hs
                 refine e_end ?_
                 refine hK57 _ _ ?_
                 refine go_sp [9] [(51, .bool (!t268))] hs ?_; clear hs; intro a hs
                 refine go_cond hs (!t268) (fun hc => ?_) fun hc => ?_
                 ·replace H := ite_f H (ff (nt hc))
                  have hb277 := hc
                  rw [hb277] at hs
                  refine go_sk fun K278 hK278 => ?_
                  refine go_run hs (by rfl) (x_lds (off := 0) (p := ad2) (cs := (eSapi_Regs.enc a0)) (Rd.of_own (hw.up 24)) (one_ok a0) (one_at _ _)) [2, 3, 6, 7, 51] ?_; clear hs; intro a hs
                  replace hw := hw.up 22
                  obtain ⟨wd279, hx280, hw⟩ := x_put (P := Try.prog) (ty := 0) (t := 26) (x := (Operand.tmp 4)) (y := (Operand.tmp 52)) (off := 0) (p := ad10) (v := .agg (eSapi_Regs.enc a0).toArray) (vs := (eSapi_Regs.enc a0)) (i := 0) (e' := ((a0 : Sapi_Regs) : Sapi_Regs)) hs hw rfl (one_ok (⟨(Vector.replicate 16 0), 0, false, false, false, false⟩ : Sapi_Regs)).1 (one_ok (⟨(Vector.replicate 16 0), 0, false, false, false, false⟩ : Sapi_Regs)).2 (by kernel_rfl) (one_at _ _) (by kernel_rfl) rfl (by kernel_rfl) (Nat.le_of_ble_eq_true rfl) (eSapi_Regs.one _) (by kernel_rfl)
                  refine go_unit hs (by rfl) hx280 [52] ?_; clear hs; intro a hs
                  replace hw : St [] w0 wd279 [own 26 eSapi_Regs (some ad10) 1 [(a0 : Sapi_Regs)], own 26 eSapi_Regs (some ad29) 1 [({ (a0 : Sapi_Regs) with H := t267 } : Sapi_Regs)], box g59 90 [.func (.func 57) #[] #[], .func (.func 80) #[] #[.pointer (some (⟨g78, 0, none⟩ : Addr))], .func (.func 80) #[] #[.pointer (some (⟨g74, 0, none⟩ : Addr))], .func (.func 80) #[] #[.pointer (some (⟨g70, 0, none⟩ : Addr))], .func (.func 80) #[] #[.pointer (some (⟨g67, 0, none⟩ : Addr))], .func (.func 80) #[] #[.pointer (some (⟨g65, 0, none⟩ : Addr))], .func (.func 80) #[] #[.pointer (some (⟨g63, 0, none⟩ : Addr))], .func (.func 80) #[] #[.pointer (some (⟨g61, 0, none⟩ : Addr))], .func (.func 62) #[] #[], .func (.func 64) #[] #[], .func (.func 66) #[] #[], .func (.func 68) #[] #[]], box g60 89 [.func (.func 80) #[] #[.pointer (some (⟨g61, 0, none⟩ : Addr))]], box g61 115 [.func (.func 61) #[] #[]], box g62 89 [.func (.func 80) #[] #[.pointer (some (⟨g63, 0, none⟩ : Addr))]], box g63 115 [.func (.func 60) #[] #[]], box g64 89 [.func (.func 80) #[] #[.pointer (some (⟨g65, 0, none⟩ : Addr))]], box g65 115 [.func (.func 59) #[] #[]], box g66 89 [.func (.func 80) #[] #[.pointer (some (⟨g67, 0, none⟩ : Addr))]], box g67 115 [.func (.func 58) #[] #[]], box g68 89 [.func (.func 80) #[] #[.pointer (some (⟨g70, 0, none⟩ : Addr))]], box g69 89 [.func (.func 80) #[] #[.pointer (some (⟨g70, 0, none⟩ : Addr))]], box g70 115 [.func (.func 55) #[] #[.pointer (some ad71)]], own 3 (eI .i64) (some ad71) 1 [3], box g72 89 [.func (.func 80) #[] #[.pointer (some (⟨g74, 0, none⟩ : Addr))]], box g73 89 [.func (.func 80) #[] #[.pointer (some (⟨g74, 0, none⟩ : Addr))]], box g74 115 [.func (.func 55) #[] #[.pointer (some ad75)]], own 3 (eI .i64) (some ad75) 1 [2], box g76 89 [.func (.func 80) #[] #[.pointer (some (⟨g78, 0, none⟩ : Addr))]], box g77 89 [.func (.func 80) #[] #[.pointer (some (⟨g78, 0, none⟩ : Addr))]], box g78 115 [.func (.func 55) #[] #[.pointer (some ad79)]], own 3 (eI .i64) (some ad79) 1 [1], own 45 eSapi_Instr (some ad6) 1 [a1], own 26 eSapi_Regs (some ad2) 1 [a0]] := hw
                  refine go_pvs 3 [] [(5, .int .i64 5)] hs ?_; clear hs; intro a hs
                  refine go_end (hK278 _ _ ?_)
                  refine wp_ret ?_
                  refine ib_ret ?_
                  refine th_ret ?_
                  obtain rfl := Option.some.inj H
                  replace hs : Slots a 69 [(4, .pointer (some ad10)), (5, .int .i64 5)] := hs.kx
                  refine ret2g (L := [(4, .pointer (some ad10)), (5, .int .i64 5)]) (r1 := .cell 4 26) (v1 := .agg (eSapi_Regs.enc (a0 : Sapi_Regs)).toArray) (r2 := .tmp 5) (v2 := .int .i64 5) hs (by kernel_rfl) ⟨_, (show lk 4 [(4, .pointer (some ad10)), (5, .int .i64 5)] = some (.pointer (some ad10)) by kernel_rfl), lv_row (E := eSapi_Regs) (x := (a0 : Sapi_Regs)) (by kernel_rfl) (by kernel_rfl) (Rd.of_own (hw.up 0))⟩ (show lk 5 [(4, .pointer (some ad10)), (5, .int .i64 5)] = some (.int .i64 5) by kernel_rfl) ?_
                  exact ⟨rfl, hw.only 0⟩
                 ·replace H := ite_t H (nf hc)
                  have hb281 := hc
                  rw [hb281] at hs
                  refine wp_skip ?_
                  refine ib_norm ?_
                  replace hw := hw.up 24
                  replace hw := hw.up 24
                  replace hw := hw.up 24
                  replace hw := hw.up 3
                  replace hw := hw.only 4
                  exact hJ7 ({ (a0 : Sapi_Regs) with H := t267 } : Sapi_Regs) t266 _ _ hs.kx hw H
                ·replace H := ite_f H hk261
                 cases H
    refine go_sk fun K52 hK52 => ?_
    refine go_pvs 1 [] [(27, .pointer (some ((ad6 : Addr).add 0)))] hs ?_; clear hs; intro a hs
    refine go_run hs (by rfl) (x_ld (off := 0) (p := (ad6 : Addr).add 0) (v := .int .i64 a1.Kind) (Rd.of_own (hw.up 2)) (one_ok a1) (one_off _ _ _)) [27] ?_; clear hs; intro a hs
    refine go_pvs 3 [28] [(29, .bool (a1.Kind == 2))] hs ?_; clear hs; intro a hs
    refine go_end (hK52 _ _ ?_)
    refine go_cond hs (a1.Kind == 2) (fun hc => ?_) fun hc => ?_
    ·replace H := ite_t H (beq_iff_eq.1 hc)
     have hb53 := hc
     rw [hb53] at hs
     refine go_region ?_
     refine go_pvs 1 [8, 29] [(30, .pointer (some ((ad6 : Addr).add 5)))] hs ?_; clear hs; intro a hs
     refine go_run hs (by rfl) (x_ld (off := 5) (p := (ad6 : Addr).add 5) (v := .int .i64 a1.Imm) (Rd.of_own (hw.up 2)) (one_ok a1) (one_off _ _ _)) [30] ?_; clear hs; intro a hs
     refine go_pvs 4 [31] [(8, .int .u32 (wu32 a1.Imm))] hs ?_; clear hs; intro a hs
     refine go_end ?_
     replace hw := hw.up 3
     replace hw := hw.up 3
     replace hw := hw.up 3
     replace hw := hw.up 3
     exact hJ3 (wu32 a1.Imm) _ _ hs.kx hw H
    ·replace H := ite_f H (beq_eq_false_iff_ne.1 hc)
     have hb54 := hc
     rw [hb54] at hs
     refine wp_skip ?_
     replace hw := hw.up 3
     replace hw := hw.up 3
     replace hw := hw.up 3
     replace hw := hw.up 3
     exact hJ3 (vx 0 a0.R (a1.C : Int).toNat) _ _ hs.kx hw H
 refine go_seq_k fun K15 hK15 => ?_
 have hJ1 : ∀ (v22 : Bool) (a : Act) (w : World), Slots a 69 [(2, .pointer (some ad2)), (3, .pointer (some ad6)), (4, .pointer (some ad10)), (17, .bool v22)] → St [] w0 w [own 26 eSapi_Regs (some ad10) 1 [(⟨(Vector.replicate 16 0), 0, false, false, false, false⟩ : Sapi_Regs)], own 45 eSapi_Instr (some ad6) 1 [a1], own 26 eSapi_Regs (some ad2) 1 [a0]] → alu_Do.j1 a0 a1 v22 = some r → K15 a w := by
  intro v22 a w hs hw H
  unfold alu_Do.j1 at H
  refine hK15 _ _ ?_
  refine go_cond hs v22 (fun hc => ?_) fun hc => ?_
  ·replace H := ite_t H hc
   have hb23 := hc
   rw [hb23] at hs
   refine go_sk fun K24 hK24 => ?_
   refine go_run hs (by rfl) (x_lds (off := 0) (p := ad2) (cs := (eSapi_Regs.enc a0)) (Rd.of_own (hw.up 2)) (one_ok a0) (one_at _ _)) [2, 3, 17] ?_; clear hs; intro a hs
   obtain ⟨wd25, hx26, hw⟩ := x_put (P := Try.prog) (ty := 0) (t := 26) (x := (Operand.tmp 4)) (y := (Operand.tmp 18)) (off := 0) (p := ad10) (v := .agg (eSapi_Regs.enc a0).toArray) (vs := (eSapi_Regs.enc a0)) (i := 0) (e' := ((a0 : Sapi_Regs) : Sapi_Regs)) hs hw rfl (one_ok (⟨(Vector.replicate 16 0), 0, false, false, false, false⟩ : Sapi_Regs)).1 (one_ok (⟨(Vector.replicate 16 0), 0, false, false, false, false⟩ : Sapi_Regs)).2 (by kernel_rfl) (one_at _ _) (by kernel_rfl) rfl (by kernel_rfl) (Nat.le_of_ble_eq_true rfl) (eSapi_Regs.one _) (by kernel_rfl)
   refine go_unit hs (by rfl) hx26 [18] ?_; clear hs; intro a hs
   replace hw : St [] w0 wd25 [own 26 eSapi_Regs (some ad10) 1 [(a0 : Sapi_Regs)], own 45 eSapi_Instr (some ad6) 1 [a1], own 26 eSapi_Regs (some ad2) 1 [a0]] := hw
   refine go_pvs 3 [] [(5, .int .i64 0)] hs ?_; clear hs; intro a hs
   refine go_end (hK24 _ _ ?_)
   refine wp_ret ?_
   refine th_ret ?_
   obtain rfl := Option.some.inj H
   replace hs : Slots a 69 [(4, .pointer (some ad10)), (5, .int .i64 0)] := hs.kx
   refine ret2g (L := [(4, .pointer (some ad10)), (5, .int .i64 0)]) (r1 := .cell 4 26) (v1 := .agg (eSapi_Regs.enc (a0 : Sapi_Regs)).toArray) (r2 := .tmp 5) (v2 := .int .i64 0) hs (by kernel_rfl) ⟨_, (show lk 4 [(4, .pointer (some ad10)), (5, .int .i64 0)] = some (.pointer (some ad10)) by kernel_rfl), lv_row (E := eSapi_Regs) (x := (a0 : Sapi_Regs)) (by kernel_rfl) (by kernel_rfl) (Rd.of_own (hw.up 0))⟩ (show lk 5 [(4, .pointer (some ad10)), (5, .int .i64 0)] = some (.int .i64 0) by kernel_rfl) ?_
   exact ⟨rfl, hw.only 0⟩
  ·replace H := ite_f H (ff hc)
   have hb27 := hc
   rw [hb27] at hs
   refine wp_skip ?_
   replace hw := hw.up 2
   replace hw := hw.up 2
   replace hw := hw.up 2
   exact hJ2 _ _ hs.kx hw H
 refine go_region ?_
 refine go_run hs (by rfl) (x_lds (off := 0) (p := ad6) (cs := (eSapi_Instr.enc a1)) (Rd.of_own (hw.up 1)) (one_ok a1) (one_at _ _)) [] ?_; clear hs; intro a hs
 obtain ⟨t17, hx18, H⟩ := bind_some H
 refine go_call hs (by rfl) (isa_May.calls a1 t17 _ hx18) ?_
 rintro e wd19 ⟨rfl, hw20⟩
 refine ⟨_, rfl, ?_⟩
 replace hw := hw.call hw20
 clear hs; intro a hs; replace hs := hs.rms [10]
 refine go_pvs 4 [11] [(13, .bool (!t17))] hs ?_; clear hs; intro a hs
 cases hb21 : (!t17)
 ·replace H := ite_t H (nf hb21)
  rw [hb21] at hs
  refine go_pvs 5 [] [(14, .pointer (some ((ad6 : Addr).add 0)))] hs ?_; clear hs; intro a hs
  refine go_run hs (by rfl) (x_ld (off := 0) (p := (ad6 : Addr).add 0) (v := .int .i64 a1.Kind) (Rd.of_own (hw.up 1)) (one_ok a1) (one_off _ _ _)) [14] ?_; clear hs; intro a hs
  refine go_pvs 8 [13, 15] [(17, .bool (decide (a1.Kind ≥ 5)))] hs ?_; clear hs; intro a hs
  refine go_end ?_
  replace hw := hw.up 2
  replace hw := hw.up 2
  replace hw := hw.up 2
  exact hJ1 (decide (a1.Kind ≥ 5)) _ _ hs.kx hw H
 ·replace H := ite_f H (ff (nt hb21))
  rw [hb21] at hs
  refine go_pvs 8 [13] [(17, .bool true)] hs ?_; clear hs; intro a hs
  refine go_end ?_
  replace hw := hw.up 2
  replace hw := hw.up 2
  replace hw := hw.up 2
  exact hJ1 true _ _ hs.kx hw H

/-! rivet/rivetref02.Fits: function 71 -/
noncomputable def rivetref02_Fits.j1 (v7 : Bool) : Option Bool := some v7
noncomputable def rivetref02_Fits (a0 : Int) (a1 : Int) : Option Bool := (if 0 ≤ (w64 ((mnn (mxx a1 1) 32) - 1)) then (if a0 ≥ (shl .i64 (-1) (w64 ((mnn (mxx a1 1) 32) - 1))) then (if 0 ≤ (w64 ((mnn (mxx a1 1) 32) - 1)) then rivetref02_Fits.j1 (decide (a0 < (shl .i64 1 (w64 ((mnn (mxx a1 1) 32) - 1))))) else none) else rivetref02_Fits.j1 false) else none)
set_option maxRecDepth 100000 in
set_option maxHeartbeats 4000000 in
theorem rivetref02_Fits.calls (a0 : Int) (a1 : Int) (r : Bool) (w0 : World) (H : rivetref02_Fits a0 a1 = some r) :
    Calls Try.prog 71 #[.int .i64 a0, .int .i64 a1] w0 fun e w' => e = .returned (.bool r) ∧ St [] w0 w' [] := by
 have hw : St [] w0 w0 [] := St.nil w0
 unfold rivetref02_Fits at H
 refine go_fn Try.func71 rfl Try.ntmps71 ?_; intro a hs
 refine go_sp [] [] hs ?_; clear hs; intro a hs
 refine go_sp [1] [(5, .int .i64 (mnn (mxx a1 1) 32))] hs ?_; clear hs; intro a hs
 refine go_seq_k fun K3 hK3 => ?_
 have hJ1 : ∀ (v7 : Bool) (a : Act) (w : World), Slots a 21 [(4, .bool v7)] → St [] w0 w [] → rivetref02_Fits.j1 v7 = some r → K3 a w := by
  intro v7 a w hs hw H
  unfold rivetref02_Fits.j1 at H
  refine hK3 _ _ ?_
  refine wp_ret ?_
  obtain rfl := Option.some.inj H
  refine ret1 (t := 4) (v := .bool v7) hs (by kernel_rfl) (by kernel_rfl) ?_
  exact ⟨rfl, hw.only 0⟩
 refine go_region ?_
 refine go_pvs 3 [] [(9, .int .i64 a0), (11, .int .i64 (w64 ((mnn (mxx a1 1) 32) - 1)))] hs ?_; clear hs; intro a hs
 obtain ⟨hp4, H⟩ := ite_only H
 refine go_run hs (by rfl) (x_shl (k := .i64) (k' := .i64) (m := (-1)) (n := w64 ((mnn (mxx a1 1) 32) - 1)) (by kernel_rfl) (by kernel_rfl) hp4) [11] ?_; clear hs; intro a hs
 refine go_pvs 6 [9, 12] [(14, .bool (decide (a0 ≥ (shl .i64 (-1) (w64 ((mnn (mxx a1 1) 32) - 1))))))] hs ?_; clear hs; intro a hs
 cases hb5 : (decide (a0 ≥ (shl .i64 (-1) (w64 ((mnn (mxx a1 1) 32) - 1)))))
 ·replace H := ite_f H (of_decide_eq_false hb5)
  rw [hb5] at hs
  refine go_pvs 13 [0, 5, 14] [(4, .bool false)] hs ?_; clear hs; intro a hs
  refine go_end ?_
  exact hJ1 false _ _ hs.kx hw H
 ·replace H := ite_t H (of_decide_eq_true hb5)
  rw [hb5] at hs
  refine go_pvs 9 [0, 5] [(15, .int .i64 a0), (17, .int .i64 (w64 ((mnn (mxx a1 1) 32) - 1)))] hs ?_; clear hs; intro a hs
  obtain ⟨hp6, H⟩ := ite_only H
  refine go_run hs (by rfl) (x_shl (k := .i64) (k' := .i64) (m := 1) (n := w64 ((mnn (mxx a1 1) 32) - 1)) (by kernel_rfl) (by kernel_rfl) hp6) [17] ?_; clear hs; intro a hs
  refine go_pvs 13 [14, 15, 18] [(4, .bool (decide (a0 < (shl .i64 1 (w64 ((mnn (mxx a1 1) 32) - 1))))))] hs ?_; clear hs; intro a hs
  refine go_end ?_
  exact hJ1 (decide (a0 < (shl .i64 1 (w64 ((mnn (mxx a1 1) 32) - 1))))) _ _ hs.kx hw H

/-! rivet/rivetref03.reg: function 70 -/
noncomputable def rivetref03_reg.j1 (v4 : Bool) : Option Bool := some v4
noncomputable def rivetref03_reg (a0 : Int) : Option Bool := (if a0 ≥ 0 then rivetref03_reg.j1 (decide (a0 ≤ 15)) else rivetref03_reg.j1 false)
set_option maxRecDepth 100000 in
set_option maxHeartbeats 4000000 in
theorem rivetref03_reg.calls (a0 : Int) (r : Bool) (w0 : World) (H : rivetref03_reg a0 = some r) :
    Calls Try.prog 70 #[.int .i64 a0] w0 fun e w' => e = .returned (.bool r) ∧ St [] w0 w' [] := by
 have hw : St [] w0 w0 [] := St.nil w0
 unfold rivetref03_reg at H
 refine go_fn Try.func70 rfl Try.ntmps70 ?_; intro a hs
 refine go_sp [] [] hs ?_; clear hs; intro a hs
 refine go_seq_k fun K2 hK2 => ?_
 have hJ1 : ∀ (v4 : Bool) (a : Act) (w : World), Slots a 9 [(2, .bool v4)] → St [] w0 w [] → rivetref03_reg.j1 v4 = some r → K2 a w := by
  intro v4 a w hs hw H
  unfold rivetref03_reg.j1 at H
  refine hK2 _ _ ?_
  refine wp_ret ?_
  obtain rfl := Option.some.inj H
  refine ret1 (t := 2) (v := .bool v4) hs (by kernel_rfl) (by kernel_rfl) ?_
  exact ⟨rfl, hw.only 0⟩
 refine go_region ?_
 refine go_pvs 3 [] [(5, .bool (decide (a0 ≥ 0)))] hs ?_; clear hs; intro a hs
 cases hb3 : (decide (a0 ≥ 0))
 ·replace H := ite_f H (of_decide_eq_false hb3)
  rw [hb3] at hs
  refine go_pvs 7 [0, 5] [(2, .bool false)] hs ?_; clear hs; intro a hs
  refine go_end ?_
  exact hJ1 false _ _ hs.kx hw H
 ·replace H := ite_t H (of_decide_eq_true hb3)
  rw [hb3] at hs
  refine go_pvs 7 [0, 5] [(2, .bool (decide (a0 ≤ 15)))] hs ?_; clear hs; intro a hs
  refine go_end ?_
  exact hJ1 (decide (a0 ≤ 15)) _ _ hs.kx hw H

end Go.Proofs.Ytheccnbamcdpmaa.T06
