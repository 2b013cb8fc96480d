/- YtheccnbamcdpmaaT06: Go functions told as plain ones, each with a proof that its call comes to what is told, part 4. Condition of each: that the plain function comes to a value. -/
import Derived.Test.YtheccnbamcdpmaaT06c
namespace Go.Proofs.Ytheccnbamcdpmaa.T06
open Go Go.RowKit Go.Proofs.Ytheccnbamcdpmaa.E
set_option linter.unusedVariables false
set_option linter.unusedSimpArgs false

/-! (*rivet/memory.Memory).Place: function 22 -/
noncomputable def memory_Memory_Place.j2 (a1 : Int) (x0 : Smemory_Memory) (l2 : List Int) : Option (Int × Smemory_Memory) := (if 0 ≤ a1 ∧ a1 ≤ x0.n ∧ x0.n ≤ ((4096 : Nat) : Int) then some (0, { x0 with w := vcopy x0.w a1.toNat (l2.take ((x0.w.toList.take x0.n.toNat).drop a1.toNat).length) }) else none)
noncomputable def memory_Memory_Place.j1 (x0 : Smemory_Memory) (a1 : Int) (l2 : List Int) (v7 : Bool) : Option (Int × Smemory_Memory) := (if v7 = true then some (11, x0) else memory_Memory_Place.j2 a1 x0 l2)
noncomputable def memory_Memory_Place (x0 : Smemory_Memory) (a1 : Int) (l2 : List Int) : Option (Int × Smemory_Memory) := (if a1 < 0 then memory_Memory_Place.j1 x0 a1 l2 true else (if a1 > x0.n then memory_Memory_Place.j1 x0 a1 l2 true else memory_Memory_Place.j1 x0 a1 l2 (decide ((l2.length : Int) > (w64 (x0.n - a1))))))
set_option maxRecDepth 100000 in
set_option maxHeartbeats 4000000 in
theorem memory_Memory_Place.calls (ks0 : List Nat) (A0 : Option Addr) (x0 : Smemory_Memory) (a1 : Int) (A2 : Option Addr) (c2 : Nat) (l2 : List Int) (r : Int × Smemory_Memory) (w0 : World) (hw : St ks0 w0 w0 [mSmemory_Memory A0 x0]) (hr2 : ∀ w', Kp ks0 w0 w' → Rd w' (eI .u32) A2 c2 l2) (H : memory_Memory_Place x0 a1 l2 = some r) :
    Calls Try.prog 22 #[.pointer A0, .int .i64 a1, .slice A2 l2.length c2] w0 fun e w' => e = .returned (.int .i64 r.1) ∧ St ks0 w0 w' [mSmemory_Memory A0 r.2] := by
 unfold memory_Memory_Place at H
 refine go_fn Try.func22 rfl Try.ntmps22 ?_; intro a hs
 obtain ⟨g1, hAg, hwg⟩ := St.one hw
 clear hw; subst hAg; have hw := hwg; clear hwg
 refine go_sp [] [(0, .pointer (some (⟨g1, 0, none⟩ : Addr)))] hs ?_; clear hs; intro a hs
 refine go_seq_k fun K3 hK3 => ?_
 have hJ2 : ∀ (a : Act) (w : World), Slots a 39 [(0, .pointer (some (⟨g1, 0, none⟩ : Addr))), (1, .int .i64 a1), (2, .slice A2 l2.length c2)] → St ks0 w0 w [own 75 eSmemory_Memory (some (⟨g1, 0, none⟩ : Addr)) 1 [x0]] → memory_Memory_Place.j2 a1 x0 l2 = some r → K3 a w := by
  intro a w hs hw H
  unfold memory_Memory_Place.j2 at H
  refine hK3 _ _ ?_
  refine go_seq_k fun K11 hK11 => ?_
  refine d_region [10] [(true, [0, 1, 2, 3, 4, 5, 6, 7, 8, 9], 10)] [] (by kernel_rfl) (by kernel_rfl) (fun c a d v w h => by cases d <;> exact h) ?_
  refine d_seg ?_
  refine c_pvs [0, 1, 2, 3, 4, 5, 6] [7, 8, 9] [0, 1] [(30, .pointer (some (((⟨g1, 0, none⟩ : Addr) : Addr).add 0))), (31, .int .i64 a1), (34, .pointer (some (((⟨g1, 0, none⟩ : Addr) : Addr).add 4096)))] hs ?_; clear hs; intro a hs
  refine d_run hs (by rfl) (fun wx hbx => (x_ld (off := 4096) (p := ((⟨g1, 0, none⟩ : Addr) : Addr).add 4096) (v := .int .i64 x0.n) (Rd.bn (Rd.of_own (hw.up 0)) hbx) (one_ok x0) (one_off _ _ _) (hv := ((vafter (cs := eSmemory_Memory.enc x0) (pre := []) (post := [.int .i64 x0.n]) (f := (fun j : Nat => .int .u32 (vx 0 x0.w j))) (n := 4096) (o := 4096) (j := 0) (by rw [List.nil_append, ← vec_range 0 x0.w (Value.int .u32)]; rfl) rfl).trans (by kernel_rfl))))) [34] ?_; clear hs; intro a hs
  obtain ⟨hp12, H⟩ := ite_only H
  replace hs : Slots a 39 [(2, .slice A2 l2.length c2), (30, .pointer (some (((⟨g1, 0, none⟩ : Addr) : Addr).add 0))), (31, .int .i64 a1), (35, .int .i64 x0.n)] := hs.kx
  obtain ⟨Aa13, cc14, hx15, hc16, hA17, hF18⟩ := x_vcut (P := Try.prog) (ty := 22) (E := eSmemory_Memory) (t := 73) (e := 23) (y := (Operand.tmp 30)) (p := ((⟨g1, 0, none⟩ : Addr) : Addr).add 0) (n := 4096) (o := 0) (k := .u32) (l := a1) (h := x0.n) (lo := (some (Operand.tmp 31))) (hi := (some (Operand.tmp 35))) (x := x0) (v := x0.w) (pre := []) (post := [.int .i64 x0.n]) hs (by kernel_rfl) (by kernel_rfl) (by kernel_rfl) (one_off _ _ _) (.inl ⟨_, _, rfl, (by exact (show evD [(2, .slice A2 l2.length c2), (30, .pointer (some (((⟨g1, 0, none⟩ : Addr) : Addr).add 0))), (31, .int .i64 a1), (35, .int .i64 x0.n)] (Operand.tmp 31) = .int .i64 a1 by kernel_rfl))⟩) (.inl ⟨_, _, rfl, (by exact (show evD [(2, .slice A2 l2.length c2), (30, .pointer (some (((⟨g1, 0, none⟩ : Addr) : Addr).add 0))), (31, .int .i64 a1), (35, .int .i64 x0.n)] (Operand.tmp 35) = .int .i64 x0.n by kernel_rfl))⟩) hp12.1 hp12.2.1 hp12.2.2 rfl rfl
  refine d_run hs (by rfl) (fun wx hbx => (hx15 wx)) [30, 31, 35] ?_; clear hs; intro a hs
  refine c_pvs [9] [] [2] [(37, .slice A2 l2.length c2)] hs ?_; clear hs; intro a hs
  refine c_end ?_
  intro wq hbq
  replace hw := hw.behind hbq
  have hsrc20 : Rd _ (eI .u32) A2 c2 l2 := (hr2 _ hw.kp)
  obtain ⟨wd21, hx22, hw⟩ := x_copyv0 (P := Try.prog) (dT := 22) (sT := 22) (e := 23) (y := (Operand.tmp 36)) (z := (Operand.tmp 37)) (ty := 3) (x' := ({ x0 with w := vcopy x0.w a1.toNat (l2.take ((x0.w.toList.take x0.n.toNat).drop a1.toNat).length) } : Smemory_Memory)) (v := x0.w) (post := [.int .i64 x0.n]) (A' := Aa13) (len := ((x0.w.toList.take x0.n.toNat).drop a1.toNat).length) (dcap := cc14) hs hw (by kernel_rfl) (by kernel_rfl) (by kernel_rfl) hA17 hF18 (by kernel_rfl) hsrc20 (eSmemory_Memory_is _) (eSmemory_Memory_is _)
  refine p_run hs (by rfl) hx22 [36, 37, 38] ?_; clear hs; intro a hs
  refine c_done ⟨.inl (by kernel_rfl), ?_⟩
  clear hbq
  refine d_last ?_
  refine c_end ?_
  intro wq hbq
  replace hw := hw.behind hbq
  refine hK11 _ _ ?_
  refine go_sp [] [(6, .int .i64 0)] hs ?_; clear hs; intro a hs
  refine wp_ret ?_
  obtain rfl := Option.some.inj H
  refine ret1 (t := 6) (v := .int .i64 0) hs (by kernel_rfl) (by kernel_rfl) ?_
  exact ⟨rfl, hw.only 1⟩
 refine go_seq_k fun K4 hK4 => ?_
 have hJ1 : ∀ (v7 : Bool) (a : Act) (w : World), Slots a 39 [(0, .pointer (some (⟨g1, 0, none⟩ : Addr))), (1, .int .i64 a1), (2, .slice A2 l2.length c2), (27, .bool v7)] → St ks0 w0 w [own 75 eSmemory_Memory (some (⟨g1, 0, none⟩ : Addr)) 1 [x0]] → memory_Memory_Place.j1 x0 a1 l2 v7 = some r → K4 a w := by
  intro v7 a w hs hw H
  unfold memory_Memory_Place.j1 at H
  refine hK4 _ _ ?_
  refine go_cond hs v7 (fun hc => ?_) fun hc => ?_
  ·replace H := ite_t H hc
   have hb8 := hc
   rw [hb8] at hs
   refine go_sp [0, 1, 2, 27] [(6, .int .i64 11)] hs ?_; clear hs; intro a hs
   refine wp_ret ?_
   refine th_ret ?_
   obtain rfl := Option.some.inj H
   refine ret1 (t := 6) (v := .int .i64 11) hs (by kernel_rfl) (by kernel_rfl) ?_
   exact ⟨rfl, hw.only 1⟩
  ·replace H := ite_f H (ff hc)
   have hb10 := hc
   rw [hb10] at hs
   refine wp_skip ?_
   exact hJ2 _ _ hs.kx hw H
 refine go_region ?_
 refine go_pvs 3 [] [(9, .bool (decide (a1 < 0)))] hs ?_; clear hs; intro a hs
 cases hb5 : (decide (a1 < 0))
 ·replace H := ite_f H (of_decide_eq_false hb5)
  rw [hb5] at hs
  refine go_pvs 7 [] [(10, .int .i64 a1), (13, .pointer (some (((⟨g1, 0, none⟩ : Addr) : Addr).add 4096)))] hs ?_; clear hs; intro a hs
  refine go_run hs (by rfl) (x_ld (off := 4096) (p := ((⟨g1, 0, none⟩ : Addr) : Addr).add 4096) (v := .int .i64 x0.n) (Rd.of_own (hw.up 0)) (one_ok x0) (one_off _ _ _) (hv := ((vafter (cs := eSmemory_Memory.enc x0) (pre := []) (post := [.int .i64 x0.n]) (f := (fun j : Nat => .int .u32 (vx 0 x0.w j))) (n := 4096) (o := 4096) (j := 0) (by rw [List.nil_append, ← vec_range 0 x0.w (Value.int .u32)]; rfl) rfl).trans (by kernel_rfl)))) [13] ?_; clear hs; intro a hs
  refine go_pvs 11 [9, 10, 14] [(17, .bool (decide (a1 > x0.n)))] hs ?_; clear hs; intro a hs
  cases hb6 : (decide (a1 > x0.n))
  ·replace H := ite_f H (of_decide_eq_false hb6)
   rw [hb6] at hs
   refine go_pvs 16 [] [(19, .int .i64 (l2.length : Int)), (22, .pointer (some (((⟨g1, 0, none⟩ : Addr) : Addr).add 4096)))] hs ?_; clear hs; intro a hs
   refine go_run hs (by rfl) (x_ld (off := 4096) (p := ((⟨g1, 0, none⟩ : Addr) : Addr).add 4096) (v := .int .i64 x0.n) (Rd.of_own (hw.up 0)) (one_ok x0) (one_off _ _ _) (hv := ((vafter (cs := eSmemory_Memory.enc x0) (pre := []) (post := [.int .i64 x0.n]) (f := (fun j : Nat => .int .u32 (vx 0 x0.w j))) (n := 4096) (o := 4096) (j := 0) (by rw [List.nil_append, ← vec_range 0 x0.w (Value.int .u32)]; rfl) rfl).trans (by kernel_rfl)))) [22] ?_; clear hs; intro a hs
   refine go_pvs 21 [17, 19, 23] [(27, .bool (decide ((l2.length : Int) > (w64 (x0.n - a1)))))] hs ?_; clear hs; intro a hs
   refine go_end ?_
   exact hJ1 (decide ((l2.length : Int) > (w64 (x0.n - a1)))) _ _ hs.kx hw H
  ·replace H := ite_t H (of_decide_eq_true hb6)
   rw [hb6] at hs
   refine go_pvs 21 [17] [(27, .bool true)] hs ?_; clear hs; intro a hs
   refine go_end ?_
   exact hJ1 true _ _ hs.kx hw H
 ·replace H := ite_t H (of_decide_eq_true hb5)
  rw [hb5] at hs
  refine go_pvs 21 [9] [(27, .bool true)] hs ?_; clear hs; intro a hs
  refine go_end ?_
  exact hJ1 true _ _ hs.kx hw H

/-! (*rivet/memory.Memory).Words: function 14 -/
noncomputable def memory_Memory_Words (x0 : Smemory_Memory) : Option (List Int) := (if 0 ≤ (0 : Int) ∧ (0 : Int) ≤ x0.n ∧ x0.n ≤ ((4096 : Nat) : Int) then ((slices_Clone_uint32_uint32 ((x0.w.toList.take x0.n.toNat).drop (0 : Int).toNat)).bind fun t14 => (some t14)) else none)
set_option maxRecDepth 100000 in
set_option maxHeartbeats 4000000 in
theorem memory_Memory_Words.calls (A0 : Option Addr) (x0 : Smemory_Memory) (r : (List Int)) (w0 : World) (hr0 : rSmemory_Memory w0 A0 x0) (H : memory_Memory_Words x0 = some r) :
    Calls Try.prog 14 #[.pointer A0] w0 fun e w' => ∃ A_0 c_0, e = .returned (.slice A_0 r.length c_0) ∧ St [] w0 w' [own 23 (eI .u32) A_0 c_0 r] := by
 have hw : St [] w0 w0 [] := St.nil w0
 unfold memory_Memory_Words at H
 refine go_fn Try.func14 rfl Try.ntmps14 ?_; intro a hs
 obtain ⟨ad1, hAg⟩ := Rd.one hr0; subst hAg
 have hr2 : Rd w0 eSmemory_Memory (some ad1) 1 [x0] := hr0
 refine go_sp [] [(0, .pointer (some ad1))] hs ?_; clear hs; intro a hs
 refine go_seq_k fun K4 hK4 => ?_
 refine c_region [(true, [0, 1, 2, 3, 4, 5, 6, 7], 8)] [9] (by kernel_rfl) (by kernel_rfl) (fun c a d v w h => by cases d <;> exact h) ?_
 refine c_seg ?_
 refine c_pvs [0, 1, 2, 3, 4, 5] [6, 7] [0] [(5, .pointer (some ((ad1 : Addr).add 0))), (8, .pointer (some ((ad1 : Addr).add 4096)))] hs ?_; clear hs; intro a hs
 refine c_run hs (by rfl) (fun wx hbx => (x_ld (off := 4096) (p := (ad1 : Addr).add 4096) (v := .int .i64 x0.n) ((hr2.old hw).below hbx) (one_ok x0) (one_off _ _ _) (hv := ((vafter (cs := eSmemory_Memory.enc x0) (pre := []) (post := [.int .i64 x0.n]) (f := (fun j : Nat => .int .u32 (vx 0 x0.w j))) (n := 4096) (o := 4096) (j := 0) (by rw [List.nil_append, ← vec_range 0 x0.w (Value.int .u32)]; rfl) rfl).trans (by kernel_rfl))))) [8] ?_; clear hs; intro a hs
 obtain ⟨hp5, H⟩ := ite_only H
 replace hs : Slots a 12 [(5, .pointer (some ((ad1 : Addr).add 0))), (9, .int .i64 x0.n)] := hs.kx
 obtain ⟨Aa6, cc7, hx8, hc9, hA10, hF11⟩ := x_vcut (P := Try.prog) (ty := 22) (E := eSmemory_Memory) (t := 73) (e := 23) (y := (Operand.tmp 5)) (p := (ad1 : Addr).add 0) (n := 4096) (o := 0) (k := .u32) (l := (0 : Int)) (h := x0.n) (lo := none) (hi := (some (Operand.tmp 9))) (x := x0) (v := x0.w) (pre := []) (post := [.int .i64 x0.n]) hs (by kernel_rfl) (by kernel_rfl) (by kernel_rfl) (one_off _ _ _) (.inr ⟨rfl, rfl⟩) (.inl ⟨_, _, rfl, (by exact (show evD [(5, .pointer (some ((ad1 : Addr).add 0))), (9, .int .i64 x0.n)] (Operand.tmp 9) = .int .i64 x0.n by kernel_rfl))⟩) hp5.1 hp5.2.1 hp5.2.2 rfl rfl
 refine c_run hs (by rfl) (fun wx hbx => (hx8 wx)) [5, 9] ?_; clear hs; intro a hs
 refine c_end ?_
 intro wq hbq
 replace hw := hw.behind hbq
 have hbc := Below.refl wq.heap.size wq
 obtain ⟨t14, hx15, H⟩ := bind_some H
 refine p_call hs (by rfl) (slices_Clone_uint32_uint32.calls Aa6 cc7 ((x0.w.toList.take x0.n.toNat).drop (0 : Int).toNat) t14 _ (hc9 _ (hr2.old hw)) hx15) ?_
 rintro e wd18 ⟨Aa16, cc17, rfl, hw19⟩
 refine ⟨_, rfl, ?_⟩
 replace hbc := hw19.below
 replace hw := hw.call hw19
 clear hs; intro a hs; replace hs := hs.rms [10]
 refine c_done ⟨bl_of hbq hbc, ?_⟩
 clear hbc hbq
 refine c_last ?_
 refine c_pvs [9] [] [11] [(2, .slice Aa16 t14.length cc17)] hs ?_; clear hs; intro a hs
 refine c_end ?_
 intro wq hbq
 replace hw := hw.behind hbq
 refine hK4 _ _ ?_
 refine wp_ret ?_
 obtain rfl := Option.some.inj H
 refine ret1 (t := 2) (v := .slice Aa16 t14.length cc17) hs (by kernel_rfl) (by kernel_rfl) ?_
 exact ⟨Aa16, cc17, rfl, hw.only 1⟩

/-! (*rivet/rivetref05.Memory).set: function 43 -/
noncomputable def rivetref05_Memory_set.j1 (l21 : List Int) : Option Srivetref05_Memory := some (⟨l21⟩ : Srivetref05_Memory)
noncomputable def rivetref05_Memory_set.b7 (a1 : Int) (l8 : List Int) (v9 : Int) (v10 : Int) : Option ((List Int) × Int × Int ⊕ (List Int)) := (if v10 < 4 then (if 0 ≤ (w64 ((w64 (4 * a1)) + v10)) ∧ (w64 ((w64 (4 * a1)) + v10)) < (l8.length : Int) then some (.inl (l8.set ((w64 ((w64 (4 * a1)) + v10)) : Int).toNat (wu8 (v9.tmod 256)), wu32 (v9.tdiv 256), w64 (v10 + 1))) else none) else some (.inr l8))
noncomputable def rivetref05_Memory_set (x0 : Srivetref05_Memory) (a1 : Int) (a2 : Int) : Option Srivetref05_Memory := ((loopO (fun (σ : (List Int) × Int × Int) => rivetref05_Memory_set.b7 a1 σ.1 σ.2.1 σ.2.2) (x0.B, a2, 0)).bind fun e => rivetref05_Memory_set.j1 e)
set_option maxRecDepth 100000 in
set_option maxHeartbeats 4000000 in
theorem rivetref05_Memory_set.calls (ks0 : List Nat) (A0 : Option Addr) (x0 : Srivetref05_Memory) (a1 : Int) (a2 : Int) (r : Srivetref05_Memory) (w0 : World) (hw : St ks0 w0 w0 [mSrivetref05_Memory A0 x0]) (H : rivetref05_Memory_set x0 a1 a2 = some r) :
    Calls Try.prog 43 #[.pointer A0, .int .i64 a1, .int .u32 a2] w0 fun e w' => e = .returned (.tuple #[]) ∧ St ks0 w0 w' [mSrivetref05_Memory A0 r] := by
 unfold rivetref05_Memory_set at H
 refine go_fn Try.func43 rfl Try.ntmps43 ?_; intro a hs
 obtain ⟨g1, Aa2, cc3, hAg, hwg⟩ := mSrivetref05_Memory.open hw
 clear hw; subst hAg; have hw := hwg; clear hwg
 replace hw : St ks0 w0 _ [box g1 99 [.slice Aa2 x0.B.length cc3], own 5 (eI .u8) Aa2 cc3 x0.B] := hw
 refine go_sp [] [(0, .pointer (some (⟨g1, 0, none⟩ : Addr))), (6, .int .i64 0)] hs ?_; clear hs; intro a hs
 refine name_k fun K6 hK6 => ?_
 refine wp_block ?_
 obtain ⟨e7, hl7, HX7⟩ := bind_some H
 have hJ1 : ∀ (l21 : List Int) (a : Act) (w : World), Slots a 25 [] → St ks0 w0 w [box g1 99 [.slice Aa2 l21.length cc3], own 5 (eI .u8) Aa2 cc3 l21] → rivetref05_Memory_set.j1 l21 = some r → K6 a w := by
  intro l21 a w hs hw H
  unfold rivetref05_Memory_set.j1 at H
  refine hK6 _ _ ?_
  obtain rfl := Option.some.inj H
  replace hw := hw.up 1
  replace hw := hw.up 1
  replace hw := mSrivetref05_Memory.close (x := (⟨l21⟩ : Srivetref05_Memory)) hw
  refine end0 hs (by kernel_rfl) ?_
  exact ⟨rfl, hw.only 1⟩
 clear H
 refine go_loop (σ := (List Int) × Int × Int) (fun σ a w => Slots a 25 [(0, .pointer (some (⟨g1, 0, none⟩ : Addr))), (1, .int .i64 a1), (2, .int .u32 σ.2.1), (6, .int .i64 σ.2.2)] ∧ St ks0 w0 w [box g1 99 [.slice Aa2 σ.1.length cc3], own 5 (eI .u8) Aa2 cc3 σ.1]) hl7 (by exact ⟨hs.kx, hw⟩) ?_
 rintro ⟨l8, v9, v10⟩ a w ⟨hs, hw⟩ o H hr7
 replace hs : Slots a 25 [(0, .pointer (some (⟨g1, 0, none⟩ : Addr))), (1, .int .i64 a1), (2, .int .u32 v9), (6, .int .i64 v10)] := hs
 replace hw : St ks0 w0 w [box g1 99 [.slice Aa2 l8.length cc3], own 5 (eI .u8) Aa2 cc3 l8] := hw
 replace H : rivetref05_Memory_set.b7 a1 l8 v9 v10 = some o := H
 unfold rivetref05_Memory_set.b7 at H
 refine go_seq_k fun K11 hK11 => ?_
 refine go_sp [] [(8, .bool (decide (v10 < 4)))] hs ?_; clear hs; intro a hs
 refine go_cond hs (decide (v10 < 4)) (fun hc => ?_) fun hc => ?_
 ·replace H := ite_t H (of_decide_eq_true hc)
  have hb13 := hc
  rw [hb13] at hs
  refine wp_skip ?_
  refine hK11 _ _ ?_
  refine go_seq_k fun K14 hK14 => ?_
  refine wp_block ?_
  refine go_sk fun K15 hK15 => ?_
  refine go_pvs 3 [8] [(13, .pointer (some (⟨g1, 0, none⟩ : Addr)))] hs ?_; clear hs; intro a hs
  refine go_run hs (by rfl) (x_bld (g := g1) (o := 0) (p := (⟨g1, 0, none⟩ : Addr)) (v := .slice Aa2 l8.length cc3) (hw.up 0)) [13] ?_; clear hs; intro a hs
  refine go_pvs 11 [] [(18, .int .i64 (w64 ((w64 (4 * a1)) + v10))), (21, .int .u8 (wu8 (v9.tmod 256)))] hs ?_; clear hs; intro a hs
  obtain ⟨hp16, H⟩ := ite_only H
  obtain ⟨ad17, rfl⟩ := (Rd.of_own (hw.up 1)).some hp16.1 hp16.2
  refine go_run hs (by rfl) (x_idx (T := 5) (sz := 1) (a := ad17) (n := l8.length) (cap := cc3) (k := .i64) (i := (w64 ((w64 (4 * a1)) + v10))) hp16) [14, 18] ?_; clear hs; intro a hs
  replace hw := hw.up 1
  obtain ⟨wd18, hx19, hw⟩ := x_put (P := Try.prog) (ty := 0) (t := 5) (x := (Operand.tmp 22)) (y := (Operand.tmp 21)) (off := 0) (p := ad17.add ((w64 ((w64 (4 * a1)) + v10)).toNat * 1)) (v := .int .u8 (wu8 (v9.tmod 256))) (vs := [.int .u8 (wu8 (v9.tmod 256))]) (i := (w64 ((w64 (4 * a1)) + v10))) (e' := (wu8 (v9.tmod 256) : Int)) hs hw rfl hp16.1 hp16.2 (by kernel_rfl) rfl (by kernel_rfl) rfl (by kernel_rfl) (Nat.le_of_ble_eq_true rfl) (by simp [Value.oneCell']) (by kernel_rfl)
  refine go_unit hs (by rfl) hx19 [21, 22] ?_; clear hs; intro a hs
  replace hw : St ks0 w0 wd18 [own 5 (eI .u8) (some ad17) cc3 (l8.set ((w64 ((w64 (4 * a1)) + v10)) : Int).toNat (wu8 (v9.tmod 256))), box g1 99 [.slice (some ad17) (l8.set ((w64 ((w64 (4 * a1)) + v10)) : Int).toNat (wu8 (v9.tmod 256))).length cc3]] := by rw [show (l8.set ((w64 ((w64 (4 * a1)) + v10)) : Int).toNat (wu8 (v9.tmod 256))).length = (l8).length from List.length_set]; exact hw
  refine go_end (hK15 _ _ ?_)
  refine go_plain [] [(2, .int .u32 (wu32 (v9.tdiv 256)))] hs ?_; clear hs; intro a hs
  refine ib_norm ?_
  refine hK14 _ _ ?_
  refine go_plain [] [(6, .int .i64 (w64 (v10 + 1)))] hs ?_; clear hs; intro a hs
  replace hw := hw.up 1
  exact round_end (l8.set ((w64 ((w64 (4 * a1)) + v10)) : Int).toNat (wu8 (v9.tmod 256)), wu32 (v9.tdiv 256), w64 (v10 + 1)) (Option.some.inj H).symm ⟨hs.kx, hw⟩
 ·replace H := ite_f H (of_decide_eq_false hc)
  have hb20 := hc
  rw [hb20] at hs
  refine wp_exit ?_
  refine th_exit ?_
  refine th_exit ?_
  refine in_block ?_
  replace hw := hw.up 1
  replace hw := hw.up 1
  rw [← hr7 _ (Option.some.inj H).symm] at HX7
  exact hJ1 l8 _ _ hs.kx hw HX7

/-! rivet/rivetref05.New: function 42 -/
noncomputable def rivetref05_New.j2 (a0 : Int) : Option ((Option Srivetref05_Memory) × Int) := (if 0 ≤ (w64 (4 * a0)) ∧ (w64 (4 * a0)) ≤ 281474976710656 then some ((some (⟨List.replicate ((w64 (4 * a0)) : Int).toNat (eI .u8).d⟩ : Srivetref05_Memory)), 0) else none)
noncomputable def rivetref05_New.j1 (a0 : Int) (v5 : Bool) : Option ((Option Srivetref05_Memory) × Int) := (if v5 = true then some ((none : Option Srivetref05_Memory), 2) else rivetref05_New.j2 a0)
noncomputable def rivetref05_New (a0 : Int) : Option ((Option Srivetref05_Memory) × Int) := (if a0 < 0 then rivetref05_New.j1 a0 true else rivetref05_New.j1 a0 (decide (a0 > 4096)))
set_option maxRecDepth 100000 in
set_option maxHeartbeats 4000000 in
theorem rivetref05_New.calls (a0 : Int) (r : (Option Srivetref05_Memory) × Int) (w0 : World) (H : rivetref05_New a0 = some r) :
    Calls Try.prog 42 #[.int .i64 a0] w0 fun e w' => ∃ A_0, e = .returned (.tuple #[.pointer A_0, .int .i64 r.2]) ∧ St [] w0 w' [oM mSrivetref05_Memory A_0 r.1] := by
 have hw : St [] w0 w0 [] := St.nil w0
 unfold rivetref05_New at H
 refine go_fn Try.func42 rfl Try.ntmps42 ?_; intro a hs
 refine go_sp [] [] hs ?_; clear hs; intro a hs
 refine go_seq_k fun K2 hK2 => ?_
 have hJ2 : ∀ (a : Act) (w : World), Slots a 15 [(0, .int .i64 a0)] → St [] w0 w [] → rivetref05_New.j2 a0 = some r → K2 a w := by
  intro a w hs hw H
  unfold rivetref05_New.j2 at H
  refine hK2 _ _ ?_
  refine go_sk fun K10 hK10 => ?_
  refine go_pvs 2 [0] [(11, .int .i64 (w64 (4 * a0)))] hs ?_; clear hs; intro a hs
  obtain ⟨hp11, H⟩ := ite_only H
  obtain ⟨Aa12, cc13, wd14, hx15, hw⟩ := n_make (P := Try.prog) (t := 97) (ty := 97) (T := 5) (x := (Operand.tmp 11)) (y := (Operand.tmp 11)) (E := (eI .u8)) (z := .int .u8 0) (bytes := 1) (n := (w64 (4 * a0))) hs hw (by kernel_rfl) (by kernel_rfl) (by kernel_rfl) (by kernel_rfl) (by kernel_rfl) hp11.1 (by have := hp11.2; omega) (by have := hp11.2; omega)
  refine go_run hs (by rfl) hx15 [11] ?_; clear hs; intro a hs
  refine go_pvs 4 [12] [(13, .agg #[.slice Aa12 (List.replicate ((w64 (4 * a0)) : Int).toNat (eI .u8).d).length cc13])] hs ?_; clear hs; intro a hs
  obtain ⟨g17, wd18, hx19, hw⟩ := x_boxc (P := Try.prog) (elem := 99) (v := (Operand.tmp 13)) (ty := 70) (cs := [.slice Aa12 (List.replicate ((w64 (4 * a0)) : Int).toNat (eI .u8).d).length cc13]) hs hw (by kernel_rfl)
  refine go_run hs (by rfl) hx19 [13] ?_; clear hs; intro a hs
  refine go_pvs 7 [14] [(2, .pointer (some (⟨g17, 0, none⟩ : Addr))), (3, .int .i64 0)] hs ?_; clear hs; intro a hs
  refine go_end (hK10 _ _ ?_)
  refine wp_ret ?_
  obtain rfl := Option.some.inj H
  replace hw := hw.up 1
  replace hw := hw.up 1
  replace hw := mSrivetref05_Memory.close (x := (⟨List.replicate ((w64 (4 * a0)) : Int).toNat (eI .u8).d⟩ : Srivetref05_Memory)) hw
  refine ret2 (t1 := 2) (v1 := .pointer (some (⟨g17, 0, none⟩ : Addr))) (t2 := 3) (v2 := .int .i64 0) hs (by kernel_rfl) (by kernel_rfl) (by kernel_rfl) ?_
  exact ⟨(some ⟨g17, 0, none⟩), rfl, hw.only 1⟩
 refine go_seq_k fun K3 hK3 => ?_
 have hJ1 : ∀ (v5 : Bool) (a : Act) (w : World), Slots a 15 [(0, .int .i64 a0), (9, .bool v5)] → St [] w0 w [] → rivetref05_New.j1 a0 v5 = some r → K3 a w := by
  intro v5 a w hs hw H
  unfold rivetref05_New.j1 at H
  refine hK3 _ _ ?_
  refine go_cond hs v5 (fun hc => ?_) fun hc => ?_
  ·replace H := ite_t H hc
   have hb6 := hc
   rw [hb6] at hs
   refine go_sp [0, 9] [(2, .pointer none), (3, .int .i64 2)] hs ?_; clear hs; intro a hs
   refine wp_ret ?_
   refine th_ret ?_
   obtain rfl := Option.some.inj H
   replace hw := St.oM_nil mSrivetref05_Memory hw
   refine ret2 (t1 := 2) (v1 := .pointer none) (t2 := 3) (v2 := .int .i64 2) hs (by kernel_rfl) (by kernel_rfl) (by kernel_rfl) ?_
   exact ⟨none, rfl, hw.only 1⟩
  ·replace H := ite_f H (ff hc)
   have hb9 := hc
   rw [hb9] at hs
   refine wp_skip ?_
   exact hJ2 _ _ hs.kx hw H
 refine go_region ?_
 refine go_pvs 3 [] [(6, .bool (decide (a0 < 0)))] hs ?_; clear hs; intro a hs
 cases hb4 : (decide (a0 < 0))
 ·replace H := ite_f H (of_decide_eq_false hb4)
  rw [hb4] at hs
  refine go_pvs 6 [6] [(9, .bool (decide (a0 > 4096)))] hs ?_; clear hs; intro a hs
  refine go_end ?_
  exact hJ1 (decide (a0 > 4096)) _ _ hs.kx hw H
 ·replace H := ite_t H (of_decide_eq_true hb4)
  rw [hb4] at hs
  refine go_pvs 6 [6] [(9, .bool true)] hs ?_; clear hs; intro a hs
  refine go_end ?_
  exact hJ1 true _ _ hs.kx hw H

/-! (*rivet/rivetref05.Memory).Place: function 29 -/
noncomputable def rivetref05_Memory_Place.b18 (l2 : List Int) (a1 : Int) (l19 : List Int) (v22 : Int) : Option ((List Int) × Int ⊕ (List Int)) := (if v22 < (l2.length : Int) then (if 0 ≤ v22 ∧ v22 < (l2.length : Int) then ((rivetref05_Memory_set (⟨l19⟩ : Srivetref05_Memory) (w64 (a1 + v22)) (ix (eI .u32).d l2 v22)).bind fun t30 => (some (.inl (t30.B, w64 (v22 + 1))))) else none) else some (.inr l19))
noncomputable def rivetref05_Memory_Place.j3 (l37 : List Int) : Option (Int × Srivetref05_Memory) := some (0, (⟨l37⟩ : Srivetref05_Memory))
noncomputable def rivetref05_Memory_Place.j2 (l2 : List Int) (a1 : Int) (x0 : Srivetref05_Memory) : Option (Int × Srivetref05_Memory) := ((loopO (fun (σ : (List Int) × Int) => rivetref05_Memory_Place.b18 l2 a1 σ.1 σ.2) (x0.B, 0)).bind fun e => rivetref05_Memory_Place.j3 e)
noncomputable def rivetref05_Memory_Place.j1 (x0 : Srivetref05_Memory) (l2 : List Int) (a1 : Int) (v12 : Bool) : Option (Int × Srivetref05_Memory) := (if v12 = true then some (11, x0) else rivetref05_Memory_Place.j2 l2 a1 x0)
noncomputable def rivetref05_Memory_Place (x0 : Srivetref05_Memory) (a1 : Int) (l2 : List Int) : Option (Int × Srivetref05_Memory) := (nm (w64 ((x0.B.length : Int).tdiv 4)) fun y7 => (if a1 < 0 then rivetref05_Memory_Place.j1 x0 l2 a1 true else (if a1 > y7 then rivetref05_Memory_Place.j1 x0 l2 a1 true else rivetref05_Memory_Place.j1 x0 l2 a1 (decide ((l2.length : Int) > (w64 (y7 - a1)))))))
set_option maxRecDepth 100000 in
set_option maxHeartbeats 4000000 in
theorem rivetref05_Memory_Place.calls (ks0 : List Nat) (A0 : Option Addr) (x0 : Srivetref05_Memory) (a1 : Int) (A2 : Option Addr) (c2 : Nat) (l2 : List Int) (r : Int × Srivetref05_Memory) (w0 : World) (hw : St ks0 w0 w0 [mSrivetref05_Memory A0 x0]) (hr2 : ∀ w', Kp ks0 w0 w' → Rd w' (eI .u32) A2 c2 l2) (H : rivetref05_Memory_Place x0 a1 l2 = some r) :
    Calls Try.prog 29 #[.pointer A0, .int .i64 a1, .slice A2 l2.length c2] w0 fun e w' => e = .returned (.int .i64 r.1) ∧ St ks0 w0 w' [mSrivetref05_Memory A0 r.2] := by
 unfold rivetref05_Memory_Place at H
 refine go_fn Try.func29 rfl Try.ntmps29 ?_; intro a hs
 obtain ⟨g1, Aa2, cc3, hAg, hwg⟩ := mSrivetref05_Memory.open hw
 clear hw; subst hAg; have hw := hwg; clear hwg
 replace hw : St ks0 w0 _ [box g1 99 [.slice Aa2 x0.B.length cc3], own 5 (eI .u8) Aa2 cc3 x0.B] := hw
 refine go_sp [] [(0, .pointer (some (⟨g1, 0, none⟩ : Addr)))] hs ?_; clear hs; intro a hs
 refine go_sk fun K6 hK6 => ?_
 refine go_pvs 3 [] [(11, .pointer (some (⟨g1, 0, none⟩ : Addr)))] hs ?_; clear hs; intro a hs
 refine go_run hs (by rfl) (x_bld (g := g1) (o := 0) (p := (⟨g1, 0, none⟩ : Addr)) (v := .slice Aa2 x0.B.length cc3) (hw.up 0)) [11] ?_; clear hs; intro a hs
 refine go_pvs 7 [12] [(7, .int .i64 (w64 ((x0.B.length : Int).tdiv 4)))] hs ?_; clear hs; intro a hs
 obtain ⟨y7, hy7, H⟩ := nm_some H
 replace hs : Slots a 45 [(0, .pointer (some (⟨g1, 0, none⟩ : Addr))), (1, .int .i64 a1), (2, .slice A2 l2.length c2), (7, .int .i64 y7)] := by rw [hy7]; exact hs.kx
 refine go_end (hK6 _ _ ?_)
 refine go_seq_k fun K8 hK8 => ?_
 have hJ2 : ∀ (a : Act) (w : World), Slots a 45 [(0, .pointer (some (⟨g1, 0, none⟩ : Addr))), (1, .int .i64 a1), (2, .slice A2 l2.length c2)] → St ks0 w0 w [box g1 99 [.slice Aa2 x0.B.length cc3], own 5 (eI .u8) Aa2 cc3 x0.B] → rivetref05_Memory_Place.j2 l2 a1 x0 = some r → K8 a w := by
  intro a w hs hw H
  unfold rivetref05_Memory_Place.j2 at H
  refine hK8 _ _ ?_
  refine go_seq_k fun K16 hK16 => ?_
  refine go_sp [] [(8, .int .i64 0)] hs ?_; clear hs; intro a hs
  refine wp_block ?_
  obtain ⟨e18, hl18, HX18⟩ := bind_some H
  have hJ3 : ∀ (Aa38 : Option Addr) (cc39 : Nat) (l37 : List Int) (a : Act) (w : World), Slots a 45 [] → St ks0 w0 w [box g1 99 [.slice Aa38 l37.length cc39], own 5 (eI .u8) Aa38 cc39 l37] → rivetref05_Memory_Place.j3 l37 = some r → K16 a w := by
   intro Aa38 cc39 l37 a w hs hw H
   unfold rivetref05_Memory_Place.j3 at H
   refine hK16 _ _ ?_
   refine go_sp [] [(6, .int .i64 0)] hs ?_; clear hs; intro a hs
   refine wp_ret ?_
   obtain rfl := Option.some.inj H
   replace hw := hw.up 1
   replace hw := hw.up 1
   replace hw := mSrivetref05_Memory.close (x := (⟨l37⟩ : Srivetref05_Memory)) hw
   refine ret1 (t := 6) (v := .int .i64 0) hs (by kernel_rfl) (by kernel_rfl) ?_
   exact ⟨rfl, hw.only 1⟩
  clear H
  refine go_loop (σ := (List Int) × Int) (fun σ a w => ∃ Aa20, ∃ cc21, Slots a 45 [(0, .pointer (some (⟨g1, 0, none⟩ : Addr))), (1, .int .i64 a1), (2, .slice A2 l2.length c2), (8, .int .i64 σ.2)] ∧ St ks0 w0 w [box g1 99 [.slice Aa20 σ.1.length cc21], own 5 (eI .u8) Aa20 cc21 σ.1]) hl18 (by exact ⟨Aa2, cc3, hs.kx, hw⟩) ?_
  rintro ⟨l19, v22⟩ a w ⟨Aa20, cc21, hs, hw⟩ o H hr18
  replace hs : Slots a 45 [(0, .pointer (some (⟨g1, 0, none⟩ : Addr))), (1, .int .i64 a1), (2, .slice A2 l2.length c2), (8, .int .i64 v22)] := hs
  replace hw : St ks0 w0 w [box g1 99 [.slice Aa20 l19.length cc21], own 5 (eI .u8) Aa20 cc21 l19] := hw
  replace H : rivetref05_Memory_Place.b18 l2 a1 l19 v22 = some o := H
  unfold rivetref05_Memory_Place.b18 at H
  refine go_seq_k fun K23 hK23 => ?_
  refine go_sp [] [(33, .bool (decide (v22 < (l2.length : Int))))] hs ?_; clear hs; intro a hs
  refine go_cond hs (decide (v22 < (l2.length : Int))) (fun hc => ?_) fun hc => ?_
  ·replace H := ite_t H (of_decide_eq_true hc)
   have hb25 := hc
   rw [hb25] at hs
   refine wp_skip ?_
   refine hK23 _ _ ?_
   refine go_seq_k fun K26 hK26 => ?_
   refine wp_block ?_
   refine go_region ?_
   refine go_pvs 6 [33] [(36, .pointer (some (⟨g1, 0, none⟩ : Addr))), (39, .int .i64 (w64 (a1 + v22))), (40, .slice A2 l2.length c2), (41, .int .i64 v22)] hs ?_; clear hs; intro a hs
   obtain ⟨hp27, H⟩ := ite_only H
   obtain ⟨ad28, rfl⟩ := (hr2 _ hw.kp).some hp27.1 hp27.2
   refine go_run hs (by rfl) (x_idx (T := 23) (sz := 1) (a := ad28) (n := l2.length) (cap := c2) (k := .i64) (i := v22) hp27) [40, 41] ?_; clear hs; intro a hs
   refine go_run hs (by rfl) (x_ld (off := 0) (p := ad28.add (v22.toNat * 1)) (v := .int .u32 (ix (eI .u32).d l2 v22)) (hr2 _ hw.kp) hp27 rfl) [42] ?_; clear hs; intro a hs
   replace hw := hw.up 1
   replace hw := hw.up 1
   replace hw := mSrivetref05_Memory.close (x := (⟨l19⟩ : Srivetref05_Memory)) hw
   obtain ⟨ks29, hgks29, hstks29, hbkks29⟩ := hw.lend 1
   obtain ⟨t30, hx31, H⟩ := bind_some H
   refine go_call hs (by rfl) (rivetref05_Memory_set.calls ks29 (some ⟨g1, 0, none⟩) (⟨l19⟩ : Srivetref05_Memory) (w64 (a1 + v22)) (ix (eI .u32).d l2 v22) t30 _ hgks29 hx31) ?_
   rintro e wd32 ⟨rfl, hw33⟩
   refine ⟨_, rfl, ?_⟩
   replace hw := hbkks29 _ _ hw33
   obtain ⟨Aa34, cc35, hw⟩ := mSrivetref05_Memory.open1 hw
   replace hw : St ks0 w0 _ [box g1 99 [.slice Aa34 t30.B.length cc35], own 5 (eI .u8) Aa34 cc35 t30.B] := hw
   clear hs; intro a hs; replace hs := hs.rms [36, 39, 43, 44]
   refine go_end ?_
   refine ib_norm ?_
   refine hK26 _ _ ?_
   refine go_plain [] [(8, .int .i64 (w64 (v22 + 1)))] hs ?_; clear hs; intro a hs
   replace hw := hw.up 1
   replace hw := hw.up 1
   exact round_end (t30.B, w64 (v22 + 1)) (Option.some.inj H).symm ⟨Aa34, cc35, hs.kx, hw⟩
  ·replace H := ite_f H (of_decide_eq_false hc)
   have hb36 := hc
   rw [hb36] at hs
   refine wp_exit ?_
   refine th_exit ?_
   refine th_exit ?_
   refine in_block ?_
   replace hw := hw.up 1
   replace hw := hw.up 1
   rw [← hr18 _ (Option.some.inj H).symm] at HX18
   exact hJ3 Aa20 cc21 l19 _ _ hs.kx hw HX18
 refine go_seq_k fun K9 hK9 => ?_
 have hJ1 : ∀ (v12 : Bool) (a : Act) (w : World), Slots a 45 [(0, .pointer (some (⟨g1, 0, none⟩ : Addr))), (1, .int .i64 a1), (2, .slice A2 l2.length c2), (29, .bool v12)] → St ks0 w0 w [box g1 99 [.slice Aa2 x0.B.length cc3], own 5 (eI .u8) Aa2 cc3 x0.B] → rivetref05_Memory_Place.j1 x0 l2 a1 v12 = some r → K9 a w := by
  intro v12 a w hs hw H
  unfold rivetref05_Memory_Place.j1 at H
  refine hK9 _ _ ?_
  refine go_cond hs v12 (fun hc => ?_) fun hc => ?_
  ·replace H := ite_t H hc
   have hb13 := hc
   rw [hb13] at hs
   refine go_sp [0, 1, 2, 29] [(6, .int .i64 11)] hs ?_; clear hs; intro a hs
   refine wp_ret ?_
   refine th_ret ?_
   obtain rfl := Option.some.inj H
   replace hw := hw.up 1
   replace hw := hw.up 1
   replace hw := mSrivetref05_Memory.close (x := x0) hw
   refine ret1 (t := 6) (v := .int .i64 11) hs (by kernel_rfl) (by kernel_rfl) ?_
   exact ⟨rfl, hw.only 1⟩
  ·replace H := ite_f H (ff hc)
   have hb15 := hc
   rw [hb15] at hs
   refine wp_skip ?_
   replace hw := hw.up 1
   replace hw := hw.up 1
   exact hJ2 _ _ hs.kx hw H
 refine go_region ?_
 refine go_pvs 3 [] [(17, .bool (decide (a1 < 0)))] hs ?_; clear hs; intro a hs
 cases hb10 : (decide (a1 < 0))
 ·replace H := ite_f H (of_decide_eq_false hb10)
  rw [hb10] at hs
  refine go_pvs 8 [17] [(22, .bool (decide (a1 > y7)))] hs ?_; clear hs; intro a hs
  cases hb11 : (decide (a1 > y7))
  ·replace H := ite_f H (of_decide_eq_false hb11)
   rw [hb11] at hs
   refine go_pvs 15 [7, 22] [(29, .bool (decide ((l2.length : Int) > (w64 (y7 - a1)))))] hs ?_; clear hs; intro a hs
   refine go_end ?_
   replace hw := hw.up 1
   replace hw := hw.up 1
   exact hJ1 (decide ((l2.length : Int) > (w64 (y7 - a1)))) _ _ hs.kx hw H
  ·replace H := ite_t H (of_decide_eq_true hb11)
   rw [hb11] at hs
   refine go_pvs 15 [7, 22] [(29, .bool true)] hs ?_; clear hs; intro a hs
   refine go_end ?_
   replace hw := hw.up 1
   replace hw := hw.up 1
   exact hJ1 true _ _ hs.kx hw H
 ·replace H := ite_t H (of_decide_eq_true hb10)
  rw [hb10] at hs
  refine go_pvs 15 [7, 17] [(29, .bool true)] hs ?_; clear hs; intro a hs
  refine go_end ?_
  replace hw := hw.up 1
  replace hw := hw.up 1
  exact hJ1 true _ _ hs.kx hw H

/-! rivet/machine.New: function 21 -/
noncomputable def machine_New (a0 : Int) (l1 : List Int) : Option ((Option Smachine_Machine) × Int) := ((memory_New a0).bind fun ⟨t4, t5⟩ => ((match t4 with | none => (if t5 = 0 then ((slices_Clone_uint32_uint32 l1).bind fun t20 => (some ((some (⟨(none : Option Smemory_Memory), (⟨(Vector.replicate 16 0), 0, false, false, false, false⟩ : Sapi_Regs), 0, 0, t20, ([] : List Int)⟩ : Smachine_Machine)), 0))) else some ((none : Option Smachine_Machine), t5)) | some x11 => (if t5 = 0 then ((slices_Clone_uint32_uint32 l1).bind fun t42 => (some ((some (⟨(some x11), (⟨(Vector.replicate 16 0), 0, false, false, false, false⟩ : Sapi_Regs), 0, 0, t42, ([] : List Int)⟩ : Smachine_Machine)), 0))) else some ((none : Option Smachine_Machine), t5)))))
set_option maxRecDepth 100000 in
set_option maxHeartbeats 4000000 in
theorem machine_New.calls (a0 : Int) (A1 : Option Addr) (c1 : Nat) (l1 : List Int) (r : (Option Smachine_Machine) × Int) (w0 : World) (hr1 : Rd w0 (eI .u32) A1 c1 l1) (H : machine_New a0 l1 = some r) :
    Calls Try.prog 21 #[.int .i64 a0, .slice A1 l1.length c1] w0 fun e w' => ∃ A_0, e = .returned (.tuple #[.pointer A_0, .int .i64 r.2]) ∧ St [] w0 w' [oM mSmachine_Machine A_0 r.1] := by
 have hw : St [] w0 w0 [] := St.nil w0
 unfold machine_New at H
 refine go_fn Try.func21 rfl Try.ntmps21 ?_; intro a hs
 refine go_sp [] [] hs ?_; clear hs; intro a hs
 refine go_sk fun K2 hK2 => ?_
 refine go_pvs 1 [0] [(9, .int .i64 a0)] hs ?_; clear hs; intro a hs
 obtain ⟨⟨t4, t5⟩, hx6, H⟩ := bind_some H
 refine go_call hs (by rfl) (memory_New.calls a0 (t4, t5) _ hx6) ?_
 rintro e wd8 ⟨Aa7, rfl, hw9⟩
 refine ⟨_, rfl, ?_⟩
 replace hw := hw.call hw9
 clear hs; intro a hs; replace hs := hs.rms [9]
 rcases t4 with _ | x11
 ·obtain ⟨hAg, hwg⟩ := St.oM_none hw
  clear hw; subst hAg; have hw := hwg; clear hwg
  refine go_pvs 7 [10] [(6, .pointer none), (7, .int .i64 t5)] hs ?_; clear hs; intro a hs
  refine go_end (hK2 _ _ ?_)
  refine go_seq_k fun K12 hK12 => ?_
  refine go_sp [] [(14, .bool (t5 != 0))] hs ?_; clear hs; intro a hs
  refine go_cond hs (t5 != 0) (fun hc => ?_) fun hc => ?_
  ·replace H := ite_f H (bne_iff_ne.1 hc)
   have hb14 := hc
   rw [hb14] at hs
   refine go_sp [1, 6, 7, 14] [(4, .pointer none), (5, .int .i64 t5)] hs ?_; clear hs; intro a hs
   refine wp_ret ?_
   refine th_ret ?_
   obtain rfl := Option.some.inj H
   replace hw := St.oM_nil mSmachine_Machine hw
   refine ret2 (t1 := 4) (v1 := .pointer none) (t2 := 5) (v2 := .int .i64 t5) hs (by kernel_rfl) (by kernel_rfl) (by kernel_rfl) ?_
   exact ⟨none, rfl, hw.only 1⟩
  ·replace H := ite_t H (bne_eq_false_iff_eq.1 hc)
   have hb17 := hc
   rw [hb17] at hs
   refine wp_skip ?_
   refine hK12 _ _ ?_
   refine go_sk fun K18 hK18 => ?_
   refine go_pvs 2 [1, 6, 7, 14] [(16, .pointer none), (17, .slice A1 l1.length c1)] hs ?_; clear hs; intro a hs
   obtain ⟨t20, hx21, H⟩ := bind_some H
   refine go_call hs (by rfl) (slices_Clone_uint32_uint32.calls A1 c1 l1 t20 _ (hr1.old hw) hx21) ?_
   rintro e wd24 ⟨Aa22, cc23, rfl, hw25⟩
   refine ⟨_, rfl, ?_⟩
   replace hw := hw.call hw25
   clear hs; intro a hs; replace hs := hs.rms [17]
   refine go_pvs 4 [16, 18] [(19, .agg #[.pointer none, .int .u32 0, .int .u32 0, .int .u32 0, .int .u32 0, .int .u32 0, .int .u32 0, .int .u32 0, .int .u32 0, .int .u32 0, .int .u32 0, .int .u32 0, .int .u32 0, .int .u32 0, .int .u32 0, .int .u32 0, .int .u32 0, .int .u32 0, .bool false, .bool false, .bool false, .bool false, .int .u32 0, .int .i64 0, .slice Aa22 t20.length cc23, .slice none 0 0])] hs ?_; clear hs; intro a hs
   obtain ⟨g27, wd28, hx29, hw⟩ := x_boxc (P := Try.prog) (elem := 40) (v := (Operand.tmp 19)) (ty := 30) (cs := [.pointer none] ++ eSapi_Regs.enc (⟨(Vector.replicate 16 0), 0, false, false, false, false⟩ : Sapi_Regs) ++ [.int .u32 0, .int .i64 0, .slice Aa22 t20.length cc23, .slice none 0 0]) hs hw (by kernel_rfl)
   refine go_run hs (by rfl) hx29 [19] ?_; clear hs; intro a hs
   replace hw := St.own_nil hw 23 (eI .u32)
   replace hw : St [] w0 wd28 [own 23 (eI .u32) none 0 ([] : List Int), box g27 40 ([.pointer none] ++ eSapi_Regs.enc (⟨(Vector.replicate 16 0), 0, false, false, false, false⟩ : Sapi_Regs) ++ [.int .u32 0, .int .i64 0, .slice Aa22 t20.length cc23, .slice none ([] : List Int).length 0]), own 23 (eI .u32) Aa22 cc23 t20] := hw
   refine go_pvs 7 [20] [(4, .pointer (some (⟨g27, 0, none⟩ : Addr))), (5, .int .i64 0)] hs ?_; clear hs; intro a hs
   refine go_end (hK18 _ _ ?_)
   refine wp_ret ?_
   obtain rfl := Option.some.inj H
   replace hw := St.oM_nil mSmemory_Memory hw
   replace hw := hw.up 3
   replace hw := St.rdo_of_own hw
   replace hw := hw.up 2
   replace hw := hw.up 1
   replace hw := hw.up 2
   replace hw := hw.up 3
   replace hw := mSmachine_Machine.close (x := (⟨(none : Option Smemory_Memory), (⟨(Vector.replicate 16 0), 0, false, false, false, false⟩ : Sapi_Regs), 0, 0, t20, ([] : List Int)⟩ : Smachine_Machine)) hw
   refine ret2 (t1 := 4) (v1 := .pointer (some (⟨g27, 0, none⟩ : Addr))) (t2 := 5) (v2 := .int .i64 0) hs (by kernel_rfl) (by kernel_rfl) (by kernel_rfl) ?_
   exact ⟨(some ⟨g27, 0, none⟩), rfl, hw.only 1⟩
 ·replace hw : St [] w0 _ [mSmemory_Memory Aa7 x11] := hw
  obtain ⟨g33, hAg, hwg⟩ := St.one hw
  clear hw; subst hAg; have hw := hwg; clear hwg
  refine go_pvs 7 [10] [(6, .pointer (some (⟨g33, 0, none⟩ : Addr))), (7, .int .i64 t5)] hs ?_; clear hs; intro a hs
  refine go_end (hK2 _ _ ?_)
  refine go_seq_k fun K34 hK34 => ?_
  refine go_sp [] [(14, .bool (t5 != 0))] hs ?_; clear hs; intro a hs
  refine go_cond hs (t5 != 0) (fun hc => ?_) fun hc => ?_
  ·replace H := ite_f H (bne_iff_ne.1 hc)
   have hb36 := hc
   rw [hb36] at hs
   refine go_sp [1, 6, 7, 14] [(4, .pointer none), (5, .int .i64 t5)] hs ?_; clear hs; intro a hs
   refine wp_ret ?_
   refine th_ret ?_
   obtain rfl := Option.some.inj H
   replace hw := St.oM_nil mSmachine_Machine hw
   refine ret2 (t1 := 4) (v1 := .pointer none) (t2 := 5) (v2 := .int .i64 t5) hs (by kernel_rfl) (by kernel_rfl) (by kernel_rfl) ?_
   exact ⟨none, rfl, hw.only 1⟩
  ·replace H := ite_t H (bne_eq_false_iff_eq.1 hc)
   have hb39 := hc
   rw [hb39] at hs
   refine wp_skip ?_
   refine hK34 _ _ ?_
   refine go_sk fun K40 hK40 => ?_
   refine go_pvs 2 [1, 6, 7, 14] [(16, .pointer (some (⟨g33, 0, none⟩ : Addr))), (17, .slice A1 l1.length c1)] hs ?_; clear hs; intro a hs
   obtain ⟨t42, hx43, H⟩ := bind_some H
   refine go_call hs (by rfl) (slices_Clone_uint32_uint32.calls A1 c1 l1 t42 _ (hr1.old hw) hx43) ?_
   rintro e wd46 ⟨Aa44, cc45, rfl, hw47⟩
   refine ⟨_, rfl, ?_⟩
   replace hw := hw.call hw47
   clear hs; intro a hs; replace hs := hs.rms [17]
   refine go_pvs 4 [16, 18] [(19, .agg #[.pointer (some (⟨g33, 0, none⟩ : Addr)), .int .u32 0, .int .u32 0, .int .u32 0, .int .u32 0, .int .u32 0, .int .u32 0, .int .u32 0, .int .u32 0, .int .u32 0, .int .u32 0, .int .u32 0, .int .u32 0, .int .u32 0, .int .u32 0, .int .u32 0, .int .u32 0, .int .u32 0, .bool false, .bool false, .bool false, .bool false, .int .u32 0, .int .i64 0, .slice Aa44 t42.length cc45, .slice none 0 0])] hs ?_; clear hs; intro a hs
   obtain ⟨g49, wd50, hx51, hw⟩ := x_boxc (P := Try.prog) (elem := 40) (v := (Operand.tmp 19)) (ty := 30) (cs := [.pointer (some (⟨g33, 0, none⟩ : Addr))] ++ eSapi_Regs.enc (⟨(Vector.replicate 16 0), 0, false, false, false, false⟩ : Sapi_Regs) ++ [.int .u32 0, .int .i64 0, .slice Aa44 t42.length cc45, .slice none 0 0]) hs hw (by kernel_rfl)
   refine go_run hs (by rfl) hx51 [19] ?_; clear hs; intro a hs
   replace hw := St.own_nil hw 23 (eI .u32)
   replace hw : St [] w0 wd50 [own 23 (eI .u32) none 0 ([] : List Int), box g49 40 ([.pointer (some (⟨g33, 0, none⟩ : Addr))] ++ eSapi_Regs.enc (⟨(Vector.replicate 16 0), 0, false, false, false, false⟩ : Sapi_Regs) ++ [.int .u32 0, .int .i64 0, .slice Aa44 t42.length cc45, .slice none ([] : List Int).length 0]), own 23 (eI .u32) Aa44 cc45 t42, own 75 eSmemory_Memory (some (⟨g33, 0, none⟩ : Addr)) 1 [x11]] := hw
   refine go_pvs 7 [20] [(4, .pointer (some (⟨g49, 0, none⟩ : Addr))), (5, .int .i64 0)] hs ?_; clear hs; intro a hs
   refine go_end (hK40 _ _ ?_)
   refine wp_ret ?_
   obtain rfl := Option.some.inj H
   replace hw := hw.up 3
   replace hw := St.oM_of (m := mSmemory_Memory) (A := (some (⟨g33, 0, none⟩ : Addr))) (x := x11) hw
   replace hw := hw.up 3
   replace hw := St.rdo_of_own hw
   replace hw := hw.up 2
   replace hw := hw.up 1
   replace hw := hw.up 2
   replace hw := hw.up 3
   replace hw := mSmachine_Machine.close (x := (⟨(some x11), (⟨(Vector.replicate 16 0), 0, false, false, false, false⟩ : Sapi_Regs), 0, 0, t42, ([] : List Int)⟩ : Smachine_Machine)) hw
   refine ret2 (t1 := 4) (v1 := .pointer (some (⟨g49, 0, none⟩ : Addr))) (t2 := 5) (v2 := .int .i64 0) hs (by kernel_rfl) (by kernel_rfl) (by kernel_rfl) ?_
   exact ⟨(some ⟨g49, 0, none⟩), rfl, hw.only 1⟩

/-! (*rivet/machine.Machine).Start: function 23 -/
noncomputable def machine_Machine_Start (x0 : Smachine_Machine) (a1 : Int) (a2 : Sapi_Regs) : Option Smachine_Machine := ((x0.Memory).bind fun y32 => (some (⟨(some y32), a2, a1, 0, x0.in', x0.out⟩ : Smachine_Machine)))
set_option maxRecDepth 100000 in
set_option maxHeartbeats 4000000 in
theorem machine_Machine_Start.calls (ks0 : List Nat) (A0 : Option Addr) (x0 : Smachine_Machine) (a1 : Int) (a2 : Sapi_Regs) (r : Smachine_Machine) (w0 : World) (hw : St ks0 w0 w0 [mSmachine_Machine A0 x0]) (H : machine_Machine_Start x0 a1 a2 = some r) :
    Calls Try.prog 23 #[.pointer A0, .int .u32 a1, .agg (eSapi_Regs.enc a2).toArray] w0 fun e w' => e = .returned (.tuple #[]) ∧ St ks0 w0 w' [mSmachine_Machine A0 r] := by
 unfold machine_Machine_Start at H
 refine go_fn Try.func23 rfl Try.ntmps23 ?_; intro a hs
 obtain ⟨g1, hAg, hwg⟩ := mSmachine_Machine.addr hw
 clear hw; subst hAg; have hw := hwg; clear hwg
 replace hw : St ks0 w0 _ [mSmachine_Machine (some ⟨g1, 0, none⟩) x0] := hw
 refine go_sk fun K2 hK2 => ?_
 obtain ⟨ad3, wd4, hx5, hw⟩ := x_box1 (P := Try.prog) (elem := 26) (v := (Operand.tmp 2)) (ty := 0) hs hw eSapi_Regs a2 (by kernel_rfl)
 refine go_run hs (by rfl) hx5 [2] ?_; clear hs; intro a hs
 refine go_end (hK2 _ _ ?_)
 refine o_region [4, 7, 10, 13] (.two [0, 1, 2, 3, 5, 6] 4 (.one [] 7 (.one [8, 9] 10 (.one [11, 12] 13 (.fin [])))) 7 (.one [] 4 (.one [8, 9] 10 (.one [11, 12] 13 (.fin []))))) (by kernel_rfl) (by kernel_rfl) (fun c a d v w h => by cases d <;> exact h) ?_
 intro wq hbq; replace hw := hw.behind hbq; clear hbq
 refine o_two ?_
 refine c_pvs [0, 1, 2, 3, 5, 6] [] [0, 1] [(7, .pointer (some (⟨g1, 0, none⟩ : Addr))), (8, .pointer (some (⟨g1, 0, none⟩ : Addr))), (9, .int .u32 a1), (12, .pointer (some (⟨g1, 22, none⟩ : Addr)))] hs ?_; clear hs; intro a hs
 refine c_end ⟨?_, ?_⟩
 ·skip
  refine p_run hs (by rfl) (x_lds (off := 0) (p := ad3) (cs := (eSapi_Regs.enc a2)) (Rd.of_own (hw.up 0)) (one_ok a2) (one_at _ _)) [5] ?_; clear hs; intro a hs
  refine c_done ?_
  refine o_one ?_
  refine c_end ?_
  replace hw := hw.up 1
  obtain ⟨Aa24, Aa26, cc27, Aa29, cc30, hw⟩ := mSmachine_Machine.open1 hw
  replace hw : St ks0 w0 _ [box g1 40 ([.pointer Aa24] ++ eSapi_Regs.enc x0.s ++ [.int .u32 x0.pc, .int .i64 x0.status, .slice Aa26 x0.in'.length cc27, .slice Aa29 x0.out.length cc30]), oM mSmemory_Memory Aa24 x0.Memory, rdo (eI .u32) Aa26 cc27 x0.in', own 23 (eI .u32) Aa29 cc30 x0.out, own 26 eSapi_Regs (some ad3) 1 [a2]] := hw
  replace hw := hw.up 1
  obtain ⟨y32, hy33, H⟩ := bind_some H
  replace hw := St.oM_some hw hy33
  obtain ⟨g34, hAg, hwg⟩ := St.one hw
  clear hw; subst hAg; have hw := hwg; clear hwg
  replace hw : St ks0 w0 _ [own 75 eSmemory_Memory (some (⟨g34, 0, none⟩ : Addr)) 1 [y32], box g1 40 ([.pointer (some (⟨g34, 0, none⟩ : Addr))] ++ eSapi_Regs.enc x0.s ++ [.int .u32 x0.pc, .int .i64 x0.status, .slice Aa26 x0.in'.length cc27, .slice Aa29 x0.out.length cc30]), rdo (eI .u32) Aa26 cc27 x0.in', own 23 (eI .u32) Aa29 cc30 x0.out, own 26 eSapi_Regs (some ad3) 1 [a2]] := hw
  replace hw := hw.up 1
  obtain ⟨wd35, hx36, hw⟩ := x_bput (P := Try.prog) (ty := 0) (t := 23) (y := (Operand.tmp 12)) (z := (Operand.tmp 9)) (o := 22) (p := (⟨g1, 22, none⟩ : Addr)) (v := .int .u32 a1) (vs := [.int .u32 a1]) (cs' := [.pointer (some (⟨g34, 0, none⟩ : Addr))] ++ eSapi_Regs.enc x0.s ++ [.int .u32 a1, .int .i64 x0.status, .slice Aa26 x0.in'.length cc27, .slice Aa29 x0.out.length cc30]) hs hw (by kernel_rfl) rfl (by kernel_rfl) rfl (by kernel_rfl) (by kernel_rfl) (by simp [Value.oneCell']) (by kernel_rfl)
  refine p_unit hs (by rfl) hx36 [9, 12] ?_; clear hs; intro a hs
  refine c_done ?_
  refine o_one ?_
  refine c_pvs [8, 9] [] [7] [(14, .pointer (some (⟨g1, 1, none⟩ : Addr)))] hs ?_; clear hs; intro a hs
  refine c_end ?_
  obtain ⟨wd37, hx38, hw⟩ := x_bput (P := Try.prog) (ty := 0) (t := 26) (y := (Operand.tmp 14)) (z := (Operand.tmp 10)) (o := 1) (p := (⟨g1, 1, none⟩ : Addr)) (v := .agg (eSapi_Regs.enc a2).toArray) (vs := (eSapi_Regs.enc a2)) (cs' := [.pointer (some (⟨g34, 0, none⟩ : Addr))] ++ eSapi_Regs.enc a2 ++ [.int .u32 a1, .int .i64 x0.status, .slice Aa26 x0.in'.length cc27, .slice Aa29 x0.out.length cc30]) hs hw (by kernel_rfl) rfl (by kernel_rfl) rfl (by kernel_rfl) (by kernel_rfl) (eSapi_Regs.one _) (by kernel_rfl)
  refine p_unit hs (by rfl) hx38 [10, 14] ?_; clear hs; intro a hs
  refine c_done ?_
  refine o_one ?_
  refine c_pvs [11, 12] [] [8] [(16, .pointer (some (⟨g1, 23, none⟩ : Addr)))] hs ?_; clear hs; intro a hs
  refine c_end ?_
  obtain ⟨wd39, hx40, hw⟩ := x_bput (P := Try.prog) (ty := 0) (t := 3) (y := (Operand.tmp 16)) (z := (Operand.const (Value.int IntKind.i64 0))) (o := 23) (p := (⟨g1, 23, none⟩ : Addr)) (v := .int .i64 0) (vs := [.int .i64 0]) (cs' := [.pointer (some (⟨g34, 0, none⟩ : Addr))] ++ eSapi_Regs.enc a2 ++ [.int .u32 a1, .int .i64 0, .slice Aa26 x0.in'.length cc27, .slice Aa29 x0.out.length cc30]) hs hw (by kernel_rfl) rfl (by kernel_rfl) rfl (by kernel_rfl) (by kernel_rfl) (by simp [Value.oneCell']) (by kernel_rfl)
  refine p_unit hs (by rfl) hx40 [16] ?_; clear hs; intro a hs
  refine c_done ?_
  refine o_fin ?_
  refine c_end ?_
  obtain rfl := Option.some.inj H
  replace hw := hw.up 1
  replace hw := St.oM_of (m := mSmemory_Memory) (A := (some (⟨g34, 0, none⟩ : Addr))) (x := y32) hw
  replace hw := hw.up 3
  replace hw := hw.up 3
  replace hw := hw.up 2
  replace hw := hw.up 3
  replace hw := mSmachine_Machine.close (x := (⟨(some y32), a2, a1, 0, x0.in', x0.out⟩ : Smachine_Machine)) hw
  refine end0 hs (by kernel_rfl) ?_
  exact ⟨rfl, hw.only 1⟩
 ·skip
  replace hw := hw.up 1
  obtain ⟨Aa41, Aa43, cc44, Aa46, cc47, hw⟩ := mSmachine_Machine.open1 hw
  replace hw : St ks0 w0 _ [box g1 40 ([.pointer Aa41] ++ eSapi_Regs.enc x0.s ++ [.int .u32 x0.pc, .int .i64 x0.status, .slice Aa43 x0.in'.length cc44, .slice Aa46 x0.out.length cc47]), oM mSmemory_Memory Aa41 x0.Memory, rdo (eI .u32) Aa43 cc44 x0.in', own 23 (eI .u32) Aa46 cc47 x0.out, own 26 eSapi_Regs (some ad3) 1 [a2]] := hw
  replace hw := hw.up 1
  obtain ⟨y49, hy50, H⟩ := bind_some H
  replace hw := St.oM_some hw hy50
  obtain ⟨g51, hAg, hwg⟩ := St.one hw
  clear hw; subst hAg; have hw := hwg; clear hwg
  replace hw : St ks0 w0 _ [own 75 eSmemory_Memory (some (⟨g51, 0, none⟩ : Addr)) 1 [y49], box g1 40 ([.pointer (some (⟨g51, 0, none⟩ : Addr))] ++ eSapi_Regs.enc x0.s ++ [.int .u32 x0.pc, .int .i64 x0.status, .slice Aa43 x0.in'.length cc44, .slice Aa46 x0.out.length cc47]), rdo (eI .u32) Aa43 cc44 x0.in', own 23 (eI .u32) Aa46 cc47 x0.out, own 26 eSapi_Regs (some ad3) 1 [a2]] := hw
  replace hw := hw.up 1
  obtain ⟨wd52, hx53, hw⟩ := x_bput (P := Try.prog) (ty := 0) (t := 23) (y := (Operand.tmp 12)) (z := (Operand.tmp 9)) (o := 22) (p := (⟨g1, 22, none⟩ : Addr)) (v := .int .u32 a1) (vs := [.int .u32 a1]) (cs' := [.pointer (some (⟨g51, 0, none⟩ : Addr))] ++ eSapi_Regs.enc x0.s ++ [.int .u32 a1, .int .i64 x0.status, .slice Aa43 x0.in'.length cc44, .slice Aa46 x0.out.length cc47]) hs hw (by kernel_rfl) rfl (by kernel_rfl) rfl (by kernel_rfl) (by kernel_rfl) (by simp [Value.oneCell']) (by kernel_rfl)
  refine p_unit hs (by rfl) hx53 [9, 12] ?_; clear hs; intro a hs
  refine c_done ?_
  refine o_one ?_
  refine c_end ?_
  refine p_run hs (by rfl) (x_lds (off := 0) (p := ad3) (cs := (eSapi_Regs.enc a2)) (Rd.of_own (hw.up 4)) (one_ok a2) (one_at _ _)) [5] ?_; clear hs; intro a hs
  refine c_done ?_
  refine o_one ?_
  refine c_pvs [8, 9] [] [7] [(14, .pointer (some (⟨g1, 1, none⟩ : Addr)))] hs ?_; clear hs; intro a hs
  refine c_end ?_
  obtain ⟨wd54, hx55, hw⟩ := x_bput (P := Try.prog) (ty := 0) (t := 26) (y := (Operand.tmp 14)) (z := (Operand.tmp 10)) (o := 1) (p := (⟨g1, 1, none⟩ : Addr)) (v := .agg (eSapi_Regs.enc a2).toArray) (vs := (eSapi_Regs.enc a2)) (cs' := [.pointer (some (⟨g51, 0, none⟩ : Addr))] ++ eSapi_Regs.enc a2 ++ [.int .u32 a1, .int .i64 x0.status, .slice Aa43 x0.in'.length cc44, .slice Aa46 x0.out.length cc47]) hs hw (by kernel_rfl) rfl (by kernel_rfl) rfl (by kernel_rfl) (by kernel_rfl) (eSapi_Regs.one _) (by kernel_rfl)
  refine p_unit hs (by rfl) hx55 [10, 14] ?_; clear hs; intro a hs
  refine c_done ?_
  refine o_one ?_
  refine c_pvs [11, 12] [] [8] [(16, .pointer (some (⟨g1, 23, none⟩ : Addr)))] hs ?_; clear hs; intro a hs
  refine c_end ?_
  obtain ⟨wd56, hx57, hw⟩ := x_bput (P := Try.prog) (ty := 0) (t := 3) (y := (Operand.tmp 16)) (z := (Operand.const (Value.int IntKind.i64 0))) (o := 23) (p := (⟨g1, 23, none⟩ : Addr)) (v := .int .i64 0) (vs := [.int .i64 0]) (cs' := [.pointer (some (⟨g51, 0, none⟩ : Addr))] ++ eSapi_Regs.enc a2 ++ [.int .u32 a1, .int .i64 0, .slice Aa43 x0.in'.length cc44, .slice Aa46 x0.out.length cc47]) hs hw (by kernel_rfl) rfl (by kernel_rfl) rfl (by kernel_rfl) (by kernel_rfl) (by simp [Value.oneCell']) (by kernel_rfl)
  refine p_unit hs (by rfl) hx57 [16] ?_; clear hs; intro a hs
  refine c_done ?_
  refine o_fin ?_
  refine c_end ?_
  obtain rfl := Option.some.inj H
  replace hw := hw.up 1
  replace hw := St.oM_of (m := mSmemory_Memory) (A := (some (⟨g51, 0, none⟩ : Addr))) (x := y49) hw
  replace hw := hw.up 3
  replace hw := hw.up 3
  replace hw := hw.up 2
  replace hw := hw.up 3
  replace hw := mSmachine_Machine.close (x := (⟨(some y49), a2, a1, 0, x0.in', x0.out⟩ : Smachine_Machine)) hw
  refine end0 hs (by kernel_rfl) ?_
  exact ⟨rfl, hw.only 1⟩

/-! (*rivet/machine.Machine).Status: function 16 -/
noncomputable def machine_Machine_Status (x0 : Smachine_Machine) : Option Int := some x0.status
set_option maxRecDepth 100000 in
set_option maxHeartbeats 4000000 in
theorem machine_Machine_Status.calls (A0 : Option Addr) (x0 : Smachine_Machine) (r : Int) (w0 : World) (hr0 : rSmachine_Machine w0 A0 x0) (H : machine_Machine_Status x0 = some r) :
    Calls Try.prog 16 #[.pointer A0] w0 fun e w' => e = .returned (.int .i64 r) ∧ St [] w0 w' [] := by
 have hw : St [] w0 w0 [] := St.nil w0
 unfold machine_Machine_Status at H
 refine go_fn Try.func16 rfl Try.ntmps16 ?_; intro a hs
 have hk3 := hr0; obtain ⟨g1, Aa5, Aa8, cc9, Aa12, cc13, hA4, hrx2, hr6, hr10, hr14⟩ := hr0; subst hA4
 refine go_sp [] [(0, .pointer (some (⟨g1, 0, none⟩ : Addr)))] hs ?_; clear hs; intro a hs
 refine go_sk fun K17 hK17 => ?_
 refine go_pvs 3 [0] [(5, .pointer (some (⟨g1, 23, none⟩ : Addr)))] hs ?_; clear hs; intro a hs
 refine go_run hs (by rfl) (x_rld (g := g1) (o := 23) (p := (⟨g1, 23, none⟩ : Addr)) (v := .int .i64 x0.status) (hrx2.old hw)) [5] ?_; clear hs; intro a hs
 refine go_pvs 5 [6] [(2, .int .i64 x0.status)] hs ?_; clear hs; intro a hs
 refine go_end (hK17 _ _ ?_)
 refine wp_ret ?_
 obtain rfl := Option.some.inj H
 refine ret1 (t := 2) (v := .int .i64 x0.status) hs (by kernel_rfl) (by kernel_rfl) ?_
 exact ⟨rfl, hw.only 0⟩

/-! (*rivet/machine.Machine).PC: function 13 -/
noncomputable def machine_Machine_PC (x0 : Smachine_Machine) : Option Int := some x0.pc
set_option maxRecDepth 100000 in
set_option maxHeartbeats 4000000 in
theorem machine_Machine_PC.calls (A0 : Option Addr) (x0 : Smachine_Machine) (r : Int) (w0 : World) (hr0 : rSmachine_Machine w0 A0 x0) (H : machine_Machine_PC x0 = some r) :
    Calls Try.prog 13 #[.pointer A0] w0 fun e w' => e = .returned (.int .u32 r) ∧ St [] w0 w' [] := by
 have hw : St [] w0 w0 [] := St.nil w0
 unfold machine_Machine_PC at H
 refine go_fn Try.func13 rfl Try.ntmps13 ?_; intro a hs
 have hk3 := hr0; obtain ⟨g1, Aa5, Aa8, cc9, Aa12, cc13, hA4, hrx2, hr6, hr10, hr14⟩ := hr0; subst hA4
 refine go_sp [] [(0, .pointer (some (⟨g1, 0, none⟩ : Addr)))] hs ?_; clear hs; intro a hs
 refine go_sk fun K17 hK17 => ?_
 refine go_pvs 3 [0] [(5, .pointer (some (⟨g1, 22, none⟩ : Addr)))] hs ?_; clear hs; intro a hs
 refine go_run hs (by rfl) (x_rld (g := g1) (o := 22) (p := (⟨g1, 22, none⟩ : Addr)) (v := .int .u32 x0.pc) (hrx2.old hw)) [5] ?_; clear hs; intro a hs
 refine go_pvs 5 [6] [(2, .int .u32 x0.pc)] hs ?_; clear hs; intro a hs
 refine go_end (hK17 _ _ ?_)
 refine wp_ret ?_
 obtain rfl := Option.some.inj H
 refine ret1 (t := 2) (v := .int .u32 x0.pc) hs (by kernel_rfl) (by kernel_rfl) ?_
 exact ⟨rfl, hw.only 0⟩

/-! (*rivet/machine.Machine).Regs: function 12 -/
noncomputable def machine_Machine_Regs (x0 : Smachine_Machine) : Option Sapi_Regs := some (x0.s : Sapi_Regs)
set_option maxRecDepth 100000 in
set_option maxHeartbeats 4000000 in
theorem machine_Machine_Regs.calls (A0 : Option Addr) (x0 : Smachine_Machine) (r : Sapi_Regs) (w0 : World) (hr0 : rSmachine_Machine w0 A0 x0) (H : machine_Machine_Regs x0 = some r) :
    Calls Try.prog 12 #[.pointer A0] w0 fun e w' => e = .returned (.agg (eSapi_Regs.enc r).toArray) ∧ St [] w0 w' [] := by
 have hw : St [] w0 w0 [] := St.nil w0
 unfold machine_Machine_Regs at H
 refine go_fn Try.func12 rfl Try.ntmps12 ?_; intro a hs
 have hk3 := hr0; obtain ⟨g1, Aa5, Aa8, cc9, Aa12, cc13, hA4, hrx2, hr6, hr10, hr14⟩ := hr0; subst hA4
 refine go_sk fun K16 hK16 => ?_
 obtain ⟨ad17, wd18, hx19, hw⟩ := x_alloc1 (P := Try.prog) (elem := 26) (ty := 0) (z := .agg (eSapi_Regs.enc (⟨(Vector.replicate 16 0), 0, false, false, false, false⟩ : Sapi_Regs)).toArray) hs hw eSapi_Regs (⟨(Vector.replicate 16 0), 0, false, false, false, false⟩ : Sapi_Regs) (by kernel_rfl) (by kernel_rfl)
 refine go_run hs (by rfl) hx19 [] ?_; clear hs; intro a hs
 refine go_end (hK16 _ _ ?_)
 refine go_sk fun K21 hK21 => ?_
 refine go_pvs 3 [0] [(5, .pointer (some (⟨g1, 1, none⟩ : Addr)))] hs ?_; clear hs; intro a hs
 refine go_run hs (by rfl) (x_rlds (g := g1) (o := 1) (p := (⟨g1, 1, none⟩ : Addr)) (vs := (eSapi_Regs.enc x0.s)) (hrx2.old hw)) [5] ?_; clear hs; intro a hs
 obtain ⟨wd22, hx23, hw⟩ := x_put (P := Try.prog) (ty := 0) (t := 26) (x := (Operand.tmp 2)) (y := (Operand.tmp 6)) (off := 0) (p := ad17) (v := .agg (eSapi_Regs.enc x0.s).toArray) (vs := (eSapi_Regs.enc x0.s)) (i := 0) (e' := ((x0.s : Sapi_Regs) : Sapi_Regs)) hs hw rfl (one_ok (⟨(Vector.replicate 16 0), 0, false, false, false, false⟩ : Sapi_Regs)).1 (one_ok (⟨(Vector.replicate 16 0), 0, false, false, false, false⟩ : Sapi_Regs)).2 (by kernel_rfl) (one_at _ _) (by kernel_rfl) rfl (by kernel_rfl) (Nat.le_of_ble_eq_true rfl) (eSapi_Regs.one _) (by kernel_rfl)
 refine go_unit hs (by rfl) hx23 [6] ?_; clear hs; intro a hs
 replace hw : St [] w0 wd22 [own 26 eSapi_Regs (some ad17) 1 [(x0.s : Sapi_Regs)]] := hw
 refine go_end (hK21 _ _ ?_)
 refine wp_ret ?_
 obtain rfl := Option.some.inj H
 replace hs : Slots a 7 [(2, .pointer (some ad17))] := hs.kx
 refine ret1g (L := [(2, .pointer (some ad17))]) (r1 := .cell 2 26) (v1 := .agg (eSapi_Regs.enc (x0.s : Sapi_Regs)).toArray) hs (by kernel_rfl) ⟨_, (show lk 2 [(2, .pointer (some ad17))] = some (.pointer (some ad17)) by kernel_rfl), lv_row (E := eSapi_Regs) (x := (x0.s : Sapi_Regs)) (by kernel_rfl) (by kernel_rfl) (Rd.of_own (hw.up 0))⟩ ?_
 exact ⟨rfl, hw.only 0⟩

/-! (*rivet/machine.Machine).Out: function 15 -/
noncomputable def machine_Machine_Out (x0 : Smachine_Machine) : Option (List Int) := ((slices_Clone_uint32_uint32 x0.out).bind fun t19 => (some t19))
set_option maxRecDepth 100000 in
set_option maxHeartbeats 4000000 in
theorem machine_Machine_Out.calls (A0 : Option Addr) (x0 : Smachine_Machine) (r : (List Int)) (w0 : World) (hr0 : rSmachine_Machine w0 A0 x0) (H : machine_Machine_Out x0 = some r) :
    Calls Try.prog 15 #[.pointer A0] w0 fun e w' => ∃ A_0 c_0, e = .returned (.slice A_0 r.length c_0) ∧ St [] w0 w' [own 23 (eI .u32) A_0 c_0 r] := by
 have hw : St [] w0 w0 [] := St.nil w0
 unfold machine_Machine_Out at H
 refine go_fn Try.func15 rfl Try.ntmps15 ?_; intro a hs
 have hk3 := hr0; obtain ⟨g1, Aa5, Aa8, cc9, Aa12, cc13, hA4, hrx2, hr6, hr10, hr14⟩ := hr0; subst hA4
 refine go_sp [] [(0, .pointer (some (⟨g1, 0, none⟩ : Addr)))] hs ?_; clear hs; intro a hs
 refine go_sk fun K17 hK17 => ?_
 refine go_pvs 3 [0] [(5, .pointer (some (⟨g1, 25, none⟩ : Addr)))] hs ?_; clear hs; intro a hs
 refine go_run hs (by rfl) (x_rld (g := g1) (o := 25) (p := (⟨g1, 25, none⟩ : Addr)) (v := .slice Aa12 x0.out.length cc13) (hrx2.old hw)) [5] ?_; clear hs; intro a hs
 obtain ⟨t19, hx20, H⟩ := bind_some H
 refine go_call hs (by rfl) (slices_Clone_uint32_uint32.calls Aa12 cc13 x0.out t19 _ (hr14.old hw) hx20) ?_
 rintro e wd23 ⟨Aa21, cc22, rfl, hw24⟩
 refine ⟨_, rfl, ?_⟩
 replace hw := hw.call hw24
 clear hs; intro a hs; replace hs := hs.rms [6]
 refine go_pvs 6 [7] [(2, .slice Aa21 t19.length cc22)] hs ?_; clear hs; intro a hs
 refine go_end (hK17 _ _ ?_)
 refine wp_ret ?_
 obtain rfl := Option.some.inj H
 refine ret1 (t := 2) (v := .slice Aa21 t19.length cc22) hs (by kernel_rfl) (by kernel_rfl) ?_
 exact ⟨Aa21, cc22, rfl, hw.only 1⟩

/-! rivet/rivetref06.New: function 28 -/
noncomputable def rivetref06_New (a0 : Int) (l1 : List Int) : Option ((Option Srivetref06_Machine) × Int) := ((rivetref05_New a0).bind fun ⟨t4, t5⟩ => ((match t4 with | none => (if t5 = 0 then (if ([] : List Int).length + l1.length ≤ 35184372088832 then some ((some (⟨(none : Option Srivetref05_Memory), (⟨(Vector.replicate 16 0), 0, false, false, false, false⟩ : Sapi_Regs), 0, 0, ([] : List Int) ++ l1, ([] : List Int)⟩ : Srivetref06_Machine)), 0) else none) else some ((none : Option Srivetref06_Machine), t5)) | some x11 => (if t5 = 0 then (if ([] : List Int).length + l1.length ≤ 35184372088832 then some ((some (⟨(some x11), (⟨(Vector.replicate 16 0), 0, false, false, false, false⟩ : Sapi_Regs), 0, 0, ([] : List Int) ++ l1, ([] : List Int)⟩ : Srivetref06_Machine)), 0) else none) else some ((none : Option Srivetref06_Machine), t5)))))
set_option maxRecDepth 100000 in
set_option maxHeartbeats 4000000 in
theorem rivetref06_New.calls (a0 : Int) (A1 : Option Addr) (c1 : Nat) (l1 : List Int) (r : (Option Srivetref06_Machine) × Int) (w0 : World) (hr1 : Rd w0 (eI .u32) A1 c1 l1) (H : rivetref06_New a0 l1 = some r) :
    Calls Try.prog 28 #[.int .i64 a0, .slice A1 l1.length c1] w0 fun e w' => ∃ A_0, e = .returned (.tuple #[.pointer A_0, .int .i64 r.2]) ∧ St [] w0 w' [oM mSrivetref06_Machine A_0 r.1] := by
 have hw : St [] w0 w0 [] := St.nil w0
 unfold rivetref06_New at H
 refine go_fn Try.func28 rfl Try.ntmps28 ?_; intro a hs
 refine go_sp [] [] hs ?_; clear hs; intro a hs
 refine go_sk fun K2 hK2 => ?_
 refine go_pvs 1 [0] [(9, .int .i64 a0)] hs ?_; clear hs; intro a hs
 obtain ⟨⟨t4, t5⟩, hx6, H⟩ := bind_some H
 refine go_call hs (by rfl) (rivetref05_New.calls a0 (t4, t5) _ hx6) ?_
 rintro e wd8 ⟨Aa7, rfl, hw9⟩
 refine ⟨_, rfl, ?_⟩
 replace hw := hw.call hw9
 clear hs; intro a hs; replace hs := hs.rms [9]
 rcases t4 with _ | x11
 ·obtain ⟨hAg, hwg⟩ := St.oM_none hw
  clear hw; subst hAg; have hw := hwg; clear hwg
  refine go_pvs 7 [10] [(6, .pointer none), (7, .int .i64 t5)] hs ?_; clear hs; intro a hs
  refine go_end (hK2 _ _ ?_)
  refine go_seq_k fun K12 hK12 => ?_
  refine go_sp [] [(14, .bool (t5 != 0))] hs ?_; clear hs; intro a hs
  refine go_cond hs (t5 != 0) (fun hc => ?_) fun hc => ?_
  ·replace H := ite_f H (bne_iff_ne.1 hc)
   have hb14 := hc
   rw [hb14] at hs
   refine go_sp [1, 6, 7, 14] [(4, .pointer none), (5, .int .i64 t5)] hs ?_; clear hs; intro a hs
   refine wp_ret ?_
   refine th_ret ?_
   obtain rfl := Option.some.inj H
   replace hw := St.oM_nil mSrivetref06_Machine hw
   refine ret2 (t1 := 4) (v1 := .pointer none) (t2 := 5) (v2 := .int .i64 t5) hs (by kernel_rfl) (by kernel_rfl) (by kernel_rfl) ?_
   exact ⟨none, rfl, hw.only 1⟩
  ·replace H := ite_t H (bne_eq_false_iff_eq.1 hc)
   have hb17 := hc
   rw [hb17] at hs
   refine wp_skip ?_
   refine hK12 _ _ ?_
   refine go_sk fun K18 hK18 => ?_
   refine go_pvs 1 [6, 7, 14] [(16, .pointer none)] hs ?_; clear hs; intro a hs
   obtain ⟨Aa19, cc20, wd21, hx22, hw⟩ := n_lit0 (P := Try.prog) (t := 22) (ty := 22) (T := 23) hs hw (eI .u32) (by kernel_rfl) (by kernel_rfl)
   refine go_run hs (by rfl) hx22 [] ?_; clear hs; intro a hs
   refine go_pvs 3 [1] [(18, .slice A1 l1.length c1)] hs ?_; clear hs; intro a hs
   obtain ⟨hp24, H⟩ := ite_only H
   have hsrc29 : Src Try.prog (eI .u32).sz 22 (.slice A1 l1.length c1) l1.length (l1.flatMap (eI .u32).enc) _ := (Src.of_rd (E := (eI .u32)) (e' := 23) (by kernel_rfl) (hr1.old hw))
   obtain ⟨Aa25, cc26, wd27, hx28, hw⟩ := x_append (P := Try.prog) (t := 22) (tx := 22) (ty := 22) (x := (Operand.tmp 17)) (y := (Operand.tmp 18)) (z := .int .u32 0) (bytes := 4) (l2 := l1) hs hw (by kernel_rfl) (by kernel_rfl) (by kernel_rfl) (by kernel_rfl) (by kernel_rfl) hsrc29 (by omega) (by omega)
   refine go_run hs (by rfl) hx28 [17, 18] ?_; clear hs; intro a hs
   refine go_pvs 5 [16, 19] [(20, .agg #[.pointer none, .int .u32 0, .int .u32 0, .int .u32 0, .int .u32 0, .int .u32 0, .int .u32 0, .int .u32 0, .int .u32 0, .int .u32 0, .int .u32 0, .int .u32 0, .int .u32 0, .int .u32 0, .int .u32 0, .int .u32 0, .int .u32 0, .int .u32 0, .bool false, .bool false, .bool false, .bool false, .int .u32 0, .int .i64 0, .slice Aa25 (([] : List Int) ++ l1).length cc26, .slice none 0 0])] hs ?_; clear hs; intro a hs
   obtain ⟨g30, wd31, hx32, hw⟩ := x_boxc (P := Try.prog) (elem := 72) (v := (Operand.tmp 20)) (ty := 31) (cs := [.pointer none] ++ eSapi_Regs.enc (⟨(Vector.replicate 16 0), 0, false, false, false, false⟩ : Sapi_Regs) ++ [.int .u32 0, .int .i64 0, .slice Aa25 (([] : List Int) ++ l1).length cc26, .slice none 0 0]) hs hw (by kernel_rfl)
   refine go_run hs (by rfl) hx32 [20] ?_; clear hs; intro a hs
   replace hw := St.own_nil hw 23 (eI .u32)
   replace hw : St [] w0 wd31 [own 23 (eI .u32) none 0 ([] : List Int), box g30 72 ([.pointer none] ++ eSapi_Regs.enc (⟨(Vector.replicate 16 0), 0, false, false, false, false⟩ : Sapi_Regs) ++ [.int .u32 0, .int .i64 0, .slice Aa25 (([] : List Int) ++ l1).length cc26, .slice none ([] : List Int).length 0]), own 23 (eI .u32) Aa25 cc26 (([] : List Int) ++ l1)] := hw
   refine go_pvs 8 [21] [(4, .pointer (some (⟨g30, 0, none⟩ : Addr))), (5, .int .i64 0)] hs ?_; clear hs; intro a hs
   refine go_end (hK18 _ _ ?_)
   refine wp_ret ?_
   obtain rfl := Option.some.inj H
   replace hw := St.oM_nil mSrivetref05_Memory hw
   replace hw := hw.up 3
   replace hw := St.rdo_of_own hw
   replace hw := hw.up 2
   replace hw := hw.up 1
   replace hw := hw.up 2
   replace hw := hw.up 3
   replace hw := mSrivetref06_Machine.close (x := (⟨(none : Option Srivetref05_Memory), (⟨(Vector.replicate 16 0), 0, false, false, false, false⟩ : Sapi_Regs), 0, 0, ([] : List Int) ++ l1, ([] : List Int)⟩ : Srivetref06_Machine)) hw
   refine ret2 (t1 := 4) (v1 := .pointer (some (⟨g30, 0, none⟩ : Addr))) (t2 := 5) (v2 := .int .i64 0) hs (by kernel_rfl) (by kernel_rfl) (by kernel_rfl) ?_
   exact ⟨(some ⟨g30, 0, none⟩), rfl, hw.only 1⟩
 ·replace hw : St [] w0 _ [mSrivetref05_Memory Aa7 x11] := hw
  obtain ⟨g36, Aa37, cc38, hAg, hwg⟩ := mSrivetref05_Memory.open hw
  clear hw; subst hAg; have hw := hwg; clear hwg
  replace hw : St [] w0 _ [box g36 99 [.slice Aa37 x11.B.length cc38], own 5 (eI .u8) Aa37 cc38 x11.B] := hw
  refine go_pvs 7 [10] [(6, .pointer (some (⟨g36, 0, none⟩ : Addr))), (7, .int .i64 t5)] hs ?_; clear hs; intro a hs
  refine go_end (hK2 _ _ ?_)
  refine go_seq_k fun K40 hK40 => ?_
  refine go_sp [] [(14, .bool (t5 != 0))] hs ?_; clear hs; intro a hs
  refine go_cond hs (t5 != 0) (fun hc => ?_) fun hc => ?_
  ·replace H := ite_f H (bne_iff_ne.1 hc)
   have hb42 := hc
   rw [hb42] at hs
   refine go_sp [1, 6, 7, 14] [(4, .pointer none), (5, .int .i64 t5)] hs ?_; clear hs; intro a hs
   refine wp_ret ?_
   refine th_ret ?_
   obtain rfl := Option.some.inj H
   replace hw := St.oM_nil mSrivetref06_Machine hw
   refine ret2 (t1 := 4) (v1 := .pointer none) (t2 := 5) (v2 := .int .i64 t5) hs (by kernel_rfl) (by kernel_rfl) (by kernel_rfl) ?_
   exact ⟨none, rfl, hw.only 1⟩
  ·replace H := ite_t H (bne_eq_false_iff_eq.1 hc)
   have hb45 := hc
   rw [hb45] at hs
   refine wp_skip ?_
   refine hK40 _ _ ?_
   refine go_sk fun K46 hK46 => ?_
   refine go_pvs 1 [6, 7, 14] [(16, .pointer (some (⟨g36, 0, none⟩ : Addr)))] hs ?_; clear hs; intro a hs
   obtain ⟨Aa47, cc48, wd49, hx50, hw⟩ := n_lit0 (P := Try.prog) (t := 22) (ty := 22) (T := 23) hs hw (eI .u32) (by kernel_rfl) (by kernel_rfl)
   refine go_run hs (by rfl) hx50 [] ?_; clear hs; intro a hs
   refine go_pvs 3 [1] [(18, .slice A1 l1.length c1)] hs ?_; clear hs; intro a hs
   obtain ⟨hp52, H⟩ := ite_only H
   have hsrc57 : Src Try.prog (eI .u32).sz 22 (.slice A1 l1.length c1) l1.length (l1.flatMap (eI .u32).enc) _ := (Src.of_rd (E := (eI .u32)) (e' := 23) (by kernel_rfl) (hr1.old hw))
   obtain ⟨Aa53, cc54, wd55, hx56, hw⟩ := x_append (P := Try.prog) (t := 22) (tx := 22) (ty := 22) (x := (Operand.tmp 17)) (y := (Operand.tmp 18)) (z := .int .u32 0) (bytes := 4) (l2 := l1) hs hw (by kernel_rfl) (by kernel_rfl) (by kernel_rfl) (by kernel_rfl) (by kernel_rfl) hsrc57 (by omega) (by omega)
   refine go_run hs (by rfl) hx56 [17, 18] ?_; clear hs; intro a hs
   refine go_pvs 5 [16, 19] [(20, .agg #[.pointer (some (⟨g36, 0, none⟩ : Addr)), .int .u32 0, .int .u32 0, .int .u32 0, .int .u32 0, .int .u32 0, .int .u32 0, .int .u32 0, .int .u32 0, .int .u32 0, .int .u32 0, .int .u32 0, .int .u32 0, .int .u32 0, .int .u32 0, .int .u32 0, .int .u32 0, .int .u32 0, .bool false, .bool false, .bool false, .bool false, .int .u32 0, .int .i64 0, .slice Aa53 (([] : List Int) ++ l1).length cc54, .slice none 0 0])] hs ?_; clear hs; intro a hs
   obtain ⟨g58, wd59, hx60, hw⟩ := x_boxc (P := Try.prog) (elem := 72) (v := (Operand.tmp 20)) (ty := 31) (cs := [.pointer (some (⟨g36, 0, none⟩ : Addr))] ++ eSapi_Regs.enc (⟨(Vector.replicate 16 0), 0, false, false, false, false⟩ : Sapi_Regs) ++ [.int .u32 0, .int .i64 0, .slice Aa53 (([] : List Int) ++ l1).length cc54, .slice none 0 0]) hs hw (by kernel_rfl)
   refine go_run hs (by rfl) hx60 [20] ?_; clear hs; intro a hs
   replace hw := St.own_nil hw 23 (eI .u32)
   replace hw : St [] w0 wd59 [own 23 (eI .u32) none 0 ([] : List Int), box g58 72 ([.pointer (some (⟨g36, 0, none⟩ : Addr))] ++ eSapi_Regs.enc (⟨(Vector.replicate 16 0), 0, false, false, false, false⟩ : Sapi_Regs) ++ [.int .u32 0, .int .i64 0, .slice Aa53 (([] : List Int) ++ l1).length cc54, .slice none ([] : List Int).length 0]), own 23 (eI .u32) Aa53 cc54 (([] : List Int) ++ l1), box g36 99 [.slice Aa37 x11.B.length cc38], own 5 (eI .u8) Aa37 cc38 x11.B] := hw
   refine go_pvs 8 [21] [(4, .pointer (some (⟨g58, 0, none⟩ : Addr))), (5, .int .i64 0)] hs ?_; clear hs; intro a hs
   refine go_end (hK46 _ _ ?_)
   refine wp_ret ?_
   obtain rfl := Option.some.inj H
   replace hw := hw.up 4
   replace hw := hw.up 4
   replace hw := mSrivetref05_Memory.close (x := x11) hw
   replace hw := St.oM_of (m := mSrivetref05_Memory) (A := (some ⟨g36, 0, none⟩)) (x := x11) hw
   replace hw := hw.up 3
   replace hw := St.rdo_of_own hw
   replace hw := hw.up 2
   replace hw := hw.up 1
   replace hw := hw.up 2
   replace hw := hw.up 3
   replace hw := mSrivetref06_Machine.close (x := (⟨(some x11), (⟨(Vector.replicate 16 0), 0, false, false, false, false⟩ : Sapi_Regs), 0, 0, ([] : List Int) ++ l1, ([] : List Int)⟩ : Srivetref06_Machine)) hw
   refine ret2 (t1 := 4) (v1 := .pointer (some (⟨g58, 0, none⟩ : Addr))) (t2 := 5) (v2 := .int .i64 0) hs (by kernel_rfl) (by kernel_rfl) (by kernel_rfl) ?_
   exact ⟨(some ⟨g58, 0, none⟩), rfl, hw.only 1⟩

/-! (*rivet/rivetref06.Machine).Start: function 30 -/
noncomputable def rivetref06_Machine_Start (x0 : Srivetref06_Machine) (a1 : Int) (a2 : Sapi_Regs) : Option Srivetref06_Machine := ((x0.M).bind fun y16 => (some (⟨(some y16), a2, a1, 0, x0.In, x0.Out⟩ : Srivetref06_Machine)))
set_option maxRecDepth 100000 in
set_option maxHeartbeats 4000000 in
theorem rivetref06_Machine_Start.calls (ks0 : List Nat) (A0 : Option Addr) (x0 : Srivetref06_Machine) (a1 : Int) (a2 : Sapi_Regs) (r : Srivetref06_Machine) (w0 : World) (hw : St ks0 w0 w0 [mSrivetref06_Machine A0 x0]) (H : rivetref06_Machine_Start x0 a1 a2 = some r) :
    Calls Try.prog 30 #[.pointer A0, .int .u32 a1, .agg (eSapi_Regs.enc a2).toArray] w0 fun e w' => e = .returned (.tuple #[]) ∧ St ks0 w0 w' [mSrivetref06_Machine A0 r] := by
 unfold rivetref06_Machine_Start at H
 refine go_fn Try.func30 rfl Try.ntmps30 ?_; intro a hs
 obtain ⟨g1, hAg, hwg⟩ := mSrivetref06_Machine.addr hw
 clear hw; subst hAg; have hw := hwg; clear hwg
 replace hw : St ks0 w0 _ [mSrivetref06_Machine (some ⟨g1, 0, none⟩) x0] := hw
 refine go_sk fun K2 hK2 => ?_
 obtain ⟨ad3, wd4, hx5, hw⟩ := x_box1 (P := Try.prog) (elem := 26) (v := (Operand.tmp 2)) (ty := 0) hs hw eSapi_Regs a2 (by kernel_rfl)
 refine go_run hs (by rfl) hx5 [2] ?_; clear hs; intro a hs
 refine go_end (hK2 _ _ ?_)
 refine go_sk fun K7 hK7 => ?_
 refine go_pvs 4 [1] [(7, .int .u32 a1), (9, .pointer (some (⟨g1, 22, none⟩ : Addr)))] hs ?_; clear hs; intro a hs
 replace hw := hw.up 1
 obtain ⟨Aa8, Aa10, cc11, Aa13, cc14, hw⟩ := mSrivetref06_Machine.open1 hw
 replace hw : St ks0 w0 _ [box g1 72 ([.pointer Aa8] ++ eSapi_Regs.enc x0.S ++ [.int .u32 x0.PC, .int .i64 x0.Status, .slice Aa10 x0.In.length cc11, .slice Aa13 x0.Out.length cc14]), oM mSrivetref05_Memory Aa8 x0.M, rdo (eI .u32) Aa10 cc11 x0.In, own 23 (eI .u32) Aa13 cc14 x0.Out, own 26 eSapi_Regs (some ad3) 1 [a2]] := hw
 replace hw := hw.up 1
 obtain ⟨y16, hy17, H⟩ := bind_some H
 replace hw := St.oM_some hw hy17
 obtain ⟨g18, hAg, hwg⟩ := mSrivetref05_Memory.addr hw
 clear hw; subst hAg; have hw := hwg; clear hwg
 replace hw : St ks0 w0 _ [mSrivetref05_Memory (some ⟨g18, 0, none⟩) y16, box g1 72 ([.pointer (some ⟨g18, 0, none⟩)] ++ eSapi_Regs.enc x0.S ++ [.int .u32 x0.PC, .int .i64 x0.Status, .slice Aa10 x0.In.length cc11, .slice Aa13 x0.Out.length cc14]), rdo (eI .u32) Aa10 cc11 x0.In, own 23 (eI .u32) Aa13 cc14 x0.Out, own 26 eSapi_Regs (some ad3) 1 [a2]] := hw
 replace hw : St ks0 w0 _ [mSrivetref05_Memory (some ⟨g18, 0, none⟩) y16, box g1 72 ([.pointer (some (⟨g18, 0, none⟩ : Addr))] ++ eSapi_Regs.enc x0.S ++ [.int .u32 x0.PC, .int .i64 x0.Status, .slice Aa10 x0.In.length cc11, .slice Aa13 x0.Out.length cc14]), rdo (eI .u32) Aa10 cc11 x0.In, own 23 (eI .u32) Aa13 cc14 x0.Out, own 26 eSapi_Regs (some ad3) 1 [a2]] := hw
 replace hw := hw.up 1
 obtain ⟨wd19, hx20, hw⟩ := x_bput (P := Try.prog) (ty := 0) (t := 23) (y := (Operand.tmp 9)) (z := (Operand.tmp 7)) (o := 22) (p := (⟨g1, 22, none⟩ : Addr)) (v := .int .u32 a1) (vs := [.int .u32 a1]) (cs' := [.pointer (some (⟨g18, 0, none⟩ : Addr))] ++ eSapi_Regs.enc x0.S ++ [.int .u32 a1, .int .i64 x0.Status, .slice Aa10 x0.In.length cc11, .slice Aa13 x0.Out.length cc14]) hs hw (by kernel_rfl) rfl (by kernel_rfl) rfl (by kernel_rfl) (by kernel_rfl) (by simp [Value.oneCell']) (by kernel_rfl)
 refine go_unit hs (by rfl) hx20 [7, 9] ?_; clear hs; intro a hs
 refine go_end (hK7 _ _ ?_)
 refine go_sk fun K21 hK21 => ?_
 refine go_pvs 1 [] [(10, .pointer (some (⟨g1, 0, none⟩ : Addr)))] hs ?_; clear hs; intro a hs
 refine go_run hs (by rfl) (x_lds (off := 0) (p := ad3) (cs := (eSapi_Regs.enc a2)) (Rd.of_own (hw.up 4)) (one_ok a2) (one_at _ _)) [5] ?_; clear hs; intro a hs
 refine go_pvs 4 [10] [(13, .pointer (some (⟨g1, 1, none⟩ : Addr)))] hs ?_; clear hs; intro a hs
 obtain ⟨wd22, hx23, hw⟩ := x_bput (P := Try.prog) (ty := 0) (t := 26) (y := (Operand.tmp 13)) (z := (Operand.tmp 11)) (o := 1) (p := (⟨g1, 1, none⟩ : Addr)) (v := .agg (eSapi_Regs.enc a2).toArray) (vs := (eSapi_Regs.enc a2)) (cs' := [.pointer (some (⟨g18, 0, none⟩ : Addr))] ++ eSapi_Regs.enc a2 ++ [.int .u32 a1, .int .i64 x0.Status, .slice Aa10 x0.In.length cc11, .slice Aa13 x0.Out.length cc14]) hs hw (by kernel_rfl) rfl (by kernel_rfl) rfl (by kernel_rfl) (by kernel_rfl) (eSapi_Regs.one _) (by kernel_rfl)
 refine go_unit hs (by rfl) hx23 [11, 13] ?_; clear hs; intro a hs
 refine go_end (hK21 _ _ ?_)
 refine go_region ?_
 refine go_pvs 3 [0] [(16, .pointer (some (⟨g1, 23, none⟩ : Addr)))] hs ?_; clear hs; intro a hs
 obtain ⟨wd24, hx25, hw⟩ := x_bput (P := Try.prog) (ty := 0) (t := 3) (y := (Operand.tmp 16)) (z := (Operand.const (Value.int IntKind.i64 0))) (o := 23) (p := (⟨g1, 23, none⟩ : Addr)) (v := .int .i64 0) (vs := [.int .i64 0]) (cs' := [.pointer (some (⟨g18, 0, none⟩ : Addr))] ++ eSapi_Regs.enc a2 ++ [.int .u32 a1, .int .i64 0, .slice Aa10 x0.In.length cc11, .slice Aa13 x0.Out.length cc14]) hs hw (by kernel_rfl) rfl (by kernel_rfl) rfl (by kernel_rfl) (by kernel_rfl) (by simp [Value.oneCell']) (by kernel_rfl)
 refine go_unit hs (by rfl) hx25 [16] ?_; clear hs; intro a hs
 refine go_end ?_
 obtain rfl := Option.some.inj H
 replace hw := hw.up 1
 replace hw := St.oM_of (m := mSrivetref05_Memory) (A := (some ⟨g18, 0, none⟩)) (x := y16) hw
 replace hw := hw.up 3
 replace hw := hw.up 3
 replace hw := hw.up 2
 replace hw := hw.up 3
 replace hw := mSrivetref06_Machine.close (x := (⟨(some y16), a2, a1, 0, x0.In, x0.Out⟩ : Srivetref06_Machine)) hw
 refine end0 hs (by kernel_rfl) ?_
 exact ⟨rfl, hw.only 1⟩

/-! (*rivet/machine.Machine).load: function 49 -/
noncomputable def machine_Machine_load (x0 : Smachine_Machine) (a1 : Int) (a2 : Int) : Option (Int × Int × Smachine_Machine) := (if a1 = 1 then ((x0.Memory).bind fun y15 => (((memory_Memory_Byte y15 a2).bind fun ⟨t19, t20⟩ => (some (wu32 t19, t20, x0))))) else (if a2 = 4294967232 then ((x0.Memory).bind fun y38 => ((if (x0.in'.length : Int) = 0 then some (0, 0, x0) else (if 0 ≤ (0 : Int) ∧ (0 : Int) < (x0.in'.length : Int) then (nm (ix (eI .u32).d x0.in' (0 : Int)) fun y47 => (if 0 ≤ (1 : Int) ∧ (1 : Int) ≤ (x0.in'.length : Int) then some (y47, 0, (⟨(some y38), x0.s, x0.pc, x0.status, x0.in'.drop (1 : Int).toNat, x0.out⟩ : Smachine_Machine)) else none)) else none)))) else ((x0.Memory).bind fun y69 => (((memory_Memory_Word y69 a2).bind fun ⟨t73, t74⟩ => (some (t73, t74, x0)))))))
set_option maxRecDepth 100000 in
set_option maxHeartbeats 4000000 in
theorem machine_Machine_load.calls (ks0 : List Nat) (A0 : Option Addr) (x0 : Smachine_Machine) (a1 : Int) (a2 : Int) (r : Int × Int × Smachine_Machine) (w0 : World) (hw : St ks0 w0 w0 [mSmachine_Machine A0 x0]) (H : machine_Machine_load x0 a1 a2 = some r) :
    Calls Try.prog 49 #[.pointer A0, .int .i64 a1, .int .u32 a2] w0 fun e w' => e = .returned (.tuple #[.int .u32 r.1, .int .i64 r.2.1]) ∧ St ks0 w0 w' [mSmachine_Machine A0 r.2.2] := by
 unfold machine_Machine_load at H
 refine go_fn Try.func49 rfl Try.ntmps49 ?_; intro a hs
 obtain ⟨g1, hAg, hwg⟩ := mSmachine_Machine.addr hw
 clear hw; subst hAg; have hw := hwg; clear hwg
 replace hw : St ks0 w0 _ [mSmachine_Machine (some ⟨g1, 0, none⟩) x0] := hw
 refine go_sp [] [(0, .pointer (some (⟨g1, 0, none⟩ : Addr)))] hs ?_; clear hs; intro a hs
 refine go_seq_k fun K3 hK3 => ?_
 refine wp_block ?_
 refine go_sp [1] [(11, .bool (a1 == 1))] hs ?_; clear hs; intro a hs
 refine go_cond hs (a1 == 1) (fun hc => ?_) fun hc => ?_
 ·replace H := ite_t H (beq_iff_eq.1 hc)
  have hb5 := hc
  rw [hb5] at hs
  refine go_sk fun K6 hK6 => ?_
  refine go_pvs 3 [0, 11] [(17, .pointer (some (⟨g1, 0, none⟩ : Addr)))] hs ?_; clear hs; intro a hs
  obtain ⟨Aa7, Aa9, cc10, Aa12, cc13, hw⟩ := mSmachine_Machine.open1 hw
  replace hw : St ks0 w0 _ [box g1 40 ([.pointer Aa7] ++ eSapi_Regs.enc x0.s ++ [.int .u32 x0.pc, .int .i64 x0.status, .slice Aa9 x0.in'.length cc10, .slice Aa12 x0.out.length cc13]), oM mSmemory_Memory Aa7 x0.Memory, rdo (eI .u32) Aa9 cc10 x0.in', own 23 (eI .u32) Aa12 cc13 x0.out] := hw
  replace hw := hw.up 1
  obtain ⟨y15, hy16, H⟩ := bind_some H
  replace hw := St.oM_some hw hy16
  obtain ⟨g17, hAg, hwg⟩ := St.one hw
  clear hw; subst hAg; have hw := hwg; clear hwg
  replace hw : St ks0 w0 _ [own 75 eSmemory_Memory (some (⟨g17, 0, none⟩ : Addr)) 1 [y15], box g1 40 ([.pointer (some (⟨g17, 0, none⟩ : Addr))] ++ eSapi_Regs.enc x0.s ++ [.int .u32 x0.pc, .int .i64 x0.status, .slice Aa9 x0.in'.length cc10, .slice Aa12 x0.out.length cc13]), rdo (eI .u32) Aa9 cc10 x0.in', own 23 (eI .u32) Aa12 cc13 x0.out] := hw
  refine go_run hs (by rfl) (x_bld (g := g1) (o := 0) (p := (⟨g1, 0, none⟩ : Addr)) (v := .pointer (some (⟨g17, 0, none⟩ : Addr))) (hw.up 1)) [17] ?_; clear hs; intro a hs
  refine go_pvs 5 [2] [(19, .int .u32 a2)] hs ?_; clear hs; intro a hs
  obtain ⟨⟨t19, t20⟩, hx21, H⟩ := bind_some H
  refine go_call hs (by rfl) (memory_Memory_Byte.calls (some (⟨g17, 0, none⟩ : Addr)) y15 a2 (t19, t20) _ (Rd.of_own (hw.up 0)) hx21) ?_
  rintro e wd22 ⟨rfl, hw23⟩
  refine ⟨_, rfl, ?_⟩
  replace hw := hw.call hw23
  clear hs; intro a hs; replace hs := hs.rms [18, 19]
  refine go_pvs 11 [20] [(8, .int .u8 t19), (9, .int .i64 t20)] hs ?_; clear hs; intro a hs
  refine go_end (hK6 _ _ ?_)
  refine go_sp [8, 9] [(6, .int .u32 (wu32 t19)), (7, .int .i64 t20)] hs ?_; clear hs; intro a hs
  refine wp_ret ?_
  refine ib_ret ?_
  refine th_ret ?_
  obtain rfl := Option.some.inj H
  replace hw := St.oM_back (m := mSmemory_Memory) (A := (some (⟨g17, 0, none⟩ : Addr))) (x := y15) hw hy16
  replace hw := hw.up 3
  replace hw := hw.up 3
  replace hw := hw.up 2
  replace hw := hw.up 3
  replace hw := mSmachine_Machine.close (x := x0) hw
  refine ret2 (t1 := 6) (v1 := .int .u32 (wu32 t19)) (t2 := 7) (v2 := .int .i64 t20) hs (by kernel_rfl) (by kernel_rfl) (by kernel_rfl) ?_
  exact ⟨rfl, hw.only 1⟩
 ·replace H := ite_f H (beq_eq_false_iff_ne.1 hc)
  have hb25 := hc
  rw [hb25] at hs
  refine go_sp [11] [(26, .bool (a2 == 4294967232))] hs ?_; clear hs; intro a hs
  refine go_cond hs (a2 == 4294967232) (fun hc => ?_) fun hc => ?_
  ·replace H := ite_t H (beq_iff_eq.1 hc)
   have hb27 := hc
   rw [hb27] at hs
   refine go_seq_k fun K28 hK28 => ?_
   refine go_sk fun K29 hK29 => ?_
   refine go_pvs 3 [2, 26] [(31, .pointer (some (⟨g1, 24, none⟩ : Addr)))] hs ?_; clear hs; intro a hs
   obtain ⟨Aa30, Aa32, cc33, Aa35, cc36, hw⟩ := mSmachine_Machine.open1 hw
   replace hw : St ks0 w0 _ [box g1 40 ([.pointer Aa30] ++ eSapi_Regs.enc x0.s ++ [.int .u32 x0.pc, .int .i64 x0.status, .slice Aa32 x0.in'.length cc33, .slice Aa35 x0.out.length cc36]), oM mSmemory_Memory Aa30 x0.Memory, rdo (eI .u32) Aa32 cc33 x0.in', own 23 (eI .u32) Aa35 cc36 x0.out] := hw
   replace hw := hw.up 1
   obtain ⟨y38, hy39, H⟩ := bind_some H
   replace hw := St.oM_some hw hy39
   obtain ⟨g40, hAg, hwg⟩ := St.one hw
   clear hw; subst hAg; have hw := hwg; clear hwg
   replace hw : St ks0 w0 _ [own 75 eSmemory_Memory (some (⟨g40, 0, none⟩ : Addr)) 1 [y38], box g1 40 ([.pointer (some (⟨g40, 0, none⟩ : Addr))] ++ eSapi_Regs.enc x0.s ++ [.int .u32 x0.pc, .int .i64 x0.status, .slice Aa32 x0.in'.length cc33, .slice Aa35 x0.out.length cc36]), rdo (eI .u32) Aa32 cc33 x0.in', own 23 (eI .u32) Aa35 cc36 x0.out] := hw
   refine go_run hs (by rfl) (x_bld (g := g1) (o := 24) (p := (⟨g1, 24, none⟩ : Addr)) (v := .slice Aa32 x0.in'.length cc33) (hw.up 1)) [31] ?_; clear hs; intro a hs
   refine go_pvs 6 [32] [(34, .bool ((x0.in'.length : Int) == 0))] hs ?_; clear hs; intro a hs
   refine go_end (hK29 _ _ ?_)
   refine go_cond hs ((x0.in'.length : Int) == 0) (fun hc => ?_) fun hc => ?_
   ·replace H := ite_t H (beq_iff_eq.1 hc)
    have hb41 := hc
    rw [hb41] at hs
    refine go_sp [0, 34] [(6, .int .u32 0), (7, .int .i64 0)] hs ?_; clear hs; intro a hs
    refine wp_ret ?_
    refine th_ret ?_
    refine ib_ret ?_
    refine th_ret ?_
    obtain rfl := Option.some.inj H
    replace hw := St.oM_back (m := mSmemory_Memory) (A := (some (⟨g40, 0, none⟩ : Addr))) (x := y38) hw hy39
    replace hw := hw.up 3
    replace hw := hw.up 3
    replace hw := hw.up 2
    replace hw := hw.up 3
    replace hw := mSmachine_Machine.close (x := x0) hw
    refine ret2 (t1 := 6) (v1 := .int .u32 0) (t2 := 7) (v2 := .int .i64 0) hs (by kernel_rfl) (by kernel_rfl) (by kernel_rfl) ?_
    exact ⟨rfl, hw.only 1⟩
   ·replace H := ite_f H (beq_eq_false_iff_ne.1 hc)
    have hb43 := hc
    rw [hb43] at hs
    refine wp_skip ?_
    refine hK28 _ _ ?_
    refine go_sk fun K44 hK44 => ?_
    refine go_pvs 3 [34] [(37, .pointer (some (⟨g1, 24, none⟩ : Addr)))] hs ?_; clear hs; intro a hs
    refine go_run hs (by rfl) (x_bld (g := g1) (o := 24) (p := (⟨g1, 24, none⟩ : Addr)) (v := .slice Aa32 x0.in'.length cc33) (hw.up 1)) [37] ?_; clear hs; intro a hs
    obtain ⟨hp45, H⟩ := ite_only H
    obtain ⟨ad46, rfl⟩ := (Rd.of_rdo (hw.up 2)).some hp45.1 hp45.2
    refine go_run hs (by rfl) (x_idx (T := 23) (sz := 1) (a := ad46) (n := x0.in'.length) (cap := cc33) (k := .i64) (i := (0 : Int)) hp45) [38] ?_; clear hs; intro a hs
    refine go_run hs (by rfl) (x_ld (off := 0) (p := ad46.add (((0 : Int) : Int).toNat * 1)) (v := .int .u32 (ix (eI .u32).d x0.in' (0 : Int))) (Rd.of_rdo (hw.up 2)) hp45 rfl) [39] ?_; clear hs; intro a hs
    refine go_pvs 7 [40] [(10, .int .u32 (ix (eI .u32).d x0.in' (0 : Int)))] hs ?_; clear hs; intro a hs
    obtain ⟨y47, hy47, H⟩ := nm_some H
    replace hs : Slots a 58 [(0, .pointer (some (⟨g1, 0, none⟩ : Addr))), (10, .int .u32 y47)] := by rw [hy47]; exact hs.kx
    refine go_end (hK44 _ _ ?_)
    refine go_sk fun K48 hK48 => ?_
    refine go_pvs 4 [0] [(41, .pointer (some (⟨g1, 0, none⟩ : Addr))), (44, .pointer (some (⟨g1, 24, none⟩ : Addr)))] hs ?_; clear hs; intro a hs
    refine go_run hs (by rfl) (x_bld (g := g1) (o := 24) (p := (⟨g1, 24, none⟩ : Addr)) (v := .slice (some ad46) x0.in'.length cc33) (hw.up 1)) [44] ?_; clear hs; intro a hs
    obtain ⟨hp49, H⟩ := ite_only H
    obtain ⟨Aa50, cc51, hA54, hx52, hc53⟩ := c_loA (P := Try.prog) (ty := 22) (E := (eI .u32)) (T := 23) (t := 22) (x := (Operand.tmp 45)) (y := (Operand.const (Value.int IntKind.i64 1))) (k := .i64) hs (by kernel_rfl) (by kernel_rfl) (Rd.of_rdo (hw.up 2)) (by kernel_rfl) (by kernel_rfl) hp49.1 hp49.2
    refine go_run hs (by rfl) hx52 [45] ?_; clear hs; intro a hs
    refine go_pvs 8 [41] [(48, .pointer (some (⟨g1, 24, none⟩ : Addr)))] hs ?_; clear hs; intro a hs
    replace hw := hw.up 2
    replace hw := St.rdo_cut (A' := Aa50) (cap' := cc51) (l' := x0.in'.drop (1 : Int).toNat) hc53 hw
    replace hw := hw.up 2
    obtain ⟨wd56, hx57, hw⟩ := x_bput (P := Try.prog) (ty := 0) (t := 22) (y := (Operand.tmp 48)) (z := (Operand.tmp 46)) (o := 24) (p := (⟨g1, 24, none⟩ : Addr)) (v := .slice Aa50 (x0.in'.drop (1 : Int).toNat).length cc51) (vs := [.slice Aa50 (x0.in'.drop (1 : Int).toNat).length cc51]) (cs' := [.pointer (some (⟨g40, 0, none⟩ : Addr))] ++ eSapi_Regs.enc x0.s ++ [.int .u32 x0.pc, .int .i64 x0.status, .slice Aa50 (x0.in'.drop (1 : Int).toNat).length cc51, .slice Aa35 x0.out.length cc36]) hs hw (by kernel_rfl) rfl (by kernel_rfl) rfl (by kernel_rfl) (by kernel_rfl) (by simp [Value.oneCell']) (by kernel_rfl)
    refine go_unit hs (by rfl) hx57 [46, 48] ?_; clear hs; intro a hs
    refine go_end (hK48 _ _ ?_)
    refine go_sp [10] [(6, .int .u32 y47), (7, .int .i64 0)] hs ?_; clear hs; intro a hs
    refine wp_ret ?_
    refine ib_ret ?_
    refine th_ret ?_
    obtain rfl := Option.some.inj H
    replace hw := hw.up 2
    replace hw := St.oM_of (m := mSmemory_Memory) (A := (some (⟨g40, 0, none⟩ : Addr))) (x := y38) hw
    replace hw := hw.up 3
    replace hw := hw.up 3
    replace hw := hw.up 2
    replace hw := hw.up 3
    replace hw := mSmachine_Machine.close (x := (⟨(some y38), x0.s, x0.pc, x0.status, x0.in'.drop (1 : Int).toNat, x0.out⟩ : Smachine_Machine)) hw
    refine ret2 (t1 := 6) (v1 := .int .u32 y47) (t2 := 7) (v2 := .int .i64 0) hs (by kernel_rfl) (by kernel_rfl) (by kernel_rfl) ?_
    exact ⟨rfl, hw.only 1⟩
  ·replace H := ite_f H (beq_eq_false_iff_ne.1 hc)
   have hb59 := hc
   rw [hb59] at hs
   refine wp_skip ?_
   refine ib_norm ?_
   refine hK3 _ _ ?_
   refine go_sk fun K60 hK60 => ?_
   refine go_pvs 3 [0, 26] [(52, .pointer (some (⟨g1, 0, none⟩ : Addr)))] hs ?_; clear hs; intro a hs
   obtain ⟨Aa61, Aa63, cc64, Aa66, cc67, hw⟩ := mSmachine_Machine.open1 hw
   replace hw : St ks0 w0 _ [box g1 40 ([.pointer Aa61] ++ eSapi_Regs.enc x0.s ++ [.int .u32 x0.pc, .int .i64 x0.status, .slice Aa63 x0.in'.length cc64, .slice Aa66 x0.out.length cc67]), oM mSmemory_Memory Aa61 x0.Memory, rdo (eI .u32) Aa63 cc64 x0.in', own 23 (eI .u32) Aa66 cc67 x0.out] := hw
   replace hw := hw.up 1
   obtain ⟨y69, hy70, H⟩ := bind_some H
   replace hw := St.oM_some hw hy70
   obtain ⟨g71, hAg, hwg⟩ := St.one hw
   clear hw; subst hAg; have hw := hwg; clear hwg
   replace hw : St ks0 w0 _ [own 75 eSmemory_Memory (some (⟨g71, 0, none⟩ : Addr)) 1 [y69], box g1 40 ([.pointer (some (⟨g71, 0, none⟩ : Addr))] ++ eSapi_Regs.enc x0.s ++ [.int .u32 x0.pc, .int .i64 x0.status, .slice Aa63 x0.in'.length cc64, .slice Aa66 x0.out.length cc67]), rdo (eI .u32) Aa63 cc64 x0.in', own 23 (eI .u32) Aa66 cc67 x0.out] := hw
   refine go_run hs (by rfl) (x_bld (g := g1) (o := 0) (p := (⟨g1, 0, none⟩ : Addr)) (v := .pointer (some (⟨g71, 0, none⟩ : Addr))) (hw.up 1)) [52] ?_; clear hs; intro a hs
   refine go_pvs 5 [2] [(54, .int .u32 a2)] hs ?_; clear hs; intro a hs
   obtain ⟨⟨t73, t74⟩, hx75, H⟩ := bind_some H
   refine go_call hs (by rfl) (memory_Memory_Word.calls (some (⟨g71, 0, none⟩ : Addr)) y69 a2 (t73, t74) _ (Rd.of_own (hw.up 0)) hx75) ?_
   rintro e wd76 ⟨rfl, hw77⟩
   refine ⟨_, rfl, ?_⟩
   replace hw := hw.call hw77
   clear hs; intro a hs; replace hs := hs.rms [53, 54]
   refine go_pvs 10 [55] [(6, .int .u32 t73), (7, .int .i64 t74)] hs ?_; clear hs; intro a hs
   refine go_end (hK60 _ _ ?_)
   refine wp_ret ?_
   obtain rfl := Option.some.inj H
   replace hw := St.oM_back (m := mSmemory_Memory) (A := (some (⟨g71, 0, none⟩ : Addr))) (x := y69) hw hy70
   replace hw := hw.up 3
   replace hw := hw.up 3
   replace hw := hw.up 2
   replace hw := hw.up 3
   replace hw := mSmachine_Machine.close (x := x0) hw
   refine ret2 (t1 := 6) (v1 := .int .u32 t73) (t2 := 7) (v2 := .int .i64 t74) hs (by kernel_rfl) (by kernel_rfl) (by kernel_rfl) ?_
   exact ⟨rfl, hw.only 1⟩

/-! (*rivet/machine.Machine).store: function 48 -/
noncomputable def machine_Machine_store (x0 : Smachine_Machine) (a1 : Int) (a2 : Int) (a3 : Int) : Option (Int × Smachine_Machine) := (if a1 = 3 then ((x0.Memory).bind fun y15 => (((memory_Memory_SetByte y15 a2 (wu8 a3)).bind fun ⟨t19, t20⟩ => (some (t19, (⟨(some t20), x0.s, x0.pc, x0.status, x0.in', x0.out⟩ : Smachine_Machine)))))) else (if a2 = 4294967236 then ((x0.Memory).bind fun y36 => ((if x0.out.length + ([a3] : List Int).length ≤ 35184372088832 then some (0, (⟨(some y36), x0.s, x0.pc, x0.status, x0.in', x0.out ++ ([a3] : List Int)⟩ : Smachine_Machine)) else none))) else (if a2 = 4294967240 then some (1, x0) else ((x0.Memory).bind fun y67 => (((memory_Memory_SetWord y67 a2 a3).bind fun ⟨t71, t72⟩ => (some (t71, (⟨(some t72), x0.s, x0.pc, x0.status, x0.in', x0.out⟩ : Smachine_Machine)))))))))
set_option maxRecDepth 100000 in
set_option maxHeartbeats 4000000 in
theorem machine_Machine_store.calls (ks0 : List Nat) (A0 : Option Addr) (x0 : Smachine_Machine) (a1 : Int) (a2 : Int) (a3 : Int) (r : Int × Smachine_Machine) (w0 : World) (hw : St ks0 w0 w0 [mSmachine_Machine A0 x0]) (H : machine_Machine_store x0 a1 a2 a3 = some r) :
    Calls Try.prog 48 #[.pointer A0, .int .i64 a1, .int .u32 a2, .int .u32 a3] w0 fun e w' => e = .returned (.int .i64 r.1) ∧ St ks0 w0 w' [mSmachine_Machine A0 r.2] := by
 unfold machine_Machine_store at H
 refine go_fn Try.func48 rfl Try.ntmps48 ?_; intro a hs
 obtain ⟨g1, hAg, hwg⟩ := mSmachine_Machine.addr hw
 clear hw; subst hAg; have hw := hwg; clear hwg
 replace hw : St ks0 w0 _ [mSmachine_Machine (some ⟨g1, 0, none⟩) x0] := hw
 refine go_sp [] [(0, .pointer (some (⟨g1, 0, none⟩ : Addr)))] hs ?_; clear hs; intro a hs
 refine go_seq_k fun K3 hK3 => ?_
 refine wp_block ?_
 refine go_sp [1] [(9, .bool (a1 == 3))] hs ?_; clear hs; intro a hs
 refine go_cond hs (a1 == 3) (fun hc => ?_) fun hc => ?_
 ·replace H := ite_t H (beq_iff_eq.1 hc)
  have hb5 := hc
  rw [hb5] at hs
  refine go_sk fun K6 hK6 => ?_
  refine go_pvs 3 [0, 9] [(14, .pointer (some (⟨g1, 0, none⟩ : Addr)))] hs ?_; clear hs; intro a hs
  obtain ⟨Aa7, Aa9, cc10, Aa12, cc13, hw⟩ := mSmachine_Machine.open1 hw
  replace hw : St ks0 w0 _ [box g1 40 ([.pointer Aa7] ++ eSapi_Regs.enc x0.s ++ [.int .u32 x0.pc, .int .i64 x0.status, .slice Aa9 x0.in'.length cc10, .slice Aa12 x0.out.length cc13]), oM mSmemory_Memory Aa7 x0.Memory, rdo (eI .u32) Aa9 cc10 x0.in', own 23 (eI .u32) Aa12 cc13 x0.out] := hw
  replace hw := hw.up 1
  obtain ⟨y15, hy16, H⟩ := bind_some H
  replace hw := St.oM_some hw hy16
  obtain ⟨g17, hAg, hwg⟩ := St.one hw
  clear hw; subst hAg; have hw := hwg; clear hwg
  replace hw : St ks0 w0 _ [own 75 eSmemory_Memory (some (⟨g17, 0, none⟩ : Addr)) 1 [y15], box g1 40 ([.pointer (some (⟨g17, 0, none⟩ : Addr))] ++ eSapi_Regs.enc x0.s ++ [.int .u32 x0.pc, .int .i64 x0.status, .slice Aa9 x0.in'.length cc10, .slice Aa12 x0.out.length cc13]), rdo (eI .u32) Aa9 cc10 x0.in', own 23 (eI .u32) Aa12 cc13 x0.out] := hw
  refine go_run hs (by rfl) (x_bld (g := g1) (o := 0) (p := (⟨g1, 0, none⟩ : Addr)) (v := .pointer (some (⟨g17, 0, none⟩ : Addr))) (hw.up 1)) [14] ?_; clear hs; intro a hs
  refine go_pvs 7 [2, 3] [(16, .int .u32 a2), (18, .int .u8 (wu8 a3))] hs ?_; clear hs; intro a hs
  obtain ⟨ks18, hgks18, hstks18, hbkks18⟩ := hw.lend 1
  obtain ⟨⟨t19, t20⟩, hx21, H⟩ := bind_some H
  refine go_call hs (by rfl) (memory_Memory_SetByte.calls ks18 (some (⟨g17, 0, none⟩ : Addr)) y15 a2 (wu8 a3) (t19, t20) _ hgks18 hx21) ?_
  rintro e wd22 ⟨rfl, hw23⟩
  refine ⟨_, rfl, ?_⟩
  replace hw := hbkks18 _ _ hw23
  replace hw : St ks0 w0 _ [own 75 eSmemory_Memory (some (⟨g17, 0, none⟩ : Addr)) 1 [t20], box g1 40 ([.pointer (some (⟨g17, 0, none⟩ : Addr))] ++ eSapi_Regs.enc x0.s ++ [.int .u32 x0.pc, .int .i64 x0.status, .slice Aa9 x0.in'.length cc10, .slice Aa12 x0.out.length cc13]), rdo (eI .u32) Aa9 cc10 x0.in', own 23 (eI .u32) Aa12 cc13 x0.out] := hw
  clear hs; intro a hs; replace hs := hs.rms [15, 16, 18]
  refine go_pvs 9 [19] [(8, .int .i64 t19)] hs ?_; clear hs; intro a hs
  refine go_end (hK6 _ _ ?_)
  refine wp_ret ?_
  refine ib_ret ?_
  refine th_ret ?_
  obtain rfl := Option.some.inj H
  replace hw := St.oM_of (m := mSmemory_Memory) (A := (some (⟨g17, 0, none⟩ : Addr))) (x := t20) hw
  replace hw := hw.up 3
  replace hw := hw.up 3
  replace hw := hw.up 2
  replace hw := hw.up 3
  replace hw := mSmachine_Machine.close (x := (⟨(some t20), x0.s, x0.pc, x0.status, x0.in', x0.out⟩ : Smachine_Machine)) hw
  refine ret1 (t := 8) (v := .int .i64 t19) hs (by kernel_rfl) (by kernel_rfl) ?_
  exact ⟨rfl, hw.only 1⟩
 ·replace H := ite_f H (beq_eq_false_iff_ne.1 hc)
  have hb24 := hc
  rw [hb24] at hs
  refine go_sp [9] [(20, .bool (a2 == 4294967236))] hs ?_; clear hs; intro a hs
  refine go_cond hs (a2 == 4294967236) (fun hc => ?_) fun hc => ?_
  ·replace H := ite_t H (beq_iff_eq.1 hc)
   have hb26 := hc
   rw [hb26] at hs
   refine go_sk fun K27 hK27 => ?_
   refine go_pvs 4 [0, 2, 20] [(23, .pointer (some (⟨g1, 0, none⟩ : Addr))), (26, .pointer (some (⟨g1, 25, none⟩ : Addr)))] hs ?_; clear hs; intro a hs
   obtain ⟨Aa28, Aa30, cc31, Aa33, cc34, hw⟩ := mSmachine_Machine.open1 hw
   replace hw : St ks0 w0 _ [box g1 40 ([.pointer Aa28] ++ eSapi_Regs.enc x0.s ++ [.int .u32 x0.pc, .int .i64 x0.status, .slice Aa30 x0.in'.length cc31, .slice Aa33 x0.out.length cc34]), oM mSmemory_Memory Aa28 x0.Memory, rdo (eI .u32) Aa30 cc31 x0.in', own 23 (eI .u32) Aa33 cc34 x0.out] := hw
   replace hw := hw.up 1
   obtain ⟨y36, hy37, H⟩ := bind_some H
   replace hw := St.oM_some hw hy37
   obtain ⟨g38, hAg, hwg⟩ := St.one hw
   clear hw; subst hAg; have hw := hwg; clear hwg
   replace hw : St ks0 w0 _ [own 75 eSmemory_Memory (some (⟨g38, 0, none⟩ : Addr)) 1 [y36], box g1 40 ([.pointer (some (⟨g38, 0, none⟩ : Addr))] ++ eSapi_Regs.enc x0.s ++ [.int .u32 x0.pc, .int .i64 x0.status, .slice Aa30 x0.in'.length cc31, .slice Aa33 x0.out.length cc34]), rdo (eI .u32) Aa30 cc31 x0.in', own 23 (eI .u32) Aa33 cc34 x0.out] := hw
   refine go_run hs (by rfl) (x_bld (g := g1) (o := 25) (p := (⟨g1, 25, none⟩ : Addr)) (v := .slice Aa33 x0.out.length cc34) (hw.up 1)) [26] ?_; clear hs; intro a hs
   refine go_pvs 6 [3] [(28, .int .u32 a3)] hs ?_; clear hs; intro a hs
   obtain ⟨Aa39, cc40, wd41, hx42, hw⟩ := n_lit (P := Try.prog) (t := 22) (ty := 22) (T := 23) (len := 1) (parts := #[(0, (Operand.tmp 28))]) (z := .int .u32 0) (bytes := 4) (cells := #[.int .u32 a3]) hs hw (eI .u32) ([a3] : List Int) (by kernel_rfl) (by kernel_rfl) (by kernel_rfl) (by kernel_rfl) (by kernel_rfl) (by kernel_rfl) (by kernel_rfl)
   refine go_run hs (by rfl) hx42 [28] ?_; clear hs; intro a hs
   obtain ⟨hp44, H⟩ := ite_only H
   have hsrc49 : Src Try.prog (eI .u32).sz 22 (.slice Aa39 ([a3] : List Int).length cc40) ([a3] : List Int).length (([a3] : List Int).flatMap (eI .u32).enc) _ := (Src.of_rd (E := (eI .u32)) (e' := 23) (by kernel_rfl) (Rd.of_own (hw.up 0)))
   replace hw := hw.up 4
   obtain ⟨Aa45, cc46, wd47, hx48, hw⟩ := x_append (P := Try.prog) (t := 22) (tx := 22) (ty := 22) (x := (Operand.tmp 27)) (y := (Operand.tmp 29)) (z := .int .u32 0) (bytes := 4) (l2 := ([a3] : List Int)) hs hw (by kernel_rfl) (by kernel_rfl) (by kernel_rfl) (by kernel_rfl) (by kernel_rfl) hsrc49 (by omega) (by omega)
   refine go_run hs (by rfl) hx48 [27, 29] ?_; clear hs; intro a hs
   refine go_pvs 10 [23] [(32, .pointer (some (⟨g1, 25, none⟩ : Addr)))] hs ?_; clear hs; intro a hs
   replace hw := hw.up 3
   obtain ⟨wd50, hx51, hw⟩ := x_bput (P := Try.prog) (ty := 0) (t := 22) (y := (Operand.tmp 32)) (z := (Operand.tmp 30)) (o := 25) (p := (⟨g1, 25, none⟩ : Addr)) (v := .slice Aa45 (x0.out ++ ([a3] : List Int)).length cc46) (vs := [.slice Aa45 (x0.out ++ ([a3] : List Int)).length cc46]) (cs' := [.pointer (some (⟨g38, 0, none⟩ : Addr))] ++ eSapi_Regs.enc x0.s ++ [.int .u32 x0.pc, .int .i64 x0.status, .slice Aa30 x0.in'.length cc31, .slice Aa45 (x0.out ++ ([a3] : List Int)).length cc46]) hs hw (by kernel_rfl) rfl (by kernel_rfl) rfl (by kernel_rfl) (by kernel_rfl) (by simp [Value.oneCell']) (by kernel_rfl)
   refine go_unit hs (by rfl) hx51 [30, 32] ?_; clear hs; intro a hs
   refine go_end (hK27 _ _ ?_)
   refine go_sp [] [(8, .int .i64 0)] hs ?_; clear hs; intro a hs
   refine wp_ret ?_
   refine ib_ret ?_
   refine th_ret ?_
   obtain rfl := Option.some.inj H
   replace hw := hw.up 3
   replace hw := St.oM_of (m := mSmemory_Memory) (A := (some (⟨g38, 0, none⟩ : Addr))) (x := y36) hw
   replace hw := hw.up 2
   replace hw := hw.up 4
   replace hw := hw.up 2
   replace hw := hw.up 3
   replace hw := mSmachine_Machine.close (x := (⟨(some y36), x0.s, x0.pc, x0.status, x0.in', x0.out ++ ([a3] : List Int)⟩ : Smachine_Machine)) hw
   refine ret1 (t := 8) (v := .int .i64 0) hs (by kernel_rfl) (by kernel_rfl) ?_
   exact ⟨rfl, hw.only 1⟩
  ·replace H := ite_f H (beq_eq_false_iff_ne.1 hc)
   have hb53 := hc
   rw [hb53] at hs
   refine go_sp [20] [(33, .bool (a2 == 4294967240))] hs ?_; clear hs; intro a hs
   refine go_cond hs (a2 == 4294967240) (fun hc => ?_) fun hc => ?_
   ·replace H := ite_t H (beq_iff_eq.1 hc)
    have hb55 := hc
    rw [hb55] at hs
    refine go_sp [0, 2, 3, 33] [(8, .int .i64 1)] hs ?_; clear hs; intro a hs
    refine wp_ret ?_
    refine ib_ret ?_
    refine th_ret ?_
    obtain rfl := Option.some.inj H
    refine ret1 (t := 8) (v := .int .i64 1) hs (by kernel_rfl) (by kernel_rfl) ?_
    exact ⟨rfl, hw.only 1⟩
   ·replace H := ite_f H (beq_eq_false_iff_ne.1 hc)
    have hb57 := hc
    rw [hb57] at hs
    refine wp_skip ?_
    refine ib_norm ?_
    refine hK3 _ _ ?_
    refine go_sk fun K58 hK58 => ?_
    refine go_pvs 3 [0, 33] [(38, .pointer (some (⟨g1, 0, none⟩ : Addr)))] hs ?_; clear hs; intro a hs
    obtain ⟨Aa59, Aa61, cc62, Aa64, cc65, hw⟩ := mSmachine_Machine.open1 hw
    replace hw : St ks0 w0 _ [box g1 40 ([.pointer Aa59] ++ eSapi_Regs.enc x0.s ++ [.int .u32 x0.pc, .int .i64 x0.status, .slice Aa61 x0.in'.length cc62, .slice Aa64 x0.out.length cc65]), oM mSmemory_Memory Aa59 x0.Memory, rdo (eI .u32) Aa61 cc62 x0.in', own 23 (eI .u32) Aa64 cc65 x0.out] := hw
    replace hw := hw.up 1
    obtain ⟨y67, hy68, H⟩ := bind_some H
    replace hw := St.oM_some hw hy68
    obtain ⟨g69, hAg, hwg⟩ := St.one hw
    clear hw; subst hAg; have hw := hwg; clear hwg
    replace hw : St ks0 w0 _ [own 75 eSmemory_Memory (some (⟨g69, 0, none⟩ : Addr)) 1 [y67], box g1 40 ([.pointer (some (⟨g69, 0, none⟩ : Addr))] ++ eSapi_Regs.enc x0.s ++ [.int .u32 x0.pc, .int .i64 x0.status, .slice Aa61 x0.in'.length cc62, .slice Aa64 x0.out.length cc65]), rdo (eI .u32) Aa61 cc62 x0.in', own 23 (eI .u32) Aa64 cc65 x0.out] := hw
    refine go_run hs (by rfl) (x_bld (g := g1) (o := 0) (p := (⟨g1, 0, none⟩ : Addr)) (v := .pointer (some (⟨g69, 0, none⟩ : Addr))) (hw.up 1)) [38] ?_; clear hs; intro a hs
    refine go_pvs 6 [2, 3] [(40, .int .u32 a2), (41, .int .u32 a3)] hs ?_; clear hs; intro a hs
    obtain ⟨ks70, hgks70, hstks70, hbkks70⟩ := hw.lend 1
    obtain ⟨⟨t71, t72⟩, hx73, H⟩ := bind_some H
    refine go_call hs (by rfl) (memory_Memory_SetWord.calls ks70 (some (⟨g69, 0, none⟩ : Addr)) y67 a2 a3 (t71, t72) _ hgks70 hx73) ?_
    rintro e wd74 ⟨rfl, hw75⟩
    refine ⟨_, rfl, ?_⟩
    replace hw := hbkks70 _ _ hw75
    replace hw : St ks0 w0 _ [own 75 eSmemory_Memory (some (⟨g69, 0, none⟩ : Addr)) 1 [t72], box g1 40 ([.pointer (some (⟨g69, 0, none⟩ : Addr))] ++ eSapi_Regs.enc x0.s ++ [.int .u32 x0.pc, .int .i64 x0.status, .slice Aa61 x0.in'.length cc62, .slice Aa64 x0.out.length cc65]), rdo (eI .u32) Aa61 cc62 x0.in', own 23 (eI .u32) Aa64 cc65 x0.out] := hw
    clear hs; intro a hs; replace hs := hs.rms [39, 40, 41]
    refine go_pvs 8 [42] [(8, .int .i64 t71)] hs ?_; clear hs; intro a hs
    refine go_end (hK58 _ _ ?_)
    refine wp_ret ?_
    obtain rfl := Option.some.inj H
    replace hw := St.oM_of (m := mSmemory_Memory) (A := (some (⟨g69, 0, none⟩ : Addr))) (x := t72) hw
    replace hw := hw.up 3
    replace hw := hw.up 3
    replace hw := hw.up 2
    replace hw := hw.up 3
    replace hw := mSmachine_Machine.close (x := (⟨(some t72), x0.s, x0.pc, x0.status, x0.in', x0.out⟩ : Smachine_Machine)) hw
    refine ret1 (t := 8) (v := .int .i64 t71) hs (by kernel_rfl) (by kernel_rfl) ?_
    exact ⟨rfl, hw.only 1⟩

/-! (*rivet/machine.Machine).do: function 35 -/
noncomputable def machine_Machine_do.j1 (x0 : Smachine_Machine) (t40 : Int) (v71 : Smachine_Machine) : Option (Int × Int × Smachine_Machine) := some (wu32 (x0.pc + 4), t40, v71)
noncomputable def machine_Machine_do.j4 (v106 : Int) (v124 : Smachine_Machine) : Option (Int × Int × Smachine_Machine) := some (v106, 0, v124)
noncomputable def machine_Machine_do.j3 (a1 : Sapi_Instr) (x0 : Smachine_Machine) (v106 : Int) : Option (Int × Int × Smachine_Machine) := (if a1.U = true then ((x0.Memory).bind fun y118 => (machine_Machine_do.j4 v106 (⟨(some y118), ({ x0.s with R := vset x0.s.R 15 (wu32 (x0.pc + 4)) } : Sapi_Regs), x0.pc, x0.status, x0.in', x0.out⟩ : Smachine_Machine))) else machine_Machine_do.j4 v106 x0)
noncomputable def machine_Machine_do.j5 (x0 : Smachine_Machine) (a1 : Sapi_Instr) : Option (Int × Int × Smachine_Machine) := ((x0.Memory).bind fun y137 => (((alu_Do x0.s a1).bind fun ⟨t141, t142⟩ => (some (wu32 (x0.pc + 4), t142, (⟨(some y137), t141, x0.pc, x0.status, x0.in', x0.out⟩ : Smachine_Machine))))))
noncomputable def machine_Machine_do.j2 (x0 : Smachine_Machine) (a1 : Sapi_Instr) (v78 : Bool) : Option (Int × Int × Smachine_Machine) := (if v78 = true then ((x0.Memory).bind fun y90 => (((alu_Taken x0.s a1.Op).bind fun t94 => ((if t94 = true then (if 0 ≤ a1.C ∧ a1.C < ((16 : Nat) : Int) then (if a1.Kind = 7 then (nm (wu32 ((wu32 (x0.pc + 4)) + (wu32 ((wu32 a1.Imm) * 4)))) fun y104 => machine_Machine_do.j3 a1 x0 y104) else machine_Machine_do.j3 a1 x0 (vx 0 x0.s.R (a1.C : Int).toNat)) else none) else some (wu32 (x0.pc + 4), 0, x0)))))) else machine_Machine_do.j5 x0 a1)
noncomputable def machine_Machine_do (x0 : Smachine_Machine) (a1 : Sapi_Instr) : Option (Int × Int × Smachine_Machine) := ((x0.Memory).bind fun y16 => ((if a1.Kind = 5 then (if 0 ≤ a1.B ∧ a1.B < ((16 : Nat) : Int) then (if a1.Op ≥ 2 then (if 0 ≤ a1.A ∧ a1.A < ((16 : Nat) : Int) then ((machine_Machine_store x0 a1.Op (wu32 ((vx 0 x0.s.R (a1.B : Int).toNat) + (wu32 a1.Imm))) (vx 0 x0.s.R (a1.A : Int).toNat)).bind fun ⟨t31, t32⟩ => (some (wu32 (x0.pc + 4), t31, t32))) else none) else ((machine_Machine_load x0 a1.Op (wu32 ((vx 0 x0.s.R (a1.B : Int).toNat) + (wu32 a1.Imm)))).bind fun ⟨t39, t40, t41⟩ => ((if t40 = 0 then (if 0 ≤ a1.A ∧ a1.A < ((16 : Nat) : Int) then ((t41.Memory).bind fun y58 => (((alu_Show ({ t41.s with R := vset t41.s.R (a1.A : Int).toNat t39 } : Sapi_Regs) t39).bind fun t64 => (machine_Machine_do.j1 x0 t40 (⟨(some y58), t64, t41.pc, t41.status, t41.in', t41.out⟩ : Smachine_Machine))))) else none) else machine_Machine_do.j1 x0 t40 t41)))) else none) else (if a1.Kind = 6 then machine_Machine_do.j2 x0 a1 true else machine_Machine_do.j2 x0 a1 (a1.Kind == 7)))))
set_option maxRecDepth 100000 in
set_option maxHeartbeats 4000000 in
theorem machine_Machine_do.calls (ks0 : List Nat) (A0 : Option Addr) (x0 : Smachine_Machine) (a1 : Sapi_Instr) (r : Int × Int × Smachine_Machine) (w0 : World) (hw : St ks0 w0 w0 [mSmachine_Machine A0 x0]) (H : machine_Machine_do x0 a1 = some r) :
    Calls Try.prog 35 #[.pointer A0, .agg (eSapi_Instr.enc a1).toArray] w0 fun e w' => e = .returned (.tuple #[.int .u32 r.1, .int .i64 r.2.1]) ∧ St ks0 w0 w' [mSmachine_Machine A0 r.2.2] := by
 unfold machine_Machine_do at H
 refine go_fn Try.func35 rfl Try.ntmps35 ?_; intro a hs
 obtain ⟨g1, hAg, hwg⟩ := mSmachine_Machine.addr hw
 clear hw; subst hAg; have hw := hwg; clear hwg
 replace hw : St ks0 w0 _ [mSmachine_Machine (some ⟨g1, 0, none⟩) x0] := hw
 refine go_sk fun K2 hK2 => ?_
 obtain ⟨ad3, wd4, hx5, hw⟩ := x_box1 (P := Try.prog) (elem := 45) (v := (Operand.tmp 1)) (ty := 0) hs hw eSapi_Instr a1 (by kernel_rfl)
 refine go_run hs (by rfl) hx5 [1] ?_; clear hs; intro a hs
 refine go_pvs 3 [] [] hs ?_; clear hs; intro a hs
 refine go_end (hK2 _ _ ?_)
 refine go_sk fun K7 hK7 => ?_
 refine go_pvs 3 [] [(14, .pointer (some (⟨g1, 22, none⟩ : Addr)))] hs ?_; clear hs; intro a hs
 replace hw := hw.up 1
 obtain ⟨Aa8, Aa10, cc11, Aa13, cc14, hw⟩ := mSmachine_Machine.open1 hw
 replace hw : St ks0 w0 _ [box g1 40 ([.pointer Aa8] ++ eSapi_Regs.enc x0.s ++ [.int .u32 x0.pc, .int .i64 x0.status, .slice Aa10 x0.in'.length cc11, .slice Aa13 x0.out.length cc14]), oM mSmemory_Memory Aa8 x0.Memory, rdo (eI .u32) Aa10 cc11 x0.in', own 23 (eI .u32) Aa13 cc14 x0.out, own 45 eSapi_Instr (some ad3) 1 [a1]] := hw
 replace hw := hw.up 1
 obtain ⟨y16, hy17, H⟩ := bind_some H
 replace hw := St.oM_some hw hy17
 obtain ⟨g18, hAg, hwg⟩ := St.one hw
 clear hw; subst hAg; have hw := hwg; clear hwg
 replace hw : St ks0 w0 _ [own 75 eSmemory_Memory (some (⟨g18, 0, none⟩ : Addr)) 1 [y16], box g1 40 ([.pointer (some (⟨g18, 0, none⟩ : Addr))] ++ eSapi_Regs.enc x0.s ++ [.int .u32 x0.pc, .int .i64 x0.status, .slice Aa10 x0.in'.length cc11, .slice Aa13 x0.out.length cc14]), rdo (eI .u32) Aa10 cc11 x0.in', own 23 (eI .u32) Aa13 cc14 x0.out, own 45 eSapi_Instr (some ad3) 1 [a1]] := hw
 refine go_run hs (by rfl) (x_bld (g := g1) (o := 22) (p := (⟨g1, 22, none⟩ : Addr)) (v := .int .u32 x0.pc) (hw.up 1)) [14] ?_; clear hs; intro a hs
 refine go_pvs 6 [15] [(6, .int .u32 (wu32 (x0.pc + 4)))] hs ?_; clear hs; intro a hs
 refine go_end (hK7 _ _ ?_)
 refine go_seq_k fun K19 hK19 => ?_
 have hJ5 : ∀ (a : Act) (w : World), Slots a 131 [(0, .pointer (some (⟨g1, 0, none⟩ : Addr))), (3, .pointer (some ad3)), (6, .int .u32 (wu32 (x0.pc + 4)))] → St ks0 w0 w [mSmachine_Machine (some ⟨g1, 0, none⟩) x0, own 45 eSapi_Instr (some ad3) 1 [a1]] → machine_Machine_do.j5 x0 a1 = some r → K19 a w := by
  intro a w hs hw H
  unfold machine_Machine_do.j5 at H
  refine hK19 _ _ ?_
  refine go_sp [] [] hs ?_; clear hs; intro a hs
  refine go_seq_k fun K128 hK128 => ?_
  refine d_region [12] [(true, [0, 1, 2, 3, 4, 5], 6), (false, [7, 8, 9, 10, 11], 12)] [13] (by kernel_rfl) (by kernel_rfl) (fun c a d v w h => by cases d <;> exact h) ?_
  refine d_seg ?_
  refine c_pvs [0, 1, 2, 3] [4, 5] [0] [(118, .pointer (some (⟨g1, 0, none⟩ : Addr))), (121, .pointer (some (⟨g1, 1, none⟩ : Addr)))] hs ?_; clear hs; intro a hs
  obtain ⟨Aa129, Aa131, cc132, Aa134, cc135, hw⟩ := mSmachine_Machine.open1 hw
  replace hw : St ks0 w0 _ [box g1 40 ([.pointer Aa129] ++ eSapi_Regs.enc x0.s ++ [.int .u32 x0.pc, .int .i64 x0.status, .slice Aa131 x0.in'.length cc132, .slice Aa134 x0.out.length cc135]), oM mSmemory_Memory Aa129 x0.Memory, rdo (eI .u32) Aa131 cc132 x0.in', own 23 (eI .u32) Aa134 cc135 x0.out, own 45 eSapi_Instr (some ad3) 1 [a1]] := hw
  replace hw := hw.up 1
  obtain ⟨y137, hy138, H⟩ := bind_some H
  replace hw := St.oM_some hw hy138
  obtain ⟨g139, hAg, hwg⟩ := St.one hw
  clear hw; subst hAg; have hw := hwg; clear hwg
  replace hw : St ks0 w0 _ [own 75 eSmemory_Memory (some (⟨g139, 0, none⟩ : Addr)) 1 [y137], box g1 40 ([.pointer (some (⟨g139, 0, none⟩ : Addr))] ++ eSapi_Regs.enc x0.s ++ [.int .u32 x0.pc, .int .i64 x0.status, .slice Aa131 x0.in'.length cc132, .slice Aa134 x0.out.length cc135]), rdo (eI .u32) Aa131 cc132 x0.in', own 23 (eI .u32) Aa134 cc135 x0.out, own 45 eSapi_Instr (some ad3) 1 [a1]] := hw
  refine d_run hs (by rfl) (fun wx hbx => (x_bldsD (g := g1) (o := 1) (p := (⟨g1, 1, none⟩ : Addr)) (vs := (eSapi_Regs.enc x0.s)) (hw.up 1) hbx)) [121] ?_; clear hs; intro a hs
  refine d_run hs (by rfl) (fun wx hbx => (x_lds (off := 0) (p := ad3) (cs := (eSapi_Instr.enc a1)) (Rd.bn (Rd.of_own (hw.up 4)) hbx) (one_ok a1) (one_at _ _))) [3] ?_; clear hs; intro a hs
  refine c_end ?_
  intro wq hbq
  replace hw := hw.behind hbq
  have hbc := Below.refl wq.heap.size wq
  obtain ⟨⟨t141, t142⟩, hx143, H⟩ := bind_some H
  refine p_call hs (by rfl) (alu_Do.calls x0.s a1 (t141, t142) _ hx143) ?_
  rintro e wd144 ⟨rfl, hw145⟩
  refine ⟨_, rfl, ?_⟩
  replace hbc := hw145.below
  replace hw := hw.call hw145
  clear hs; intro a hs; replace hs := hs.rms [122, 123]
  refine c_done ⟨.inr (bn_of hbq hbc), ?_⟩
  clear hbc hbq
  refine d_seg0 ?_
  refine c_pvs [7, 8, 9, 10, 11] [] [118, 124] [(125, .agg (eSapi_Regs.enc t141).toArray), (126, .int .i64 t142), (128, .pointer (some (⟨g1, 1, none⟩ : Addr)))] hs ?_; clear hs; intro a hs
  refine c_end ?_
  intro wq hbq
  replace hw := hw.behind hbq
  replace hw := hw.up 1
  obtain ⟨wd146, hx147, hw⟩ := x_bput (P := Try.prog) (ty := 0) (t := 26) (y := (Operand.tmp 128)) (z := (Operand.tmp 125)) (o := 1) (p := (⟨g1, 1, none⟩ : Addr)) (v := .agg (eSapi_Regs.enc t141).toArray) (vs := (eSapi_Regs.enc t141)) (cs' := [.pointer (some (⟨g139, 0, none⟩ : Addr))] ++ eSapi_Regs.enc t141 ++ [.int .u32 x0.pc, .int .i64 x0.status, .slice Aa131 x0.in'.length cc132, .slice Aa134 x0.out.length cc135]) hs hw (by kernel_rfl) rfl (by kernel_rfl) rfl (by kernel_rfl) (by kernel_rfl) (eSapi_Regs.one _) (by kernel_rfl)
  refine p_unit hs (by rfl) hx147 [125, 128] ?_; clear hs; intro a hs
  refine c_done ⟨.inl (by kernel_rfl), ?_⟩
  clear hbq
  refine d_last ?_
  refine c_pvs [13] [] [126] [(11, .int .i64 t142)] hs ?_; clear hs; intro a hs
  refine c_end ?_
  intro wq hbq
  replace hw := hw.behind hbq
  refine hK128 _ _ ?_
  refine go_sp [6, 11] [(4, .int .u32 (wu32 (x0.pc + 4))), (5, .int .i64 t142)] hs ?_; clear hs; intro a hs
  refine wp_ret ?_
  obtain rfl := Option.some.inj H
  replace hw := hw.up 1
  replace hw := St.oM_of (m := mSmemory_Memory) (A := (some (⟨g139, 0, none⟩ : Addr))) (x := y137) hw
  replace hw := hw.up 3
  replace hw := hw.up 3
  replace hw := hw.up 2
  replace hw := hw.up 3
  replace hw := mSmachine_Machine.close (x := (⟨(some y137), t141, x0.pc, x0.status, x0.in', x0.out⟩ : Smachine_Machine)) hw
  refine ret2 (t1 := 4) (v1 := .int .u32 (wu32 (x0.pc + 4))) (t2 := 5) (v2 := .int .i64 t142) hs (by kernel_rfl) (by kernel_rfl) (by kernel_rfl) ?_
  exact ⟨rfl, hw.only 1⟩
 refine go_sk fun K20 hK20 => ?_
 refine go_pvs 1 [] [(17, .pointer (some ((ad3 : Addr).add 0)))] hs ?_; clear hs; intro a hs
 refine go_run hs (by rfl) (x_ld (off := 0) (p := (ad3 : Addr).add 0) (v := .int .i64 a1.Kind) (Rd.of_own (hw.up 4)) (one_ok a1) (one_off _ _ _)) [17] ?_; clear hs; intro a hs
 refine go_end (hK20 _ _ ?_)
 refine wp_block ?_
 refine go_sp [] [(19, .bool (a1.Kind == 5))] hs ?_; clear hs; intro a hs
 refine go_cond hs (a1.Kind == 5) (fun hc => ?_) fun hc => ?_
 ·replace H := ite_t H (beq_iff_eq.1 hc)
  have hb22 := hc
  rw [hb22] at hs
  refine go_seq_k fun K23 hK23 => ?_
  refine q2_region (by kernel_rfl) (by kernel_rfl) ?_
  refine q_pvs 2 [18, 19] [(21, .pointer (some (⟨g1, 0, none⟩ : Addr))), (22, .pointer (some ((ad3 : Addr).add 3)))] hs ?_; clear hs; intro a hs
  refine q_run hs (by rfl) (fun wx hbx => (x_ld (off := 3) (p := (ad3 : Addr).add 3) (v := .int .i64 a1.B) ((Rd.of_own (hw.up 4)).below hbx) (one_ok a1) (one_off _ _ _))) [22] ?_; clear hs; intro a hs
  refine q_pvs 6 [21] [(26, .pointer (some (⟨g1, 1, none⟩ : Addr)))] hs ?_; clear hs; intro a hs
  obtain ⟨hp24, H⟩ := ite_only H
  refine q_run hs (by rfl) (fun wx hbx => (x_vidx (e := 23) (p := (⟨g1, 1, none⟩ : Addr)) (n := 16) (k := .i64) (i := a1.B) (sz := 1) hp24)) [23, 26] ?_; clear hs; intro a hs
  refine q_run hs (by rfl) (fun wx hbx => (x_bld (g := g1) (o := 1 + (a1.B : Int).toNat * 1) (p := (⟨g1, 1, none⟩ : Addr).add ((a1.B : Int).toNat * 1)) (v := .int .u32 (vx 0 x0.s.R (a1.B : Int).toNat)) ((hw.behind hbx).up 1) (hp := badd _ _ _) (hv := (vget (cs := [.pointer (some (⟨g18, 0, none⟩ : Addr))] ++ eSapi_Regs.enc x0.s ++ [.int .u32 x0.pc, .int .i64 x0.status, .slice Aa10 x0.in'.length cc11, .slice Aa13 x0.out.length cc14]) (pre := [.pointer (some (⟨g18, 0, none⟩ : Addr))]) (post := [.int .u32 x0.s.H, .bool x0.s.N, .bool x0.s.Z, .bool x0.s.C, .bool x0.s.V] ++ [.int .u32 x0.pc, .int .i64 x0.status, .slice Aa10 x0.in'.length cc11, .slice Aa13 x0.out.length cc14]) (f := (fun j : Nat => .int .u32 (vx 0 x0.s.R j))) (n := 16) (o := 1) (i := (a1.B : Int).toNat) (by kernel_rfl) rfl (by have := hp24; omega))))) [27] ?_; clear hs; intro a hs
  refine q_pvs 9 [] [(29, .pointer (some ((ad3 : Addr).add 5)))] hs ?_; clear hs; intro a hs
  refine q_run hs (by rfl) (fun wx hbx => (x_ld (off := 5) (p := (ad3 : Addr).add 5) (v := .int .i64 a1.Imm) ((Rd.of_own (hw.up 4)).below hbx) (one_ok a1) (one_off _ _ _))) [29] ?_; clear hs; intro a hs
  refine q_pvs 13 [28, 30] [(7, .int .u32 (wu32 ((vx 0 x0.s.R (a1.B : Int).toNat) + (wu32 a1.Imm))))] hs ?_; clear hs; intro a hs
  refine q_end ?_
  intro wq hbq
  replace hw := hw.behind hbq
  refine hK23 _ _ ?_
  refine go_seq_k fun K25 hK25 => ?_
  refine go_sk fun K26 hK26 => ?_
  refine go_pvs 1 [] [(33, .pointer (some ((ad3 : Addr).add 1)))] hs ?_; clear hs; intro a hs
  refine go_run hs (by rfl) (x_ld (off := 1) (p := (ad3 : Addr).add 1) (v := .int .i64 a1.Op) (Rd.of_own (hw.up 4)) (one_ok a1) (one_off _ _ _)) [33] ?_; clear hs; intro a hs
  refine go_pvs 3 [34] [(35, .bool (decide (a1.Op ≥ 2)))] hs ?_; clear hs; intro a hs
  refine go_end (hK26 _ _ ?_)
  refine go_cond hs (decide (a1.Op ≥ 2)) (fun hc => ?_) fun hc => ?_
  ·replace H := ite_t H (of_decide_eq_true hc)
   have hb27 := hc
   rw [hb27] at hs
   refine go_seq_k fun K28 hK28 => ?_
   refine t2_region [(0, true), (1, true), (2, true), (3, false), (4, true), (5, true), (6, true), (7, false), (8, true), (9, true), (10, true), (11, true), (12, false)] [13, 14, 15] [] (by kernel_rfl) (by kernel_rfl) (fun c a d v w h => by cases d <;> exact h) ?_
   refine t_pvs [0, 1, 2] [(3, false), (4, true), (5, true), (6, true), (7, false), (8, true), (9, true), (10, true), (11, true), (12, false)] [6, 35] [(36, .int .u32 (wu32 (x0.pc + 4))), (37, .pointer (some (⟨g1, 0, none⟩ : Addr))), (38, .pointer (some ((ad3 : Addr).add 1)))] hs ?_; clear hs; intro a hs
   refine t_rd hs (by rfl) (fun wx hbx => (x_ld (off := 1) (p := (ad3 : Addr).add 1) (v := .int .i64 a1.Op) ((Rd.of_own (hw.up 4)).below hbx) (one_ok a1) (one_off _ _ _))) [38] ?_; clear hs; intro a hs
   refine t_pvs [4, 5, 6] [(7, false), (8, true), (9, true), (10, true), (11, true), (12, false)] [0, 3, 7] [(40, .int .u32 (wu32 ((vx 0 x0.s.R (a1.B : Int).toNat) + (wu32 a1.Imm)))), (41, .pointer (some (⟨g1, 0, none⟩ : Addr))), (42, .pointer (some ((ad3 : Addr).add 2)))] hs ?_; clear hs; intro a hs
   refine t_rd hs (by rfl) (fun wx hbx => (x_ld (off := 2) (p := (ad3 : Addr).add 2) (v := .int .i64 a1.A) ((Rd.of_own (hw.up 4)).below hbx) (one_ok a1) (one_off _ _ _))) [42] ?_; clear hs; intro a hs
   refine t_pvs [8, 9, 10] [(11, true), (12, false)] [41] [(46, .pointer (some (⟨g1, 1, none⟩ : Addr)))] hs ?_; clear hs; intro a hs
   obtain ⟨hp29, H⟩ := ite_only H
   refine t_run hs (by rfl) (fun wx => (x_vidx (e := 23) (p := (⟨g1, 1, none⟩ : Addr)) (n := 16) (k := .i64) (i := a1.A) (sz := 1) hp29)) [43, 46] ?_; clear hs; intro a hs
   replace hs : Slots a 131 [(36, .int .u32 (wu32 (x0.pc + 4))), (37, .pointer (some (⟨g1, 0, none⟩ : Addr))), (39, .int .i64 a1.Op), (40, .int .u32 (wu32 ((vx 0 x0.s.R (a1.B : Int).toNat) + (wu32 a1.Imm)))), (47, .pointer (some ((⟨g1, 1, none⟩ : Addr).add ((a1.A : Int).toNat * 1))))] := hs.kx
   refine t_rd hs (by rfl) (fun wx hbx => (x_bld (g := g1) (o := 1 + (a1.A : Int).toNat * 1) (p := (⟨g1, 1, none⟩ : Addr).add ((a1.A : Int).toNat * 1)) (v := .int .u32 (vx 0 x0.s.R (a1.A : Int).toNat)) ((hw.behind hbx).up 1) (hp := badd _ _ _) (hv := (vget (cs := [.pointer (some (⟨g18, 0, none⟩ : Addr))] ++ eSapi_Regs.enc x0.s ++ [.int .u32 x0.pc, .int .i64 x0.status, .slice Aa10 x0.in'.length cc11, .slice Aa13 x0.out.length cc14]) (pre := [.pointer (some (⟨g18, 0, none⟩ : Addr))]) (post := [.int .u32 x0.s.H, .bool x0.s.N, .bool x0.s.Z, .bool x0.s.C, .bool x0.s.V] ++ [.int .u32 x0.pc, .int .i64 x0.status, .slice Aa10 x0.in'.length cc11, .slice Aa13 x0.out.length cc14]) (f := (fun j : Nat => .int .u32 (vx 0 x0.s.R j))) (n := 16) (o := 1) (i := (a1.A : Int).toNat) (by kernel_rfl) rfl (by have := hp29; omega))))) [47] ?_; clear hs; intro a hs
   refine t_end ?_
   intro wq hbq
   replace hw := hw.behind hbq
   replace hw := St.oM_back (m := mSmemory_Memory) (A := (some (⟨g18, 0, none⟩ : Addr))) (x := y16) hw hy17
   replace hw := hw.up 3
   replace hw := hw.up 3
   replace hw := hw.up 2
   replace hw := hw.up 3
   replace hw := mSmachine_Machine.close (x := x0) hw
   obtain ⟨ks30, hgks30, hstks30, hbkks30⟩ := hw.lend 1
   obtain ⟨⟨t31, t32⟩, hx33, H⟩ := bind_some H
   refine p_call hs (by rfl) (machine_Machine_store.calls ks30 (some ⟨g1, 0, none⟩) x0 a1.Op (wu32 ((vx 0 x0.s.R (a1.B : Int).toNat) + (wu32 a1.Imm))) (vx 0 x0.s.R (a1.A : Int).toNat) (t31, t32) _ hgks30 hx33) ?_
   rintro e wd34 ⟨rfl, hw35⟩
   refine ⟨_, rfl, ?_⟩
   replace hw := hbkks30 _ _ hw35
   replace hw : St ks0 w0 wd34 [mSmachine_Machine (some ⟨g1, 0, none⟩) t32, own 45 eSapi_Instr (some ad3) 1 [a1]] := hw
   clear hs; intro a hs; replace hs := hs.rms [37, 39, 40, 48]
   refine p_pvs [14, 15] [] [36, 49] [(4, .int .u32 (wu32 (x0.pc + 4))), (5, .int .i64 t31)] hs ?_; clear hs; intro a hs
   refine p_last ?_
   refine e_end ?_
   refine hK28 _ _ ?_
   refine wp_ret ?_
   refine th_ret ?_
   refine ib_ret ?_
   refine th_ret ?_
   obtain rfl := Option.some.inj H
   refine ret2 (t1 := 4) (v1 := .int .u32 (wu32 (x0.pc + 4))) (t2 := 5) (v2 := .int .i64 t31) hs (by kernel_rfl) (by kernel_rfl) (by kernel_rfl) ?_
   exact ⟨rfl, hw.only 1⟩
  ·replace H := ite_f H (of_decide_eq_false hc)
   have hb36 := hc
   rw [hb36] at hs
   refine wp_skip ?_
   refine hK25 _ _ ?_
   refine go_sk fun K37 hK37 => ?_
   refine go_pvs 2 [35] [(51, .pointer (some (⟨g1, 0, none⟩ : Addr))), (52, .pointer (some ((ad3 : Addr).add 1)))] hs ?_; clear hs; intro a hs
   refine go_run hs (by rfl) (x_ld (off := 1) (p := (ad3 : Addr).add 1) (v := .int .i64 a1.Op) (Rd.of_own (hw.up 4)) (one_ok a1) (one_off _ _ _)) [52] ?_; clear hs; intro a hs
   refine go_pvs 4 [7] [(54, .int .u32 (wu32 ((vx 0 x0.s.R (a1.B : Int).toNat) + (wu32 a1.Imm))))] hs ?_; clear hs; intro a hs
   replace hw := St.oM_back (m := mSmemory_Memory) (A := (some (⟨g18, 0, none⟩ : Addr))) (x := y16) hw hy17
   replace hw := hw.up 3
   replace hw := hw.up 3
   replace hw := hw.up 2
   replace hw := hw.up 3
   replace hw := mSmachine_Machine.close (x := x0) hw
   obtain ⟨ks38, hgks38, hstks38, hbkks38⟩ := hw.lend 1
   obtain ⟨⟨t39, t40, t41⟩, hx42, H⟩ := bind_some H
   refine go_call hs (by rfl) (machine_Machine_load.calls ks38 (some ⟨g1, 0, none⟩) x0 a1.Op (wu32 ((vx 0 x0.s.R (a1.B : Int).toNat) + (wu32 a1.Imm))) (t39, t40, t41) _ hgks38 hx42) ?_
   rintro e wd43 ⟨rfl, hw44⟩
   refine ⟨_, rfl, ?_⟩
   replace hw := hbkks38 _ _ hw44
   replace hw : St ks0 w0 wd43 [mSmachine_Machine (some ⟨g1, 0, none⟩) t41, own 45 eSapi_Instr (some ad3) 1 [a1]] := hw
   clear hs; intro a hs; replace hs := hs.rms [51, 53, 54]
   refine go_pvs 10 [55] [(8, .int .u32 t39), (9, .int .i64 t40)] hs ?_; clear hs; intro a hs
   refine go_end (hK37 _ _ ?_)
   refine go_seq_k fun K45 hK45 => ?_
   have hJ1 : ∀ (v71 : Smachine_Machine) (a : Act) (w : World), Slots a 131 [(6, .int .u32 (wu32 (x0.pc + 4))), (9, .int .i64 t40)] → St ks0 w0 w [mSmachine_Machine (some ⟨g1, 0, none⟩) v71, own 45 eSapi_Instr (some ad3) 1 [a1]] → machine_Machine_do.j1 x0 t40 v71 = some r → K45 a w := by
    intro v71 a w hs hw H
    unfold machine_Machine_do.j1 at H
    refine hK45 _ _ ?_
    refine go_sp [6, 9] [(4, .int .u32 (wu32 (x0.pc + 4))), (5, .int .i64 t40)] hs ?_; clear hs; intro a hs
    refine wp_ret ?_
    refine ib_ret ?_
    refine th_ret ?_
    obtain rfl := Option.some.inj H
    refine ret2 (t1 := 4) (v1 := .int .u32 (wu32 (x0.pc + 4))) (t2 := 5) (v2 := .int .i64 t40) hs (by kernel_rfl) (by kernel_rfl) (by kernel_rfl) ?_
    exact ⟨rfl, hw.only 1⟩
   refine go_sp [] [(59, .bool (t40 == 0))] hs ?_; clear hs; intro a hs
   replace hs : Slots a 131 [(0, .pointer (some (⟨g1, 0, none⟩ : Addr))), (3, .pointer (some ad3)), (6, .int .u32 (wu32 (x0.pc + 4))), (8, .int .u32 t39), (9, .int .i64 t40), (59, .bool (t40 == 0))] := hs.kx
   refine go_cond hs (t40 == 0) (fun hc => ?_) fun hc => ?_
   ·replace H := ite_t H (beq_iff_eq.1 hc)
    have hb47 := hc
    rw [hb47] at hs
    refine go_seq_k fun K48 hK48 => ?_
    refine d_region [8] [(true, [0, 1, 2, 3, 4, 5, 6, 7], 8)] [] (by kernel_rfl) (by kernel_rfl) (fun c a d v w h => by cases d <;> exact h) ?_
    refine d_seg ?_
    refine c_pvs [0, 1] [2, 3, 4, 5, 6, 7] [3, 59] [(60, .pointer (some (⟨g1, 0, none⟩ : Addr))), (61, .pointer (some ((ad3 : Addr).add 2)))] hs ?_; clear hs; intro a hs
    refine d_run hs (by rfl) (fun wx hbx => (x_ld (off := 2) (p := (ad3 : Addr).add 2) (v := .int .i64 a1.A) (Rd.bn (Rd.of_own (hw.up 1)) hbx) (one_ok a1) (one_off _ _ _))) [61] ?_; clear hs; intro a hs
    refine c_pvs [3, 4, 5, 6] [7] [60] [(63, .int .u32 t39), (66, .pointer (some (⟨g1, 1, none⟩ : Addr)))] hs ?_; clear hs; intro a hs
    obtain ⟨hp49, H⟩ := ite_only H
    refine d_run hs (by rfl) (fun wx hbx => (x_vidx (e := 23) (p := (⟨g1, 1, none⟩ : Addr)) (n := 16) (k := .i64) (i := a1.A) (sz := 1) hp49)) [62, 66] ?_; clear hs; intro a hs
    refine c_end ?_
    intro wq hbq
    replace hw := hw.behind hbq
    obtain ⟨Aa50, Aa52, cc53, Aa55, cc56, hw⟩ := mSmachine_Machine.open1 hw
    replace hw : St ks0 w0 _ [box g1 40 ([.pointer Aa50] ++ eSapi_Regs.enc t41.s ++ [.int .u32 t41.pc, .int .i64 t41.status, .slice Aa52 t41.in'.length cc53, .slice Aa55 t41.out.length cc56]), oM mSmemory_Memory Aa50 t41.Memory, rdo (eI .u32) Aa52 cc53 t41.in', own 23 (eI .u32) Aa55 cc56 t41.out, own 45 eSapi_Instr (some ad3) 1 [a1]] := hw
    replace hw := hw.up 1
    obtain ⟨y58, hy59, H⟩ := bind_some H
    replace hw := St.oM_some hw hy59
    obtain ⟨g60, hAg, hwg⟩ := St.one hw
    clear hw; subst hAg; have hw := hwg; clear hwg
    replace hw : St ks0 w0 _ [own 75 eSmemory_Memory (some (⟨g60, 0, none⟩ : Addr)) 1 [y58], box g1 40 ([.pointer (some (⟨g60, 0, none⟩ : Addr))] ++ eSapi_Regs.enc t41.s ++ [.int .u32 t41.pc, .int .i64 t41.status, .slice Aa52 t41.in'.length cc53, .slice Aa55 t41.out.length cc56]), rdo (eI .u32) Aa52 cc53 t41.in', own 23 (eI .u32) Aa55 cc56 t41.out, own 45 eSapi_Instr (some ad3) 1 [a1]] := hw
    replace hw := hw.up 1
    obtain ⟨wd61, hx62, hw⟩ := x_bput (P := Try.prog) (ty := 0) (t := 23) (y := (Operand.tmp 67)) (z := (Operand.tmp 63)) (o := 1 + (a1.A : Int).toNat * 1) (p := (⟨g1, 1, none⟩ : Addr).add ((a1.A : Int).toNat * 1)) (v := .int .u32 t39) (vs := [.int .u32 t39]) (cs' := [.pointer (some (⟨g60, 0, none⟩ : Addr))] ++ eSapi_Regs.enc ({ t41.s with R := vset t41.s.R (a1.A : Int).toNat t39 } : Sapi_Regs) ++ [.int .u32 t41.pc, .int .i64 t41.status, .slice Aa52 t41.in'.length cc53, .slice Aa55 t41.out.length cc56]) hs hw (by kernel_rfl) (badd _ _ _) (by kernel_rfl) rfl (by kernel_rfl) (Nat.ble_eq_true_of_le (Nat.le_trans (m := 26) (by have := hp49; show 1 + _ * 1 + 1 ≤ 26; omega) (Nat.le_of_eq (by kernel_rfl)))) (by simp [Value.oneCell']) (vput (cs := [.pointer (some (⟨g60, 0, none⟩ : Addr))] ++ eSapi_Regs.enc t41.s ++ [.int .u32 t41.pc, .int .i64 t41.status, .slice Aa52 t41.in'.length cc53, .slice Aa55 t41.out.length cc56]) (cs' := [.pointer (some (⟨g60, 0, none⟩ : Addr))] ++ eSapi_Regs.enc ({ t41.s with R := vset t41.s.R (a1.A : Int).toNat t39 } : Sapi_Regs) ++ [.int .u32 t41.pc, .int .i64 t41.status, .slice Aa52 t41.in'.length cc53, .slice Aa55 t41.out.length cc56]) (pre := [.pointer (some (⟨g60, 0, none⟩ : Addr))]) (post := [.int .u32 t41.s.H, .bool t41.s.N, .bool t41.s.Z, .bool t41.s.C, .bool t41.s.V] ++ [.int .u32 t41.pc, .int .i64 t41.status, .slice Aa52 t41.in'.length cc53, .slice Aa55 t41.out.length cc56]) (f := (fun j : Nat => .int .u32 (vx 0 t41.s.R j))) (f' := (fun j : Nat => .int .u32 (vx 0 (vset t41.s.R (a1.A : Int).toNat t39) j))) (n := 16) (o := 1) (i := (a1.A : Int).toNat) (v := .int .u32 t39) (by kernel_rfl) (by kernel_rfl) rfl (by have := hp49; omega) (vx_put (by have := hp49; omega)))
    refine p_unit hs (by rfl) hx62 [63, 67] ?_; clear hs; intro a hs
    refine c_done ⟨.inl (by kernel_rfl), ?_⟩
    clear hbq
    refine d_last ?_
    refine c_end ?_
    intro wq hbq
    replace hw := hw.behind hbq
    refine hK48 _ _ ?_
    refine go_region ?_
    refine go_pvs 4 [0] [(68, .pointer (some (⟨g1, 0, none⟩ : Addr))), (71, .pointer (some (⟨g1, 1, none⟩ : Addr)))] hs ?_; clear hs; intro a hs
    refine go_run hs (by rfl) (x_blds (g := g1) (o := 1) (p := (⟨g1, 1, none⟩ : Addr)) (vs := (eSapi_Regs.enc ({ t41.s with R := vset t41.s.R (a1.A : Int).toNat t39 } : Sapi_Regs))) (hw.up 0)) [71] ?_; clear hs; intro a hs
    refine go_pvs 6 [8] [(73, .int .u32 t39)] hs ?_; clear hs; intro a hs
    obtain ⟨t64, hx65, H⟩ := bind_some H
    refine go_call hs (by rfl) (alu_Show.calls ({ t41.s with R := vset t41.s.R (a1.A : Int).toNat t39 } : Sapi_Regs) t39 t64 _ hx65) ?_
    rintro e wd66 ⟨rfl, hw67⟩
    refine ⟨_, rfl, ?_⟩
    replace hw := hw.call hw67
    clear hs; intro a hs; replace hs := hs.rms [72, 73]
    refine go_pvs 9 [68] [(76, .pointer (some (⟨g1, 1, none⟩ : Addr)))] hs ?_; clear hs; intro a hs
    obtain ⟨wd68, hx69, hw⟩ := x_bput (P := Try.prog) (ty := 0) (t := 26) (y := (Operand.tmp 76)) (z := (Operand.tmp 74)) (o := 1) (p := (⟨g1, 1, none⟩ : Addr)) (v := .agg (eSapi_Regs.enc t64).toArray) (vs := (eSapi_Regs.enc t64)) (cs' := [.pointer (some (⟨g60, 0, none⟩ : Addr))] ++ eSapi_Regs.enc t64 ++ [.int .u32 t41.pc, .int .i64 t41.status, .slice Aa52 t41.in'.length cc53, .slice Aa55 t41.out.length cc56]) hs hw (by kernel_rfl) rfl (by kernel_rfl) rfl (by kernel_rfl) (by kernel_rfl) (eSapi_Regs.one _) (by kernel_rfl)
    refine go_unit hs (by rfl) hx69 [74, 76] ?_; clear hs; intro a hs
    refine go_end ?_
    replace hw := hw.up 1
    replace hw := St.oM_of (m := mSmemory_Memory) (A := (some (⟨g60, 0, none⟩ : Addr))) (x := y58) hw
    replace hw := hw.up 3
    replace hw := hw.up 3
    replace hw := hw.up 2
    replace hw := hw.up 3
    replace hw := mSmachine_Machine.close (x := (⟨(some y58), t64, t41.pc, t41.status, t41.in', t41.out⟩ : Smachine_Machine)) hw
    replace hw := hw.up 1
    replace hw := hw.up 1
    exact hJ1 (⟨(some y58), t64, t41.pc, t41.status, t41.in', t41.out⟩ : Smachine_Machine) _ _ hs.kx hw H
   ·replace H := ite_f H (beq_eq_false_iff_ne.1 hc)
    have hb70 := hc
    rw [hb70] at hs
    refine wp_skip ?_
    replace hw := hw.up 1
    replace hw := hw.up 1
    exact hJ1 t41 _ _ hs.kx hw H
 ·replace H := ite_f H (beq_eq_false_iff_ne.1 hc)
  have hb73 := hc
  rw [hb73] at hs
  refine go_seq_k fun K74 hK74 => ?_
  have hJ2 : ∀ (v78 : Bool) (a : Act) (w : World), Slots a 131 [(0, .pointer (some (⟨g1, 0, none⟩ : Addr))), (3, .pointer (some ad3)), (6, .int .u32 (wu32 (x0.pc + 4))), (79, .bool v78)] → St ks0 w0 w [mSmachine_Machine (some ⟨g1, 0, none⟩) x0, own 45 eSapi_Instr (some ad3) 1 [a1]] → machine_Machine_do.j2 x0 a1 v78 = some r → K74 a w := by
   intro v78 a w hs hw H
   unfold machine_Machine_do.j2 at H
   refine hK74 _ _ ?_
   refine go_cond hs v78 (fun hc => ?_) fun hc => ?_
   ·replace H := ite_t H hc
    have hb79 := hc
    rw [hb79] at hs
    refine go_seq_k fun K80 hK80 => ?_
    refine go_seq_k fun K81 hK81 => ?_
    refine q2_region (by kernel_rfl) (by kernel_rfl) ?_
    refine q_pvs 3 [79] [(84, .pointer (some (⟨g1, 1, none⟩ : Addr)))] hs ?_; clear hs; intro a hs
    obtain ⟨Aa82, Aa84, cc85, Aa87, cc88, hw⟩ := mSmachine_Machine.open1 hw
    replace hw : St ks0 w0 _ [box g1 40 ([.pointer Aa82] ++ eSapi_Regs.enc x0.s ++ [.int .u32 x0.pc, .int .i64 x0.status, .slice Aa84 x0.in'.length cc85, .slice Aa87 x0.out.length cc88]), oM mSmemory_Memory Aa82 x0.Memory, rdo (eI .u32) Aa84 cc85 x0.in', own 23 (eI .u32) Aa87 cc88 x0.out, own 45 eSapi_Instr (some ad3) 1 [a1]] := hw
    replace hw := hw.up 1
    obtain ⟨y90, hy91, H⟩ := bind_some H
    replace hw := St.oM_some hw hy91
    obtain ⟨g92, hAg, hwg⟩ := St.one hw
    clear hw; subst hAg; have hw := hwg; clear hwg
    replace hw : St ks0 w0 _ [own 75 eSmemory_Memory (some (⟨g92, 0, none⟩ : Addr)) 1 [y90], box g1 40 ([.pointer (some (⟨g92, 0, none⟩ : Addr))] ++ eSapi_Regs.enc x0.s ++ [.int .u32 x0.pc, .int .i64 x0.status, .slice Aa84 x0.in'.length cc85, .slice Aa87 x0.out.length cc88]), rdo (eI .u32) Aa84 cc85 x0.in', own 23 (eI .u32) Aa87 cc88 x0.out, own 45 eSapi_Instr (some ad3) 1 [a1]] := hw
    refine q_run hs (by rfl) (fun wx hbx => (x_blds (g := g1) (o := 1) (p := (⟨g1, 1, none⟩ : Addr)) (vs := (eSapi_Regs.enc x0.s)) ((hw.behind hbx).up 1))) [84] ?_; clear hs; intro a hs
    refine q_pvs 5 [] [(86, .pointer (some ((ad3 : Addr).add 1)))] hs ?_; clear hs; intro a hs
    refine q_run hs (by rfl) (fun wx hbx => (x_ld (off := 1) (p := (ad3 : Addr).add 1) (v := .int .i64 a1.Op) ((Rd.of_own (hw.up 4)).below hbx) (one_ok a1) (one_off _ _ _))) [86] ?_; clear hs; intro a hs
    obtain ⟨t94, hx95, H⟩ := bind_some H
    refine q_call hs (by rfl) (fun wx hbx => (alu_Taken.calls x0.s a1.Op t94 _ hx95).mono fun e wy h => ⟨h.1, below_st hbx h.2⟩) [85, 87] ?_; clear hs; intro a hs
    refine q_pvs 8 [88] [(89, .bool (!t94))] hs ?_; clear hs; intro a hs
    refine q_end ?_
    intro wq hbq
    replace hw := hw.behind hbq
    refine hK81 _ _ ?_
    refine go_cond hs (!t94) (fun hc => ?_) fun hc => ?_
    ·replace H := ite_f H (ff (nt hc))
     have hb96 := hc
     rw [hb96] at hs
     refine go_sp [0, 3, 6, 89] [(4, .int .u32 (wu32 (x0.pc + 4))), (5, .int .i64 0)] hs ?_; clear hs; intro a hs
     refine wp_ret ?_
     refine th_ret ?_
     refine ib_ret ?_
     refine th_ret ?_
     obtain rfl := Option.some.inj H
     replace hw := St.oM_back (m := mSmemory_Memory) (A := (some (⟨g92, 0, none⟩ : Addr))) (x := y90) hw hy91
     replace hw := hw.up 3
     replace hw := hw.up 3
     replace hw := hw.up 2
     replace hw := hw.up 3
     replace hw := mSmachine_Machine.close (x := x0) hw
     refine ret2 (t1 := 4) (v1 := .int .u32 (wu32 (x0.pc + 4))) (t2 := 5) (v2 := .int .i64 0) hs (by kernel_rfl) (by kernel_rfl) (by kernel_rfl) ?_
     exact ⟨rfl, hw.only 1⟩
    ·replace H := ite_t H (nf hc)
     have hb98 := hc
     rw [hb98] at hs
     refine wp_skip ?_
     refine hK80 _ _ ?_
     refine go_seq_k fun K99 hK99 => ?_
     refine q2_region (by kernel_rfl) (by kernel_rfl) ?_
     refine q_pvs 2 [89] [(91, .pointer (some (⟨g1, 0, none⟩ : Addr))), (92, .pointer (some ((ad3 : Addr).add 4)))] hs ?_; clear hs; intro a hs
     refine q_run hs (by rfl) (fun wx hbx => (x_ld (off := 4) (p := (ad3 : Addr).add 4) (v := .int .i64 a1.C) ((Rd.of_own (hw.up 4)).below hbx) (one_ok a1) (one_off _ _ _))) [92] ?_; clear hs; intro a hs
     refine q_pvs 6 [91] [(96, .pointer (some (⟨g1, 1, none⟩ : Addr)))] hs ?_; clear hs; intro a hs
     obtain ⟨hp100, H⟩ := ite_only H
     refine q_run hs (by rfl) (fun wx hbx => (x_vidx (e := 23) (p := (⟨g1, 1, none⟩ : Addr)) (n := 16) (k := .i64) (i := a1.C) (sz := 1) hp100)) [93, 96] ?_; clear hs; intro a hs
     refine q_run hs (by rfl) (fun wx hbx => (x_bld (g := g1) (o := 1 + (a1.C : Int).toNat * 1) (p := (⟨g1, 1, none⟩ : Addr).add ((a1.C : Int).toNat * 1)) (v := .int .u32 (vx 0 x0.s.R (a1.C : Int).toNat)) ((hw.behind hbx).up 1) (hp := badd _ _ _) (hv := (vget (cs := [.pointer (some (⟨g92, 0, none⟩ : Addr))] ++ eSapi_Regs.enc x0.s ++ [.int .u32 x0.pc, .int .i64 x0.status, .slice Aa84 x0.in'.length cc85, .slice Aa87 x0.out.length cc88]) (pre := [.pointer (some (⟨g92, 0, none⟩ : Addr))]) (post := [.int .u32 x0.s.H, .bool x0.s.N, .bool x0.s.Z, .bool x0.s.C, .bool x0.s.V] ++ [.int .u32 x0.pc, .int .i64 x0.status, .slice Aa84 x0.in'.length cc85, .slice Aa87 x0.out.length cc88]) (f := (fun j : Nat => .int .u32 (vx 0 x0.s.R j))) (n := 16) (o := 1) (i := (a1.C : Int).toNat) (by kernel_rfl) rfl (by have := hp100; omega))))) [97] ?_; clear hs; intro a hs
     refine q_pvs 9 [98] [(10, .int .u32 (vx 0 x0.s.R (a1.C : Int).toNat))] hs ?_; clear hs; intro a hs
     refine q_end ?_
     intro wq hbq
     replace hw := hw.behind hbq
     refine hK99 _ _ ?_
     refine go_seq_k fun K101 hK101 => ?_
     have hJ3 : ∀ (v106 : Int) (a : Act) (w : World), Slots a 131 [(0, .pointer (some (⟨g1, 0, none⟩ : Addr))), (3, .pointer (some ad3)), (6, .int .u32 (wu32 (x0.pc + 4))), (10, .int .u32 v106)] → St ks0 w0 w [mSmachine_Machine (some ⟨g1, 0, none⟩) x0, own 45 eSapi_Instr (some ad3) 1 [a1]] → machine_Machine_do.j3 a1 x0 v106 = some r → K101 a w := by
      intro v106 a w hs hw H
      unfold machine_Machine_do.j3 at H
      refine hK101 _ _ ?_
      refine go_seq_k fun K107 hK107 => ?_
      have hJ4 : ∀ (v124 : Smachine_Machine) (a : Act) (w : World), Slots a 131 [(10, .int .u32 v106)] → St ks0 w0 w [mSmachine_Machine (some ⟨g1, 0, none⟩) v124, own 45 eSapi_Instr (some ad3) 1 [a1]] → machine_Machine_do.j4 v106 v124 = some r → K107 a w := by
       intro v124 a w hs hw H
       unfold machine_Machine_do.j4 at H
       refine hK107 _ _ ?_
       refine go_sp [10] [(4, .int .u32 v106), (5, .int .i64 0)] hs ?_; clear hs; intro a hs
       refine wp_ret ?_
       refine ib_ret ?_
       refine th_ret ?_
       obtain rfl := Option.some.inj H
       refine ret2 (t1 := 4) (v1 := .int .u32 v106) (t2 := 5) (v2 := .int .i64 0) hs (by kernel_rfl) (by kernel_rfl) (by kernel_rfl) ?_
       exact ⟨rfl, hw.only 1⟩
      refine go_sk fun K108 hK108 => ?_
      refine go_pvs 1 [3] [(108, .pointer (some ((ad3 : Addr).add 6)))] hs ?_; clear hs; intro a hs
      refine go_run hs (by rfl) (x_ld (off := 6) (p := (ad3 : Addr).add 6) (v := .bool a1.U) (Rd.of_own (hw.up 1)) (one_ok a1) (one_off _ _ _)) [108] ?_; clear hs; intro a hs
      refine go_end (hK108 _ _ ?_)
      refine go_cond hs a1.U (fun hc => ?_) fun hc => ?_
      ·replace H := ite_t H hc
       have hb109 := hc
       rw [hb109] at hs
       refine go_region ?_
       refine go_pvs 5 [0, 6, 109] [(111, .int .u32 (wu32 (x0.pc + 4))), (114, .pointer (some (⟨g1, 1, none⟩ : Addr)))] hs ?_; clear hs; intro a hs
       refine go_run hs (by rfl) (x_vidx (e := 23) (p := (⟨g1, 1, none⟩ : Addr)) (n := 16) (k := .i64) (i := 15) (sz := 1) (⟨by decide, by decide⟩ : (0 : Int) ≤ 15 ∧ (15 : Int) < ((16 : Nat) : Int))) [114] ?_; clear hs; intro a hs
       obtain ⟨Aa110, Aa112, cc113, Aa115, cc116, hw⟩ := mSmachine_Machine.open1 hw
       replace hw : St ks0 w0 _ [box g1 40 ([.pointer Aa110] ++ eSapi_Regs.enc x0.s ++ [.int .u32 x0.pc, .int .i64 x0.status, .slice Aa112 x0.in'.length cc113, .slice Aa115 x0.out.length cc116]), oM mSmemory_Memory Aa110 x0.Memory, rdo (eI .u32) Aa112 cc113 x0.in', own 23 (eI .u32) Aa115 cc116 x0.out, own 45 eSapi_Instr (some ad3) 1 [a1]] := hw
       replace hw := hw.up 1
       obtain ⟨y118, hy119, H⟩ := bind_some H
       replace hw := St.oM_some hw hy119
       obtain ⟨g120, hAg, hwg⟩ := St.one hw
       clear hw; subst hAg; have hw := hwg; clear hwg
       replace hw : St ks0 w0 _ [own 75 eSmemory_Memory (some (⟨g120, 0, none⟩ : Addr)) 1 [y118], box g1 40 ([.pointer (some (⟨g120, 0, none⟩ : Addr))] ++ eSapi_Regs.enc x0.s ++ [.int .u32 x0.pc, .int .i64 x0.status, .slice Aa112 x0.in'.length cc113, .slice Aa115 x0.out.length cc116]), rdo (eI .u32) Aa112 cc113 x0.in', own 23 (eI .u32) Aa115 cc116 x0.out, own 45 eSapi_Instr (some ad3) 1 [a1]] := hw
       replace hw := hw.up 1
       obtain ⟨wd121, hx122, hw⟩ := x_bput (P := Try.prog) (ty := 0) (t := 23) (y := (Operand.tmp 115)) (z := (Operand.tmp 111)) (o := 1 + 15 * 1) (p := (⟨g1, 16, none⟩ : Addr)) (v := .int .u32 (wu32 (x0.pc + 4))) (vs := [.int .u32 (wu32 (x0.pc + 4))]) (cs' := [.pointer (some (⟨g120, 0, none⟩ : Addr))] ++ eSapi_Regs.enc ({ x0.s with R := vset x0.s.R 15 (wu32 (x0.pc + 4)) } : Sapi_Regs) ++ [.int .u32 x0.pc, .int .i64 x0.status, .slice Aa112 x0.in'.length cc113, .slice Aa115 x0.out.length cc116]) hs hw (by kernel_rfl) rfl (by kernel_rfl) rfl (by kernel_rfl) (Nat.ble_eq_true_of_le (Nat.le_trans (m := 26) (by have := (⟨by decide, by decide⟩ : (0 : Int) ≤ 15 ∧ (15 : Int) < ((16 : Nat) : Int)); show 1 + _ * 1 + 1 ≤ 26; omega) (Nat.le_of_eq (by kernel_rfl)))) (by simp [Value.oneCell']) (vput (cs := [.pointer (some (⟨g120, 0, none⟩ : Addr))] ++ eSapi_Regs.enc x0.s ++ [.int .u32 x0.pc, .int .i64 x0.status, .slice Aa112 x0.in'.length cc113, .slice Aa115 x0.out.length cc116]) (cs' := [.pointer (some (⟨g120, 0, none⟩ : Addr))] ++ eSapi_Regs.enc ({ x0.s with R := vset x0.s.R 15 (wu32 (x0.pc + 4)) } : Sapi_Regs) ++ [.int .u32 x0.pc, .int .i64 x0.status, .slice Aa112 x0.in'.length cc113, .slice Aa115 x0.out.length cc116]) (pre := [.pointer (some (⟨g120, 0, none⟩ : Addr))]) (post := [.int .u32 x0.s.H, .bool x0.s.N, .bool x0.s.Z, .bool x0.s.C, .bool x0.s.V] ++ [.int .u32 x0.pc, .int .i64 x0.status, .slice Aa112 x0.in'.length cc113, .slice Aa115 x0.out.length cc116]) (f := (fun j : Nat => .int .u32 (vx 0 x0.s.R j))) (f' := (fun j : Nat => .int .u32 (vx 0 (vset x0.s.R 15 (wu32 (x0.pc + 4))) j))) (n := 16) (o := 1) (i := 15) (v := .int .u32 (wu32 (x0.pc + 4))) (by kernel_rfl) (by kernel_rfl) rfl (by have := (⟨by decide, by decide⟩ : (0 : Int) ≤ 15 ∧ (15 : Int) < ((16 : Nat) : Int)); omega) (vx_put (by have := (⟨by decide, by decide⟩ : (0 : Int) ≤ 15 ∧ (15 : Int) < ((16 : Nat) : Int)); omega)))
       refine go_unit hs (by rfl) hx122 [111, 115] ?_; clear hs; intro a hs
       refine go_end ?_
       replace hw := hw.up 1
       replace hw := St.oM_of (m := mSmemory_Memory) (A := (some (⟨g120, 0, none⟩ : Addr))) (x := y118) hw
       replace hw := hw.up 3
       replace hw := hw.up 3
       replace hw := hw.up 2
       replace hw := hw.up 3
       replace hw := mSmachine_Machine.close (x := (⟨(some y118), ({ x0.s with R := vset x0.s.R 15 (wu32 (x0.pc + 4)) } : Sapi_Regs), x0.pc, x0.status, x0.in', x0.out⟩ : Smachine_Machine)) hw
       replace hw := hw.up 1
       replace hw := hw.up 1
       exact hJ4 (⟨(some y118), ({ x0.s with R := vset x0.s.R 15 (wu32 (x0.pc + 4)) } : Sapi_Regs), x0.pc, x0.status, x0.in', x0.out⟩ : Smachine_Machine) _ _ hs.kx hw H
      ·replace H := ite_f H (ff hc)
       have hb123 := hc
       rw [hb123] at hs
       refine wp_skip ?_
       replace hw := hw.up 1
       replace hw := hw.up 1
       exact hJ4 x0 _ _ hs.kx hw H
     refine go_sk fun K102 hK102 => ?_
     refine go_pvs 1 [] [(99, .pointer (some ((ad3 : Addr).add 0)))] hs ?_; clear hs; intro a hs
     refine go_run hs (by rfl) (x_ld (off := 0) (p := (ad3 : Addr).add 0) (v := .int .i64 a1.Kind) (Rd.of_own (hw.up 4)) (one_ok a1) (one_off _ _ _)) [99] ?_; clear hs; intro a hs
     refine go_pvs 3 [100] [(101, .bool (a1.Kind == 7))] hs ?_; clear hs; intro a hs
     refine go_end (hK102 _ _ ?_)
     refine go_cond hs (a1.Kind == 7) (fun hc => ?_) fun hc => ?_
     ·replace H := ite_t H (beq_iff_eq.1 hc)
      have hb103 := hc
      rw [hb103] at hs
      refine go_region ?_
      refine go_pvs 2 [10, 101] [(102, .int .u32 (wu32 (x0.pc + 4))), (103, .pointer (some ((ad3 : Addr).add 5)))] hs ?_; clear hs; intro a hs
      refine go_run hs (by rfl) (x_ld (off := 5) (p := (ad3 : Addr).add 5) (v := .int .i64 a1.Imm) (Rd.of_own (hw.up 4)) (one_ok a1) (one_off _ _ _)) [103] ?_; clear hs; intro a hs
      refine go_pvs 7 [102, 104] [(10, .int .u32 (wu32 ((wu32 (x0.pc + 4)) + (wu32 ((wu32 a1.Imm) * 4)))))] hs ?_; clear hs; intro a hs
      obtain ⟨y104, hy104, H⟩ := nm_some H
      replace hs : Slots a 131 [(0, .pointer (some (⟨g1, 0, none⟩ : Addr))), (3, .pointer (some ad3)), (6, .int .u32 (wu32 (x0.pc + 4))), (10, .int .u32 y104)] := by rw [hy104]; exact hs.kx
      refine go_end ?_
      replace hw := St.oM_back (m := mSmemory_Memory) (A := (some (⟨g92, 0, none⟩ : Addr))) (x := y90) hw hy91
      replace hw := hw.up 3
      replace hw := hw.up 3
      replace hw := hw.up 2
      replace hw := hw.up 3
      replace hw := mSmachine_Machine.close (x := x0) hw
      replace hw := hw.up 1
      replace hw := hw.up 1
      exact hJ3 y104 _ _ hs.kx hw H
     ·replace H := ite_f H (beq_eq_false_iff_ne.1 hc)
      have hb105 := hc
      rw [hb105] at hs
      refine wp_skip ?_
      replace hw := St.oM_back (m := mSmemory_Memory) (A := (some (⟨g92, 0, none⟩ : Addr))) (x := y90) hw hy91
      replace hw := hw.up 3
      replace hw := hw.up 3
      replace hw := hw.up 2
      replace hw := hw.up 3
      replace hw := mSmachine_Machine.close (x := x0) hw
      replace hw := hw.up 1
      replace hw := hw.up 1
      exact hJ3 (vx 0 x0.s.R (a1.C : Int).toNat) _ _ hs.kx hw H
   ·replace H := ite_f H (ff hc)
    have hb126 := hc
    rw [hb126] at hs
    refine wp_skip ?_
    refine ib_norm ?_
    replace hw := hw.up 1
    replace hw := hw.up 1
    exact hJ5 _ _ hs.kx hw H
  refine go_sp [19] [(79, .bool (a1.Kind == 6))] hs ?_; clear hs; intro a hs
  refine go_cond hs (a1.Kind == 6) (fun hc => ?_) fun hc => ?_
  ·replace H := ite_t H (beq_iff_eq.1 hc)
   have hb76 := hc
   rw [hb76] at hs
   refine wp_skip ?_
   replace hw := St.oM_back (m := mSmemory_Memory) (A := (some (⟨g18, 0, none⟩ : Addr))) (x := y16) hw hy17
   replace hw := hw.up 3
   replace hw := hw.up 3
   replace hw := hw.up 2
   replace hw := hw.up 3
   replace hw := mSmachine_Machine.close (x := x0) hw
   replace hw := hw.up 1
   replace hw := hw.up 1
   exact hJ2 true _ _ hs.kx hw H
  ·replace H := ite_f H (beq_eq_false_iff_ne.1 hc)
   have hb77 := hc
   rw [hb77] at hs
   refine go_plain [18] [(79, .bool (a1.Kind == 7))] hs ?_; clear hs; intro a hs
   replace hw := St.oM_back (m := mSmemory_Memory) (A := (some (⟨g18, 0, none⟩ : Addr))) (x := y16) hw hy17
   replace hw := hw.up 3
   replace hw := hw.up 3
   replace hw := hw.up 2
   replace hw := hw.up 3
   replace hw := mSmachine_Machine.close (x := x0) hw
   replace hw := hw.up 1
   replace hw := hw.up 1
   exact hJ2 (a1.Kind == 7) _ _ hs.kx hw H

/-! (*rivet/machine.Machine).Step: function 17 -/
noncomputable def machine_Machine_Step.j1 (v81 : Smachine_Machine) : Option (Int × Smachine_Machine) := ((v81.Memory).bind fun y91 => (some (v81.status, v81)))
noncomputable def machine_Machine_Step (x0 : Smachine_Machine) : Option (Int × Smachine_Machine) := ((x0.Memory).bind fun y13 => ((if x0.status = 0 then ((memory_Memory_Word y13 x0.pc).bind fun ⟨t21, t22⟩ => ((if t22 = 0 then ((isa_Decode t21).bind fun ⟨t34, t35⟩ => ((if t35 = true then ((machine_Machine_do (⟨(some y13), x0.s, x0.pc, t22, x0.in', x0.out⟩ : Smachine_Machine) (t34 : Sapi_Instr)).bind fun ⟨t57, t58, t59⟩ => (((t59.Memory).bind fun y71 => ((if t58 ≤ 1 then machine_Machine_Step.j1 (⟨(some y71), t59.s, t57, t58, t59.in', t59.out⟩ : Smachine_Machine) else machine_Machine_Step.j1 (⟨(some y71), t59.s, t59.pc, t58, t59.in', t59.out⟩ : Smachine_Machine)))))) else some (2, (⟨(some y13), x0.s, x0.pc, 2, x0.in', x0.out⟩ : Smachine_Machine))))) else some (t22, (⟨(some y13), x0.s, x0.pc, t22, x0.in', x0.out⟩ : Smachine_Machine))))) else some (x0.status, x0))))
set_option maxRecDepth 100000 in
set_option maxHeartbeats 4000000 in
theorem machine_Machine_Step.calls (ks0 : List Nat) (A0 : Option Addr) (x0 : Smachine_Machine) (r : Int × Smachine_Machine) (w0 : World) (hw : St ks0 w0 w0 [mSmachine_Machine A0 x0]) (H : machine_Machine_Step x0 = some r) :
    Calls Try.prog 17 #[.pointer A0] w0 fun e w' => e = .returned (.int .i64 r.1) ∧ St ks0 w0 w' [mSmachine_Machine A0 r.2] := by
 unfold machine_Machine_Step at H
 refine go_fn Try.func17 rfl Try.ntmps17 ?_; intro a hs
 obtain ⟨g1, hAg, hwg⟩ := mSmachine_Machine.addr hw
 clear hw; subst hAg; have hw := hwg; clear hwg
 replace hw : St ks0 w0 _ [mSmachine_Machine (some ⟨g1, 0, none⟩) x0] := hw
 refine go_sp [] [(0, .pointer (some (⟨g1, 0, none⟩ : Addr)))] hs ?_; clear hs; intro a hs
 refine go_seq_k fun K3 hK3 => ?_
 refine go_sk fun K4 hK4 => ?_
 refine go_pvs 3 [] [(10, .pointer (some (⟨g1, 23, none⟩ : Addr)))] hs ?_; clear hs; intro a hs
 obtain ⟨Aa5, Aa7, cc8, Aa10, cc11, hw⟩ := mSmachine_Machine.open1 hw
 replace hw : St ks0 w0 _ [box g1 40 ([.pointer Aa5] ++ eSapi_Regs.enc x0.s ++ [.int .u32 x0.pc, .int .i64 x0.status, .slice Aa7 x0.in'.length cc8, .slice Aa10 x0.out.length cc11]), oM mSmemory_Memory Aa5 x0.Memory, rdo (eI .u32) Aa7 cc8 x0.in', own 23 (eI .u32) Aa10 cc11 x0.out] := hw
 replace hw := hw.up 1
 obtain ⟨y13, hy14, H⟩ := bind_some H
 replace hw := St.oM_some hw hy14
 obtain ⟨g15, hAg, hwg⟩ := St.one hw
 clear hw; subst hAg; have hw := hwg; clear hwg
 replace hw : St ks0 w0 _ [own 75 eSmemory_Memory (some (⟨g15, 0, none⟩ : Addr)) 1 [y13], box g1 40 ([.pointer (some (⟨g15, 0, none⟩ : Addr))] ++ eSapi_Regs.enc x0.s ++ [.int .u32 x0.pc, .int .i64 x0.status, .slice Aa7 x0.in'.length cc8, .slice Aa10 x0.out.length cc11]), rdo (eI .u32) Aa7 cc8 x0.in', own 23 (eI .u32) Aa10 cc11 x0.out] := hw
 refine go_run hs (by rfl) (x_bld (g := g1) (o := 23) (p := (⟨g1, 23, none⟩ : Addr)) (v := .int .i64 x0.status) (hw.up 1)) [10] ?_; clear hs; intro a hs
 refine go_pvs 5 [11] [(12, .bool (x0.status != 0))] hs ?_; clear hs; intro a hs
 refine go_end (hK4 _ _ ?_)
 refine go_cond hs (x0.status != 0) (fun hc => ?_) fun hc => ?_
 ·replace H := ite_f H (bne_iff_ne.1 hc)
  have hb16 := hc
  rw [hb16] at hs
  refine go_sk fun K17 hK17 => ?_
  refine go_pvs 3 [0, 12] [(15, .pointer (some (⟨g1, 23, none⟩ : Addr)))] hs ?_; clear hs; intro a hs
  refine go_run hs (by rfl) (x_bld (g := g1) (o := 23) (p := (⟨g1, 23, none⟩ : Addr)) (v := .int .i64 x0.status) (hw.up 1)) [15] ?_; clear hs; intro a hs
  refine go_pvs 5 [16] [(2, .int .i64 x0.status)] hs ?_; clear hs; intro a hs
  refine go_end (hK17 _ _ ?_)
  refine wp_ret ?_
  refine th_ret ?_
  obtain rfl := Option.some.inj H
  replace hw := St.oM_back (m := mSmemory_Memory) (A := (some (⟨g15, 0, none⟩ : Addr))) (x := y13) hw hy14
  replace hw := hw.up 3
  replace hw := hw.up 3
  replace hw := hw.up 2
  replace hw := hw.up 3
  replace hw := mSmachine_Machine.close (x := x0) hw
  refine ret1 (t := 2) (v := .int .i64 x0.status) hs (by kernel_rfl) (by kernel_rfl) ?_
  exact ⟨rfl, hw.only 1⟩
 ·replace H := ite_t H (bne_eq_false_iff_eq.1 hc)
  have hb18 := hc
  rw [hb18] at hs
  refine wp_skip ?_
  refine hK3 _ _ ?_
  refine go_seq_k fun K19 hK19 => ?_
  refine q2_region (by kernel_rfl) (by kernel_rfl) ?_
  refine q_pvs 3 [12] [(20, .pointer (some (⟨g1, 0, none⟩ : Addr)))] hs ?_; clear hs; intro a hs
  refine q_run hs (by rfl) (fun wx hbx => (x_bld (g := g1) (o := 0) (p := (⟨g1, 0, none⟩ : Addr)) (v := .pointer (some (⟨g15, 0, none⟩ : Addr))) ((hw.behind hbx).up 1))) [20] ?_; clear hs; intro a hs
  refine q_pvs 7 [] [(24, .pointer (some (⟨g1, 22, none⟩ : Addr)))] hs ?_; clear hs; intro a hs
  refine q_run hs (by rfl) (fun wx hbx => (x_bld (g := g1) (o := 22) (p := (⟨g1, 22, none⟩ : Addr)) (v := .int .u32 x0.pc) ((hw.behind hbx).up 1))) [24] ?_; clear hs; intro a hs
  obtain ⟨⟨t21, t22⟩, hx23, H⟩ := bind_some H
  refine q_call hs (by rfl) (fun wx hbx => (memory_Memory_Word.calls (some (⟨g15, 0, none⟩ : Addr)) y13 x0.pc (t21, t22) _ ((Rd.of_own (hw.up 0)).below hbx) hx23).mono fun e wy h => ⟨h.1, below_st hbx h.2⟩) [21, 25] ?_; clear hs; intro a hs
  refine q_pvs 14 [26] [(3, .int .u32 t21), (4, .int .i64 t22)] hs ?_; clear hs; intro a hs
  refine q_end ?_
  intro wq hbq
  replace hw := hw.behind hbq
  refine hK19 _ _ ?_
  refine go_seq_k fun K24 hK24 => ?_
  refine go_sk fun K25 hK25 => ?_
  refine go_pvs 4 [] [(30, .int .i64 t22), (32, .pointer (some (⟨g1, 23, none⟩ : Addr)))] hs ?_; clear hs; intro a hs
  replace hw := hw.up 1
  obtain ⟨wd26, hx27, hw⟩ := x_bput (P := Try.prog) (ty := 0) (t := 3) (y := (Operand.tmp 32)) (z := (Operand.tmp 30)) (o := 23) (p := (⟨g1, 23, none⟩ : Addr)) (v := .int .i64 t22) (vs := [.int .i64 t22]) (cs' := [.pointer (some (⟨g15, 0, none⟩ : Addr))] ++ eSapi_Regs.enc x0.s ++ [.int .u32 x0.pc, .int .i64 t22, .slice Aa7 x0.in'.length cc8, .slice Aa10 x0.out.length cc11]) hs hw (by kernel_rfl) rfl (by kernel_rfl) rfl (by kernel_rfl) (by kernel_rfl) (by simp [Value.oneCell']) (by kernel_rfl)
  refine go_unit hs (by rfl) hx27 [30, 32] ?_; clear hs; intro a hs
  refine go_end (hK25 _ _ ?_)
  refine go_sp [] [(34, .bool (t22 != 0))] hs ?_; clear hs; intro a hs
  refine go_cond hs (t22 != 0) (fun hc => ?_) fun hc => ?_
  ·replace H := ite_f H (bne_iff_ne.1 hc)
   have hb29 := hc
   rw [hb29] at hs
   refine go_sp [0, 3, 4, 34] [(2, .int .i64 t22)] hs ?_; clear hs; intro a hs
   refine wp_ret ?_
   refine th_ret ?_
   obtain rfl := Option.some.inj H
   replace hw := hw.up 1
   replace hw := St.oM_of (m := mSmemory_Memory) (A := (some (⟨g15, 0, none⟩ : Addr))) (x := y13) hw
   replace hw := hw.up 3
   replace hw := hw.up 3
   replace hw := hw.up 2
   replace hw := hw.up 3
   replace hw := mSmachine_Machine.close (x := (⟨(some y13), x0.s, x0.pc, t22, x0.in', x0.out⟩ : Smachine_Machine)) hw
   refine ret1 (t := 2) (v := .int .i64 t22) hs (by kernel_rfl) (by kernel_rfl) ?_
   exact ⟨rfl, hw.only 1⟩
  ·replace H := ite_t H (bne_eq_false_iff_eq.1 hc)
   have hb31 := hc
   rw [hb31] at hs
   refine wp_skip ?_
   refine hK24 _ _ ?_
   refine go_sk fun K32 hK32 => ?_
   refine go_pvs 1 [3, 4, 34] [(37, .int .u32 t21)] hs ?_; clear hs; intro a hs
   obtain ⟨⟨t34, t35⟩, hx36, H⟩ := bind_some H
   refine go_call hs (by rfl) (isa_Decode.calls t21 (t34, t35) _ hx36) ?_
   rintro e wd37 ⟨rfl, hw38⟩
   refine ⟨_, rfl, ?_⟩
   replace hw := hw.call hw38
   clear hs; intro a hs; replace hs := hs.rms [37]
   refine go_pvs 5 [38] [(39, .agg (eSapi_Instr.enc t34).toArray), (40, .bool t35)] hs ?_; clear hs; intro a hs
   obtain ⟨ad39, wd40, hx41, hw⟩ := x_alloc1 (P := Try.prog) (elem := 45) (ty := 0) (z := .agg (eSapi_Instr.enc (⟨0, 0, 0, 0, 0, 0, false⟩ : Sapi_Instr)).toArray) hs hw eSapi_Instr (⟨0, 0, 0, 0, 0, 0, false⟩ : Sapi_Instr) (by kernel_rfl) (by kernel_rfl)
   refine go_run hs (by rfl) hx41 [] ?_; clear hs; intro a hs
   obtain ⟨wd43, hx44, hw⟩ := x_put (P := Try.prog) (ty := 0) (t := 45) (x := (Operand.tmp 5)) (y := (Operand.tmp 39)) (off := 0) (p := ad39) (v := .agg (eSapi_Instr.enc t34).toArray) (vs := (eSapi_Instr.enc t34)) (i := 0) (e' := ((t34 : Sapi_Instr) : Sapi_Instr)) hs hw rfl (one_ok (⟨0, 0, 0, 0, 0, 0, false⟩ : Sapi_Instr)).1 (one_ok (⟨0, 0, 0, 0, 0, 0, false⟩ : Sapi_Instr)).2 (by kernel_rfl) (one_at _ _) (by kernel_rfl) rfl (by kernel_rfl) (Nat.le_of_ble_eq_true rfl) (eSapi_Instr.one _) (by kernel_rfl)
   refine go_unit hs (by rfl) hx44 [39] ?_; clear hs; intro a hs
   replace hw : St ks0 w0 wd43 [own 45 eSapi_Instr (some ad39) 1 [(t34 : Sapi_Instr)], box g1 40 ([.pointer (some (⟨g15, 0, none⟩ : Addr))] ++ eSapi_Regs.enc x0.s ++ [.int .u32 x0.pc, .int .i64 t22, .slice Aa7 x0.in'.length cc8, .slice Aa10 x0.out.length cc11]), own 75 eSmemory_Memory (some (⟨g15, 0, none⟩ : Addr)) 1 [y13], rdo (eI .u32) Aa7 cc8 x0.in', own 23 (eI .u32) Aa10 cc11 x0.out] := hw
   refine go_pvs 8 [40] [(6, .bool t35)] hs ?_; clear hs; intro a hs
   refine go_end (hK32 _ _ ?_)
   refine go_seq_k fun K45 hK45 => ?_
   refine go_sp [6] [(42, .bool (!t35))] hs ?_; clear hs; intro a hs
   refine go_cond hs (!t35) (fun hc => ?_) fun hc => ?_
   ·replace H := ite_f H (ff (nt hc))
    have hb47 := hc
    rw [hb47] at hs
    refine go_sk fun K48 hK48 => ?_
    refine go_pvs 3 [5, 42] [(45, .pointer (some (⟨g1, 23, none⟩ : Addr)))] hs ?_; clear hs; intro a hs
    replace hw := hw.up 1
    obtain ⟨wd49, hx50, hw⟩ := x_bput (P := Try.prog) (ty := 0) (t := 3) (y := (Operand.tmp 45)) (z := (Operand.const (Value.int IntKind.i64 2))) (o := 23) (p := (⟨g1, 23, none⟩ : Addr)) (v := .int .i64 2) (vs := [.int .i64 2]) (cs' := [.pointer (some (⟨g15, 0, none⟩ : Addr))] ++ eSapi_Regs.enc x0.s ++ [.int .u32 x0.pc, .int .i64 2, .slice Aa7 x0.in'.length cc8, .slice Aa10 x0.out.length cc11]) hs hw (by kernel_rfl) rfl (by kernel_rfl) rfl (by kernel_rfl) (by kernel_rfl) (by simp [Value.oneCell']) (by kernel_rfl)
    refine go_unit hs (by rfl) hx50 [45] ?_; clear hs; intro a hs
    refine go_end (hK48 _ _ ?_)
    refine go_sk fun K51 hK51 => ?_
    refine go_pvs 3 [0] [(48, .pointer (some (⟨g1, 23, none⟩ : Addr)))] hs ?_; clear hs; intro a hs
    refine go_run hs (by rfl) (x_bld (g := g1) (o := 23) (p := (⟨g1, 23, none⟩ : Addr)) (v := .int .i64 2) (hw.up 0)) [48] ?_; clear hs; intro a hs
    refine go_pvs 5 [49] [(2, .int .i64 2)] hs ?_; clear hs; intro a hs
    replace hs : Slots a 72 [(2, .int .i64 2)] := hs.kx
    refine go_end (hK51 _ _ ?_)
    refine wp_ret ?_
    refine th_ret ?_
    obtain rfl := Option.some.inj H
    replace hw := hw.up 2
    replace hw := St.oM_of (m := mSmemory_Memory) (A := (some (⟨g15, 0, none⟩ : Addr))) (x := y13) hw
    replace hw := hw.up 4
    replace hw := hw.up 4
    replace hw := hw.up 2
    replace hw := hw.up 3
    replace hw := mSmachine_Machine.close (x := (⟨(some y13), x0.s, x0.pc, 2, x0.in', x0.out⟩ : Smachine_Machine)) hw
    refine ret1 (t := 2) (v := .int .i64 2) hs (by kernel_rfl) (by kernel_rfl) ?_
    exact ⟨rfl, hw.only 1⟩
   ·replace H := ite_t H (nf hc)
    have hb52 := hc
    rw [hb52] at hs
    refine wp_skip ?_
    refine hK45 _ _ ?_
    refine go_sp [42] [] hs ?_; clear hs; intro a hs
    refine go_seq_k fun K54 hK54 => ?_
    have hJ1 : ∀ (v81 : Smachine_Machine) (a : Act) (w : World), Slots a 72 [(0, .pointer (some (⟨g1, 0, none⟩ : Addr)))] → St ks0 w0 w [own 45 eSapi_Instr (some ad39) 1 [(t34 : Sapi_Instr)], mSmachine_Machine (some ⟨g1, 0, none⟩) v81] → machine_Machine_Step.j1 v81 = some r → K54 a w := by
     intro v81 a w hs hw H
     unfold machine_Machine_Step.j1 at H
     refine hK54 _ _ ?_
     refine go_sk fun K82 hK82 => ?_
     refine go_pvs 3 [0] [(70, .pointer (some (⟨g1, 23, none⟩ : Addr)))] hs ?_; clear hs; intro a hs
     replace hw := hw.up 1
     obtain ⟨Aa83, Aa85, cc86, Aa88, cc89, hw⟩ := mSmachine_Machine.open1 hw
     replace hw : St ks0 w0 _ [box g1 40 ([.pointer Aa83] ++ eSapi_Regs.enc v81.s ++ [.int .u32 v81.pc, .int .i64 v81.status, .slice Aa85 v81.in'.length cc86, .slice Aa88 v81.out.length cc89]), oM mSmemory_Memory Aa83 v81.Memory, rdo (eI .u32) Aa85 cc86 v81.in', own 23 (eI .u32) Aa88 cc89 v81.out, own 45 eSapi_Instr (some ad39) 1 [(t34 : Sapi_Instr)]] := hw
     replace hw := hw.up 1
     obtain ⟨y91, hy92, H⟩ := bind_some H
     replace hw := St.oM_some hw hy92
     obtain ⟨g93, hAg, hwg⟩ := St.one hw
     clear hw; subst hAg; have hw := hwg; clear hwg
     replace hw : St ks0 w0 _ [own 75 eSmemory_Memory (some (⟨g93, 0, none⟩ : Addr)) 1 [y91], box g1 40 ([.pointer (some (⟨g93, 0, none⟩ : Addr))] ++ eSapi_Regs.enc v81.s ++ [.int .u32 v81.pc, .int .i64 v81.status, .slice Aa85 v81.in'.length cc86, .slice Aa88 v81.out.length cc89]), rdo (eI .u32) Aa85 cc86 v81.in', own 23 (eI .u32) Aa88 cc89 v81.out, own 45 eSapi_Instr (some ad39) 1 [(t34 : Sapi_Instr)]] := hw
     refine go_run hs (by rfl) (x_bld (g := g1) (o := 23) (p := (⟨g1, 23, none⟩ : Addr)) (v := .int .i64 v81.status) (hw.up 1)) [70] ?_; clear hs; intro a hs
     refine go_pvs 5 [71] [(2, .int .i64 v81.status)] hs ?_; clear hs; intro a hs
     refine go_end (hK82 _ _ ?_)
     refine wp_ret ?_
     obtain rfl := Option.some.inj H
     replace hw := St.oM_back (m := mSmemory_Memory) (A := (some (⟨g93, 0, none⟩ : Addr))) (x := y91) hw hy92
     replace hw := hw.up 3
     replace hw := hw.up 3
     replace hw := hw.up 2
     replace hw := hw.up 3
     replace hw := mSmachine_Machine.close (x := v81) hw
     refine ret1 (t := 2) (v := .int .i64 v81.status) hs (by kernel_rfl) (by kernel_rfl) ?_
     exact ⟨rfl, hw.only 1⟩
    refine go_sk fun K55 hK55 => ?_
    refine go_pvs 2 [] [(51, .pointer (some (⟨g1, 0, none⟩ : Addr))), (52, .pointer (some (⟨g1, 0, none⟩ : Addr)))] hs ?_; clear hs; intro a hs
    refine go_run hs (by rfl) (x_lds (off := 0) (p := ad39) (cs := (eSapi_Instr.enc (t34 : Sapi_Instr))) (Rd.of_own (hw.up 0)) (one_ok (t34 : Sapi_Instr)) (one_at _ _)) [5] ?_; clear hs; intro a hs
    replace hw := hw.up 2
    replace hw := St.oM_of (m := mSmemory_Memory) (A := (some (⟨g15, 0, none⟩ : Addr))) (x := y13) hw
    replace hw := hw.up 4
    replace hw := hw.up 4
    replace hw := hw.up 2
    replace hw := hw.up 4
    replace hw := mSmachine_Machine.close (x := (⟨(some y13), x0.s, x0.pc, t22, x0.in', x0.out⟩ : Smachine_Machine)) hw
    obtain ⟨ks56, hgks56, hstks56, hbkks56⟩ := hw.lend 1
    obtain ⟨⟨t57, t58, t59⟩, hx60, H⟩ := bind_some H
    refine go_call hs (by rfl) (machine_Machine_do.calls ks56 (some ⟨g1, 0, none⟩) (⟨(some y13), x0.s, x0.pc, t22, x0.in', x0.out⟩ : Smachine_Machine) (t34 : Sapi_Instr) (t57, t58, t59) _ hgks56 hx60) ?_
    rintro e wd61 ⟨rfl, hw62⟩
    refine ⟨_, rfl, ?_⟩
    replace hw := hbkks56 _ _ hw62
    replace hw : St ks0 w0 wd61 [mSmachine_Machine (some ⟨g1, 0, none⟩) t59, own 45 eSapi_Instr (some ad39) 1 [(t34 : Sapi_Instr)]] := hw
    clear hs; intro a hs; replace hs := hs.rms [52, 53]
    refine go_pvs 10 [51, 54] [(7, .int .u32 t57), (56, .int .i64 t58), (58, .pointer (some (⟨g1, 23, none⟩ : Addr)))] hs ?_; clear hs; intro a hs
    replace hs : Slots a 72 [(0, .pointer (some (⟨g1, 0, none⟩ : Addr))), (7, .int .u32 t57), (56, .int .i64 t58), (58, .pointer (some (⟨g1, 23, none⟩ : Addr)))] := hs.kx
    obtain ⟨Aa63, Aa65, cc66, Aa68, cc69, hw⟩ := mSmachine_Machine.open1 hw
    replace hw : St ks0 w0 _ [box g1 40 ([.pointer Aa63] ++ eSapi_Regs.enc t59.s ++ [.int .u32 t59.pc, .int .i64 t59.status, .slice Aa65 t59.in'.length cc66, .slice Aa68 t59.out.length cc69]), oM mSmemory_Memory Aa63 t59.Memory, rdo (eI .u32) Aa65 cc66 t59.in', own 23 (eI .u32) Aa68 cc69 t59.out, own 45 eSapi_Instr (some ad39) 1 [(t34 : Sapi_Instr)]] := hw
    replace hw := hw.up 1
    obtain ⟨y71, hy72, H⟩ := bind_some H
    replace hw := St.oM_some hw hy72
    obtain ⟨g73, hAg, hwg⟩ := St.one hw
    clear hw; subst hAg; have hw := hwg; clear hwg
    replace hw : St ks0 w0 _ [own 75 eSmemory_Memory (some (⟨g73, 0, none⟩ : Addr)) 1 [y71], box g1 40 ([.pointer (some (⟨g73, 0, none⟩ : Addr))] ++ eSapi_Regs.enc t59.s ++ [.int .u32 t59.pc, .int .i64 t59.status, .slice Aa65 t59.in'.length cc66, .slice Aa68 t59.out.length cc69]), rdo (eI .u32) Aa65 cc66 t59.in', own 23 (eI .u32) Aa68 cc69 t59.out, own 45 eSapi_Instr (some ad39) 1 [(t34 : Sapi_Instr)]] := hw
    replace hw := hw.up 1
    obtain ⟨wd74, hx75, hw⟩ := x_bput (P := Try.prog) (ty := 0) (t := 3) (y := (Operand.tmp 58)) (z := (Operand.tmp 56)) (o := 23) (p := (⟨g1, 23, none⟩ : Addr)) (v := .int .i64 t58) (vs := [.int .i64 t58]) (cs' := [.pointer (some (⟨g73, 0, none⟩ : Addr))] ++ eSapi_Regs.enc t59.s ++ [.int .u32 t59.pc, .int .i64 t58, .slice Aa65 t59.in'.length cc66, .slice Aa68 t59.out.length cc69]) hs hw (by kernel_rfl) rfl (by kernel_rfl) rfl (by kernel_rfl) (by kernel_rfl) (by simp [Value.oneCell']) (by kernel_rfl)
    refine go_unit hs (by rfl) hx75 [56, 58] ?_; clear hs; intro a hs
    refine go_end (hK55 _ _ ?_)
    refine go_sk fun K76 hK76 => ?_
    refine go_pvs 3 [] [(61, .pointer (some (⟨g1, 23, none⟩ : Addr)))] hs ?_; clear hs; intro a hs
    refine go_run hs (by rfl) (x_bld (g := g1) (o := 23) (p := (⟨g1, 23, none⟩ : Addr)) (v := .int .i64 t58) (hw.up 0)) [61] ?_; clear hs; intro a hs
    refine go_pvs 5 [62] [(63, .bool (decide (t58 ≤ 1)))] hs ?_; clear hs; intro a hs
    refine go_end (hK76 _ _ ?_)
    refine go_cond hs (decide (t58 ≤ 1)) (fun hc => ?_) fun hc => ?_
    ·replace H := ite_t H (of_decide_eq_true hc)
     have hb77 := hc
     rw [hb77] at hs
     refine go_region ?_
     refine go_pvs 4 [7, 63] [(65, .int .u32 t57), (67, .pointer (some (⟨g1, 22, none⟩ : Addr)))] hs ?_; clear hs; intro a hs
     obtain ⟨wd78, hx79, hw⟩ := x_bput (P := Try.prog) (ty := 0) (t := 23) (y := (Operand.tmp 67)) (z := (Operand.tmp 65)) (o := 22) (p := (⟨g1, 22, none⟩ : Addr)) (v := .int .u32 t57) (vs := [.int .u32 t57]) (cs' := [.pointer (some (⟨g73, 0, none⟩ : Addr))] ++ eSapi_Regs.enc t59.s ++ [.int .u32 t57, .int .i64 t58, .slice Aa65 t59.in'.length cc66, .slice Aa68 t59.out.length cc69]) hs hw (by kernel_rfl) rfl (by kernel_rfl) rfl (by kernel_rfl) (by kernel_rfl) (by simp [Value.oneCell']) (by kernel_rfl)
     refine go_unit hs (by rfl) hx79 [65, 67] ?_; clear hs; intro a hs
     refine go_end ?_
     replace hw := hw.up 1
     replace hw := St.oM_of (m := mSmemory_Memory) (A := (some (⟨g73, 0, none⟩ : Addr))) (x := y71) hw
     replace hw := hw.up 3
     replace hw := hw.up 3
     replace hw := hw.up 2
     replace hw := hw.up 3
     replace hw := mSmachine_Machine.close (x := (⟨(some y71), t59.s, t57, t58, t59.in', t59.out⟩ : Smachine_Machine)) hw
     replace hw := hw.up 1
     exact hJ1 (⟨(some y71), t59.s, t57, t58, t59.in', t59.out⟩ : Smachine_Machine) _ _ hs.kx hw H
    ·replace H := ite_f H (of_decide_eq_false hc)
     have hb80 := hc
     rw [hb80] at hs
     refine wp_skip ?_
     replace hw := hw.up 1
     replace hw := St.oM_of (m := mSmemory_Memory) (A := (some (⟨g73, 0, none⟩ : Addr))) (x := y71) hw
     replace hw := hw.up 3
     replace hw := hw.up 3
     replace hw := hw.up 2
     replace hw := hw.up 3
     replace hw := mSmachine_Machine.close (x := (⟨(some y71), t59.s, t59.pc, t58, t59.in', t59.out⟩ : Smachine_Machine)) hw
     replace hw := hw.up 1
     exact hJ1 (⟨(some y71), t59.s, t59.pc, t58, t59.in', t59.out⟩ : Smachine_Machine) _ _ hs.kx hw H

/-! (*rivet/machine.Machine).Run: function 26 -/
noncomputable def machine_Machine_Run.j1 (v22 : Smachine_Machine) : Option (Int × Smachine_Machine) := ((v22.Memory).bind fun y32 => (some (v22.status, v22)))
noncomputable def machine_Machine_Run.b5 (a1 : Int) (v6 : Smachine_Machine) (v7 : Int) : Option (Smachine_Machine × Int ⊕ Smachine_Machine) := (if v7 < (mxx a1 0) then ((machine_Machine_Step v6).bind fun ⟨t14, t15⟩ => ((if t14 = 0 then some (.inl (t15, w64 (v7 + 1))) else some (.inr t15)))) else some (.inr v6))
noncomputable def machine_Machine_Run (x0 : Smachine_Machine) (a1 : Int) : Option (Int × Smachine_Machine) := ((loopO (fun (σ : Smachine_Machine × Int) => machine_Machine_Run.b5 a1 σ.1 σ.2) (x0, 0)).bind fun e => machine_Machine_Run.j1 e)
set_option maxRecDepth 100000 in
set_option maxHeartbeats 4000000 in
theorem machine_Machine_Run.calls (ks0 : List Nat) (A0 : Option Addr) (x0 : Smachine_Machine) (a1 : Int) (r : Int × Smachine_Machine) (w0 : World) (hw : St ks0 w0 w0 [mSmachine_Machine A0 x0]) (H : machine_Machine_Run x0 a1 = some r) :
    Calls Try.prog 26 #[.pointer A0, .int .i64 a1] w0 fun e w' => e = .returned (.int .i64 r.1) ∧ St ks0 w0 w' [mSmachine_Machine A0 r.2] := by
 unfold machine_Machine_Run at H
 refine go_fn Try.func26 rfl Try.ntmps26 ?_; intro a hs
 obtain ⟨g1, hAg, hwg⟩ := mSmachine_Machine.addr hw
 clear hw; subst hAg; have hw := hwg; clear hwg
 replace hw : St ks0 w0 _ [mSmachine_Machine (some ⟨g1, 0, none⟩) x0] := hw
 refine go_sp [] [(0, .pointer (some (⟨g1, 0, none⟩ : Addr)))] hs ?_; clear hs; intro a hs
 refine go_seq_k fun K3 hK3 => ?_
 refine go_sp [1] [(6, .int .i64 (mxx a1 0)), (7, .int .i64 0)] hs ?_; clear hs; intro a hs
 refine wp_block ?_
 obtain ⟨e5, hl5, HX5⟩ := bind_some H
 have hJ1 : ∀ (v22 : Smachine_Machine) (a : Act) (w : World), Slots a 17 [(0, .pointer (some (⟨g1, 0, none⟩ : Addr)))] → St ks0 w0 w [mSmachine_Machine (some ⟨g1, 0, none⟩) v22] → machine_Machine_Run.j1 v22 = some r → K3 a w := by
  intro v22 a w hs hw H
  unfold machine_Machine_Run.j1 at H
  refine hK3 _ _ ?_
  refine go_sk fun K23 hK23 => ?_
  refine go_pvs 3 [0] [(15, .pointer (some (⟨g1, 23, none⟩ : Addr)))] hs ?_; clear hs; intro a hs
  obtain ⟨Aa24, Aa26, cc27, Aa29, cc30, hw⟩ := mSmachine_Machine.open1 hw
  replace hw : St ks0 w0 _ [box g1 40 ([.pointer Aa24] ++ eSapi_Regs.enc v22.s ++ [.int .u32 v22.pc, .int .i64 v22.status, .slice Aa26 v22.in'.length cc27, .slice Aa29 v22.out.length cc30]), oM mSmemory_Memory Aa24 v22.Memory, rdo (eI .u32) Aa26 cc27 v22.in', own 23 (eI .u32) Aa29 cc30 v22.out] := hw
  replace hw := hw.up 1
  obtain ⟨y32, hy33, H⟩ := bind_some H
  replace hw := St.oM_some hw hy33
  obtain ⟨g34, hAg, hwg⟩ := St.one hw
  clear hw; subst hAg; have hw := hwg; clear hwg
  replace hw : St ks0 w0 _ [own 75 eSmemory_Memory (some (⟨g34, 0, none⟩ : Addr)) 1 [y32], box g1 40 ([.pointer (some (⟨g34, 0, none⟩ : Addr))] ++ eSapi_Regs.enc v22.s ++ [.int .u32 v22.pc, .int .i64 v22.status, .slice Aa26 v22.in'.length cc27, .slice Aa29 v22.out.length cc30]), rdo (eI .u32) Aa26 cc27 v22.in', own 23 (eI .u32) Aa29 cc30 v22.out] := hw
  refine go_run hs (by rfl) (x_bld (g := g1) (o := 23) (p := (⟨g1, 23, none⟩ : Addr)) (v := .int .i64 v22.status) (hw.up 1)) [15] ?_; clear hs; intro a hs
  refine go_pvs 5 [16] [(4, .int .i64 v22.status)] hs ?_; clear hs; intro a hs
  refine go_end (hK23 _ _ ?_)
  refine wp_ret ?_
  obtain rfl := Option.some.inj H
  replace hw := St.oM_back (m := mSmemory_Memory) (A := (some (⟨g34, 0, none⟩ : Addr))) (x := y32) hw hy33
  replace hw := hw.up 3
  replace hw := hw.up 3
  replace hw := hw.up 2
  replace hw := hw.up 3
  replace hw := mSmachine_Machine.close (x := v22) hw
  refine ret1 (t := 4) (v := .int .i64 v22.status) hs (by kernel_rfl) (by kernel_rfl) ?_
  exact ⟨rfl, hw.only 1⟩
 clear H
 refine go_loop (σ := Smachine_Machine × Int) (fun σ a w => Slots a 17 [(0, .pointer (some (⟨g1, 0, none⟩ : Addr))), (6, .int .i64 (mxx a1 0)), (7, .int .i64 σ.2)] ∧ St ks0 w0 w [mSmachine_Machine (some ⟨g1, 0, none⟩) σ.1]) hl5 (by exact ⟨hs.kx, hw⟩) ?_
 rintro ⟨v6, v7⟩ a w ⟨hs, hw⟩ o H hr5
 replace hs : Slots a 17 [(0, .pointer (some (⟨g1, 0, none⟩ : Addr))), (6, .int .i64 (mxx a1 0)), (7, .int .i64 v7)] := hs
 replace hw : St ks0 w0 w [mSmachine_Machine (some ⟨g1, 0, none⟩) v6] := hw
 replace H : machine_Machine_Run.b5 a1 v6 v7 = some o := H
 unfold machine_Machine_Run.b5 at H
 refine go_sp [] [(8, .bool (decide (v7 < (mxx a1 0))))] hs ?_; clear hs; intro a hs
 refine go_seq_k fun K9 hK9 => ?_
 refine go_cond hs (decide (v7 < (mxx a1 0))) (fun hc => ?_) fun hc => ?_
 ·replace H := ite_t H (of_decide_eq_true hc)
  have hb10 := hc
  rw [hb10] at hs
  refine wp_skip ?_
  refine hK9 _ _ ?_
  refine go_seq_k fun K11 hK11 => ?_
  refine wp_block ?_
  refine go_sk fun K12 hK12 => ?_
  refine go_pvs 1 [8] [(9, .pointer (some (⟨g1, 0, none⟩ : Addr)))] hs ?_; clear hs; intro a hs
  obtain ⟨ks13, hgks13, hstks13, hbkks13⟩ := hw.lend 1
  obtain ⟨⟨t14, t15⟩, hx16, H⟩ := bind_some H
  refine go_call hs (by rfl) (machine_Machine_Step.calls ks13 (some ⟨g1, 0, none⟩) v6 (t14, t15) _ hgks13 hx16) ?_
  rintro e wd17 ⟨rfl, hw18⟩
  refine ⟨_, rfl, ?_⟩
  replace hw := hbkks13 _ _ hw18
  replace hw : St ks0 w0 wd17 [mSmachine_Machine (some ⟨g1, 0, none⟩) t15] := hw
  clear hs; intro a hs; replace hs := hs.rms [9]
  refine go_pvs 3 [10] [(11, .bool (t14 != 0))] hs ?_; clear hs; intro a hs
  refine go_end (hK12 _ _ ?_)
  refine go_cond hs (t14 != 0) (fun hc => ?_) fun hc => ?_
  ·replace H := ite_f H (bne_iff_ne.1 hc)
   have hb19 := hc
   rw [hb19] at hs
   refine wp_exit ?_
   refine ib_exit ?_ rfl
   refine th_exit ?_
   refine th_exit ?_
   refine in_block ?_
   rw [← hr5 _ (Option.some.inj H).symm] at HX5
   exact hJ1 t15 _ _ hs.kx hw HX5
  ·replace H := ite_t H (bne_eq_false_iff_eq.1 hc)
   have hb20 := hc
   rw [hb20] at hs
   refine wp_skip ?_
   refine ib_norm ?_
   refine hK11 _ _ ?_
   refine go_plain [11] [(7, .int .i64 (w64 (v7 + 1)))] hs ?_; clear hs; intro a hs
   exact round_end (t15, w64 (v7 + 1)) (Option.some.inj H).symm ⟨hs.kx, hw⟩
 ·replace H := ite_f H (of_decide_eq_false hc)
  have hb21 := hc
  rw [hb21] at hs
  refine wp_exit ?_
  refine th_exit ?_
  refine th_exit ?_
  refine in_block ?_
  rw [← hr5 _ (Option.some.inj H).symm] at HX5
  exact hJ1 v6 _ _ hs.kx hw HX5

/-! rivet/rivetlaw06.shown: function 9 -/
noncomputable def rivetlaw06_shown.j1 : Option Bool := some false
noncomputable def rivetlaw06_shown.j4 (v66 : Bool) : Option Bool := some v66
noncomputable def rivetlaw06_shown.j3 (x11 : Smachine_Machine) : Option Bool := ((x11.Memory).bind fun y31 => (((memory_Memory_Place y31 0 ([1090519045] : List Int)).bind fun ⟨t40, t41⟩ => (((machine_Machine_Step (⟨(some t41), x11.s, x11.pc, x11.status, x11.in', x11.out⟩ : Smachine_Machine)).bind fun ⟨t47, t48⟩ => ((if t40 = 0 then (if t47 = 0 then ((machine_Machine_Regs t48).bind fun t56 => ((if (vx 0 t56.R 1) = 5 then ((machine_Machine_PC t48).bind fun t62 => (rivetlaw06_shown.j4 (t62 == 4))) else rivetlaw06_shown.j4 false))) else rivetlaw06_shown.j4 false) else rivetlaw06_shown.j4 false)))))))
noncomputable def rivetlaw06_shown.j2 (x11 : Smachine_Machine) (v18 : Bool) : Option Bool := (if v18 = true then some false else rivetlaw06_shown.j3 x11)
noncomputable def rivetlaw06_shown : Option Bool := ((machine_New 1 ([] : List Int)).bind fun ⟨t4, t5⟩ => ((match t4 with | none => rivetlaw06_shown.j1 | some x11 => rivetlaw06_shown.j2 x11 (t5 != 0))))
set_option maxRecDepth 100000 in
set_option maxHeartbeats 4000000 in
theorem rivetlaw06_shown.calls (r : Bool) (w0 : World) (H : rivetlaw06_shown = some r) :
    Calls Try.prog 9 #[] w0 fun e w' => e = .returned (.bool r) ∧ St [] w0 w' [] := by
 have hw : St [] w0 w0 [] := St.nil w0
 unfold rivetlaw06_shown at H
 refine go_fn Try.func9 rfl Try.ntmps9 ?_; intro a hs
 refine go_sp [] [] hs ?_; clear hs; intro a hs
 refine go_sk fun K2 hK2 => ?_
 obtain ⟨⟨t4, t5⟩, hx6, H⟩ := bind_some H
 refine go_call hs (by rfl) (machine_New.calls 1 none 0 ([] : List Int) (t4, t5) _ (Rd.nil _ _) hx6) ?_
 rintro e wd8 ⟨Aa7, rfl, hw9⟩
 refine ⟨_, rfl, ?_⟩
 replace hw := hw.call hw9
 clear hs; intro a hs
 rcases t4 with _ | x11
 ·obtain ⟨hAg, hwg⟩ := St.oM_none hw
  clear hw; subst hAg; have hw := hwg; clear hwg
  refine go_pvs 6 [6] [(1, .pointer none), (2, .int .i64 t5)] hs ?_; clear hs; intro a hs
  refine go_end (hK2 _ _ ?_)
  refine go_seq_k fun K12 hK12 => ?_
  refine go_seq_k fun K13 hK13 => ?_
  have hJ1 : ∀ (a : Act) (w : World), Slots a 41 [(1, .pointer none), (14, .bool true)] → St [] w0 w [] → rivetlaw06_shown.j1 = some r → K13 a w := by
   intro a w hs hw H
   unfold rivetlaw06_shown.j1 at H
   refine hK13 _ _ ?_
   refine go_cond hs true (fun hc => ?_) fun hc => ?_
   ·skip
    refine go_sp [1, 14] [(0, .bool false)] hs ?_; clear hs; intro a hs
    refine wp_ret ?_
    refine th_ret ?_
    obtain rfl := Option.some.inj H
    refine ret1 (t := 0) (v := .bool false) hs (by kernel_rfl) (by kernel_rfl) ?_
    exact ⟨rfl, hw.only 0⟩
   ·cases hc
  refine go_plain [2] [(14, .bool true)] hs ?_; clear hs; intro a hs
  exact hJ1 _ _ hs.kx hw H
 ·replace hw : St [] w0 _ [mSmachine_Machine Aa7 x11] := hw
  obtain ⟨g15, hAg, hwg⟩ := mSmachine_Machine.addr hw
  clear hw; subst hAg; have hw := hwg; clear hwg
  replace hw : St [] w0 _ [mSmachine_Machine (some ⟨g15, 0, none⟩) x11] := hw
  refine go_pvs 6 [6] [(1, .pointer (some (⟨g15, 0, none⟩ : Addr))), (2, .int .i64 t5)] hs ?_; clear hs; intro a hs
  refine go_end (hK2 _ _ ?_)
  refine go_seq_k fun K16 hK16 => ?_
  have hJ3 : ∀ (a : Act) (w : World), Slots a 41 [(1, .pointer (some (⟨g15, 0, none⟩ : Addr)))] → St [] w0 w [mSmachine_Machine (some ⟨g15, 0, none⟩) x11] → rivetlaw06_shown.j3 x11 = some r → K16 a w := by
   intro a w hs hw H
   unfold rivetlaw06_shown.j3 at H
   refine hK16 _ _ ?_
   refine go_sk fun K22 hK22 => ?_
   refine go_pvs 3 [] [(17, .pointer (some (⟨g15, 0, none⟩ : Addr)))] hs ?_; clear hs; intro a hs
   obtain ⟨Aa23, Aa25, cc26, Aa28, cc29, hw⟩ := mSmachine_Machine.open1 hw
   replace hw : St [] w0 _ [box g15 40 ([.pointer Aa23] ++ eSapi_Regs.enc x11.s ++ [.int .u32 x11.pc, .int .i64 x11.status, .slice Aa25 x11.in'.length cc26, .slice Aa28 x11.out.length cc29]), oM mSmemory_Memory Aa23 x11.Memory, rdo (eI .u32) Aa25 cc26 x11.in', own 23 (eI .u32) Aa28 cc29 x11.out] := hw
   replace hw := hw.up 1
   obtain ⟨y31, hy32, H⟩ := bind_some H
   replace hw := St.oM_some hw hy32
   obtain ⟨g33, hAg, hwg⟩ := St.one hw
   clear hw; subst hAg; have hw := hwg; clear hwg
   replace hw : St [] w0 _ [own 75 eSmemory_Memory (some (⟨g33, 0, none⟩ : Addr)) 1 [y31], box g15 40 ([.pointer (some (⟨g33, 0, none⟩ : Addr))] ++ eSapi_Regs.enc x11.s ++ [.int .u32 x11.pc, .int .i64 x11.status, .slice Aa25 x11.in'.length cc26, .slice Aa28 x11.out.length cc29]), rdo (eI .u32) Aa25 cc26 x11.in', own 23 (eI .u32) Aa28 cc29 x11.out] := hw
   refine go_run hs (by rfl) (x_bld (g := g15) (o := 0) (p := (⟨g15, 0, none⟩ : Addr)) (v := .pointer (some (⟨g33, 0, none⟩ : Addr))) (hw.up 1)) [17] ?_; clear hs; intro a hs
   obtain ⟨Aa34, cc35, wd36, hx37, hw⟩ := n_lit (P := Try.prog) (t := 22) (ty := 22) (T := 23) (len := 1) (parts := #[(0, (Operand.const (Value.int IntKind.u32 1090519045)))]) (z := .int .u32 0) (bytes := 4) (cells := #[.int .u32 1090519045]) hs hw (eI .u32) ([1090519045] : List Int) (by kernel_rfl) (by kernel_rfl) (by kernel_rfl) (by kernel_rfl) (by kernel_rfl) (by kernel_rfl) (by kernel_rfl)
   refine go_run hs (by rfl) hx37 [] ?_; clear hs; intro a hs
   replace hw := hw.up 1
   obtain ⟨ks39, hgks39, hstks39, hbkks39⟩ := hw.lend 1
   obtain ⟨⟨t40, t41⟩, hx42, H⟩ := bind_some H
   refine go_call hs (by rfl) (memory_Memory_Place.calls ks39 (some (⟨g33, 0, none⟩ : Addr)) y31 0 Aa34 cc35 ([1090519045] : List Int) (t40, t41) _ hgks39 (fun wz hkz => (Rd.of_own ((hstks39 _ hkz).up 0))) hx42) ?_
   rintro e wd43 ⟨rfl, hw44⟩
   refine ⟨_, rfl, ?_⟩
   replace hw := hbkks39 _ _ hw44
   replace hw : St [] w0 _ [own 75 eSmemory_Memory (some (⟨g33, 0, none⟩ : Addr)) 1 [t41], own 23 (eI .u32) Aa34 cc35 ([1090519045] : List Int), box g15 40 ([.pointer (some (⟨g33, 0, none⟩ : Addr))] ++ eSapi_Regs.enc x11.s ++ [.int .u32 x11.pc, .int .i64 x11.status, .slice Aa25 x11.in'.length cc26, .slice Aa28 x11.out.length cc29]), rdo (eI .u32) Aa25 cc26 x11.in', own 23 (eI .u32) Aa28 cc29 x11.out] := hw
   clear hs; intro a hs; replace hs := hs.rms [18, 19]
   refine go_pvs 7 [20] [(3, .int .i64 t40)] hs ?_; clear hs; intro a hs
   refine go_end (hK22 _ _ ?_)
   refine go_sk fun K45 hK45 => ?_
   refine go_pvs 1 [] [(21, .pointer (some (⟨g15, 0, none⟩ : Addr)))] hs ?_; clear hs; intro a hs
   replace hw := St.oM_of (m := mSmemory_Memory) (A := (some (⟨g33, 0, none⟩ : Addr))) (x := t41) hw
   replace hw := hw.up 4
   replace hw := hw.up 4
   replace hw := hw.up 2
   replace hw := hw.up 4
   replace hw := mSmachine_Machine.close (x := (⟨(some t41), x11.s, x11.pc, x11.status, x11.in', x11.out⟩ : Smachine_Machine)) hw
   obtain ⟨ks46, hgks46, hstks46, hbkks46⟩ := hw.lend 1
   obtain ⟨⟨t47, t48⟩, hx49, H⟩ := bind_some H
   refine go_call hs (by rfl) (machine_Machine_Step.calls ks46 (some ⟨g15, 0, none⟩) (⟨(some t41), x11.s, x11.pc, x11.status, x11.in', x11.out⟩ : Smachine_Machine) (t47, t48) _ hgks46 hx49) ?_
   rintro e wd50 ⟨rfl, hw51⟩
   refine ⟨_, rfl, ?_⟩
   replace hw := hbkks46 _ _ hw51
   replace hw : St [] w0 wd50 [mSmachine_Machine (some ⟨g15, 0, none⟩) t48, own 23 (eI .u32) Aa34 cc35 ([1090519045] : List Int)] := hw
   clear hs; intro a hs; replace hs := hs.rms [21]
   refine go_pvs 3 [22] [(4, .int .i64 t47)] hs ?_; clear hs; intro a hs
   refine go_end (hK45 _ _ ?_)
   refine go_seq_k fun K52 hK52 => ?_
   have hJ4 : ∀ (v66 : Bool) (a : Act) (w : World), Slots a 41 [(0, .bool v66)] → St [] w0 w [mSmachine_Machine (some ⟨g15, 0, none⟩) t48, own 23 (eI .u32) Aa34 cc35 ([1090519045] : List Int)] → rivetlaw06_shown.j4 v66 = some r → K52 a w := by
    intro v66 a w hs hw H
    unfold rivetlaw06_shown.j4 at H
    refine hK52 _ _ ?_
    refine wp_ret ?_
    obtain rfl := Option.some.inj H
    refine ret1 (t := 0) (v := .bool v66) hs (by kernel_rfl) (by kernel_rfl) ?_
    exact ⟨rfl, hw.only 0⟩
   refine go_region ?_
   refine go_pvs 3 [3] [(25, .bool (t40 == 0))] hs ?_; clear hs; intro a hs
   cases hb53 : (t40 == 0)
   ·replace H := ite_f H (beq_eq_false_iff_ne.1 hb53)
    rw [hb53] at hs
    refine go_pvs 19 [1, 4, 25] [(0, .bool false)] hs ?_; clear hs; intro a hs
    refine go_end ?_
    replace hw := hw.up 1
    replace hw := hw.up 1
    exact hJ4 false _ _ hs.kx hw H
   ·replace H := ite_t H (beq_iff_eq.1 hb53)
    rw [hb53] at hs
    refine go_pvs 7 [4, 25] [(29, .bool (t47 == 0))] hs ?_; clear hs; intro a hs
    cases hb54 : (t47 == 0)
    ·replace H := ite_f H (beq_eq_false_iff_ne.1 hb54)
     rw [hb54] at hs
     refine go_pvs 19 [1, 29] [(0, .bool false)] hs ?_; clear hs; intro a hs
     refine go_end ?_
     replace hw := hw.up 1
     replace hw := hw.up 1
     exact hJ4 false _ _ hs.kx hw H
    ·replace H := ite_t H (beq_iff_eq.1 hb54)
     rw [hb54] at hs
     refine go_pvs 8 [] [(30, .pointer (some (⟨g15, 0, none⟩ : Addr)))] hs ?_; clear hs; intro a hs
     obtain ⟨t56, hx57, H⟩ := bind_some H
     refine go_call hs (by rfl) (machine_Machine_Regs.calls (some ⟨g15, 0, none⟩) t48 t56 _ (rSmachine_Machine.of_m (hw.up 0)) hx57) ?_
     rintro e wd58 ⟨rfl, hw59⟩
     refine ⟨_, rfl, ?_⟩
     replace hw := hw.call hw59
     clear hs; intro a hs; replace hs := hs.rms [30]
     refine go_pvs 14 [29, 31] [(36, .bool ((vx 0 t56.R 1) == 5))] hs ?_; clear hs; intro a hs
     cases hb60 : ((vx 0 t56.R 1) == 5)
     ·replace H := ite_f H (beq_eq_false_iff_ne.1 hb60)
      rw [hb60] at hs
      refine go_pvs 19 [1, 36] [(0, .bool false)] hs ?_; clear hs; intro a hs
      refine go_end ?_
      replace hw := hw.up 1
      replace hw := hw.up 1
      exact hJ4 false _ _ hs.kx hw H
     ·replace H := ite_t H (beq_iff_eq.1 hb60)
      rw [hb60] at hs
      refine go_pvs 15 [1] [(37, .pointer (some (⟨g15, 0, none⟩ : Addr)))] hs ?_; clear hs; intro a hs
      obtain ⟨t62, hx63, H⟩ := bind_some H
      refine go_call hs (by rfl) (machine_Machine_PC.calls (some ⟨g15, 0, none⟩) t48 t62 _ (rSmachine_Machine.of_m (hw.up 0)) hx63) ?_
      rintro e wd64 ⟨rfl, hw65⟩
      refine ⟨_, rfl, ?_⟩
      replace hw := hw.call hw65
      clear hs; intro a hs; replace hs := hs.rms [37]
      refine go_pvs 19 [36, 38] [(0, .bool (t62 == 4))] hs ?_; clear hs; intro a hs
      refine go_end ?_
      replace hw := hw.up 1
      replace hw := hw.up 1
      exact hJ4 (t62 == 4) _ _ hs.kx hw H
  refine go_seq_k fun K17 hK17 => ?_
  have hJ2 : ∀ (v18 : Bool) (a : Act) (w : World), Slots a 41 [(1, .pointer (some (⟨g15, 0, none⟩ : Addr))), (14, .bool v18)] → St [] w0 w [mSmachine_Machine (some ⟨g15, 0, none⟩) x11] → rivetlaw06_shown.j2 x11 v18 = some r → K17 a w := by
   intro v18 a w hs hw H
   unfold rivetlaw06_shown.j2 at H
   refine hK17 _ _ ?_
   refine go_cond hs v18 (fun hc => ?_) fun hc => ?_
   ·replace H := ite_t H hc
    have hb19 := hc
    rw [hb19] at hs
    refine go_sp [1, 14] [(0, .bool false)] hs ?_; clear hs; intro a hs
    refine wp_ret ?_
    refine th_ret ?_
    obtain rfl := Option.some.inj H
    refine ret1 (t := 0) (v := .bool false) hs (by kernel_rfl) (by kernel_rfl) ?_
    exact ⟨rfl, hw.only 0⟩
   ·replace H := ite_f H (ff hc)
    have hb21 := hc
    rw [hb21] at hs
    refine wp_skip ?_
    exact hJ3 _ _ hs.kx hw H
  refine go_plain [2] [(14, .bool (t5 != 0))] hs ?_; clear hs; intro a hs
  exact hJ2 (t5 != 0) _ _ hs.kx hw H

/-! rivet/rivetlaw06.few: function 27 -/
noncomputable def rivetlaw06_few (l0 : List Int) : Option (List Int) := (if 0 ≤ (mnn (l0.length : Int) 20) ∧ (mnn (l0.length : Int) 20) ≤ (l0.length : Int) then some (l0.take (mnn (l0.length : Int) 20 : Int).toNat) else none)
set_option maxRecDepth 100000 in
set_option maxHeartbeats 4000000 in
theorem rivetlaw06_few.calls (A0 : Option Addr) (c0 : Nat) (l0 : List Int) (r : (List Int)) (w0 : World) (hr0 : Rd w0 (eI .u32) A0 c0 l0) (H : rivetlaw06_few l0 = some r) :
    Calls Try.prog 27 #[.slice A0 l0.length c0] w0 fun e w' => ∃ A_0 c_0, e = .returned (.slice A_0 r.length c_0) ∧ (∀ wz, Rd wz (eI .u32) A0 c0 l0 → Rd wz (eI .u32) A_0 c_0 r) ∧ St [] w0 w' [] := by
 have hw : St [] w0 w0 [] := St.nil w0
 unfold rivetlaw06_few at H
 refine go_fn Try.func27 rfl Try.ntmps27 ?_; intro a hs
 refine go_sp [] [] hs ?_; clear hs; intro a hs
 refine go_sk fun K2 hK2 => ?_
 refine go_pvs 4 [0] [(3, .slice A0 l0.length c0), (6, .int .i64 (mnn (l0.length : Int) 20))] hs ?_; clear hs; intro a hs
 obtain ⟨hp3, H⟩ := ite_only H
 obtain ⟨Aa4, cc5, hx6, hc7⟩ := c_hi (P := Try.prog) (ty := 22) (E := (eI .u32)) (T := 23) (t := 22) (x := (Operand.tmp 3)) (y := (Operand.tmp 6)) (k := .i64) hs (by kernel_rfl) (by kernel_rfl) (hr0.old hw) (by kernel_rfl) (by kernel_rfl) hp3.1 hp3.2
 refine go_run hs (by rfl) hx6 [3, 6] ?_; clear hs; intro a hs
 refine go_pvs 6 [7] [(2, .slice Aa4 (l0.take (mnn (l0.length : Int) 20 : Int).toNat).length cc5)] hs ?_; clear hs; intro a hs
 refine go_end (hK2 _ _ ?_)
 refine wp_ret ?_
 obtain rfl := Option.some.inj H
 refine ret1 (t := 2) (v := .slice Aa4 (l0.take (mnn (l0.length : Int) 20 : Int).toNat).length cc5) hs (by kernel_rfl) (by kernel_rfl) ?_
 exact ⟨Aa4, cc5, rfl, hc7, hw.only 0⟩

/-! rivet/rivetlaw06.fit: function 11 -/
noncomputable def rivetlaw06_fit.j6 (v14 : Int) (l69 : List Int) : Option ((List Int) × Int ⊕ (List Int)) := some (.inl (l69, w64 (v14 + 1)))
noncomputable def rivetlaw06_fit.j5 (l11 : List Int) (v14 : Int) (v57 : Int) : Option ((List Int) × Int ⊕ (List Int)) := (if l11.length + ([v57] : List Int).length ≤ 35184372088832 then rivetlaw06_fit.j6 v14 (l11 ++ ([v57] : List Int)) else none)
noncomputable def rivetlaw06_fit.j4 (l0 : List Int) (v14 : Int) (l11 : List Int) (v45 : Sapi_Instr) : Option ((List Int) × Int ⊕ (List Int)) := ((rivetref03_Encode v45).bind fun ⟨t48, t49⟩ => ((if (band .u32 ((ix (eI .u32).d l0 v14).fdiv (2 ^ 26)) 7) = 0 then rivetlaw06_fit.j5 l11 v14 (ix (eI .u32).d l0 v14) else rivetlaw06_fit.j5 l11 v14 t48)))
noncomputable def rivetlaw06_fit.j3 (l0 : List Int) (v14 : Int) (l11 : List Int) (t27 : Sapi_Instr) (v40 : Bool) : Option ((List Int) × Int ⊕ (List Int)) := (if v40 = true then rivetlaw06_fit.j4 l0 v14 l11 ({ (t27 : Sapi_Instr) with Imm := w64 ((w64 (band .u32 ((ix (eI .u32).d l0 v14).fdiv (2 ^ 19)) 63)) - 32) } : Sapi_Instr) else rivetlaw06_fit.j4 l0 v14 l11 (t27 : Sapi_Instr))
noncomputable def rivetlaw06_fit.j2 (v14 : Int) (l0 : List Int) (l11 : List Int) : Option ((List Int) × Int ⊕ (List Int)) := (if 0 ≤ v14 ∧ v14 < (l0.length : Int) then ((rivetref03_Fit (⟨w64 (band .u32 (ix (eI .u32).d l0 v14) 7), w64 (band .u32 ((ix (eI .u32).d l0 v14).fdiv (2 ^ 3)) 15), w64 (band .u32 ((ix (eI .u32).d l0 v14).fdiv (2 ^ 7)) 15), w64 (band .u32 ((ix (eI .u32).d l0 v14).fdiv (2 ^ 11)) 15), w64 (band .u32 ((ix (eI .u32).d l0 v14).fdiv (2 ^ 15)) 15), w64 (band .u32 ((ix (eI .u32).d l0 v14).fdiv (2 ^ 19)) 63), (band .u32 ((ix (eI .u32).d l0 v14).fdiv (2 ^ 25)) 1) == 1⟩ : Sapi_Instr)).bind fun t27 => ((if ((t27 : Sapi_Instr).Kind) = 5 then rivetlaw06_fit.j3 l0 v14 l11 t27 true else rivetlaw06_fit.j3 l0 v14 l11 t27 (((t27 : Sapi_Instr).Kind) == 7)))) else none)
noncomputable def rivetlaw06_fit.j1 (v14 : Int) (l0 : List Int) (l11 : List Int) (v18 : Bool) : Option ((List Int) × Int ⊕ (List Int)) := (if v18 = true then rivetlaw06_fit.j2 v14 l0 l11 else some (.inr l11))
noncomputable def rivetlaw06_fit.j7 (l72 : List Int) : Option (List Int) := some l72
noncomputable def rivetlaw06_fit.b10 (l0 : List Int) (l11 : List Int) (v14 : Int) : Option ((List Int) × Int ⊕ (List Int)) := (if v14 < (l0.length : Int) then rivetlaw06_fit.j1 v14 l0 l11 (decide (v14 < 20)) else rivetlaw06_fit.j1 v14 l0 l11 false)
noncomputable def rivetlaw06_fit (l0 : List Int) : Option (List Int) := ((loopO (fun (σ : (List Int) × Int) => rivetlaw06_fit.b10 l0 σ.1 σ.2) (([] : List Int), 0)).bind fun e => rivetlaw06_fit.j7 e)
set_option maxRecDepth 100000 in
set_option maxHeartbeats 4000000 in
theorem rivetlaw06_fit.calls (A0 : Option Addr) (c0 : Nat) (l0 : List Int) (r : (List Int)) (w0 : World) (hr0 : Rd w0 (eI .u32) A0 c0 l0) (H : rivetlaw06_fit l0 = some r) :
    Calls Try.prog 11 #[.slice A0 l0.length c0] w0 fun e w' => ∃ A_0 c_0, e = .returned (.slice A_0 r.length c_0) ∧ St [] w0 w' [own 23 (eI .u32) A_0 c_0 r] := by
 have hw : St [] w0 w0 [] := St.nil w0
 unfold rivetlaw06_fit at H
 refine go_fn Try.func11 rfl Try.ntmps11 ?_; intro a hs
 refine go_sp [] [] hs ?_; clear hs; intro a hs
 refine go_sk fun K2 hK2 => ?_
 obtain ⟨Aa3, cc4, wd5, hx6, hw⟩ := n_lit0 (P := Try.prog) (t := 22) (ty := 22) (T := 23) hs hw (eI .u32) (by kernel_rfl) (by kernel_rfl)
 refine go_run hs (by rfl) hx6 [] ?_; clear hs; intro a hs
 refine go_pvs 2 [9] [(3, .slice Aa3 ([] : List Int).length cc4)] hs ?_; clear hs; intro a hs
 refine go_end (hK2 _ _ ?_)
 refine go_seq_k fun K8 hK8 => ?_
 refine go_sp [] [(4, .int .i64 0)] hs ?_; clear hs; intro a hs
 refine wp_block ?_
 obtain ⟨e10, hl10, HX10⟩ := bind_some H
 have hJ7 : ∀ (Aa73 : Option Addr) (cc74 : Nat) (l72 : List Int) (a : Act) (w : World), Slots a 82 [(3, .slice Aa73 l72.length cc74)] → St [] w0 w [own 23 (eI .u32) Aa73 cc74 l72] → rivetlaw06_fit.j7 l72 = some r → K8 a w := by
  intro Aa73 cc74 l72 a w hs hw H
  unfold rivetlaw06_fit.j7 at H
  refine hK8 _ _ ?_
  refine go_sp [3] [(2, .slice Aa73 l72.length cc74)] hs ?_; clear hs; intro a hs
  refine wp_ret ?_
  obtain rfl := Option.some.inj H
  refine ret1 (t := 2) (v := .slice Aa73 l72.length cc74) hs (by kernel_rfl) (by kernel_rfl) ?_
  exact ⟨Aa73, cc74, rfl, hw.only 1⟩
 clear H
 refine go_loop (σ := (List Int) × Int) (fun σ a w => ∃ Aa12, ∃ cc13, Slots a 82 [(0, .slice A0 l0.length c0), (3, .slice Aa12 σ.1.length cc13), (4, .int .i64 σ.2)] ∧ St [] w0 w [own 23 (eI .u32) Aa12 cc13 σ.1]) hl10 (by exact ⟨Aa3, cc4, hs.kx, hw⟩) ?_
 rintro ⟨l11, v14⟩ a w ⟨Aa12, cc13, hs, hw⟩ o H hr10
 replace hs : Slots a 82 [(0, .slice A0 l0.length c0), (3, .slice Aa12 l11.length cc13), (4, .int .i64 v14)] := hs
 replace hw : St [] w0 w [own 23 (eI .u32) Aa12 cc13 l11] := hw
 replace H : rivetlaw06_fit.b10 l0 l11 v14 = some o := H
 unfold rivetlaw06_fit.b10 at H
 refine go_seq_k fun K15 hK15 => ?_
 have hJ2 : ∀ (a : Act) (w : World), Slots a 82 [(0, .slice A0 l0.length c0), (3, .slice Aa12 l11.length cc13), (4, .int .i64 v14)] → St [] w0 w [own 23 (eI .u32) Aa12 cc13 l11] → rivetlaw06_fit.j2 v14 l0 l11 = some o → K15 a w := by
  intro a w hs hw H
  unfold rivetlaw06_fit.j2 at H
  refine hK15 _ _ ?_
  refine go_seq_k fun K21 hK21 => ?_
  have hJ6 : ∀ (Aa70 : Option Addr) (cc71 : Nat) (l69 : List Int) (a : Act) (w : World), Slots a 82 [(0, .slice A0 l0.length c0), (3, .slice Aa70 l69.length cc71), (4, .int .i64 v14)] → St [] w0 w [own 23 (eI .u32) Aa70 cc71 l69] → rivetlaw06_fit.j6 v14 l69 = some o → K21 a w := by
   intro Aa70 cc71 l69 a w hs hw H
   unfold rivetlaw06_fit.j6 at H
   refine hK21 _ _ ?_
   refine go_plain [] [(4, .int .i64 (w64 (v14 + 1)))] hs ?_; clear hs; intro a hs
   exact round_end (l69, w64 (v14 + 1)) (Option.some.inj H).symm ⟨Aa70, cc71, hs.kx, hw⟩
  refine wp_block ?_
  refine go_sk fun K22 hK22 => ?_
  refine go_pvs 2 [] [(20, .slice A0 l0.length c0), (21, .int .i64 v14)] hs ?_; clear hs; intro a hs
  obtain ⟨hp23, H⟩ := ite_only H
  obtain ⟨ad24, rfl⟩ := (hr0.old hw).some hp23.1 hp23.2
  refine go_run hs (by rfl) (x_idx (T := 23) (sz := 1) (a := ad24) (n := l0.length) (cap := c0) (k := .i64) (i := v14) hp23) [20, 21] ?_; clear hs; intro a hs
  refine go_run hs (by rfl) (x_ld (off := 0) (p := ad24.add (v14.toNat * 1)) (v := .int .u32 (ix (eI .u32).d l0 v14)) (hr0.old hw) hp23 rfl) [22] ?_; clear hs; intro a hs
  refine go_pvs 5 [23] [(5, .int .u32 (ix (eI .u32).d l0 v14))] hs ?_; clear hs; intro a hs
  refine go_end (hK22 _ _ ?_)
  refine go_sk fun K25 hK25 => ?_
  refine go_pvs 28 [] [(51, .agg (eSapi_Instr.enc (⟨w64 (band .u32 (ix (eI .u32).d l0 v14) 7), w64 (band .u32 ((ix (eI .u32).d l0 v14).fdiv (2 ^ 3)) 15), w64 (band .u32 ((ix (eI .u32).d l0 v14).fdiv (2 ^ 7)) 15), w64 (band .u32 ((ix (eI .u32).d l0 v14).fdiv (2 ^ 11)) 15), w64 (band .u32 ((ix (eI .u32).d l0 v14).fdiv (2 ^ 15)) 15), w64 (band .u32 ((ix (eI .u32).d l0 v14).fdiv (2 ^ 19)) 63), (band .u32 ((ix (eI .u32).d l0 v14).fdiv (2 ^ 25)) 1) == 1⟩ : Sapi_Instr)).toArray)] hs ?_; clear hs; intro a hs
  obtain ⟨t27, hx28, H⟩ := bind_some H
  refine go_call hs (by rfl) (rivetref03_Fit.calls (⟨w64 (band .u32 (ix (eI .u32).d l0 v14) 7), w64 (band .u32 ((ix (eI .u32).d l0 v14).fdiv (2 ^ 3)) 15), w64 (band .u32 ((ix (eI .u32).d l0 v14).fdiv (2 ^ 7)) 15), w64 (band .u32 ((ix (eI .u32).d l0 v14).fdiv (2 ^ 11)) 15), w64 (band .u32 ((ix (eI .u32).d l0 v14).fdiv (2 ^ 15)) 15), w64 (band .u32 ((ix (eI .u32).d l0 v14).fdiv (2 ^ 19)) 63), (band .u32 ((ix (eI .u32).d l0 v14).fdiv (2 ^ 25)) 1) == 1⟩ : Sapi_Instr) t27 _ hx28) ?_
  rintro e wd29 ⟨rfl, hw30⟩
  refine ⟨_, rfl, ?_⟩
  replace hw := hw.call hw30
  clear hs; intro a hs; replace hs := hs.rms [51]
  obtain ⟨ad31, wd32, hx33, hw⟩ := x_alloc1 (P := Try.prog) (elem := 45) (ty := 0) (z := .agg (eSapi_Instr.enc (⟨0, 0, 0, 0, 0, 0, false⟩ : Sapi_Instr)).toArray) hs hw eSapi_Instr (⟨0, 0, 0, 0, 0, 0, false⟩ : Sapi_Instr) (by kernel_rfl) (by kernel_rfl)
  refine go_run hs (by rfl) hx33 [] ?_; clear hs; intro a hs
  obtain ⟨wd35, hx36, hw⟩ := x_put (P := Try.prog) (ty := 0) (t := 45) (x := (Operand.tmp 6)) (y := (Operand.tmp 52)) (off := 0) (p := ad31) (v := .agg (eSapi_Instr.enc t27).toArray) (vs := (eSapi_Instr.enc t27)) (i := 0) (e' := ((t27 : Sapi_Instr) : Sapi_Instr)) hs hw rfl (one_ok (⟨0, 0, 0, 0, 0, 0, false⟩ : Sapi_Instr)).1 (one_ok (⟨0, 0, 0, 0, 0, 0, false⟩ : Sapi_Instr)).2 (by kernel_rfl) (one_at _ _) (by kernel_rfl) rfl (by kernel_rfl) (Nat.le_of_ble_eq_true rfl) (eSapi_Instr.one _) (by kernel_rfl)
  refine go_unit hs (by rfl) hx36 [52] ?_; clear hs; intro a hs
  replace hw : St [] w0 wd35 [own 45 eSapi_Instr (some ad31) 1 [(t27 : Sapi_Instr)], own 23 (eI .u32) Aa12 cc13 l11] := hw
  refine go_end (hK25 _ _ ?_)
  refine go_seq_k fun K37 hK37 => ?_
  have hJ4 : ∀ (v45 : Sapi_Instr) (a : Act) (w : World), Slots a 82 [(0, .slice (some ad24) l0.length c0), (3, .slice Aa12 l11.length cc13), (4, .int .i64 v14), (5, .int .u32 (ix (eI .u32).d l0 v14)), (6, .pointer (some ad31))] → St [] w0 w [own 45 eSapi_Instr (some ad31) 1 [v45], own 23 (eI .u32) Aa12 cc13 l11] → rivetlaw06_fit.j4 l0 v14 l11 v45 = some o → K37 a w := by
   intro v45 a w hs hw H
   unfold rivetlaw06_fit.j4 at H
   refine hK37 _ _ ?_
   refine go_sk fun K46 hK46 => ?_
   refine go_run hs (by rfl) (x_lds (off := 0) (p := ad31) (cs := (eSapi_Instr.enc v45)) (Rd.of_own (hw.up 0)) (one_ok (t27 : Sapi_Instr)) (one_at _ _)) [6] ?_; clear hs; intro a hs
   obtain ⟨⟨t48, t49⟩, hx50, H⟩ := bind_some H
   refine go_call hs (by rfl) (rivetref03_Encode.calls v45 (t48, t49) _ hx50) ?_
   rintro e wd51 ⟨rfl, hw52⟩
   refine ⟨_, rfl, ?_⟩
   replace hw := hw.call hw52
   clear hs; intro a hs; replace hs := hs.rms [68]
   refine go_pvs 7 [69] [(7, .int .u32 t48)] hs ?_; clear hs; intro a hs
   refine go_end (hK46 _ _ ?_)
   refine go_seq_k fun K53 hK53 => ?_
   have hJ5 : ∀ (v57 : Int) (a : Act) (w : World), Slots a 82 [(0, .slice (some ad24) l0.length c0), (3, .slice Aa12 l11.length cc13), (4, .int .i64 v14), (7, .int .u32 v57)] → St [] w0 w [own 45 eSapi_Instr (some ad31) 1 [v45], own 23 (eI .u32) Aa12 cc13 l11] → rivetlaw06_fit.j5 l11 v14 v57 = some o → K53 a w := by
    intro v57 a w hs hw H
    unfold rivetlaw06_fit.j5 at H
    refine hK53 _ _ ?_
    refine go_region ?_
    refine go_pvs 2 [3, 7] [(77, .slice Aa12 l11.length cc13), (78, .int .u32 v57)] hs ?_; clear hs; intro a hs
    obtain ⟨Aa58, cc59, wd60, hx61, hw⟩ := n_lit (P := Try.prog) (t := 22) (ty := 22) (T := 23) (len := 1) (parts := #[(0, (Operand.tmp 78))]) (z := .int .u32 0) (bytes := 4) (cells := #[.int .u32 v57]) hs hw (eI .u32) ([v57] : List Int) (by kernel_rfl) (by kernel_rfl) (by kernel_rfl) (by kernel_rfl) (by kernel_rfl) (by kernel_rfl) (by kernel_rfl)
    refine go_run hs (by rfl) hx61 [78] ?_; clear hs; intro a hs
    obtain ⟨hp63, H⟩ := ite_only H
    have hsrc68 : Src Try.prog (eI .u32).sz 22 (.slice Aa58 ([v57] : List Int).length cc59) ([v57] : List Int).length (([v57] : List Int).flatMap (eI .u32).enc) _ := (Src.of_rd (E := (eI .u32)) (e' := 23) (by kernel_rfl) (Rd.of_own (hw.up 0)))
    replace hw := hw.up 2
    obtain ⟨Aa64, cc65, wd66, hx67, hw⟩ := x_append (P := Try.prog) (t := 22) (tx := 22) (ty := 22) (x := (Operand.tmp 77)) (y := (Operand.tmp 79)) (z := .int .u32 0) (bytes := 4) (l2 := ([v57] : List Int)) hs hw (by kernel_rfl) (by kernel_rfl) (by kernel_rfl) (by kernel_rfl) (by kernel_rfl) hsrc68 (by omega) (by omega)
    refine go_run hs (by rfl) hx67 [77, 79] ?_; clear hs; intro a hs
    refine go_pvs 5 [80] [(3, .slice Aa64 (l11 ++ ([v57] : List Int)).length cc65)] hs ?_; clear hs; intro a hs
    refine go_end ?_
    refine ib_norm ?_
    replace hw := hw.only 1
    exact hJ6 Aa64 cc65 (l11 ++ ([v57] : List Int)) _ _ hs.kx hw H
   refine go_sp [] [(75, .bool ((band .u32 ((ix (eI .u32).d l0 v14).fdiv (2 ^ 26)) 7) == 0))] hs ?_; clear hs; intro a hs
   refine go_cond hs ((band .u32 ((ix (eI .u32).d l0 v14).fdiv (2 ^ 26)) 7) == 0) (fun hc => ?_) fun hc => ?_
   ·replace H := ite_t H (beq_iff_eq.1 hc)
    have hb55 := hc
    rw [hb55] at hs
    refine go_plain [5, 75] [(7, .int .u32 (ix (eI .u32).d l0 v14))] hs ?_; clear hs; intro a hs
    replace hw := hw.up 1
    replace hw := hw.up 1
    exact hJ5 (ix (eI .u32).d l0 v14) _ _ hs.kx hw H
   ·replace H := ite_f H (beq_eq_false_iff_ne.1 hc)
    have hb56 := hc
    rw [hb56] at hs
    refine wp_skip ?_
    replace hw := hw.up 1
    replace hw := hw.up 1
    exact hJ5 t48 _ _ hs.kx hw H
  refine go_seq_k fun K38 hK38 => ?_
  have hJ3 : ∀ (v40 : Bool) (a : Act) (w : World), Slots a 82 [(0, .slice (some ad24) l0.length c0), (3, .slice Aa12 l11.length cc13), (4, .int .i64 v14), (5, .int .u32 (ix (eI .u32).d l0 v14)), (6, .pointer (some ad31)), (60, .bool v40)] → St [] w0 w [own 45 eSapi_Instr (some ad31) 1 [(t27 : Sapi_Instr)], own 23 (eI .u32) Aa12 cc13 l11] → rivetlaw06_fit.j3 l0 v14 l11 t27 v40 = some o → K38 a w := by
   intro v40 a w hs hw H
   unfold rivetlaw06_fit.j3 at H
   refine hK38 _ _ ?_
   refine go_cond hs v40 (fun hc => ?_) fun hc => ?_
   ·replace H := ite_t H hc
    have hb41 := hc
    rw [hb41] at hs
    refine go_region ?_
    refine go_pvs 6 [60] [(65, .int .i64 (w64 ((w64 (band .u32 ((ix (eI .u32).d l0 v14).fdiv (2 ^ 19)) 63)) - 32))), (66, .pointer (some ((ad31 : Addr).add 5)))] hs ?_; clear hs; intro a hs
    obtain ⟨wd42, hx43, hw⟩ := x_put (P := Try.prog) (ty := 0) (t := 3) (x := (Operand.tmp 66)) (y := (Operand.tmp 65)) (off := 5) (p := (ad31 : Addr).add 5) (v := .int .i64 (w64 ((w64 (band .u32 ((ix (eI .u32).d l0 v14).fdiv (2 ^ 19)) 63)) - 32))) (vs := [.int .i64 (w64 ((w64 (band .u32 ((ix (eI .u32).d l0 v14).fdiv (2 ^ 19)) 63)) - 32))]) (i := 0) (e' := (({ (t27 : Sapi_Instr) with Imm := w64 ((w64 (band .u32 ((ix (eI .u32).d l0 v14).fdiv (2 ^ 19)) 63)) - 32) } : Sapi_Instr) : Sapi_Instr)) hs hw rfl (one_ok (t27 : Sapi_Instr)).1 (one_ok (t27 : Sapi_Instr)).2 (by kernel_rfl) (one_off _ _ _) (by kernel_rfl) rfl (by kernel_rfl) (Nat.le_of_ble_eq_true rfl) (by simp [Value.oneCell']) (by kernel_rfl)
    refine go_unit hs (by rfl) hx43 [65, 66] ?_; clear hs; intro a hs
    replace hw : St [] w0 wd42 [own 45 eSapi_Instr (some ad31) 1 [({ (t27 : Sapi_Instr) with Imm := w64 ((w64 (band .u32 ((ix (eI .u32).d l0 v14).fdiv (2 ^ 19)) 63)) - 32) } : Sapi_Instr)], own 23 (eI .u32) Aa12 cc13 l11] := hw
    refine go_end ?_
    replace hw := hw.up 1
    replace hw := hw.up 1
    exact hJ4 ({ (t27 : Sapi_Instr) with Imm := w64 ((w64 (band .u32 ((ix (eI .u32).d l0 v14).fdiv (2 ^ 19)) 63)) - 32) } : Sapi_Instr) _ _ hs.kx hw H
   ·replace H := ite_f H (ff hc)
    have hb44 := hc
    rw [hb44] at hs
    refine wp_skip ?_
    replace hw := hw.up 1
    replace hw := hw.up 1
    exact hJ4 (t27 : Sapi_Instr) _ _ hs.kx hw H
  refine go_region ?_
  refine go_pvs 1 [] [(53, .pointer (some ((ad31 : Addr).add 0)))] hs ?_; clear hs; intro a hs
  refine go_run hs (by rfl) (x_ld (off := 0) (p := (ad31 : Addr).add 0) (v := .int .i64 ((t27 : Sapi_Instr).Kind)) (Rd.of_own (hw.up 0)) (one_ok (t27 : Sapi_Instr)) (one_off _ _ _)) [53] ?_; clear hs; intro a hs
  refine go_pvs 4 [54] [(56, .bool (((t27 : Sapi_Instr).Kind) == 5))] hs ?_; clear hs; intro a hs
  cases hb39 : (((t27 : Sapi_Instr).Kind) == 5)
  ·replace H := ite_f H (beq_eq_false_iff_ne.1 hb39)
   rw [hb39] at hs
   refine go_pvs 5 [] [(57, .pointer (some ((ad31 : Addr).add 0)))] hs ?_; clear hs; intro a hs
   refine go_run hs (by rfl) (x_ld (off := 0) (p := (ad31 : Addr).add 0) (v := .int .i64 ((t27 : Sapi_Instr).Kind)) (Rd.of_own (hw.up 0)) (one_ok (t27 : Sapi_Instr)) (one_off _ _ _)) [57] ?_; clear hs; intro a hs
   refine go_pvs 8 [56, 58] [(60, .bool (((t27 : Sapi_Instr).Kind) == 7))] hs ?_; clear hs; intro a hs
   refine go_end ?_
   replace hw := hw.up 1
   replace hw := hw.up 1
   exact hJ3 (((t27 : Sapi_Instr).Kind) == 7) _ _ hs.kx hw H
  ·replace H := ite_t H (beq_iff_eq.1 hb39)
   rw [hb39] at hs
   refine go_pvs 8 [56] [(60, .bool true)] hs ?_; clear hs; intro a hs
   refine go_end ?_
   replace hw := hw.up 1
   replace hw := hw.up 1
   exact hJ3 true _ _ hs.kx hw H
 refine go_seq_k fun K16 hK16 => ?_
 have hJ1 : ∀ (v18 : Bool) (a : Act) (w : World), Slots a 82 [(0, .slice A0 l0.length c0), (3, .slice Aa12 l11.length cc13), (4, .int .i64 v14), (17, .bool v18)] → St [] w0 w [own 23 (eI .u32) Aa12 cc13 l11] → rivetlaw06_fit.j1 v14 l0 l11 v18 = some o → K16 a w := by
  intro v18 a w hs hw H
  unfold rivetlaw06_fit.j1 at H
  refine hK16 _ _ ?_
  refine go_cond hs v18 (fun hc => ?_) fun hc => ?_
  ·replace H := ite_t H hc
   have hb19 := hc
   rw [hb19] at hs
   refine wp_skip ?_
   exact hJ2 _ _ hs.kx hw H
  ·replace H := ite_f H (ff hc)
   have hb20 := hc
   rw [hb20] at hs
   refine wp_exit ?_
   refine th_exit ?_
   refine th_exit ?_
   refine in_block ?_
   rw [← hr10 _ (Option.some.inj H).symm] at HX10
   exact hJ7 Aa12 cc13 l11 _ _ hs.kx hw HX10
 refine go_region ?_
 refine go_pvs 5 [] [(14, .bool (decide (v14 < (l0.length : Int))))] hs ?_; clear hs; intro a hs
 cases hb17 : (decide (v14 < (l0.length : Int)))
 ·replace H := ite_f H (of_decide_eq_false hb17)
  rw [hb17] at hs
  refine go_pvs 8 [14] [(17, .bool false)] hs ?_; clear hs; intro a hs
  refine go_end ?_
  exact hJ1 false _ _ hs.kx hw H
 ·replace H := ite_t H (of_decide_eq_true hb17)
  rw [hb17] at hs
  refine go_pvs 8 [14] [(17, .bool (decide (v14 < 20)))] hs ?_; clear hs; intro a hs
  refine go_end ?_
  exact hJ1 (decide (v14 < 20)) _ _ hs.kx hw H

end Go.Proofs.Ytheccnbamcdpmaa.T06
