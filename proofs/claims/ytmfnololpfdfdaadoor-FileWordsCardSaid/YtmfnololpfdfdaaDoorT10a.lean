/- YtmfnololpfdfdaaDoorT10: Go functions told as plain ones, each with a proof that its call comes to what is told, part 1. Condition of each: that the plain function comes to a value. -/
import Derived.Test.YtmfnololpfdfdaaDoorT09
import Derived.Test.YtmfnololpfdfdaaDoorEO
import Derived.Test.YtmfnololpfdfdaaDoorProg
namespace Go.Proofs.YtmfnololpfdfdaaDoor.T09
open Go Go.RowKit Go.Proofs.YtmfnololpfdfdaaDoor.E
set_option linter.unusedVariables false
set_option linter.unusedSimpArgs false

/-! rivet/rivetref07.PutName: function 47 -/
noncomputable def rivetref07_PutName.j1 (l45 : List Int) : Option ((List Int) × Int) := some (l45, 0)
noncomputable def rivetref07_PutName.b26 (l27 : List Int) : Option ((List Int) ⊕ (List Int)) := (if ((l27.length : Int).tmod 4) = 0 then some (.inr l27) else (if l27.length + ([0] : List Int).length ≤ 140737488355328 then some (.inl (l27 ++ ([0] : List Int))) else none))
noncomputable def rivetref07_PutName (a0 : ByteArray) : Option ((List Int) × Int) := ((rivetref07_Name a0).bind fun t5 => ((if t5 = true then (if ([wu8 (a0.size : Int)] : List Int).length + (bytesL a0).length ≤ 140737488355328 then ((loopO (fun (σ : (List Int)) => rivetref07_PutName.b26 σ) (([wu8 (a0.size : Int)] : List Int) ++ (bytesL a0))).bind fun e => rivetref07_PutName.j1 e) else none) else some (([] : List Int), 9))))
set_option maxRecDepth 100000 in
set_option maxHeartbeats 4000000 in
theorem rivetref07_PutName.calls (a0 : ByteArray) (r : (List Int) × Int) (w0 : World) (H : rivetref07_PutName a0 = some r) :
    Calls Tryd.prog 47 #[.string a0] w0 fun e w' => ∃ A_0 c_0, e = .returned (.tuple #[.slice A_0 r.1.length c_0, .int .i64 r.2]) ∧ St [] w0 w' [own 5 (eI .u8) A_0 c_0 r.1] := by
 have hw : St [] w0 w0 [] := St.nil w0
 unfold rivetref07_PutName at H
 refine go_fn Tryd.func47 rfl Tryd.ntmps47 ?_; intro a hs
 refine go_sp [] [] hs ?_; clear hs; intro a hs
 refine go_seq_k fun K2 hK2 => ?_
 refine go_sk fun K3 hK3 => ?_
 refine go_pvs 1 [] [(5, .string a0)] hs ?_; clear hs; intro a hs
 obtain ⟨t5, hx6, H⟩ := bind_some H
 refine go_call hs (by rfl) (rivetref07_Name.calls a0 t5 _ hx6) ?_
 rintro e wd7 ⟨rfl, hw8⟩
 refine ⟨_, rfl, ?_⟩
 replace hw := hw.call hw8
 clear hs; intro a hs; replace hs := hs.rms [5]
 refine go_pvs 3 [6] [(7, .bool (!t5))] hs ?_; clear hs; intro a hs
 refine go_end (hK3 _ _ ?_)
 refine go_cond hs (!t5) (fun hc => ?_) fun hc => ?_
 ·replace H := ite_f H (ff (nt hc))
  have hb9 := hc
  rw [hb9] at hs
  refine go_sp [0, 7] [(2, .slice none 0 0), (3, .int .i64 9)] hs ?_; clear hs; intro a hs
  refine wp_ret ?_
  refine th_ret ?_
  obtain rfl := Option.some.inj H
  replace hw := St.own_nil hw 5 (eI .u8)
  refine ret2 (t1 := 2) (v1 := .slice none 0 0) (t2 := 3) (v2 := .int .i64 9) hs (by kernel_rfl) (by kernel_rfl) (by kernel_rfl) ?_
  exact ⟨none, 0, rfl, hw.only 1⟩
 ·replace H := ite_t H (nf hc)
  have hb12 := hc
  rw [hb12] at hs
  refine wp_skip ?_
  refine hK2 _ _ ?_
  refine go_sk fun K13 hK13 => ?_
  refine go_pvs 3 [7] [(10, .int .u8 (wu8 (a0.size : Int)))] hs ?_; clear hs; intro a hs
  obtain ⟨Aa14, cc15, wd16, hx17, hw⟩ := n_lit (P := Tryd.prog) (t := 32) (ty := 32) (T := 5) (len := 1) (parts := #[(0, (Operand.tmp 10))]) (z := .int .u8 0) (bytes := 1) (cells := #[.int .u8 (wu8 (a0.size : Int))]) hs hw (eI .u8) ([wu8 (a0.size : Int)] : List Int) (by kernel_rfl) (by kernel_rfl) (by kernel_rfl) (by kernel_rfl) (by kernel_rfl) (by kernel_rfl) (by kernel_rfl)
  refine go_run hs (by rfl) hx17 [10] ?_; clear hs; intro a hs
  refine go_pvs 5 [0] [(12, .string a0)] hs ?_; clear hs; intro a hs
  obtain ⟨hp19, H⟩ := ite_only H
  have hsrc24 : Src Tryd.prog (eI .u8).sz 9 (.string a0) (bytesL a0).length ((bytesL a0).flatMap (eI .u8).enc) wd16 := (src_str (by kernel_rfl) _)
  obtain ⟨Aa20, cc21, wd22, hx23, hw⟩ := x_append (P := Tryd.prog) (t := 32) (tx := 9) (ty := 32) (x := (Operand.tmp 11)) (y := (Operand.tmp 12)) (z := .int .u8 0) (bytes := 1) (l2 := bytesL a0) hs hw (by kernel_rfl) (by kernel_rfl) (by kernel_rfl) (by kernel_rfl) (by kernel_rfl) hsrc24 (by omega) (by omega)
  refine go_run hs (by rfl) hx23 [11, 12] ?_; clear hs; intro a hs
  refine go_pvs 7 [13] [(4, .slice Aa20 (([wu8 (a0.size : Int)] : List Int) ++ (bytesL a0)).length cc21)] hs ?_; clear hs; intro a hs
  refine go_end (hK13 _ _ ?_)
  refine go_seq_k fun K25 hK25 => ?_
  refine wp_block ?_
  obtain ⟨e26, hl26, HX26⟩ := bind_some H
  have hJ1 : ∀ (Aa46 : Option Addr) (cc47 : Nat) (l45 : List Int) (a : Act) (w : World), Slots a 22 [(4, .slice Aa46 l45.length cc47)] → St [] w0 w [own 5 (eI .u8) Aa46 cc47 l45] → rivetref07_PutName.j1 l45 = some r → K25 a w := by
   intro Aa46 cc47 l45 a w hs hw H
   unfold rivetref07_PutName.j1 at H
   refine hK25 _ _ ?_
   refine go_sp [4] [(2, .slice Aa46 l45.length cc47), (3, .int .i64 0)] hs ?_; clear hs; intro a hs
   refine wp_ret ?_
   obtain rfl := Option.some.inj H
   refine ret2 (t1 := 2) (v1 := .slice Aa46 l45.length cc47) (t2 := 3) (v2 := .int .i64 0) hs (by kernel_rfl) (by kernel_rfl) (by kernel_rfl) ?_
   exact ⟨Aa46, cc47, rfl, hw.only 1⟩
  clear H
  refine go_loop (σ := (List Int)) (fun σ a w => ∃ Aa28, ∃ cc29, Slots a 22 [(4, .slice Aa28 σ.length cc29)] ∧ St [] w0 w [own 5 (eI .u8) Aa28 cc29 σ]) hl26 (by exact ⟨Aa20, cc21, hs.kx, hw⟩) ?_
  rintro l27 a w ⟨Aa28, cc29, hs, hw⟩ o H hr26
  replace hs : Slots a 22 [(4, .slice Aa28 l27.length cc29)] := hs
  replace hw : St [] w0 w [own 5 (eI .u8) Aa28 cc29 l27] := hw
  replace H : rivetref07_PutName.b26 l27 = some o := H
  unfold rivetref07_PutName.b26 at H
  refine go_seq_k fun K30 hK30 => ?_
  refine go_sp [] [(17, .bool (((l27.length : Int).tmod 4) != 0))] hs ?_; clear hs; intro a hs
  refine go_cond hs (((l27.length : Int).tmod 4) != 0) (fun hc => ?_) fun hc => ?_
  ·replace H := ite_f H (bne_iff_ne.1 hc)
   have hb32 := hc
   rw [hb32] at hs
   refine wp_skip ?_
   refine hK30 _ _ ?_
   refine wp_block ?_
   refine go_region ?_
   refine go_pvs 1 [4, 17] [(18, .slice Aa28 l27.length cc29)] hs ?_; clear hs; intro a hs
   obtain ⟨Aa33, cc34, wd35, hx36, hw⟩ := n_lit (P := Tryd.prog) (t := 32) (ty := 32) (T := 5) (len := 1) (parts := #[(0, (Operand.const (Value.int IntKind.u8 0)))]) (z := .int .u8 0) (bytes := 1) (cells := #[.int .u8 0]) hs hw (eI .u8) ([0] : List Int) (by kernel_rfl) (by kernel_rfl) (by kernel_rfl) (by kernel_rfl) (by kernel_rfl) (by kernel_rfl) (by kernel_rfl)
   refine go_run hs (by rfl) hx36 [] ?_; clear hs; intro a hs
   obtain ⟨hp38, H⟩ := ite_only H
   have hsrc43 : Src Tryd.prog (eI .u8).sz 32 (.slice Aa33 ([0] : List Int).length cc34) ([0] : List Int).length (([0] : List Int).flatMap (eI .u8).enc) _ := (Src.of_rd (E := (eI .u8)) (e' := 5) (by kernel_rfl) (Rd.of_own (hw.up 0)))
   replace hw := hw.up 1
   obtain ⟨Aa39, cc40, wd41, hx42, hw⟩ := x_append (P := Tryd.prog) (t := 32) (tx := 32) (ty := 32) (x := (Operand.tmp 18)) (y := (Operand.tmp 19)) (z := .int .u8 0) (bytes := 1) (l2 := ([0] : List Int)) hs hw (by kernel_rfl) (by kernel_rfl) (by kernel_rfl) (by kernel_rfl) (by kernel_rfl) hsrc43 (by omega) (by omega)
   refine go_run hs (by rfl) hx42 [18, 19] ?_; clear hs; intro a hs
   refine go_pvs 4 [20] [(4, .slice Aa39 (l27 ++ ([0] : List Int)).length cc40)] hs ?_; clear hs; intro a hs
   refine go_end ?_
   refine ib_norm ?_
   replace hw := hw.only 1
   exact round_end (l27 ++ ([0] : List Int)) (Option.some.inj H).symm ⟨Aa39, cc40, hs.kx, hw⟩
  ·replace H := ite_t H (bne_eq_false_iff_eq.1 hc)
   have hb44 := hc
   rw [hb44] at hs
   refine wp_exit ?_
   refine th_exit ?_
   refine th_exit ?_
   refine in_block ?_
   rw [← hr26 _ (Option.some.inj H).symm] at HX26
   exact hJ1 Aa28 cc29 l27 _ _ hs.kx hw HX26

/-! rivet/le.PutName: function 29 -/
noncomputable def le_PutName (a0 : ByteArray) : Option ((List Int) × Int) := ((le_Name a0).bind fun t5 => ((if t5 = true then ((le_padded (a0.size : Int)).bind fun t15 => ((if 0 ≤ t15 ∧ t15 ≤ 281474976710656 then (if 0 ≤ (0 : Int) ∧ (0 : Int) < ((List.replicate (t15 : Int).toNat (eI .u8).d).length : Int) then (if 0 ≤ (1 : Int) ∧ (1 : Int) ≤ (((List.replicate (t15 : Int).toNat (eI .u8).d).set ((0 : Int) : Int).toNat (wu8 (a0.size : Int))).length : Int) then some (lput ((List.replicate (t15 : Int).toNat (eI .u8).d).set ((0 : Int) : Int).toNat (wu8 (a0.size : Int))) (1 : Int).toNat (bytesL a0), 0) else none) else none) else none))) else some (([] : List Int), 9))))
set_option maxRecDepth 100000 in
set_option maxHeartbeats 4000000 in
theorem le_PutName.calls (a0 : ByteArray) (r : (List Int) × Int) (w0 : World) (H : le_PutName a0 = some r) :
    Calls Tryd.prog 29 #[.string a0] w0 fun e w' => ∃ A_0 c_0, e = .returned (.tuple #[.slice A_0 r.1.length c_0, .int .i64 r.2]) ∧ St [] w0 w' [own 5 (eI .u8) A_0 c_0 r.1] := by
 have hw : St [] w0 w0 [] := St.nil w0
 unfold le_PutName at H
 refine go_fn Tryd.func29 rfl Tryd.ntmps29 ?_; intro a hs
 refine go_sp [] [] hs ?_; clear hs; intro a hs
 refine go_seq_k fun K2 hK2 => ?_
 refine go_sk fun K3 hK3 => ?_
 refine go_pvs 1 [] [(5, .string a0)] hs ?_; clear hs; intro a hs
 obtain ⟨t5, hx6, H⟩ := bind_some H
 refine go_call hs (by rfl) (le_Name.calls a0 t5 _ hx6) ?_
 rintro e wd7 ⟨rfl, hw8⟩
 refine ⟨_, rfl, ?_⟩
 replace hw := hw.call hw8
 clear hs; intro a hs; replace hs := hs.rms [5]
 refine go_pvs 3 [6] [(7, .bool (!t5))] hs ?_; clear hs; intro a hs
 refine go_end (hK3 _ _ ?_)
 refine go_cond hs (!t5) (fun hc => ?_) fun hc => ?_
 ·replace H := ite_f H (ff (nt hc))
  have hb9 := hc
  rw [hb9] at hs
  refine go_sp [0, 7] [(2, .slice none 0 0), (3, .int .i64 9)] hs ?_; clear hs; intro a hs
  refine wp_ret ?_
  refine th_ret ?_
  obtain rfl := Option.some.inj H
  replace hw := St.own_nil hw 5 (eI .u8)
  refine ret2 (t1 := 2) (v1 := .slice none 0 0) (t2 := 3) (v2 := .int .i64 9) hs (by kernel_rfl) (by kernel_rfl) (by kernel_rfl) ?_
  exact ⟨none, 0, rfl, hw.only 1⟩
 ·replace H := ite_t H (nf hc)
  have hb12 := hc
  rw [hb12] at hs
  refine wp_skip ?_
  refine hK2 _ _ ?_
  refine go_sk fun K13 hK13 => ?_
  refine go_pvs 2 [7] [(9, .int .i64 (a0.size : Int))] hs ?_; clear hs; intro a hs
  obtain ⟨t15, hx16, H⟩ := bind_some H
  refine go_call hs (by rfl) (le_padded.calls (a0.size : Int) t15 _ hx16) ?_
  rintro e wd17 ⟨rfl, hw18⟩
  refine ⟨_, rfl, ?_⟩
  replace hw := hw.call hw18
  clear hs; intro a hs; replace hs := hs.rms [9]
  obtain ⟨hp19, H⟩ := ite_only H
  obtain ⟨Aa20, cc21, wd22, hx23, hw⟩ := n_make (P := Tryd.prog) (t := 32) (ty := 32) (T := 5) (x := (Operand.tmp 10)) (y := (Operand.tmp 10)) (E := (eI .u8)) (z := .int .u8 0) (bytes := 1) (n := t15) hs hw (by kernel_rfl) (by kernel_rfl) (by kernel_rfl) (by kernel_rfl) (by kernel_rfl) hp19.1 (by have := hp19.2; omega) (by have := hp19.2; omega)
  refine go_run hs (by rfl) hx23 [10] ?_; clear hs; intro a hs
  refine go_pvs 5 [11] [(4, .slice Aa20 (List.replicate (t15 : Int).toNat (eI .u8).d).length cc21)] hs ?_; clear hs; intro a hs
  refine go_end (hK13 _ _ ?_)
  refine go_sk fun K25 hK25 => ?_
  refine go_pvs 4 [] [(12, .slice Aa20 (List.replicate (t15 : Int).toNat (eI .u8).d).length cc21), (15, .int .u8 (wu8 (a0.size : Int)))] hs ?_; clear hs; intro a hs
  obtain ⟨hp26, H⟩ := ite_only H
  obtain ⟨ad27, rfl⟩ := (Rd.of_own (hw.up 0)).some hp26.1 hp26.2
  refine go_run hs (by rfl) (x_idx (T := 5) (sz := 1) (a := ad27) (n := (List.replicate (t15 : Int).toNat (eI .u8).d).length) (cap := cc21) (k := .i64) (i := (0 : Int)) hp26) [12] ?_; clear hs; intro a hs
  obtain ⟨wd28, hx29, hw⟩ := x_put (P := Tryd.prog) (ty := 0) (t := 5) (x := (Operand.tmp 16)) (y := (Operand.tmp 15)) (off := 0) (p := ad27.add (((0 : Int) : Int).toNat * 1)) (v := .int .u8 (wu8 (a0.size : Int))) (vs := [.int .u8 (wu8 (a0.size : Int))]) (i := (0 : Int)) (e' := (wu8 (a0.size : Int) : Int)) hs hw rfl hp26.1 hp26.2 (by kernel_rfl) rfl (by kernel_rfl) rfl (by kernel_rfl) (Nat.le_of_ble_eq_true rfl) (by simp [Value.oneCell']) (by kernel_rfl)
  refine go_unit hs (by rfl) hx29 [15, 16] ?_; clear hs; intro a hs
  replace hs : Slots a 22 [(0, .string a0), (4, .slice (some ad27) ((List.replicate (t15 : Int).toNat (eI .u8).d).set ((0 : Int) : Int).toNat (wu8 (a0.size : Int))).length cc21)] := by rw [show ((List.replicate (t15 : Int).toNat (eI .u8).d).set ((0 : Int) : Int).toNat (wu8 (a0.size : Int))).length = (List.replicate (t15 : Int).toNat (eI .u8).d).length from List.length_set]; exact hs.kx
  refine go_end (hK25 _ _ ?_)
  refine go_sk fun K30 hK30 => ?_
  refine go_pvs 1 [] [(17, .slice (some ad27) ((List.replicate (t15 : Int).toNat (eI .u8).d).set ((0 : Int) : Int).toNat (wu8 (a0.size : Int))).length cc21)] hs ?_; clear hs; intro a hs
  obtain ⟨hp31, H⟩ := ite_only H
  obtain ⟨Aa32, cc33, hA36, hx34, hc35⟩ := c_loA (P := Tryd.prog) (ty := 32) (E := (eI .u8)) (T := 5) (t := 32) (x := (Operand.tmp 17)) (y := (Operand.const (Value.int IntKind.i64 1))) (k := .i64) hs (by kernel_rfl) (by kernel_rfl) (Rd.of_own (hw.up 0)) (by kernel_rfl) (by kernel_rfl) hp31.1 hp31.2
  refine go_run hs (by rfl) hx34 [17] ?_; clear hs; intro a hs
  refine go_pvs 3 [0] [(19, .string a0)] hs ?_; clear hs; intro a hs
  obtain ⟨wd38, hx39, hw⟩ := x_copys (P := Tryd.prog) (dT := 32) (sT := 9) (e := 5) (y := (Operand.tmp 18)) (z := (Operand.tmp 19)) (ty := 3) (l := (List.replicate (t15 : Int).toNat (eI .u8).d).set ((0 : Int) : Int).toNat (wu8 (a0.size : Int))) (lo := (1 : Int).toNat) (s := a0) (dcap := cc33) (A' := Aa32) hs hw (by kernel_rfl) (by kernel_rfl) (by kernel_rfl) hA36 (by have := hp31; omega) (by kernel_rfl)
  refine go_run hs (by rfl) hx39 [18, 19, 20] ?_; clear hs; intro a hs
  replace hs : Slots a 22 [(4, .slice (some ad27) (lput ((List.replicate (t15 : Int).toNat (eI .u8).d).set ((0 : Int) : Int).toNat (wu8 (a0.size : Int))) (1 : Int).toNat (bytesL a0)).length cc21)] := by rw [show (lput ((List.replicate (t15 : Int).toNat (eI .u8).d).set ((0 : Int) : Int).toNat (wu8 (a0.size : Int))) (1 : Int).toNat (bytesL a0)).length = ((List.replicate (t15 : Int).toNat (eI .u8).d).set ((0 : Int) : Int).toNat (wu8 (a0.size : Int))).length from lput_len]; exact hs.kx
  refine go_end (hK30 _ _ ?_)
  refine go_sp [4] [(2, .slice (some ad27) (lput ((List.replicate (t15 : Int).toNat (eI .u8).d).set ((0 : Int) : Int).toNat (wu8 (a0.size : Int))) (1 : Int).toNat (bytesL a0)).length cc21), (3, .int .i64 0)] hs ?_; clear hs; intro a hs
  refine wp_ret ?_
  obtain rfl := Option.some.inj H
  refine ret2 (t1 := 2) (v1 := .slice (some ad27) (lput ((List.replicate (t15 : Int).toNat (eI .u8).d).set ((0 : Int) : Int).toNat (wu8 (a0.size : Int))) (1 : Int).toNat (bytesL a0)).length cc21) (t2 := 3) (v2 := .int .i64 0) hs (by kernel_rfl) (by kernel_rfl) (by kernel_rfl) ?_
  exact ⟨(some ad27), cc21, rfl, hw.only 1⟩

/-! rivet/le.TakeName: function 49 -/
noncomputable def le_TakeName.j1 (t13 : Int) (v64 : ByteArray) : Option (ByteArray × Int × Int) := some (v64, t13, 0)
noncomputable def le_TakeName.b48 (l0 : List Int) (t13 : Int) (y10 : Int) (v49 : ByteArray) (v50 : Int) : Option (ByteArray × Int ⊕ (Ex (ByteArray × Int × Int) ByteArray)) := (if v50 < (((l0.take (t13 : Int).toNat).drop (w64 (1 + y10) : Int).toNat).length : Int) then (if 0 ≤ v50 ∧ v50 < (((l0.take (t13 : Int).toNat).drop (w64 (1 + y10) : Int).toNat).length : Int) then (nm (ix (eI .u8).d ((l0.take (t13 : Int).toNat).drop (w64 (1 + y10) : Int).toNat) v50) fun y58 => (if y58 = 0 then some (.inl (v49, w64 (v50 + 1))) else some (.inr (.ret ((⟨#[]⟩ : ByteArray), 0, 6))))) else none) else some (.inr (.done v49)))
noncomputable def le_TakeName (l0 : List Int) : Option (ByteArray × Int × Int) := (if (l0.length : Int) = 0 then some ((⟨#[]⟩ : ByteArray), 0, 3) else (if 0 ≤ (0 : Int) ∧ (0 : Int) < (l0.length : Int) then (nm (w64 (ix (eI .u8).d l0 (0 : Int))) fun y10 => ((le_padded y10).bind fun t13 => ((if (l0.length : Int) < t13 then some ((⟨#[]⟩ : ByteArray), 0, 3) else (if 0 ≤ (1 : Int) ∧ (1 : Int) ≤ (w64 (1 + y10)) ∧ (w64 (1 + y10)) ≤ (l0.length : Int) then (nm (strOfNums ((l0.take (w64 (1 + y10) : Int).toNat).drop (1 : Int).toNat)) fun y29 => ((le_Name y29).bind fun t33 => ((if t33 = true then (if 0 ≤ (w64 (1 + y10)) ∧ (w64 (1 + y10)) ≤ t13 ∧ t13 ≤ (l0.length : Int) then ((loopO (fun (σ : ByteArray × Int) => le_TakeName.b48 l0 t13 y10 σ.1 σ.2) (y29, 0)).bind fun e => match e with | .ret x => some x | .done e => le_TakeName.j1 t13 e) else none) else some ((⟨#[]⟩ : ByteArray), 0, 9))))) else none))))) else none))
set_option maxRecDepth 100000 in
set_option maxHeartbeats 4000000 in
theorem le_TakeName.calls (A0 : Option Addr) (c0 : Nat) (l0 : List Int) (r : ByteArray × Int × Int) (w0 : World) (hr0 : Rd w0 (eI .u8) A0 c0 l0) (H : le_TakeName l0 = some r) :
    Calls Tryd.prog 49 #[.slice A0 l0.length c0] w0 fun e w' => e = .returned (.tuple #[.string r.1, .int .i64 r.2.1, .int .i64 r.2.2]) ∧ St [] w0 w' [] := by
 have hw : St [] w0 w0 [] := St.nil w0
 unfold le_TakeName at H
 refine go_fn Tryd.func49 rfl Tryd.ntmps49 ?_; intro a hs
 refine go_sp [] [] hs ?_; clear hs; intro a hs
 refine go_seq_k fun K2 hK2 => ?_
 refine go_sp [] [(11, .bool ((l0.length : Int) == 0))] hs ?_; clear hs; intro a hs
 refine go_cond hs ((l0.length : Int) == 0) (fun hc => ?_) fun hc => ?_
 ·replace H := ite_t H (beq_iff_eq.1 hc)
  have hb4 := hc
  rw [hb4] at hs
  refine go_sp [0, 11] [(2, .string (⟨#[]⟩ : ByteArray)), (3, .int .i64 0), (4, .int .i64 3)] hs ?_; clear hs; intro a hs
  refine wp_ret ?_
  refine th_ret ?_
  obtain rfl := Option.some.inj H
  refine ret3 (t1 := 2) (v1 := .string (⟨#[]⟩ : ByteArray)) (t2 := 3) (v2 := .int .i64 0) (t3 := 4) (v3 := .int .i64 3) hs (by kernel_rfl) (by kernel_rfl) (by kernel_rfl) (by kernel_rfl) ?_
  exact ⟨rfl, hw.only 0⟩
 ·replace H := ite_f H (beq_eq_false_iff_ne.1 hc)
  have hb6 := hc
  rw [hb6] at hs
  refine wp_skip ?_
  refine hK2 _ _ ?_
  refine go_sk fun K7 hK7 => ?_
  refine go_pvs 1 [11] [(12, .slice A0 l0.length c0)] hs ?_; clear hs; intro a hs
  obtain ⟨hp8, H⟩ := ite_only H
  obtain ⟨ad9, rfl⟩ := (hr0.old hw).some hp8.1 hp8.2
  refine go_run hs (by rfl) (x_idx (T := 5) (sz := 1) (a := ad9) (n := l0.length) (cap := c0) (k := .i64) (i := (0 : Int)) hp8) [12] ?_; clear hs; intro a hs
  refine go_run hs (by rfl) (x_ld (off := 0) (p := ad9.add (((0 : Int) : Int).toNat * 1)) (v := .int .u8 (ix (eI .u8).d l0 (0 : Int))) (hr0.old hw) hp8 rfl) [13] ?_; clear hs; intro a hs
  refine go_pvs 5 [14] [(5, .int .i64 (w64 (ix (eI .u8).d l0 (0 : Int))))] hs ?_; clear hs; intro a hs
  obtain ⟨y10, hy10, H⟩ := nm_some H
  replace hs : Slots a 45 [(0, .slice (some ad9) l0.length c0), (5, .int .i64 y10)] := by rw [hy10]; exact hs.kx
  refine go_end (hK7 _ _ ?_)
  refine go_sk fun K11 hK11 => ?_
  refine go_pvs 1 [] [(16, .int .i64 y10)] hs ?_; clear hs; intro a hs
  obtain ⟨t13, hx14, H⟩ := bind_some H
  refine go_call hs (by rfl) (le_padded.calls y10 t13 _ hx14) ?_
  rintro e wd15 ⟨rfl, hw16⟩
  refine ⟨_, rfl, ?_⟩
  replace hw := hw.call hw16
  clear hs; intro a hs; replace hs := hs.rms [16]
  refine go_pvs 3 [17] [(6, .int .i64 t13)] hs ?_; clear hs; intro a hs
  refine go_end (hK11 _ _ ?_)
  refine go_seq_k fun K17 hK17 => ?_
  refine go_sp [] [(21, .bool (decide ((l0.length : Int) < t13)))] hs ?_; clear hs; intro a hs
  refine go_cond hs (decide ((l0.length : Int) < t13)) (fun hc => ?_) fun hc => ?_
  ·replace H := ite_t H (of_decide_eq_true hc)
   have hb19 := hc
   rw [hb19] at hs
   refine go_sp [0, 5, 6, 21] [(2, .string (⟨#[]⟩ : ByteArray)), (3, .int .i64 0), (4, .int .i64 3)] hs ?_; clear hs; intro a hs
   refine wp_ret ?_
   refine th_ret ?_
   obtain rfl := Option.some.inj H
   refine ret3 (t1 := 2) (v1 := .string (⟨#[]⟩ : ByteArray)) (t2 := 3) (v2 := .int .i64 0) (t3 := 4) (v3 := .int .i64 3) hs (by kernel_rfl) (by kernel_rfl) (by kernel_rfl) (by kernel_rfl) ?_
   exact ⟨rfl, hw.only 0⟩
  ·replace H := ite_f H (of_decide_eq_false hc)
   have hb21 := hc
   rw [hb21] at hs
   refine wp_skip ?_
   refine hK17 _ _ ?_
   refine go_sk fun K22 hK22 => ?_
   refine go_pvs 3 [21] [(22, .slice (some ad9) l0.length c0), (24, .int .i64 (w64 (1 + y10)))] hs ?_; clear hs; intro a hs
   obtain ⟨hp23, H⟩ := ite_only H
   obtain ⟨Aa24, cc25, hx26, hc27⟩ := c_lohi (P := Tryd.prog) (ty := 32) (E := (eI .u8)) (T := 5) (t := 32) (x := (Operand.tmp 22)) (y := (Operand.const (Value.int IntKind.i64 1))) (k := .i64) (y' := (Operand.tmp 24)) (k' := .i64) hs (by kernel_rfl) (by kernel_rfl) (hr0.old hw) (by kernel_rfl) (by kernel_rfl) (by kernel_rfl) hp23.1 hp23.2.1 hp23.2.2
   refine go_run hs (by rfl) hx26 [22, 24] ?_; clear hs; intro a hs
   refine go_run hs (by rfl) (x_conv (e := 5) (l := (l0.take (w64 (1 + y10) : Int).toNat).drop (1 : Int).toNat) (hc27 _ (hr0.old hw)) (by kernel_rfl) (by kernel_rfl) (by kernel_rfl) (by kernel_rfl)) [25] ?_; clear hs; intro a hs
   refine go_pvs 6 [26] [(2, .string (strOfNums ((l0.take (w64 (1 + y10) : Int).toNat).drop (1 : Int).toNat)))] hs ?_; clear hs; intro a hs
   obtain ⟨y29, hy29, H⟩ := nm_some H
   replace hs : Slots a 45 [(0, .slice (some ad9) l0.length c0), (2, .string y29), (5, .int .i64 y10), (6, .int .i64 t13)] := by rw [hy29]; exact hs.kx
   refine go_end (hK22 _ _ ?_)
   refine go_seq_k fun K30 hK30 => ?_
   refine go_sk fun K31 hK31 => ?_
   refine go_pvs 1 [] [(27, .string y29)] hs ?_; clear hs; intro a hs
   obtain ⟨t33, hx34, H⟩ := bind_some H
   refine go_call hs (by rfl) (le_Name.calls y29 t33 _ hx34) ?_
   rintro e wd35 ⟨rfl, hw36⟩
   refine ⟨_, rfl, ?_⟩
   replace hw := hw.call hw36
   clear hs; intro a hs; replace hs := hs.rms [27]
   refine go_pvs 3 [28] [(29, .bool (!t33))] hs ?_; clear hs; intro a hs
   refine go_end (hK31 _ _ ?_)
   refine go_cond hs (!t33) (fun hc => ?_) fun hc => ?_
   ·replace H := ite_f H (ff (nt hc))
    have hb37 := hc
    rw [hb37] at hs
    refine go_sp [0, 5, 6, 29] [(2, .string (⟨#[]⟩ : ByteArray)), (3, .int .i64 0), (4, .int .i64 9)] hs ?_; clear hs; intro a hs
    refine wp_ret ?_
    refine th_ret ?_
    obtain rfl := Option.some.inj H
    refine ret3 (t1 := 2) (v1 := .string (⟨#[]⟩ : ByteArray)) (t2 := 3) (v2 := .int .i64 0) (t3 := 4) (v3 := .int .i64 9) hs (by kernel_rfl) (by kernel_rfl) (by kernel_rfl) (by kernel_rfl) ?_
    exact ⟨rfl, hw.only 0⟩
   ·replace H := ite_t H (nf hc)
    have hb39 := hc
    rw [hb39] at hs
    refine wp_skip ?_
    refine hK30 _ _ ?_
    refine go_seq_k fun K40 hK40 => ?_
    refine go_sk fun K41 hK41 => ?_
    refine go_pvs 4 [0, 5, 29] [(30, .slice (some ad9) l0.length c0), (32, .int .i64 (w64 (1 + y10))), (33, .int .i64 t13)] hs ?_; clear hs; intro a hs
    obtain ⟨hp42, H⟩ := ite_only H
    obtain ⟨Aa43, cc44, hx45, hc46⟩ := c_lohi (P := Tryd.prog) (ty := 32) (E := (eI .u8)) (T := 5) (t := 32) (x := (Operand.tmp 30)) (y := (Operand.tmp 32)) (k := .i64) (y' := (Operand.tmp 33)) (k' := .i64) hs (by kernel_rfl) (by kernel_rfl) (hr0.old hw) (by kernel_rfl) (by kernel_rfl) (by kernel_rfl) hp42.1 hp42.2.1 hp42.2.2
    refine go_run hs (by rfl) hx45 [30, 32, 33] ?_; clear hs; intro a hs
    refine go_pvs 7 [] [(35, .int .i64 (((l0.take (t13 : Int).toNat).drop (w64 (1 + y10) : Int).toNat).length : Int)), (36, .int .i64 0)] hs ?_; clear hs; intro a hs
    refine go_end (hK41 _ _ ?_)
    refine wp_block ?_
    obtain ⟨e48, hl48, HX48⟩ := bind_some H
    have hJ1 : ∀ (v64 : ByteArray) (a : Act) (w : World), Slots a 45 [(2, .string v64), (6, .int .i64 t13)] → St [] w0 w [] → le_TakeName.j1 t13 v64 = some r → K40 a w := by
     intro v64 a w hs hw H
     unfold le_TakeName.j1 at H
     refine hK40 _ _ ?_
     refine go_sp [6] [(3, .int .i64 t13), (4, .int .i64 0)] hs ?_; clear hs; intro a hs
     refine wp_ret ?_
     obtain rfl := Option.some.inj H
     refine ret3 (t1 := 2) (v1 := .string v64) (t2 := 3) (v2 := .int .i64 t13) (t3 := 4) (v3 := .int .i64 0) hs (by kernel_rfl) (by kernel_rfl) (by kernel_rfl) (by kernel_rfl) ?_
     exact ⟨rfl, hw.only 0⟩
    clear H
    refine go_loop (σ := ByteArray × Int) (fun σ a w => Slots a 45 [(2, .string σ.1), (6, .int .i64 t13), (34, .slice Aa43 ((l0.take (t13 : Int).toNat).drop (w64 (1 + y10) : Int).toNat).length cc44), (35, .int .i64 (((l0.take (t13 : Int).toNat).drop (w64 (1 + y10) : Int).toNat).length : Int)), (36, .int .i64 σ.2)] ∧ St [] w0 w []) hl48 (by exact ⟨hs.kx, hw⟩) ?_
    rintro ⟨v49, v50⟩ a w ⟨hs, hw⟩ o H hr48
    replace hs : Slots a 45 [(2, .string v49), (6, .int .i64 t13), (34, .slice Aa43 ((l0.take (t13 : Int).toNat).drop (w64 (1 + y10) : Int).toNat).length cc44), (35, .int .i64 (((l0.take (t13 : Int).toNat).drop (w64 (1 + y10) : Int).toNat).length : Int)), (36, .int .i64 v50)] := hs
    replace hw : St [] w0 w [] := hw
    replace H : le_TakeName.b48 l0 t13 y10 v49 v50 = some o := H
    unfold le_TakeName.b48 at H
    refine go_sp [] [(37, .bool (decide (v50 < (((l0.take (t13 : Int).toNat).drop (w64 (1 + y10) : Int).toNat).length : Int))))] hs ?_; clear hs; intro a hs
    refine go_seq_k fun K52 hK52 => ?_
    refine go_cond hs (decide (v50 < (((l0.take (t13 : Int).toNat).drop (w64 (1 + y10) : Int).toNat).length : Int))) (fun hc => ?_) fun hc => ?_
    ·replace H := ite_t H (of_decide_eq_true hc)
     have hb53 := hc
     rw [hb53] at hs
     refine wp_skip ?_
     refine hK52 _ _ ?_
     refine go_seq_k fun K54 hK54 => ?_
     refine wp_block ?_
     refine go_sk fun K55 hK55 => ?_
     obtain ⟨hp56, H⟩ := ite_only H
     obtain ⟨ad57, rfl⟩ := (hc46 _ (hr0.old hw)).some hp56.1 hp56.2
     refine go_run hs (by rfl) (x_idx (T := 5) (sz := 1) (a := ad57) (n := ((l0.take (t13 : Int).toNat).drop (w64 (1 + y10) : Int).toNat).length) (cap := cc44) (k := .i64) (i := v50) hp56) [37] ?_; clear hs; intro a hs
     refine go_run hs (by rfl) (x_ld (off := 0) (p := ad57.add (v50.toNat * 1)) (v := .int .u8 (ix (eI .u8).d ((l0.take (t13 : Int).toNat).drop (w64 (1 + y10) : Int).toNat) v50)) (hc46 _ (hr0.old hw)) hp56 rfl) [38] ?_; clear hs; intro a hs
     refine go_pvs 3 [39] [(8, .int .u8 (ix (eI .u8).d ((l0.take (t13 : Int).toNat).drop (w64 (1 + y10) : Int).toNat) v50))] hs ?_; clear hs; intro a hs
     obtain ⟨y58, hy58, H⟩ := nm_some H
     replace hs : Slots a 45 [(2, .string v49), (6, .int .i64 t13), (8, .int .u8 y58), (34, .slice (some ad57) ((l0.take (t13 : Int).toNat).drop (w64 (1 + y10) : Int).toNat).length cc44), (35, .int .i64 (((l0.take (t13 : Int).toNat).drop (w64 (1 + y10) : Int).toNat).length : Int)), (36, .int .i64 v50)] := by rw [hy58]; exact hs.kx
     refine go_end (hK55 _ _ ?_)
     refine go_sp [8] [(41, .bool (y58 != 0))] hs ?_; clear hs; intro a hs
     refine go_cond hs (y58 != 0) (fun hc => ?_) fun hc => ?_
     ·replace H := ite_f H (bne_iff_ne.1 hc)
      have hb60 := hc
      rw [hb60] at hs
      refine go_sp [6, 34, 35, 36, 41] [(2, .string (⟨#[]⟩ : ByteArray)), (3, .int .i64 0), (4, .int .i64 6)] hs ?_; clear hs; intro a hs
      refine wp_ret ?_
      refine ib_ret ?_
      refine th_ret ?_
      refine th_ret ?_
      refine ib_ret ?_
      refine th_ret ?_
      rw [← hr48 _ (Option.some.inj H).symm] at HX48
      replace H : some ((⟨#[]⟩ : ByteArray), 0, 6) = some r := HX48
      obtain rfl := Option.some.inj H
      refine ret3 (t1 := 2) (v1 := .string (⟨#[]⟩ : ByteArray)) (t2 := 3) (v2 := .int .i64 0) (t3 := 4) (v3 := .int .i64 6) hs (by kernel_rfl) (by kernel_rfl) (by kernel_rfl) (by kernel_rfl) ?_
      exact ⟨rfl, hw.only 0⟩
     ·replace H := ite_t H (bne_eq_false_iff_eq.1 hc)
      have hb62 := hc
      rw [hb62] at hs
      refine wp_skip ?_
      refine ib_norm ?_
      refine hK54 _ _ ?_
      refine go_plain [41] [(36, .int .i64 (w64 (v50 + 1)))] hs ?_; clear hs; intro a hs
      exact round_end (v49, w64 (v50 + 1)) (Option.some.inj H).symm ⟨hs.kx, hw⟩
    ·replace H := ite_f H (of_decide_eq_false hc)
     have hb63 := hc
     rw [hb63] at hs
     refine wp_exit ?_
     refine th_exit ?_
     refine th_exit ?_
     refine in_block ?_
     rw [← hr48 _ (Option.some.inj H).symm] at HX48
     exact hJ1 v49 _ _ hs.kx hw HX48

/-! rivet/rivetref07.TakeName: function 52 -/
noncomputable def rivetref07_TakeName.j1 (y25 : ByteArray) (y12 : Int) : Option (ByteArray × Int × Int) := some (y25, y12, 0)
noncomputable def rivetref07_TakeName.b38 (y12 : Int) (l0 : List Int) (v39 : Int) : Option (Int ⊕ (Ex (ByteArray × Int × Int) Unit)) := (if v39 < y12 then (if 0 ≤ v39 ∧ v39 < (l0.length : Int) then (if (ix (eI .u8).d l0 v39) = 0 then some (.inl (w64 (v39 + 1))) else some (.inr (.ret ((⟨#[]⟩ : ByteArray), 0, 6)))) else none) else some (.inr (.done ())))
noncomputable def rivetref07_TakeName (l0 : List Int) : Option (ByteArray × Int × Int) := (if (l0.length : Int) = 0 then some ((⟨#[]⟩ : ByteArray), 0, 3) else (if 0 ≤ (0 : Int) ∧ (0 : Int) < (l0.length : Int) then (nm (w64 (ix (eI .u8).d l0 (0 : Int))) fun y10 => (nm (w64 ((w64 ((w64 (y10 + 4)).tdiv 4)) * 4)) fun y12 => (if (l0.length : Int) < y12 then some ((⟨#[]⟩ : ByteArray), 0, 3) else (if 0 ≤ (1 : Int) ∧ (1 : Int) ≤ (w64 (1 + y10)) ∧ (w64 (1 + y10)) ≤ (l0.length : Int) then (nm (strOfNums ((l0.take (w64 (1 + y10) : Int).toNat).drop (1 : Int).toNat)) fun y25 => ((rivetref07_Name y25).bind fun t29 => ((if t29 = true then ((loopO (fun (σ : Int) => rivetref07_TakeName.b38 y12 l0 σ) (w64 (1 + y10))).bind fun e => match e with | .ret x => some x | .done e => rivetref07_TakeName.j1 y25 y12) else some ((⟨#[]⟩ : ByteArray), 0, 9))))) else none)))) else none))
set_option maxRecDepth 100000 in
set_option maxHeartbeats 4000000 in
theorem rivetref07_TakeName.calls (A0 : Option Addr) (c0 : Nat) (l0 : List Int) (r : ByteArray × Int × Int) (w0 : World) (hr0 : Rd w0 (eI .u8) A0 c0 l0) (H : rivetref07_TakeName l0 = some r) :
    Calls Tryd.prog 52 #[.slice A0 l0.length c0] w0 fun e w' => e = .returned (.tuple #[.string r.1, .int .i64 r.2.1, .int .i64 r.2.2]) ∧ St [] w0 w' [] := by
 have hw : St [] w0 w0 [] := St.nil w0
 unfold rivetref07_TakeName at H
 refine go_fn Tryd.func52 rfl Tryd.ntmps52 ?_; intro a hs
 refine go_sp [] [] hs ?_; clear hs; intro a hs
 refine go_seq_k fun K2 hK2 => ?_
 refine go_sp [] [(11, .bool ((l0.length : Int) == 0))] hs ?_; clear hs; intro a hs
 refine go_cond hs ((l0.length : Int) == 0) (fun hc => ?_) fun hc => ?_
 ·replace H := ite_t H (beq_iff_eq.1 hc)
  have hb4 := hc
  rw [hb4] at hs
  refine go_sp [0, 11] [(2, .string (⟨#[]⟩ : ByteArray)), (3, .int .i64 0), (4, .int .i64 3)] hs ?_; clear hs; intro a hs
  refine wp_ret ?_
  refine th_ret ?_
  obtain rfl := Option.some.inj H
  refine ret3 (t1 := 2) (v1 := .string (⟨#[]⟩ : ByteArray)) (t2 := 3) (v2 := .int .i64 0) (t3 := 4) (v3 := .int .i64 3) hs (by kernel_rfl) (by kernel_rfl) (by kernel_rfl) (by kernel_rfl) ?_
  exact ⟨rfl, hw.only 0⟩
 ·replace H := ite_f H (beq_eq_false_iff_ne.1 hc)
  have hb6 := hc
  rw [hb6] at hs
  refine wp_skip ?_
  refine hK2 _ _ ?_
  refine go_sk fun K7 hK7 => ?_
  refine go_pvs 1 [11] [(12, .slice A0 l0.length c0)] hs ?_; clear hs; intro a hs
  obtain ⟨hp8, H⟩ := ite_only H
  obtain ⟨ad9, rfl⟩ := (hr0.old hw).some hp8.1 hp8.2
  refine go_run hs (by rfl) (x_idx (T := 5) (sz := 1) (a := ad9) (n := l0.length) (cap := c0) (k := .i64) (i := (0 : Int)) hp8) [12] ?_; clear hs; intro a hs
  refine go_run hs (by rfl) (x_ld (off := 0) (p := ad9.add (((0 : Int) : Int).toNat * 1)) (v := .int .u8 (ix (eI .u8).d l0 (0 : Int))) (hr0.old hw) hp8 rfl) [13] ?_; clear hs; intro a hs
  refine go_pvs 5 [14] [(5, .int .i64 (w64 (ix (eI .u8).d l0 (0 : Int))))] hs ?_; clear hs; intro a hs
  obtain ⟨y10, hy10, H⟩ := nm_some H
  replace hs : Slots a 46 [(0, .slice (some ad9) l0.length c0), (5, .int .i64 y10)] := by rw [hy10]; exact hs.kx
  refine go_end (hK7 _ _ ?_)
  refine go_sp [] [(6, .int .i64 (w64 ((w64 ((w64 (y10 + 4)).tdiv 4)) * 4)))] hs ?_; clear hs; intro a hs
  obtain ⟨y12, hy12, H⟩ := nm_some H
  replace hs : Slots a 46 [(0, .slice (some ad9) l0.length c0), (5, .int .i64 y10), (6, .int .i64 y12)] := by rw [hy12]; exact hs.kx
  refine go_seq_k fun K13 hK13 => ?_
  refine go_sp [] [(23, .bool (decide ((l0.length : Int) < y12)))] hs ?_; clear hs; intro a hs
  refine go_cond hs (decide ((l0.length : Int) < y12)) (fun hc => ?_) fun hc => ?_
  ·replace H := ite_t H (of_decide_eq_true hc)
   have hb15 := hc
   rw [hb15] at hs
   refine go_sp [0, 5, 6, 23] [(2, .string (⟨#[]⟩ : ByteArray)), (3, .int .i64 0), (4, .int .i64 3)] hs ?_; clear hs; intro a hs
   refine wp_ret ?_
   refine th_ret ?_
   obtain rfl := Option.some.inj H
   refine ret3 (t1 := 2) (v1 := .string (⟨#[]⟩ : ByteArray)) (t2 := 3) (v2 := .int .i64 0) (t3 := 4) (v3 := .int .i64 3) hs (by kernel_rfl) (by kernel_rfl) (by kernel_rfl) (by kernel_rfl) ?_
   exact ⟨rfl, hw.only 0⟩
  ·replace H := ite_f H (of_decide_eq_false hc)
   have hb17 := hc
   rw [hb17] at hs
   refine wp_skip ?_
   refine hK13 _ _ ?_
   refine go_sk fun K18 hK18 => ?_
   refine go_pvs 3 [23] [(24, .slice (some ad9) l0.length c0), (26, .int .i64 (w64 (1 + y10)))] hs ?_; clear hs; intro a hs
   obtain ⟨hp19, H⟩ := ite_only H
   obtain ⟨Aa20, cc21, hx22, hc23⟩ := c_lohi (P := Tryd.prog) (ty := 32) (E := (eI .u8)) (T := 5) (t := 32) (x := (Operand.tmp 24)) (y := (Operand.const (Value.int IntKind.i64 1))) (k := .i64) (y' := (Operand.tmp 26)) (k' := .i64) hs (by kernel_rfl) (by kernel_rfl) (hr0.old hw) (by kernel_rfl) (by kernel_rfl) (by kernel_rfl) hp19.1 hp19.2.1 hp19.2.2
   refine go_run hs (by rfl) hx22 [24, 26] ?_; clear hs; intro a hs
   refine go_run hs (by rfl) (x_conv (e := 5) (l := (l0.take (w64 (1 + y10) : Int).toNat).drop (1 : Int).toNat) (hc23 _ (hr0.old hw)) (by kernel_rfl) (by kernel_rfl) (by kernel_rfl) (by kernel_rfl)) [27] ?_; clear hs; intro a hs
   refine go_pvs 6 [28] [(7, .string (strOfNums ((l0.take (w64 (1 + y10) : Int).toNat).drop (1 : Int).toNat)))] hs ?_; clear hs; intro a hs
   obtain ⟨y25, hy25, H⟩ := nm_some H
   replace hs : Slots a 46 [(0, .slice (some ad9) l0.length c0), (5, .int .i64 y10), (6, .int .i64 y12), (7, .string y25)] := by rw [hy25]; exact hs.kx
   refine go_end (hK18 _ _ ?_)
   refine go_seq_k fun K26 hK26 => ?_
   refine go_sk fun K27 hK27 => ?_
   refine go_pvs 1 [] [(29, .string y25)] hs ?_; clear hs; intro a hs
   obtain ⟨t29, hx30, H⟩ := bind_some H
   refine go_call hs (by rfl) (rivetref07_Name.calls y25 t29 _ hx30) ?_
   rintro e wd31 ⟨rfl, hw32⟩
   refine ⟨_, rfl, ?_⟩
   replace hw := hw.call hw32
   clear hs; intro a hs; replace hs := hs.rms [29]
   refine go_pvs 3 [30] [(31, .bool (!t29))] hs ?_; clear hs; intro a hs
   refine go_end (hK27 _ _ ?_)
   refine go_cond hs (!t29) (fun hc => ?_) fun hc => ?_
   ·replace H := ite_f H (ff (nt hc))
    have hb33 := hc
    rw [hb33] at hs
    refine go_sp [0, 5, 6, 7, 31] [(2, .string (⟨#[]⟩ : ByteArray)), (3, .int .i64 0), (4, .int .i64 9)] hs ?_; clear hs; intro a hs
    refine wp_ret ?_
    refine th_ret ?_
    obtain rfl := Option.some.inj H
    refine ret3 (t1 := 2) (v1 := .string (⟨#[]⟩ : ByteArray)) (t2 := 3) (v2 := .int .i64 0) (t3 := 4) (v3 := .int .i64 9) hs (by kernel_rfl) (by kernel_rfl) (by kernel_rfl) (by kernel_rfl) ?_
    exact ⟨rfl, hw.only 0⟩
   ·replace H := ite_t H (nf hc)
    have hb35 := hc
    rw [hb35] at hs
    refine wp_skip ?_
    refine hK26 _ _ ?_
    refine go_seq_k fun K36 hK36 => ?_
    refine go_sp [5, 31] [(8, .int .i64 (w64 (1 + y10)))] hs ?_; clear hs; intro a hs
    refine wp_block ?_
    obtain ⟨e38, hl38, HX38⟩ := bind_some H
    have hJ1 : ∀ (a : Act) (w : World), Slots a 46 [(6, .int .i64 y12), (7, .string y25)] → St [] w0 w [] → rivetref07_TakeName.j1 y25 y12 = some r → K36 a w := by
     intro a w hs hw H
     unfold rivetref07_TakeName.j1 at H
     refine hK36 _ _ ?_
     refine go_sp [6, 7] [(2, .string y25), (3, .int .i64 y12), (4, .int .i64 0)] hs ?_; clear hs; intro a hs
     refine wp_ret ?_
     obtain rfl := Option.some.inj H
     refine ret3 (t1 := 2) (v1 := .string y25) (t2 := 3) (v2 := .int .i64 y12) (t3 := 4) (v3 := .int .i64 0) hs (by kernel_rfl) (by kernel_rfl) (by kernel_rfl) (by kernel_rfl) ?_
     exact ⟨rfl, hw.only 0⟩
    clear H
    refine go_loop (σ := Int) (fun σ a w => Slots a 46 [(0, .slice (some ad9) l0.length c0), (6, .int .i64 y12), (7, .string y25), (8, .int .i64 σ)] ∧ St [] w0 w []) hl38 (by exact ⟨hs.kx, hw⟩) ?_
    rintro v39 a w ⟨hs, hw⟩ o H hr38
    replace hs : Slots a 46 [(0, .slice (some ad9) l0.length c0), (6, .int .i64 y12), (7, .string y25), (8, .int .i64 v39)] := hs
    replace hw : St [] w0 w [] := hw
    replace H : rivetref07_TakeName.b38 y12 l0 v39 = some o := H
    unfold rivetref07_TakeName.b38 at H
    refine go_seq_k fun K40 hK40 => ?_
    refine go_sp [] [(36, .bool (decide (v39 < y12)))] hs ?_; clear hs; intro a hs
    refine go_cond hs (decide (v39 < y12)) (fun hc => ?_) fun hc => ?_
    ·replace H := ite_t H (of_decide_eq_true hc)
     have hb42 := hc
     rw [hb42] at hs
     refine wp_skip ?_
     refine hK40 _ _ ?_
     refine go_seq_k fun K43 hK43 => ?_
     refine wp_block ?_
     refine go_sk fun K44 hK44 => ?_
     refine go_pvs 2 [36] [(39, .slice (some ad9) l0.length c0), (40, .int .i64 v39)] hs ?_; clear hs; intro a hs
     obtain ⟨hp45, H⟩ := ite_only H
     refine go_run hs (by rfl) (x_idx (T := 5) (sz := 1) (a := ad9) (n := l0.length) (cap := c0) (k := .i64) (i := v39) hp45) [39, 40] ?_; clear hs; intro a hs
     refine go_run hs (by rfl) (x_ld (off := 0) (p := ad9.add (v39.toNat * 1)) (v := .int .u8 (ix (eI .u8).d l0 v39)) (hr0.old hw) hp45 rfl) [41] ?_; clear hs; intro a hs
     refine go_pvs 5 [42] [(43, .bool ((ix (eI .u8).d l0 v39) != 0))] hs ?_; clear hs; intro a hs
     refine go_end (hK44 _ _ ?_)
     refine go_cond hs ((ix (eI .u8).d l0 v39) != 0) (fun hc => ?_) fun hc => ?_
     ·replace H := ite_f H (bne_iff_ne.1 hc)
      have hb46 := hc
      rw [hb46] at hs
      refine go_sp [0, 6, 7, 8, 43] [(2, .string (⟨#[]⟩ : ByteArray)), (3, .int .i64 0), (4, .int .i64 6)] hs ?_; clear hs; intro a hs
      refine wp_ret ?_
      refine ib_ret ?_
      refine th_ret ?_
      refine th_ret ?_
      refine ib_ret ?_
      refine th_ret ?_
      rw [← hr38 _ (Option.some.inj H).symm] at HX38
      replace H : some ((⟨#[]⟩ : ByteArray), 0, 6) = some r := HX38
      obtain rfl := Option.some.inj H
      refine ret3 (t1 := 2) (v1 := .string (⟨#[]⟩ : ByteArray)) (t2 := 3) (v2 := .int .i64 0) (t3 := 4) (v3 := .int .i64 6) hs (by kernel_rfl) (by kernel_rfl) (by kernel_rfl) (by kernel_rfl) ?_
      exact ⟨rfl, hw.only 0⟩
     ·replace H := ite_t H (bne_eq_false_iff_eq.1 hc)
      have hb48 := hc
      rw [hb48] at hs
      refine wp_skip ?_
      refine ib_norm ?_
      refine hK43 _ _ ?_
      refine go_plain [43] [(8, .int .i64 (w64 (v39 + 1)))] hs ?_; clear hs; intro a hs
      exact round_end (w64 (v39 + 1)) (Option.some.inj H).symm ⟨hs.kx, hw⟩
    ·replace H := ite_f H (of_decide_eq_false hc)
     have hb49 := hc
     rw [hb49] at hs
     refine wp_exit ?_
     refine th_exit ?_
     refine th_exit ?_
     refine in_block ?_
     rw [← hr38 _ (Option.some.inj H).symm] at HX38
     exact hJ1 _ _ hs.kx hw HX38

/-! rivet/le.Take: function 63 -/
noncomputable def le_Take.b14 (a1 : Int) (l0 : List Int) (l15 : List Int) (v18 : Int) : Option ((List Int) × Int ⊕ (List Int)) := (if v18 < a1 then (if 0 ≤ (w64 (4 * v18)) ∧ (w64 (4 * v18)) ≤ (w64 ((w64 (4 * v18)) + 4)) ∧ (w64 ((w64 (4 * v18)) + 4)) ≤ (l0.length : Int) then (if 0 ≤ (0 : Int) ∧ (0 : Int) < (((l0.take (w64 ((w64 (4 * v18)) + 4) : Int).toNat).drop (w64 (4 * v18) : Int).toNat).length : Int) then (if 0 ≤ (1 : Int) ∧ (1 : Int) < (((l0.take (w64 ((w64 (4 * v18)) + 4) : Int).toNat).drop (w64 (4 * v18) : Int).toNat).length : Int) then (if 0 ≤ (2 : Int) ∧ (2 : Int) < (((l0.take (w64 ((w64 (4 * v18)) + 4) : Int).toNat).drop (w64 (4 * v18) : Int).toNat).length : Int) then (if 0 ≤ (3 : Int) ∧ (3 : Int) < (((l0.take (w64 ((w64 (4 * v18)) + 4) : Int).toNat).drop (w64 (4 * v18) : Int).toNat).length : Int) then (if l15.length + ([bor .u32 (bor .u32 (bor .u32 (wu32 (ix (eI .u8).d ((l0.take (w64 ((w64 (4 * v18)) + 4) : Int).toNat).drop (w64 (4 * v18) : Int).toNat) (0 : Int))) (wu32 ((wu32 (ix (eI .u8).d ((l0.take (w64 ((w64 (4 * v18)) + 4) : Int).toNat).drop (w64 (4 * v18) : Int).toNat) (1 : Int))) * 2 ^ 8))) (wu32 ((wu32 (ix (eI .u8).d ((l0.take (w64 ((w64 (4 * v18)) + 4) : Int).toNat).drop (w64 (4 * v18) : Int).toNat) (2 : Int))) * 2 ^ 16))) (wu32 ((wu32 (ix (eI .u8).d ((l0.take (w64 ((w64 (4 * v18)) + 4) : Int).toNat).drop (w64 (4 * v18) : Int).toNat) (3 : Int))) * 2 ^ 24))] : List Int).length ≤ 35184372088832 then some (.inl (l15 ++ ([bor .u32 (bor .u32 (bor .u32 (wu32 (ix (eI .u8).d ((l0.take (w64 ((w64 (4 * v18)) + 4) : Int).toNat).drop (w64 (4 * v18) : Int).toNat) (0 : Int))) (wu32 ((wu32 (ix (eI .u8).d ((l0.take (w64 ((w64 (4 * v18)) + 4) : Int).toNat).drop (w64 (4 * v18) : Int).toNat) (1 : Int))) * 2 ^ 8))) (wu32 ((wu32 (ix (eI .u8).d ((l0.take (w64 ((w64 (4 * v18)) + 4) : Int).toNat).drop (w64 (4 * v18) : Int).toNat) (2 : Int))) * 2 ^ 16))) (wu32 ((wu32 (ix (eI .u8).d ((l0.take (w64 ((w64 (4 * v18)) + 4) : Int).toNat).drop (w64 (4 * v18) : Int).toNat) (3 : Int))) * 2 ^ 24))] : List Int), w64 (v18 + 1))) else none) else none) else none) else none) else none) else none) else some (.inr l15))
noncomputable def le_Take.j3 (l48 : List Int) : Option ((List Int) × Int) := some (l48, 0)
noncomputable def le_Take.j2 (a1 : Int) (l0 : List Int) : Option ((List Int) × Int) := ((loopO (fun (σ : (List Int) × Int) => le_Take.b14 a1 l0 σ.1 σ.2) (([] : List Int), 0)).bind fun e => le_Take.j3 e)
noncomputable def le_Take.j1 (a1 : Int) (l0 : List Int) (v5 : Bool) : Option ((List Int) × Int) := (if v5 = true then some (([] : List Int), 3) else le_Take.j2 a1 l0)
noncomputable def le_Take (l0 : List Int) (a1 : Int) : Option ((List Int) × Int) := (if a1 < 0 then le_Take.j1 a1 l0 true else le_Take.j1 a1 l0 (decide ((w64 ((l0.length : Int).tdiv 4)) < a1)))
set_option maxRecDepth 100000 in
set_option maxHeartbeats 4000000 in
theorem le_Take.calls (A0 : Option Addr) (c0 : Nat) (l0 : List Int) (a1 : Int) (r : (List Int) × Int) (w0 : World) (hr0 : Rd w0 (eI .u8) A0 c0 l0) (H : le_Take l0 a1 = some r) :
    Calls Tryd.prog 63 #[.slice A0 l0.length c0, .int .i64 a1] w0 fun e w' => ∃ A_0 c_0, e = .returned (.tuple #[.slice A_0 r.1.length c_0, .int .i64 r.2]) ∧ St [] w0 w' [own 37 (eI .u32) A_0 c_0 r.1] := by
 have hw : St [] w0 w0 [] := St.nil w0
 unfold le_Take at H
 refine go_fn Tryd.func63 rfl Tryd.ntmps63 ?_; intro a hs
 refine go_sp [] [] hs ?_; clear hs; intro a hs
 refine go_seq_k fun K2 hK2 => ?_
 have hJ2 : ∀ (a : Act) (w : World), Slots a 56 [(0, .slice A0 l0.length c0), (1, .int .i64 a1)] → St [] w0 w [] → le_Take.j2 a1 l0 = some r → K2 a w := by
  intro a w hs hw H
  unfold le_Take.j2 at H
  refine hK2 _ _ ?_
  refine go_sp [] [(6, .slice none 0 0)] hs ?_; clear hs; intro a hs
  refine go_seq_k fun K11 hK11 => ?_
  refine go_sp [1] [(18, .int .i64 a1), (19, .int .i64 0)] hs ?_; clear hs; intro a hs
  refine wp_block ?_
  replace hw := St.own_nil hw 37 (eI .u32)
  obtain ⟨e14, hl14, HX14⟩ := bind_some H
  have hJ3 : ∀ (Aa49 : Option Addr) (cc50 : Nat) (l48 : List Int) (a : Act) (w : World), Slots a 56 [(6, .slice Aa49 l48.length cc50)] → St [] w0 w [own 37 (eI .u32) Aa49 cc50 l48] → le_Take.j3 l48 = some r → K11 a w := by
   intro Aa49 cc50 l48 a w hs hw H
   unfold le_Take.j3 at H
   refine hK11 _ _ ?_
   refine go_sp [6] [(4, .slice Aa49 l48.length cc50), (5, .int .i64 0)] hs ?_; clear hs; intro a hs
   refine wp_ret ?_
   obtain rfl := Option.some.inj H
   refine ret2 (t1 := 4) (v1 := .slice Aa49 l48.length cc50) (t2 := 5) (v2 := .int .i64 0) hs (by kernel_rfl) (by kernel_rfl) (by kernel_rfl) ?_
   exact ⟨Aa49, cc50, rfl, hw.only 1⟩
  clear H
  refine go_loop (σ := (List Int) × Int) (fun σ a w => ∃ Aa16, ∃ cc17, Slots a 56 [(0, .slice A0 l0.length c0), (6, .slice Aa16 σ.1.length cc17), (18, .int .i64 a1), (19, .int .i64 σ.2)] ∧ St [] w0 w [own 37 (eI .u32) Aa16 cc17 σ.1]) hl14 (by exact ⟨none, 0, hs.kx, hw⟩) ?_
  rintro ⟨l15, v18⟩ a w ⟨Aa16, cc17, hs, hw⟩ o H hr14
  replace hs : Slots a 56 [(0, .slice A0 l0.length c0), (6, .slice Aa16 l15.length cc17), (18, .int .i64 a1), (19, .int .i64 v18)] := hs
  replace hw : St [] w0 w [own 37 (eI .u32) Aa16 cc17 l15] := hw
  replace H : le_Take.b14 a1 l0 l15 v18 = some o := H
  unfold le_Take.b14 at H
  refine go_sp [] [(20, .bool (decide (v18 < a1)))] hs ?_; clear hs; intro a hs
  refine go_seq_k fun K20 hK20 => ?_
  refine go_cond hs (decide (v18 < a1)) (fun hc => ?_) fun hc => ?_
  ·replace H := ite_t H (of_decide_eq_true hc)
   have hb21 := hc
   rw [hb21] at hs
   refine wp_skip ?_
   refine hK20 _ _ ?_
   refine go_seq_k fun K22 hK22 => ?_
   refine wp_block ?_
   refine go_sp [20] [(7, .int .i64 v18)] hs ?_; clear hs; intro a hs
   refine go_sk fun K24 hK24 => ?_
   refine go_pvs 6 [7] [(22, .slice A0 l0.length c0), (24, .int .i64 (w64 (4 * v18))), (27, .int .i64 (w64 ((w64 (4 * v18)) + 4)))] hs ?_; clear hs; intro a hs
   obtain ⟨hp25, H⟩ := ite_only H
   obtain ⟨Aa26, cc27, hx28, hc29⟩ := c_lohi (P := Tryd.prog) (ty := 32) (E := (eI .u8)) (T := 5) (t := 32) (x := (Operand.tmp 22)) (y := (Operand.tmp 24)) (k := .i64) (y' := (Operand.tmp 27)) (k' := .i64) hs (by kernel_rfl) (by kernel_rfl) (hr0.old hw) (by kernel_rfl) (by kernel_rfl) (by kernel_rfl) hp25.1 hp25.2.1 hp25.2.2
   refine go_run hs (by rfl) hx28 [22, 24, 27] ?_; clear hs; intro a hs
   refine go_pvs 8 [28] [(8, .slice Aa26 ((l0.take (w64 ((w64 (4 * v18)) + 4) : Int).toNat).drop (w64 (4 * v18) : Int).toNat).length cc27)] hs ?_; clear hs; intro a hs
   refine go_end (hK24 _ _ ?_)
   refine d_region [24] [(true, [0, 1, 2, 3, 4, 5, 6, 7, 8, 9, 10, 11, 12, 13, 14, 15, 16, 17, 18, 19, 20, 21, 22], 23), (true, [], 24)] [25] (by kernel_rfl) (by kernel_rfl) (fun c a d v w h => by cases d <;> exact h) ?_
   refine d_seg ?_
   refine c_pvs [0, 1] [2, 3, 4, 5, 6, 7, 8, 9, 10, 11, 12, 13, 14, 15, 16, 17, 18, 19, 20, 21, 22] [6] [(29, .slice Aa16 l15.length cc17), (30, .slice Aa26 ((l0.take (w64 ((w64 (4 * v18)) + 4) : Int).toNat).drop (w64 (4 * v18) : Int).toNat).length cc27)] hs ?_; clear hs; intro a hs
   obtain ⟨hp31, H⟩ := ite_only H
   obtain ⟨ad32, rfl⟩ := (hc29 _ (hr0.old hw)).some hp31.1 hp31.2
   refine d_run hs (by rfl) (fun wx hbx => (x_idx (T := 5) (sz := 1) (a := ad32) (n := ((l0.take (w64 ((w64 (4 * v18)) + 4) : Int).toNat).drop (w64 (4 * v18) : Int).toNat).length) (cap := cc27) (k := .i64) (i := (0 : Int)) hp31)) [30] ?_; clear hs; intro a hs
   refine d_run hs (by rfl) (fun wx hbx => (x_ld (off := 0) (p := ad32.add (((0 : Int) : Int).toNat * 1)) (v := .int .u8 (ix (eI .u8).d ((l0.take (w64 ((w64 (4 * v18)) + 4) : Int).toNat).drop (w64 (4 * v18) : Int).toNat) (0 : Int))) (Rd.bn (hc29 _ (hr0.old hw)) hbx) hp31 rfl)) [31] ?_; clear hs; intro a hs
   refine c_pvs [4, 5] [6, 7, 8, 9, 10, 11, 12, 13, 14, 15, 16, 17, 18, 19, 20, 21, 22] [32] [(33, .int .u32 (wu32 (ix (eI .u8).d ((l0.take (w64 ((w64 (4 * v18)) + 4) : Int).toNat).drop (w64 (4 * v18) : Int).toNat) (0 : Int)))), (34, .slice (some ad32) ((l0.take (w64 ((w64 (4 * v18)) + 4) : Int).toNat).drop (w64 (4 * v18) : Int).toNat).length cc27)] hs ?_; clear hs; intro a hs
   obtain ⟨hp33, H⟩ := ite_only H
   refine d_run hs (by rfl) (fun wx hbx => (x_idx (T := 5) (sz := 1) (a := ad32) (n := ((l0.take (w64 ((w64 (4 * v18)) + 4) : Int).toNat).drop (w64 (4 * v18) : Int).toNat).length) (cap := cc27) (k := .i64) (i := (1 : Int)) hp33)) [34] ?_; clear hs; intro a hs
   refine d_run hs (by rfl) (fun wx hbx => (x_ld (off := 0) (p := ad32.add (((1 : Int) : Int).toNat * 1)) (v := .int .u8 (ix (eI .u8).d ((l0.take (w64 ((w64 (4 * v18)) + 4) : Int).toNat).drop (w64 (4 * v18) : Int).toNat) (1 : Int))) (Rd.bn (hc29 _ (hr0.old hw)) hbx) hp33 rfl)) [35] ?_; clear hs; intro a hs
   refine c_pvs [8, 9, 10, 11] [12, 13, 14, 15, 16, 17, 18, 19, 20, 21, 22] [33, 36] [(39, .int .u32 (bor .u32 (wu32 (ix (eI .u8).d ((l0.take (w64 ((w64 (4 * v18)) + 4) : Int).toNat).drop (w64 (4 * v18) : Int).toNat) (0 : Int))) (wu32 ((wu32 (ix (eI .u8).d ((l0.take (w64 ((w64 (4 * v18)) + 4) : Int).toNat).drop (w64 (4 * v18) : Int).toNat) (1 : Int))) * 2 ^ 8)))), (40, .slice (some ad32) ((l0.take (w64 ((w64 (4 * v18)) + 4) : Int).toNat).drop (w64 (4 * v18) : Int).toNat).length cc27)] hs ?_; clear hs; intro a hs
   obtain ⟨hp34, H⟩ := ite_only H
   refine d_run hs (by rfl) (fun wx hbx => (x_idx (T := 5) (sz := 1) (a := ad32) (n := ((l0.take (w64 ((w64 (4 * v18)) + 4) : Int).toNat).drop (w64 (4 * v18) : Int).toNat).length) (cap := cc27) (k := .i64) (i := (2 : Int)) hp34)) [40] ?_; clear hs; intro a hs
   refine d_run hs (by rfl) (fun wx hbx => (x_ld (off := 0) (p := ad32.add (((2 : Int) : Int).toNat * 1)) (v := .int .u8 (ix (eI .u8).d ((l0.take (w64 ((w64 (4 * v18)) + 4) : Int).toNat).drop (w64 (4 * v18) : Int).toNat) (2 : Int))) (Rd.bn (hc29 _ (hr0.old hw)) hbx) hp34 rfl)) [41] ?_; clear hs; intro a hs
   refine c_pvs [14, 15, 16, 17] [18, 19, 20, 21, 22] [8, 39, 42] [(45, .int .u32 (bor .u32 (bor .u32 (wu32 (ix (eI .u8).d ((l0.take (w64 ((w64 (4 * v18)) + 4) : Int).toNat).drop (w64 (4 * v18) : Int).toNat) (0 : Int))) (wu32 ((wu32 (ix (eI .u8).d ((l0.take (w64 ((w64 (4 * v18)) + 4) : Int).toNat).drop (w64 (4 * v18) : Int).toNat) (1 : Int))) * 2 ^ 8))) (wu32 ((wu32 (ix (eI .u8).d ((l0.take (w64 ((w64 (4 * v18)) + 4) : Int).toNat).drop (w64 (4 * v18) : Int).toNat) (2 : Int))) * 2 ^ 16)))), (46, .slice (some ad32) ((l0.take (w64 ((w64 (4 * v18)) + 4) : Int).toNat).drop (w64 (4 * v18) : Int).toNat).length cc27)] hs ?_; clear hs; intro a hs
   obtain ⟨hp35, H⟩ := ite_only H
   refine d_run hs (by rfl) (fun wx hbx => (x_idx (T := 5) (sz := 1) (a := ad32) (n := ((l0.take (w64 ((w64 (4 * v18)) + 4) : Int).toNat).drop (w64 (4 * v18) : Int).toNat).length) (cap := cc27) (k := .i64) (i := (3 : Int)) hp35)) [46] ?_; clear hs; intro a hs
   refine d_run hs (by rfl) (fun wx hbx => (x_ld (off := 0) (p := ad32.add (((3 : Int) : Int).toNat * 1)) (v := .int .u8 (ix (eI .u8).d ((l0.take (w64 ((w64 (4 * v18)) + 4) : Int).toNat).drop (w64 (4 * v18) : Int).toNat) (3 : Int))) (Rd.bn (hc29 _ (hr0.old hw)) hbx) hp35 rfl)) [47] ?_; clear hs; intro a hs
   refine c_pvs [20, 21, 22] [] [45, 48] [(51, .int .u32 (bor .u32 (bor .u32 (bor .u32 (wu32 (ix (eI .u8).d ((l0.take (w64 ((w64 (4 * v18)) + 4) : Int).toNat).drop (w64 (4 * v18) : Int).toNat) (0 : Int))) (wu32 ((wu32 (ix (eI .u8).d ((l0.take (w64 ((w64 (4 * v18)) + 4) : Int).toNat).drop (w64 (4 * v18) : Int).toNat) (1 : Int))) * 2 ^ 8))) (wu32 ((wu32 (ix (eI .u8).d ((l0.take (w64 ((w64 (4 * v18)) + 4) : Int).toNat).drop (w64 (4 * v18) : Int).toNat) (2 : Int))) * 2 ^ 16))) (wu32 ((wu32 (ix (eI .u8).d ((l0.take (w64 ((w64 (4 * v18)) + 4) : Int).toNat).drop (w64 (4 * v18) : Int).toNat) (3 : Int))) * 2 ^ 24))))] hs ?_; clear hs; intro a hs
   refine c_end ?_
   intro wq hbq
   replace hw := hw.behind hbq
   have hbc := Below.refl wq.heap.size wq
   obtain ⟨Aa36, cc37, wd38, hx39, hwn⟩ := n_lit (P := Tryd.prog) (t := 22) (ty := 22) (T := 37) (len := 1) (parts := #[(0, (Operand.tmp 51))]) (z := .int .u32 0) (bytes := 4) (cells := #[.int .u32 (bor .u32 (bor .u32 (bor .u32 (wu32 (ix (eI .u8).d ((l0.take (w64 ((w64 (4 * v18)) + 4) : Int).toNat).drop (w64 (4 * v18) : Int).toNat) (0 : Int))) (wu32 ((wu32 (ix (eI .u8).d ((l0.take (w64 ((w64 (4 * v18)) + 4) : Int).toNat).drop (w64 (4 * v18) : Int).toNat) (1 : Int))) * 2 ^ 8))) (wu32 ((wu32 (ix (eI .u8).d ((l0.take (w64 ((w64 (4 * v18)) + 4) : Int).toNat).drop (w64 (4 * v18) : Int).toNat) (2 : Int))) * 2 ^ 16))) (wu32 ((wu32 (ix (eI .u8).d ((l0.take (w64 ((w64 (4 * v18)) + 4) : Int).toNat).drop (w64 (4 * v18) : Int).toNat) (3 : Int))) * 2 ^ 24)))]) hs (nil_of hw) (eI .u32) ([bor .u32 (bor .u32 (bor .u32 (wu32 (ix (eI .u8).d ((l0.take (w64 ((w64 (4 * v18)) + 4) : Int).toNat).drop (w64 (4 * v18) : Int).toNat) (0 : Int))) (wu32 ((wu32 (ix (eI .u8).d ((l0.take (w64 ((w64 (4 * v18)) + 4) : Int).toNat).drop (w64 (4 * v18) : Int).toNat) (1 : Int))) * 2 ^ 8))) (wu32 ((wu32 (ix (eI .u8).d ((l0.take (w64 ((w64 (4 * v18)) + 4) : Int).toNat).drop (w64 (4 * v18) : Int).toNat) (2 : Int))) * 2 ^ 16))) (wu32 ((wu32 (ix (eI .u8).d ((l0.take (w64 ((w64 (4 * v18)) + 4) : Int).toNat).drop (w64 (4 * v18) : Int).toNat) (3 : Int))) * 2 ^ 24))] : List Int) (by kernel_rfl) (by kernel_rfl) (by kernel_rfl) (by kernel_rfl) (by kernel_rfl) (by kernel_rfl) (by kernel_rfl)
   replace hbc := hwn.below
   replace hw := hw.call hwn
   clear hwn
   refine p_run hs (by rfl) hx39 [51] ?_; clear hs; intro a hs
   refine c_done ⟨.inr (bn_of hbq hbc), ?_⟩
   clear hbc hbq
   refine d_seg ?_
   refine c_end ?_
   intro wq hbq
   replace hw := hw.behind hbq
   obtain ⟨hp41, H⟩ := ite_only H
   have hsrc46 : Src Tryd.prog (eI .u32).sz 22 (.slice Aa36 ([bor .u32 (bor .u32 (bor .u32 (wu32 (ix (eI .u8).d ((l0.take (w64 ((w64 (4 * v18)) + 4) : Int).toNat).drop (w64 (4 * v18) : Int).toNat) (0 : Int))) (wu32 ((wu32 (ix (eI .u8).d ((l0.take (w64 ((w64 (4 * v18)) + 4) : Int).toNat).drop (w64 (4 * v18) : Int).toNat) (1 : Int))) * 2 ^ 8))) (wu32 ((wu32 (ix (eI .u8).d ((l0.take (w64 ((w64 (4 * v18)) + 4) : Int).toNat).drop (w64 (4 * v18) : Int).toNat) (2 : Int))) * 2 ^ 16))) (wu32 ((wu32 (ix (eI .u8).d ((l0.take (w64 ((w64 (4 * v18)) + 4) : Int).toNat).drop (w64 (4 * v18) : Int).toNat) (3 : Int))) * 2 ^ 24))] : List Int).length cc37) ([bor .u32 (bor .u32 (bor .u32 (wu32 (ix (eI .u8).d ((l0.take (w64 ((w64 (4 * v18)) + 4) : Int).toNat).drop (w64 (4 * v18) : Int).toNat) (0 : Int))) (wu32 ((wu32 (ix (eI .u8).d ((l0.take (w64 ((w64 (4 * v18)) + 4) : Int).toNat).drop (w64 (4 * v18) : Int).toNat) (1 : Int))) * 2 ^ 8))) (wu32 ((wu32 (ix (eI .u8).d ((l0.take (w64 ((w64 (4 * v18)) + 4) : Int).toNat).drop (w64 (4 * v18) : Int).toNat) (2 : Int))) * 2 ^ 16))) (wu32 ((wu32 (ix (eI .u8).d ((l0.take (w64 ((w64 (4 * v18)) + 4) : Int).toNat).drop (w64 (4 * v18) : Int).toNat) (3 : Int))) * 2 ^ 24))] : List Int).length (([bor .u32 (bor .u32 (bor .u32 (wu32 (ix (eI .u8).d ((l0.take (w64 ((w64 (4 * v18)) + 4) : Int).toNat).drop (w64 (4 * v18) : Int).toNat) (0 : Int))) (wu32 ((wu32 (ix (eI .u8).d ((l0.take (w64 ((w64 (4 * v18)) + 4) : Int).toNat).drop (w64 (4 * v18) : Int).toNat) (1 : Int))) * 2 ^ 8))) (wu32 ((wu32 (ix (eI .u8).d ((l0.take (w64 ((w64 (4 * v18)) + 4) : Int).toNat).drop (w64 (4 * v18) : Int).toNat) (2 : Int))) * 2 ^ 16))) (wu32 ((wu32 (ix (eI .u8).d ((l0.take (w64 ((w64 (4 * v18)) + 4) : Int).toNat).drop (w64 (4 * v18) : Int).toNat) (3 : Int))) * 2 ^ 24))] : List Int).flatMap (eI .u32).enc) _ := (Src.of_rd (E := (eI .u32)) (e' := 37) (by kernel_rfl) (Rd.of_own (hw.up 0)))
   replace hw := hw.up 1
   obtain ⟨Aa42, cc43, wd44, hx45, hw⟩ := x_append (P := Tryd.prog) (t := 22) (tx := 22) (ty := 22) (x := (Operand.tmp 29)) (y := (Operand.tmp 52)) (z := .int .u32 0) (bytes := 4) (l2 := ([bor .u32 (bor .u32 (bor .u32 (wu32 (ix (eI .u8).d ((l0.take (w64 ((w64 (4 * v18)) + 4) : Int).toNat).drop (w64 (4 * v18) : Int).toNat) (0 : Int))) (wu32 ((wu32 (ix (eI .u8).d ((l0.take (w64 ((w64 (4 * v18)) + 4) : Int).toNat).drop (w64 (4 * v18) : Int).toNat) (1 : Int))) * 2 ^ 8))) (wu32 ((wu32 (ix (eI .u8).d ((l0.take (w64 ((w64 (4 * v18)) + 4) : Int).toNat).drop (w64 (4 * v18) : Int).toNat) (2 : Int))) * 2 ^ 16))) (wu32 ((wu32 (ix (eI .u8).d ((l0.take (w64 ((w64 (4 * v18)) + 4) : Int).toNat).drop (w64 (4 * v18) : Int).toNat) (3 : Int))) * 2 ^ 24))] : List Int)) hs hw (by kernel_rfl) (by kernel_rfl) (by kernel_rfl) (by kernel_rfl) (by kernel_rfl) hsrc46 (by omega) (by omega)
   refine p_run hs (by rfl) hx45 [29, 52] ?_; clear hs; intro a hs
   refine c_done ⟨.inl (by kernel_rfl), ?_⟩
   clear hbq
   refine d_last ?_
   refine c_pvs [25] [] [53] [(6, .slice Aa42 (l15 ++ ([bor .u32 (bor .u32 (bor .u32 (wu32 (ix (eI .u8).d ((l0.take (w64 ((w64 (4 * v18)) + 4) : Int).toNat).drop (w64 (4 * v18) : Int).toNat) (0 : Int))) (wu32 ((wu32 (ix (eI .u8).d ((l0.take (w64 ((w64 (4 * v18)) + 4) : Int).toNat).drop (w64 (4 * v18) : Int).toNat) (1 : Int))) * 2 ^ 8))) (wu32 ((wu32 (ix (eI .u8).d ((l0.take (w64 ((w64 (4 * v18)) + 4) : Int).toNat).drop (w64 (4 * v18) : Int).toNat) (2 : Int))) * 2 ^ 16))) (wu32 ((wu32 (ix (eI .u8).d ((l0.take (w64 ((w64 (4 * v18)) + 4) : Int).toNat).drop (w64 (4 * v18) : Int).toNat) (3 : Int))) * 2 ^ 24))] : List Int)).length cc43)] hs ?_; clear hs; intro a hs
   refine c_end ?_
   intro wq hbq
   replace hw := hw.behind hbq
   refine ib_norm ?_
   refine hK22 _ _ ?_
   refine go_plain [] [(19, .int .i64 (w64 (v18 + 1)))] hs ?_; clear hs; intro a hs
   replace hw := hw.only 1
   exact round_end (l15 ++ ([bor .u32 (bor .u32 (bor .u32 (wu32 (ix (eI .u8).d ((l0.take (w64 ((w64 (4 * v18)) + 4) : Int).toNat).drop (w64 (4 * v18) : Int).toNat) (0 : Int))) (wu32 ((wu32 (ix (eI .u8).d ((l0.take (w64 ((w64 (4 * v18)) + 4) : Int).toNat).drop (w64 (4 * v18) : Int).toNat) (1 : Int))) * 2 ^ 8))) (wu32 ((wu32 (ix (eI .u8).d ((l0.take (w64 ((w64 (4 * v18)) + 4) : Int).toNat).drop (w64 (4 * v18) : Int).toNat) (2 : Int))) * 2 ^ 16))) (wu32 ((wu32 (ix (eI .u8).d ((l0.take (w64 ((w64 (4 * v18)) + 4) : Int).toNat).drop (w64 (4 * v18) : Int).toNat) (3 : Int))) * 2 ^ 24))] : List Int), w64 (v18 + 1)) (Option.some.inj H).symm ⟨Aa42, cc43, hs.kx, hw⟩
  ·replace H := ite_f H (of_decide_eq_false hc)
   have hb47 := hc
   rw [hb47] at hs
   refine wp_exit ?_
   refine th_exit ?_
   refine th_exit ?_
   refine in_block ?_
   rw [← hr14 _ (Option.some.inj H).symm] at HX14
   exact hJ3 Aa16 cc17 l15 _ _ hs.kx hw HX14
 refine go_seq_k fun K3 hK3 => ?_
 have hJ1 : ∀ (v5 : Bool) (a : Act) (w : World), Slots a 56 [(0, .slice A0 l0.length c0), (1, .int .i64 a1), (17, .bool v5)] → St [] w0 w [] → le_Take.j1 a1 l0 v5 = some r → K3 a w := by
  intro v5 a w hs hw H
  unfold le_Take.j1 at H
  refine hK3 _ _ ?_
  refine go_cond hs v5 (fun hc => ?_) fun hc => ?_
  ·replace H := ite_t H hc
   have hb6 := hc
   rw [hb6] at hs
   refine go_sp [0, 1, 17] [(4, .slice none 0 0), (5, .int .i64 3)] hs ?_; clear hs; intro a hs
   refine wp_ret ?_
   refine th_ret ?_
   obtain rfl := Option.some.inj H
   replace hw := St.own_nil hw 37 (eI .u32)
   refine ret2 (t1 := 4) (v1 := .slice none 0 0) (t2 := 5) (v2 := .int .i64 3) hs (by kernel_rfl) (by kernel_rfl) (by kernel_rfl) ?_
   exact ⟨none, 0, rfl, hw.only 1⟩
  ·replace H := ite_f H (ff hc)
   have hb9 := hc
   rw [hb9] at hs
   refine wp_skip ?_
   exact hJ2 _ _ hs.kx hw H
 refine go_region ?_
 refine go_pvs 3 [] [(11, .bool (decide (a1 < 0)))] hs ?_; clear hs; intro a hs
 cases hb4 : (decide (a1 < 0))
 ·replace H := ite_f H (of_decide_eq_false hb4)
  rw [hb4] at hs
  refine go_pvs 9 [11] [(17, .bool (decide ((w64 ((l0.length : Int).tdiv 4)) < a1)))] hs ?_; clear hs; intro a hs
  refine go_end ?_
  exact hJ1 (decide ((w64 ((l0.length : Int).tdiv 4)) < a1)) _ _ hs.kx hw H
 ·replace H := ite_t H (of_decide_eq_true hb4)
  rw [hb4] at hs
  refine go_pvs 9 [11] [(17, .bool true)] hs ?_; clear hs; intro a hs
  refine go_end ?_
  exact hJ1 true _ _ hs.kx hw H

/-! rivet/rivetref07.Take: function 51 -/
noncomputable def rivetref07_Take.b30 (v22 : Int) (l0 : List Int) (v31 : Int) (v32 : Int) : Option (Int × Int ⊕ Int) := (if v32 ≥ 0 then (if 0 ≤ (w64 ((w64 (4 * v22)) + v32)) ∧ (w64 ((w64 (4 * v22)) + v32)) < (l0.length : Int) then (nm (wu32 ((wu32 (v31 * 256)) + (wu32 (ix (eI .u8).d l0 (w64 ((w64 (4 * v22)) + v32)))))) fun y39 => some (.inl (y39, w64 (v32 - 1)))) else none) else some (.inr v31))
noncomputable def rivetref07_Take.j3 (l19 : List Int) (v22 : Int) (v41 : Int) : Option ((List Int) × Int ⊕ (List Int)) := (if l19.length + ([v41] : List Int).length ≤ 35184372088832 then some (.inl (l19 ++ ([v41] : List Int), w64 (v22 + 1))) else none)
noncomputable def rivetref07_Take.b18 (a1 : Int) (l0 : List Int) (l19 : List Int) (v22 : Int) : Option ((List Int) × Int ⊕ (List Int)) := (if v22 < a1 then ((loopO (fun (σ : Int × Int) => rivetref07_Take.b30 v22 l0 σ.1 σ.2) (0, 3)).bind fun e => rivetref07_Take.j3 l19 v22 e) else some (.inr l19))
noncomputable def rivetref07_Take.j4 (l54 : List Int) : Option ((List Int) × Int) := some (l54, 0)
noncomputable def rivetref07_Take.j2 (a1 : Int) (l0 : List Int) : Option ((List Int) × Int) := ((loopO (fun (σ : (List Int) × Int) => rivetref07_Take.b18 a1 l0 σ.1 σ.2) (([] : List Int), 0)).bind fun e => rivetref07_Take.j4 e)
noncomputable def rivetref07_Take.j1 (a1 : Int) (l0 : List Int) (v5 : Bool) : Option ((List Int) × Int) := (if v5 = true then some (([] : List Int), 3) else rivetref07_Take.j2 a1 l0)
noncomputable def rivetref07_Take (l0 : List Int) (a1 : Int) : Option ((List Int) × Int) := (if a1 < 0 then rivetref07_Take.j1 a1 l0 true else rivetref07_Take.j1 a1 l0 (decide ((w64 ((l0.length : Int).tdiv 4)) < a1)))
set_option maxRecDepth 100000 in
set_option maxHeartbeats 4000000 in
theorem rivetref07_Take.calls (A0 : Option Addr) (c0 : Nat) (l0 : List Int) (a1 : Int) (r : (List Int) × Int) (w0 : World) (hr0 : Rd w0 (eI .u8) A0 c0 l0) (H : rivetref07_Take l0 a1 = some r) :
    Calls Tryd.prog 51 #[.slice A0 l0.length c0, .int .i64 a1] w0 fun e w' => ∃ A_0 c_0, e = .returned (.tuple #[.slice A_0 r.1.length c_0, .int .i64 r.2]) ∧ St [] w0 w' [own 37 (eI .u32) A_0 c_0 r.1] := by
 have hw : St [] w0 w0 [] := St.nil w0
 unfold rivetref07_Take at H
 refine go_fn Tryd.func51 rfl Tryd.ntmps51 ?_; intro a hs
 refine go_sp [] [] hs ?_; clear hs; intro a hs
 refine go_seq_k fun K2 hK2 => ?_
 have hJ2 : ∀ (a : Act) (w : World), Slots a 45 [(0, .slice A0 l0.length c0), (1, .int .i64 a1)] → St [] w0 w [] → rivetref07_Take.j2 a1 l0 = some r → K2 a w := by
  intro a w hs hw H
  unfold rivetref07_Take.j2 at H
  refine hK2 _ _ ?_
  refine go_sk fun K10 hK10 => ?_
  obtain ⟨Aa11, cc12, wd13, hx14, hw⟩ := n_lit0 (P := Tryd.prog) (t := 22) (ty := 22) (T := 37) hs hw (eI .u32) (by kernel_rfl) (by kernel_rfl)
  refine go_run hs (by rfl) hx14 [] ?_; clear hs; intro a hs
  refine go_pvs 2 [19] [(6, .slice Aa11 ([] : List Int).length cc12)] hs ?_; clear hs; intro a hs
  refine go_end (hK10 _ _ ?_)
  refine go_seq_k fun K16 hK16 => ?_
  refine go_sp [] [(7, .int .i64 0)] hs ?_; clear hs; intro a hs
  refine wp_block ?_
  obtain ⟨e18, hl18, HX18⟩ := bind_some H
  have hJ4 : ∀ (Aa55 : Option Addr) (cc56 : Nat) (l54 : List Int) (a : Act) (w : World), Slots a 45 [(6, .slice Aa55 l54.length cc56)] → St [] w0 w [own 37 (eI .u32) Aa55 cc56 l54] → rivetref07_Take.j4 l54 = some r → K16 a w := by
   intro Aa55 cc56 l54 a w hs hw H
   unfold rivetref07_Take.j4 at H
   refine hK16 _ _ ?_
   refine go_sp [6] [(4, .slice Aa55 l54.length cc56), (5, .int .i64 0)] hs ?_; clear hs; intro a hs
   refine wp_ret ?_
   obtain rfl := Option.some.inj H
   refine ret2 (t1 := 4) (v1 := .slice Aa55 l54.length cc56) (t2 := 5) (v2 := .int .i64 0) hs (by kernel_rfl) (by kernel_rfl) (by kernel_rfl) ?_
   exact ⟨Aa55, cc56, rfl, hw.only 1⟩
  clear H
  refine go_loop (σ := (List Int) × Int) (fun σ a w => ∃ Aa20, ∃ cc21, Slots a 45 [(0, .slice A0 l0.length c0), (1, .int .i64 a1), (6, .slice Aa20 σ.1.length cc21), (7, .int .i64 σ.2)] ∧ St [] w0 w [own 37 (eI .u32) Aa20 cc21 σ.1]) hl18 (by exact ⟨Aa11, cc12, hs.kx, hw⟩) ?_
  rintro ⟨l19, v22⟩ a w ⟨Aa20, cc21, hs, hw⟩ o H hr18
  replace hs : Slots a 45 [(0, .slice A0 l0.length c0), (1, .int .i64 a1), (6, .slice Aa20 l19.length cc21), (7, .int .i64 v22)] := hs
  replace hw : St [] w0 w [own 37 (eI .u32) Aa20 cc21 l19] := hw
  replace H : rivetref07_Take.b18 a1 l0 l19 v22 = some o := H
  unfold rivetref07_Take.b18 at H
  refine go_seq_k fun K23 hK23 => ?_
  refine go_sp [] [(22, .bool (decide (v22 < a1)))] hs ?_; clear hs; intro a hs
  refine go_cond hs (decide (v22 < a1)) (fun hc => ?_) fun hc => ?_
  ·replace H := ite_t H (of_decide_eq_true hc)
   have hb25 := hc
   rw [hb25] at hs
   refine wp_skip ?_
   refine hK23 _ _ ?_
   refine go_seq_k fun K26 hK26 => ?_
   refine wp_block ?_
   refine go_sp [22] [(8, .int .u32 0)] hs ?_; clear hs; intro a hs
   refine go_seq_k fun K28 hK28 => ?_
   refine go_sp [] [(9, .int .i64 3)] hs ?_; clear hs; intro a hs
   refine wp_block ?_
   obtain ⟨e30, hl30, HX30⟩ := bind_some H
   have hJ3 : ∀ (v41 : Int) (a : Act) (w : World), Slots a 45 [(0, .slice A0 l0.length c0), (1, .int .i64 a1), (6, .slice Aa20 l19.length cc21), (7, .int .i64 v22), (8, .int .u32 v41)] → St [] w0 w [own 37 (eI .u32) Aa20 cc21 l19] → rivetref07_Take.j3 l19 v22 v41 = some o → K28 a w := by
    intro v41 a w hs hw H
    unfold rivetref07_Take.j3 at H
    refine hK28 _ _ ?_
    refine go_region ?_
    refine go_pvs 2 [6, 8] [(40, .slice Aa20 l19.length cc21), (41, .int .u32 v41)] hs ?_; clear hs; intro a hs
    obtain ⟨Aa42, cc43, wd44, hx45, hw⟩ := n_lit (P := Tryd.prog) (t := 22) (ty := 22) (T := 37) (len := 1) (parts := #[(0, (Operand.tmp 41))]) (z := .int .u32 0) (bytes := 4) (cells := #[.int .u32 v41]) hs hw (eI .u32) ([v41] : List Int) (by kernel_rfl) (by kernel_rfl) (by kernel_rfl) (by kernel_rfl) (by kernel_rfl) (by kernel_rfl) (by kernel_rfl)
    refine go_run hs (by rfl) hx45 [41] ?_; clear hs; intro a hs
    obtain ⟨hp47, H⟩ := ite_only H
    have hsrc52 : Src Tryd.prog (eI .u32).sz 22 (.slice Aa42 ([v41] : List Int).length cc43) ([v41] : List Int).length (([v41] : List Int).flatMap (eI .u32).enc) _ := (Src.of_rd (E := (eI .u32)) (e' := 37) (by kernel_rfl) (Rd.of_own (hw.up 0)))
    replace hw := hw.up 1
    obtain ⟨Aa48, cc49, wd50, hx51, hw⟩ := x_append (P := Tryd.prog) (t := 22) (tx := 22) (ty := 22) (x := (Operand.tmp 40)) (y := (Operand.tmp 42)) (z := .int .u32 0) (bytes := 4) (l2 := ([v41] : List Int)) hs hw (by kernel_rfl) (by kernel_rfl) (by kernel_rfl) (by kernel_rfl) (by kernel_rfl) hsrc52 (by omega) (by omega)
    refine go_run hs (by rfl) hx51 [40, 42] ?_; clear hs; intro a hs
    refine go_pvs 5 [43] [(6, .slice Aa48 (l19 ++ ([v41] : List Int)).length cc49)] hs ?_; clear hs; intro a hs
    refine go_end ?_
    refine ib_norm ?_
    refine hK26 _ _ ?_
    refine go_plain [] [(7, .int .i64 (w64 (v22 + 1)))] hs ?_; clear hs; intro a hs
    replace hw := hw.only 1
    exact round_end (l19 ++ ([v41] : List Int), w64 (v22 + 1)) (Option.some.inj H).symm ⟨Aa48, cc49, hs.kx, hw⟩
   clear H
   refine go_loop (σ := Int × Int) (fun σ a w => Slots a 45 [(0, .slice A0 l0.length c0), (1, .int .i64 a1), (6, .slice Aa20 l19.length cc21), (7, .int .i64 v22), (8, .int .u32 σ.1), (9, .int .i64 σ.2)] ∧ St [] w0 w [own 37 (eI .u32) Aa20 cc21 l19]) hl30 (by exact ⟨hs.kx, hw⟩) ?_
   rintro ⟨v31, v32⟩ a w ⟨hs, hw⟩ o H hr30
   replace hs : Slots a 45 [(0, .slice A0 l0.length c0), (1, .int .i64 a1), (6, .slice Aa20 l19.length cc21), (7, .int .i64 v22), (8, .int .u32 v31), (9, .int .i64 v32)] := hs
   replace hw : St [] w0 w [own 37 (eI .u32) Aa20 cc21 l19] := hw
   replace H : rivetref07_Take.b30 v22 l0 v31 v32 = some o := H
   unfold rivetref07_Take.b30 at H
   refine go_seq_k fun K33 hK33 => ?_
   refine go_sp [] [(26, .bool (decide (v32 ≥ 0)))] hs ?_; clear hs; intro a hs
   refine go_cond hs (decide (v32 ≥ 0)) (fun hc => ?_) fun hc => ?_
   ·replace H := ite_t H (of_decide_eq_true hc)
    have hb35 := hc
    rw [hb35] at hs
    refine wp_skip ?_
    refine hK33 _ _ ?_
    refine go_seq_k fun K36 hK36 => ?_
    refine wp_block ?_
    refine go_region ?_
    refine go_pvs 7 [8, 26] [(30, .int .u32 (wu32 (v31 * 256))), (31, .slice A0 l0.length c0), (35, .int .i64 (w64 ((w64 (4 * v22)) + v32)))] hs ?_; clear hs; intro a hs
    obtain ⟨hp37, H⟩ := ite_only H
    obtain ⟨ad38, rfl⟩ := (hr0.old hw).some hp37.1 hp37.2
    refine go_run hs (by rfl) (x_idx (T := 5) (sz := 1) (a := ad38) (n := l0.length) (cap := c0) (k := .i64) (i := (w64 ((w64 (4 * v22)) + v32))) hp37) [31, 35] ?_; clear hs; intro a hs
    refine go_run hs (by rfl) (x_ld (off := 0) (p := ad38.add ((w64 ((w64 (4 * v22)) + v32)).toNat * 1)) (v := .int .u8 (ix (eI .u8).d l0 (w64 ((w64 (4 * v22)) + v32)))) (hr0.old hw) hp37 rfl) [36] ?_; clear hs; intro a hs
    refine go_pvs 12 [30, 37] [(8, .int .u32 (wu32 ((wu32 (v31 * 256)) + (wu32 (ix (eI .u8).d l0 (w64 ((w64 (4 * v22)) + v32)))))))] hs ?_; clear hs; intro a hs
    obtain ⟨y39, hy39, H⟩ := nm_some H
    replace hs : Slots a 45 [(0, .slice (some ad38) l0.length c0), (1, .int .i64 a1), (6, .slice Aa20 l19.length cc21), (7, .int .i64 v22), (8, .int .u32 y39), (9, .int .i64 v32)] := by rw [hy39]; exact hs.kx
    refine go_end ?_
    refine ib_norm ?_
    refine hK36 _ _ ?_
    refine go_plain [] [(9, .int .i64 (w64 (v32 - 1)))] hs ?_; clear hs; intro a hs
    exact round_end (y39, w64 (v32 - 1)) (Option.some.inj H).symm ⟨hs.kx, hw⟩
   ·replace H := ite_f H (of_decide_eq_false hc)
    have hb40 := hc
    rw [hb40] at hs
    refine wp_exit ?_
    refine th_exit ?_
    refine th_exit ?_
    refine in_block ?_
    rw [← hr30 _ (Option.some.inj H).symm] at HX30
    exact hJ3 v31 _ _ hs.kx hw HX30
  ·replace H := ite_f H (of_decide_eq_false hc)
   have hb53 := hc
   rw [hb53] at hs
   refine wp_exit ?_
   refine th_exit ?_
   refine th_exit ?_
   refine in_block ?_
   rw [← hr18 _ (Option.some.inj H).symm] at HX18
   exact hJ4 Aa20 cc21 l19 _ _ hs.kx hw HX18
 refine go_seq_k fun K3 hK3 => ?_
 have hJ1 : ∀ (v5 : Bool) (a : Act) (w : World), Slots a 45 [(0, .slice A0 l0.length c0), (1, .int .i64 a1), (18, .bool v5)] → St [] w0 w [] → rivetref07_Take.j1 a1 l0 v5 = some r → K3 a w := by
  intro v5 a w hs hw H
  unfold rivetref07_Take.j1 at H
  refine hK3 _ _ ?_
  refine go_cond hs v5 (fun hc => ?_) fun hc => ?_
  ·replace H := ite_t H hc
   have hb6 := hc
   rw [hb6] at hs
   refine go_sp [0, 1, 18] [(4, .slice none 0 0), (5, .int .i64 3)] hs ?_; clear hs; intro a hs
   refine wp_ret ?_
   refine th_ret ?_
   obtain rfl := Option.some.inj H
   replace hw := St.own_nil hw 37 (eI .u32)
   refine ret2 (t1 := 4) (v1 := .slice none 0 0) (t2 := 5) (v2 := .int .i64 3) hs (by kernel_rfl) (by kernel_rfl) (by kernel_rfl) ?_
   exact ⟨none, 0, rfl, hw.only 1⟩
  ·replace H := ite_f H (ff hc)
   have hb9 := hc
   rw [hb9] at hs
   refine wp_skip ?_
   exact hJ2 _ _ hs.kx hw H
 refine go_region ?_
 refine go_pvs 3 [] [(12, .bool (decide (a1 < 0)))] hs ?_; clear hs; intro a hs
 cases hb4 : (decide (a1 < 0))
 ·replace H := ite_f H (of_decide_eq_false hb4)
  rw [hb4] at hs
  refine go_pvs 9 [12] [(18, .bool (decide ((w64 ((l0.length : Int).tdiv 4)) < a1)))] hs ?_; clear hs; intro a hs
  refine go_end ?_
  exact hJ1 (decide ((w64 ((l0.length : Int).tdiv 4)) < a1)) _ _ hs.kx hw H
 ·replace H := ite_t H (of_decide_eq_true hb4)
  rw [hb4] at hs
  refine go_pvs 9 [12] [(18, .bool true)] hs ?_; clear hs; intro a hs
  refine go_end ?_
  exact hJ1 true _ _ hs.kx hw H

/-! rivet/le.Put: function 28 -/
noncomputable def le_Put.j1 (l30 : List Int) : Option (List Int) := some l30
noncomputable def le_Put.b6 (l0 : List Int) (l7 : List Int) (v10 : Int) : Option ((List Int) × Int ⊕ (List Int)) := (if v10 < (l0.length : Int) then (if 0 ≤ v10 ∧ v10 < (l0.length : Int) then (if l7.length + ([wu8 (ix (eI .u32).d l0 v10), wu8 ((ix (eI .u32).d l0 v10).fdiv (2 ^ 8)), wu8 ((ix (eI .u32).d l0 v10).fdiv (2 ^ 16)), wu8 ((ix (eI .u32).d l0 v10).fdiv (2 ^ 24))] : List Int).length ≤ 140737488355328 then some (.inl (l7 ++ ([wu8 (ix (eI .u32).d l0 v10), wu8 ((ix (eI .u32).d l0 v10).fdiv (2 ^ 8)), wu8 ((ix (eI .u32).d l0 v10).fdiv (2 ^ 16)), wu8 ((ix (eI .u32).d l0 v10).fdiv (2 ^ 24))] : List Int), w64 (v10 + 1))) else none) else none) else some (.inr l7))
noncomputable def le_Put (l0 : List Int) : Option (List Int) := ((loopO (fun (σ : (List Int) × Int) => le_Put.b6 l0 σ.1 σ.2) (([] : List Int), 0)).bind fun e => le_Put.j1 e)
set_option maxRecDepth 100000 in
set_option maxHeartbeats 4000000 in
theorem le_Put.calls (A0 : Option Addr) (c0 : Nat) (l0 : List Int) (r : (List Int)) (w0 : World) (hr0 : Rd w0 (eI .u32) A0 c0 l0) (H : le_Put l0 = some r) :
    Calls Tryd.prog 28 #[.slice A0 l0.length c0] w0 fun e w' => ∃ A_0 c_0, e = .returned (.slice A_0 r.length c_0) ∧ St [] w0 w' [own 5 (eI .u8) A_0 c_0 r] := by
 have hw : St [] w0 w0 [] := St.nil w0
 unfold le_Put at H
 refine go_fn Tryd.func28 rfl Tryd.ntmps28 ?_; intro a hs
 refine go_sp [] [] hs ?_; clear hs; intro a hs
 refine go_sp [] [(3, .slice none 0 0)] hs ?_; clear hs; intro a hs
 refine go_seq_k fun K3 hK3 => ?_
 refine go_sp [0] [(6, .slice A0 l0.length c0), (7, .int .i64 (l0.length : Int)), (8, .int .i64 0)] hs ?_; clear hs; intro a hs
 refine wp_block ?_
 replace hw := St.own_nil hw 5 (eI .u8)
 obtain ⟨e6, hl6, HX6⟩ := bind_some H
 have hJ1 : ∀ (Aa31 : Option Addr) (cc32 : Nat) (l30 : List Int) (a : Act) (w : World), Slots a 28 [(3, .slice Aa31 l30.length cc32)] → St [] w0 w [own 5 (eI .u8) Aa31 cc32 l30] → le_Put.j1 l30 = some r → K3 a w := by
  intro Aa31 cc32 l30 a w hs hw H
  unfold le_Put.j1 at H
  refine hK3 _ _ ?_
  refine go_sp [3] [(2, .slice Aa31 l30.length cc32)] hs ?_; clear hs; intro a hs
  refine wp_ret ?_
  obtain rfl := Option.some.inj H
  refine ret1 (t := 2) (v := .slice Aa31 l30.length cc32) hs (by kernel_rfl) (by kernel_rfl) ?_
  exact ⟨Aa31, cc32, rfl, hw.only 1⟩
 clear H
 refine go_loop (σ := (List Int) × Int) (fun σ a w => ∃ Aa8, ∃ cc9, Slots a 28 [(3, .slice Aa8 σ.1.length cc9), (6, .slice A0 l0.length c0), (7, .int .i64 (l0.length : Int)), (8, .int .i64 σ.2)] ∧ St [] w0 w [own 5 (eI .u8) Aa8 cc9 σ.1]) hl6 (by exact ⟨none, 0, hs.kx, hw⟩) ?_
 rintro ⟨l7, v10⟩ a w ⟨Aa8, cc9, hs, hw⟩ o H hr6
 replace hs : Slots a 28 [(3, .slice Aa8 l7.length cc9), (6, .slice A0 l0.length c0), (7, .int .i64 (l0.length : Int)), (8, .int .i64 v10)] := hs
 replace hw : St [] w0 w [own 5 (eI .u8) Aa8 cc9 l7] := hw
 replace H : le_Put.b6 l0 l7 v10 = some o := H
 unfold le_Put.b6 at H
 refine go_sp [] [(9, .bool (decide (v10 < (l0.length : Int))))] hs ?_; clear hs; intro a hs
 refine go_seq_k fun K12 hK12 => ?_
 refine go_cond hs (decide (v10 < (l0.length : Int))) (fun hc => ?_) fun hc => ?_
 ·replace H := ite_t H (of_decide_eq_true hc)
  have hb13 := hc
  rw [hb13] at hs
  refine wp_skip ?_
  refine hK12 _ _ ?_
  refine go_seq_k fun K14 hK14 => ?_
  refine wp_block ?_
  refine go_sk fun K15 hK15 => ?_
  obtain ⟨hp16, H⟩ := ite_only H
  obtain ⟨ad17, rfl⟩ := (hr0.old hw).some hp16.1 hp16.2
  refine go_run hs (by rfl) (x_idx (T := 37) (sz := 1) (a := ad17) (n := l0.length) (cap := c0) (k := .i64) (i := v10) hp16) [9] ?_; clear hs; intro a hs
  refine go_run hs (by rfl) (x_ld (off := 0) (p := ad17.add (v10.toNat * 1)) (v := .int .u32 (ix (eI .u32).d l0 v10)) (hr0.old hw) hp16 rfl) [10] ?_; clear hs; intro a hs
  refine go_pvs 3 [11] [(5, .int .u32 (ix (eI .u32).d l0 v10))] hs ?_; clear hs; intro a hs
  refine go_end (hK15 _ _ ?_)
  refine go_region ?_
  refine go_pvs 12 [3, 5] [(12, .slice Aa8 l7.length cc9), (14, .int .u8 (wu8 (ix (eI .u32).d l0 v10))), (17, .int .u8 (wu8 ((ix (eI .u32).d l0 v10).fdiv (2 ^ 8)))), (20, .int .u8 (wu8 ((ix (eI .u32).d l0 v10).fdiv (2 ^ 16)))), (23, .int .u8 (wu8 ((ix (eI .u32).d l0 v10).fdiv (2 ^ 24))))] hs ?_; clear hs; intro a hs
  obtain ⟨Aa18, cc19, wd20, hx21, hw⟩ := n_lit (P := Tryd.prog) (t := 32) (ty := 32) (T := 5) (len := 4) (parts := #[(0, (Operand.tmp 14)), (1, (Operand.tmp 17)), (2, (Operand.tmp 20)), (3, (Operand.tmp 23))]) (z := .int .u8 0) (bytes := 1) (cells := #[.int .u8 (wu8 (ix (eI .u32).d l0 v10)), .int .u8 (wu8 ((ix (eI .u32).d l0 v10).fdiv (2 ^ 8))), .int .u8 (wu8 ((ix (eI .u32).d l0 v10).fdiv (2 ^ 16))), .int .u8 (wu8 ((ix (eI .u32).d l0 v10).fdiv (2 ^ 24)))]) hs hw (eI .u8) ([wu8 (ix (eI .u32).d l0 v10), wu8 ((ix (eI .u32).d l0 v10).fdiv (2 ^ 8)), wu8 ((ix (eI .u32).d l0 v10).fdiv (2 ^ 16)), wu8 ((ix (eI .u32).d l0 v10).fdiv (2 ^ 24))] : List Int) (by kernel_rfl) (by kernel_rfl) (by kernel_rfl) (by kernel_rfl) (by kernel_rfl) (by kernel_rfl) (by kernel_rfl)
  refine go_run hs (by rfl) hx21 [14, 17, 20, 23] ?_; clear hs; intro a hs
  obtain ⟨hp23, H⟩ := ite_only H
  have hsrc28 : Src Tryd.prog (eI .u8).sz 32 (.slice Aa18 ([wu8 (ix (eI .u32).d l0 v10), wu8 ((ix (eI .u32).d l0 v10).fdiv (2 ^ 8)), wu8 ((ix (eI .u32).d l0 v10).fdiv (2 ^ 16)), wu8 ((ix (eI .u32).d l0 v10).fdiv (2 ^ 24))] : List Int).length cc19) ([wu8 (ix (eI .u32).d l0 v10), wu8 ((ix (eI .u32).d l0 v10).fdiv (2 ^ 8)), wu8 ((ix (eI .u32).d l0 v10).fdiv (2 ^ 16)), wu8 ((ix (eI .u32).d l0 v10).fdiv (2 ^ 24))] : List Int).length (([wu8 (ix (eI .u32).d l0 v10), wu8 ((ix (eI .u32).d l0 v10).fdiv (2 ^ 8)), wu8 ((ix (eI .u32).d l0 v10).fdiv (2 ^ 16)), wu8 ((ix (eI .u32).d l0 v10).fdiv (2 ^ 24))] : List Int).flatMap (eI .u8).enc) _ := (Src.of_rd (E := (eI .u8)) (e' := 5) (by kernel_rfl) (Rd.of_own (hw.up 0)))
  replace hw := hw.up 1
  obtain ⟨Aa24, cc25, wd26, hx27, hw⟩ := x_append (P := Tryd.prog) (t := 32) (tx := 32) (ty := 32) (x := (Operand.tmp 12)) (y := (Operand.tmp 24)) (z := .int .u8 0) (bytes := 1) (l2 := ([wu8 (ix (eI .u32).d l0 v10), wu8 ((ix (eI .u32).d l0 v10).fdiv (2 ^ 8)), wu8 ((ix (eI .u32).d l0 v10).fdiv (2 ^ 16)), wu8 ((ix (eI .u32).d l0 v10).fdiv (2 ^ 24))] : List Int)) hs hw (by kernel_rfl) (by kernel_rfl) (by kernel_rfl) (by kernel_rfl) (by kernel_rfl) hsrc28 (by omega) (by omega)
  refine go_run hs (by rfl) hx27 [12, 24] ?_; clear hs; intro a hs
  refine go_pvs 15 [25] [(3, .slice Aa24 (l7 ++ ([wu8 (ix (eI .u32).d l0 v10), wu8 ((ix (eI .u32).d l0 v10).fdiv (2 ^ 8)), wu8 ((ix (eI .u32).d l0 v10).fdiv (2 ^ 16)), wu8 ((ix (eI .u32).d l0 v10).fdiv (2 ^ 24))] : List Int)).length cc25)] hs ?_; clear hs; intro a hs
  refine go_end ?_
  refine ib_norm ?_
  refine hK14 _ _ ?_
  refine go_plain [] [(8, .int .i64 (w64 (v10 + 1)))] hs ?_; clear hs; intro a hs
  replace hw := hw.only 1
  exact round_end (l7 ++ ([wu8 (ix (eI .u32).d l0 v10), wu8 ((ix (eI .u32).d l0 v10).fdiv (2 ^ 8)), wu8 ((ix (eI .u32).d l0 v10).fdiv (2 ^ 16)), wu8 ((ix (eI .u32).d l0 v10).fdiv (2 ^ 24))] : List Int), w64 (v10 + 1)) (Option.some.inj H).symm ⟨Aa24, cc25, hs.kx, hw⟩
 ·replace H := ite_f H (of_decide_eq_false hc)
  have hb29 := hc
  rw [hb29] at hs
  refine wp_exit ?_
  refine th_exit ?_
  refine th_exit ?_
  refine in_block ?_
  rw [← hr6 _ (Option.some.inj H).symm] at HX6
  exact hJ1 Aa8 cc9 l7 _ _ hs.kx hw HX6

/-! rivet/rivetref07.Put: function 46 -/
noncomputable def rivetref07_Put.j1 (v14 : Int) (l47 : List Int) : Option ((List Int) × Int ⊕ (List Int)) := some (.inl (l47, w64 (v14 + 1)))
noncomputable def rivetref07_Put.b24 (l25 : List Int) (v28 : Int) (v29 : Int) : Option ((List Int) × Int × Int ⊕ (List Int)) := (if v29 < 4 then (if l25.length + ([wu8 (v28.tmod 256)] : List Int).length ≤ 140737488355328 then some (.inl (l25 ++ ([wu8 (v28.tmod 256)] : List Int), wu32 (v28.tdiv 256), w64 (v29 + 1))) else none) else some (.inr l25))
noncomputable def rivetref07_Put.j2 (l51 : List Int) : Option (List Int) := some l51
noncomputable def rivetref07_Put.b10 (l0 : List Int) (l11 : List Int) (v14 : Int) : Option ((List Int) × Int ⊕ (List Int)) := (if v14 < (l0.length : Int) then (if 0 ≤ v14 ∧ v14 < (l0.length : Int) then ((loopO (fun (σ : (List Int) × Int × Int) => rivetref07_Put.b24 σ.1 σ.2.1 σ.2.2) (l11, (ix (eI .u32).d l0 v14), 0)).bind fun e => rivetref07_Put.j1 v14 e) else none) else some (.inr l11))
noncomputable def rivetref07_Put (l0 : List Int) : Option (List Int) := ((loopO (fun (σ : (List Int) × Int) => rivetref07_Put.b10 l0 σ.1 σ.2) (([] : List Int), 0)).bind fun e => rivetref07_Put.j2 e)
set_option maxRecDepth 100000 in
set_option maxHeartbeats 4000000 in
theorem rivetref07_Put.calls (A0 : Option Addr) (c0 : Nat) (l0 : List Int) (r : (List Int)) (w0 : World) (hr0 : Rd w0 (eI .u32) A0 c0 l0) (H : rivetref07_Put l0 = some r) :
    Calls Tryd.prog 46 #[.slice A0 l0.length c0] w0 fun e w' => ∃ A_0 c_0, e = .returned (.slice A_0 r.length c_0) ∧ St [] w0 w' [own 5 (eI .u8) A_0 c_0 r] := by
 have hw : St [] w0 w0 [] := St.nil w0
 unfold rivetref07_Put at H
 refine go_fn Tryd.func46 rfl Tryd.ntmps46 ?_; intro a hs
 refine go_sp [] [] hs ?_; clear hs; intro a hs
 refine go_sk fun K2 hK2 => ?_
 obtain ⟨Aa3, cc4, wd5, hx6, hw⟩ := n_lit0 (P := Tryd.prog) (t := 32) (ty := 32) (T := 5) hs hw (eI .u8) (by kernel_rfl) (by kernel_rfl)
 refine go_run hs (by rfl) hx6 [] ?_; clear hs; intro a hs
 refine go_pvs 2 [7] [(3, .slice Aa3 ([] : List Int).length cc4)] hs ?_; clear hs; intro a hs
 refine go_end (hK2 _ _ ?_)
 refine go_seq_k fun K8 hK8 => ?_
 refine go_sp [] [(4, .int .i64 0)] hs ?_; clear hs; intro a hs
 refine wp_block ?_
 obtain ⟨e10, hl10, HX10⟩ := bind_some H
 have hJ2 : ∀ (Aa52 : Option Addr) (cc53 : Nat) (l51 : List Int) (a : Act) (w : World), Slots a 31 [(3, .slice Aa52 l51.length cc53)] → St [] w0 w [own 5 (eI .u8) Aa52 cc53 l51] → rivetref07_Put.j2 l51 = some r → K8 a w := by
  intro Aa52 cc53 l51 a w hs hw H
  unfold rivetref07_Put.j2 at H
  refine hK8 _ _ ?_
  refine go_sp [3] [(2, .slice Aa52 l51.length cc53)] hs ?_; clear hs; intro a hs
  refine wp_ret ?_
  obtain rfl := Option.some.inj H
  refine ret1 (t := 2) (v := .slice Aa52 l51.length cc53) hs (by kernel_rfl) (by kernel_rfl) ?_
  exact ⟨Aa52, cc53, rfl, hw.only 1⟩
 clear H
 refine go_loop (σ := (List Int) × Int) (fun σ a w => ∃ Aa12, ∃ cc13, Slots a 31 [(0, .slice A0 l0.length c0), (3, .slice Aa12 σ.1.length cc13), (4, .int .i64 σ.2)] ∧ St [] w0 w [own 5 (eI .u8) Aa12 cc13 σ.1]) hl10 (by exact ⟨Aa3, cc4, hs.kx, hw⟩) ?_
 rintro ⟨l11, v14⟩ a w ⟨Aa12, cc13, hs, hw⟩ o H hr10
 replace hs : Slots a 31 [(0, .slice A0 l0.length c0), (3, .slice Aa12 l11.length cc13), (4, .int .i64 v14)] := hs
 replace hw : St [] w0 w [own 5 (eI .u8) Aa12 cc13 l11] := hw
 replace H : rivetref07_Put.b10 l0 l11 v14 = some o := H
 unfold rivetref07_Put.b10 at H
 refine go_seq_k fun K15 hK15 => ?_
 refine go_sp [] [(11, .bool (decide (v14 < (l0.length : Int))))] hs ?_; clear hs; intro a hs
 refine go_cond hs (decide (v14 < (l0.length : Int))) (fun hc => ?_) fun hc => ?_
 ·replace H := ite_t H (of_decide_eq_true hc)
  have hb17 := hc
  rw [hb17] at hs
  refine wp_skip ?_
  refine hK15 _ _ ?_
  refine go_seq_k fun K18 hK18 => ?_
  refine wp_block ?_
  refine go_sk fun K19 hK19 => ?_
  refine go_pvs 2 [11] [(14, .slice A0 l0.length c0), (15, .int .i64 v14)] hs ?_; clear hs; intro a hs
  obtain ⟨hp20, H⟩ := ite_only H
  obtain ⟨ad21, rfl⟩ := (hr0.old hw).some hp20.1 hp20.2
  refine go_run hs (by rfl) (x_idx (T := 37) (sz := 1) (a := ad21) (n := l0.length) (cap := c0) (k := .i64) (i := v14) hp20) [14, 15] ?_; clear hs; intro a hs
  refine go_run hs (by rfl) (x_ld (off := 0) (p := ad21.add (v14.toNat * 1)) (v := .int .u32 (ix (eI .u32).d l0 v14)) (hr0.old hw) hp20 rfl) [16] ?_; clear hs; intro a hs
  refine go_pvs 5 [17] [(5, .int .u32 (ix (eI .u32).d l0 v14))] hs ?_; clear hs; intro a hs
  refine go_end (hK19 _ _ ?_)
  refine go_sp [] [(6, .int .i64 0)] hs ?_; clear hs; intro a hs
  refine name_k fun K23 hK23 => ?_
  refine wp_block ?_
  obtain ⟨e24, hl24, HX24⟩ := bind_some H
  have hJ1 : ∀ (Aa48 : Option Addr) (cc49 : Nat) (l47 : List Int) (a : Act) (w : World), Slots a 31 [(0, .slice (some ad21) l0.length c0), (3, .slice Aa48 l47.length cc49), (4, .int .i64 v14)] → St [] w0 w [own 5 (eI .u8) Aa48 cc49 l47] → rivetref07_Put.j1 v14 l47 = some o → K23 a w := by
   intro Aa48 cc49 l47 a w hs hw H
   unfold rivetref07_Put.j1 at H
   refine hK23 _ _ ?_
   refine ib_norm ?_
   refine hK18 _ _ ?_
   refine go_plain [] [(4, .int .i64 (w64 (v14 + 1)))] hs ?_; clear hs; intro a hs
   exact round_end (l47, w64 (v14 + 1)) (Option.some.inj H).symm ⟨Aa48, cc49, hs.kx, hw⟩
  clear H
  refine go_loop (σ := (List Int) × Int × Int) (fun σ a w => ∃ Aa26, ∃ cc27, Slots a 31 [(0, .slice (some ad21) l0.length c0), (3, .slice Aa26 σ.1.length cc27), (4, .int .i64 v14), (5, .int .u32 σ.2.1), (6, .int .i64 σ.2.2)] ∧ St [] w0 w [own 5 (eI .u8) Aa26 cc27 σ.1]) hl24 (by exact ⟨Aa12, cc13, hs.kx, hw⟩) ?_
  rintro ⟨l25, v28, v29⟩ a w ⟨Aa26, cc27, hs, hw⟩ o H hr24
  replace hs : Slots a 31 [(0, .slice (some ad21) l0.length c0), (3, .slice Aa26 l25.length cc27), (4, .int .i64 v14), (5, .int .u32 v28), (6, .int .i64 v29)] := hs
  replace hw : St [] w0 w [own 5 (eI .u8) Aa26 cc27 l25] := hw
  replace H : rivetref07_Put.b24 l25 v28 v29 = some o := H
  unfold rivetref07_Put.b24 at H
  refine go_seq_k fun K30 hK30 => ?_
  refine go_sp [] [(19, .bool (decide (v29 < 4)))] hs ?_; clear hs; intro a hs
  refine go_cond hs (decide (v29 < 4)) (fun hc => ?_) fun hc => ?_
  ·replace H := ite_t H (of_decide_eq_true hc)
   have hb32 := hc
   rw [hb32] at hs
   refine wp_skip ?_
   refine hK30 _ _ ?_
   refine go_seq_k fun K33 hK33 => ?_
   refine wp_block ?_
   refine go_sk fun K34 hK34 => ?_
   refine go_pvs 4 [3, 19] [(22, .slice Aa26 l25.length cc27), (25, .int .u8 (wu8 (v28.tmod 256)))] hs ?_; clear hs; intro a hs
   obtain ⟨Aa35, cc36, wd37, hx38, hw⟩ := n_lit (P := Tryd.prog) (t := 32) (ty := 32) (T := 5) (len := 1) (parts := #[(0, (Operand.tmp 25))]) (z := .int .u8 0) (bytes := 1) (cells := #[.int .u8 (wu8 (v28.tmod 256))]) hs hw (eI .u8) ([wu8 (v28.tmod 256)] : List Int) (by kernel_rfl) (by kernel_rfl) (by kernel_rfl) (by kernel_rfl) (by kernel_rfl) (by kernel_rfl) (by kernel_rfl)
   refine go_run hs (by rfl) hx38 [25] ?_; clear hs; intro a hs
   obtain ⟨hp40, H⟩ := ite_only H
   have hsrc45 : Src Tryd.prog (eI .u8).sz 32 (.slice Aa35 ([wu8 (v28.tmod 256)] : List Int).length cc36) ([wu8 (v28.tmod 256)] : List Int).length (([wu8 (v28.tmod 256)] : List Int).flatMap (eI .u8).enc) _ := (Src.of_rd (E := (eI .u8)) (e' := 5) (by kernel_rfl) (Rd.of_own (hw.up 0)))
   replace hw := hw.up 1
   obtain ⟨Aa41, cc42, wd43, hx44, hw⟩ := x_append (P := Tryd.prog) (t := 32) (tx := 32) (ty := 32) (x := (Operand.tmp 22)) (y := (Operand.tmp 26)) (z := .int .u8 0) (bytes := 1) (l2 := ([wu8 (v28.tmod 256)] : List Int)) hs hw (by kernel_rfl) (by kernel_rfl) (by kernel_rfl) (by kernel_rfl) (by kernel_rfl) hsrc45 (by omega) (by omega)
   refine go_run hs (by rfl) hx44 [22, 26] ?_; clear hs; intro a hs
   refine go_pvs 7 [27] [(3, .slice Aa41 (l25 ++ ([wu8 (v28.tmod 256)] : List Int)).length cc42)] hs ?_; clear hs; intro a hs
   refine go_end (hK34 _ _ ?_)
   refine go_plain [] [(5, .int .u32 (wu32 (v28.tdiv 256)))] hs ?_; clear hs; intro a hs
   refine ib_norm ?_
   refine hK33 _ _ ?_
   refine go_plain [] [(6, .int .i64 (w64 (v29 + 1)))] hs ?_; clear hs; intro a hs
   replace hw := hw.only 1
   exact round_end (l25 ++ ([wu8 (v28.tmod 256)] : List Int), wu32 (v28.tdiv 256), w64 (v29 + 1)) (Option.some.inj H).symm ⟨Aa41, cc42, hs.kx, hw⟩
  ·replace H := ite_f H (of_decide_eq_false hc)
   have hb46 := hc
   rw [hb46] at hs
   refine wp_exit ?_
   refine th_exit ?_
   refine th_exit ?_
   refine in_block ?_
   rw [← hr24 _ (Option.some.inj H).symm] at HX24
   exact hJ1 Aa26 cc27 l25 _ _ hs.kx hw HX24
 ·replace H := ite_f H (of_decide_eq_false hc)
  have hb50 := hc
  rw [hb50] at hs
  refine wp_exit ?_
  refine th_exit ?_
  refine th_exit ?_
  refine in_block ?_
  rw [← hr10 _ (Option.some.inj H).symm] at HX10
  exact hJ2 Aa12 cc13 l11 _ _ hs.kx hw HX10

/-! rivet/chain.Unpack: function 50 -/
noncomputable def chain_Unpack.b24 (l25 : List Int) (l26 : List Int) (v29 : Int) : Option ((List Int) × (List Int) × Int ⊕ (Ex ((List Int) × (List Int) × Int) ((List Int) × (List Int)))) := (if (w64 (v29 - 1)) < 0 then some (.inr (.done (l26, l25))) else (if 0 ≤ (w64 (v29 - 1)) ∧ (w64 (v29 - 1)) < (l25.length : Int) then (if (w64 (band .u32 (ix (eI .u32).d l25 (w64 (v29 - 1))) 65535)) > (w64 (v29 - 1)) then some (.inr (.ret (([] : List Int), ([] : List Int), 10))) else (if 0 ≤ (w64 (v29 - 1)) ∧ (w64 (v29 - 1)) < (l25.length : Int) then (nm (w64 (band .u32 (ix (eI .u32).d l25 (w64 (v29 - 1))) 65535)) fun y45 => (if 0 ≤ (w64 (v29 - 1)) ∧ (w64 (v29 - 1)) < (l25.length : Int) then (if 0 ≤ (w64 (v29 - 1)) ∧ (w64 (v29 - 1)) < (l25.length : Int) then (if l26.length + ([w64 (v29 - 1)] : List Int).length ≤ 17592186044416 then some (.inl (l25.set ((w64 (v29 - 1)) : Int).toNat ((ix (eI .u32).d l25 (w64 (v29 - 1))).fdiv (2 ^ 16)), l26 ++ ([w64 (v29 - 1)] : List Int), y45)) else none) else none) else none)) else none)) else none))
noncomputable def chain_Unpack.j3 (l62 : List Int) (l65 : List Int) : Option ((List Int) × (List Int) × Int) := ((slices_Reverse_int_int l62).bind fun t68 => (some (l65, t68, 0)))
noncomputable def chain_Unpack.j2 (l0 : List Int) (a1 : Int) : Option ((List Int) × (List Int) × Int) := ((slices_Clone_uint32_uint32 l0).bind fun t13 => (((loopO (fun (σ : (List Int) × (List Int) × Int) => chain_Unpack.b24 σ.1 σ.2.1 σ.2.2) (t13, ([] : List Int), a1)).bind fun e => match e with | .ret x => some x | .done e => chain_Unpack.j3 e.1 e.2)))
noncomputable def chain_Unpack.j1 (l0 : List Int) (a1 : Int) (v5 : Bool) : Option ((List Int) × (List Int) × Int) := (if v5 = true then some (([] : List Int), ([] : List Int), 10) else chain_Unpack.j2 l0 a1)
noncomputable def chain_Unpack (l0 : List Int) (a1 : Int) : Option ((List Int) × (List Int) × Int) := (if a1 < 0 then chain_Unpack.j1 l0 a1 true else chain_Unpack.j1 l0 a1 (decide (a1 > (l0.length : Int))))
set_option maxRecDepth 100000 in
set_option maxHeartbeats 4000000 in
theorem chain_Unpack.calls (A0 : Option Addr) (c0 : Nat) (l0 : List Int) (a1 : Int) (r : (List Int) × (List Int) × Int) (w0 : World) (hr0 : Rd w0 (eI .u32) A0 c0 l0) (H : chain_Unpack l0 a1 = some r) :
    Calls Tryd.prog 50 #[.slice A0 l0.length c0, .int .i64 a1] w0 fun e w' => ∃ A_0 c_0, ∃ A_1 c_1, e = .returned (.tuple #[.slice A_0 r.1.length c_0, .slice A_1 r.2.1.length c_1, .int .i64 r.2.2]) ∧ St [] w0 w' [own 37 (eI .u32) A_0 c_0 r.1, own 3 (eI .i64) A_1 c_1 r.2.1] := by
 have hw : St [] w0 w0 [] := St.nil w0
 unfold chain_Unpack at H
 refine go_fn Tryd.func50 rfl Tryd.ntmps50 ?_; intro a hs
 refine go_sp [] [] hs ?_; clear hs; intro a hs
 refine wp_scope_straight ?_
 refine go_seq_k fun K2 hK2 => ?_
 have hJ2 : ∀ (a : Act) (w : World), Slots a 54 [(0, .slice A0 l0.length c0), (1, .int .i64 a1)] → St [] w0 w [] → chain_Unpack.j2 l0 a1 = some r → K2 a w := by
  intro a w hs hw H
  unfold chain_Unpack.j2 at H
  refine hK2 _ _ ?_
  refine go_sk fun K11 hK11 => ?_
  refine go_pvs 1 [0] [(18, .slice A0 l0.length c0)] hs ?_; clear hs; intro a hs
  obtain ⟨t13, hx14, H⟩ := bind_some H
  refine go_call hs (by rfl) (slices_Clone_uint32_uint32.calls A0 c0 l0 t13 _ (hr0.old hw) hx14) ?_
  rintro e wd17 ⟨Aa15, cc16, rfl, hw18⟩
  refine ⟨_, rfl, ?_⟩
  replace hw := hw.call hw18
  clear hs; intro a hs; replace hs := hs.rms [18]
  refine go_pvs 3 [19] [(7, .slice Aa15 t13.length cc16)] hs ?_; clear hs; intro a hs
  refine go_end (hK11 _ _ ?_)
  refine go_sp [] [(8, .slice none 0 0)] hs ?_; clear hs; intro a hs
  refine go_seq_k fun K21 hK21 => ?_
  refine wp_label ?_
  refine hK21 _ _ ?_
  refine go_seq_k fun K22 hK22 => ?_
  refine wp_block ?_
  replace hw := St.own_nil hw 3 (eI .i64)
  obtain ⟨e24, hl24, HX24⟩ := bind_some H
  have hJ3 : ∀ (Aa63 : Option Addr) (cc64 : Nat) (l62 : List Int) (l65 : List Int) (a : Act) (w : World), Slots a 54 [(7, .slice Aa15 l65.length cc16), (8, .slice Aa63 l62.length cc64)] → St [] w0 w [own 3 (eI .i64) Aa63 cc64 l62, own 37 (eI .u32) Aa15 cc16 l65] → chain_Unpack.j3 l62 l65 = some r → K22 a w := by
   intro Aa63 cc64 l62 l65 a w hs hw H
   unfold chain_Unpack.j3 at H
   refine hK22 _ _ ?_
   refine go_sk fun K66 hK66 => ?_
   refine go_pvs 1 [] [(50, .slice Aa63 l62.length cc64)] hs ?_; clear hs; intro a hs
   obtain ⟨ks67, hgks67, hstks67, hbkks67⟩ := hw.lend 1
   obtain ⟨t68, hx69, H⟩ := bind_some H
   refine go_call hs (by rfl) (slices_Reverse_int_int.calls ks67 Aa63 cc64 l62 t68 _ hgks67 hx69) ?_
   rintro e wd70 ⟨rfl, hw71⟩
   refine ⟨_, rfl, ?_⟩
   replace hw := hbkks67 _ _ hw71
   intro a hs1; replace hs : Slots a 54 [(7, .slice Aa15 l65.length cc16), (8, .slice Aa63 t68.length cc64)] := by rw [slices_Reverse_int_int.len hx69]; exact hs1.kx
   clear hs1
   refine go_end (hK66 _ _ ?_)
   refine go_sp [7, 8] [(4, .slice Aa15 l65.length cc16), (5, .slice Aa63 t68.length cc64), (6, .int .i64 0)] hs ?_; clear hs; intro a hs
   refine wp_ret ?_
   refine ng_ret ?_
   obtain rfl := Option.some.inj H
   replace hw := hw.up 1
   refine ret3 (t1 := 4) (v1 := .slice Aa15 l65.length cc16) (t2 := 5) (v2 := .slice Aa63 t68.length cc64) (t3 := 6) (v3 := .int .i64 0) hs (by kernel_rfl) (by kernel_rfl) (by kernel_rfl) (by kernel_rfl) ?_
   exact ⟨Aa15, cc16, Aa63, cc64, rfl, hw.only 2⟩
  clear H
  refine go_loop (σ := (List Int) × (List Int) × Int) (fun σ a w => ∃ Aa27, ∃ cc28, Slots a 54 [(1, .int .i64 σ.2.2), (7, .slice Aa15 σ.1.length cc16), (8, .slice Aa27 σ.2.1.length cc28)] ∧ St [] w0 w [own 3 (eI .i64) Aa27 cc28 σ.2.1, own 37 (eI .u32) Aa15 cc16 σ.1]) hl24 (by exact ⟨none, 0, hs.kx, hw⟩) ?_
  rintro ⟨l25, l26, v29⟩ a w ⟨Aa27, cc28, hs, hw⟩ o H hr24
  replace hs : Slots a 54 [(1, .int .i64 v29), (7, .slice Aa15 l25.length cc16), (8, .slice Aa27 l26.length cc28)] := hs
  replace hw : St [] w0 w [own 3 (eI .i64) Aa27 cc28 l26, own 37 (eI .u32) Aa15 cc16 l25] := hw
  replace H : chain_Unpack.b24 l25 l26 v29 = some o := H
  unfold chain_Unpack.b24 at H
  refine wp_block ?_
  refine go_sp [1] [(9, .int .i64 (w64 (v29 - 1)))] hs ?_; clear hs; intro a hs
  refine go_seq_k fun K31 hK31 => ?_
  refine wp_block ?_
  refine go_sp [] [(22, .bool (decide ((w64 (v29 - 1)) < 0)))] hs ?_; clear hs; intro a hs
  refine go_cond hs (decide ((w64 (v29 - 1)) < 0)) (fun hc => ?_) fun hc => ?_
  ·replace H := ite_t H (of_decide_eq_true hc)
   have hb33 := hc
   rw [hb33] at hs
   refine wp_exit ?_
   refine ib_exit ?_ rfl
   refine th_exit ?_
   refine ib_exit ?_ rfl
   refine th_exit ?_
   refine in_block ?_
   replace hw := hw.up 1
   replace hw := hw.up 1
   rw [← hr24 _ (Option.some.inj H).symm] at HX24
   exact hJ3 Aa27 cc28 l26 l25 _ _ hs.kx hw HX24
  ·replace H := ite_f H (of_decide_eq_false hc)
   have hb34 := hc
   rw [hb34] at hs
   refine go_sk fun K35 hK35 => ?_
   refine go_pvs 2 [22] [(26, .slice Aa15 l25.length cc16), (27, .int .i64 (w64 (v29 - 1)))] hs ?_; clear hs; intro a hs
   obtain ⟨hp36, H⟩ := ite_only H
   obtain ⟨ad37, rfl⟩ := (Rd.of_own (hw.up 1)).some hp36.1 hp36.2
   refine go_run hs (by rfl) (x_idx (T := 37) (sz := 1) (a := ad37) (n := l25.length) (cap := cc16) (k := .i64) (i := (w64 (v29 - 1))) hp36) [26, 27] ?_; clear hs; intro a hs
   refine go_run hs (by rfl) (x_ld (off := 0) (p := ad37.add ((w64 (v29 - 1)).toNat * 1)) (v := .int .u32 (ix (eI .u32).d l25 (w64 (v29 - 1)))) (Rd.of_own (hw.up 1)) hp36 rfl) [28] ?_; clear hs; intro a hs
   refine go_pvs 9 [29] [(25, .bool (decide ((w64 (band .u32 (ix (eI .u32).d l25 (w64 (v29 - 1))) 65535)) > (w64 (v29 - 1)))))] hs ?_; clear hs; intro a hs
   refine go_end (hK35 _ _ ?_)
   refine go_cond hs (decide ((w64 (band .u32 (ix (eI .u32).d l25 (w64 (v29 - 1))) 65535)) > (w64 (v29 - 1)))) (fun hc => ?_) fun hc => ?_
   ·replace H := ite_t H (of_decide_eq_true hc)
    have hb38 := hc
    rw [hb38] at hs
    refine go_sp [7, 8, 9, 25] [(4, .slice none 0 0), (5, .slice none 0 0), (6, .int .i64 10)] hs ?_; clear hs; intro a hs
    refine wp_ret ?_
    refine ib_ret ?_
    refine th_ret ?_
    refine ib_ret ?_
    refine th_ret ?_
    refine ib_ret ?_
    refine th_ret ?_
    refine ng_ret ?_
    rw [← hr24 _ (Option.some.inj H).symm] at HX24
    replace H : some (([] : List Int), ([] : List Int), 10) = some r := HX24
    obtain rfl := Option.some.inj H
    replace hw := St.own_nil hw 37 (eI .u32)
    replace hw := St.own_nil hw 3 (eI .i64)
    replace hw := hw.up 1
    refine ret3 (t1 := 4) (v1 := .slice none 0 0) (t2 := 5) (v2 := .slice none 0 0) (t3 := 6) (v3 := .int .i64 10) hs (by kernel_rfl) (by kernel_rfl) (by kernel_rfl) (by kernel_rfl) ?_
    exact ⟨none, 0, none, 0, rfl, hw.only 2⟩
   ·replace H := ite_f H (of_decide_eq_false hc)
    have hb42 := hc
    rw [hb42] at hs
    refine wp_skip ?_
    refine ib_norm ?_
    refine hK31 _ _ ?_
    refine go_sk fun K43 hK43 => ?_
    refine go_pvs 2 [25] [(34, .slice (some ad37) l25.length cc16), (35, .int .i64 (w64 (v29 - 1)))] hs ?_; clear hs; intro a hs
    obtain ⟨hp44, H⟩ := ite_only H
    refine go_run hs (by rfl) (x_idx (T := 37) (sz := 1) (a := ad37) (n := l25.length) (cap := cc16) (k := .i64) (i := (w64 (v29 - 1))) hp44) [34, 35] ?_; clear hs; intro a hs
    refine go_run hs (by rfl) (x_ld (off := 0) (p := ad37.add ((w64 (v29 - 1)).toNat * 1)) (v := .int .u32 (ix (eI .u32).d l25 (w64 (v29 - 1)))) (Rd.of_own (hw.up 1)) hp44 rfl) [36] ?_; clear hs; intro a hs
    refine go_pvs 7 [37] [(1, .int .i64 (w64 (band .u32 (ix (eI .u32).d l25 (w64 (v29 - 1))) 65535)))] hs ?_; clear hs; intro a hs
    obtain ⟨y45, hy45, H⟩ := nm_some H
    replace hs : Slots a 54 [(1, .int .i64 y45), (7, .slice (some ad37) l25.length cc16), (8, .slice Aa27 l26.length cc28), (9, .int .i64 (w64 (v29 - 1)))] := by rw [hy45]; exact hs.kx
    refine go_end (hK43 _ _ ?_)
    refine go_sk fun K46 hK46 => ?_
    refine go_pvs 2 [] [(40, .slice (some ad37) l25.length cc16), (41, .int .i64 (w64 (v29 - 1)))] hs ?_; clear hs; intro a hs
    obtain ⟨hp47, H⟩ := ite_only H
    refine go_run hs (by rfl) (x_idx (T := 37) (sz := 1) (a := ad37) (n := l25.length) (cap := cc16) (k := .i64) (i := (w64 (v29 - 1))) hp47) [] ?_; clear hs; intro a hs
    refine go_run hs (by rfl) (x_ld (off := 0) (p := ad37.add ((w64 (v29 - 1)).toNat * 1)) (v := .int .u32 (ix (eI .u32).d l25 (w64 (v29 - 1)))) (Rd.of_own (hw.up 1)) hp47 rfl) [42] ?_; clear hs; intro a hs
    refine go_pvs 5 [43] [(44, .int .u32 ((ix (eI .u32).d l25 (w64 (v29 - 1))).fdiv (2 ^ 16)))] hs ?_; clear hs; intro a hs
    obtain ⟨hp48, H⟩ := ite_only H
    refine go_run hs (by rfl) (x_idx (T := 37) (sz := 1) (a := ad37) (n := l25.length) (cap := cc16) (k := .i64) (i := (w64 (v29 - 1))) hp48) [40, 41] ?_; clear hs; intro a hs
    replace hw := hw.up 1
    obtain ⟨wd49, hx50, hw⟩ := x_put (P := Tryd.prog) (ty := 0) (t := 37) (x := (Operand.tmp 45)) (y := (Operand.tmp 44)) (off := 0) (p := ad37.add ((w64 (v29 - 1)).toNat * 1)) (v := .int .u32 ((ix (eI .u32).d l25 (w64 (v29 - 1))).fdiv (2 ^ 16))) (vs := [.int .u32 ((ix (eI .u32).d l25 (w64 (v29 - 1))).fdiv (2 ^ 16))]) (i := (w64 (v29 - 1))) (e' := ((ix (eI .u32).d l25 (w64 (v29 - 1))).fdiv (2 ^ 16) : Int)) hs hw rfl hp48.1 hp48.2 (by kernel_rfl) rfl (by kernel_rfl) rfl (by kernel_rfl) (Nat.le_of_ble_eq_true rfl) (by simp [Value.oneCell']) (by kernel_rfl)
    refine go_unit hs (by rfl) hx50 [44, 45] ?_; clear hs; intro a hs
    replace hs : Slots a 54 [(1, .int .i64 y45), (7, .slice (some ad37) (l25.set ((w64 (v29 - 1)) : Int).toNat ((ix (eI .u32).d l25 (w64 (v29 - 1))).fdiv (2 ^ 16))).length cc16), (8, .slice Aa27 l26.length cc28), (9, .int .i64 (w64 (v29 - 1)))] := by rw [show (l25.set ((w64 (v29 - 1)) : Int).toNat ((ix (eI .u32).d l25 (w64 (v29 - 1))).fdiv (2 ^ 16))).length = (l25).length from List.length_set]; exact hs.kx
    refine go_end (hK46 _ _ ?_)
    refine go_region ?_
    refine go_pvs 2 [8, 9] [(46, .slice Aa27 l26.length cc28), (47, .int .i64 (w64 (v29 - 1)))] hs ?_; clear hs; intro a hs
    obtain ⟨Aa51, cc52, wd53, hx54, hw⟩ := n_lit (P := Tryd.prog) (t := 23) (ty := 23) (T := 3) (len := 1) (parts := #[(0, (Operand.tmp 47))]) (z := .int .i64 0) (bytes := 8) (cells := #[.int .i64 (w64 (v29 - 1))]) hs hw (eI .i64) ([w64 (v29 - 1)] : List Int) (by kernel_rfl) (by kernel_rfl) (by kernel_rfl) (by kernel_rfl) (by kernel_rfl) (by kernel_rfl) (by kernel_rfl)
    refine go_run hs (by rfl) hx54 [47] ?_; clear hs; intro a hs
    obtain ⟨hp56, H⟩ := ite_only H
    have hsrc61 : Src Tryd.prog (eI .i64).sz 23 (.slice Aa51 ([w64 (v29 - 1)] : List Int).length cc52) ([w64 (v29 - 1)] : List Int).length (([w64 (v29 - 1)] : List Int).flatMap (eI .i64).enc) _ := (Src.of_rd (E := (eI .i64)) (e' := 3) (by kernel_rfl) (Rd.of_own (hw.up 0)))
    replace hw := hw.up 2
    obtain ⟨Aa57, cc58, wd59, hx60, hw⟩ := x_append (P := Tryd.prog) (t := 23) (tx := 23) (ty := 23) (x := (Operand.tmp 46)) (y := (Operand.tmp 48)) (z := .int .i64 0) (bytes := 8) (l2 := ([w64 (v29 - 1)] : List Int)) hs hw (by kernel_rfl) (by kernel_rfl) (by kernel_rfl) (by kernel_rfl) (by kernel_rfl) hsrc61 (by omega) (by omega)
    refine go_run hs (by rfl) hx60 [46, 48] ?_; clear hs; intro a hs
    refine go_pvs 5 [49] [(8, .slice Aa57 (l26 ++ ([w64 (v29 - 1)] : List Int)).length cc58)] hs ?_; clear hs; intro a hs
    refine go_end ?_
    refine ib_norm ?_
    replace hw := hw.up 2
    replace hw := hw.up 1
    replace hw := hw.only 2
    exact round_end (l25.set ((w64 (v29 - 1)) : Int).toNat ((ix (eI .u32).d l25 (w64 (v29 - 1))).fdiv (2 ^ 16)), l26 ++ ([w64 (v29 - 1)] : List Int), y45) (Option.some.inj H).symm ⟨Aa57, cc58, hs.kx, hw⟩
 refine go_seq_k fun K3 hK3 => ?_
 have hJ1 : ∀ (v5 : Bool) (a : Act) (w : World), Slots a 54 [(0, .slice A0 l0.length c0), (1, .int .i64 a1), (17, .bool v5)] → St [] w0 w [] → chain_Unpack.j1 l0 a1 v5 = some r → K3 a w := by
  intro v5 a w hs hw H
  unfold chain_Unpack.j1 at H
  refine hK3 _ _ ?_
  refine go_cond hs v5 (fun hc => ?_) fun hc => ?_
  ·replace H := ite_t H hc
   have hb6 := hc
   rw [hb6] at hs
   refine go_sp [0, 1, 17] [(4, .slice none 0 0), (5, .slice none 0 0), (6, .int .i64 10)] hs ?_; clear hs; intro a hs
   refine wp_ret ?_
   refine th_ret ?_
   refine ng_ret ?_
   obtain rfl := Option.some.inj H
   replace hw := St.own_nil hw 37 (eI .u32)
   replace hw := St.own_nil hw 3 (eI .i64)
   replace hw := hw.up 1
   refine ret3 (t1 := 4) (v1 := .slice none 0 0) (t2 := 5) (v2 := .slice none 0 0) (t3 := 6) (v3 := .int .i64 10) hs (by kernel_rfl) (by kernel_rfl) (by kernel_rfl) (by kernel_rfl) ?_
   exact ⟨none, 0, none, 0, rfl, hw.only 2⟩
  ·replace H := ite_f H (ff hc)
   have hb10 := hc
   rw [hb10] at hs
   refine wp_skip ?_
   exact hJ2 _ _ hs.kx hw H
 refine go_region ?_
 refine go_pvs 3 [] [(12, .bool (decide (a1 < 0)))] hs ?_; clear hs; intro a hs
 cases hb4 : (decide (a1 < 0))
 ·replace H := ite_f H (of_decide_eq_false hb4)
  rw [hb4] at hs
  refine go_pvs 8 [12] [(17, .bool (decide (a1 > (l0.length : Int))))] hs ?_; clear hs; intro a hs
  refine go_end ?_
  exact hJ1 (decide (a1 > (l0.length : Int))) _ _ hs.kx hw H
 ·replace H := ite_t H (of_decide_eq_true hb4)
  rw [hb4] at hs
  refine go_pvs 8 [12] [(17, .bool true)] hs ?_; clear hs; intro a hs
  refine go_end ?_
  exact hJ1 true _ _ hs.kx hw H

/-! rivet/rivetref08.Unpack: function 53 -/
noncomputable def rivetref08_Unpack.b30 (l31 : List Int) (l32 : List Int) (v35 : Int) : Option ((List Int) × (List Int) × Int ⊕ (Ex ((List Int) × (List Int) × Int) ((List Int) × (List Int)))) := (if v35 > 0 then (if 0 ≤ (w64 (v35 - 1)) ∧ (w64 (v35 - 1)) < (l31.length : Int) then (nm (ix (eI .u32).d l31 (w64 (v35 - 1))) fun y43 => (if (w64 (y43.tmod 65536)) > (w64 (v35 - 1)) then some (.inr (.ret (([] : List Int), ([] : List Int), 10))) else (if 0 ≤ (w64 (v35 - 1)) ∧ (w64 (v35 - 1)) < (l31.length : Int) then (if ([w64 (v35 - 1)] : List Int).length + l32.length ≤ 17592186044416 then some (.inl (l31.set ((w64 (v35 - 1)) : Int).toNat (wu32 (y43.tdiv 65536)), ([w64 (v35 - 1)] : List Int) ++ l32, w64 (y43.tmod 65536))) else none) else none))) else none) else some (.inr (.done (l32, l31))))
noncomputable def rivetref08_Unpack.j3 (l69 : List Int) (l72 : List Int) : Option ((List Int) × (List Int) × Int) := some (l72, l69, 0)
noncomputable def rivetref08_Unpack.j2 (l0 : List Int) (a1 : Int) : Option ((List Int) × (List Int) × Int) := (if ([] : List Int).length + l0.length ≤ 35184372088832 then ((loopO (fun (σ : (List Int) × (List Int) × Int) => rivetref08_Unpack.b30 σ.1 σ.2.1 σ.2.2) (([] : List Int) ++ l0, ([] : List Int), a1)).bind fun e => match e with | .ret x => some x | .done e => rivetref08_Unpack.j3 e.1 e.2) else none)
noncomputable def rivetref08_Unpack.j1 (l0 : List Int) (a1 : Int) (v5 : Bool) : Option ((List Int) × (List Int) × Int) := (if v5 = true then some (([] : List Int), ([] : List Int), 10) else rivetref08_Unpack.j2 l0 a1)
noncomputable def rivetref08_Unpack (l0 : List Int) (a1 : Int) : Option ((List Int) × (List Int) × Int) := (if a1 < 0 then rivetref08_Unpack.j1 l0 a1 true else rivetref08_Unpack.j1 l0 a1 (decide (a1 > (l0.length : Int))))
set_option maxRecDepth 100000 in
set_option maxHeartbeats 4000000 in
theorem rivetref08_Unpack.calls (A0 : Option Addr) (c0 : Nat) (l0 : List Int) (a1 : Int) (r : (List Int) × (List Int) × Int) (w0 : World) (hr0 : Rd w0 (eI .u32) A0 c0 l0) (H : rivetref08_Unpack l0 a1 = some r) :
    Calls Tryd.prog 53 #[.slice A0 l0.length c0, .int .i64 a1] w0 fun e w' => ∃ A_0 c_0, ∃ A_1 c_1, e = .returned (.tuple #[.slice A_0 r.1.length c_0, .slice A_1 r.2.1.length c_1, .int .i64 r.2.2]) ∧ St [] w0 w' [own 37 (eI .u32) A_0 c_0 r.1, own 3 (eI .i64) A_1 c_1 r.2.1] := by
 have hw : St [] w0 w0 [] := St.nil w0
 unfold rivetref08_Unpack at H
 refine go_fn Tryd.func53 rfl Tryd.ntmps53 ?_; intro a hs
 refine go_sp [] [] hs ?_; clear hs; intro a hs
 refine go_seq_k fun K2 hK2 => ?_
 have hJ2 : ∀ (a : Act) (w : World), Slots a 50 [(0, .slice A0 l0.length c0), (1, .int .i64 a1)] → St [] w0 w [] → rivetref08_Unpack.j2 l0 a1 = some r → K2 a w := by
  intro a w hs hw H
  unfold rivetref08_Unpack.j2 at H
  refine hK2 _ _ ?_
  refine go_sk fun K11 hK11 => ?_
  obtain ⟨Aa12, cc13, wd14, hx15, hw⟩ := n_lit0 (P := Tryd.prog) (t := 22) (ty := 22) (T := 37) hs hw (eI .u32) (by kernel_rfl) (by kernel_rfl)
  refine go_run hs (by rfl) hx15 [] ?_; clear hs; intro a hs
  refine go_pvs 2 [0] [(21, .slice A0 l0.length c0)] hs ?_; clear hs; intro a hs
  obtain ⟨hp17, H⟩ := ite_only H
  have hsrc22 : Src Tryd.prog (eI .u32).sz 22 (.slice A0 l0.length c0) l0.length (l0.flatMap (eI .u32).enc) _ := (Src.of_rd (E := (eI .u32)) (e' := 37) (by kernel_rfl) (hr0.old hw))
  obtain ⟨Aa18, cc19, wd20, hx21, hw⟩ := x_append (P := Tryd.prog) (t := 22) (tx := 22) (ty := 22) (x := (Operand.tmp 20)) (y := (Operand.tmp 21)) (z := .int .u32 0) (bytes := 4) (l2 := l0) hs hw (by kernel_rfl) (by kernel_rfl) (by kernel_rfl) (by kernel_rfl) (by kernel_rfl) hsrc22 (by omega) (by omega)
  refine go_run hs (by rfl) hx21 [20, 21] ?_; clear hs; intro a hs
  refine go_pvs 4 [22] [(7, .slice Aa18 (([] : List Int) ++ l0).length cc19)] hs ?_; clear hs; intro a hs
  refine go_end (hK11 _ _ ?_)
  refine go_sk fun K23 hK23 => ?_
  obtain ⟨Aa24, cc25, wd26, hx27, hw⟩ := n_lit0 (P := Tryd.prog) (t := 23) (ty := 23) (T := 3) hs hw (eI .i64) (by kernel_rfl) (by kernel_rfl)
  refine go_run hs (by rfl) hx27 [] ?_; clear hs; intro a hs
  refine go_pvs 2 [23] [(8, .slice Aa24 ([] : List Int).length cc25)] hs ?_; clear hs; intro a hs
  refine go_end (hK23 _ _ ?_)
  refine go_seq_k fun K29 hK29 => ?_
  refine wp_block ?_
  obtain ⟨e30, hl30, HX30⟩ := bind_some H
  have hJ3 : ∀ (Aa70 : Option Addr) (cc71 : Nat) (l69 : List Int) (l72 : List Int) (a : Act) (w : World), Slots a 50 [(7, .slice Aa18 l72.length cc19), (8, .slice Aa70 l69.length cc71)] → St [] w0 w [own 3 (eI .i64) Aa70 cc71 l69, own 37 (eI .u32) Aa18 cc19 l72] → rivetref08_Unpack.j3 l69 l72 = some r → K29 a w := by
   intro Aa70 cc71 l69 l72 a w hs hw H
   unfold rivetref08_Unpack.j3 at H
   refine hK29 _ _ ?_
   refine go_sp [7, 8] [(4, .slice Aa18 l72.length cc19), (5, .slice Aa70 l69.length cc71), (6, .int .i64 0)] hs ?_; clear hs; intro a hs
   refine wp_ret ?_
   obtain rfl := Option.some.inj H
   replace hw := hw.up 1
   refine ret3 (t1 := 4) (v1 := .slice Aa18 l72.length cc19) (t2 := 5) (v2 := .slice Aa70 l69.length cc71) (t3 := 6) (v3 := .int .i64 0) hs (by kernel_rfl) (by kernel_rfl) (by kernel_rfl) (by kernel_rfl) ?_
   exact ⟨Aa18, cc19, Aa70, cc71, rfl, hw.only 2⟩
  clear H
  refine go_loop (σ := (List Int) × (List Int) × Int) (fun σ a w => ∃ Aa33, ∃ cc34, Slots a 50 [(1, .int .i64 σ.2.2), (7, .slice Aa18 σ.1.length cc19), (8, .slice Aa33 σ.2.1.length cc34)] ∧ St [] w0 w [own 3 (eI .i64) Aa33 cc34 σ.2.1, own 37 (eI .u32) Aa18 cc19 σ.1]) hl30 (by exact ⟨Aa24, cc25, hs.kx, hw⟩) ?_
  rintro ⟨l31, l32, v35⟩ a w ⟨Aa33, cc34, hs, hw⟩ o H hr30
  replace hs : Slots a 50 [(1, .int .i64 v35), (7, .slice Aa18 l31.length cc19), (8, .slice Aa33 l32.length cc34)] := hs
  replace hw : St [] w0 w [own 3 (eI .i64) Aa33 cc34 l32, own 37 (eI .u32) Aa18 cc19 l31] := hw
  replace H : rivetref08_Unpack.b30 l31 l32 v35 = some o := H
  unfold rivetref08_Unpack.b30 at H
  refine go_seq_k fun K36 hK36 => ?_
  refine go_sp [] [(25, .bool (decide (v35 > 0)))] hs ?_; clear hs; intro a hs
  refine go_cond hs (decide (v35 > 0)) (fun hc => ?_) fun hc => ?_
  ·replace H := ite_t H (of_decide_eq_true hc)
   have hb38 := hc
   rw [hb38] at hs
   refine wp_skip ?_
   refine hK36 _ _ ?_
   refine wp_block ?_
   refine go_sp [1, 25] [(9, .int .i64 (w64 (v35 - 1)))] hs ?_; clear hs; intro a hs
   refine go_sk fun K40 hK40 => ?_
   refine go_pvs 2 [] [(28, .slice Aa18 l31.length cc19), (29, .int .i64 (w64 (v35 - 1)))] hs ?_; clear hs; intro a hs
   obtain ⟨hp41, H⟩ := ite_only H
   obtain ⟨ad42, rfl⟩ := (Rd.of_own (hw.up 1)).some hp41.1 hp41.2
   refine go_run hs (by rfl) (x_idx (T := 37) (sz := 1) (a := ad42) (n := l31.length) (cap := cc19) (k := .i64) (i := (w64 (v35 - 1))) hp41) [28, 29] ?_; clear hs; intro a hs
   refine go_run hs (by rfl) (x_ld (off := 0) (p := ad42.add ((w64 (v35 - 1)).toNat * 1)) (v := .int .u32 (ix (eI .u32).d l31 (w64 (v35 - 1)))) (Rd.of_own (hw.up 1)) hp41 rfl) [30] ?_; clear hs; intro a hs
   refine go_pvs 5 [31] [(10, .int .u32 (ix (eI .u32).d l31 (w64 (v35 - 1))))] hs ?_; clear hs; intro a hs
   obtain ⟨y43, hy43, H⟩ := nm_some H
   replace hs : Slots a 50 [(7, .slice (some ad42) l31.length cc19), (8, .slice Aa33 l32.length cc34), (9, .int .i64 (w64 (v35 - 1))), (10, .int .u32 y43)] := by rw [hy43]; exact hs.kx
   refine go_end (hK40 _ _ ?_)
   refine go_sp [] [(11, .int .i64 (w64 (y43.tmod 65536)))] hs ?_; clear hs; intro a hs
   refine go_seq_k fun K45 hK45 => ?_
   refine go_sp [] [(37, .bool (decide ((w64 (y43.tmod 65536)) > (w64 (v35 - 1)))))] hs ?_; clear hs; intro a hs
   refine go_cond hs (decide ((w64 (y43.tmod 65536)) > (w64 (v35 - 1)))) (fun hc => ?_) fun hc => ?_
   ·replace H := ite_t H (of_decide_eq_true hc)
    have hb47 := hc
    rw [hb47] at hs
    refine go_sp [7, 8, 9, 10, 11, 37] [(4, .slice none 0 0), (5, .slice none 0 0), (6, .int .i64 10)] hs ?_; clear hs; intro a hs
    refine wp_ret ?_
    refine th_ret ?_
    refine ib_ret ?_
    refine th_ret ?_
    refine ib_ret ?_
    refine th_ret ?_
    rw [← hr30 _ (Option.some.inj H).symm] at HX30
    replace H : some (([] : List Int), ([] : List Int), 10) = some r := HX30
    obtain rfl := Option.some.inj H
    replace hw := St.own_nil hw 37 (eI .u32)
    replace hw := St.own_nil hw 3 (eI .i64)
    replace hw := hw.up 1
    refine ret3 (t1 := 4) (v1 := .slice none 0 0) (t2 := 5) (v2 := .slice none 0 0) (t3 := 6) (v3 := .int .i64 10) hs (by kernel_rfl) (by kernel_rfl) (by kernel_rfl) (by kernel_rfl) ?_
    exact ⟨none, 0, none, 0, rfl, hw.only 2⟩
   ·replace H := ite_f H (of_decide_eq_false hc)
    have hb51 := hc
    rw [hb51] at hs
    refine wp_skip ?_
    refine hK45 _ _ ?_
    refine go_sk fun K52 hK52 => ?_
    refine go_pvs 4 [10, 37] [(38, .slice (some ad42) l31.length cc19), (39, .int .i64 (w64 (v35 - 1))), (41, .int .u32 (wu32 (y43.tdiv 65536)))] hs ?_; clear hs; intro a hs
    obtain ⟨hp53, H⟩ := ite_only H
    refine go_run hs (by rfl) (x_idx (T := 37) (sz := 1) (a := ad42) (n := l31.length) (cap := cc19) (k := .i64) (i := (w64 (v35 - 1))) hp53) [38, 39] ?_; clear hs; intro a hs
    replace hw := hw.up 1
    obtain ⟨wd54, hx55, hw⟩ := x_put (P := Tryd.prog) (ty := 0) (t := 37) (x := (Operand.tmp 42)) (y := (Operand.tmp 41)) (off := 0) (p := ad42.add ((w64 (v35 - 1)).toNat * 1)) (v := .int .u32 (wu32 (y43.tdiv 65536))) (vs := [.int .u32 (wu32 (y43.tdiv 65536))]) (i := (w64 (v35 - 1))) (e' := (wu32 (y43.tdiv 65536) : Int)) hs hw rfl hp53.1 hp53.2 (by kernel_rfl) rfl (by kernel_rfl) rfl (by kernel_rfl) (Nat.le_of_ble_eq_true rfl) (by simp [Value.oneCell']) (by kernel_rfl)
    refine go_unit hs (by rfl) hx55 [41, 42] ?_; clear hs; intro a hs
    replace hs : Slots a 50 [(7, .slice (some ad42) (l31.set ((w64 (v35 - 1)) : Int).toNat (wu32 (y43.tdiv 65536))).length cc19), (8, .slice Aa33 l32.length cc34), (9, .int .i64 (w64 (v35 - 1))), (11, .int .i64 (w64 (y43.tmod 65536)))] := by rw [show (l31.set ((w64 (v35 - 1)) : Int).toNat (wu32 (y43.tdiv 65536))).length = (l31).length from List.length_set]; exact hs.kx
    refine go_end (hK52 _ _ ?_)
    refine go_sk fun K56 hK56 => ?_
    refine go_pvs 1 [9] [(43, .int .i64 (w64 (v35 - 1)))] hs ?_; clear hs; intro a hs
    obtain ⟨Aa57, cc58, wd59, hx60, hw⟩ := n_lit (P := Tryd.prog) (t := 23) (ty := 23) (T := 3) (len := 1) (parts := #[(0, (Operand.tmp 43))]) (z := .int .i64 0) (bytes := 8) (cells := #[.int .i64 (w64 (v35 - 1))]) hs hw (eI .i64) ([w64 (v35 - 1)] : List Int) (by kernel_rfl) (by kernel_rfl) (by kernel_rfl) (by kernel_rfl) (by kernel_rfl) (by kernel_rfl) (by kernel_rfl)
    refine go_run hs (by rfl) hx60 [43] ?_; clear hs; intro a hs
    refine go_pvs 3 [8] [(45, .slice Aa33 l32.length cc34)] hs ?_; clear hs; intro a hs
    obtain ⟨hp62, H⟩ := ite_only H
    have hsrc67 : Src Tryd.prog (eI .i64).sz 23 (.slice Aa33 l32.length cc34) l32.length (l32.flatMap (eI .i64).enc) _ := (Src.of_rd (E := (eI .i64)) (e' := 3) (by kernel_rfl) (Rd.of_own (hw.up 2)))
    obtain ⟨Aa63, cc64, wd65, hx66, hw⟩ := x_append (P := Tryd.prog) (t := 23) (tx := 23) (ty := 23) (x := (Operand.tmp 44)) (y := (Operand.tmp 45)) (z := .int .i64 0) (bytes := 8) (l2 := l32) hs hw (by kernel_rfl) (by kernel_rfl) (by kernel_rfl) (by kernel_rfl) (by kernel_rfl) hsrc67 (by omega) (by omega)
    refine go_run hs (by rfl) hx66 [44, 45] ?_; clear hs; intro a hs
    refine go_pvs 5 [46] [(8, .slice Aa63 (([w64 (v35 - 1)] : List Int) ++ l32).length cc64)] hs ?_; clear hs; intro a hs
    refine go_end (hK56 _ _ ?_)
    refine go_plain [11] [(1, .int .i64 (w64 (y43.tmod 65536)))] hs ?_; clear hs; intro a hs
    refine ib_norm ?_
    replace hw := hw.up 1
    replace hw := hw.up 1
    replace hw := hw.only 2
    exact round_end (l31.set ((w64 (v35 - 1)) : Int).toNat (wu32 (y43.tdiv 65536)), ([w64 (v35 - 1)] : List Int) ++ l32, w64 (y43.tmod 65536)) (Option.some.inj H).symm ⟨Aa63, cc64, hs.kx, hw⟩
  ·replace H := ite_f H (of_decide_eq_false hc)
   have hb68 := hc
   rw [hb68] at hs
   refine wp_exit ?_
   refine th_exit ?_
   refine th_exit ?_
   refine in_block ?_
   replace hw := hw.up 1
   replace hw := hw.up 1
   rw [← hr30 _ (Option.some.inj H).symm] at HX30
   exact hJ3 Aa33 cc34 l32 l31 _ _ hs.kx hw HX30
 refine go_seq_k fun K3 hK3 => ?_
 have hJ1 : ∀ (v5 : Bool) (a : Act) (w : World), Slots a 50 [(0, .slice A0 l0.length c0), (1, .int .i64 a1), (19, .bool v5)] → St [] w0 w [] → rivetref08_Unpack.j1 l0 a1 v5 = some r → K3 a w := by
  intro v5 a w hs hw H
  unfold rivetref08_Unpack.j1 at H
  refine hK3 _ _ ?_
  refine go_cond hs v5 (fun hc => ?_) fun hc => ?_
  ·replace H := ite_t H hc
   have hb6 := hc
   rw [hb6] at hs
   refine go_sp [0, 1, 19] [(4, .slice none 0 0), (5, .slice none 0 0), (6, .int .i64 10)] hs ?_; clear hs; intro a hs
   refine wp_ret ?_
   refine th_ret ?_
   obtain rfl := Option.some.inj H
   replace hw := St.own_nil hw 37 (eI .u32)
   replace hw := St.own_nil hw 3 (eI .i64)
   replace hw := hw.up 1
   refine ret3 (t1 := 4) (v1 := .slice none 0 0) (t2 := 5) (v2 := .slice none 0 0) (t3 := 6) (v3 := .int .i64 10) hs (by kernel_rfl) (by kernel_rfl) (by kernel_rfl) (by kernel_rfl) ?_
   exact ⟨none, 0, none, 0, rfl, hw.only 2⟩
  ·replace H := ite_f H (ff hc)
   have hb10 := hc
   rw [hb10] at hs
   refine wp_skip ?_
   exact hJ2 _ _ hs.kx hw H
 refine go_region ?_
 refine go_pvs 3 [] [(14, .bool (decide (a1 < 0)))] hs ?_; clear hs; intro a hs
 cases hb4 : (decide (a1 < 0))
 ·replace H := ite_f H (of_decide_eq_false hb4)
  rw [hb4] at hs
  refine go_pvs 8 [14] [(19, .bool (decide (a1 > (l0.length : Int))))] hs ?_; clear hs; intro a hs
  refine go_end ?_
  exact hJ1 (decide (a1 > (l0.length : Int))) _ _ hs.kx hw H
 ·replace H := ite_t H (of_decide_eq_true hb4)
  rw [hb4] at hs
  refine go_pvs 8 [14] [(19, .bool true)] hs ?_; clear hs; intro a hs
  refine go_end ?_
  exact hJ1 true _ _ hs.kx hw H

/-! rivet/rivetref08.Pack: function 45 -/
noncomputable def rivetref08_Pack.j1 (l56 : List Int) (v57 : Int) : Option ((List Int) × Int × Int) := some (l56, v57, 0)
noncomputable def rivetref08_Pack.b28 (l1 : List Int) (l29 : List Int) (v30 : Int) (v31 : Int) : Option ((List Int) × Int × Int ⊕ (Ex ((List Int) × Int × Int) ((List Int) × Int))) := (if v31 < (l1.length : Int) then (if 0 ≤ v31 ∧ v31 < (l1.length : Int) then (if 0 ≤ (ix (eI .i64).d l1 v31) ∧ (ix (eI .i64).d l1 v31) < (l29.length : Int) then (nm (ix (eI .u32).d l29 (ix (eI .i64).d l1 v31)) fun y41 => (if y41 > 65535 then some (.inr (.ret (([] : List Int), 0, 8))) else (if 0 ≤ v31 ∧ v31 < (l1.length : Int) then (if 0 ≤ (ix (eI .i64).d l1 v31) ∧ (ix (eI .i64).d l1 v31) < (l29.length : Int) then (if 0 ≤ v31 ∧ v31 < (l1.length : Int) then (nm (w64 ((ix (eI .i64).d l1 v31) + 1)) fun y54 => some (.inl (l29.set ((ix (eI .i64).d l1 v31) : Int).toNat (wu32 ((wu32 (y41 * 65536)) + (wu32 v30))), y54, w64 (v31 + 1)))) else none) else none) else none))) else none) else none) else some (.inr (.done (l29, v30))))
noncomputable def rivetref08_Pack (l0 : List Int) (l1 : List Int) : Option ((List Int) × Int × Int) := ((rivetref08_Rise l1 (l0.length : Int)).bind fun t5 => ((if t5 = true then (if ([] : List Int).length + l0.length ≤ 35184372088832 then ((loopO (fun (σ : (List Int) × Int × Int) => rivetref08_Pack.b28 l1 σ.1 σ.2.1 σ.2.2) (([] : List Int) ++ l0, 0, 0)).bind fun e => match e with | .ret x => some x | .done e => rivetref08_Pack.j1 e.1 e.2) else none) else some (([] : List Int), 0, 7))))
set_option maxRecDepth 100000 in
set_option maxHeartbeats 4000000 in
theorem rivetref08_Pack.calls (A0 : Option Addr) (c0 : Nat) (l0 : List Int) (A1 : Option Addr) (c1 : Nat) (l1 : List Int) (r : (List Int) × Int × Int) (w0 : World) (hr0 : Rd w0 (eI .u32) A0 c0 l0) (hr1 : Rd w0 (eI .i64) A1 c1 l1) (H : rivetref08_Pack l0 l1 = some r) :
    Calls Tryd.prog 45 #[.slice A0 l0.length c0, .slice A1 l1.length c1] w0 fun e w' => ∃ A_0 c_0, e = .returned (.tuple #[.slice A_0 r.1.length c_0, .int .i64 r.2.1, .int .i64 r.2.2]) ∧ St [] w0 w' [own 37 (eI .u32) A_0 c_0 r.1] := by
 have hw : St [] w0 w0 [] := St.nil w0
 unfold rivetref08_Pack at H
 refine go_fn Tryd.func45 rfl Tryd.ntmps45 ?_; intro a hs
 refine go_sp [] [] hs ?_; clear hs; intro a hs
 refine go_seq_k fun K2 hK2 => ?_
 refine go_sk fun K3 hK3 => ?_
 refine go_pvs 3 [] [(11, .slice A1 l1.length c1), (13, .int .i64 (l0.length : Int))] hs ?_; clear hs; intro a hs
 obtain ⟨t5, hx6, H⟩ := bind_some H
 refine go_call hs (by rfl) (rivetref08_Rise.calls A1 c1 l1 (l0.length : Int) t5 _ (hr1.old hw) hx6) ?_
 rintro e wd7 ⟨rfl, hw8⟩
 refine ⟨_, rfl, ?_⟩
 replace hw := hw.call hw8
 clear hs; intro a hs; replace hs := hs.rms [11, 13]
 refine go_pvs 5 [14] [(15, .bool (!t5))] hs ?_; clear hs; intro a hs
 refine go_end (hK3 _ _ ?_)
 refine go_cond hs (!t5) (fun hc => ?_) fun hc => ?_
 ·replace H := ite_f H (ff (nt hc))
  have hb9 := hc
  rw [hb9] at hs
  refine go_sp [0, 1, 15] [(4, .slice none 0 0), (5, .int .i64 0), (6, .int .i64 7)] hs ?_; clear hs; intro a hs
  refine wp_ret ?_
  refine th_ret ?_
  obtain rfl := Option.some.inj H
  replace hw := St.own_nil hw 37 (eI .u32)
  refine ret3 (t1 := 4) (v1 := .slice none 0 0) (t2 := 5) (v2 := .int .i64 0) (t3 := 6) (v3 := .int .i64 7) hs (by kernel_rfl) (by kernel_rfl) (by kernel_rfl) (by kernel_rfl) ?_
  exact ⟨none, 0, rfl, hw.only 1⟩
 ·replace H := ite_t H (nf hc)
  have hb12 := hc
  rw [hb12] at hs
  refine wp_skip ?_
  refine hK2 _ _ ?_
  refine go_sk fun K13 hK13 => ?_
  obtain ⟨Aa14, cc15, wd16, hx17, hw⟩ := n_lit0 (P := Tryd.prog) (t := 22) (ty := 22) (T := 37) hs hw (eI .u32) (by kernel_rfl) (by kernel_rfl)
  refine go_run hs (by rfl) hx17 [15] ?_; clear hs; intro a hs
  refine go_pvs 2 [0] [(17, .slice A0 l0.length c0)] hs ?_; clear hs; intro a hs
  obtain ⟨hp19, H⟩ := ite_only H
  have hsrc24 : Src Tryd.prog (eI .u32).sz 22 (.slice A0 l0.length c0) l0.length (l0.flatMap (eI .u32).enc) _ := (Src.of_rd (E := (eI .u32)) (e' := 37) (by kernel_rfl) (hr0.old hw))
  obtain ⟨Aa20, cc21, wd22, hx23, hw⟩ := x_append (P := Tryd.prog) (t := 22) (tx := 22) (ty := 22) (x := (Operand.tmp 16)) (y := (Operand.tmp 17)) (z := .int .u32 0) (bytes := 4) (l2 := l0) hs hw (by kernel_rfl) (by kernel_rfl) (by kernel_rfl) (by kernel_rfl) (by kernel_rfl) hsrc24 (by omega) (by omega)
  refine go_run hs (by rfl) hx23 [16, 17] ?_; clear hs; intro a hs
  refine go_pvs 4 [18] [(7, .slice Aa20 (([] : List Int) ++ l0).length cc21)] hs ?_; clear hs; intro a hs
  refine go_end (hK13 _ _ ?_)
  refine go_sp [] [(8, .int .i64 0)] hs ?_; clear hs; intro a hs
  refine go_seq_k fun K26 hK26 => ?_
  refine go_sp [] [(9, .int .i64 0)] hs ?_; clear hs; intro a hs
  refine wp_block ?_
  obtain ⟨e28, hl28, HX28⟩ := bind_some H
  have hJ1 : ∀ (l56 : List Int) (v57 : Int) (a : Act) (w : World), Slots a 52 [(7, .slice Aa20 l56.length cc21), (8, .int .i64 v57)] → St [] w0 w [own 37 (eI .u32) Aa20 cc21 l56] → rivetref08_Pack.j1 l56 v57 = some r → K26 a w := by
   intro l56 v57 a w hs hw H
   unfold rivetref08_Pack.j1 at H
   refine hK26 _ _ ?_
   refine go_sp [7, 8] [(4, .slice Aa20 l56.length cc21), (5, .int .i64 v57), (6, .int .i64 0)] hs ?_; clear hs; intro a hs
   refine wp_ret ?_
   obtain rfl := Option.some.inj H
   refine ret3 (t1 := 4) (v1 := .slice Aa20 l56.length cc21) (t2 := 5) (v2 := .int .i64 v57) (t3 := 6) (v3 := .int .i64 0) hs (by kernel_rfl) (by kernel_rfl) (by kernel_rfl) (by kernel_rfl) ?_
   exact ⟨Aa20, cc21, rfl, hw.only 1⟩
  clear H
  refine go_loop (σ := (List Int) × Int × Int) (fun σ a w => Slots a 52 [(1, .slice A1 l1.length c1), (7, .slice Aa20 σ.1.length cc21), (8, .int .i64 σ.2.1), (9, .int .i64 σ.2.2)] ∧ St [] w0 w [own 37 (eI .u32) Aa20 cc21 σ.1]) hl28 (by exact ⟨hs.kx, hw⟩) ?_
  rintro ⟨l29, v30, v31⟩ a w ⟨hs, hw⟩ o H hr28
  replace hs : Slots a 52 [(1, .slice A1 l1.length c1), (7, .slice Aa20 l29.length cc21), (8, .int .i64 v30), (9, .int .i64 v31)] := hs
  replace hw : St [] w0 w [own 37 (eI .u32) Aa20 cc21 l29] := hw
  replace H : rivetref08_Pack.b28 l1 l29 v30 v31 = some o := H
  unfold rivetref08_Pack.b28 at H
  refine go_seq_k fun K32 hK32 => ?_
  refine go_sp [] [(22, .bool (decide (v31 < (l1.length : Int))))] hs ?_; clear hs; intro a hs
  refine go_cond hs (decide (v31 < (l1.length : Int))) (fun hc => ?_) fun hc => ?_
  ·replace H := ite_t H (of_decide_eq_true hc)
   have hb34 := hc
   rw [hb34] at hs
   refine wp_skip ?_
   refine hK32 _ _ ?_
   refine go_seq_k fun K35 hK35 => ?_
   refine wp_block ?_
   refine go_sk fun K36 hK36 => ?_
   refine go_pvs 3 [22] [(25, .slice Aa20 l29.length cc21), (26, .slice A1 l1.length c1), (27, .int .i64 v31)] hs ?_; clear hs; intro a hs
   obtain ⟨hp37, H⟩ := ite_only H
   obtain ⟨ad38, rfl⟩ := (hr1.old hw).some hp37.1 hp37.2
   refine go_run hs (by rfl) (x_idx (T := 3) (sz := 1) (a := ad38) (n := l1.length) (cap := c1) (k := .i64) (i := v31) hp37) [26, 27] ?_; clear hs; intro a hs
   refine go_run hs (by rfl) (x_ld (off := 0) (p := ad38.add (v31.toNat * 1)) (v := .int .i64 (ix (eI .i64).d l1 v31)) (hr1.old hw) hp37 rfl) [28] ?_; clear hs; intro a hs
   obtain ⟨hp39, H⟩ := ite_only H
   obtain ⟨ad40, rfl⟩ := (Rd.of_own (hw.up 0)).some hp39.1 hp39.2
   refine go_run hs (by rfl) (x_idx (T := 37) (sz := 1) (a := ad40) (n := l29.length) (cap := cc21) (k := .i64) (i := (ix (eI .i64).d l1 v31)) hp39) [25, 29] ?_; clear hs; intro a hs
   refine go_run hs (by rfl) (x_ld (off := 0) (p := ad40.add ((ix (eI .i64).d l1 v31).toNat * 1)) (v := .int .u32 (ix (eI .u32).d l29 (ix (eI .i64).d l1 v31))) (Rd.of_own (hw.up 0)) hp39 rfl) [30] ?_; clear hs; intro a hs
   refine go_pvs 8 [31] [(10, .int .u32 (ix (eI .u32).d l29 (ix (eI .i64).d l1 v31)))] hs ?_; clear hs; intro a hs
   obtain ⟨y41, hy41, H⟩ := nm_some H
   replace hs : Slots a 52 [(1, .slice (some ad38) l1.length c1), (7, .slice (some ad40) l29.length cc21), (8, .int .i64 v30), (9, .int .i64 v31), (10, .int .u32 y41)] := by rw [hy41]; exact hs.kx
   refine go_end (hK36 _ _ ?_)
   refine go_seq_k fun K42 hK42 => ?_
   refine go_sp [] [(33, .bool (decide (y41 > 65535)))] hs ?_; clear hs; intro a hs
   refine go_cond hs (decide (y41 > 65535)) (fun hc => ?_) fun hc => ?_
   ·replace H := ite_t H (of_decide_eq_true hc)
    have hb44 := hc
    rw [hb44] at hs
    refine go_sp [1, 7, 8, 9, 10, 33] [(4, .slice none 0 0), (5, .int .i64 0), (6, .int .i64 8)] hs ?_; clear hs; intro a hs
    refine wp_ret ?_
    refine th_ret ?_
    refine ib_ret ?_
    refine th_ret ?_
    refine th_ret ?_
    refine ib_ret ?_
    refine th_ret ?_
    rw [← hr28 _ (Option.some.inj H).symm] at HX28
    replace H : some (([] : List Int), 0, 8) = some r := HX28
    obtain rfl := Option.some.inj H
    replace hw := St.own_nil hw 37 (eI .u32)
    refine ret3 (t1 := 4) (v1 := .slice none 0 0) (t2 := 5) (v2 := .int .i64 0) (t3 := 6) (v3 := .int .i64 8) hs (by kernel_rfl) (by kernel_rfl) (by kernel_rfl) (by kernel_rfl) ?_
    exact ⟨none, 0, rfl, hw.only 1⟩
   ·replace H := ite_f H (of_decide_eq_false hc)
    have hb47 := hc
    rw [hb47] at hs
    refine wp_skip ?_
    refine hK42 _ _ ?_
    refine go_sk fun K48 hK48 => ?_
    refine go_pvs 3 [33] [(34, .slice (some ad40) l29.length cc21), (35, .slice (some ad38) l1.length c1), (36, .int .i64 v31)] hs ?_; clear hs; intro a hs
    obtain ⟨hp49, H⟩ := ite_only H
    refine go_run hs (by rfl) (x_idx (T := 3) (sz := 1) (a := ad38) (n := l1.length) (cap := c1) (k := .i64) (i := v31) hp49) [35, 36] ?_; clear hs; intro a hs
    refine go_run hs (by rfl) (x_ld (off := 0) (p := ad38.add (v31.toNat * 1)) (v := .int .i64 (ix (eI .i64).d l1 v31)) (hr1.old hw) hp49 rfl) [37] ?_; clear hs; intro a hs
    refine go_pvs 10 [8, 10] [(43, .int .u32 (wu32 ((wu32 (y41 * 65536)) + (wu32 v30))))] hs ?_; clear hs; intro a hs
    obtain ⟨hp50, H⟩ := ite_only H
    refine go_run hs (by rfl) (x_idx (T := 37) (sz := 1) (a := ad40) (n := l29.length) (cap := cc21) (k := .i64) (i := (ix (eI .i64).d l1 v31)) hp50) [34, 38] ?_; clear hs; intro a hs
    obtain ⟨wd51, hx52, hw⟩ := x_put (P := Tryd.prog) (ty := 0) (t := 37) (x := (Operand.tmp 44)) (y := (Operand.tmp 43)) (off := 0) (p := ad40.add ((ix (eI .i64).d l1 v31).toNat * 1)) (v := .int .u32 (wu32 ((wu32 (y41 * 65536)) + (wu32 v30)))) (vs := [.int .u32 (wu32 ((wu32 (y41 * 65536)) + (wu32 v30)))]) (i := (ix (eI .i64).d l1 v31)) (e' := (wu32 ((wu32 (y41 * 65536)) + (wu32 v30)) : Int)) hs hw rfl hp50.1 hp50.2 (by kernel_rfl) rfl (by kernel_rfl) rfl (by kernel_rfl) (Nat.le_of_ble_eq_true rfl) (by simp [Value.oneCell']) (by kernel_rfl)
    refine go_unit hs (by rfl) hx52 [43, 44] ?_; clear hs; intro a hs
    replace hs : Slots a 52 [(1, .slice (some ad38) l1.length c1), (7, .slice (some ad40) (l29.set ((ix (eI .i64).d l1 v31) : Int).toNat (wu32 ((wu32 (y41 * 65536)) + (wu32 v30)))).length cc21), (9, .int .i64 v31)] := by rw [show (l29.set ((ix (eI .i64).d l1 v31) : Int).toNat (wu32 ((wu32 (y41 * 65536)) + (wu32 v30)))).length = (l29).length from List.length_set]; exact hs.kx
    refine go_end (hK48 _ _ ?_)
    refine go_region ?_
    refine go_pvs 2 [] [(45, .slice (some ad38) l1.length c1), (46, .int .i64 v31)] hs ?_; clear hs; intro a hs
    obtain ⟨hp53, H⟩ := ite_only H
    refine go_run hs (by rfl) (x_idx (T := 3) (sz := 1) (a := ad38) (n := l1.length) (cap := c1) (k := .i64) (i := v31) hp53) [45, 46] ?_; clear hs; intro a hs
    refine go_run hs (by rfl) (x_ld (off := 0) (p := ad38.add (v31.toNat * 1)) (v := .int .i64 (ix (eI .i64).d l1 v31)) (hr1.old hw) hp53 rfl) [47] ?_; clear hs; intro a hs
    refine go_pvs 6 [48] [(8, .int .i64 (w64 ((ix (eI .i64).d l1 v31) + 1)))] hs ?_; clear hs; intro a hs
    obtain ⟨y54, hy54, H⟩ := nm_some H
    replace hs : Slots a 52 [(1, .slice (some ad38) l1.length c1), (7, .slice (some ad40) (l29.set ((ix (eI .i64).d l1 v31) : Int).toNat (wu32 ((wu32 (y41 * 65536)) + (wu32 v30)))).length cc21), (8, .int .i64 y54), (9, .int .i64 v31)] := by rw [hy54]; exact hs.kx
    refine go_end ?_
    refine ib_norm ?_
    refine hK35 _ _ ?_
    refine go_plain [] [(9, .int .i64 (w64 (v31 + 1)))] hs ?_; clear hs; intro a hs
    exact round_end (l29.set ((ix (eI .i64).d l1 v31) : Int).toNat (wu32 ((wu32 (y41 * 65536)) + (wu32 v30))), y54, w64 (v31 + 1)) (Option.some.inj H).symm ⟨hs.kx, hw⟩
  ·replace H := ite_f H (of_decide_eq_false hc)
   have hb55 := hc
   rw [hb55] at hs
   refine wp_exit ?_
   refine th_exit ?_
   refine th_exit ?_
   refine in_block ?_
   rw [← hr28 _ (Option.some.inj H).symm] at HX28
   exact hJ1 l29 v30 _ _ hs.kx hw HX28

/-! rivet/file.Put: function 21 -/
noncomputable def file_Put.j1 (v70 : Int) (l194 : List Int) : Option ((List Int) × Int ⊕ (Ex ((List Int) × Int) (List Int))) := some (.inl (l194, w64 (v70 + 1)))
noncomputable def file_Put.j2 (l198 : List Int) : Option ((List Int) × Int) := some (l198, 0)
noncomputable def file_Put.b66 (a0 : Sapi_Obj) (l67 : List Int) (v70 : Int) : Option ((List Int) × Int ⊕ (Ex ((List Int) × Int) (List Int))) := (if v70 < (a0.Syms.length : Int) then (if 0 ≤ v70 ∧ v70 < (a0.Syms.length : Int) then ((le_PutName (((ix eSapi_Sym.d a0.Syms v70) : Sapi_Sym).Name)).bind fun ⟨t86, t87⟩ => ((if t87 = 0 then (if l67.length + t86.length ≤ 140737488355328 then ((le_Put ([wu32 (((ix eSapi_Sym.d a0.Syms v70) : Sapi_Sym).At)] : List Int)).bind fun t112 => ((if (l67 ++ t86).length + t112.length ≤ 140737488355328 then file_Put.j1 v70 ((l67 ++ t86) ++ t112) else none))) else none) else some (.inr (.ret (([] : List Int), t87)))))) else none) else some (.inr (.done l67)))
noncomputable def file_Put (a0 : Sapi_Obj) : Option ((List Int) × Int) := ((object_May a0).bind fun t9 => ((if t9 = 0 then ((chain_Pack a0.Words a0.Sites).bind fun ⟨t20, t21, t22⟩ => ((if t22 = 0 then ((le_Put ([894847314, wu32 (t20.length : Int), wu32 t21, wu32 (a0.Syms.length : Int)] : List Int)).bind fun t42 => (((le_Put t20).bind fun t51 => ((if t42.length + t51.length ≤ 140737488355328 then ((loopO (fun (σ : (List Int) × Int) => file_Put.b66 a0 σ.1 σ.2) (t42 ++ t51, 0)).bind fun e => match e with | .ret x => some x | .done e => file_Put.j2 e) else none))))) else some (([] : List Int), t22)))) else some (([] : List Int), t9))))
set_option maxRecDepth 100000 in
set_option maxHeartbeats 4000000 in
theorem file_Put.calls (a0 : Sapi_Obj) (A0_1 : Option Addr) (c0_1 : Nat) (A0_2 : Option Addr) (c0_2 : Nat) (A0_3 : Option Addr) (c0_3 : Nat) (r : (List Int) × Int) (w0 : World) (hr0_1 : Rd w0 (eI .u32) A0_1 c0_1 a0.Words) (hr0_2 : Rd w0 (eI .i64) A0_2 c0_2 a0.Sites) (hr0_3 : Rd w0 eSapi_Sym A0_3 c0_3 a0.Syms) (H : file_Put a0 = some r) :
    Calls Tryd.prog 21 #[.agg #[.slice A0_1 a0.Words.length c0_1, .slice A0_2 a0.Sites.length c0_2, .slice A0_3 a0.Syms.length c0_3]] w0 fun e w' => ∃ A_0 c_0, e = .returned (.tuple #[.slice A_0 r.1.length c_0, .int .i64 r.2]) ∧ St [] w0 w' [own 5 (eI .u8) A_0 c_0 r.1] := by
 have hw : St [] w0 w0 [] := St.nil w0
 unfold file_Put at H
 refine go_fn Tryd.func21 rfl Tryd.ntmps21 ?_; intro a hs
 refine go_sk fun K1 hK1 => ?_
 obtain ⟨g2, wd3, hx4, hw⟩ := x_boxc (P := Tryd.prog) (elem := 26) (v := (Operand.tmp 0)) (ty := 0) (cs := [.slice A0_1 a0.Words.length c0_1, .slice A0_2 a0.Sites.length c0_2, .slice A0_3 a0.Syms.length c0_3]) hs hw (by kernel_rfl)
 refine go_run hs (by rfl) hx4 [0] ?_; clear hs; intro a hs
 refine go_pvs 3 [] [] hs ?_; clear hs; intro a hs
 refine go_end (hK1 _ _ ?_)
 refine go_seq_k fun K6 hK6 => ?_
 refine go_sk fun K7 hK7 => ?_
 refine go_run hs (by rfl) (x_blds (g := g2) (o := 0) (p := (⟨g2, 0, none⟩ : Addr)) (vs := [.slice A0_1 a0.Words.length c0_1, .slice A0_2 a0.Sites.length c0_2, .slice A0_3 a0.Syms.length c0_3]) (hw.up 0)) [] ?_; clear hs; intro a hs
 obtain ⟨t9, hx10, H⟩ := bind_some H
 refine go_call hs (by rfl) (object_May.calls a0 A0_1 c0_1 A0_2 c0_2 A0_3 c0_3 t9 _ (hr0_1.old hw) (hr0_2.old hw) (hr0_3.old hw) hx10) ?_
 rintro e wd11 ⟨rfl, hw12⟩
 refine ⟨_, rfl, ?_⟩
 replace hw := hw.call hw12
 clear hs; intro a hs; replace hs := hs.rms [13]
 refine go_pvs 3 [14] [(4, .int .i64 t9)] hs ?_; clear hs; intro a hs
 refine go_end (hK7 _ _ ?_)
 refine go_sp [] [(16, .bool (t9 != 0))] hs ?_; clear hs; intro a hs
 refine go_cond hs (t9 != 0) (fun hc => ?_) fun hc => ?_
 ·replace H := ite_f H (bne_iff_ne.1 hc)
  have hb14 := hc
  rw [hb14] at hs
  refine go_sp [1, 4, 16] [(2, .slice none 0 0), (3, .int .i64 t9)] hs ?_; clear hs; intro a hs
  refine wp_ret ?_
  refine th_ret ?_
  obtain rfl := Option.some.inj H
  replace hw := St.own_nil hw 5 (eI .u8)
  refine ret2 (t1 := 2) (v1 := .slice none 0 0) (t2 := 3) (v2 := .int .i64 t9) hs (by kernel_rfl) (by kernel_rfl) (by kernel_rfl) ?_
  exact ⟨none, 0, rfl, hw.only 1⟩
 ·replace H := ite_t H (bne_eq_false_iff_eq.1 hc)
  have hb17 := hc
  rw [hb17] at hs
  refine wp_skip ?_
  refine hK6 _ _ ?_
  refine go_sk fun K18 hK18 => ?_
  refine go_pvs 1 [4, 16] [(19, .pointer (some (((⟨g2, 0, none⟩ : Addr) : Addr).add 0)))] hs ?_; clear hs; intro a hs
  refine go_run hs (by rfl) (x_bld (g := g2) (o := 0) (p := ((⟨g2, 0, none⟩ : Addr) : Addr).add 0) (v := .slice A0_1 a0.Words.length c0_1) (hw.up 0)) [19] ?_; clear hs; intro a hs
  refine go_pvs 3 [] [(21, .pointer (some (((⟨g2, 0, none⟩ : Addr) : Addr).add 1)))] hs ?_; clear hs; intro a hs
  refine go_run hs (by rfl) (x_bld (g := g2) (o := 1) (p := ((⟨g2, 0, none⟩ : Addr) : Addr).add 1) (v := .slice A0_2 a0.Sites.length c0_2) (hw.up 0)) [21] ?_; clear hs; intro a hs
  obtain ⟨⟨t20, t21, t22⟩, hx23, H⟩ := bind_some H
  refine go_call hs (by rfl) (chain_Pack.calls A0_1 c0_1 a0.Words A0_2 c0_2 a0.Sites (t20, t21, t22) _ (hr0_1.old hw) (hr0_2.old hw) hx23) ?_
  rintro e wd26 ⟨Aa24, cc25, rfl, hw27⟩
  refine ⟨_, rfl, ?_⟩
  replace hw := hw.call hw27
  clear hs; intro a hs; replace hs := hs.rms [20, 22]
  refine go_pvs 12 [23] [(5, .slice Aa24 t20.length cc25), (6, .int .i64 t21), (7, .int .i64 t22)] hs ?_; clear hs; intro a hs
  refine go_end (hK18 _ _ ?_)
  refine go_seq_k fun K29 hK29 => ?_
  refine go_sp [] [(28, .bool (t22 != 0))] hs ?_; clear hs; intro a hs
  refine go_cond hs (t22 != 0) (fun hc => ?_) fun hc => ?_
  ·replace H := ite_f H (bne_iff_ne.1 hc)
   have hb31 := hc
   rw [hb31] at hs
   refine go_sp [1, 5, 6, 7, 28] [(2, .slice none 0 0), (3, .int .i64 t22)] hs ?_; clear hs; intro a hs
   refine wp_ret ?_
   refine th_ret ?_
   obtain rfl := Option.some.inj H
   replace hw := St.own_nil hw 5 (eI .u8)
   refine ret2 (t1 := 2) (v1 := .slice none 0 0) (t2 := 3) (v2 := .int .i64 t22) hs (by kernel_rfl) (by kernel_rfl) (by kernel_rfl) ?_
   exact ⟨none, 0, rfl, hw.only 1⟩
  ·replace H := ite_t H (bne_eq_false_iff_eq.1 hc)
   have hb34 := hc
   rw [hb34] at hs
   refine wp_skip ?_
   refine hK29 _ _ ?_
   refine go_sk fun K35 hK35 => ?_
   refine go_pvs 6 [6, 7, 28] [(32, .int .u32 (wu32 (t20.length : Int))), (34, .int .u32 (wu32 t21)), (35, .pointer (some (((⟨g2, 0, none⟩ : Addr) : Addr).add 2)))] hs ?_; clear hs; intro a hs
   refine go_run hs (by rfl) (x_bld (g := g2) (o := 2) (p := ((⟨g2, 0, none⟩ : Addr) : Addr).add 2) (v := .slice A0_3 a0.Syms.length c0_3) (hw.up 1)) [35] ?_; clear hs; intro a hs
   refine go_pvs 9 [36] [(38, .int .u32 (wu32 (a0.Syms.length : Int)))] hs ?_; clear hs; intro a hs
   obtain ⟨Aa36, cc37, wd38, hx39, hw⟩ := n_lit (P := Tryd.prog) (t := 22) (ty := 22) (T := 37) (len := 4) (parts := #[(0, (Operand.const (Value.int IntKind.u32 894847314))), (1, (Operand.tmp 32)), (2, (Operand.tmp 34)), (3, (Operand.tmp 38))]) (z := .int .u32 0) (bytes := 4) (cells := #[.int .u32 894847314, .int .u32 (wu32 (t20.length : Int)), .int .u32 (wu32 t21), .int .u32 (wu32 (a0.Syms.length : Int))]) hs hw (eI .u32) ([894847314, wu32 (t20.length : Int), wu32 t21, wu32 (a0.Syms.length : Int)] : List Int) (by kernel_rfl) (by kernel_rfl) (by kernel_rfl) (by kernel_rfl) (by kernel_rfl) (by kernel_rfl) (by kernel_rfl)
   refine go_run hs (by rfl) hx39 [32, 34, 38] ?_; clear hs; intro a hs
   obtain ⟨t42, hx43, H⟩ := bind_some H
   refine go_call hs (by rfl) (le_Put.calls Aa36 cc37 ([894847314, wu32 (t20.length : Int), wu32 t21, wu32 (a0.Syms.length : Int)] : List Int) t42 _ (Rd.of_own (hw.up 0)) hx43) ?_
   rintro e wd46 ⟨Aa44, cc45, rfl, hw47⟩
   refine ⟨_, rfl, ?_⟩
   replace hw := hw.call hw47
   clear hs; intro a hs; replace hs := hs.rms [39]
   refine go_pvs 12 [40] [(8, .slice Aa44 t42.length cc45)] hs ?_; clear hs; intro a hs
   refine go_end (hK35 _ _ ?_)
   refine go_sk fun K49 hK49 => ?_
   refine go_pvs 2 [5, 8] [(41, .slice Aa44 t42.length cc45), (42, .slice Aa24 t20.length cc25)] hs ?_; clear hs; intro a hs
   obtain ⟨t51, hx52, H⟩ := bind_some H
   refine go_call hs (by rfl) (le_Put.calls Aa24 cc25 t20 t51 _ (Rd.of_own (hw.up 2)) hx52) ?_
   rintro e wd55 ⟨Aa53, cc54, rfl, hw56⟩
   refine ⟨_, rfl, ?_⟩
   replace hw := hw.call hw56
   clear hs; intro a hs; replace hs := hs.rms [42]
   obtain ⟨hp58, H⟩ := ite_only H
   have hsrc63 : Src Tryd.prog (eI .u8).sz 32 (.slice Aa53 t51.length cc54) t51.length (t51.flatMap (eI .u8).enc) _ := (Src.of_rd (E := (eI .u8)) (e' := 5) (by kernel_rfl) (Rd.of_own (hw.up 0)))
   replace hw := hw.up 1
   obtain ⟨Aa59, cc60, wd61, hx62, hw⟩ := x_append (P := Tryd.prog) (t := 32) (tx := 32) (ty := 32) (x := (Operand.tmp 41)) (y := (Operand.tmp 43)) (z := .int .u8 0) (bytes := 1) (l2 := t51) hs hw (by kernel_rfl) (by kernel_rfl) (by kernel_rfl) (by kernel_rfl) (by kernel_rfl) hsrc63 (by omega) (by omega)
   refine go_run hs (by rfl) hx62 [41, 43] ?_; clear hs; intro a hs
   refine go_pvs 5 [44] [(8, .slice Aa59 (t42 ++ t51).length cc60)] hs ?_; clear hs; intro a hs
   refine go_end (hK49 _ _ ?_)
   refine go_seq_k fun K64 hK64 => ?_
   refine go_sk fun K65 hK65 => ?_
   refine go_pvs 1 [1] [(45, .pointer (some (((⟨g2, 0, none⟩ : Addr) : Addr).add 2)))] hs ?_; clear hs; intro a hs
   refine go_run hs (by rfl) (x_bld (g := g2) (o := 2) (p := ((⟨g2, 0, none⟩ : Addr) : Addr).add 2) (v := .slice A0_3 a0.Syms.length c0_3) (hw.up 4)) [45] ?_; clear hs; intro a hs
   replace hs : Slots a 77 [(8, .slice Aa59 (t42 ++ t51).length cc60), (46, .slice A0_3 a0.Syms.length c0_3)] := hs.kx
   refine go_pvs 4 [] [(47, .int .i64 (a0.Syms.length : Int)), (48, .int .i64 0)] hs ?_; clear hs; intro a hs
   refine go_end (hK65 _ _ ?_)
   refine wp_block ?_
   obtain ⟨e66, hl66, HX66⟩ := bind_some H
   have hJ2 : ∀ (Aa199 : Option Addr) (cc200 : Nat) (l198 : List Int) (a : Act) (w : World), Slots a 77 [(8, .slice Aa199 l198.length cc200)] → St [] w0 w [own 5 (eI .u8) Aa199 cc200 l198, own 5 (eI .u8) Aa53 cc54 t51, own 37 (eI .u32) Aa36 cc37 ([894847314, wu32 (t20.length : Int), wu32 t21, wu32 (a0.Syms.length : Int)] : List Int), own 37 (eI .u32) Aa24 cc25 t20, box g2 26 [.slice A0_1 a0.Words.length c0_1, .slice A0_2 a0.Sites.length c0_2, .slice A0_3 a0.Syms.length c0_3]] → file_Put.j2 l198 = some r → K64 a w := by
    intro Aa199 cc200 l198 a w hs hw H
    unfold file_Put.j2 at H
    refine hK64 _ _ ?_
    refine go_sk fun K201 hK201 => ?_
    refine go_pvs 5 [8] [(71, .slice Aa199 l198.length cc200), (73, .int .i64 (l198.length : Int)), (75, .int .i64 (l198.length : Int))] hs ?_; clear hs; intro a hs
    obtain ⟨hx202, hw⟩ := x_trim (P := Tryd.prog) (ty := 32) (t := 32) (x := (Operand.tmp 71)) (y := (Operand.tmp 73)) (y' := (Operand.tmp 75)) (k := .i64) (k' := .i64) hs hw (by kernel_rfl) (by kernel_rfl) (by kernel_rfl)
    refine go_run hs (by rfl) hx202 [71, 73, 75] ?_; clear hs; intro a hs
    refine go_pvs 8 [76] [(2, .slice Aa199 l198.length l198.length), (3, .int .i64 0)] hs ?_; clear hs; intro a hs
    refine go_end (hK201 _ _ ?_)
    refine wp_ret ?_
    obtain rfl := Option.some.inj H
    refine ret2 (t1 := 2) (v1 := .slice Aa199 l198.length l198.length) (t2 := 3) (v2 := .int .i64 0) hs (by kernel_rfl) (by kernel_rfl) (by kernel_rfl) ?_
    exact ⟨Aa199, l198.length, rfl, hw.only 1⟩
   clear H
   refine go_loop (σ := (List Int) × Int) (fun σ a w => ∃ Aa68, ∃ cc69, Slots a 77 [(8, .slice Aa68 σ.1.length cc69), (46, .slice A0_3 a0.Syms.length c0_3), (47, .int .i64 (a0.Syms.length : Int)), (48, .int .i64 σ.2)] ∧ St [] w0 w [own 5 (eI .u8) Aa68 cc69 σ.1, own 5 (eI .u8) Aa53 cc54 t51, own 37 (eI .u32) Aa36 cc37 ([894847314, wu32 (t20.length : Int), wu32 t21, wu32 (a0.Syms.length : Int)] : List Int), own 37 (eI .u32) Aa24 cc25 t20, box g2 26 [.slice A0_1 a0.Words.length c0_1, .slice A0_2 a0.Sites.length c0_2, .slice A0_3 a0.Syms.length c0_3]]) hl66 (by exact ⟨Aa59, cc60, hs.kx, hw⟩) ?_
   rintro ⟨l67, v70⟩ a w ⟨Aa68, cc69, hs, hw⟩ o H hr66
   replace hs : Slots a 77 [(8, .slice Aa68 l67.length cc69), (46, .slice A0_3 a0.Syms.length c0_3), (47, .int .i64 (a0.Syms.length : Int)), (48, .int .i64 v70)] := hs
   replace hw : St [] w0 w [own 5 (eI .u8) Aa68 cc69 l67, own 5 (eI .u8) Aa53 cc54 t51, own 37 (eI .u32) Aa36 cc37 ([894847314, wu32 (t20.length : Int), wu32 t21, wu32 (a0.Syms.length : Int)] : List Int), own 37 (eI .u32) Aa24 cc25 t20, box g2 26 [.slice A0_1 a0.Words.length c0_1, .slice A0_2 a0.Sites.length c0_2, .slice A0_3 a0.Syms.length c0_3]] := hw
   replace H : file_Put.b66 a0 l67 v70 = some o := H
   unfold file_Put.b66 at H
   refine go_sp [] [(49, .bool (decide (v70 < (a0.Syms.length : Int))))] hs ?_; clear hs; intro a hs
   refine go_seq_k fun K72 hK72 => ?_
   refine go_cond hs (decide (v70 < (a0.Syms.length : Int))) (fun hc => ?_) fun hc => ?_
   ·replace H := ite_t H (of_decide_eq_true hc)
    have hb73 := hc
    rw [hb73] at hs
    refine wp_skip ?_
    refine hK72 _ _ ?_
    refine go_seq_k fun K74 hK74 => ?_
    have hJ1 : ∀ (Aa195 : Option Addr) (cc196 : Nat) (l194 : List Int) (a : Act) (w : World), Slots a 77 [(8, .slice Aa195 l194.length cc196), (46, .slice A0_3 a0.Syms.length c0_3), (47, .int .i64 (a0.Syms.length : Int)), (48, .int .i64 v70)] → St [] w0 w [own 5 (eI .u8) Aa195 cc196 l194, own 5 (eI .u8) Aa53 cc54 t51, own 37 (eI .u32) Aa36 cc37 ([894847314, wu32 (t20.length : Int), wu32 t21, wu32 (a0.Syms.length : Int)] : List Int), own 37 (eI .u32) Aa24 cc25 t20, box g2 26 [.slice A0_1 a0.Words.length c0_1, .slice A0_2 a0.Sites.length c0_2, .slice A0_3 a0.Syms.length c0_3]] → file_Put.j1 v70 l194 = some o → K74 a w := by
     intro Aa195 cc196 l194 a w hs hw H
     unfold file_Put.j1 at H
     refine hK74 _ _ ?_
     refine go_plain [] [(48, .int .i64 (w64 (v70 + 1)))] hs ?_; clear hs; intro a hs
     replace hw := hw.up 4
     replace hw := hw.up 4
     replace hw := hw.up 4
     replace hw := hw.up 4
     replace hw := hw.up 4
     exact round_end (l194, w64 (v70 + 1)) (Option.some.inj H).symm ⟨Aa195, cc196, hs.kx, hw⟩
    refine wp_block ?_
    refine go_sk fun K75 hK75 => ?_
    obtain ⟨hp76, H⟩ := ite_only H
    obtain ⟨ad77, rfl⟩ := (hr0_3.old hw).some hp76.1 hp76.2
    refine go_run hs (by rfl) (x_idx (T := 39) (sz := 2) (a := ad77) (n := a0.Syms.length) (cap := c0_3) (k := .i64) (i := v70) hp76) [49] ?_; clear hs; intro a hs
    refine go_run hs (by rfl) (x_lds (off := 0) (p := ad77.add (v70.toNat * 2)) (cs := [.string ((ix eSapi_Sym.d a0.Syms v70).Name), .int .i64 ((ix eSapi_Sym.d a0.Syms v70).At)]) (hr0_3.old hw) hp76 rfl) [50] ?_; clear hs; intro a hs
    obtain ⟨ad78, wd79, hx80, hw⟩ := x_alloc1 (P := Tryd.prog) (elem := 39) (ty := 0) (z := .agg #[.string (⟨#[]⟩ : ByteArray), .int .i64 0]) hs hw eSapi_Sym (⟨(⟨#[]⟩ : ByteArray), 0⟩ : Sapi_Sym) (by kernel_rfl) (by kernel_rfl)
    refine go_run hs (by rfl) hx80 [] ?_; clear hs; intro a hs
    obtain ⟨wd82, hx83, hw⟩ := x_put (P := Tryd.prog) (ty := 0) (t := 39) (x := (Operand.tmp 10)) (y := (Operand.tmp 51)) (off := 0) (p := ad78) (v := .agg #[.string ((ix eSapi_Sym.d a0.Syms v70).Name), .int .i64 ((ix eSapi_Sym.d a0.Syms v70).At)]) (vs := [.string ((ix eSapi_Sym.d a0.Syms v70).Name), .int .i64 ((ix eSapi_Sym.d a0.Syms v70).At)]) (i := 0) (e' := (((ix eSapi_Sym.d a0.Syms v70) : Sapi_Sym) : Sapi_Sym)) hs hw rfl (one_ok (⟨(⟨#[]⟩ : ByteArray), 0⟩ : Sapi_Sym)).1 (one_ok (⟨(⟨#[]⟩ : ByteArray), 0⟩ : Sapi_Sym)).2 (by kernel_rfl) (one_at _ _) (by kernel_rfl) rfl (by kernel_rfl) (Nat.le_of_ble_eq_true rfl) (by simp [Value.oneCell']) (by kernel_rfl)
    refine go_unit hs (by rfl) hx83 [51] ?_; clear hs; intro a hs
    replace hw : St [] w0 wd82 [own 39 eSapi_Sym (some ad78) 1 [((ix eSapi_Sym.d a0.Syms v70) : Sapi_Sym)], own 5 (eI .u8) Aa68 cc69 l67, own 5 (eI .u8) Aa53 cc54 t51, own 37 (eI .u32) Aa36 cc37 ([894847314, wu32 (t20.length : Int), wu32 t21, wu32 (a0.Syms.length : Int)] : List Int), own 37 (eI .u32) Aa24 cc25 t20, box g2 26 [.slice A0_1 a0.Words.length c0_1, .slice A0_2 a0.Sites.length c0_2, .slice (some ad77) a0.Syms.length c0_3]] := hw
    refine go_end (hK75 _ _ ?_)
    refine go_sk fun K84 hK84 => ?_
    refine go_pvs 1 [] [(53, .pointer (some ((ad78 : Addr).add 0)))] hs ?_; clear hs; intro a hs
    refine go_run hs (by rfl) (x_ld (off := 0) (p := (ad78 : Addr).add 0) (v := .string (((ix eSapi_Sym.d a0.Syms v70) : Sapi_Sym).Name)) (Rd.of_own (hw.up 0)) (one_ok ((ix eSapi_Sym.d a0.Syms v70) : Sapi_Sym)) (one_off _ _ _)) [53] ?_; clear hs; intro a hs
    obtain ⟨⟨t86, t87⟩, hx88, H⟩ := bind_some H
    refine go_call hs (by rfl) (le_PutName.calls (((ix eSapi_Sym.d a0.Syms v70) : Sapi_Sym).Name) (t86, t87) _ hx88) ?_
    rintro e wd91 ⟨Aa89, cc90, rfl, hw92⟩
    refine ⟨_, rfl, ?_⟩
    replace hw := hw.call hw92
    clear hs; intro a hs; replace hs := hs.rms [54]
    refine go_pvs 8 [55] [(11, .slice Aa89 t86.length cc90), (12, .int .i64 t87)] hs ?_; clear hs; intro a hs
    refine go_end (hK84 _ _ ?_)
    refine go_seq_k fun K94 hK94 => ?_
    refine go_sp [] [(59, .bool (t87 != 0))] hs ?_; clear hs; intro a hs
    refine go_cond hs (t87 != 0) (fun hc => ?_) fun hc => ?_
    ·replace H := ite_f H (bne_iff_ne.1 hc)
     have hb96 := hc
     rw [hb96] at hs
     refine go_sp [8, 10, 11, 12, 46, 47, 48, 59] [(2, .slice none 0 0), (3, .int .i64 t87)] hs ?_; clear hs; intro a hs
     refine wp_ret ?_
     refine th_ret ?_
     refine ib_ret ?_
     refine th_ret ?_
     refine th_ret ?_
     refine ib_ret ?_
     refine th_ret ?_
     rw [← hr66 _ (Option.some.inj H).symm] at HX66
     replace H : some (([] : List Int), t87) = some r := HX66
     obtain rfl := Option.some.inj H
     replace hw := St.own_nil hw 5 (eI .u8)
     refine ret2 (t1 := 2) (v1 := .slice none 0 0) (t2 := 3) (v2 := .int .i64 t87) hs (by kernel_rfl) (by kernel_rfl) (by kernel_rfl) ?_
     exact ⟨none, 0, rfl, hw.only 1⟩
    ·replace H := ite_t H (bne_eq_false_iff_eq.1 hc)
     have hb99 := hc
     rw [hb99] at hs
     refine wp_skip ?_
     refine hK94 _ _ ?_
     obtain ⟨hp100, H⟩ := ite_only H
     obtain ⟨t112, hx113, H⟩ := bind_some H
     obtain ⟨hp119, H⟩ := ite_only H
     refine o_region [2, 4, 6, 7, 8] (.two [0, 1, 3] 2 (.one [] 4 (.one [5] 6 (.one [] 7 (.one [] 8 (.fin [9]))))) 4 (.two [5] 2 (.one [] 6 (.one [] 7 (.one [] 8 (.fin [9])))) 6 (.one [] 2 (.one [] 7 (.one [] 8 (.fin [9])))))) (by kernel_rfl) (by kernel_rfl) (fun c a d v w h => by cases d <;> exact h) ?_
     intro wq hbq; replace hw := hw.behind hbq; clear hbq
     refine o_two ?_
     refine c_pvs [0, 1, 3] [] [10, 11, 12, 59] [(61, .slice Aa68 l67.length cc69), (62, .slice Aa89 t86.length cc90), (64, .pointer (some ((ad78 : Addr).add 1)))] hs ?_; clear hs; intro a hs
     refine c_end ⟨?_, ?_⟩
     ·skip
      have hsrc129 : Src Tryd.prog (eI .u8).sz 32 (.slice Aa89 t86.length cc90) t86.length (t86.flatMap (eI .u8).enc) _ := (Src.of_rd (E := (eI .u8)) (e' := 5) (by kernel_rfl) (Rd.of_own (hw.up 0)))
      replace hw := hw.up 2
      obtain ⟨Aa125, cc126, wd127, hx128, hw⟩ := x_append (P := Tryd.prog) (t := 32) (tx := 32) (ty := 32) (x := (Operand.tmp 61)) (y := (Operand.tmp 62)) (z := .int .u8 0) (bytes := 1) (l2 := t86) hs hw (by kernel_rfl) (by kernel_rfl) (by kernel_rfl) (by kernel_rfl) (by kernel_rfl) hsrc129 (by omega) (by omega)
      refine p_run hs (by rfl) hx128 [8, 61, 62] ?_; clear hs; intro a hs
      refine c_done ?_
      refine o_one ?_
      refine c_end ?_
      refine p_run hs (by rfl) (x_ld (off := 1) (p := (ad78 : Addr).add 1) (v := .int .i64 (((ix eSapi_Sym.d a0.Syms v70) : Sapi_Sym).At)) (Rd.of_own (hw.up 2)) (one_ok ((ix eSapi_Sym.d a0.Syms v70) : Sapi_Sym)) (one_off _ _ _)) [64] ?_; clear hs; intro a hs
      refine c_done ?_
      refine o_one ?_
      refine c_pvs [5] [] [65] [(66, .int .u32 (wu32 (((ix eSapi_Sym.d a0.Syms v70) : Sapi_Sym).At)))] hs ?_; clear hs; intro a hs
      refine c_end ?_
      obtain ⟨Aa130, cc131, wd132, hx133, hw⟩ := n_lit (P := Tryd.prog) (t := 22) (ty := 22) (T := 37) (len := 1) (parts := #[(0, (Operand.tmp 66))]) (z := .int .u32 0) (bytes := 4) (cells := #[.int .u32 (wu32 (((ix eSapi_Sym.d a0.Syms v70) : Sapi_Sym).At))]) hs hw (eI .u32) ([wu32 (((ix eSapi_Sym.d a0.Syms v70) : Sapi_Sym).At)] : List Int) (by kernel_rfl) (by kernel_rfl) (by kernel_rfl) (by kernel_rfl) (by kernel_rfl) (by kernel_rfl) (by kernel_rfl)
      refine p_run hs (by rfl) hx133 [66] ?_; clear hs; intro a hs
      refine c_done ?_
      refine o_one ?_
      refine c_end ?_
      refine p_call hs (by rfl) (le_Put.calls Aa130 cc131 ([wu32 (((ix eSapi_Sym.d a0.Syms v70) : Sapi_Sym).At)] : List Int) t112 _ (Rd.of_own (hw.up 0)) hx113) ?_
      rintro e wd140 ⟨Aa138, cc139, rfl, hw141⟩
      refine ⟨_, rfl, ?_⟩
      replace hw := hw.call hw141
      clear hs; intro a hs; replace hs := hs.rms [67]
      refine c_done ?_
      refine o_one ?_
      refine c_end ?_
      have hsrc147 : Src Tryd.prog (eI .u8).sz 32 (.slice Aa138 t112.length cc139) t112.length (t112.flatMap (eI .u8).enc) _ := (Src.of_rd (E := (eI .u8)) (e' := 5) (by kernel_rfl) (Rd.of_own (hw.up 0)))
      replace hw := hw.up 2
      obtain ⟨Aa143, cc144, wd145, hx146, hw⟩ := x_append (P := Tryd.prog) (t := 32) (tx := 32) (ty := 32) (x := (Operand.tmp 63)) (y := (Operand.tmp 68)) (z := .int .u8 0) (bytes := 1) (l2 := t112) hs hw (by kernel_rfl) (by kernel_rfl) (by kernel_rfl) (by kernel_rfl) (by kernel_rfl) hsrc147 (by omega) (by omega)
      refine p_run hs (by rfl) hx146 [63, 68] ?_; clear hs; intro a hs
      refine c_done ?_
      refine o_fin ?_
      refine c_pvs [9] [] [69] [(8, .slice Aa143 ((l67 ++ t86) ++ t112).length cc144)] hs ?_; clear hs; intro a hs
      refine c_end ?_
      refine ib_norm ?_
      replace hw := hw.up 8
      replace hw := hw.up 8
      replace hw := hw.up 8
      replace hw := hw.up 8
      replace hw := hw.up 4
      replace hw := hw.only 5
      exact hJ1 Aa143 cc144 ((l67 ++ t86) ++ t112) _ _ hs.kx hw H
     ·skip
      refine p_run hs (by rfl) (x_ld (off := 1) (p := (ad78 : Addr).add 1) (v := .int .i64 (((ix eSapi_Sym.d a0.Syms v70) : Sapi_Sym).At)) (Rd.of_own (hw.up 1)) (one_ok ((ix eSapi_Sym.d a0.Syms v70) : Sapi_Sym)) (one_off _ _ _)) [64] ?_; clear hs; intro a hs
      refine c_done ?_
      refine o_two ?_
      refine c_pvs [5] [] [65] [(66, .int .u32 (wu32 (((ix eSapi_Sym.d a0.Syms v70) : Sapi_Sym).At)))] hs ?_; clear hs; intro a hs
      refine c_end ⟨?_, ?_⟩
      ·skip
       have hsrc152 : Src Tryd.prog (eI .u8).sz 32 (.slice Aa89 t86.length cc90) t86.length (t86.flatMap (eI .u8).enc) _ := (Src.of_rd (E := (eI .u8)) (e' := 5) (by kernel_rfl) (Rd.of_own (hw.up 0)))
       replace hw := hw.up 2
       obtain ⟨Aa148, cc149, wd150, hx151, hw⟩ := x_append (P := Tryd.prog) (t := 32) (tx := 32) (ty := 32) (x := (Operand.tmp 61)) (y := (Operand.tmp 62)) (z := .int .u8 0) (bytes := 1) (l2 := t86) hs hw (by kernel_rfl) (by kernel_rfl) (by kernel_rfl) (by kernel_rfl) (by kernel_rfl) hsrc152 (by omega) (by omega)
       refine p_run hs (by rfl) hx151 [8, 61, 62] ?_; clear hs; intro a hs
       refine c_done ?_
       refine o_one ?_
       refine c_end ?_
       obtain ⟨Aa153, cc154, wd155, hx156, hw⟩ := n_lit (P := Tryd.prog) (t := 22) (ty := 22) (T := 37) (len := 1) (parts := #[(0, (Operand.tmp 66))]) (z := .int .u32 0) (bytes := 4) (cells := #[.int .u32 (wu32 (((ix eSapi_Sym.d a0.Syms v70) : Sapi_Sym).At))]) hs hw (eI .u32) ([wu32 (((ix eSapi_Sym.d a0.Syms v70) : Sapi_Sym).At)] : List Int) (by kernel_rfl) (by kernel_rfl) (by kernel_rfl) (by kernel_rfl) (by kernel_rfl) (by kernel_rfl) (by kernel_rfl)
       refine p_run hs (by rfl) hx156 [66] ?_; clear hs; intro a hs
       refine c_done ?_
       refine o_one ?_
       refine c_end ?_
       refine p_call hs (by rfl) (le_Put.calls Aa153 cc154 ([wu32 (((ix eSapi_Sym.d a0.Syms v70) : Sapi_Sym).At)] : List Int) t112 _ (Rd.of_own (hw.up 0)) hx113) ?_
       rintro e wd163 ⟨Aa161, cc162, rfl, hw164⟩
       refine ⟨_, rfl, ?_⟩
       replace hw := hw.call hw164
       clear hs; intro a hs; replace hs := hs.rms [67]
       refine c_done ?_
       refine o_one ?_
       refine c_end ?_
       have hsrc170 : Src Tryd.prog (eI .u8).sz 32 (.slice Aa161 t112.length cc162) t112.length (t112.flatMap (eI .u8).enc) _ := (Src.of_rd (E := (eI .u8)) (e' := 5) (by kernel_rfl) (Rd.of_own (hw.up 0)))
       replace hw := hw.up 2
       obtain ⟨Aa166, cc167, wd168, hx169, hw⟩ := x_append (P := Tryd.prog) (t := 32) (tx := 32) (ty := 32) (x := (Operand.tmp 63)) (y := (Operand.tmp 68)) (z := .int .u8 0) (bytes := 1) (l2 := t112) hs hw (by kernel_rfl) (by kernel_rfl) (by kernel_rfl) (by kernel_rfl) (by kernel_rfl) hsrc170 (by omega) (by omega)
       refine p_run hs (by rfl) hx169 [63, 68] ?_; clear hs; intro a hs
       refine c_done ?_
       refine o_fin ?_
       refine c_pvs [9] [] [69] [(8, .slice Aa166 ((l67 ++ t86) ++ t112).length cc167)] hs ?_; clear hs; intro a hs
       refine c_end ?_
       refine ib_norm ?_
       replace hw := hw.up 8
       replace hw := hw.up 8
       replace hw := hw.up 8
       replace hw := hw.up 8
       replace hw := hw.up 4
       replace hw := hw.only 5
       exact hJ1 Aa166 cc167 ((l67 ++ t86) ++ t112) _ _ hs.kx hw H
      ·skip
       obtain ⟨Aa171, cc172, wd173, hx174, hw⟩ := n_lit (P := Tryd.prog) (t := 22) (ty := 22) (T := 37) (len := 1) (parts := #[(0, (Operand.tmp 66))]) (z := .int .u32 0) (bytes := 4) (cells := #[.int .u32 (wu32 (((ix eSapi_Sym.d a0.Syms v70) : Sapi_Sym).At))]) hs hw (eI .u32) ([wu32 (((ix eSapi_Sym.d a0.Syms v70) : Sapi_Sym).At)] : List Int) (by kernel_rfl) (by kernel_rfl) (by kernel_rfl) (by kernel_rfl) (by kernel_rfl) (by kernel_rfl) (by kernel_rfl)
       refine p_run hs (by rfl) hx174 [66] ?_; clear hs; intro a hs
       refine c_done ?_
       refine o_one ?_
       refine c_end ?_
       have hsrc180 : Src Tryd.prog (eI .u8).sz 32 (.slice Aa89 t86.length cc90) t86.length (t86.flatMap (eI .u8).enc) _ := (Src.of_rd (E := (eI .u8)) (e' := 5) (by kernel_rfl) (Rd.of_own (hw.up 1)))
       replace hw := hw.up 3
       obtain ⟨Aa176, cc177, wd178, hx179, hw⟩ := x_append (P := Tryd.prog) (t := 32) (tx := 32) (ty := 32) (x := (Operand.tmp 61)) (y := (Operand.tmp 62)) (z := .int .u8 0) (bytes := 1) (l2 := t86) hs hw (by kernel_rfl) (by kernel_rfl) (by kernel_rfl) (by kernel_rfl) (by kernel_rfl) hsrc180 (by omega) (by omega)
       refine p_run hs (by rfl) hx179 [8, 61, 62] ?_; clear hs; intro a hs
       refine c_done ?_
       refine o_one ?_
       refine c_end ?_
       refine p_call hs (by rfl) (le_Put.calls Aa171 cc172 ([wu32 (((ix eSapi_Sym.d a0.Syms v70) : Sapi_Sym).At)] : List Int) t112 _ (Rd.of_own (hw.up 1)) hx113) ?_
       rintro e wd186 ⟨Aa184, cc185, rfl, hw187⟩
       refine ⟨_, rfl, ?_⟩
       replace hw := hw.call hw187
       clear hs; intro a hs; replace hs := hs.rms [67]
       refine c_done ?_
       refine o_one ?_
       refine c_end ?_
       have hsrc193 : Src Tryd.prog (eI .u8).sz 32 (.slice Aa184 t112.length cc185) t112.length (t112.flatMap (eI .u8).enc) _ := (Src.of_rd (E := (eI .u8)) (e' := 5) (by kernel_rfl) (Rd.of_own (hw.up 0)))
       replace hw := hw.up 1
       obtain ⟨Aa189, cc190, wd191, hx192, hw⟩ := x_append (P := Tryd.prog) (t := 32) (tx := 32) (ty := 32) (x := (Operand.tmp 63)) (y := (Operand.tmp 68)) (z := .int .u8 0) (bytes := 1) (l2 := t112) hs hw (by kernel_rfl) (by kernel_rfl) (by kernel_rfl) (by kernel_rfl) (by kernel_rfl) hsrc193 (by omega) (by omega)
       refine p_run hs (by rfl) hx192 [63, 68] ?_; clear hs; intro a hs
       refine c_done ?_
       refine o_fin ?_
       refine c_pvs [9] [] [69] [(8, .slice Aa189 ((l67 ++ t86) ++ t112).length cc190)] hs ?_; clear hs; intro a hs
       refine c_end ?_
       refine ib_norm ?_
       replace hw := hw.up 8
       replace hw := hw.up 8
       replace hw := hw.up 8
       replace hw := hw.up 8
       replace hw := hw.up 4
       replace hw := hw.only 5
       exact hJ1 Aa189 cc190 ((l67 ++ t86) ++ t112) _ _ hs.kx hw H
   ·replace H := ite_f H (of_decide_eq_false hc)
    have hb197 := hc
    rw [hb197] at hs
    refine wp_exit ?_
    refine th_exit ?_
    refine th_exit ?_
    refine in_block ?_
    replace hw := hw.up 4
    replace hw := hw.up 4
    replace hw := hw.up 4
    replace hw := hw.up 4
    replace hw := hw.up 4
    rw [← hr66 _ (Option.some.inj H).symm] at HX66
    exact hJ2 Aa68 cc69 l67 _ _ hs.kx hw HX66

end Go.Proofs.YtmfnololpfdfdaaDoor.T09
