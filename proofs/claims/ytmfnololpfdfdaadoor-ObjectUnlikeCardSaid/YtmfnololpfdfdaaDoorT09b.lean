/- YtmfnololpfdfdaaDoorT09: Go functions told as plain ones, each with a proof that its call comes to what is told, part 2. Condition of each: that the plain function comes to a value. -/
import Derived.Test.YtmfnololpfdfdaaDoorT09a
namespace Go.Proofs.YtmfnololpfdfdaaDoor.T09
open Go Go.RowKit Go.Proofs.YtmfnololpfdfdaaDoor.E
set_option linter.unusedVariables false
set_option linter.unusedSimpArgs false

/-! rivet/chain.Pack: function 27 -/
noncomputable def chain_Pack.j3 (v7 : Int) (v24 : Int) : Option (Int × Int ⊕ (Ex ((List Int) × Int × Int) Unit)) := some (.inl (v24, w64 (v7 + 1)))
noncomputable def chain_Pack.j2 (v7 : Int) (l1 : List Int) : Option (Int × Int ⊕ (Ex ((List Int) × Int × Int) Unit)) := chain_Pack.j3 v7 (ix (eI .i64).d l1 v7)
noncomputable def chain_Pack.j1 (v7 : Int) (l1 : List Int) (v19 : Bool) : Option (Int × Int ⊕ (Ex ((List Int) × Int × Int) Unit)) := (if v19 = true then some (.inr (.ret (([] : List Int), 0, 7))) else chain_Pack.j2 v7 l1)
noncomputable def chain_Pack.j5 (l64 : List Int) (v65 : Int) : Option ((List Int) × Int × Int) := some (l64, v65, 0)
noncomputable def chain_Pack.b38 (l1 : List Int) (l39 : List Int) (v40 : Int) (v41 : Int) : Option ((List Int) × Int × Int ⊕ (Ex ((List Int) × Int × Int) ((List Int) × Int))) := (if v41 < (l1.length : Int) then (if 0 ≤ v41 ∧ v41 < (l1.length : Int) then (if 0 ≤ (ix (eI .i64).d l1 v41) ∧ (ix (eI .i64).d l1 v41) < (l39.length : Int) then (if (ix (eI .u32).d l39 (ix (eI .i64).d l1 v41)) > 65535 then some (.inr (.ret (([] : List Int), 0, 8))) else (if 0 ≤ (ix (eI .i64).d l1 v41) ∧ (ix (eI .i64).d l1 v41) < (l39.length : Int) then (if 0 ≤ (ix (eI .i64).d l1 v41) ∧ (ix (eI .i64).d l1 v41) < (l39.length : Int) then (nm (w64 ((ix (eI .i64).d l1 v41) + 1)) fun y62 => some (.inl (l39.set ((ix (eI .i64).d l1 v41) : Int).toNat (bor .u32 (wu32 ((ix (eI .u32).d l39 (ix (eI .i64).d l1 v41)) * 2 ^ 16)) (wu32 v40)), y62, w64 (v41 + 1)))) else none) else none)) else none) else none) else some (.inr (.done (l39, v40))))
noncomputable def chain_Pack.j4 (l0 : List Int) (l1 : List Int) : Option ((List Int) × Int × Int) := ((slices_Clone_uint32_uint32 l0).bind fun t28 => (((loopO (fun (σ : (List Int) × Int × Int) => chain_Pack.b38 l1 σ.1 σ.2.1 σ.2.2) (t28, 0, 0)).bind fun e => match e with | .ret x => some x | .done e => chain_Pack.j5 e.1 e.2)))
noncomputable def chain_Pack.b5 (l1 : List Int) (l0 : List Int) (v6 : Int) (v7 : Int) : Option (Int × Int ⊕ (Ex ((List Int) × Int × Int) Unit)) := (if v7 < (l1.length : Int) then (if 0 ≤ v7 ∧ v7 < (l1.length : Int) then (if (ix (eI .i64).d l1 v7) ≤ v6 then chain_Pack.j1 v7 l1 true else (if (ix (eI .i64).d l1 v7) ≥ (l0.length : Int) then chain_Pack.j1 v7 l1 true else chain_Pack.j1 v7 l1 (decide ((ix (eI .i64).d l1 v7) > 65534)))) else none) else some (.inr (.done ())))
noncomputable def chain_Pack (l0 : List Int) (l1 : List Int) : Option ((List Int) × Int × Int) := ((loopO (fun (σ : Int × Int) => chain_Pack.b5 l1 l0 σ.1 σ.2) ((-1), 0)).bind fun e => match e with | .ret x => some x | .done e => chain_Pack.j4 l0 l1)
set_option maxRecDepth 100000 in
set_option maxHeartbeats 4000000 in
theorem chain_Pack.calls (A0 : Option Addr) (c0 : Nat) (l0 : List Int) (A1 : Option Addr) (c1 : Nat) (l1 : List Int) (r : (List Int) × Int × Int) (w0 : World) (hr0 : Rd w0 (eI .u32) A0 c0 l0) (hr1 : Rd w0 (eI .i64) A1 c1 l1) (H : chain_Pack l0 l1 = some r) :
    Calls Tryd.prog 27 #[.slice A0 l0.length c0, .slice A1 l1.length c1] w0 fun e w' => ∃ A_0 c_0, e = .returned (.tuple #[.slice A_0 r.1.length c_0, .int .i64 r.2.1, .int .i64 r.2.2]) ∧ St [] w0 w' [own 37 (eI .u32) A_0 c_0 r.1] := by
 have hw : St [] w0 w0 [] := St.nil w0
 unfold chain_Pack at H
 refine go_fn Tryd.func27 rfl 64 Tryd.ntmps27 [(0, .slice A0 l0.length c0), (1, .slice A1 l1.length c1)] (by kernel_rfl) rfl ?_
 intro a hs
 refine go_seq_k fun K1 hK1 => ?_
 refine go_region ?_
 refine go_pvs 0 3 [0, 1] hs (L' := [(0, .slice A0 l0.length c0), (1, .slice A1 l1.length c1)]) (by kernel_rfl) ?_ rfl
 clear hs; intro a hs
 refine go_end (by kernel_rfl) ?_
 refine hK1 _ _ ?_
 refine go_seq_k fun K2 hK2 => ?_
 refine go_region ?_
 refine go_pvs 0 1 [0, 1, 7] hs (L' := [(0, .slice A0 l0.length c0), (1, .slice A1 l1.length c1), (7, .int .i64 (-1))]) (by kernel_rfl) ?_ rfl
 clear hs; intro a hs
 refine go_end (by kernel_rfl) ?_
 refine hK2 _ _ ?_
 refine go_seq_k fun K3 hK3 => ?_
 refine go_seq_k fun K4 hK4 => ?_
 refine go_region ?_
 refine go_pvs 0 3 [0, 1, 7, 14, 15, 16] hs (L' := [(0, .slice A0 l0.length c0), (1, .slice A1 l1.length c1), (7, .int .i64 (-1)), (14, .slice A1 l1.length c1), (15, .int .i64 (l1.length : Int)), (16, .int .i64 0)]) (by kernel_rfl) ?_ rfl
 clear hs; intro a hs
 refine go_end (by kernel_rfl) ?_
 refine hK4 _ _ ?_
 refine wp_block ?_
 obtain ⟨e5, hl5, HX5⟩ := bind_some H
 have hJ4 : ∀ (a : Act) (w : World), Slots a 64 [(0, .slice A0 l0.length c0), (1, .slice A1 l1.length c1)] → St [] w0 w [] → chain_Pack.j4 l0 l1 = some r → K3 a w := by
  intro a w hs hw H
  unfold chain_Pack.j4 at H
  refine hK3 _ _ ?_
  refine go_seq_k fun K26 hK26 => ?_
  refine go_region ?_
  refine go_pvs 0 1 [1, 35] hs (L' := [(1, .slice A1 l1.length c1), (35, .slice A0 l0.length c0)]) (by kernel_rfl) ?_ rfl
  clear hs; intro a hs
  obtain ⟨t28, hx29, H⟩ := bind_some H
  refine go_call hs (op := (Op.call { callee := (Callee.value (Operand.func 54)), args := #[(Operand.tmp 35)], argTypes := #[22] })) (ty := 22) (dst := some 36) (g := none) (by kernel_rfl) (by kernel_rfl) (by kernel_rfl) (f := 54) (args := #[.slice A0 l0.length c0]) (by kernel_rfl) (slices_Clone_uint32_uint32.calls A0 c0 l0 t28 _ (hr0.old hw) hx29) ?_
  rintro e wd32 ⟨Aa30, cc31, rfl, hw33⟩
  refine ⟨_, rfl, ?_⟩
  replace hw := hw.call hw33
  intro a hs1
  replace hs : Slots a 64 [(1, .slice A1 l1.length c1), (36, .slice Aa30 t28.length cc31)] := hs1.keep [1, 36] (by kernel_rfl)
  clear hs1
  refine go_pvs 2 3 [1, 10] hs (L' := [(1, .slice A1 l1.length c1), (10, .slice Aa30 t28.length cc31)]) (by kernel_rfl) ?_ rfl
  clear hs; intro a hs
  refine go_end (by kernel_rfl) ?_
  refine hK26 _ _ ?_
  refine go_seq_k fun K35 hK35 => ?_
  refine go_region ?_
  refine go_pvs 0 1 [1, 10, 11] hs (L' := [(1, .slice A1 l1.length c1), (10, .slice Aa30 t28.length cc31), (11, .int .i64 0)]) (by kernel_rfl) ?_ rfl
  clear hs; intro a hs
  refine go_end (by kernel_rfl) ?_
  refine hK35 _ _ ?_
  refine go_seq_k fun K36 hK36 => ?_
  refine go_seq_k fun K37 hK37 => ?_
  refine go_region ?_
  refine go_pvs 0 3 [10, 11, 37, 38, 39] hs (L' := [(10, .slice Aa30 t28.length cc31), (11, .int .i64 0), (37, .slice A1 l1.length c1), (38, .int .i64 (l1.length : Int)), (39, .int .i64 0)]) (by kernel_rfl) ?_ rfl
  clear hs; intro a hs
  refine go_end (by kernel_rfl) ?_
  refine hK37 _ _ ?_
  refine wp_block ?_
  obtain ⟨e38, hl38, HX38⟩ := bind_some H
  have hJ5 : ∀ (l64 : List Int) (v65 : Int) (a : Act) (w : World), Slots a 64 [(10, .slice Aa30 l64.length cc31), (11, .int .i64 v65)] → St [] w0 w [own 37 (eI .u32) Aa30 cc31 l64] → chain_Pack.j5 l64 v65 = some r → K36 a w := by
   intro l64 v65 a w hs hw H
   unfold chain_Pack.j5 at H
   refine hK36 _ _ ?_
   refine go_seq_k fun K66 hK66 => ?_
   refine go_region ?_
   refine go_pvs 0 5 [4, 5, 6] hs (L' := [(4, .slice Aa30 l64.length cc31), (5, .int .i64 v65), (6, .int .i64 0)]) (by kernel_rfl) ?_ rfl
   clear hs; intro a hs
   refine go_end (by kernel_rfl) ?_
   refine hK66 _ _ ?_
   refine wp_ret ?_
   obtain rfl := Option.some.inj H
   refine ret3 (t1 := 4) (v1 := .slice Aa30 l64.length cc31) (t2 := 5) (v2 := .int .i64 v65) (t3 := 6) (v3 := .int .i64 0) hs (by kernel_rfl) (by kernel_rfl) (by kernel_rfl) (by kernel_rfl) ?_
   exact ⟨Aa30, cc31, rfl, hw.only 1⟩
  clear H
  refine go_loop (σ := (List Int) × Int × Int) (fun σ a w => Slots a 64 [(10, .slice Aa30 σ.1.length cc31), (11, .int .i64 σ.2.1), (37, .slice A1 l1.length c1), (38, .int .i64 (l1.length : Int)), (39, .int .i64 σ.2.2)] ∧ St [] w0 w [own 37 (eI .u32) Aa30 cc31 σ.1]) hl38 (by exact ⟨hs.keep [10, 11, 37, 38, 39] (by kernel_rfl), hw⟩) ?_
  rintro ⟨l39, v40, v41⟩ a w ⟨hs, hw⟩ o H hr38
  replace hs : Slots a 64 [(10, .slice Aa30 l39.length cc31), (11, .int .i64 v40), (37, .slice A1 l1.length c1), (38, .int .i64 (l1.length : Int)), (39, .int .i64 v41)] := hs
  replace hw : St [] w0 w [own 37 (eI .u32) Aa30 cc31 l39] := hw
  replace H : chain_Pack.b38 l1 l39 v40 v41 = some o := H
  unfold chain_Pack.b38 at H
  refine go_seq_k fun K42 hK42 => ?_
  refine go_region ?_
  refine go_pvs 0 1 [10, 11, 37, 38, 39, 40] hs (L' := [(10, .slice Aa30 l39.length cc31), (11, .int .i64 v40), (37, .slice A1 l1.length c1), (38, .int .i64 (l1.length : Int)), (39, .int .i64 v41), (40, .bool (decide (v41 < (l1.length : Int))))]) (by kernel_rfl) ?_ rfl
  clear hs; intro a hs
  refine go_end (by kernel_rfl) ?_
  refine hK42 _ _ ?_
  refine go_seq_k fun K43 hK43 => ?_
  refine go_cond hs (decide (v41 < (l1.length : Int))) (by kernel_rfl) (fun hc => ?_) (fun hc => ?_)
  ·replace H := ite_t H (of_decide_eq_true hc)
   have hb44 := hc
   rw [hb44] at hs
   refine wp_skip ?_
   refine hK43 _ _ ?_
   refine go_seq_k fun K45 hK45 => ?_
   refine wp_block ?_
   refine go_seq_k fun K46 hK46 => ?_
   refine go_region ?_
   obtain ⟨hp47, H⟩ := ite_only H
   obtain ⟨ad48, rfl⟩ := (hr1.old hw).some hp47.1 hp47.2
   refine go_run hs (op := (Op.indexAddr 23 (Operand.tmp 37) (Operand.tmp 39))) (ty := 0) (dst := some 41) (g := none) (by kernel_rfl) (by kernel_rfl) (by kernel_rfl) (x_idx (T := 3) (sz := 1) (a := ad48) (n := l1.length) (cap := c1) (k := .i64) (i := v41) (by kernel_rfl) (by kernel_rfl) (by kernel_rfl) (by kernel_rfl) hp47.1 hp47.2) [10, 11, 37, 38, 39, 41] (L' := [(10, .slice Aa30 l39.length cc31), (11, .int .i64 v40), (37, .slice (some ad48) l1.length c1), (38, .int .i64 (l1.length : Int)), (39, .int .i64 v41), (41, .pointer (some (ad48.add (v41.toNat * 1))))]) (by kernel_rfl) ?_
   clear hs; intro a hs
   refine go_run hs (op := (Op.load 3 (Operand.tmp 41))) (ty := 3) (dst := some 42) (g := none) (by kernel_rfl) (by kernel_rfl) (by kernel_rfl) (x_ld (E := (eI .i64)) (off := 0) (p := ad48.add (v41.toNat * 1)) (v := .int .i64 (ix (eI .i64).d l1 v41)) (hr1.old hw) hp47.1 hp47.2 (by kernel_rfl) rfl (by kernel_rfl) (by kernel_rfl)) [10, 11, 37, 38, 39, 42] (L' := [(10, .slice Aa30 l39.length cc31), (11, .int .i64 v40), (37, .slice (some ad48) l1.length c1), (38, .int .i64 (l1.length : Int)), (39, .int .i64 v41), (42, .int .i64 (ix (eI .i64).d l1 v41))]) (by kernel_rfl) ?_
   clear hs; intro a hs
   refine go_pvs 2 3 [10, 11, 13, 37, 38, 39] hs (L' := [(10, .slice Aa30 l39.length cc31), (11, .int .i64 v40), (13, .int .i64 (ix (eI .i64).d l1 v41)), (37, .slice (some ad48) l1.length c1), (38, .int .i64 (l1.length : Int)), (39, .int .i64 v41)]) (by kernel_rfl) ?_ rfl
   clear hs; intro a hs
   refine go_end (by kernel_rfl) ?_
   refine hK46 _ _ ?_
   refine go_seq_k fun K49 hK49 => ?_
   refine go_seq_k fun K50 hK50 => ?_
   refine go_region ?_
   refine go_pvs 0 2 [10, 11, 13, 37, 38, 39, 43, 44] hs (L' := [(10, .slice Aa30 l39.length cc31), (11, .int .i64 v40), (13, .int .i64 (ix (eI .i64).d l1 v41)), (37, .slice (some ad48) l1.length c1), (38, .int .i64 (l1.length : Int)), (39, .int .i64 v41), (43, .slice Aa30 l39.length cc31), (44, .int .i64 (ix (eI .i64).d l1 v41))]) (by kernel_rfl) ?_ rfl
   clear hs; intro a hs
   obtain ⟨hp51, H⟩ := ite_only H
   obtain ⟨ad52, rfl⟩ := (Rd.of_own (hw.up 0)).some hp51.1 hp51.2
   refine go_run hs (op := (Op.indexAddr 22 (Operand.tmp 43) (Operand.tmp 44))) (ty := 0) (dst := some 45) (g := none) (by kernel_rfl) (by kernel_rfl) (by kernel_rfl) (x_idx (T := 37) (sz := 1) (a := ad52) (n := l39.length) (cap := cc31) (k := .i64) (i := (ix (eI .i64).d l1 v41)) (by kernel_rfl) (by kernel_rfl) (by kernel_rfl) (by kernel_rfl) hp51.1 hp51.2) [10, 11, 13, 37, 38, 39, 45] (L' := [(10, .slice (some ad52) l39.length cc31), (11, .int .i64 v40), (13, .int .i64 (ix (eI .i64).d l1 v41)), (37, .slice (some ad48) l1.length c1), (38, .int .i64 (l1.length : Int)), (39, .int .i64 v41), (45, .pointer (some (ad52.add ((ix (eI .i64).d l1 v41).toNat * 1))))]) (by kernel_rfl) ?_
   clear hs; intro a hs
   refine go_run hs (op := (Op.load 37 (Operand.tmp 45))) (ty := 37) (dst := some 46) (g := none) (by kernel_rfl) (by kernel_rfl) (by kernel_rfl) (x_ld (E := (eI .u32)) (off := 0) (p := ad52.add ((ix (eI .i64).d l1 v41).toNat * 1)) (v := .int .u32 (ix (eI .u32).d l39 (ix (eI .i64).d l1 v41))) (Rd.of_own (hw.up 0)) hp51.1 hp51.2 (by kernel_rfl) rfl (by kernel_rfl) (by kernel_rfl)) [10, 11, 13, 37, 38, 39, 46] (L' := [(10, .slice (some ad52) l39.length cc31), (11, .int .i64 v40), (13, .int .i64 (ix (eI .i64).d l1 v41)), (37, .slice (some ad48) l1.length c1), (38, .int .i64 (l1.length : Int)), (39, .int .i64 v41), (46, .int .u32 (ix (eI .u32).d l39 (ix (eI .i64).d l1 v41)))]) (by kernel_rfl) ?_
   clear hs; intro a hs
   refine go_pvs 4 5 [10, 11, 13, 37, 38, 39, 47] hs (L' := [(10, .slice (some ad52) l39.length cc31), (11, .int .i64 v40), (13, .int .i64 (ix (eI .i64).d l1 v41)), (37, .slice (some ad48) l1.length c1), (38, .int .i64 (l1.length : Int)), (39, .int .i64 v41), (47, .bool (decide ((ix (eI .u32).d l39 (ix (eI .i64).d l1 v41)) > 65535)))]) (by kernel_rfl) ?_ rfl
   clear hs; intro a hs
   refine go_end (by kernel_rfl) ?_
   refine hK50 _ _ ?_
   refine go_cond hs (decide ((ix (eI .u32).d l39 (ix (eI .i64).d l1 v41)) > 65535)) (by kernel_rfl) (fun hc => ?_) (fun hc => ?_)
   ·replace H := ite_t H (of_decide_eq_true hc)
    have hb53 := hc
    rw [hb53] at hs
    refine go_seq_k fun K54 hK54 => ?_
    refine go_region ?_
    refine go_pvs 0 3 [4, 5, 6] hs (L' := [(4, .slice none 0 0), (5, .int .i64 0), (6, .int .i64 8)]) (by kernel_rfl) ?_ rfl
    clear hs; intro a hs
    refine go_end (by kernel_rfl) ?_
    refine hK54 _ _ ?_
    refine wp_ret ?_
    refine th_ret ?_
    refine ib_ret ?_
    refine th_ret ?_
    refine th_ret ?_
    refine ib_ret ?_
    refine th_ret ?_
    rw [← hr38 _ (Option.some.inj H).symm] at HX38
    replace H : some (([] : List Int), 0, 8) = some r := HX38
    obtain rfl := Option.some.inj H
    replace hw := St.own_nil hw 37 (eI .u32)
    refine ret3 (t1 := 4) (v1 := .slice none 0 0) (t2 := 5) (v2 := .int .i64 0) (t3 := 6) (v3 := .int .i64 8) hs (by kernel_rfl) (by kernel_rfl) (by kernel_rfl) (by kernel_rfl) ?_
    exact ⟨none, 0, rfl, hw.only 1⟩
   ·replace H := ite_f H (of_decide_eq_false hc)
    have hb56 := hc
    rw [hb56] at hs
    refine wp_skip ?_
    refine hK49 _ _ ?_
    refine go_seq_k fun K57 hK57 => ?_
    refine go_region ?_
    refine go_pvs 0 4 [10, 11, 13, 37, 38, 39, 48, 49, 50, 51] hs (L' := [(10, .slice (some ad52) l39.length cc31), (11, .int .i64 v40), (13, .int .i64 (ix (eI .i64).d l1 v41)), (37, .slice (some ad48) l1.length c1), (38, .int .i64 (l1.length : Int)), (39, .int .i64 v41), (48, .slice (some ad52) l39.length cc31), (49, .int .i64 (ix (eI .i64).d l1 v41)), (50, .slice (some ad52) l39.length cc31), (51, .int .i64 (ix (eI .i64).d l1 v41))]) (by kernel_rfl) ?_ rfl
    clear hs; intro a hs
    obtain ⟨hp58, H⟩ := ite_only H
    refine go_run hs (op := (Op.indexAddr 22 (Operand.tmp 50) (Operand.tmp 51))) (ty := 0) (dst := some 52) (g := none) (by kernel_rfl) (by kernel_rfl) (by kernel_rfl) (x_idx (T := 37) (sz := 1) (a := ad52) (n := l39.length) (cap := cc31) (k := .i64) (i := (ix (eI .i64).d l1 v41)) (by kernel_rfl) (by kernel_rfl) (by kernel_rfl) (by kernel_rfl) hp58.1 hp58.2) [10, 11, 13, 37, 38, 39, 48, 49, 52] (L' := [(10, .slice (some ad52) l39.length cc31), (11, .int .i64 v40), (13, .int .i64 (ix (eI .i64).d l1 v41)), (37, .slice (some ad48) l1.length c1), (38, .int .i64 (l1.length : Int)), (39, .int .i64 v41), (48, .slice (some ad52) l39.length cc31), (49, .int .i64 (ix (eI .i64).d l1 v41)), (52, .pointer (some (ad52.add ((ix (eI .i64).d l1 v41).toNat * 1))))]) (by kernel_rfl) ?_
    clear hs; intro a hs
    refine go_run hs (op := (Op.load 37 (Operand.tmp 52))) (ty := 37) (dst := some 53) (g := none) (by kernel_rfl) (by kernel_rfl) (by kernel_rfl) (x_ld (E := (eI .u32)) (off := 0) (p := ad52.add ((ix (eI .i64).d l1 v41).toNat * 1)) (v := .int .u32 (ix (eI .u32).d l39 (ix (eI .i64).d l1 v41))) (Rd.of_own (hw.up 0)) hp58.1 hp58.2 (by kernel_rfl) rfl (by kernel_rfl) (by kernel_rfl)) [10, 11, 13, 37, 38, 39, 48, 49, 53] (L' := [(10, .slice (some ad52) l39.length cc31), (11, .int .i64 v40), (13, .int .i64 (ix (eI .i64).d l1 v41)), (37, .slice (some ad48) l1.length c1), (38, .int .i64 (l1.length : Int)), (39, .int .i64 v41), (48, .slice (some ad52) l39.length cc31), (49, .int .i64 (ix (eI .i64).d l1 v41)), (53, .int .u32 (ix (eI .u32).d l39 (ix (eI .i64).d l1 v41)))]) (by kernel_rfl) ?_
    clear hs; intro a hs
    refine go_pvs 6 10 [10, 13, 37, 38, 39, 48, 49, 57] hs (L' := [(10, .slice (some ad52) l39.length cc31), (13, .int .i64 (ix (eI .i64).d l1 v41)), (37, .slice (some ad48) l1.length c1), (38, .int .i64 (l1.length : Int)), (39, .int .i64 v41), (48, .slice (some ad52) l39.length cc31), (49, .int .i64 (ix (eI .i64).d l1 v41)), (57, .int .u32 (bor .u32 (wu32 ((ix (eI .u32).d l39 (ix (eI .i64).d l1 v41)) * 2 ^ 16)) (wu32 v40)))]) (by kernel_rfl) ?_ rfl
    clear hs; intro a hs
    obtain ⟨hp59, H⟩ := ite_only H
    refine go_run hs (op := (Op.indexAddr 22 (Operand.tmp 48) (Operand.tmp 49))) (ty := 0) (dst := some 58) (g := none) (by kernel_rfl) (by kernel_rfl) (by kernel_rfl) (x_idx (T := 37) (sz := 1) (a := ad52) (n := l39.length) (cap := cc31) (k := .i64) (i := (ix (eI .i64).d l1 v41)) (by kernel_rfl) (by kernel_rfl) (by kernel_rfl) (by kernel_rfl) hp59.1 hp59.2) [10, 13, 37, 38, 39, 57, 58] (L' := [(10, .slice (some ad52) l39.length cc31), (13, .int .i64 (ix (eI .i64).d l1 v41)), (37, .slice (some ad48) l1.length c1), (38, .int .i64 (l1.length : Int)), (39, .int .i64 v41), (57, .int .u32 (bor .u32 (wu32 ((ix (eI .u32).d l39 (ix (eI .i64).d l1 v41)) * 2 ^ 16)) (wu32 v40))), (58, .pointer (some (ad52.add ((ix (eI .i64).d l1 v41).toNat * 1))))]) (by kernel_rfl) ?_
    clear hs; intro a hs
    obtain ⟨wd60, hx61, hw⟩ := x_put (P := Tryd.prog) (ty := 0) (t := 37) (x := (Operand.tmp 58)) (y := (Operand.tmp 57)) (off := 0) (p := ad52.add ((ix (eI .i64).d l1 v41).toNat * 1)) (v := .int .u32 (bor .u32 (wu32 ((ix (eI .u32).d l39 (ix (eI .i64).d l1 v41)) * 2 ^ 16)) (wu32 v40))) (vs := [.int .u32 (bor .u32 (wu32 ((ix (eI .u32).d l39 (ix (eI .i64).d l1 v41)) * 2 ^ 16)) (wu32 v40))]) (i := (ix (eI .i64).d l1 v41)) (e' := (bor .u32 (wu32 ((ix (eI .u32).d l39 (ix (eI .i64).d l1 v41)) * 2 ^ 16)) (wu32 v40) : Int)) hs hw rfl hp59.1 hp59.2 (by kernel_rfl) rfl (by kernel_rfl) rfl (by kernel_rfl) (Nat.le_of_ble_eq_true rfl) (by simp [Value.oneCell']) (by kernel_rfl)
    refine go_unit hs (op := (Op.store 37 (Operand.tmp 58) (Operand.tmp 57))) (ty := 0) (dst := none) (g := none) (by kernel_rfl) (by kernel_rfl) (by kernel_rfl) hx61 [10, 13, 37, 38, 39] (L' := [(10, .slice (some ad52) l39.length cc31), (13, .int .i64 (ix (eI .i64).d l1 v41)), (37, .slice (some ad48) l1.length c1), (38, .int .i64 (l1.length : Int)), (39, .int .i64 v41)]) (by kernel_rfl) ?_
    clear hs; intro a hs
    replace hs : Slots a 64 [(10, .slice (some ad52) (l39.set ((ix (eI .i64).d l1 v41) : Int).toNat (bor .u32 (wu32 ((ix (eI .u32).d l39 (ix (eI .i64).d l1 v41)) * 2 ^ 16)) (wu32 v40))).length cc31), (13, .int .i64 (ix (eI .i64).d l1 v41)), (37, .slice (some ad48) l1.length c1), (38, .int .i64 (l1.length : Int)), (39, .int .i64 v41)] := by rw [show (l39.set ((ix (eI .i64).d l1 v41) : Int).toNat (bor .u32 (wu32 ((ix (eI .u32).d l39 (ix (eI .i64).d l1 v41)) * 2 ^ 16)) (wu32 v40))).length = (l39).length from List.length_set]; exact hs
    refine go_end (by kernel_rfl) ?_
    refine hK57 _ _ ?_
    refine go_region ?_
    refine go_pvs 0 3 [10, 11, 37, 38, 39] hs (L' := [(10, .slice (some ad52) (l39.set ((ix (eI .i64).d l1 v41) : Int).toNat (bor .u32 (wu32 ((ix (eI .u32).d l39 (ix (eI .i64).d l1 v41)) * 2 ^ 16)) (wu32 v40))).length cc31), (11, .int .i64 (w64 ((ix (eI .i64).d l1 v41) + 1))), (37, .slice (some ad48) l1.length c1), (38, .int .i64 (l1.length : Int)), (39, .int .i64 v41)]) (by kernel_rfl) ?_ rfl
    clear hs; intro a hs
    obtain ⟨y62, hy62, H⟩ := nm_some H
    replace hs : Slots a 64 [(10, .slice (some ad52) (l39.set ((ix (eI .i64).d l1 v41) : Int).toNat (bor .u32 (wu32 ((ix (eI .u32).d l39 (ix (eI .i64).d l1 v41)) * 2 ^ 16)) (wu32 v40))).length cc31), (11, .int .i64 y62), (37, .slice (some ad48) l1.length c1), (38, .int .i64 (l1.length : Int)), (39, .int .i64 v41)] := by rw [hy62]; exact hs
    refine go_end (by kernel_rfl) ?_
    refine ib_norm ?_
    refine hK45 _ _ ?_
    refine go_region ?_
    refine go_pvs 0 2 [10, 11, 37, 38, 39] hs (L' := [(10, .slice (some ad52) (l39.set ((ix (eI .i64).d l1 v41) : Int).toNat (bor .u32 (wu32 ((ix (eI .u32).d l39 (ix (eI .i64).d l1 v41)) * 2 ^ 16)) (wu32 v40))).length cc31), (11, .int .i64 y62), (37, .slice (some ad48) l1.length c1), (38, .int .i64 (l1.length : Int)), (39, .int .i64 (w64 (v41 + 1)))]) (by kernel_rfl) ?_ rfl
    clear hs; intro a hs
    refine go_end (by kernel_rfl) ?_
    replace hw := hw.only 1
    exact round_end (l39.set ((ix (eI .i64).d l1 v41) : Int).toNat (bor .u32 (wu32 ((ix (eI .u32).d l39 (ix (eI .i64).d l1 v41)) * 2 ^ 16)) (wu32 v40)), y62, w64 (v41 + 1)) (Option.some.inj H).symm ⟨hs.keep [10, 11, 37, 38, 39] (by kernel_rfl), hw⟩
  ·replace H := ite_f H (of_decide_eq_false hc)
   have hb63 := hc
   rw [hb63] at hs
   refine wp_exit ?_
   refine th_exit ?_
   refine th_exit ?_
   refine in_block ?_
   replace hw := hw.only 1
   rw [← hr38 _ (Option.some.inj H).symm] at HX38
   exact hJ5 l39 v40 _ _ (hs.keep [10, 11] (by kernel_rfl)) hw HX38
 clear H
 refine go_loop (σ := Int × Int) (fun σ a w => Slots a 64 [(0, .slice A0 l0.length c0), (1, .slice A1 l1.length c1), (7, .int .i64 σ.1), (14, .slice A1 l1.length c1), (15, .int .i64 (l1.length : Int)), (16, .int .i64 σ.2)] ∧ St [] w0 w []) hl5 (by exact ⟨hs.keep [0, 1, 7, 14, 15, 16] (by kernel_rfl), hw⟩) ?_
 rintro ⟨v6, v7⟩ a w ⟨hs, hw⟩ o H hr5
 replace hs : Slots a 64 [(0, .slice A0 l0.length c0), (1, .slice A1 l1.length c1), (7, .int .i64 v6), (14, .slice A1 l1.length c1), (15, .int .i64 (l1.length : Int)), (16, .int .i64 v7)] := hs
 replace hw : St [] w0 w [] := hw
 replace H : chain_Pack.b5 l1 l0 v6 v7 = some o := H
 unfold chain_Pack.b5 at H
 refine go_seq_k fun K8 hK8 => ?_
 refine go_region ?_
 refine go_pvs 0 1 [0, 1, 7, 14, 15, 16, 17] hs (L' := [(0, .slice A0 l0.length c0), (1, .slice A1 l1.length c1), (7, .int .i64 v6), (14, .slice A1 l1.length c1), (15, .int .i64 (l1.length : Int)), (16, .int .i64 v7), (17, .bool (decide (v7 < (l1.length : Int))))]) (by kernel_rfl) ?_ rfl
 clear hs; intro a hs
 refine go_end (by kernel_rfl) ?_
 refine hK8 _ _ ?_
 refine go_seq_k fun K9 hK9 => ?_
 refine go_cond hs (decide (v7 < (l1.length : Int))) (by kernel_rfl) (fun hc => ?_) (fun hc => ?_)
 ·replace H := ite_t H (of_decide_eq_true hc)
  have hb10 := hc
  rw [hb10] at hs
  refine wp_skip ?_
  refine hK9 _ _ ?_
  refine go_seq_k fun K11 hK11 => ?_
  have hJ3 : ∀ (v24 : Int) (a : Act) (w : World), Slots a 64 [(0, .slice A0 l0.length c0), (1, .slice A1 l1.length c1), (7, .int .i64 v24), (14, .slice A1 l1.length c1), (15, .int .i64 (l1.length : Int)), (16, .int .i64 v7)] → St [] w0 w [] → chain_Pack.j3 v7 v24 = some o → K11 a w := by
   intro v24 a w hs hw H
   unfold chain_Pack.j3 at H
   refine hK11 _ _ ?_
   refine go_region ?_
   refine go_pvs 0 2 [0, 1, 7, 14, 15, 16] hs (L' := [(0, .slice A0 l0.length c0), (1, .slice A1 l1.length c1), (7, .int .i64 v24), (14, .slice A1 l1.length c1), (15, .int .i64 (l1.length : Int)), (16, .int .i64 (w64 (v7 + 1)))]) (by kernel_rfl) ?_ rfl
   clear hs; intro a hs
   refine go_end (by kernel_rfl) ?_
   replace hw := hw.only 0
   exact round_end (v24, w64 (v7 + 1)) (Option.some.inj H).symm ⟨hs.keep [0, 1, 7, 14, 15, 16] (by kernel_rfl), hw⟩
  refine wp_block ?_
  refine go_seq_k fun K12 hK12 => ?_
  refine go_region ?_
  obtain ⟨hp13, H⟩ := ite_only H
  obtain ⟨ad14, rfl⟩ := (hr1.old hw).some hp13.1 hp13.2
  refine go_run hs (op := (Op.indexAddr 23 (Operand.tmp 14) (Operand.tmp 16))) (ty := 0) (dst := some 18) (g := none) (by kernel_rfl) (by kernel_rfl) (by kernel_rfl) (x_idx (T := 3) (sz := 1) (a := ad14) (n := l1.length) (cap := c1) (k := .i64) (i := v7) (by kernel_rfl) (by kernel_rfl) (by kernel_rfl) (by kernel_rfl) hp13.1 hp13.2) [0, 1, 7, 14, 15, 16, 18] (L' := [(0, .slice A0 l0.length c0), (1, .slice (some ad14) l1.length c1), (7, .int .i64 v6), (14, .slice (some ad14) l1.length c1), (15, .int .i64 (l1.length : Int)), (16, .int .i64 v7), (18, .pointer (some (ad14.add (v7.toNat * 1))))]) (by kernel_rfl) ?_
  clear hs; intro a hs
  refine go_run hs (op := (Op.load 3 (Operand.tmp 18))) (ty := 3) (dst := some 19) (g := none) (by kernel_rfl) (by kernel_rfl) (by kernel_rfl) (x_ld (E := (eI .i64)) (off := 0) (p := ad14.add (v7.toNat * 1)) (v := .int .i64 (ix (eI .i64).d l1 v7)) (hr1.old hw) hp13.1 hp13.2 (by kernel_rfl) rfl (by kernel_rfl) (by kernel_rfl)) [0, 1, 7, 14, 15, 16, 19] (L' := [(0, .slice A0 l0.length c0), (1, .slice (some ad14) l1.length c1), (7, .int .i64 v6), (14, .slice (some ad14) l1.length c1), (15, .int .i64 (l1.length : Int)), (16, .int .i64 v7), (19, .int .i64 (ix (eI .i64).d l1 v7))]) (by kernel_rfl) ?_
  clear hs; intro a hs
  refine go_pvs 2 3 [0, 1, 7, 9, 14, 15, 16] hs (L' := [(0, .slice A0 l0.length c0), (1, .slice (some ad14) l1.length c1), (7, .int .i64 v6), (9, .int .i64 (ix (eI .i64).d l1 v7)), (14, .slice (some ad14) l1.length c1), (15, .int .i64 (l1.length : Int)), (16, .int .i64 v7)]) (by kernel_rfl) ?_ rfl
  clear hs; intro a hs
  refine go_end (by kernel_rfl) ?_
  refine hK12 _ _ ?_
  refine go_seq_k fun K15 hK15 => ?_
  have hJ2 : ∀ (a : Act) (w : World), Slots a 64 [(0, .slice A0 l0.length c0), (1, .slice (some ad14) l1.length c1), (9, .int .i64 (ix (eI .i64).d l1 v7)), (14, .slice (some ad14) l1.length c1), (15, .int .i64 (l1.length : Int)), (16, .int .i64 v7)] → St [] w0 w [] → chain_Pack.j2 v7 l1 = some o → K15 a w := by
   intro a w hs hw H
   unfold chain_Pack.j2 at H
   refine hK15 _ _ ?_
   refine go_region ?_
   refine go_pvs 0 2 [0, 1, 7, 14, 15, 16] hs (L' := [(0, .slice A0 l0.length c0), (1, .slice (some ad14) l1.length c1), (7, .int .i64 (ix (eI .i64).d l1 v7)), (14, .slice (some ad14) l1.length c1), (15, .int .i64 (l1.length : Int)), (16, .int .i64 v7)]) (by kernel_rfl) ?_ rfl
   clear hs; intro a hs
   refine go_end (by kernel_rfl) ?_
   refine ib_norm ?_
   replace hw := hw.only 0
   exact hJ3 (ix (eI .i64).d l1 v7) _ _ (hs.keep [0, 1, 7, 14, 15, 16] (by kernel_rfl)) hw H
  refine go_seq_k fun K16 hK16 => ?_
  have hJ1 : ∀ (v19 : Bool) (a : Act) (w : World), Slots a 64 [(0, .slice A0 l0.length c0), (1, .slice (some ad14) l1.length c1), (9, .int .i64 (ix (eI .i64).d l1 v7)), (14, .slice (some ad14) l1.length c1), (15, .int .i64 (l1.length : Int)), (16, .int .i64 v7), (32, .bool v19)] → St [] w0 w [] → chain_Pack.j1 v7 l1 v19 = some o → K16 a w := by
   intro v19 a w hs hw H
   unfold chain_Pack.j1 at H
   refine hK16 _ _ ?_
   refine go_cond hs v19 (by kernel_rfl) (fun hc => ?_) (fun hc => ?_)
   ·replace H := ite_t H hc
    have hb20 := hc
    rw [hb20] at hs
    refine go_seq_k fun K21 hK21 => ?_
    refine go_region ?_
    refine go_pvs 0 3 [4, 5, 6] hs (L' := [(4, .slice none 0 0), (5, .int .i64 0), (6, .int .i64 7)]) (by kernel_rfl) ?_ rfl
    clear hs; intro a hs
    refine go_end (by kernel_rfl) ?_
    refine hK21 _ _ ?_
    refine wp_ret ?_
    refine th_ret ?_
    refine ib_ret ?_
    refine th_ret ?_
    refine th_ret ?_
    refine ib_ret ?_
    refine th_ret ?_
    rw [← hr5 _ (Option.some.inj H).symm] at HX5
    replace H : some (([] : List Int), 0, 7) = some r := HX5
    obtain rfl := Option.some.inj H
    replace hw := St.own_nil hw 37 (eI .u32)
    refine ret3 (t1 := 4) (v1 := .slice none 0 0) (t2 := 5) (v2 := .int .i64 0) (t3 := 6) (v3 := .int .i64 7) hs (by kernel_rfl) (by kernel_rfl) (by kernel_rfl) (by kernel_rfl) ?_
    exact ⟨none, 0, rfl, hw.only 1⟩
   ·replace H := ite_f H (ff hc)
    have hb23 := hc
    rw [hb23] at hs
    refine wp_skip ?_
    replace hw := hw.only 0
    exact hJ2 _ _ (hs.keep [0, 1, 9, 14, 15, 16] (by kernel_rfl)) hw H
  refine go_region ?_
  refine go_pvs 0 4 [0, 1, 9, 14, 15, 16, 23] hs (L' := [(0, .slice A0 l0.length c0), (1, .slice (some ad14) l1.length c1), (9, .int .i64 (ix (eI .i64).d l1 v7)), (14, .slice (some ad14) l1.length c1), (15, .int .i64 (l1.length : Int)), (16, .int .i64 v7), (23, .bool (decide ((ix (eI .i64).d l1 v7) ≤ v6)))]) (by kernel_rfl) ?_ rfl
  clear hs; intro a hs
  cases hb17 : (decide ((ix (eI .i64).d l1 v7) ≤ v6))
  ·replace H := ite_f H (of_decide_eq_false hb17)
   rw [hb17] at hs
   refine go_pvs 4 10 [0, 1, 9, 14, 15, 16, 29] hs (L' := [(0, .slice A0 l0.length c0), (1, .slice (some ad14) l1.length c1), (9, .int .i64 (ix (eI .i64).d l1 v7)), (14, .slice (some ad14) l1.length c1), (15, .int .i64 (l1.length : Int)), (16, .int .i64 v7), (29, .bool (decide ((ix (eI .i64).d l1 v7) ≥ (l0.length : Int))))]) (by kernel_rfl) ?_ rfl
   clear hs; intro a hs
   cases hb18 : (decide ((ix (eI .i64).d l1 v7) ≥ (l0.length : Int)))
   ·replace H := ite_f H (of_decide_eq_false hb18)
    rw [hb18] at hs
    refine go_pvs 10 13 [0, 1, 9, 14, 15, 16, 32] hs (L' := [(0, .slice A0 l0.length c0), (1, .slice (some ad14) l1.length c1), (9, .int .i64 (ix (eI .i64).d l1 v7)), (14, .slice (some ad14) l1.length c1), (15, .int .i64 (l1.length : Int)), (16, .int .i64 v7), (32, .bool (decide ((ix (eI .i64).d l1 v7) > 65534)))]) (by kernel_rfl) ?_ rfl
    clear hs; intro a hs
    refine go_end (by kernel_rfl) ?_
    replace hw := hw.only 0
    exact hJ1 (decide ((ix (eI .i64).d l1 v7) > 65534)) _ _ (hs.keep [0, 1, 9, 14, 15, 16, 32] (by kernel_rfl)) hw H
   ·replace H := ite_t H (of_decide_eq_true hb18)
    rw [hb18] at hs
    refine go_pvs 10 13 [0, 1, 9, 14, 15, 16, 32] hs (L' := [(0, .slice A0 l0.length c0), (1, .slice (some ad14) l1.length c1), (9, .int .i64 (ix (eI .i64).d l1 v7)), (14, .slice (some ad14) l1.length c1), (15, .int .i64 (l1.length : Int)), (16, .int .i64 v7), (32, .bool true)]) (by kernel_rfl) ?_ rfl
    clear hs; intro a hs
    refine go_end (by kernel_rfl) ?_
    replace hw := hw.only 0
    exact hJ1 true _ _ (hs.keep [0, 1, 9, 14, 15, 16, 32] (by kernel_rfl)) hw H
  ·replace H := ite_t H (of_decide_eq_true hb17)
   rw [hb17] at hs
   refine go_pvs 4 13 [0, 1, 9, 14, 15, 16, 32] hs (L' := [(0, .slice A0 l0.length c0), (1, .slice (some ad14) l1.length c1), (9, .int .i64 (ix (eI .i64).d l1 v7)), (14, .slice (some ad14) l1.length c1), (15, .int .i64 (l1.length : Int)), (16, .int .i64 v7), (32, .bool true)]) (by kernel_rfl) ?_ rfl
   clear hs; intro a hs
   refine go_end (by kernel_rfl) ?_
   replace hw := hw.only 0
   exact hJ1 true _ _ (hs.keep [0, 1, 9, 14, 15, 16, 32] (by kernel_rfl)) hw H
 ·replace H := ite_f H (of_decide_eq_false hc)
  have hb25 := hc
  rw [hb25] at hs
  refine wp_exit ?_
  refine th_exit ?_
  refine th_exit ?_
  refine in_block ?_
  replace hw := hw.only 0
  rw [← hr5 _ (Option.some.inj H).symm] at HX5
  exact hJ4 _ _ (hs.keep [0, 1] (by kernel_rfl)) hw HX5

/-! slices.Equal[[]uint32,uint32]: function 38 -/
noncomputable def slices_Equal_uint32_uint32.j1 : Option Bool := some true
noncomputable def slices_Equal_uint32_uint32.b9 (l0 : List Int) (l1 : List Int) (v10 : Int) : Option (Int ⊕ (Ex Bool Unit)) := (if v10 < (l0.length : Int) then (if 0 ≤ v10 ∧ v10 < (l0.length : Int) then (if 0 ≤ v10 ∧ v10 < (l1.length : Int) then (if (ix (eI .u32).d l0 v10) = (ix (eI .u32).d l1 v10) then some (.inl (w64 (v10 + 1))) else some (.inr (.ret false))) else none) else none) else some (.inr (.done ())))
noncomputable def slices_Equal_uint32_uint32 (l0 : List Int) (l1 : List Int) : Option Bool := (if (l0.length : Int) = (l1.length : Int) then ((loopO (fun (σ : Int) => slices_Equal_uint32_uint32.b9 l0 l1 σ) 0).bind fun e => match e with | .ret x => some x | .done e => slices_Equal_uint32_uint32.j1) else some false)
set_option maxRecDepth 100000 in
set_option maxHeartbeats 4000000 in
theorem slices_Equal_uint32_uint32.calls (A0 : Option Addr) (c0 : Nat) (l0 : List Int) (A1 : Option Addr) (c1 : Nat) (l1 : List Int) (r : Bool) (w0 : World) (hr0 : Rd w0 (eI .u32) A0 c0 l0) (hr1 : Rd w0 (eI .u32) A1 c1 l1) (H : slices_Equal_uint32_uint32 l0 l1 = some r) :
    Calls Tryd.prog 38 #[.slice A0 l0.length c0, .slice A1 l1.length c1] w0 fun e w' => e = .returned (.bool r) ∧ St [] w0 w' [] := by
 have hw : St [] w0 w0 [] := St.nil w0
 unfold slices_Equal_uint32_uint32 at H
 refine go_fn Tryd.func38 rfl 26 Tryd.ntmps38 [(0, .slice A0 l0.length c0), (1, .slice A1 l1.length c1)] (by kernel_rfl) rfl ?_
 intro a hs
 refine go_seq_k fun K1 hK1 => ?_
 refine go_region ?_
 refine go_pvs 0 1 [0, 1] hs (L' := [(0, .slice A0 l0.length c0), (1, .slice A1 l1.length c1)]) (by kernel_rfl) ?_ rfl
 clear hs; intro a hs
 refine go_end (by kernel_rfl) ?_
 refine hK1 _ _ ?_
 refine go_seq_k fun K2 hK2 => ?_
 refine go_seq_k fun K3 hK3 => ?_
 refine go_region ?_
 refine go_pvs 0 5 [0, 1, 10] hs (L' := [(0, .slice A0 l0.length c0), (1, .slice A1 l1.length c1), (10, .bool ((l0.length : Int) != (l1.length : Int)))]) (by kernel_rfl) ?_ rfl
 clear hs; intro a hs
 refine go_end (by kernel_rfl) ?_
 refine hK3 _ _ ?_
 refine go_cond hs ((l0.length : Int) != (l1.length : Int)) (by kernel_rfl) (fun hc => ?_) (fun hc => ?_)
 ·replace H := ite_f H (bne_iff_ne.1 hc)
  have hb4 := hc
  rw [hb4] at hs
  refine go_seq_k fun K5 hK5 => ?_
  refine go_region ?_
  refine go_pvs 0 1 [4] hs (L' := [(4, .bool false)]) (by kernel_rfl) ?_ rfl
  clear hs; intro a hs
  refine go_end (by kernel_rfl) ?_
  refine hK5 _ _ ?_
  refine wp_ret ?_
  refine th_ret ?_
  obtain rfl := Option.some.inj H
  refine ret1 (t := 4) (v := .bool false) hs (by kernel_rfl) (by kernel_rfl) ?_
  exact ⟨rfl, hw.only 0⟩
 ·replace H := ite_t H (bne_eq_false_iff_eq.1 hc)
  have hb6 := hc
  rw [hb6] at hs
  refine wp_skip ?_
  refine hK2 _ _ ?_
  refine go_seq_k fun K7 hK7 => ?_
  refine go_seq_k fun K8 hK8 => ?_
  refine go_region ?_
  refine go_pvs 0 3 [0, 1, 12, 13] hs (L' := [(0, .slice A0 l0.length c0), (1, .slice A1 l1.length c1), (12, .int .i64 (l0.length : Int)), (13, .int .i64 0)]) (by kernel_rfl) ?_ rfl
  clear hs; intro a hs
  refine go_end (by kernel_rfl) ?_
  refine hK8 _ _ ?_
  refine wp_block ?_
  obtain ⟨e9, hl9, HX9⟩ := bind_some H
  have hJ1 : ∀ (a : Act) (w : World), Slots a 26 [] → St [] w0 w [] → slices_Equal_uint32_uint32.j1 = some r → K7 a w := by
   intro a w hs hw H
   unfold slices_Equal_uint32_uint32.j1 at H
   refine hK7 _ _ ?_
   refine go_seq_k fun K25 hK25 => ?_
   refine go_region ?_
   refine go_pvs 0 1 [4] hs (L' := [(4, .bool true)]) (by kernel_rfl) ?_ rfl
   clear hs; intro a hs
   refine go_end (by kernel_rfl) ?_
   refine hK25 _ _ ?_
   refine wp_ret ?_
   obtain rfl := Option.some.inj H
   refine ret1 (t := 4) (v := .bool true) hs (by kernel_rfl) (by kernel_rfl) ?_
   exact ⟨rfl, hw.only 0⟩
  clear H
  refine go_loop (σ := Int) (fun σ a w => Slots a 26 [(0, .slice A0 l0.length c0), (1, .slice A1 l1.length c1), (12, .int .i64 (l0.length : Int)), (13, .int .i64 σ)] ∧ St [] w0 w []) hl9 (by exact ⟨hs.keep [0, 1, 12, 13] (by kernel_rfl), hw⟩) ?_
  rintro v10 a w ⟨hs, hw⟩ o H hr9
  replace hs : Slots a 26 [(0, .slice A0 l0.length c0), (1, .slice A1 l1.length c1), (12, .int .i64 (l0.length : Int)), (13, .int .i64 v10)] := hs
  replace hw : St [] w0 w [] := hw
  replace H : slices_Equal_uint32_uint32.b9 l0 l1 v10 = some o := H
  unfold slices_Equal_uint32_uint32.b9 at H
  refine go_seq_k fun K11 hK11 => ?_
  refine go_region ?_
  refine go_pvs 0 1 [0, 1, 12, 13, 14] hs (L' := [(0, .slice A0 l0.length c0), (1, .slice A1 l1.length c1), (12, .int .i64 (l0.length : Int)), (13, .int .i64 v10), (14, .bool (decide (v10 < (l0.length : Int))))]) (by kernel_rfl) ?_ rfl
  clear hs; intro a hs
  refine go_end (by kernel_rfl) ?_
  refine hK11 _ _ ?_
  refine go_seq_k fun K12 hK12 => ?_
  refine go_cond hs (decide (v10 < (l0.length : Int))) (by kernel_rfl) (fun hc => ?_) (fun hc => ?_)
  ·replace H := ite_t H (of_decide_eq_true hc)
   have hb13 := hc
   rw [hb13] at hs
   refine wp_skip ?_
   refine hK12 _ _ ?_
   refine go_seq_k fun K14 hK14 => ?_
   refine wp_block ?_
   refine go_seq_k fun K15 hK15 => ?_
   refine go_region ?_
   refine go_pvs 0 2 [0, 1, 5, 12, 13] hs (L' := [(0, .slice A0 l0.length c0), (1, .slice A1 l1.length c1), (5, .int .i64 v10), (12, .int .i64 (l0.length : Int)), (13, .int .i64 v10)]) (by kernel_rfl) ?_ rfl
   clear hs; intro a hs
   refine go_end (by kernel_rfl) ?_
   refine hK15 _ _ ?_
   refine go_seq_k fun K16 hK16 => ?_
   refine q2_region (by kernel_rfl) (by kernel_rfl) ?_
   refine q_pvs 0 2 [0, 1, 5, 12, 13, 16, 17] hs (L' := [(0, .slice A0 l0.length c0), (1, .slice A1 l1.length c1), (5, .int .i64 v10), (12, .int .i64 (l0.length : Int)), (13, .int .i64 v10), (16, .slice A0 l0.length c0), (17, .int .i64 v10)]) (by kernel_rfl) ?_ rfl
   clear hs; intro a hs
   obtain ⟨hp17, H⟩ := ite_only H
   obtain ⟨ad18, rfl⟩ := (hr0.old hw).some hp17.1 hp17.2
   refine q_run hs (op := (Op.indexAddr 22 (Operand.tmp 16) (Operand.tmp 17))) (ty := 0) (dst := some 18) (g := none) (by kernel_rfl) (by kernel_rfl) (by kernel_rfl) (fun wx hbx => (x_idx (T := 37) (sz := 1) (a := ad18) (n := l0.length) (cap := c0) (k := .i64) (i := v10) (by kernel_rfl) (by kernel_rfl) (by kernel_rfl) (by kernel_rfl) hp17.1 hp17.2)) [0, 1, 5, 12, 13, 18] (L' := [(0, .slice (some ad18) l0.length c0), (1, .slice A1 l1.length c1), (5, .int .i64 v10), (12, .int .i64 (l0.length : Int)), (13, .int .i64 v10), (18, .pointer (some (ad18.add (v10.toNat * 1))))]) (by kernel_rfl) ?_
   clear hs; intro a hs
   refine q_run hs (op := (Op.load 37 (Operand.tmp 18))) (ty := 37) (dst := some 19) (g := none) (by kernel_rfl) (by kernel_rfl) (by kernel_rfl) (fun wx hbx => (x_ld (E := (eI .u32)) (off := 0) (p := ad18.add (v10.toNat * 1)) (v := .int .u32 (ix (eI .u32).d l0 v10)) ((hr0.old hw).below hbx) hp17.1 hp17.2 (by kernel_rfl) rfl (by kernel_rfl) (by kernel_rfl))) [0, 1, 5, 12, 13, 19] (L' := [(0, .slice (some ad18) l0.length c0), (1, .slice A1 l1.length c1), (5, .int .i64 v10), (12, .int .i64 (l0.length : Int)), (13, .int .i64 v10), (19, .int .u32 (ix (eI .u32).d l0 v10))]) (by kernel_rfl) ?_
   clear hs; intro a hs
   refine q_pvs 4 6 [0, 1, 12, 13, 19, 20, 21] hs (L' := [(0, .slice (some ad18) l0.length c0), (1, .slice A1 l1.length c1), (12, .int .i64 (l0.length : Int)), (13, .int .i64 v10), (19, .int .u32 (ix (eI .u32).d l0 v10)), (20, .slice A1 l1.length c1), (21, .int .i64 v10)]) (by kernel_rfl) ?_ rfl
   clear hs; intro a hs
   obtain ⟨hp19, H⟩ := ite_only H
   obtain ⟨ad20, rfl⟩ := (hr1.old hw).some hp19.1 hp19.2
   refine q_run hs (op := (Op.indexAddr 22 (Operand.tmp 20) (Operand.tmp 21))) (ty := 0) (dst := some 22) (g := none) (by kernel_rfl) (by kernel_rfl) (by kernel_rfl) (fun wx hbx => (x_idx (T := 37) (sz := 1) (a := ad20) (n := l1.length) (cap := c1) (k := .i64) (i := v10) (by kernel_rfl) (by kernel_rfl) (by kernel_rfl) (by kernel_rfl) hp19.1 hp19.2)) [0, 1, 12, 13, 19, 22] (L' := [(0, .slice (some ad18) l0.length c0), (1, .slice (some ad20) l1.length c1), (12, .int .i64 (l0.length : Int)), (13, .int .i64 v10), (19, .int .u32 (ix (eI .u32).d l0 v10)), (22, .pointer (some (ad20.add (v10.toNat * 1))))]) (by kernel_rfl) ?_
   clear hs; intro a hs
   refine q_run hs (op := (Op.load 37 (Operand.tmp 22))) (ty := 37) (dst := some 23) (g := none) (by kernel_rfl) (by kernel_rfl) (by kernel_rfl) (fun wx hbx => (x_ld (E := (eI .u32)) (off := 0) (p := ad20.add (v10.toNat * 1)) (v := .int .u32 (ix (eI .u32).d l1 v10)) ((hr1.old hw).below hbx) hp19.1 hp19.2 (by kernel_rfl) rfl (by kernel_rfl) (by kernel_rfl))) [0, 1, 12, 13, 19, 23] (L' := [(0, .slice (some ad18) l0.length c0), (1, .slice (some ad20) l1.length c1), (12, .int .i64 (l0.length : Int)), (13, .int .i64 v10), (19, .int .u32 (ix (eI .u32).d l0 v10)), (23, .int .u32 (ix (eI .u32).d l1 v10))]) (by kernel_rfl) ?_
   clear hs; intro a hs
   refine q_pvs 8 9 [0, 1, 12, 13, 24] hs (L' := [(0, .slice (some ad18) l0.length c0), (1, .slice (some ad20) l1.length c1), (12, .int .i64 (l0.length : Int)), (13, .int .i64 v10), (24, .bool ((ix (eI .u32).d l0 v10) != (ix (eI .u32).d l1 v10)))]) (by kernel_rfl) ?_ rfl
   clear hs; intro a hs
   refine q_end (by kernel_rfl) ?_
   intro wq hbq
   replace hw := hw.behind hbq
   refine hK16 _ _ ?_
   refine go_cond hs ((ix (eI .u32).d l0 v10) != (ix (eI .u32).d l1 v10)) (by kernel_rfl) (fun hc => ?_) (fun hc => ?_)
   ·replace H := ite_f H (bne_iff_ne.1 hc)
    have hb21 := hc
    rw [hb21] at hs
    refine go_seq_k fun K22 hK22 => ?_
    refine go_region ?_
    refine go_pvs 0 1 [4] hs (L' := [(4, .bool false)]) (by kernel_rfl) ?_ rfl
    clear hs; intro a hs
    refine go_end (by kernel_rfl) ?_
    refine hK22 _ _ ?_
    refine wp_ret ?_
    refine ib_ret ?_
    refine th_ret ?_
    refine th_ret ?_
    refine ib_ret ?_
    refine th_ret ?_
    rw [← hr9 _ (Option.some.inj H).symm] at HX9
    replace H : some false = some r := HX9
    obtain rfl := Option.some.inj H
    refine ret1 (t := 4) (v := .bool false) hs (by kernel_rfl) (by kernel_rfl) ?_
    exact ⟨rfl, hw.only 0⟩
   ·replace H := ite_t H (bne_eq_false_iff_eq.1 hc)
    have hb23 := hc
    rw [hb23] at hs
    refine wp_skip ?_
    refine ib_norm ?_
    refine hK14 _ _ ?_
    refine go_region ?_
    refine go_pvs 0 2 [0, 1, 12, 13] hs (L' := [(0, .slice (some ad18) l0.length c0), (1, .slice (some ad20) l1.length c1), (12, .int .i64 (l0.length : Int)), (13, .int .i64 (w64 (v10 + 1)))]) (by kernel_rfl) ?_ rfl
    clear hs; intro a hs
    refine go_end (by kernel_rfl) ?_
    replace hw := hw.only 0
    exact round_end (w64 (v10 + 1)) (Option.some.inj H).symm ⟨hs.keep [0, 1, 12, 13] (by kernel_rfl), hw⟩
  ·replace H := ite_f H (of_decide_eq_false hc)
   have hb24 := hc
   rw [hb24] at hs
   refine wp_exit ?_
   refine th_exit ?_
   refine th_exit ?_
   refine in_block ?_
   replace hw := hw.only 0
   rw [← hr9 _ (Option.some.inj H).symm] at HX9
   exact hJ1 _ _ (hs.keep [] (by kernel_rfl)) hw HX9

/-! slices.Equal[[]int,int]: function 39 -/
noncomputable def slices_Equal_int_int.j1 : Option Bool := some true
noncomputable def slices_Equal_int_int.b9 (l0 : List Int) (l1 : List Int) (v10 : Int) : Option (Int ⊕ (Ex Bool Unit)) := (if v10 < (l0.length : Int) then (if 0 ≤ v10 ∧ v10 < (l0.length : Int) then (if 0 ≤ v10 ∧ v10 < (l1.length : Int) then (if (ix (eI .i64).d l0 v10) = (ix (eI .i64).d l1 v10) then some (.inl (w64 (v10 + 1))) else some (.inr (.ret false))) else none) else none) else some (.inr (.done ())))
noncomputable def slices_Equal_int_int (l0 : List Int) (l1 : List Int) : Option Bool := (if (l0.length : Int) = (l1.length : Int) then ((loopO (fun (σ : Int) => slices_Equal_int_int.b9 l0 l1 σ) 0).bind fun e => match e with | .ret x => some x | .done e => slices_Equal_int_int.j1) else some false)
set_option maxRecDepth 100000 in
set_option maxHeartbeats 4000000 in
theorem slices_Equal_int_int.calls (A0 : Option Addr) (c0 : Nat) (l0 : List Int) (A1 : Option Addr) (c1 : Nat) (l1 : List Int) (r : Bool) (w0 : World) (hr0 : Rd w0 (eI .i64) A0 c0 l0) (hr1 : Rd w0 (eI .i64) A1 c1 l1) (H : slices_Equal_int_int l0 l1 = some r) :
    Calls Tryd.prog 39 #[.slice A0 l0.length c0, .slice A1 l1.length c1] w0 fun e w' => e = .returned (.bool r) ∧ St [] w0 w' [] := by
 have hw : St [] w0 w0 [] := St.nil w0
 unfold slices_Equal_int_int at H
 refine go_fn Tryd.func39 rfl 26 Tryd.ntmps39 [(0, .slice A0 l0.length c0), (1, .slice A1 l1.length c1)] (by kernel_rfl) rfl ?_
 intro a hs
 refine go_seq_k fun K1 hK1 => ?_
 refine go_region ?_
 refine go_pvs 0 1 [0, 1] hs (L' := [(0, .slice A0 l0.length c0), (1, .slice A1 l1.length c1)]) (by kernel_rfl) ?_ rfl
 clear hs; intro a hs
 refine go_end (by kernel_rfl) ?_
 refine hK1 _ _ ?_
 refine go_seq_k fun K2 hK2 => ?_
 refine go_seq_k fun K3 hK3 => ?_
 refine go_region ?_
 refine go_pvs 0 5 [0, 1, 10] hs (L' := [(0, .slice A0 l0.length c0), (1, .slice A1 l1.length c1), (10, .bool ((l0.length : Int) != (l1.length : Int)))]) (by kernel_rfl) ?_ rfl
 clear hs; intro a hs
 refine go_end (by kernel_rfl) ?_
 refine hK3 _ _ ?_
 refine go_cond hs ((l0.length : Int) != (l1.length : Int)) (by kernel_rfl) (fun hc => ?_) (fun hc => ?_)
 ·replace H := ite_f H (bne_iff_ne.1 hc)
  have hb4 := hc
  rw [hb4] at hs
  refine go_seq_k fun K5 hK5 => ?_
  refine go_region ?_
  refine go_pvs 0 1 [4] hs (L' := [(4, .bool false)]) (by kernel_rfl) ?_ rfl
  clear hs; intro a hs
  refine go_end (by kernel_rfl) ?_
  refine hK5 _ _ ?_
  refine wp_ret ?_
  refine th_ret ?_
  obtain rfl := Option.some.inj H
  refine ret1 (t := 4) (v := .bool false) hs (by kernel_rfl) (by kernel_rfl) ?_
  exact ⟨rfl, hw.only 0⟩
 ·replace H := ite_t H (bne_eq_false_iff_eq.1 hc)
  have hb6 := hc
  rw [hb6] at hs
  refine wp_skip ?_
  refine hK2 _ _ ?_
  refine go_seq_k fun K7 hK7 => ?_
  refine go_seq_k fun K8 hK8 => ?_
  refine go_region ?_
  refine go_pvs 0 3 [0, 1, 12, 13] hs (L' := [(0, .slice A0 l0.length c0), (1, .slice A1 l1.length c1), (12, .int .i64 (l0.length : Int)), (13, .int .i64 0)]) (by kernel_rfl) ?_ rfl
  clear hs; intro a hs
  refine go_end (by kernel_rfl) ?_
  refine hK8 _ _ ?_
  refine wp_block ?_
  obtain ⟨e9, hl9, HX9⟩ := bind_some H
  have hJ1 : ∀ (a : Act) (w : World), Slots a 26 [] → St [] w0 w [] → slices_Equal_int_int.j1 = some r → K7 a w := by
   intro a w hs hw H
   unfold slices_Equal_int_int.j1 at H
   refine hK7 _ _ ?_
   refine go_seq_k fun K25 hK25 => ?_
   refine go_region ?_
   refine go_pvs 0 1 [4] hs (L' := [(4, .bool true)]) (by kernel_rfl) ?_ rfl
   clear hs; intro a hs
   refine go_end (by kernel_rfl) ?_
   refine hK25 _ _ ?_
   refine wp_ret ?_
   obtain rfl := Option.some.inj H
   refine ret1 (t := 4) (v := .bool true) hs (by kernel_rfl) (by kernel_rfl) ?_
   exact ⟨rfl, hw.only 0⟩
  clear H
  refine go_loop (σ := Int) (fun σ a w => Slots a 26 [(0, .slice A0 l0.length c0), (1, .slice A1 l1.length c1), (12, .int .i64 (l0.length : Int)), (13, .int .i64 σ)] ∧ St [] w0 w []) hl9 (by exact ⟨hs.keep [0, 1, 12, 13] (by kernel_rfl), hw⟩) ?_
  rintro v10 a w ⟨hs, hw⟩ o H hr9
  replace hs : Slots a 26 [(0, .slice A0 l0.length c0), (1, .slice A1 l1.length c1), (12, .int .i64 (l0.length : Int)), (13, .int .i64 v10)] := hs
  replace hw : St [] w0 w [] := hw
  replace H : slices_Equal_int_int.b9 l0 l1 v10 = some o := H
  unfold slices_Equal_int_int.b9 at H
  refine go_seq_k fun K11 hK11 => ?_
  refine go_region ?_
  refine go_pvs 0 1 [0, 1, 12, 13, 14] hs (L' := [(0, .slice A0 l0.length c0), (1, .slice A1 l1.length c1), (12, .int .i64 (l0.length : Int)), (13, .int .i64 v10), (14, .bool (decide (v10 < (l0.length : Int))))]) (by kernel_rfl) ?_ rfl
  clear hs; intro a hs
  refine go_end (by kernel_rfl) ?_
  refine hK11 _ _ ?_
  refine go_seq_k fun K12 hK12 => ?_
  refine go_cond hs (decide (v10 < (l0.length : Int))) (by kernel_rfl) (fun hc => ?_) (fun hc => ?_)
  ·replace H := ite_t H (of_decide_eq_true hc)
   have hb13 := hc
   rw [hb13] at hs
   refine wp_skip ?_
   refine hK12 _ _ ?_
   refine go_seq_k fun K14 hK14 => ?_
   refine wp_block ?_
   refine go_seq_k fun K15 hK15 => ?_
   refine go_region ?_
   refine go_pvs 0 2 [0, 1, 5, 12, 13] hs (L' := [(0, .slice A0 l0.length c0), (1, .slice A1 l1.length c1), (5, .int .i64 v10), (12, .int .i64 (l0.length : Int)), (13, .int .i64 v10)]) (by kernel_rfl) ?_ rfl
   clear hs; intro a hs
   refine go_end (by kernel_rfl) ?_
   refine hK15 _ _ ?_
   refine go_seq_k fun K16 hK16 => ?_
   refine q2_region (by kernel_rfl) (by kernel_rfl) ?_
   refine q_pvs 0 2 [0, 1, 5, 12, 13, 16, 17] hs (L' := [(0, .slice A0 l0.length c0), (1, .slice A1 l1.length c1), (5, .int .i64 v10), (12, .int .i64 (l0.length : Int)), (13, .int .i64 v10), (16, .slice A0 l0.length c0), (17, .int .i64 v10)]) (by kernel_rfl) ?_ rfl
   clear hs; intro a hs
   obtain ⟨hp17, H⟩ := ite_only H
   obtain ⟨ad18, rfl⟩ := (hr0.old hw).some hp17.1 hp17.2
   refine q_run hs (op := (Op.indexAddr 23 (Operand.tmp 16) (Operand.tmp 17))) (ty := 0) (dst := some 18) (g := none) (by kernel_rfl) (by kernel_rfl) (by kernel_rfl) (fun wx hbx => (x_idx (T := 3) (sz := 1) (a := ad18) (n := l0.length) (cap := c0) (k := .i64) (i := v10) (by kernel_rfl) (by kernel_rfl) (by kernel_rfl) (by kernel_rfl) hp17.1 hp17.2)) [0, 1, 5, 12, 13, 18] (L' := [(0, .slice (some ad18) l0.length c0), (1, .slice A1 l1.length c1), (5, .int .i64 v10), (12, .int .i64 (l0.length : Int)), (13, .int .i64 v10), (18, .pointer (some (ad18.add (v10.toNat * 1))))]) (by kernel_rfl) ?_
   clear hs; intro a hs
   refine q_run hs (op := (Op.load 3 (Operand.tmp 18))) (ty := 3) (dst := some 19) (g := none) (by kernel_rfl) (by kernel_rfl) (by kernel_rfl) (fun wx hbx => (x_ld (E := (eI .i64)) (off := 0) (p := ad18.add (v10.toNat * 1)) (v := .int .i64 (ix (eI .i64).d l0 v10)) ((hr0.old hw).below hbx) hp17.1 hp17.2 (by kernel_rfl) rfl (by kernel_rfl) (by kernel_rfl))) [0, 1, 5, 12, 13, 19] (L' := [(0, .slice (some ad18) l0.length c0), (1, .slice A1 l1.length c1), (5, .int .i64 v10), (12, .int .i64 (l0.length : Int)), (13, .int .i64 v10), (19, .int .i64 (ix (eI .i64).d l0 v10))]) (by kernel_rfl) ?_
   clear hs; intro a hs
   refine q_pvs 4 6 [0, 1, 12, 13, 19, 20, 21] hs (L' := [(0, .slice (some ad18) l0.length c0), (1, .slice A1 l1.length c1), (12, .int .i64 (l0.length : Int)), (13, .int .i64 v10), (19, .int .i64 (ix (eI .i64).d l0 v10)), (20, .slice A1 l1.length c1), (21, .int .i64 v10)]) (by kernel_rfl) ?_ rfl
   clear hs; intro a hs
   obtain ⟨hp19, H⟩ := ite_only H
   obtain ⟨ad20, rfl⟩ := (hr1.old hw).some hp19.1 hp19.2
   refine q_run hs (op := (Op.indexAddr 23 (Operand.tmp 20) (Operand.tmp 21))) (ty := 0) (dst := some 22) (g := none) (by kernel_rfl) (by kernel_rfl) (by kernel_rfl) (fun wx hbx => (x_idx (T := 3) (sz := 1) (a := ad20) (n := l1.length) (cap := c1) (k := .i64) (i := v10) (by kernel_rfl) (by kernel_rfl) (by kernel_rfl) (by kernel_rfl) hp19.1 hp19.2)) [0, 1, 12, 13, 19, 22] (L' := [(0, .slice (some ad18) l0.length c0), (1, .slice (some ad20) l1.length c1), (12, .int .i64 (l0.length : Int)), (13, .int .i64 v10), (19, .int .i64 (ix (eI .i64).d l0 v10)), (22, .pointer (some (ad20.add (v10.toNat * 1))))]) (by kernel_rfl) ?_
   clear hs; intro a hs
   refine q_run hs (op := (Op.load 3 (Operand.tmp 22))) (ty := 3) (dst := some 23) (g := none) (by kernel_rfl) (by kernel_rfl) (by kernel_rfl) (fun wx hbx => (x_ld (E := (eI .i64)) (off := 0) (p := ad20.add (v10.toNat * 1)) (v := .int .i64 (ix (eI .i64).d l1 v10)) ((hr1.old hw).below hbx) hp19.1 hp19.2 (by kernel_rfl) rfl (by kernel_rfl) (by kernel_rfl))) [0, 1, 12, 13, 19, 23] (L' := [(0, .slice (some ad18) l0.length c0), (1, .slice (some ad20) l1.length c1), (12, .int .i64 (l0.length : Int)), (13, .int .i64 v10), (19, .int .i64 (ix (eI .i64).d l0 v10)), (23, .int .i64 (ix (eI .i64).d l1 v10))]) (by kernel_rfl) ?_
   clear hs; intro a hs
   refine q_pvs 8 9 [0, 1, 12, 13, 24] hs (L' := [(0, .slice (some ad18) l0.length c0), (1, .slice (some ad20) l1.length c1), (12, .int .i64 (l0.length : Int)), (13, .int .i64 v10), (24, .bool ((ix (eI .i64).d l0 v10) != (ix (eI .i64).d l1 v10)))]) (by kernel_rfl) ?_ rfl
   clear hs; intro a hs
   refine q_end (by kernel_rfl) ?_
   intro wq hbq
   replace hw := hw.behind hbq
   refine hK16 _ _ ?_
   refine go_cond hs ((ix (eI .i64).d l0 v10) != (ix (eI .i64).d l1 v10)) (by kernel_rfl) (fun hc => ?_) (fun hc => ?_)
   ·replace H := ite_f H (bne_iff_ne.1 hc)
    have hb21 := hc
    rw [hb21] at hs
    refine go_seq_k fun K22 hK22 => ?_
    refine go_region ?_
    refine go_pvs 0 1 [4] hs (L' := [(4, .bool false)]) (by kernel_rfl) ?_ rfl
    clear hs; intro a hs
    refine go_end (by kernel_rfl) ?_
    refine hK22 _ _ ?_
    refine wp_ret ?_
    refine ib_ret ?_
    refine th_ret ?_
    refine th_ret ?_
    refine ib_ret ?_
    refine th_ret ?_
    rw [← hr9 _ (Option.some.inj H).symm] at HX9
    replace H : some false = some r := HX9
    obtain rfl := Option.some.inj H
    refine ret1 (t := 4) (v := .bool false) hs (by kernel_rfl) (by kernel_rfl) ?_
    exact ⟨rfl, hw.only 0⟩
   ·replace H := ite_t H (bne_eq_false_iff_eq.1 hc)
    have hb23 := hc
    rw [hb23] at hs
    refine wp_skip ?_
    refine ib_norm ?_
    refine hK14 _ _ ?_
    refine go_region ?_
    refine go_pvs 0 2 [0, 1, 12, 13] hs (L' := [(0, .slice (some ad18) l0.length c0), (1, .slice (some ad20) l1.length c1), (12, .int .i64 (l0.length : Int)), (13, .int .i64 (w64 (v10 + 1)))]) (by kernel_rfl) ?_ rfl
    clear hs; intro a hs
    refine go_end (by kernel_rfl) ?_
    replace hw := hw.only 0
    exact round_end (w64 (v10 + 1)) (Option.some.inj H).symm ⟨hs.keep [0, 1, 12, 13] (by kernel_rfl), hw⟩
  ·replace H := ite_f H (of_decide_eq_false hc)
   have hb24 := hc
   rw [hb24] at hs
   refine wp_exit ?_
   refine th_exit ?_
   refine th_exit ?_
   refine in_block ?_
   replace hw := hw.only 0
   rw [← hr9 _ (Option.some.inj H).symm] at HX9
   exact hJ1 _ _ (hs.keep [] (by kernel_rfl)) hw HX9

/-! slices.Equal[[]rivet/api.Sym,rivet/api.Sym]: function 40 -/
noncomputable def api_Sym.j1 : Option Bool := some true
noncomputable def api_Sym.b9 (l0 : List Sapi_Sym) (l1 : List Sapi_Sym) (v10 : Int) : Option (Int ⊕ (Ex Bool Unit)) := (if v10 < (l0.length : Int) then (if 0 ≤ v10 ∧ v10 < (l0.length : Int) then (if 0 ≤ v10 ∧ v10 < (l1.length : Int) then (if (!((((ix eSapi_Sym.d l0 v10).Name).toList == ((ix eSapi_Sym.d l1 v10).Name).toList) && ((((ix eSapi_Sym.d l0 v10).At) == ((ix eSapi_Sym.d l1 v10).At)) && true))) = true then some (.inr (.ret false)) else some (.inl (w64 (v10 + 1)))) else none) else none) else some (.inr (.done ())))
noncomputable def api_Sym (l0 : List Sapi_Sym) (l1 : List Sapi_Sym) : Option Bool := (if (l0.length : Int) = (l1.length : Int) then ((loopO (fun (σ : Int) => api_Sym.b9 l0 l1 σ) 0).bind fun e => match e with | .ret x => some x | .done e => api_Sym.j1) else some false)
set_option maxRecDepth 100000 in
set_option maxHeartbeats 4000000 in
theorem api_Sym.calls (A0 : Option Addr) (c0 : Nat) (l0 : List Sapi_Sym) (A1 : Option Addr) (c1 : Nat) (l1 : List Sapi_Sym) (r : Bool) (w0 : World) (hr0 : Rd w0 eSapi_Sym A0 c0 l0) (hr1 : Rd w0 eSapi_Sym A1 c1 l1) (H : api_Sym l0 l1 = some r) :
    Calls Tryd.prog 40 #[.slice A0 l0.length c0, .slice A1 l1.length c1] w0 fun e w' => e = .returned (.bool r) ∧ St [] w0 w' [] := by
 have hw : St [] w0 w0 [] := St.nil w0
 unfold api_Sym at H
 refine go_fn Tryd.func40 rfl 26 Tryd.ntmps40 [(0, .slice A0 l0.length c0), (1, .slice A1 l1.length c1)] (by kernel_rfl) rfl ?_
 intro a hs
 refine go_seq_k fun K1 hK1 => ?_
 refine go_region ?_
 refine go_pvs 0 1 [0, 1] hs (L' := [(0, .slice A0 l0.length c0), (1, .slice A1 l1.length c1)]) (by kernel_rfl) ?_ rfl
 clear hs; intro a hs
 refine go_end (by kernel_rfl) ?_
 refine hK1 _ _ ?_
 refine go_seq_k fun K2 hK2 => ?_
 refine go_seq_k fun K3 hK3 => ?_
 refine go_region ?_
 refine go_pvs 0 5 [0, 1, 10] hs (L' := [(0, .slice A0 l0.length c0), (1, .slice A1 l1.length c1), (10, .bool ((l0.length : Int) != (l1.length : Int)))]) (by kernel_rfl) ?_ rfl
 clear hs; intro a hs
 refine go_end (by kernel_rfl) ?_
 refine hK3 _ _ ?_
 refine go_cond hs ((l0.length : Int) != (l1.length : Int)) (by kernel_rfl) (fun hc => ?_) (fun hc => ?_)
 ·replace H := ite_f H (bne_iff_ne.1 hc)
  have hb4 := hc
  rw [hb4] at hs
  refine go_seq_k fun K5 hK5 => ?_
  refine go_region ?_
  refine go_pvs 0 1 [4] hs (L' := [(4, .bool false)]) (by kernel_rfl) ?_ rfl
  clear hs; intro a hs
  refine go_end (by kernel_rfl) ?_
  refine hK5 _ _ ?_
  refine wp_ret ?_
  refine th_ret ?_
  obtain rfl := Option.some.inj H
  refine ret1 (t := 4) (v := .bool false) hs (by kernel_rfl) (by kernel_rfl) ?_
  exact ⟨rfl, hw.only 0⟩
 ·replace H := ite_t H (bne_eq_false_iff_eq.1 hc)
  have hb6 := hc
  rw [hb6] at hs
  refine wp_skip ?_
  refine hK2 _ _ ?_
  refine go_seq_k fun K7 hK7 => ?_
  refine go_seq_k fun K8 hK8 => ?_
  refine go_region ?_
  refine go_pvs 0 3 [0, 1, 12, 13] hs (L' := [(0, .slice A0 l0.length c0), (1, .slice A1 l1.length c1), (12, .int .i64 (l0.length : Int)), (13, .int .i64 0)]) (by kernel_rfl) ?_ rfl
  clear hs; intro a hs
  refine go_end (by kernel_rfl) ?_
  refine hK8 _ _ ?_
  refine wp_block ?_
  obtain ⟨e9, hl9, HX9⟩ := bind_some H
  have hJ1 : ∀ (a : Act) (w : World), Slots a 26 [] → St [] w0 w [] → api_Sym.j1 = some r → K7 a w := by
   intro a w hs hw H
   unfold api_Sym.j1 at H
   refine hK7 _ _ ?_
   refine go_seq_k fun K25 hK25 => ?_
   refine go_region ?_
   refine go_pvs 0 1 [4] hs (L' := [(4, .bool true)]) (by kernel_rfl) ?_ rfl
   clear hs; intro a hs
   refine go_end (by kernel_rfl) ?_
   refine hK25 _ _ ?_
   refine wp_ret ?_
   obtain rfl := Option.some.inj H
   refine ret1 (t := 4) (v := .bool true) hs (by kernel_rfl) (by kernel_rfl) ?_
   exact ⟨rfl, hw.only 0⟩
  clear H
  refine go_loop (σ := Int) (fun σ a w => Slots a 26 [(0, .slice A0 l0.length c0), (1, .slice A1 l1.length c1), (12, .int .i64 (l0.length : Int)), (13, .int .i64 σ)] ∧ St [] w0 w []) hl9 (by exact ⟨hs.keep [0, 1, 12, 13] (by kernel_rfl), hw⟩) ?_
  rintro v10 a w ⟨hs, hw⟩ o H hr9
  replace hs : Slots a 26 [(0, .slice A0 l0.length c0), (1, .slice A1 l1.length c1), (12, .int .i64 (l0.length : Int)), (13, .int .i64 v10)] := hs
  replace hw : St [] w0 w [] := hw
  replace H : api_Sym.b9 l0 l1 v10 = some o := H
  unfold api_Sym.b9 at H
  refine go_seq_k fun K11 hK11 => ?_
  refine go_region ?_
  refine go_pvs 0 1 [0, 1, 12, 13, 14] hs (L' := [(0, .slice A0 l0.length c0), (1, .slice A1 l1.length c1), (12, .int .i64 (l0.length : Int)), (13, .int .i64 v10), (14, .bool (decide (v10 < (l0.length : Int))))]) (by kernel_rfl) ?_ rfl
  clear hs; intro a hs
  refine go_end (by kernel_rfl) ?_
  refine hK11 _ _ ?_
  refine go_seq_k fun K12 hK12 => ?_
  refine go_cond hs (decide (v10 < (l0.length : Int))) (by kernel_rfl) (fun hc => ?_) (fun hc => ?_)
  ·replace H := ite_t H (of_decide_eq_true hc)
   have hb13 := hc
   rw [hb13] at hs
   refine wp_skip ?_
   refine hK12 _ _ ?_
   refine go_seq_k fun K14 hK14 => ?_
   refine wp_block ?_
   refine go_seq_k fun K15 hK15 => ?_
   refine go_region ?_
   refine go_pvs 0 2 [0, 1, 5, 12, 13] hs (L' := [(0, .slice A0 l0.length c0), (1, .slice A1 l1.length c1), (5, .int .i64 v10), (12, .int .i64 (l0.length : Int)), (13, .int .i64 v10)]) (by kernel_rfl) ?_ rfl
   clear hs; intro a hs
   refine go_end (by kernel_rfl) ?_
   refine hK15 _ _ ?_
   refine go_seq_k fun K16 hK16 => ?_
   refine q2_region (by kernel_rfl) (by kernel_rfl) ?_
   refine q_pvs 0 2 [0, 1, 5, 12, 13, 16, 17] hs (L' := [(0, .slice A0 l0.length c0), (1, .slice A1 l1.length c1), (5, .int .i64 v10), (12, .int .i64 (l0.length : Int)), (13, .int .i64 v10), (16, .slice A0 l0.length c0), (17, .int .i64 v10)]) (by kernel_rfl) ?_ rfl
   clear hs; intro a hs
   obtain ⟨hp17, H⟩ := ite_only H
   obtain ⟨ad18, rfl⟩ := (hr0.old hw).some hp17.1 hp17.2
   refine q_run hs (op := (Op.indexAddr 24 (Operand.tmp 16) (Operand.tmp 17))) (ty := 0) (dst := some 18) (g := none) (by kernel_rfl) (by kernel_rfl) (by kernel_rfl) (fun wx hbx => (x_idx (T := 39) (sz := 2) (a := ad18) (n := l0.length) (cap := c0) (k := .i64) (i := v10) (by kernel_rfl) (by kernel_rfl) (by kernel_rfl) (by kernel_rfl) hp17.1 hp17.2)) [0, 1, 5, 12, 13, 18] (L' := [(0, .slice (some ad18) l0.length c0), (1, .slice A1 l1.length c1), (5, .int .i64 v10), (12, .int .i64 (l0.length : Int)), (13, .int .i64 v10), (18, .pointer (some (ad18.add (v10.toNat * 2))))]) (by kernel_rfl) ?_
   clear hs; intro a hs
   refine q_run hs (op := (Op.load 39 (Operand.tmp 18))) (ty := 39) (dst := some 19) (g := none) (by kernel_rfl) (by kernel_rfl) (by kernel_rfl) (fun wx hbx => (x_lds (E := eSapi_Sym) (off := 0) (p := ad18.add (v10.toNat * 2)) (cs := [.string ((ix eSapi_Sym.d l0 v10).Name), .int .i64 ((ix eSapi_Sym.d l0 v10).At)]) ((hr0.old hw).below hbx) hp17.1 hp17.2 (by kernel_rfl) rfl (by kernel_rfl) (by kernel_rfl) (by kernel_rfl))) [0, 1, 5, 12, 13, 19] (L' := [(0, .slice (some ad18) l0.length c0), (1, .slice A1 l1.length c1), (5, .int .i64 v10), (12, .int .i64 (l0.length : Int)), (13, .int .i64 v10), (19, .agg #[.string ((ix eSapi_Sym.d l0 v10).Name), .int .i64 ((ix eSapi_Sym.d l0 v10).At)])]) (by kernel_rfl) ?_
   clear hs; intro a hs
   refine q_pvs 4 6 [0, 1, 12, 13, 19, 20, 21] hs (L' := [(0, .slice (some ad18) l0.length c0), (1, .slice A1 l1.length c1), (12, .int .i64 (l0.length : Int)), (13, .int .i64 v10), (19, .agg #[.string ((ix eSapi_Sym.d l0 v10).Name), .int .i64 ((ix eSapi_Sym.d l0 v10).At)]), (20, .slice A1 l1.length c1), (21, .int .i64 v10)]) (by kernel_rfl) ?_ rfl
   clear hs; intro a hs
   obtain ⟨hp19, H⟩ := ite_only H
   obtain ⟨ad20, rfl⟩ := (hr1.old hw).some hp19.1 hp19.2
   refine q_run hs (op := (Op.indexAddr 24 (Operand.tmp 20) (Operand.tmp 21))) (ty := 0) (dst := some 22) (g := none) (by kernel_rfl) (by kernel_rfl) (by kernel_rfl) (fun wx hbx => (x_idx (T := 39) (sz := 2) (a := ad20) (n := l1.length) (cap := c1) (k := .i64) (i := v10) (by kernel_rfl) (by kernel_rfl) (by kernel_rfl) (by kernel_rfl) hp19.1 hp19.2)) [0, 1, 12, 13, 19, 22] (L' := [(0, .slice (some ad18) l0.length c0), (1, .slice (some ad20) l1.length c1), (12, .int .i64 (l0.length : Int)), (13, .int .i64 v10), (19, .agg #[.string ((ix eSapi_Sym.d l0 v10).Name), .int .i64 ((ix eSapi_Sym.d l0 v10).At)]), (22, .pointer (some (ad20.add (v10.toNat * 2))))]) (by kernel_rfl) ?_
   clear hs; intro a hs
   refine q_run hs (op := (Op.load 39 (Operand.tmp 22))) (ty := 39) (dst := some 23) (g := none) (by kernel_rfl) (by kernel_rfl) (by kernel_rfl) (fun wx hbx => (x_lds (E := eSapi_Sym) (off := 0) (p := ad20.add (v10.toNat * 2)) (cs := [.string ((ix eSapi_Sym.d l1 v10).Name), .int .i64 ((ix eSapi_Sym.d l1 v10).At)]) ((hr1.old hw).below hbx) hp19.1 hp19.2 (by kernel_rfl) rfl (by kernel_rfl) (by kernel_rfl) (by kernel_rfl))) [0, 1, 12, 13, 19, 23] (L' := [(0, .slice (some ad18) l0.length c0), (1, .slice (some ad20) l1.length c1), (12, .int .i64 (l0.length : Int)), (13, .int .i64 v10), (19, .agg #[.string ((ix eSapi_Sym.d l0 v10).Name), .int .i64 ((ix eSapi_Sym.d l0 v10).At)]), (23, .agg #[.string ((ix eSapi_Sym.d l1 v10).Name), .int .i64 ((ix eSapi_Sym.d l1 v10).At)])]) (by kernel_rfl) ?_
   clear hs; intro a hs
   refine q_run hs (op := (Op.binOp BinOp.neq 39 (Operand.tmp 19) (Operand.tmp 23) 39)) (ty := 4) (dst := some 24) (g := none) (by kernel_rfl) (by kernel_rfl) (by kernel_rfl) (fun wx hbx => (x_neq (xs := #[.string ((ix eSapi_Sym.d l0 v10).Name), .int .i64 ((ix eSapi_Sym.d l0 v10).At)]) (ys := #[.string ((ix eSapi_Sym.d l1 v10).Name), .int .i64 ((ix eSapi_Sym.d l1 v10).At)]) (r := ((((ix eSapi_Sym.d l0 v10).Name).toList == ((ix eSapi_Sym.d l1 v10).Name).toList) && ((((ix eSapi_Sym.d l0 v10).At) == ((ix eSapi_Sym.d l1 v10).At)) && true))) (by kernel_rfl) (by kernel_rfl) (by kernel_rfl) (eq_struct Tryd.underlying39 (by kernel_rfl) (eq_cons (a := .string ((ix eSapi_Sym.d l0 v10).Name)) (b := .string ((ix eSapi_Sym.d l1 v10).Name)) (r := (((ix eSapi_Sym.d l0 v10).Name).toList == ((ix eSapi_Sym.d l1 v10).Name).toList)) (s := ((((ix eSapi_Sym.d l0 v10).At) == ((ix eSapi_Sym.d l1 v10).At)) && true)) (by kernel_rfl) (part_pv (by kernel_rfl)) (part_pv (by kernel_rfl)) (run_equalIn_string _ _ _ _ _ (by kernel_rfl)) (eq_cons (a := .int .i64 ((ix eSapi_Sym.d l0 v10).At)) (b := .int .i64 ((ix eSapi_Sym.d l1 v10).At)) (r := (((ix eSapi_Sym.d l0 v10).At) == ((ix eSapi_Sym.d l1 v10).At))) (s := true) (by kernel_rfl) (part_pv (by kernel_rfl)) (part_pv (by kernel_rfl)) (eq_pv (by kernel_rfl)) eq_nil))))) [0, 1, 12, 13, 24] (L' := [(0, .slice (some ad18) l0.length c0), (1, .slice (some ad20) l1.length c1), (12, .int .i64 (l0.length : Int)), (13, .int .i64 v10), (24, .bool (!((((ix eSapi_Sym.d l0 v10).Name).toList == ((ix eSapi_Sym.d l1 v10).Name).toList) && ((((ix eSapi_Sym.d l0 v10).At) == ((ix eSapi_Sym.d l1 v10).At)) && true))))]) (by kernel_rfl) ?_
   clear hs; intro a hs
   refine q_end (by kernel_rfl) ?_
   intro wq hbq
   replace hw := hw.behind hbq
   refine hK16 _ _ ?_
   refine go_cond hs (!((((ix eSapi_Sym.d l0 v10).Name).toList == ((ix eSapi_Sym.d l1 v10).Name).toList) && ((((ix eSapi_Sym.d l0 v10).At) == ((ix eSapi_Sym.d l1 v10).At)) && true))) (by kernel_rfl) (fun hc => ?_) (fun hc => ?_)
   ·replace H := ite_t H hc
    have hb21 := hc
    rw [hb21] at hs
    refine go_seq_k fun K22 hK22 => ?_
    refine go_region ?_
    refine go_pvs 0 1 [4] hs (L' := [(4, .bool false)]) (by kernel_rfl) ?_ rfl
    clear hs; intro a hs
    refine go_end (by kernel_rfl) ?_
    refine hK22 _ _ ?_
    refine wp_ret ?_
    refine ib_ret ?_
    refine th_ret ?_
    refine th_ret ?_
    refine ib_ret ?_
    refine th_ret ?_
    rw [← hr9 _ (Option.some.inj H).symm] at HX9
    replace H : some false = some r := HX9
    obtain rfl := Option.some.inj H
    refine ret1 (t := 4) (v := .bool false) hs (by kernel_rfl) (by kernel_rfl) ?_
    exact ⟨rfl, hw.only 0⟩
   ·replace H := ite_f H (ff hc)
    have hb23 := hc
    rw [hb23] at hs
    refine wp_skip ?_
    refine ib_norm ?_
    refine hK14 _ _ ?_
    refine go_region ?_
    refine go_pvs 0 2 [0, 1, 12, 13] hs (L' := [(0, .slice (some ad18) l0.length c0), (1, .slice (some ad20) l1.length c1), (12, .int .i64 (l0.length : Int)), (13, .int .i64 (w64 (v10 + 1)))]) (by kernel_rfl) ?_ rfl
    clear hs; intro a hs
    refine go_end (by kernel_rfl) ?_
    replace hw := hw.only 0
    exact round_end (w64 (v10 + 1)) (Option.some.inj H).symm ⟨hs.keep [0, 1, 12, 13] (by kernel_rfl), hw⟩
  ·replace H := ite_f H (of_decide_eq_false hc)
   have hb24 := hc
   rw [hb24] at hs
   refine wp_exit ?_
   refine th_exit ?_
   refine th_exit ?_
   refine in_block ?_
   replace hw := hw.only 0
   rw [← hr9 _ (Option.some.inj H).symm] at HX9
   exact hJ1 _ _ (hs.keep [] (by kernel_rfl)) hw HX9

/-! rivet/object.May: function 15 -/
noncomputable def object_May.b47 (a0 : Sapi_Obj) (v48 : Int) : Option (Int ⊕ (Ex Int Unit)) := (if v48 < (a0.Sites.length : Int) then (if 0 ≤ v48 ∧ v48 < (a0.Sites.length : Int) then (if 0 ≤ (ix (eI .i64).d a0.Sites v48) ∧ (ix (eI .i64).d a0.Sites v48) < (a0.Words.length : Int) then (if (w64 (ix (eI .u32).d a0.Words (ix (eI .i64).d a0.Sites v48))) > (w64 (4 * (a0.Words.length : Int))) then some (.inr (.ret v48)) else some (.inl (w64 (v48 + 1)))) else none) else none) else some (.inr (.done ())))
noncomputable def object_May.j6 (v77 : Int) : Option (Int ⊕ (Ex Bool Unit)) := some (.inl (w64 (v77 + 1)))
noncomputable def object_May.j5 (v77 : Int) (v98 : Bool) : Option (Int ⊕ (Ex Bool Unit)) := (if v98 = true then some (.inr (.ret false)) else object_May.j6 v77)
noncomputable def object_May.b76 (a0 : Sapi_Obj) (v77 : Int) : Option (Int ⊕ (Ex Bool Unit)) := (if v77 < (a0.Syms.length : Int) then (if 0 ≤ v77 ∧ v77 < (a0.Syms.length : Int) then ((le_Name (((ix eSapi_Sym.d a0.Syms v77) : Sapi_Sym).Name)).bind fun t93 => ((if t93 = true then (if v77 > 0 then (if 0 ≤ (w64 (v77 - 1)) ∧ (w64 (v77 - 1)) < (a0.Syms.length : Int) then object_May.j5 v77 (Op.bytesLess (((ix eSapi_Sym.d a0.Syms v77) : Sapi_Sym).Name).toList ((ix eSapi_Sym.d a0.Syms (w64 (v77 - 1))).Name).toList || (((ix eSapi_Sym.d a0.Syms v77) : Sapi_Sym).Name).toList == ((ix eSapi_Sym.d a0.Syms (w64 (v77 - 1))).Name).toList) else none) else object_May.j5 v77 false) else object_May.j5 v77 true))) else none) else some (.inr (.done ())))
noncomputable def object_May.j9 (v117 : Int) (v135 : Bool) : Option (Int ⊕ (Ex Int Unit)) := (if v135 = true then some (.inr (.ret v117)) else some (.inl (w64 (v117 + 1))))
noncomputable def object_May.b116 (a0 : Sapi_Obj) (v117 : Int) : Option (Int ⊕ (Ex Int Unit)) := (if v117 < (a0.Syms.length : Int) then (if 0 ≤ v117 ∧ v117 < (a0.Syms.length : Int) then (if ((ix eSapi_Sym.d a0.Syms v117).At) < 0 then object_May.j9 v117 true else (if ((ix eSapi_Sym.d a0.Syms v117).At) > (w64 (4 * (a0.Words.length : Int))) then object_May.j9 v117 true else object_May.j9 v117 ((((ix eSapi_Sym.d a0.Syms v117).At).tmod 4) != 0))) else none) else some (.inr (.done ())))
noncomputable def object_May.j11 (v141 : Int) : Option Int := (if v141 ≥ 0 then some 8 else some 0)
noncomputable def object_May.j10 : Option Int := object_May.j11 (-1)
noncomputable def object_May.j8 (a0 : Sapi_Obj) (v104 : Bool) : Option Int := (if v104 = true then ((loopO (fun (σ : Int) => object_May.b116 a0 σ) 0).bind fun e => match e with | .ret x => object_May.j11 x | .done e => object_May.j10) else some 9)
noncomputable def object_May.j7 (a0 : Sapi_Obj) : Option Int := object_May.j8 a0 true
noncomputable def object_May.j4 (a0 : Sapi_Obj) (v67 : Int) : Option Int := (if v67 ≥ 0 then some 8 else ((loopO (fun (σ : Int) => object_May.b76 a0 σ) 0).bind fun e => match e with | .ret x => object_May.j8 a0 x | .done e => object_May.j7 a0))
noncomputable def object_May.j3 (a0 : Sapi_Obj) : Option Int := object_May.j4 a0 (-1)
noncomputable def object_May.j2 (a0 : Sapi_Obj) : Option Int := ((chain_Pack a0.Words a0.Sites).bind fun ⟨t25, t26, t27⟩ => ((if t27 = 7 then some t27 else ((loopO (fun (σ : Int) => object_May.b47 a0 σ) 0).bind fun e => match e with | .ret x => object_May.j4 a0 x | .done e => object_May.j3 a0))))
noncomputable def object_May.j1 (a0 : Sapi_Obj) (v19 : Bool) : Option Int := (if v19 = true then some 2 else object_May.j2 a0)
noncomputable def object_May (a0 : Sapi_Obj) : Option Int := (if (a0.Words.length : Int) > 1024 then object_May.j1 a0 true else object_May.j1 a0 (decide ((a0.Syms.length : Int) > 64)))
set_option maxRecDepth 100000 in
set_option maxHeartbeats 4000000 in
theorem object_May.calls (a0 : Sapi_Obj) (A0_1 : Option Addr) (c0_1 : Nat) (A0_2 : Option Addr) (c0_2 : Nat) (A0_3 : Option Addr) (c0_3 : Nat) (r : Int) (w0 : World) (hr0_1 : Rd w0 (eI .u32) A0_1 c0_1 a0.Words) (hr0_2 : Rd w0 (eI .i64) A0_2 c0_2 a0.Sites) (hr0_3 : Rd w0 eSapi_Sym A0_3 c0_3 a0.Syms) (H : object_May a0 = some r) :
    Calls Tryd.prog 15 #[.agg #[.slice A0_1 a0.Words.length c0_1, .slice A0_2 a0.Sites.length c0_2, .slice A0_3 a0.Syms.length c0_3]] w0 fun e w' => e = .returned (.int .i64 r) ∧ St [] w0 w' [] := by
 have hw : St [] w0 w0 [] := St.nil w0
 unfold object_May at H
 refine go_fn Tryd.func15 rfl 54 Tryd.ntmps15 [(0, .agg #[.slice A0_1 a0.Words.length c0_1, .slice A0_2 a0.Sites.length c0_2, .slice A0_3 a0.Syms.length c0_3])] (by kernel_rfl) rfl ?_
 intro a hs
 refine go_seq_k fun K1 hK1 => ?_
 refine go_region ?_
 obtain ⟨g2, wd3, hx4, hw⟩ := x_boxc (P := Tryd.prog) (elem := 26) (v := (Operand.tmp 0)) (ty := 0) (cs := [.slice A0_1 a0.Words.length c0_1, .slice A0_2 a0.Sites.length c0_2, .slice A0_3 a0.Syms.length c0_3]) hs hw (by kernel_rfl)
 refine go_run hs (op := (Op.box 26 (Operand.tmp 0))) (ty := 0) (dst := some 1) (g := none) (by kernel_rfl) (by kernel_rfl) (by kernel_rfl) hx4 [1] (L' := [(1, .pointer (some (⟨g2, 0, none⟩ : Addr)))]) (by kernel_rfl) ?_
 clear hs; intro a hs
 refine go_pvs 1 2 [1] hs (L' := [(1, .pointer (some (⟨g2, 0, none⟩ : Addr)))]) (by kernel_rfl) ?_ rfl
 clear hs; intro a hs
 refine go_end (by kernel_rfl) ?_
 refine hK1 _ _ ?_
 refine go_seq_k fun K6 hK6 => ?_
 refine go_region ?_
 refine go_pvs 0 1 [1, 10] hs (L' := [(1, .pointer (some (⟨g2, 0, none⟩ : Addr))), (10, .pointer (some (((⟨g2, 0, none⟩ : Addr) : Addr).add 0)))]) (by kernel_rfl) ?_ rfl
 clear hs; intro a hs
 refine go_run hs (op := (Op.load 22 (Operand.tmp 10))) (ty := 22) (dst := some 11) (g := none) (by kernel_rfl) (by kernel_rfl) (by kernel_rfl) (x_bld (g := g2) (o := 0) (p := ((⟨g2, 0, none⟩ : Addr) : Addr).add 0) (v := .slice A0_1 a0.Words.length c0_1) (hw.up 0) (by kernel_rfl) rfl (by kernel_rfl) (by kernel_rfl)) [1, 11] (L' := [(1, .pointer (some (⟨g2, 0, none⟩ : Addr))), (11, .slice A0_1 a0.Words.length c0_1)]) (by kernel_rfl) ?_
 clear hs; intro a hs
 refine go_pvs 2 4 [1, 13] hs (L' := [(1, .pointer (some (⟨g2, 0, none⟩ : Addr))), (13, .int .i64 (w64 (4 * (a0.Words.length : Int))))]) (by kernel_rfl) ?_ rfl
 clear hs; intro a hs
 obtain ⟨ad7, wd8, hx9, hw⟩ := x_alloc1 (P := Tryd.prog) (elem := 3) (ty := 0) (z := .int .i64 0) hs hw (eI .i64) 0 (by kernel_rfl) (by kernel_rfl)
 refine go_run hs (op := (Op.alloc 3)) (ty := 0) (dst := some 3) (g := none) (by kernel_rfl) (by kernel_rfl) (by kernel_rfl) hx9 [1, 3, 13] (L' := [(1, .pointer (some (⟨g2, 0, none⟩ : Addr))), (3, .pointer (some ad7)), (13, .int .i64 (w64 (4 * (a0.Words.length : Int))))]) (by kernel_rfl) ?_
 clear hs; intro a hs
 obtain ⟨wd11, hx12, hw⟩ := x_put (P := Tryd.prog) (ty := 0) (t := 3) (x := (Operand.tmp 3)) (y := (Operand.tmp 13)) (off := 0) (p := ad7) (v := .int .i64 (w64 (4 * (a0.Words.length : Int)))) (vs := [.int .i64 (w64 (4 * (a0.Words.length : Int)))]) (i := 0) (e' := (w64 (4 * (a0.Words.length : Int)) : Int)) hs hw rfl (one_ok 0).1 (one_ok 0).2 (by kernel_rfl) (one_at _ _) (by kernel_rfl) rfl (by kernel_rfl) (Nat.le_of_ble_eq_true rfl) (by simp [Value.oneCell']) (by kernel_rfl)
 refine go_unit hs (op := (Op.store 3 (Operand.tmp 3) (Operand.tmp 13))) (ty := 0) (dst := none) (g := none) (by kernel_rfl) (by kernel_rfl) (by kernel_rfl) hx12 [1, 3] (L' := [(1, .pointer (some (⟨g2, 0, none⟩ : Addr))), (3, .pointer (some ad7))]) (by kernel_rfl) ?_
 clear hs; intro a hs
 replace hw : St [] w0 wd11 [own 3 (eI .i64) (some ad7) 1 [w64 (4 * (a0.Words.length : Int))], box g2 26 [.slice A0_1 a0.Words.length c0_1, .slice A0_2 a0.Sites.length c0_2, .slice A0_3 a0.Syms.length c0_3]] := hw
 refine go_end (by kernel_rfl) ?_
 refine hK6 _ _ ?_
 refine go_seq_k fun K13 hK13 => ?_
 refine go_region ?_
 refine go_pvs 0 2 [1, 3, 4] hs (L' := [(1, .pointer (some (⟨g2, 0, none⟩ : Addr))), (3, .pointer (some ad7)), (4, .func (.func 30) #[] #[.pointer (some (⟨g2, 0, none⟩ : Addr)), .pointer (some ad7)])]) (by kernel_rfl) ?_ rfl
 clear hs; intro a hs
 refine go_end (by kernel_rfl) ?_
 refine hK13 _ _ ?_
 refine go_seq_k fun K14 hK14 => ?_
 refine go_region ?_
 refine go_pvs 0 2 [1, 4, 5] hs (L' := [(1, .pointer (some (⟨g2, 0, none⟩ : Addr))), (4, .func (.func 30) #[] #[.pointer (some (⟨g2, 0, none⟩ : Addr)), .pointer (some ad7)]), (5, .func (.func 31) #[] #[.pointer (some ad7)])]) (by kernel_rfl) ?_ rfl
 clear hs; intro a hs
 refine go_end (by kernel_rfl) ?_
 refine hK14 _ _ ?_
 refine go_seq_k fun K15 hK15 => ?_
 refine go_region ?_
 refine go_pvs 0 2 [1, 4, 5, 6] hs (L' := [(1, .pointer (some (⟨g2, 0, none⟩ : Addr))), (4, .func (.func 30) #[] #[.pointer (some (⟨g2, 0, none⟩ : Addr)), .pointer (some ad7)]), (5, .func (.func 31) #[] #[.pointer (some ad7)]), (6, .func (.func 32) #[] #[.pointer (some (⟨g2, 0, none⟩ : Addr))])]) (by kernel_rfl) ?_ rfl
 clear hs; intro a hs
 refine go_end (by kernel_rfl) ?_
 refine hK15 _ _ ?_
 refine go_seq_k fun K16 hK16 => ?_
 have hJ2 : ∀ (a : Act) (w : World), Slots a 54 [(1, .pointer (some (⟨g2, 0, none⟩ : Addr))), (4, .func (.func 30) #[] #[.pointer (some (⟨g2, 0, none⟩ : Addr)), .pointer (some ad7)]), (5, .func (.func 31) #[] #[.pointer (some ad7)]), (6, .func (.func 32) #[] #[.pointer (some (⟨g2, 0, none⟩ : Addr))])] → St [] w0 w [own 3 (eI .i64) (some ad7) 1 [w64 (4 * (a0.Words.length : Int))], box g2 26 [.slice A0_1 a0.Words.length c0_1, .slice A0_2 a0.Sites.length c0_2, .slice A0_3 a0.Syms.length c0_3]] → object_May.j2 a0 = some r → K16 a w := by
  intro a w hs hw H
  unfold object_May.j2 at H
  refine hK16 _ _ ?_
  refine go_seq_k fun K23 hK23 => ?_
  refine go_region ?_
  refine go_pvs 0 1 [1, 4, 5, 6, 28] hs (L' := [(1, .pointer (some (⟨g2, 0, none⟩ : Addr))), (4, .func (.func 30) #[] #[.pointer (some (⟨g2, 0, none⟩ : Addr)), .pointer (some ad7)]), (5, .func (.func 31) #[] #[.pointer (some ad7)]), (6, .func (.func 32) #[] #[.pointer (some (⟨g2, 0, none⟩ : Addr))]), (28, .pointer (some (((⟨g2, 0, none⟩ : Addr) : Addr).add 0)))]) (by kernel_rfl) ?_ rfl
  clear hs; intro a hs
  refine go_run hs (op := (Op.load 22 (Operand.tmp 28))) (ty := 22) (dst := some 29) (g := none) (by kernel_rfl) (by kernel_rfl) (by kernel_rfl) (x_bld (g := g2) (o := 0) (p := ((⟨g2, 0, none⟩ : Addr) : Addr).add 0) (v := .slice A0_1 a0.Words.length c0_1) (hw.up 1) (by kernel_rfl) rfl (by kernel_rfl) (by kernel_rfl)) [1, 4, 5, 6, 29] (L' := [(1, .pointer (some (⟨g2, 0, none⟩ : Addr))), (4, .func (.func 30) #[] #[.pointer (some (⟨g2, 0, none⟩ : Addr)), .pointer (some ad7)]), (5, .func (.func 31) #[] #[.pointer (some ad7)]), (6, .func (.func 32) #[] #[.pointer (some (⟨g2, 0, none⟩ : Addr))]), (29, .slice A0_1 a0.Words.length c0_1)]) (by kernel_rfl) ?_
  clear hs; intro a hs
  refine go_pvs 2 3 [1, 4, 5, 6, 29, 30] hs (L' := [(1, .pointer (some (⟨g2, 0, none⟩ : Addr))), (4, .func (.func 30) #[] #[.pointer (some (⟨g2, 0, none⟩ : Addr)), .pointer (some ad7)]), (5, .func (.func 31) #[] #[.pointer (some ad7)]), (6, .func (.func 32) #[] #[.pointer (some (⟨g2, 0, none⟩ : Addr))]), (29, .slice A0_1 a0.Words.length c0_1), (30, .pointer (some (((⟨g2, 0, none⟩ : Addr) : Addr).add 1)))]) (by kernel_rfl) ?_ rfl
  clear hs; intro a hs
  refine go_run hs (op := (Op.load 23 (Operand.tmp 30))) (ty := 23) (dst := some 31) (g := none) (by kernel_rfl) (by kernel_rfl) (by kernel_rfl) (x_bld (g := g2) (o := 1) (p := ((⟨g2, 0, none⟩ : Addr) : Addr).add 1) (v := .slice A0_2 a0.Sites.length c0_2) (hw.up 1) (by kernel_rfl) rfl (by kernel_rfl) (by kernel_rfl)) [1, 4, 5, 6, 29, 31] (L' := [(1, .pointer (some (⟨g2, 0, none⟩ : Addr))), (4, .func (.func 30) #[] #[.pointer (some (⟨g2, 0, none⟩ : Addr)), .pointer (some ad7)]), (5, .func (.func 31) #[] #[.pointer (some ad7)]), (6, .func (.func 32) #[] #[.pointer (some (⟨g2, 0, none⟩ : Addr))]), (29, .slice A0_1 a0.Words.length c0_1), (31, .slice A0_2 a0.Sites.length c0_2)]) (by kernel_rfl) ?_
  clear hs; intro a hs
  obtain ⟨⟨t25, t26, t27⟩, hx28, H⟩ := bind_some H
  refine go_call hs (op := (Op.call { callee := (Callee.value (Operand.func 27)), args := #[(Operand.tmp 29), (Operand.tmp 31)], argTypes := #[22, 23] })) (ty := 50) (dst := some 32) (g := none) (by kernel_rfl) (by kernel_rfl) (by kernel_rfl) (f := 27) (args := #[.slice A0_1 a0.Words.length c0_1, .slice A0_2 a0.Sites.length c0_2]) (by kernel_rfl) (chain_Pack.calls A0_1 c0_1 a0.Words A0_2 c0_2 a0.Sites (t25, t26, t27) _ (hr0_1.old hw) (hr0_2.old hw) hx28) ?_
  rintro e wd31 ⟨Aa29, cc30, rfl, hw32⟩
  refine ⟨_, rfl, ?_⟩
  replace hw := hw.call hw32
  intro a hs1
  replace hs : Slots a 54 [(1, .pointer (some (⟨g2, 0, none⟩ : Addr))), (4, .func (.func 30) #[] #[.pointer (some (⟨g2, 0, none⟩ : Addr)), .pointer (some ad7)]), (5, .func (.func 31) #[] #[.pointer (some ad7)]), (6, .func (.func 32) #[] #[.pointer (some (⟨g2, 0, none⟩ : Addr))]), (32, .tuple #[.slice Aa29 t25.length cc30, .int .i64 t26, .int .i64 t27])] := hs1.keep [1, 4, 5, 6, 32] (by kernel_rfl)
  clear hs1
  refine go_pvs 5 12 [1, 4, 5, 6, 9] hs (L' := [(1, .pointer (some (⟨g2, 0, none⟩ : Addr))), (4, .func (.func 30) #[] #[.pointer (some (⟨g2, 0, none⟩ : Addr)), .pointer (some ad7)]), (5, .func (.func 31) #[] #[.pointer (some ad7)]), (6, .func (.func 32) #[] #[.pointer (some (⟨g2, 0, none⟩ : Addr))]), (9, .int .i64 t27)]) (by kernel_rfl) ?_ rfl
  clear hs; intro a hs
  refine go_end (by kernel_rfl) ?_
  refine hK23 _ _ ?_
  refine go_seq_k fun K34 hK34 => ?_
  refine wp_block ?_
  refine go_seq_k fun K35 hK35 => ?_
  refine go_region ?_
  refine go_pvs 0 3 [1, 4, 5, 6, 9, 36] hs (L' := [(1, .pointer (some (⟨g2, 0, none⟩ : Addr))), (4, .func (.func 30) #[] #[.pointer (some (⟨g2, 0, none⟩ : Addr)), .pointer (some ad7)]), (5, .func (.func 31) #[] #[.pointer (some ad7)]), (6, .func (.func 32) #[] #[.pointer (some (⟨g2, 0, none⟩ : Addr))]), (9, .int .i64 t27), (36, .bool (t27 == 7))]) (by kernel_rfl) ?_ rfl
  clear hs; intro a hs
  refine go_end (by kernel_rfl) ?_
  refine hK35 _ _ ?_
  refine go_cond hs (t27 == 7) (by kernel_rfl) (fun hc => ?_) (fun hc => ?_)
  ·replace H := ite_t H (beq_iff_eq.1 hc)
   have hb36 := hc
   rw [hb36] at hs
   refine go_seq_k fun K37 hK37 => ?_
   refine go_region ?_
   refine go_pvs 0 2 [2] hs (L' := [(2, .int .i64 t27)]) (by kernel_rfl) ?_ rfl
   clear hs; intro a hs
   refine go_end (by kernel_rfl) ?_
   refine hK37 _ _ ?_
   refine wp_ret ?_
   refine ib_ret ?_
   refine th_ret ?_
   obtain rfl := Option.some.inj H
   refine ret1 (t := 2) (v := .int .i64 t27) hs (by kernel_rfl) (by kernel_rfl) ?_
   exact ⟨rfl, hw.only 0⟩
  ·replace H := ite_f H (beq_eq_false_iff_ne.1 hc)
   have hb38 := hc
   rw [hb38] at hs
   refine go_seq_k fun K39 hK39 => ?_
   refine go_region ?_
   refine go_pvs 0 1 [1, 4, 5, 6, 41] hs (L' := [(1, .pointer (some (⟨g2, 0, none⟩ : Addr))), (4, .func (.func 30) #[] #[.pointer (some (⟨g2, 0, none⟩ : Addr)), .pointer (some ad7)]), (5, .func (.func 31) #[] #[.pointer (some ad7)]), (6, .func (.func 32) #[] #[.pointer (some (⟨g2, 0, none⟩ : Addr))]), (41, .pointer (some (((⟨g2, 0, none⟩ : Addr) : Addr).add 1)))]) (by kernel_rfl) ?_ rfl
   clear hs; intro a hs
   refine go_run hs (op := (Op.load 23 (Operand.tmp 41))) (ty := 23) (dst := some 42) (g := none) (by kernel_rfl) (by kernel_rfl) (by kernel_rfl) (x_bld (g := g2) (o := 1) (p := ((⟨g2, 0, none⟩ : Addr) : Addr).add 1) (v := .slice A0_2 a0.Sites.length c0_2) (hw.up 2) (by kernel_rfl) rfl (by kernel_rfl) (by kernel_rfl)) [1, 4, 5, 6, 42] (L' := [(1, .pointer (some (⟨g2, 0, none⟩ : Addr))), (4, .func (.func 30) #[] #[.pointer (some (⟨g2, 0, none⟩ : Addr)), .pointer (some ad7)]), (5, .func (.func 31) #[] #[.pointer (some ad7)]), (6, .func (.func 32) #[] #[.pointer (some (⟨g2, 0, none⟩ : Addr))]), (42, .slice A0_2 a0.Sites.length c0_2)]) (by kernel_rfl) ?_
   clear hs; intro a hs
   refine go_pvs 2 3 [1, 5, 6, 42, 43] hs (L' := [(1, .pointer (some (⟨g2, 0, none⟩ : Addr))), (5, .func (.func 31) #[] #[.pointer (some ad7)]), (6, .func (.func 32) #[] #[.pointer (some (⟨g2, 0, none⟩ : Addr))]), (42, .slice A0_2 a0.Sites.length c0_2), (43, .func (.func 30) #[] #[.pointer (some (⟨g2, 0, none⟩ : Addr)), .pointer (some ad7)])]) (by kernel_rfl) ?_ rfl
   clear hs; intro a hs
   refine go_inline_k hs (op := (Op.call { callee := (Callee.value (Operand.func 34)), args := #[(Operand.tmp 42), (Operand.tmp 43)], argTypes := #[23, 59] })) (ty := 4) (dst := some 44) (g := none) (by kernel_rfl) (by kernel_rfl) (by kernel_rfl) (f := 34) (args := #[.slice A0_2 a0.Sites.length c0_2, .func (.func 30) #[] #[.pointer (some (⟨g2, 0, none⟩ : Addr)), .pointer (some ad7)]]) (by kernel_rfl) (fun KR40 hKR40 => ?_)
   refine go_fn Tryd.func34 rfl 9 Tryd.ntmps34 [(0, .slice A0_2 a0.Sites.length c0_2), (1, .func (.func 30) #[] #[.pointer (some (⟨g2, 0, none⟩ : Addr)), .pointer (some ad7)])] (by kernel_rfl) rfl ?_
   clear hs; intro a hs
   refine go_seq_k fun K41 hK41 => ?_
   refine go_region ?_
   refine go_pvs 0 1 [0, 1] hs (L' := [(0, .slice A0_2 a0.Sites.length c0_2), (1, .func (.func 30) #[] #[.pointer (some (⟨g2, 0, none⟩ : Addr)), .pointer (some ad7)])]) (by kernel_rfl) ?_ rfl
   clear hs; intro a hs
   refine go_end (by kernel_rfl) ?_
   refine hK41 _ _ ?_
   refine go_seq_k fun K42 hK42 => ?_
   refine go_region ?_
   refine go_pvs 0 2 [5, 6] hs (L' := [(5, .slice A0_2 a0.Sites.length c0_2), (6, .func (.func 30) #[] #[.pointer (some (⟨g2, 0, none⟩ : Addr)), .pointer (some ad7)])]) (by kernel_rfl) ?_ rfl
   clear hs; intro a hs
   refine go_inline_k hs (op := (Op.call { callee := (Callee.value (Operand.func 58)), args := #[(Operand.tmp 5), (Operand.tmp 6)], argTypes := #[23, 59] })) (ty := 3) (dst := some 7) (g := none) (by kernel_rfl) (by kernel_rfl) (by kernel_rfl) (f := 58) (args := #[.slice A0_2 a0.Sites.length c0_2, .func (.func 30) #[] #[.pointer (some (⟨g2, 0, none⟩ : Addr)), .pointer (some ad7)]]) (by kernel_rfl) (fun KR43 hKR43 => ?_)
   refine go_fn Tryd.func58 rfl 19 Tryd.ntmps58 [(0, .slice A0_2 a0.Sites.length c0_2), (1, .func (.func 30) #[] #[.pointer (some (⟨g2, 0, none⟩ : Addr)), .pointer (some ad7)])] (by kernel_rfl) rfl ?_
   clear hs; intro a hs
   have hJ4 : ∀ (v67 : Int) (w : World), St [] w0 w [own 37 (eI .u32) Aa29 cc30 t25, own 3 (eI .i64) (some ad7) 1 [w64 (4 * (a0.Words.length : Int))], box g2 26 [.slice A0_1 a0.Words.length c0_1, .slice A0_2 a0.Sites.length c0_2, .slice A0_3 a0.Syms.length c0_3]] → object_May.j4 a0 v67 = some r → KR43 (.int .i64 v67) w := by
    intro v67 w hw H
    unfold object_May.j4 at H
    refine hKR43 _ _ ?_
    intro a hs1
    have hs : Slots a _ [(7, .int .i64 v67)] := hs1.keep [7] (by kernel_rfl)
    clear hs1
    refine go_pvs 3 5 [4] hs (L' := [(4, .bool (decide (v67 ≥ 0)))]) (by kernel_rfl) ?_ rfl
    clear hs; intro a hs
    refine go_end (by kernel_rfl) ?_
    refine hK42 _ _ ?_
    refine wp_ret ?_
    refine ret1 (t := 4) (v := .bool (decide (v67 ≥ 0))) hs (by kernel_rfl) (by kernel_rfl) ?_
    refine ⟨_, rfl, ?_⟩
    refine hKR40 _ _ ?_
    intro a hs1
    have hs : Slots a _ [(1, .pointer (some (⟨g2, 0, none⟩ : Addr))), (5, .func (.func 31) #[] #[.pointer (some ad7)]), (6, .func (.func 32) #[] #[.pointer (some (⟨g2, 0, none⟩ : Addr))]), (44, .bool (decide (v67 ≥ 0)))] := hs1.keep [1, 5, 6, 44] (by kernel_rfl)
    clear hs1
    refine go_pvs 4 5 [1, 5, 6, 40] hs (L' := [(1, .pointer (some (⟨g2, 0, none⟩ : Addr))), (5, .func (.func 31) #[] #[.pointer (some ad7)]), (6, .func (.func 32) #[] #[.pointer (some (⟨g2, 0, none⟩ : Addr))]), (40, .bool (decide (v67 ≥ 0)))]) (by kernel_rfl) ?_ rfl
    clear hs; intro a hs
    refine go_end (by kernel_rfl) ?_
    refine hK39 _ _ ?_
    refine go_cond hs (decide (v67 ≥ 0)) (by kernel_rfl) (fun hc => ?_) (fun hc => ?_)
    ·replace H := ite_t H (of_decide_eq_true hc)
     have hb68 := hc
     rw [hb68] at hs
     refine go_seq_k fun K69 hK69 => ?_
     refine go_region ?_
     refine go_pvs 0 1 [2] hs (L' := [(2, .int .i64 8)]) (by kernel_rfl) ?_ rfl
     clear hs; intro a hs
     refine go_end (by kernel_rfl) ?_
     refine hK69 _ _ ?_
     refine wp_ret ?_
     refine ib_ret ?_
     refine th_ret ?_
     obtain rfl := Option.some.inj H
     refine ret1 (t := 2) (v := .int .i64 8) hs (by kernel_rfl) (by kernel_rfl) ?_
     exact ⟨rfl, hw.only 0⟩
    ·replace H := ite_f H (of_decide_eq_false hc)
     have hb70 := hc
     rw [hb70] at hs
     refine go_seq_k fun K71 hK71 => ?_
     refine go_region ?_
     refine go_pvs 0 1 [1, 5, 46] hs (L' := [(1, .pointer (some (⟨g2, 0, none⟩ : Addr))), (5, .func (.func 31) #[] #[.pointer (some ad7)]), (46, .func (.func 32) #[] #[.pointer (some (⟨g2, 0, none⟩ : Addr))])]) (by kernel_rfl) ?_ rfl
     clear hs; intro a hs
     refine go_inline_k hs (op := (Op.call { callee := (Callee.value (Operand.tmp 46)), args := #[], argTypes := #[] })) (ty := 4) (dst := some 47) (g := none) (by kernel_rfl) (by kernel_rfl) (by kernel_rfl) (f := 32) (args := #[.pointer (some (⟨g2, 0, none⟩ : Addr))]) (by kernel_rfl) (fun KR72 hKR72 => ?_)
     refine go_fn Tryd.func32 rfl 33 Tryd.ntmps32 [(0, .pointer (some (⟨g2, 0, none⟩ : Addr)))] (by kernel_rfl) rfl ?_
     clear hs; intro a hs
     have hJ8 : ∀ (v104 : Bool) (w : World), St [] w0 w [own 37 (eI .u32) Aa29 cc30 t25, own 3 (eI .i64) (some ad7) 1 [w64 (4 * (a0.Words.length : Int))], box g2 26 [.slice A0_1 a0.Words.length c0_1, .slice A0_2 a0.Sites.length c0_2, .slice A0_3 a0.Syms.length c0_3]] → object_May.j8 a0 v104 = some r → KR72 (.bool v104) w := by
      intro v104 w hw H
      unfold object_May.j8 at H
      refine hKR72 _ _ ?_
      intro a hs1
      have hs : Slots a _ [(1, .pointer (some (⟨g2, 0, none⟩ : Addr))), (5, .func (.func 31) #[] #[.pointer (some ad7)]), (47, .bool v104)] := hs1.keep [1, 5, 47] (by kernel_rfl)
      clear hs1
      refine go_pvs 2 4 [1, 5, 45] hs (L' := [(1, .pointer (some (⟨g2, 0, none⟩ : Addr))), (5, .func (.func 31) #[] #[.pointer (some ad7)]), (45, .bool (!v104))]) (by kernel_rfl) ?_ rfl
      clear hs; intro a hs
      refine go_end (by kernel_rfl) ?_
      refine hK71 _ _ ?_
      refine go_cond hs (!v104) (by kernel_rfl) (fun hc => ?_) (fun hc => ?_)
      ·replace H := ite_f H (ff (nt hc))
       have hb105 := hc
       rw [hb105] at hs
       refine go_seq_k fun K106 hK106 => ?_
       refine go_region ?_
       refine go_pvs 0 1 [2] hs (L' := [(2, .int .i64 9)]) (by kernel_rfl) ?_ rfl
       clear hs; intro a hs
       refine go_end (by kernel_rfl) ?_
       refine hK106 _ _ ?_
       refine wp_ret ?_
       refine ib_ret ?_
       refine th_ret ?_
       obtain rfl := Option.some.inj H
       refine ret1 (t := 2) (v := .int .i64 9) hs (by kernel_rfl) (by kernel_rfl) ?_
       exact ⟨rfl, hw.only 0⟩
      ·replace H := ite_t H (nf hc)
       have hb107 := hc
       rw [hb107] at hs
       refine go_seq_k fun K108 hK108 => ?_
       refine go_region ?_
       refine go_pvs 0 1 [5, 50] hs (L' := [(5, .func (.func 31) #[] #[.pointer (some ad7)]), (50, .pointer (some (((⟨g2, 0, none⟩ : Addr) : Addr).add 2)))]) (by kernel_rfl) ?_ rfl
       clear hs; intro a hs
       refine go_run hs (op := (Op.load 24 (Operand.tmp 50))) (ty := 24) (dst := some 51) (g := none) (by kernel_rfl) (by kernel_rfl) (by kernel_rfl) (x_bld (g := g2) (o := 2) (p := ((⟨g2, 0, none⟩ : Addr) : Addr).add 2) (v := .slice A0_3 a0.Syms.length c0_3) (hw.up 2) (by kernel_rfl) rfl (by kernel_rfl) (by kernel_rfl)) [5, 51] (L' := [(5, .func (.func 31) #[] #[.pointer (some ad7)]), (51, .slice A0_3 a0.Syms.length c0_3)]) (by kernel_rfl) ?_
       clear hs; intro a hs
       refine go_pvs 2 3 [51, 52] hs (L' := [(51, .slice A0_3 a0.Syms.length c0_3), (52, .func (.func 31) #[] #[.pointer (some ad7)])]) (by kernel_rfl) ?_ rfl
       clear hs; intro a hs
       refine go_inline_k hs (op := (Op.call { callee := (Callee.value (Operand.func 35)), args := #[(Operand.tmp 51), (Operand.tmp 52)], argTypes := #[24, 60] })) (ty := 4) (dst := some 53) (g := none) (by kernel_rfl) (by kernel_rfl) (by kernel_rfl) (f := 35) (args := #[.slice A0_3 a0.Syms.length c0_3, .func (.func 31) #[] #[.pointer (some ad7)]]) (by kernel_rfl) (fun KR109 hKR109 => ?_)
       refine go_fn Tryd.func35 rfl 9 Tryd.ntmps35 [(0, .slice A0_3 a0.Syms.length c0_3), (1, .func (.func 31) #[] #[.pointer (some ad7)])] (by kernel_rfl) rfl ?_
       clear hs; intro a hs
       refine go_seq_k fun K110 hK110 => ?_
       refine go_region ?_
       refine go_pvs 0 1 [0, 1] hs (L' := [(0, .slice A0_3 a0.Syms.length c0_3), (1, .func (.func 31) #[] #[.pointer (some ad7)])]) (by kernel_rfl) ?_ rfl
       clear hs; intro a hs
       refine go_end (by kernel_rfl) ?_
       refine hK110 _ _ ?_
       refine go_seq_k fun K111 hK111 => ?_
       refine go_region ?_
       refine go_pvs 0 2 [5, 6] hs (L' := [(5, .slice A0_3 a0.Syms.length c0_3), (6, .func (.func 31) #[] #[.pointer (some ad7)])]) (by kernel_rfl) ?_ rfl
       clear hs; intro a hs
       refine go_inline_k hs (op := (Op.call { callee := (Callee.value (Operand.func 59)), args := #[(Operand.tmp 5), (Operand.tmp 6)], argTypes := #[24, 60] })) (ty := 3) (dst := some 7) (g := none) (by kernel_rfl) (by kernel_rfl) (by kernel_rfl) (f := 59) (args := #[.slice A0_3 a0.Syms.length c0_3, .func (.func 31) #[] #[.pointer (some ad7)]]) (by kernel_rfl) (fun KR112 hKR112 => ?_)
       refine go_fn Tryd.func59 rfl 19 Tryd.ntmps59 [(0, .slice A0_3 a0.Syms.length c0_3), (1, .func (.func 31) #[] #[.pointer (some ad7)])] (by kernel_rfl) rfl ?_
       clear hs; intro a hs
       have hJ11 : ∀ (v141 : Int) (w : World), St [] w0 w [own 37 (eI .u32) Aa29 cc30 t25, own 3 (eI .i64) (some ad7) 1 [w64 (4 * (a0.Words.length : Int))], box g2 26 [.slice A0_1 a0.Words.length c0_1, .slice A0_2 a0.Sites.length c0_2, .slice A0_3 a0.Syms.length c0_3]] → object_May.j11 v141 = some r → KR112 (.int .i64 v141) w := by
        intro v141 w hw H
        unfold object_May.j11 at H
        refine hKR112 _ _ ?_
        intro a hs1
        have hs : Slots a _ [(7, .int .i64 v141)] := hs1.keep [7] (by kernel_rfl)
        clear hs1
        refine go_pvs 3 5 [4] hs (L' := [(4, .bool (decide (v141 ≥ 0)))]) (by kernel_rfl) ?_ rfl
        clear hs; intro a hs
        refine go_end (by kernel_rfl) ?_
        refine hK111 _ _ ?_
        refine wp_ret ?_
        refine ret1 (t := 4) (v := .bool (decide (v141 ≥ 0))) hs (by kernel_rfl) (by kernel_rfl) ?_
        refine ⟨_, rfl, ?_⟩
        refine hKR109 _ _ ?_
        intro a hs1
        have hs : Slots a _ [(53, .bool (decide (v141 ≥ 0)))] := hs1.keep [53] (by kernel_rfl)
        clear hs1
        refine go_pvs 4 5 [49] hs (L' := [(49, .bool (decide (v141 ≥ 0)))]) (by kernel_rfl) ?_ rfl
        clear hs; intro a hs
        refine go_end (by kernel_rfl) ?_
        refine hK108 _ _ ?_
        refine go_cond hs (decide (v141 ≥ 0)) (by kernel_rfl) (fun hc => ?_) (fun hc => ?_)
        ·replace H := ite_t H (of_decide_eq_true hc)
         have hb142 := hc
         rw [hb142] at hs
         refine go_seq_k fun K143 hK143 => ?_
         refine go_region ?_
         refine go_pvs 0 1 [2] hs (L' := [(2, .int .i64 8)]) (by kernel_rfl) ?_ rfl
         clear hs; intro a hs
         refine go_end (by kernel_rfl) ?_
         refine hK143 _ _ ?_
         refine wp_ret ?_
         refine ib_ret ?_
         refine th_ret ?_
         obtain rfl := Option.some.inj H
         refine ret1 (t := 2) (v := .int .i64 8) hs (by kernel_rfl) (by kernel_rfl) ?_
         exact ⟨rfl, hw.only 0⟩
        ·replace H := ite_f H (of_decide_eq_false hc)
         have hb144 := hc
         rw [hb144] at hs
         refine wp_skip ?_
         refine ib_norm ?_
         refine hK34 _ _ ?_
         refine go_seq_k fun K145 hK145 => ?_
         refine go_region ?_
         refine go_pvs 0 1 [2] hs (L' := [(2, .int .i64 0)]) (by kernel_rfl) ?_ rfl
         clear hs; intro a hs
         refine go_end (by kernel_rfl) ?_
         refine hK145 _ _ ?_
         refine wp_ret ?_
         obtain rfl := Option.some.inj H
         refine ret1 (t := 2) (v := .int .i64 0) hs (by kernel_rfl) (by kernel_rfl) ?_
         exact ⟨rfl, hw.only 0⟩
       refine go_seq_k fun K113 hK113 => ?_
       refine go_region ?_
       refine go_pvs 0 1 [0, 1] hs (L' := [(0, .slice A0_3 a0.Syms.length c0_3), (1, .func (.func 31) #[] #[.pointer (some ad7)])]) (by kernel_rfl) ?_ rfl
       clear hs; intro a hs
       refine go_end (by kernel_rfl) ?_
       refine hK113 _ _ ?_
       refine go_seq_k fun K114 hK114 => ?_
       refine go_seq_k fun K115 hK115 => ?_
       refine go_region ?_
       refine go_pvs 0 3 [0, 1, 7, 8] hs (L' := [(0, .slice A0_3 a0.Syms.length c0_3), (1, .func (.func 31) #[] #[.pointer (some ad7)]), (7, .int .i64 (a0.Syms.length : Int)), (8, .int .i64 0)]) (by kernel_rfl) ?_ rfl
       clear hs; intro a hs
       refine go_end (by kernel_rfl) ?_
       refine hK115 _ _ ?_
       refine wp_block ?_
       obtain ⟨e116, hl116, HX116⟩ := bind_some H
       have hJ10 : ∀ (a : Act) (w : World), Slots a 19 [] → St [] w0 w [own 37 (eI .u32) Aa29 cc30 t25, own 3 (eI .i64) (some ad7) 1 [w64 (4 * (a0.Words.length : Int))], box g2 26 [.slice A0_1 a0.Words.length c0_1, .slice A0_2 a0.Sites.length c0_2, .slice A0_3 a0.Syms.length c0_3]] → object_May.j10 = some r → K114 a w := by
        intro a w hs hw H
        unfold object_May.j10 at H
        refine hK114 _ _ ?_
        refine go_seq_k fun K140 hK140 => ?_
        refine go_region ?_
        refine go_pvs 0 1 [4] hs (L' := [(4, .int .i64 (-1))]) (by kernel_rfl) ?_ rfl
        clear hs; intro a hs
        refine go_end (by kernel_rfl) ?_
        refine hK140 _ _ ?_
        refine wp_ret ?_
        refine ret1 (t := 4) (v := .int .i64 (-1)) hs (by kernel_rfl) (by kernel_rfl) ?_
        refine ⟨_, rfl, ?_⟩
        replace hw := hw.up 2
        replace hw := hw.up 2
        replace hw := hw.up 2
        replace hw := hw.only 3
        exact hJ11 (-1) _ hw H
       clear H
       refine go_loop (σ := Int) (fun σ a w => Slots a 19 [(0, .slice A0_3 a0.Syms.length c0_3), (1, .func (.func 31) #[] #[.pointer (some ad7)]), (7, .int .i64 (a0.Syms.length : Int)), (8, .int .i64 σ)] ∧ St [] w0 w [own 37 (eI .u32) Aa29 cc30 t25, own 3 (eI .i64) (some ad7) 1 [w64 (4 * (a0.Words.length : Int))], box g2 26 [.slice A0_1 a0.Words.length c0_1, .slice A0_2 a0.Sites.length c0_2, .slice A0_3 a0.Syms.length c0_3]]) hl116 (by exact ⟨hs.keep [0, 1, 7, 8] (by kernel_rfl), hw⟩) ?_
       rintro v117 a w ⟨hs, hw⟩ o H hr116
       replace hs : Slots a 19 [(0, .slice A0_3 a0.Syms.length c0_3), (1, .func (.func 31) #[] #[.pointer (some ad7)]), (7, .int .i64 (a0.Syms.length : Int)), (8, .int .i64 v117)] := hs
       replace hw : St [] w0 w [own 37 (eI .u32) Aa29 cc30 t25, own 3 (eI .i64) (some ad7) 1 [w64 (4 * (a0.Words.length : Int))], box g2 26 [.slice A0_1 a0.Words.length c0_1, .slice A0_2 a0.Sites.length c0_2, .slice A0_3 a0.Syms.length c0_3]] := hw
       replace H : object_May.b116 a0 v117 = some o := H
       unfold object_May.b116 at H
       refine go_seq_k fun K118 hK118 => ?_
       refine go_region ?_
       refine go_pvs 0 1 [0, 1, 7, 8, 9] hs (L' := [(0, .slice A0_3 a0.Syms.length c0_3), (1, .func (.func 31) #[] #[.pointer (some ad7)]), (7, .int .i64 (a0.Syms.length : Int)), (8, .int .i64 v117), (9, .bool (decide (v117 < (a0.Syms.length : Int))))]) (by kernel_rfl) ?_ rfl
       clear hs; intro a hs
       refine go_end (by kernel_rfl) ?_
       refine hK118 _ _ ?_
       refine go_seq_k fun K119 hK119 => ?_
       refine go_cond hs (decide (v117 < (a0.Syms.length : Int))) (by kernel_rfl) (fun hc => ?_) (fun hc => ?_)
       ·replace H := ite_t H (of_decide_eq_true hc)
        have hb120 := hc
        rw [hb120] at hs
        refine wp_skip ?_
        refine hK119 _ _ ?_
        refine go_seq_k fun K121 hK121 => ?_
        refine wp_block ?_
        refine go_seq_k fun K122 hK122 => ?_
        refine go_region ?_
        refine go_pvs 0 2 [0, 1, 5, 7, 8] hs (L' := [(0, .slice A0_3 a0.Syms.length c0_3), (1, .func (.func 31) #[] #[.pointer (some ad7)]), (5, .int .i64 v117), (7, .int .i64 (a0.Syms.length : Int)), (8, .int .i64 v117)]) (by kernel_rfl) ?_ rfl
        clear hs; intro a hs
        refine go_end (by kernel_rfl) ?_
        refine hK122 _ _ ?_
        refine go_seq_k fun K123 hK123 => ?_
        refine go_region ?_
        refine go_pvs 0 3 [0, 1, 5, 7, 8, 11, 12, 13] hs (L' := [(0, .slice A0_3 a0.Syms.length c0_3), (1, .func (.func 31) #[] #[.pointer (some ad7)]), (5, .int .i64 v117), (7, .int .i64 (a0.Syms.length : Int)), (8, .int .i64 v117), (11, .func (.func 31) #[] #[.pointer (some ad7)]), (12, .slice A0_3 a0.Syms.length c0_3), (13, .int .i64 v117)]) (by kernel_rfl) ?_ rfl
        clear hs; intro a hs
        obtain ⟨hp124, H⟩ := ite_only H
        obtain ⟨ad125, rfl⟩ := (hr0_3.old hw).some hp124.1 hp124.2
        refine go_run hs (op := (Op.indexAddr 24 (Operand.tmp 12) (Operand.tmp 13))) (ty := 0) (dst := some 14) (g := none) (by kernel_rfl) (by kernel_rfl) (by kernel_rfl) (x_idx (T := 39) (sz := 2) (a := ad125) (n := a0.Syms.length) (cap := c0_3) (k := .i64) (i := v117) (by kernel_rfl) (by kernel_rfl) (by kernel_rfl) (by kernel_rfl) hp124.1 hp124.2) [0, 1, 5, 7, 8, 11, 14] (L' := [(0, .slice (some ad125) a0.Syms.length c0_3), (1, .func (.func 31) #[] #[.pointer (some ad7)]), (5, .int .i64 v117), (7, .int .i64 (a0.Syms.length : Int)), (8, .int .i64 v117), (11, .func (.func 31) #[] #[.pointer (some ad7)]), (14, .pointer (some (ad125.add (v117.toNat * 2))))]) (by kernel_rfl) ?_
        clear hs; intro a hs
        refine go_run hs (op := (Op.load 39 (Operand.tmp 14))) (ty := 39) (dst := some 15) (g := none) (by kernel_rfl) (by kernel_rfl) (by kernel_rfl) (x_lds (E := eSapi_Sym) (off := 0) (p := ad125.add (v117.toNat * 2)) (cs := [.string ((ix eSapi_Sym.d a0.Syms v117).Name), .int .i64 ((ix eSapi_Sym.d a0.Syms v117).At)]) (hr0_3.old hw) hp124.1 hp124.2 (by kernel_rfl) rfl (by kernel_rfl) (by kernel_rfl) (by kernel_rfl)) [0, 1, 5, 7, 8, 11, 15] (L' := [(0, .slice (some ad125) a0.Syms.length c0_3), (1, .func (.func 31) #[] #[.pointer (some ad7)]), (5, .int .i64 v117), (7, .int .i64 (a0.Syms.length : Int)), (8, .int .i64 v117), (11, .func (.func 31) #[] #[.pointer (some ad7)]), (15, .agg #[.string ((ix eSapi_Sym.d a0.Syms v117).Name), .int .i64 ((ix eSapi_Sym.d a0.Syms v117).At)])]) (by kernel_rfl) ?_
        clear hs; intro a hs
        refine go_inline_k hs (op := (Op.call { callee := (Callee.value (Operand.tmp 11)), args := #[(Operand.tmp 15)], argTypes := #[39] })) (ty := 4) (dst := some 16) (g := none) (by kernel_rfl) (by kernel_rfl) (by kernel_rfl) (f := 31) (args := #[.agg #[.string ((ix eSapi_Sym.d a0.Syms v117).Name), .int .i64 ((ix eSapi_Sym.d a0.Syms v117).At)], .pointer (some ad7)]) (by kernel_rfl) (fun KR126 hKR126 => ?_)
        refine go_fn Tryd.func31 rfl 19 Tryd.ntmps31 [(0, .agg #[.string ((ix eSapi_Sym.d a0.Syms v117).Name), .int .i64 ((ix eSapi_Sym.d a0.Syms v117).At)]), (1, .pointer (some ad7))] (by kernel_rfl) rfl ?_
        clear hs; intro a hs
        refine go_seq_k fun K127 hK127 => ?_
        refine go_region ?_
        obtain ⟨ad128, wd129, hx130, hw⟩ := x_box1 (P := Tryd.prog) (elem := 39) (v := (Operand.tmp 0)) (ty := 0) hs hw eSapi_Sym (ix eSapi_Sym.d a0.Syms v117) (by kernel_rfl)
        refine go_run hs (op := (Op.box 39 (Operand.tmp 0))) (ty := 0) (dst := some 2) (g := none) (by kernel_rfl) (by kernel_rfl) (by kernel_rfl) hx130 [1, 2] (L' := [(1, .pointer (some ad7)), (2, .pointer (some ad128))]) (by kernel_rfl) ?_
        clear hs; intro a hs
        refine go_pvs 1 2 [1, 2] hs (L' := [(1, .pointer (some ad7)), (2, .pointer (some ad128))]) (by kernel_rfl) ?_ rfl
        clear hs; intro a hs
        refine go_end (by kernel_rfl) ?_
        refine hK127 _ _ ?_
        refine go_seq_k fun K132 hK132 => ?_
        have hJ9 : ∀ (v135 : Bool) (a : Act) (w : World), Slots a 19 [(3, .bool v135)] → St [] w0 w [own 39 eSapi_Sym (some ad128) 1 [(ix eSapi_Sym.d a0.Syms v117)], own 37 (eI .u32) Aa29 cc30 t25, own 3 (eI .i64) (some ad7) 1 [w64 (4 * (a0.Words.length : Int))], box g2 26 [.slice A0_1 a0.Words.length c0_1, .slice A0_2 a0.Sites.length c0_2, .slice (some ad125) a0.Syms.length c0_3]] → object_May.j9 v117 v135 = some o → K132 a w := by
         intro v135 a w hs hw H
         unfold object_May.j9 at H
         refine hK132 _ _ ?_
         refine wp_ret ?_
         refine ret1 (t := 3) (v := .bool v135) hs (by kernel_rfl) (by kernel_rfl) ?_
         refine ⟨_, rfl, ?_⟩
         refine hKR126 _ _ ?_
         intro a hs1
         have hs : Slots a _ [(0, .slice (some ad125) a0.Syms.length c0_3), (1, .func (.func 31) #[] #[.pointer (some ad7)]), (5, .int .i64 v117), (7, .int .i64 (a0.Syms.length : Int)), (8, .int .i64 v117), (16, .bool v135)] := hs1.keep [0, 1, 5, 7, 8, 16] (by kernel_rfl)
         clear hs1
         refine go_end (by kernel_rfl) ?_
         refine hK123 _ _ ?_
         refine go_cond hs v135 (by kernel_rfl) (fun hc => ?_) (fun hc => ?_)
         ·replace H := ite_t H hc
          have hb136 := hc
          rw [hb136] at hs
          refine go_seq_k fun K137 hK137 => ?_
          refine go_region ?_
          refine go_pvs 0 2 [4] hs (L' := [(4, .int .i64 v117)]) (by kernel_rfl) ?_ rfl
          clear hs; intro a hs
          refine go_end (by kernel_rfl) ?_
          refine hK137 _ _ ?_
          refine wp_ret ?_
          refine ib_ret ?_
          refine th_ret ?_
          refine th_ret ?_
          refine ib_ret ?_
          refine th_ret ?_
          rw [← hr116 _ (Option.some.inj H).symm] at HX116
          replace H : object_May.j11 v117 = some r := HX116
          refine ret1 (t := 4) (v := .int .i64 v117) hs (by kernel_rfl) (by kernel_rfl) ?_
          refine ⟨_, rfl, ?_⟩
          replace hw := hw.up 3
          replace hw := hw.up 3
          replace hw := hw.up 3
          replace hw := hw.only 3
          exact hJ11 v117 _ hw H
         ·replace H := ite_f H (ff hc)
          have hb138 := hc
          rw [hb138] at hs
          refine wp_skip ?_
          refine ib_norm ?_
          refine hK121 _ _ ?_
          refine go_region ?_
          refine go_pvs 0 2 [0, 1, 7, 8] hs (L' := [(0, .slice (some ad125) a0.Syms.length c0_3), (1, .func (.func 31) #[] #[.pointer (some ad7)]), (7, .int .i64 (a0.Syms.length : Int)), (8, .int .i64 (w64 (v117 + 1)))]) (by kernel_rfl) ?_ rfl
          clear hs; intro a hs
          refine go_end (by kernel_rfl) ?_
          replace hw := hw.up 3
          replace hw := hw.up 3
          replace hw := hw.up 3
          replace hw := hw.only 3
          exact round_end (w64 (v117 + 1)) (Option.some.inj H).symm ⟨hs.keep [0, 1, 7, 8] (by kernel_rfl), hw⟩
        refine go_region ?_
        refine go_pvs 0 1 [1, 2, 4] hs (L' := [(1, .pointer (some ad7)), (2, .pointer (some ad128)), (4, .pointer (some ((ad128 : Addr).add 1)))]) (by kernel_rfl) ?_ rfl
        clear hs; intro a hs
        refine go_run hs (op := (Op.load 3 (Operand.tmp 4))) (ty := 3) (dst := some 5) (g := none) (by kernel_rfl) (by kernel_rfl) (by kernel_rfl) (x_ld (E := eSapi_Sym) (off := 1) (p := (ad128 : Addr).add 1) (v := .int .i64 ((ix eSapi_Sym.d a0.Syms v117).At)) (Rd.of_own (hw.up 0)) (one_ok (ix eSapi_Sym.d a0.Syms v117)).1 (one_ok (ix eSapi_Sym.d a0.Syms v117)).2 (by kernel_rfl) (one_off _ _ _) (by kernel_rfl) (by kernel_rfl)) [1, 2, 5] (L' := [(1, .pointer (some ad7)), (2, .pointer (some ad128)), (5, .int .i64 ((ix eSapi_Sym.d a0.Syms v117).At))]) (by kernel_rfl) ?_
        clear hs; intro a hs
        refine go_pvs 2 4 [1, 2, 7] hs (L' := [(1, .pointer (some ad7)), (2, .pointer (some ad128)), (7, .bool (decide (((ix eSapi_Sym.d a0.Syms v117).At) < 0)))]) (by kernel_rfl) ?_ rfl
        clear hs; intro a hs
        cases hb133 : (decide (((ix eSapi_Sym.d a0.Syms v117).At) < 0))
        ·replace H := ite_f H (of_decide_eq_false hb133)
         rw [hb133] at hs
         refine go_pvs 4 5 [1, 2, 7, 8] hs (L' := [(1, .pointer (some ad7)), (2, .pointer (some ad128)), (7, .bool false), (8, .pointer (some ((ad128 : Addr).add 1)))]) (by kernel_rfl) ?_ rfl
         clear hs; intro a hs
         refine go_run hs (op := (Op.load 3 (Operand.tmp 8))) (ty := 3) (dst := some 9) (g := some (3, false)) (by kernel_rfl) (by kernel_rfl) (by kernel_rfl) (x_ld (E := eSapi_Sym) (off := 1) (p := (ad128 : Addr).add 1) (v := .int .i64 ((ix eSapi_Sym.d a0.Syms v117).At)) (Rd.of_own (hw.up 0)) (one_ok (ix eSapi_Sym.d a0.Syms v117)).1 (one_ok (ix eSapi_Sym.d a0.Syms v117)).2 (by kernel_rfl) (one_off _ _ _) (by kernel_rfl) (by kernel_rfl)) [1, 2, 7, 9] (L' := [(1, .pointer (some ad7)), (2, .pointer (some ad128)), (7, .bool false), (9, .int .i64 ((ix eSapi_Sym.d a0.Syms v117).At))]) (by kernel_rfl) ?_
         clear hs; intro a hs
         refine go_run hs (op := (Op.load 3 (Operand.tmp 1))) (ty := 3) (dst := some 10) (g := some (3, false)) (by kernel_rfl) (by kernel_rfl) (by kernel_rfl) (x_ld (E := (eI .i64)) (off := 0) (p := ad7) (v := .int .i64 (w64 (4 * (a0.Words.length : Int)))) (Rd.of_own (hw.up 2)) (one_ok (w64 (4 * (a0.Words.length : Int)))).1 (one_ok (w64 (4 * (a0.Words.length : Int)))).2 (by kernel_rfl) (one_at _ _) (by kernel_rfl) (by kernel_rfl)) [2, 7, 9, 10] (L' := [(2, .pointer (some ad128)), (7, .bool false), (9, .int .i64 ((ix eSapi_Sym.d a0.Syms v117).At)), (10, .int .i64 (w64 (4 * (a0.Words.length : Int))))]) (by kernel_rfl) ?_
         clear hs; intro a hs
         refine go_pvs 7 10 [2, 13] hs (L' := [(2, .pointer (some ad128)), (13, .bool (decide (((ix eSapi_Sym.d a0.Syms v117).At) > (w64 (4 * (a0.Words.length : Int))))))]) (by kernel_rfl) ?_ rfl
         clear hs; intro a hs
         cases hb134 : (decide (((ix eSapi_Sym.d a0.Syms v117).At) > (w64 (4 * (a0.Words.length : Int)))))
         ·replace H := ite_f H (of_decide_eq_false hb134)
          rw [hb134] at hs
          refine go_pvs 10 11 [13, 14] hs (L' := [(13, .bool false), (14, .pointer (some ((ad128 : Addr).add 1)))]) (by kernel_rfl) ?_ rfl
          clear hs; intro a hs
          refine go_run hs (op := (Op.load 3 (Operand.tmp 14))) (ty := 3) (dst := some 15) (g := some (9, false)) (by kernel_rfl) (by kernel_rfl) (by kernel_rfl) (x_ld (E := eSapi_Sym) (off := 1) (p := (ad128 : Addr).add 1) (v := .int .i64 ((ix eSapi_Sym.d a0.Syms v117).At)) (Rd.of_own (hw.up 0)) (one_ok (ix eSapi_Sym.d a0.Syms v117)).1 (one_ok (ix eSapi_Sym.d a0.Syms v117)).2 (by kernel_rfl) (one_off _ _ _) (by kernel_rfl) (by kernel_rfl)) [13, 15] (L' := [(13, .bool false), (15, .int .i64 ((ix eSapi_Sym.d a0.Syms v117).At))]) (by kernel_rfl) ?_
          clear hs; intro a hs
          refine go_pvs 12 16 [3] hs (L' := [(3, .bool ((((ix eSapi_Sym.d a0.Syms v117).At).tmod 4) != 0))]) (by kernel_rfl) ?_ rfl
          clear hs; intro a hs
          refine go_end (by kernel_rfl) ?_
          replace hw := hw.up 3
          replace hw := hw.up 3
          replace hw := hw.up 3
          replace hw := hw.up 3
          replace hw := hw.only 4
          exact hJ9 ((((ix eSapi_Sym.d a0.Syms v117).At).tmod 4) != 0) _ _ (hs.keep [3] (by kernel_rfl)) hw H
         ·replace H := ite_t H (of_decide_eq_true hb134)
          rw [hb134] at hs
          refine go_pvs 10 16 [3] hs (L' := [(3, .bool true)]) (by kernel_rfl) ?_ rfl
          clear hs; intro a hs
          refine go_end (by kernel_rfl) ?_
          replace hw := hw.up 3
          replace hw := hw.up 3
          replace hw := hw.up 3
          replace hw := hw.up 3
          replace hw := hw.only 4
          exact hJ9 true _ _ (hs.keep [3] (by kernel_rfl)) hw H
        ·replace H := ite_t H (of_decide_eq_true hb133)
         rw [hb133] at hs
         refine go_pvs 4 16 [3] hs (L' := [(3, .bool true)]) (by kernel_rfl) ?_ rfl
         clear hs; intro a hs
         refine go_end (by kernel_rfl) ?_
         replace hw := hw.up 3
         replace hw := hw.up 3
         replace hw := hw.up 3
         replace hw := hw.up 3
         replace hw := hw.only 4
         exact hJ9 true _ _ (hs.keep [3] (by kernel_rfl)) hw H
       ·replace H := ite_f H (of_decide_eq_false hc)
        have hb139 := hc
        rw [hb139] at hs
        refine wp_exit ?_
        refine th_exit ?_
        refine th_exit ?_
        refine in_block ?_
        replace hw := hw.up 2
        replace hw := hw.up 2
        replace hw := hw.up 2
        replace hw := hw.only 3
        rw [← hr116 _ (Option.some.inj H).symm] at HX116
        exact hJ10 _ _ (hs.keep [] (by kernel_rfl)) hw HX116
     refine go_seq_k fun K73 hK73 => ?_
     refine go_region ?_
     refine go_pvs 0 1 [0] hs (L' := [(0, .pointer (some (⟨g2, 0, none⟩ : Addr)))]) (by kernel_rfl) ?_ rfl
     clear hs; intro a hs
     refine go_end (by kernel_rfl) ?_
     refine hK73 _ _ ?_
     refine go_seq_k fun K74 hK74 => ?_
     refine go_seq_k fun K75 hK75 => ?_
     refine go_region ?_
     refine go_pvs 0 1 [0, 4] hs (L' := [(0, .pointer (some (⟨g2, 0, none⟩ : Addr))), (4, .pointer (some (((⟨g2, 0, none⟩ : Addr) : Addr).add 2)))]) (by kernel_rfl) ?_ rfl
     clear hs; intro a hs
     refine go_run hs (op := (Op.load 24 (Operand.tmp 4))) (ty := 24) (dst := some 5) (g := none) (by kernel_rfl) (by kernel_rfl) (by kernel_rfl) (x_bld (g := g2) (o := 2) (p := ((⟨g2, 0, none⟩ : Addr) : Addr).add 2) (v := .slice A0_3 a0.Syms.length c0_3) (hw.up 2) (by kernel_rfl) rfl (by kernel_rfl) (by kernel_rfl)) [0, 5] (L' := [(0, .pointer (some (⟨g2, 0, none⟩ : Addr))), (5, .slice A0_3 a0.Syms.length c0_3)]) (by kernel_rfl) ?_
     clear hs; intro a hs
     refine go_pvs 2 4 [0, 5, 6, 7] hs (L' := [(0, .pointer (some (⟨g2, 0, none⟩ : Addr))), (5, .slice A0_3 a0.Syms.length c0_3), (6, .int .i64 (a0.Syms.length : Int)), (7, .int .i64 0)]) (by kernel_rfl) ?_ rfl
     clear hs; intro a hs
     refine go_end (by kernel_rfl) ?_
     refine hK75 _ _ ?_
     refine wp_block ?_
     obtain ⟨e76, hl76, HX76⟩ := bind_some H
     have hJ7 : ∀ (a : Act) (w : World), Slots a 33 [] → St [] w0 w [own 37 (eI .u32) Aa29 cc30 t25, own 3 (eI .i64) (some ad7) 1 [w64 (4 * (a0.Words.length : Int))], box g2 26 [.slice A0_1 a0.Words.length c0_1, .slice A0_2 a0.Sites.length c0_2, .slice A0_3 a0.Syms.length c0_3]] → object_May.j7 a0 = some r → K74 a w := by
      intro a w hs hw H
      unfold object_May.j7 at H
      refine hK74 _ _ ?_
      refine go_seq_k fun K103 hK103 => ?_
      refine go_region ?_
      refine go_pvs 0 1 [1] hs (L' := [(1, .bool true)]) (by kernel_rfl) ?_ rfl
      clear hs; intro a hs
      refine go_end (by kernel_rfl) ?_
      refine hK103 _ _ ?_
      refine wp_ret ?_
      refine ret1 (t := 1) (v := .bool true) hs (by kernel_rfl) (by kernel_rfl) ?_
      refine ⟨_, rfl, ?_⟩
      replace hw := hw.up 2
      replace hw := hw.up 2
      replace hw := hw.up 2
      replace hw := hw.only 3
      exact hJ8 true _ hw H
     clear H
     refine go_loop (σ := Int) (fun σ a w => Slots a 33 [(0, .pointer (some (⟨g2, 0, none⟩ : Addr))), (5, .slice A0_3 a0.Syms.length c0_3), (6, .int .i64 (a0.Syms.length : Int)), (7, .int .i64 σ)] ∧ St [] w0 w [own 37 (eI .u32) Aa29 cc30 t25, own 3 (eI .i64) (some ad7) 1 [w64 (4 * (a0.Words.length : Int))], box g2 26 [.slice A0_1 a0.Words.length c0_1, .slice A0_2 a0.Sites.length c0_2, .slice A0_3 a0.Syms.length c0_3]]) hl76 (by exact ⟨hs.keep [0, 5, 6, 7] (by kernel_rfl), hw⟩) ?_
     rintro v77 a w ⟨hs, hw⟩ o H hr76
     replace hs : Slots a 33 [(0, .pointer (some (⟨g2, 0, none⟩ : Addr))), (5, .slice A0_3 a0.Syms.length c0_3), (6, .int .i64 (a0.Syms.length : Int)), (7, .int .i64 v77)] := hs
     replace hw : St [] w0 w [own 37 (eI .u32) Aa29 cc30 t25, own 3 (eI .i64) (some ad7) 1 [w64 (4 * (a0.Words.length : Int))], box g2 26 [.slice A0_1 a0.Words.length c0_1, .slice A0_2 a0.Sites.length c0_2, .slice A0_3 a0.Syms.length c0_3]] := hw
     replace H : object_May.b76 a0 v77 = some o := H
     unfold object_May.b76 at H
     refine go_seq_k fun K78 hK78 => ?_
     refine go_region ?_
     refine go_pvs 0 1 [0, 5, 6, 7, 8] hs (L' := [(0, .pointer (some (⟨g2, 0, none⟩ : Addr))), (5, .slice A0_3 a0.Syms.length c0_3), (6, .int .i64 (a0.Syms.length : Int)), (7, .int .i64 v77), (8, .bool (decide (v77 < (a0.Syms.length : Int))))]) (by kernel_rfl) ?_ rfl
     clear hs; intro a hs
     refine go_end (by kernel_rfl) ?_
     refine hK78 _ _ ?_
     refine go_seq_k fun K79 hK79 => ?_
     refine go_cond hs (decide (v77 < (a0.Syms.length : Int))) (by kernel_rfl) (fun hc => ?_) (fun hc => ?_)
     ·replace H := ite_t H (of_decide_eq_true hc)
      have hb80 := hc
      rw [hb80] at hs
      refine wp_skip ?_
      refine hK79 _ _ ?_
      refine go_seq_k fun K81 hK81 => ?_
      have hJ6 : ∀ (a : Act) (w : World), Slots a 33 [(0, .pointer (some (⟨g2, 0, none⟩ : Addr))), (5, .slice A0_3 a0.Syms.length c0_3), (6, .int .i64 (a0.Syms.length : Int)), (7, .int .i64 v77)] → St [] w0 w [own 37 (eI .u32) Aa29 cc30 t25, own 3 (eI .i64) (some ad7) 1 [w64 (4 * (a0.Words.length : Int))], box g2 26 [.slice A0_1 a0.Words.length c0_1, .slice A0_2 a0.Sites.length c0_2, .slice A0_3 a0.Syms.length c0_3]] → object_May.j6 v77 = some o → K81 a w := by
       intro a w hs hw H
       unfold object_May.j6 at H
       refine hK81 _ _ ?_
       refine go_region ?_
       refine go_pvs 0 2 [0, 5, 6, 7] hs (L' := [(0, .pointer (some (⟨g2, 0, none⟩ : Addr))), (5, .slice A0_3 a0.Syms.length c0_3), (6, .int .i64 (a0.Syms.length : Int)), (7, .int .i64 (w64 (v77 + 1)))]) (by kernel_rfl) ?_ rfl
       clear hs; intro a hs
       refine go_end (by kernel_rfl) ?_
       replace hw := hw.up 2
       replace hw := hw.up 2
       replace hw := hw.up 2
       replace hw := hw.only 3
       exact round_end (w64 (v77 + 1)) (Option.some.inj H).symm ⟨hs.keep [0, 5, 6, 7] (by kernel_rfl), hw⟩
      refine wp_block ?_
      refine go_seq_k fun K82 hK82 => ?_
      refine go_region ?_
      refine go_pvs 0 1 [0, 5, 6, 7, 9] hs (L' := [(0, .pointer (some (⟨g2, 0, none⟩ : Addr))), (5, .slice A0_3 a0.Syms.length c0_3), (6, .int .i64 (a0.Syms.length : Int)), (7, .int .i64 v77), (9, .int .i64 v77)]) (by kernel_rfl) ?_ rfl
      clear hs; intro a hs
      obtain ⟨hp83, H⟩ := ite_only H
      obtain ⟨ad84, rfl⟩ := (hr0_3.old hw).some hp83.1 hp83.2
      refine go_run hs (op := (Op.indexAddr 24 (Operand.tmp 5) (Operand.tmp 7))) (ty := 0) (dst := some 10) (g := none) (by kernel_rfl) (by kernel_rfl) (by kernel_rfl) (x_idx (T := 39) (sz := 2) (a := ad84) (n := a0.Syms.length) (cap := c0_3) (k := .i64) (i := v77) (by kernel_rfl) (by kernel_rfl) (by kernel_rfl) (by kernel_rfl) hp83.1 hp83.2) [0, 5, 6, 7, 9, 10] (L' := [(0, .pointer (some (⟨g2, 0, none⟩ : Addr))), (5, .slice (some ad84) a0.Syms.length c0_3), (6, .int .i64 (a0.Syms.length : Int)), (7, .int .i64 v77), (9, .int .i64 v77), (10, .pointer (some (ad84.add (v77.toNat * 2))))]) (by kernel_rfl) ?_
      clear hs; intro a hs
      refine go_run hs (op := (Op.load 39 (Operand.tmp 10))) (ty := 39) (dst := some 11) (g := none) (by kernel_rfl) (by kernel_rfl) (by kernel_rfl) (x_lds (E := eSapi_Sym) (off := 0) (p := ad84.add (v77.toNat * 2)) (cs := [.string ((ix eSapi_Sym.d a0.Syms v77).Name), .int .i64 ((ix eSapi_Sym.d a0.Syms v77).At)]) (hr0_3.old hw) hp83.1 hp83.2 (by kernel_rfl) rfl (by kernel_rfl) (by kernel_rfl) (by kernel_rfl)) [0, 5, 6, 7, 9, 11] (L' := [(0, .pointer (some (⟨g2, 0, none⟩ : Addr))), (5, .slice (some ad84) a0.Syms.length c0_3), (6, .int .i64 (a0.Syms.length : Int)), (7, .int .i64 v77), (9, .int .i64 v77), (11, .agg #[.string ((ix eSapi_Sym.d a0.Syms v77).Name), .int .i64 ((ix eSapi_Sym.d a0.Syms v77).At)])]) (by kernel_rfl) ?_
      clear hs; intro a hs
      obtain ⟨ad85, wd86, hx87, hw⟩ := x_alloc1 (P := Tryd.prog) (elem := 39) (ty := 0) (z := .agg #[.string (⟨#[]⟩ : ByteArray), .int .i64 0]) hs hw eSapi_Sym (⟨(⟨#[]⟩ : ByteArray), 0⟩ : Sapi_Sym) (by kernel_rfl) (by kernel_rfl)
      refine go_run hs (op := (Op.alloc 39)) (ty := 0) (dst := some 3) (g := none) (by kernel_rfl) (by kernel_rfl) (by kernel_rfl) hx87 [0, 3, 5, 6, 7, 9, 11] (L' := [(0, .pointer (some (⟨g2, 0, none⟩ : Addr))), (3, .pointer (some ad85)), (5, .slice (some ad84) a0.Syms.length c0_3), (6, .int .i64 (a0.Syms.length : Int)), (7, .int .i64 v77), (9, .int .i64 v77), (11, .agg #[.string ((ix eSapi_Sym.d a0.Syms v77).Name), .int .i64 ((ix eSapi_Sym.d a0.Syms v77).At)])]) (by kernel_rfl) ?_
      clear hs; intro a hs
      refine go_pvs 4 5 [0, 2, 3, 5, 6, 7, 11] hs (L' := [(0, .pointer (some (⟨g2, 0, none⟩ : Addr))), (2, .int .i64 v77), (3, .pointer (some ad85)), (5, .slice (some ad84) a0.Syms.length c0_3), (6, .int .i64 (a0.Syms.length : Int)), (7, .int .i64 v77), (11, .agg #[.string ((ix eSapi_Sym.d a0.Syms v77).Name), .int .i64 ((ix eSapi_Sym.d a0.Syms v77).At)])]) (by kernel_rfl) ?_ rfl
      clear hs; intro a hs
      obtain ⟨wd89, hx90, hw⟩ := x_put (P := Tryd.prog) (ty := 0) (t := 39) (x := (Operand.tmp 3)) (y := (Operand.tmp 11)) (off := 0) (p := ad85) (v := .agg #[.string ((ix eSapi_Sym.d a0.Syms v77).Name), .int .i64 ((ix eSapi_Sym.d a0.Syms v77).At)]) (vs := [.string ((ix eSapi_Sym.d a0.Syms v77).Name), .int .i64 ((ix eSapi_Sym.d a0.Syms v77).At)]) (i := 0) (e' := (((ix eSapi_Sym.d a0.Syms v77) : Sapi_Sym) : Sapi_Sym)) hs hw rfl (one_ok (⟨(⟨#[]⟩ : ByteArray), 0⟩ : Sapi_Sym)).1 (one_ok (⟨(⟨#[]⟩ : ByteArray), 0⟩ : Sapi_Sym)).2 (by kernel_rfl) (one_at _ _) (by kernel_rfl) rfl (by kernel_rfl) (Nat.le_of_ble_eq_true rfl) (by simp [Value.oneCell']) (by kernel_rfl)
      refine go_unit hs (op := (Op.store 39 (Operand.tmp 3) (Operand.tmp 11))) (ty := 0) (dst := none) (g := none) (by kernel_rfl) (by kernel_rfl) (by kernel_rfl) hx90 [0, 2, 3, 5, 6, 7] (L' := [(0, .pointer (some (⟨g2, 0, none⟩ : Addr))), (2, .int .i64 v77), (3, .pointer (some ad85)), (5, .slice (some ad84) a0.Syms.length c0_3), (6, .int .i64 (a0.Syms.length : Int)), (7, .int .i64 v77)]) (by kernel_rfl) ?_
      clear hs; intro a hs
      replace hw : St [] w0 wd89 [own 39 eSapi_Sym (some ad85) 1 [((ix eSapi_Sym.d a0.Syms v77) : Sapi_Sym)], own 37 (eI .u32) Aa29 cc30 t25, own 3 (eI .i64) (some ad7) 1 [w64 (4 * (a0.Words.length : Int))], box g2 26 [.slice A0_1 a0.Words.length c0_1, .slice A0_2 a0.Sites.length c0_2, .slice (some ad84) a0.Syms.length c0_3]] := hw
      refine go_end (by kernel_rfl) ?_
      refine hK82 _ _ ?_
      refine go_seq_k fun K91 hK91 => ?_
      have hJ5 : ∀ (v98 : Bool) (a : Act) (w : World), Slots a 33 [(0, .pointer (some (⟨g2, 0, none⟩ : Addr))), (5, .slice (some ad84) a0.Syms.length c0_3), (6, .int .i64 (a0.Syms.length : Int)), (7, .int .i64 v77), (31, .bool v98)] → St [] w0 w [own 39 eSapi_Sym (some ad85) 1 [((ix eSapi_Sym.d a0.Syms v77) : Sapi_Sym)], own 37 (eI .u32) Aa29 cc30 t25, own 3 (eI .i64) (some ad7) 1 [w64 (4 * (a0.Words.length : Int))], box g2 26 [.slice A0_1 a0.Words.length c0_1, .slice A0_2 a0.Sites.length c0_2, .slice (some ad84) a0.Syms.length c0_3]] → object_May.j5 v77 v98 = some o → K91 a w := by
       intro v98 a w hs hw H
       unfold object_May.j5 at H
       refine hK91 _ _ ?_
       refine go_cond hs v98 (by kernel_rfl) (fun hc => ?_) (fun hc => ?_)
       ·replace H := ite_t H hc
        have hb99 := hc
        rw [hb99] at hs
        refine go_seq_k fun K100 hK100 => ?_
        refine go_region ?_
        refine go_pvs 0 1 [1] hs (L' := [(1, .bool false)]) (by kernel_rfl) ?_ rfl
        clear hs; intro a hs
        refine go_end (by kernel_rfl) ?_
        refine hK100 _ _ ?_
        refine wp_ret ?_
        refine ib_ret ?_
        refine th_ret ?_
        refine th_ret ?_
        refine ib_ret ?_
        refine th_ret ?_
        rw [← hr76 _ (Option.some.inj H).symm] at HX76
        replace H : object_May.j8 a0 false = some r := HX76
        refine ret1 (t := 1) (v := .bool false) hs (by kernel_rfl) (by kernel_rfl) ?_
        refine ⟨_, rfl, ?_⟩
        replace hw := hw.up 3
        replace hw := hw.up 3
        replace hw := hw.up 3
        replace hw := hw.only 3
        exact hJ8 false _ hw H
       ·replace H := ite_f H (ff hc)
        have hb101 := hc
        rw [hb101] at hs
        refine wp_skip ?_
        refine ib_norm ?_
        replace hw := hw.up 3
        replace hw := hw.up 3
        replace hw := hw.up 3
        replace hw := hw.only 3
        exact hJ6 _ _ (hs.keep [0, 5, 6, 7] (by kernel_rfl)) hw H
      refine q2_region (by kernel_rfl) (by kernel_rfl) ?_
      refine q_pvs 0 1 [0, 2, 3, 5, 6, 7, 12] hs (L' := [(0, .pointer (some (⟨g2, 0, none⟩ : Addr))), (2, .int .i64 v77), (3, .pointer (some ad85)), (5, .slice (some ad84) a0.Syms.length c0_3), (6, .int .i64 (a0.Syms.length : Int)), (7, .int .i64 v77), (12, .pointer (some ((ad85 : Addr).add 0)))]) (by kernel_rfl) ?_ rfl
      clear hs; intro a hs
      refine q_run hs (op := (Op.load 9 (Operand.tmp 12))) (ty := 9) (dst := some 13) (g := none) (by kernel_rfl) (by kernel_rfl) (by kernel_rfl) (fun wx hbx => (x_ld (E := eSapi_Sym) (off := 0) (p := (ad85 : Addr).add 0) (v := .string (((ix eSapi_Sym.d a0.Syms v77) : Sapi_Sym).Name)) ((Rd.of_own (hw.up 0)).below hbx) (one_ok ((ix eSapi_Sym.d a0.Syms v77) : Sapi_Sym)).1 (one_ok ((ix eSapi_Sym.d a0.Syms v77) : Sapi_Sym)).2 (by kernel_rfl) (one_off _ _ _) (by kernel_rfl) (by kernel_rfl))) [0, 2, 3, 5, 6, 7, 13] (L' := [(0, .pointer (some (⟨g2, 0, none⟩ : Addr))), (2, .int .i64 v77), (3, .pointer (some ad85)), (5, .slice (some ad84) a0.Syms.length c0_3), (6, .int .i64 (a0.Syms.length : Int)), (7, .int .i64 v77), (13, .string (((ix eSapi_Sym.d a0.Syms v77) : Sapi_Sym).Name))]) (by kernel_rfl) ?_
      clear hs; intro a hs
      obtain ⟨t93, hx94, H⟩ := bind_some H
      refine q_call hs (op := (Op.call { callee := (Callee.value (Operand.func 33)), args := #[(Operand.tmp 13)], argTypes := #[9] })) (ty := 4) (dst := some 14) (g := none) (by kernel_rfl) (by kernel_rfl) (by kernel_rfl) (f := 33) (args := #[.string (((ix eSapi_Sym.d a0.Syms v77) : Sapi_Sym).Name)]) (v := .bool t93) (by kernel_rfl) (fun wx hbx => (le_Name.calls (((ix eSapi_Sym.d a0.Syms v77) : Sapi_Sym).Name) t93 _ hx94).mono ?_) [0, 2, 3, 5, 6, 7, 14] (L' := [(0, .pointer (some (⟨g2, 0, none⟩ : Addr))), (2, .int .i64 v77), (3, .pointer (some ad85)), (5, .slice (some ad84) a0.Syms.length c0_3), (6, .int .i64 (a0.Syms.length : Int)), (7, .int .i64 v77), (14, .bool t93)]) (by kernel_rfl) ?_
      · rintro e wy ⟨rfl, hwy⟩
        exact ⟨rfl, below_st hbx hwy⟩
      clear hs; intro a hs
      refine q_pvs 3 5 [0, 2, 3, 5, 6, 7, 16] hs (L' := [(0, .pointer (some (⟨g2, 0, none⟩ : Addr))), (2, .int .i64 v77), (3, .pointer (some ad85)), (5, .slice (some ad84) a0.Syms.length c0_3), (6, .int .i64 (a0.Syms.length : Int)), (7, .int .i64 v77), (16, .bool (!t93))]) (by kernel_rfl) ?_ rfl
      clear hs; intro a hs
      cases hb95 : (!t93)
      ·replace H := ite_t H (nf hb95)
       rw [hb95] at hs
       refine q_pvs 5 8 [0, 2, 3, 5, 6, 7, 16, 19] hs (L' := [(0, .pointer (some (⟨g2, 0, none⟩ : Addr))), (2, .int .i64 v77), (3, .pointer (some ad85)), (5, .slice (some ad84) a0.Syms.length c0_3), (6, .int .i64 (a0.Syms.length : Int)), (7, .int .i64 v77), (16, .bool false), (19, .bool (decide (v77 > 0)))]) (by kernel_rfl) ?_ rfl
       clear hs; intro a hs
       cases hb96 : (decide (v77 > 0))
       ·replace H := ite_f H (of_decide_eq_false hb96)
        rw [hb96] at hs
        refine q_pvs 8 20 [0, 5, 6, 7, 31] hs (L' := [(0, .pointer (some (⟨g2, 0, none⟩ : Addr))), (5, .slice (some ad84) a0.Syms.length c0_3), (6, .int .i64 (a0.Syms.length : Int)), (7, .int .i64 v77), (31, .bool false)]) (by kernel_rfl) ?_ rfl
        clear hs; intro a hs
        refine q_end (by kernel_rfl) ?_
        intro wq hbq
        replace hw := hw.behind hbq
        replace hw := hw.up 3
        replace hw := hw.up 3
        replace hw := hw.up 3
        replace hw := hw.up 3
        replace hw := hw.only 4
        exact hJ5 false _ _ (hs.keep [0, 5, 6, 7, 31] (by kernel_rfl)) hw H
       ·replace H := ite_t H (of_decide_eq_true hb96)
        rw [hb96] at hs
        refine q_pvs 8 9 [0, 2, 5, 6, 7, 16, 19, 20] hs (L' := [(0, .pointer (some (⟨g2, 0, none⟩ : Addr))), (2, .int .i64 v77), (5, .slice (some ad84) a0.Syms.length c0_3), (6, .int .i64 (a0.Syms.length : Int)), (7, .int .i64 v77), (16, .bool false), (19, .bool true), (20, .pointer (some ((ad85 : Addr).add 0)))]) (by kernel_rfl) ?_ rfl
        clear hs; intro a hs
        refine q_run hs (op := (Op.load 9 (Operand.tmp 20))) (ty := 9) (dst := some 21) (g := some (7, true)) (by kernel_rfl) (by kernel_rfl) (by kernel_rfl) (fun wx hbx => (x_ld (E := eSapi_Sym) (off := 0) (p := (ad85 : Addr).add 0) (v := .string (((ix eSapi_Sym.d a0.Syms v77) : Sapi_Sym).Name)) ((Rd.of_own (hw.up 0)).below hbx) (one_ok ((ix eSapi_Sym.d a0.Syms v77) : Sapi_Sym)).1 (one_ok ((ix eSapi_Sym.d a0.Syms v77) : Sapi_Sym)).2 (by kernel_rfl) (one_off _ _ _) (by kernel_rfl) (by kernel_rfl))) [0, 2, 5, 6, 7, 16, 19, 21] (L' := [(0, .pointer (some (⟨g2, 0, none⟩ : Addr))), (2, .int .i64 v77), (5, .slice (some ad84) a0.Syms.length c0_3), (6, .int .i64 (a0.Syms.length : Int)), (7, .int .i64 v77), (16, .bool false), (19, .bool true), (21, .string (((ix eSapi_Sym.d a0.Syms v77) : Sapi_Sym).Name))]) (by kernel_rfl) ?_
        clear hs; intro a hs
        refine q_pvs 10 11 [0, 2, 5, 6, 7, 16, 19, 21, 22] hs (L' := [(0, .pointer (some (⟨g2, 0, none⟩ : Addr))), (2, .int .i64 v77), (5, .slice (some ad84) a0.Syms.length c0_3), (6, .int .i64 (a0.Syms.length : Int)), (7, .int .i64 v77), (16, .bool false), (19, .bool true), (21, .string (((ix eSapi_Sym.d a0.Syms v77) : Sapi_Sym).Name)), (22, .pointer (some (((⟨g2, 0, none⟩ : Addr) : Addr).add 2)))]) (by kernel_rfl) ?_ rfl
        clear hs; intro a hs
        refine q_run hs (op := (Op.load 24 (Operand.tmp 22))) (ty := 24) (dst := some 23) (g := some (7, true)) (by kernel_rfl) (by kernel_rfl) (by kernel_rfl) (fun wx hbx => (x_bld (g := g2) (o := 2) (p := ((⟨g2, 0, none⟩ : Addr) : Addr).add 2) (v := .slice (some ad84) a0.Syms.length c0_3) ((hw.behind hbx).up 3) (by kernel_rfl) rfl (by kernel_rfl) (by kernel_rfl))) [0, 2, 5, 6, 7, 16, 19, 21, 23] (L' := [(0, .pointer (some (⟨g2, 0, none⟩ : Addr))), (2, .int .i64 v77), (5, .slice (some ad84) a0.Syms.length c0_3), (6, .int .i64 (a0.Syms.length : Int)), (7, .int .i64 v77), (16, .bool false), (19, .bool true), (21, .string (((ix eSapi_Sym.d a0.Syms v77) : Sapi_Sym).Name)), (23, .slice (some ad84) a0.Syms.length c0_3)]) (by kernel_rfl) ?_
        clear hs; intro a hs
        refine q_pvs 12 14 [0, 5, 6, 7, 16, 19, 21, 23, 25] hs (L' := [(0, .pointer (some (⟨g2, 0, none⟩ : Addr))), (5, .slice (some ad84) a0.Syms.length c0_3), (6, .int .i64 (a0.Syms.length : Int)), (7, .int .i64 v77), (16, .bool false), (19, .bool true), (21, .string (((ix eSapi_Sym.d a0.Syms v77) : Sapi_Sym).Name)), (23, .slice (some ad84) a0.Syms.length c0_3), (25, .int .i64 (w64 (v77 - 1)))]) (by kernel_rfl) ?_ rfl
        clear hs; intro a hs
        obtain ⟨hp97, H⟩ := ite_only H
        refine q_run hs (op := (Op.indexAddr 24 (Operand.tmp 23) (Operand.tmp 25))) (ty := 0) (dst := some 26) (g := some (7, true)) (by kernel_rfl) (by kernel_rfl) (by kernel_rfl) (fun wx hbx => (x_idx (T := 39) (sz := 2) (a := ad84) (n := a0.Syms.length) (cap := c0_3) (k := .i64) (i := (w64 (v77 - 1))) (by kernel_rfl) (by kernel_rfl) (by kernel_rfl) (by kernel_rfl) hp97.1 hp97.2)) [0, 5, 6, 7, 16, 19, 21, 26] (L' := [(0, .pointer (some (⟨g2, 0, none⟩ : Addr))), (5, .slice (some ad84) a0.Syms.length c0_3), (6, .int .i64 (a0.Syms.length : Int)), (7, .int .i64 v77), (16, .bool false), (19, .bool true), (21, .string (((ix eSapi_Sym.d a0.Syms v77) : Sapi_Sym).Name)), (26, .pointer (some (ad84.add ((w64 (v77 - 1)).toNat * 2))))]) (by kernel_rfl) ?_
        clear hs; intro a hs
        refine q_pvs 15 16 [0, 5, 6, 7, 16, 19, 21, 27] hs (L' := [(0, .pointer (some (⟨g2, 0, none⟩ : Addr))), (5, .slice (some ad84) a0.Syms.length c0_3), (6, .int .i64 (a0.Syms.length : Int)), (7, .int .i64 v77), (16, .bool false), (19, .bool true), (21, .string (((ix eSapi_Sym.d a0.Syms v77) : Sapi_Sym).Name)), (27, .pointer (some ((ad84.add ((w64 (v77 - 1)).toNat * 2) : Addr).add 0)))]) (by kernel_rfl) ?_ rfl
        clear hs; intro a hs
        refine q_run hs (op := (Op.load 9 (Operand.tmp 27))) (ty := 9) (dst := some 28) (g := some (7, true)) (by kernel_rfl) (by kernel_rfl) (by kernel_rfl) (fun wx hbx => (x_ld (E := eSapi_Sym) (off := 0) (p := (ad84.add ((w64 (v77 - 1)).toNat * 2) : Addr).add 0) (v := .string ((ix eSapi_Sym.d a0.Syms (w64 (v77 - 1))).Name)) ((hr0_3.old hw).below hbx) hp97.1 hp97.2 (by kernel_rfl) (by simp only [add_add', Nat.add_assoc]; rfl) (by kernel_rfl) (by kernel_rfl))) [0, 5, 6, 7, 16, 19, 21, 28] (L' := [(0, .pointer (some (⟨g2, 0, none⟩ : Addr))), (5, .slice (some ad84) a0.Syms.length c0_3), (6, .int .i64 (a0.Syms.length : Int)), (7, .int .i64 v77), (16, .bool false), (19, .bool true), (21, .string (((ix eSapi_Sym.d a0.Syms v77) : Sapi_Sym).Name)), (28, .string ((ix eSapi_Sym.d a0.Syms (w64 (v77 - 1))).Name))]) (by kernel_rfl) ?_
        clear hs; intro a hs
        refine q_pvs 17 20 [0, 5, 6, 7, 31] hs (L' := [(0, .pointer (some (⟨g2, 0, none⟩ : Addr))), (5, .slice (some ad84) a0.Syms.length c0_3), (6, .int .i64 (a0.Syms.length : Int)), (7, .int .i64 v77), (31, .bool (Op.bytesLess (((ix eSapi_Sym.d a0.Syms v77) : Sapi_Sym).Name).toList ((ix eSapi_Sym.d a0.Syms (w64 (v77 - 1))).Name).toList || (((ix eSapi_Sym.d a0.Syms v77) : Sapi_Sym).Name).toList == ((ix eSapi_Sym.d a0.Syms (w64 (v77 - 1))).Name).toList))]) (by kernel_rfl) ?_ rfl
        clear hs; intro a hs
        refine q_end (by kernel_rfl) ?_
        intro wq hbq
        replace hw := hw.behind hbq
        replace hw := hw.up 3
        replace hw := hw.up 3
        replace hw := hw.up 3
        replace hw := hw.up 3
        replace hw := hw.only 4
        exact hJ5 (Op.bytesLess (((ix eSapi_Sym.d a0.Syms v77) : Sapi_Sym).Name).toList ((ix eSapi_Sym.d a0.Syms (w64 (v77 - 1))).Name).toList || (((ix eSapi_Sym.d a0.Syms v77) : Sapi_Sym).Name).toList == ((ix eSapi_Sym.d a0.Syms (w64 (v77 - 1))).Name).toList) _ _ (hs.keep [0, 5, 6, 7, 31] (by kernel_rfl)) hw H
      ·replace H := ite_f H (ff (nt hb95))
       rw [hb95] at hs
       refine q_pvs 5 20 [0, 5, 6, 7, 31] hs (L' := [(0, .pointer (some (⟨g2, 0, none⟩ : Addr))), (5, .slice (some ad84) a0.Syms.length c0_3), (6, .int .i64 (a0.Syms.length : Int)), (7, .int .i64 v77), (31, .bool true)]) (by kernel_rfl) ?_ rfl
       clear hs; intro a hs
       refine q_end (by kernel_rfl) ?_
       intro wq hbq
       replace hw := hw.behind hbq
       replace hw := hw.up 3
       replace hw := hw.up 3
       replace hw := hw.up 3
       replace hw := hw.up 3
       replace hw := hw.only 4
       exact hJ5 true _ _ (hs.keep [0, 5, 6, 7, 31] (by kernel_rfl)) hw H
     ·replace H := ite_f H (of_decide_eq_false hc)
      have hb102 := hc
      rw [hb102] at hs
      refine wp_exit ?_
      refine th_exit ?_
      refine th_exit ?_
      refine in_block ?_
      replace hw := hw.up 2
      replace hw := hw.up 2
      replace hw := hw.up 2
      replace hw := hw.only 3
      rw [← hr76 _ (Option.some.inj H).symm] at HX76
      exact hJ7 _ _ (hs.keep [] (by kernel_rfl)) hw HX76
   refine go_seq_k fun K44 hK44 => ?_
   refine go_region ?_
   refine go_pvs 0 1 [0, 1] hs (L' := [(0, .slice A0_2 a0.Sites.length c0_2), (1, .func (.func 30) #[] #[.pointer (some (⟨g2, 0, none⟩ : Addr)), .pointer (some ad7)])]) (by kernel_rfl) ?_ rfl
   clear hs; intro a hs
   refine go_end (by kernel_rfl) ?_
   refine hK44 _ _ ?_
   refine go_seq_k fun K45 hK45 => ?_
   refine go_seq_k fun K46 hK46 => ?_
   refine go_region ?_
   refine go_pvs 0 3 [0, 1, 7, 8] hs (L' := [(0, .slice A0_2 a0.Sites.length c0_2), (1, .func (.func 30) #[] #[.pointer (some (⟨g2, 0, none⟩ : Addr)), .pointer (some ad7)]), (7, .int .i64 (a0.Sites.length : Int)), (8, .int .i64 0)]) (by kernel_rfl) ?_ rfl
   clear hs; intro a hs
   refine go_end (by kernel_rfl) ?_
   refine hK46 _ _ ?_
   refine wp_block ?_
   obtain ⟨e47, hl47, HX47⟩ := bind_some H
   have hJ3 : ∀ (a : Act) (w : World), Slots a 19 [] → St [] w0 w [own 37 (eI .u32) Aa29 cc30 t25, own 3 (eI .i64) (some ad7) 1 [w64 (4 * (a0.Words.length : Int))], box g2 26 [.slice A0_1 a0.Words.length c0_1, .slice A0_2 a0.Sites.length c0_2, .slice A0_3 a0.Syms.length c0_3]] → object_May.j3 a0 = some r → K45 a w := by
    intro a w hs hw H
    unfold object_May.j3 at H
    refine hK45 _ _ ?_
    refine go_seq_k fun K66 hK66 => ?_
    refine go_region ?_
    refine go_pvs 0 1 [4] hs (L' := [(4, .int .i64 (-1))]) (by kernel_rfl) ?_ rfl
    clear hs; intro a hs
    refine go_end (by kernel_rfl) ?_
    refine hK66 _ _ ?_
    refine wp_ret ?_
    refine ret1 (t := 4) (v := .int .i64 (-1)) hs (by kernel_rfl) (by kernel_rfl) ?_
    refine ⟨_, rfl, ?_⟩
    replace hw := hw.up 2
    replace hw := hw.up 2
    replace hw := hw.up 2
    replace hw := hw.only 3
    exact hJ4 (-1) _ hw H
   clear H
   refine go_loop (σ := Int) (fun σ a w => Slots a 19 [(0, .slice A0_2 a0.Sites.length c0_2), (1, .func (.func 30) #[] #[.pointer (some (⟨g2, 0, none⟩ : Addr)), .pointer (some ad7)]), (7, .int .i64 (a0.Sites.length : Int)), (8, .int .i64 σ)] ∧ St [] w0 w [own 37 (eI .u32) Aa29 cc30 t25, own 3 (eI .i64) (some ad7) 1 [w64 (4 * (a0.Words.length : Int))], box g2 26 [.slice A0_1 a0.Words.length c0_1, .slice A0_2 a0.Sites.length c0_2, .slice A0_3 a0.Syms.length c0_3]]) hl47 (by exact ⟨hs.keep [0, 1, 7, 8] (by kernel_rfl), hw⟩) ?_
   rintro v48 a w ⟨hs, hw⟩ o H hr47
   replace hs : Slots a 19 [(0, .slice A0_2 a0.Sites.length c0_2), (1, .func (.func 30) #[] #[.pointer (some (⟨g2, 0, none⟩ : Addr)), .pointer (some ad7)]), (7, .int .i64 (a0.Sites.length : Int)), (8, .int .i64 v48)] := hs
   replace hw : St [] w0 w [own 37 (eI .u32) Aa29 cc30 t25, own 3 (eI .i64) (some ad7) 1 [w64 (4 * (a0.Words.length : Int))], box g2 26 [.slice A0_1 a0.Words.length c0_1, .slice A0_2 a0.Sites.length c0_2, .slice A0_3 a0.Syms.length c0_3]] := hw
   replace H : object_May.b47 a0 v48 = some o := H
   unfold object_May.b47 at H
   refine go_seq_k fun K49 hK49 => ?_
   refine go_region ?_
   refine go_pvs 0 1 [0, 1, 7, 8, 9] hs (L' := [(0, .slice A0_2 a0.Sites.length c0_2), (1, .func (.func 30) #[] #[.pointer (some (⟨g2, 0, none⟩ : Addr)), .pointer (some ad7)]), (7, .int .i64 (a0.Sites.length : Int)), (8, .int .i64 v48), (9, .bool (decide (v48 < (a0.Sites.length : Int))))]) (by kernel_rfl) ?_ rfl
   clear hs; intro a hs
   refine go_end (by kernel_rfl) ?_
   refine hK49 _ _ ?_
   refine go_seq_k fun K50 hK50 => ?_
   refine go_cond hs (decide (v48 < (a0.Sites.length : Int))) (by kernel_rfl) (fun hc => ?_) (fun hc => ?_)
   ·replace H := ite_t H (of_decide_eq_true hc)
    have hb51 := hc
    rw [hb51] at hs
    refine wp_skip ?_
    refine hK50 _ _ ?_
    refine go_seq_k fun K52 hK52 => ?_
    refine wp_block ?_
    refine go_seq_k fun K53 hK53 => ?_
    refine go_region ?_
    refine go_pvs 0 2 [0, 1, 5, 7, 8] hs (L' := [(0, .slice A0_2 a0.Sites.length c0_2), (1, .func (.func 30) #[] #[.pointer (some (⟨g2, 0, none⟩ : Addr)), .pointer (some ad7)]), (5, .int .i64 v48), (7, .int .i64 (a0.Sites.length : Int)), (8, .int .i64 v48)]) (by kernel_rfl) ?_ rfl
    clear hs; intro a hs
    refine go_end (by kernel_rfl) ?_
    refine hK53 _ _ ?_
    refine go_seq_k fun K54 hK54 => ?_
    refine go_region ?_
    refine go_pvs 0 3 [0, 1, 5, 7, 8, 11, 12, 13] hs (L' := [(0, .slice A0_2 a0.Sites.length c0_2), (1, .func (.func 30) #[] #[.pointer (some (⟨g2, 0, none⟩ : Addr)), .pointer (some ad7)]), (5, .int .i64 v48), (7, .int .i64 (a0.Sites.length : Int)), (8, .int .i64 v48), (11, .func (.func 30) #[] #[.pointer (some (⟨g2, 0, none⟩ : Addr)), .pointer (some ad7)]), (12, .slice A0_2 a0.Sites.length c0_2), (13, .int .i64 v48)]) (by kernel_rfl) ?_ rfl
    clear hs; intro a hs
    obtain ⟨hp55, H⟩ := ite_only H
    obtain ⟨ad56, rfl⟩ := (hr0_2.old hw).some hp55.1 hp55.2
    refine go_run hs (op := (Op.indexAddr 23 (Operand.tmp 12) (Operand.tmp 13))) (ty := 0) (dst := some 14) (g := none) (by kernel_rfl) (by kernel_rfl) (by kernel_rfl) (x_idx (T := 3) (sz := 1) (a := ad56) (n := a0.Sites.length) (cap := c0_2) (k := .i64) (i := v48) (by kernel_rfl) (by kernel_rfl) (by kernel_rfl) (by kernel_rfl) hp55.1 hp55.2) [0, 1, 5, 7, 8, 11, 14] (L' := [(0, .slice (some ad56) a0.Sites.length c0_2), (1, .func (.func 30) #[] #[.pointer (some (⟨g2, 0, none⟩ : Addr)), .pointer (some ad7)]), (5, .int .i64 v48), (7, .int .i64 (a0.Sites.length : Int)), (8, .int .i64 v48), (11, .func (.func 30) #[] #[.pointer (some (⟨g2, 0, none⟩ : Addr)), .pointer (some ad7)]), (14, .pointer (some (ad56.add (v48.toNat * 1))))]) (by kernel_rfl) ?_
    clear hs; intro a hs
    refine go_run hs (op := (Op.load 3 (Operand.tmp 14))) (ty := 3) (dst := some 15) (g := none) (by kernel_rfl) (by kernel_rfl) (by kernel_rfl) (x_ld (E := (eI .i64)) (off := 0) (p := ad56.add (v48.toNat * 1)) (v := .int .i64 (ix (eI .i64).d a0.Sites v48)) (hr0_2.old hw) hp55.1 hp55.2 (by kernel_rfl) rfl (by kernel_rfl) (by kernel_rfl)) [0, 1, 5, 7, 8, 11, 15] (L' := [(0, .slice (some ad56) a0.Sites.length c0_2), (1, .func (.func 30) #[] #[.pointer (some (⟨g2, 0, none⟩ : Addr)), .pointer (some ad7)]), (5, .int .i64 v48), (7, .int .i64 (a0.Sites.length : Int)), (8, .int .i64 v48), (11, .func (.func 30) #[] #[.pointer (some (⟨g2, 0, none⟩ : Addr)), .pointer (some ad7)]), (15, .int .i64 (ix (eI .i64).d a0.Sites v48))]) (by kernel_rfl) ?_
    clear hs; intro a hs
    refine go_inline_k hs (op := (Op.call { callee := (Callee.value (Operand.tmp 11)), args := #[(Operand.tmp 15)], argTypes := #[3] })) (ty := 4) (dst := some 16) (g := none) (by kernel_rfl) (by kernel_rfl) (by kernel_rfl) (f := 30) (args := #[.int .i64 (ix (eI .i64).d a0.Sites v48), .pointer (some (⟨g2, 0, none⟩ : Addr)), .pointer (some ad7)]) (by kernel_rfl) (fun KR57 hKR57 => ?_)
    refine go_fn Tryd.func30 rfl 13 Tryd.ntmps30 [(0, .int .i64 (ix (eI .i64).d a0.Sites v48)), (1, .pointer (some (⟨g2, 0, none⟩ : Addr))), (2, .pointer (some ad7))] (by kernel_rfl) rfl ?_
    clear hs; intro a hs
    refine go_seq_k fun K58 hK58 => ?_
    refine go_region ?_
    refine go_pvs 0 1 [0, 1, 2] hs (L' := [(0, .int .i64 (ix (eI .i64).d a0.Sites v48)), (1, .pointer (some (⟨g2, 0, none⟩ : Addr))), (2, .pointer (some ad7))]) (by kernel_rfl) ?_ rfl
    clear hs; intro a hs
    refine go_end (by kernel_rfl) ?_
    refine hK58 _ _ ?_
    refine go_seq_k fun K59 hK59 => ?_
    refine q2_region (by kernel_rfl) (by kernel_rfl) ?_
    refine q_pvs 0 1 [0, 2, 5] hs (L' := [(0, .int .i64 (ix (eI .i64).d a0.Sites v48)), (2, .pointer (some ad7)), (5, .pointer (some (((⟨g2, 0, none⟩ : Addr) : Addr).add 0)))]) (by kernel_rfl) ?_ rfl
    clear hs; intro a hs
    refine q_run hs (op := (Op.load 22 (Operand.tmp 5))) (ty := 22) (dst := some 6) (g := none) (by kernel_rfl) (by kernel_rfl) (by kernel_rfl) (fun wx hbx => (x_bld (g := g2) (o := 0) (p := ((⟨g2, 0, none⟩ : Addr) : Addr).add 0) (v := .slice A0_1 a0.Words.length c0_1) ((hw.behind hbx).up 2) (by kernel_rfl) rfl (by kernel_rfl) (by kernel_rfl))) [0, 2, 6] (L' := [(0, .int .i64 (ix (eI .i64).d a0.Sites v48)), (2, .pointer (some ad7)), (6, .slice A0_1 a0.Words.length c0_1)]) (by kernel_rfl) ?_
    clear hs; intro a hs
    refine q_pvs 2 3 [2, 6, 7] hs (L' := [(2, .pointer (some ad7)), (6, .slice A0_1 a0.Words.length c0_1), (7, .int .i64 (ix (eI .i64).d a0.Sites v48))]) (by kernel_rfl) ?_ rfl
    clear hs; intro a hs
    obtain ⟨hp60, H⟩ := ite_only H
    obtain ⟨ad61, rfl⟩ := (hr0_1.old hw).some hp60.1 hp60.2
    refine q_run hs (op := (Op.indexAddr 22 (Operand.tmp 6) (Operand.tmp 7))) (ty := 0) (dst := some 8) (g := none) (by kernel_rfl) (by kernel_rfl) (by kernel_rfl) (fun wx hbx => (x_idx (T := 37) (sz := 1) (a := ad61) (n := a0.Words.length) (cap := c0_1) (k := .i64) (i := (ix (eI .i64).d a0.Sites v48)) (by kernel_rfl) (by kernel_rfl) (by kernel_rfl) (by kernel_rfl) hp60.1 hp60.2)) [2, 8] (L' := [(2, .pointer (some ad7)), (8, .pointer (some (ad61.add ((ix (eI .i64).d a0.Sites v48).toNat * 1))))]) (by kernel_rfl) ?_
    clear hs; intro a hs
    refine q_run hs (op := (Op.load 37 (Operand.tmp 8))) (ty := 37) (dst := some 9) (g := none) (by kernel_rfl) (by kernel_rfl) (by kernel_rfl) (fun wx hbx => (x_ld (E := (eI .u32)) (off := 0) (p := ad61.add ((ix (eI .i64).d a0.Sites v48).toNat * 1)) (v := .int .u32 (ix (eI .u32).d a0.Words (ix (eI .i64).d a0.Sites v48))) ((hr0_1.old hw).below hbx) hp60.1 hp60.2 (by kernel_rfl) rfl (by kernel_rfl) (by kernel_rfl))) [2, 9] (L' := [(2, .pointer (some ad7)), (9, .int .u32 (ix (eI .u32).d a0.Words (ix (eI .i64).d a0.Sites v48)))]) (by kernel_rfl) ?_
    clear hs; intro a hs
    refine q_pvs 5 6 [2, 10] hs (L' := [(2, .pointer (some ad7)), (10, .int .i64 (w64 (ix (eI .u32).d a0.Words (ix (eI .i64).d a0.Sites v48))))]) (by kernel_rfl) ?_ rfl
    clear hs; intro a hs
    refine q_run hs (op := (Op.load 3 (Operand.tmp 2))) (ty := 3) (dst := some 11) (g := none) (by kernel_rfl) (by kernel_rfl) (by kernel_rfl) (fun wx hbx => (x_ld (E := (eI .i64)) (off := 0) (p := ad7) (v := .int .i64 (w64 (4 * (a0.Words.length : Int)))) ((Rd.of_own (hw.up 1)).below hbx) (one_ok (w64 (4 * (a0.Words.length : Int)))).1 (one_ok (w64 (4 * (a0.Words.length : Int)))).2 (by kernel_rfl) (one_at _ _) (by kernel_rfl) (by kernel_rfl))) [10, 11] (L' := [(10, .int .i64 (w64 (ix (eI .u32).d a0.Words (ix (eI .i64).d a0.Sites v48)))), (11, .int .i64 (w64 (4 * (a0.Words.length : Int))))]) (by kernel_rfl) ?_
    clear hs; intro a hs
    refine q_pvs 7 9 [4] hs (L' := [(4, .bool (decide ((w64 (ix (eI .u32).d a0.Words (ix (eI .i64).d a0.Sites v48))) > (w64 (4 * (a0.Words.length : Int))))))]) (by kernel_rfl) ?_ rfl
    clear hs; intro a hs
    refine q_end (by kernel_rfl) ?_
    intro wq hbq
    replace hw := hw.behind hbq
    refine hK59 _ _ ?_
    refine wp_ret ?_
    refine ret1 (t := 4) (v := .bool (decide ((w64 (ix (eI .u32).d a0.Words (ix (eI .i64).d a0.Sites v48))) > (w64 (4 * (a0.Words.length : Int)))))) hs (by kernel_rfl) (by kernel_rfl) ?_
    refine ⟨_, rfl, ?_⟩
    refine hKR57 _ _ ?_
    intro a hs1
    have hs : Slots a _ [(0, .slice (some ad56) a0.Sites.length c0_2), (1, .func (.func 30) #[] #[.pointer (some (⟨g2, 0, none⟩ : Addr)), .pointer (some ad7)]), (5, .int .i64 v48), (7, .int .i64 (a0.Sites.length : Int)), (8, .int .i64 v48), (16, .bool (decide ((w64 (ix (eI .u32).d a0.Words (ix (eI .i64).d a0.Sites v48))) > (w64 (4 * (a0.Words.length : Int))))))] := hs1.keep [0, 1, 5, 7, 8, 16] (by kernel_rfl)
    clear hs1
    refine go_end (by kernel_rfl) ?_
    refine hK54 _ _ ?_
    refine go_cond hs (decide ((w64 (ix (eI .u32).d a0.Words (ix (eI .i64).d a0.Sites v48))) > (w64 (4 * (a0.Words.length : Int))))) (by kernel_rfl) (fun hc => ?_) (fun hc => ?_)
    ·replace H := ite_t H (of_decide_eq_true hc)
     have hb62 := hc
     rw [hb62] at hs
     refine go_seq_k fun K63 hK63 => ?_
     refine go_region ?_
     refine go_pvs 0 2 [4] hs (L' := [(4, .int .i64 v48)]) (by kernel_rfl) ?_ rfl
     clear hs; intro a hs
     refine go_end (by kernel_rfl) ?_
     refine hK63 _ _ ?_
     refine wp_ret ?_
     refine ib_ret ?_
     refine th_ret ?_
     refine th_ret ?_
     refine ib_ret ?_
     refine th_ret ?_
     rw [← hr47 _ (Option.some.inj H).symm] at HX47
     replace H : object_May.j4 a0 v48 = some r := HX47
     refine ret1 (t := 4) (v := .int .i64 v48) hs (by kernel_rfl) (by kernel_rfl) ?_
     refine ⟨_, rfl, ?_⟩
     replace hw := hw.up 2
     replace hw := hw.up 2
     replace hw := hw.up 2
     replace hw := hw.only 3
     exact hJ4 v48 _ hw H
    ·replace H := ite_f H (of_decide_eq_false hc)
     have hb64 := hc
     rw [hb64] at hs
     refine wp_skip ?_
     refine ib_norm ?_
     refine hK52 _ _ ?_
     refine go_region ?_
     refine go_pvs 0 2 [0, 1, 7, 8] hs (L' := [(0, .slice (some ad56) a0.Sites.length c0_2), (1, .func (.func 30) #[] #[.pointer (some (⟨g2, 0, none⟩ : Addr)), .pointer (some ad7)]), (7, .int .i64 (a0.Sites.length : Int)), (8, .int .i64 (w64 (v48 + 1)))]) (by kernel_rfl) ?_ rfl
     clear hs; intro a hs
     refine go_end (by kernel_rfl) ?_
     replace hw := hw.up 2
     replace hw := hw.up 2
     replace hw := hw.up 2
     replace hw := hw.only 3
     exact round_end (w64 (v48 + 1)) (Option.some.inj H).symm ⟨hs.keep [0, 1, 7, 8] (by kernel_rfl), hw⟩
   ·replace H := ite_f H (of_decide_eq_false hc)
    have hb65 := hc
    rw [hb65] at hs
    refine wp_exit ?_
    refine th_exit ?_
    refine th_exit ?_
    refine in_block ?_
    replace hw := hw.up 2
    replace hw := hw.up 2
    replace hw := hw.up 2
    replace hw := hw.only 3
    rw [← hr47 _ (Option.some.inj H).symm] at HX47
    exact hJ3 _ _ (hs.keep [] (by kernel_rfl)) hw HX47
 refine go_seq_k fun K17 hK17 => ?_
 have hJ1 : ∀ (v19 : Bool) (a : Act) (w : World), Slots a 54 [(1, .pointer (some (⟨g2, 0, none⟩ : Addr))), (4, .func (.func 30) #[] #[.pointer (some (⟨g2, 0, none⟩ : Addr)), .pointer (some ad7)]), (5, .func (.func 31) #[] #[.pointer (some ad7)]), (6, .func (.func 32) #[] #[.pointer (some (⟨g2, 0, none⟩ : Addr))]), (26, .bool v19)] → St [] w0 w [own 3 (eI .i64) (some ad7) 1 [w64 (4 * (a0.Words.length : Int))], box g2 26 [.slice A0_1 a0.Words.length c0_1, .slice A0_2 a0.Sites.length c0_2, .slice A0_3 a0.Syms.length c0_3]] → object_May.j1 a0 v19 = some r → K17 a w := by
  intro v19 a w hs hw H
  unfold object_May.j1 at H
  refine hK17 _ _ ?_
  refine go_cond hs v19 (by kernel_rfl) (fun hc => ?_) (fun hc => ?_)
  ·replace H := ite_t H hc
   have hb20 := hc
   rw [hb20] at hs
   refine go_seq_k fun K21 hK21 => ?_
   refine go_region ?_
   refine go_pvs 0 1 [2] hs (L' := [(2, .int .i64 2)]) (by kernel_rfl) ?_ rfl
   clear hs; intro a hs
   refine go_end (by kernel_rfl) ?_
   refine hK21 _ _ ?_
   refine wp_ret ?_
   refine th_ret ?_
   obtain rfl := Option.some.inj H
   refine ret1 (t := 2) (v := .int .i64 2) hs (by kernel_rfl) (by kernel_rfl) ?_
   exact ⟨rfl, hw.only 0⟩
  ·replace H := ite_f H (ff hc)
   have hb22 := hc
   rw [hb22] at hs
   refine wp_skip ?_
   replace hw := hw.up 1
   replace hw := hw.up 1
   replace hw := hw.only 2
   exact hJ2 _ _ (hs.keep [1, 4, 5, 6] (by kernel_rfl)) hw H
 refine go_region ?_
 refine go_pvs 0 1 [1, 4, 5, 6, 17] hs (L' := [(1, .pointer (some (⟨g2, 0, none⟩ : Addr))), (4, .func (.func 30) #[] #[.pointer (some (⟨g2, 0, none⟩ : Addr)), .pointer (some ad7)]), (5, .func (.func 31) #[] #[.pointer (some ad7)]), (6, .func (.func 32) #[] #[.pointer (some (⟨g2, 0, none⟩ : Addr))]), (17, .pointer (some (((⟨g2, 0, none⟩ : Addr) : Addr).add 0)))]) (by kernel_rfl) ?_ rfl
 clear hs; intro a hs
 refine go_run hs (op := (Op.load 22 (Operand.tmp 17))) (ty := 22) (dst := some 18) (g := none) (by kernel_rfl) (by kernel_rfl) (by kernel_rfl) (x_bld (g := g2) (o := 0) (p := ((⟨g2, 0, none⟩ : Addr) : Addr).add 0) (v := .slice A0_1 a0.Words.length c0_1) (hw.up 1) (by kernel_rfl) rfl (by kernel_rfl) (by kernel_rfl)) [1, 4, 5, 6, 18] (L' := [(1, .pointer (some (⟨g2, 0, none⟩ : Addr))), (4, .func (.func 30) #[] #[.pointer (some (⟨g2, 0, none⟩ : Addr)), .pointer (some ad7)]), (5, .func (.func 31) #[] #[.pointer (some ad7)]), (6, .func (.func 32) #[] #[.pointer (some (⟨g2, 0, none⟩ : Addr))]), (18, .slice A0_1 a0.Words.length c0_1)]) (by kernel_rfl) ?_
 clear hs; intro a hs
 refine go_pvs 2 5 [1, 4, 5, 6, 21] hs (L' := [(1, .pointer (some (⟨g2, 0, none⟩ : Addr))), (4, .func (.func 30) #[] #[.pointer (some (⟨g2, 0, none⟩ : Addr)), .pointer (some ad7)]), (5, .func (.func 31) #[] #[.pointer (some ad7)]), (6, .func (.func 32) #[] #[.pointer (some (⟨g2, 0, none⟩ : Addr))]), (21, .bool (decide ((a0.Words.length : Int) > 1024)))]) (by kernel_rfl) ?_ rfl
 clear hs; intro a hs
 cases hb18 : (decide ((a0.Words.length : Int) > 1024))
 ·replace H := ite_f H (of_decide_eq_false hb18)
  rw [hb18] at hs
  refine go_pvs 5 6 [1, 4, 5, 6, 21, 22] hs (L' := [(1, .pointer (some (⟨g2, 0, none⟩ : Addr))), (4, .func (.func 30) #[] #[.pointer (some (⟨g2, 0, none⟩ : Addr)), .pointer (some ad7)]), (5, .func (.func 31) #[] #[.pointer (some ad7)]), (6, .func (.func 32) #[] #[.pointer (some (⟨g2, 0, none⟩ : Addr))]), (21, .bool false), (22, .pointer (some (((⟨g2, 0, none⟩ : Addr) : Addr).add 2)))]) (by kernel_rfl) ?_ rfl
  clear hs; intro a hs
  refine go_run hs (op := (Op.load 24 (Operand.tmp 22))) (ty := 24) (dst := some 23) (g := some (4, false)) (by kernel_rfl) (by kernel_rfl) (by kernel_rfl) (x_bld (g := g2) (o := 2) (p := ((⟨g2, 0, none⟩ : Addr) : Addr).add 2) (v := .slice A0_3 a0.Syms.length c0_3) (hw.up 1) (by kernel_rfl) rfl (by kernel_rfl) (by kernel_rfl)) [1, 4, 5, 6, 21, 23] (L' := [(1, .pointer (some (⟨g2, 0, none⟩ : Addr))), (4, .func (.func 30) #[] #[.pointer (some (⟨g2, 0, none⟩ : Addr)), .pointer (some ad7)]), (5, .func (.func 31) #[] #[.pointer (some ad7)]), (6, .func (.func 32) #[] #[.pointer (some (⟨g2, 0, none⟩ : Addr))]), (21, .bool false), (23, .slice A0_3 a0.Syms.length c0_3)]) (by kernel_rfl) ?_
  clear hs; intro a hs
  refine go_pvs 7 10 [1, 4, 5, 6, 26] hs (L' := [(1, .pointer (some (⟨g2, 0, none⟩ : Addr))), (4, .func (.func 30) #[] #[.pointer (some (⟨g2, 0, none⟩ : Addr)), .pointer (some ad7)]), (5, .func (.func 31) #[] #[.pointer (some ad7)]), (6, .func (.func 32) #[] #[.pointer (some (⟨g2, 0, none⟩ : Addr))]), (26, .bool (decide ((a0.Syms.length : Int) > 64)))]) (by kernel_rfl) ?_ rfl
  clear hs; intro a hs
  refine go_end (by kernel_rfl) ?_
  replace hw := hw.up 1
  replace hw := hw.up 1
  replace hw := hw.only 2
  exact hJ1 (decide ((a0.Syms.length : Int) > 64)) _ _ (hs.keep [1, 4, 5, 6, 26] (by kernel_rfl)) hw H
 ·replace H := ite_t H (of_decide_eq_true hb18)
  rw [hb18] at hs
  refine go_pvs 5 10 [1, 4, 5, 6, 26] hs (L' := [(1, .pointer (some (⟨g2, 0, none⟩ : Addr))), (4, .func (.func 30) #[] #[.pointer (some (⟨g2, 0, none⟩ : Addr)), .pointer (some ad7)]), (5, .func (.func 31) #[] #[.pointer (some ad7)]), (6, .func (.func 32) #[] #[.pointer (some (⟨g2, 0, none⟩ : Addr))]), (26, .bool true)]) (by kernel_rfl) ?_ rfl
  clear hs; intro a hs
  refine go_end (by kernel_rfl) ?_
  replace hw := hw.up 1
  replace hw := hw.up 1
  replace hw := hw.only 2
  exact hJ1 true _ _ (hs.keep [1, 4, 5, 6, 26] (by kernel_rfl)) hw H

end Go.Proofs.YtmfnololpfdfdaaDoor.T09
