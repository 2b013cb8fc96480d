/- YtckefpenekolhaaDoorT07: Go functions told as plain ones, each with a proof that its call comes to what is told, part 2. Condition of each: that the plain function comes to a value. -/
import Derived.Test.YtckefpenekolhaaDoorT07a
namespace Go.Proofs.YtckefpenekolhaaDoor.T07
open Go Go.RowKit Go.Proofs.YtckefpenekolhaaDoor.E
set_option linter.unusedVariables false
set_option linter.unusedSimpArgs false

/-! rivet/le.Take: function 16 -/
noncomputable def le_Take.b14 (a1 : Int) (l0 : List Int) (l15 : List Int) (v18 : Int) : Option ((List Int) × Int ⊕ (List Int)) := (if v18 < a1 then (if 0 ≤ (w64 (4 * v18)) ∧ (w64 (4 * v18)) ≤ (w64 ((w64 (4 * v18)) + 4)) ∧ (w64 ((w64 (4 * v18)) + 4)) ≤ (l0.length : Int) then (if 0 ≤ (0 : Int) ∧ (0 : Int) < (((l0.take (w64 ((w64 (4 * v18)) + 4) : Int).toNat).drop (w64 (4 * v18) : Int).toNat).length : Int) then (if 0 ≤ (1 : Int) ∧ (1 : Int) < (((l0.take (w64 ((w64 (4 * v18)) + 4) : Int).toNat).drop (w64 (4 * v18) : Int).toNat).length : Int) then (if 0 ≤ (2 : Int) ∧ (2 : Int) < (((l0.take (w64 ((w64 (4 * v18)) + 4) : Int).toNat).drop (w64 (4 * v18) : Int).toNat).length : Int) then (if 0 ≤ (3 : Int) ∧ (3 : Int) < (((l0.take (w64 ((w64 (4 * v18)) + 4) : Int).toNat).drop (w64 (4 * v18) : Int).toNat).length : Int) then (if l15.length + ([bor .u32 (bor .u32 (bor .u32 (wu32 (ix (eI .u8).d ((l0.take (w64 ((w64 (4 * v18)) + 4) : Int).toNat).drop (w64 (4 * v18) : Int).toNat) (0 : Int))) (wu32 ((wu32 (ix (eI .u8).d ((l0.take (w64 ((w64 (4 * v18)) + 4) : Int).toNat).drop (w64 (4 * v18) : Int).toNat) (1 : Int))) * 2 ^ 8))) (wu32 ((wu32 (ix (eI .u8).d ((l0.take (w64 ((w64 (4 * v18)) + 4) : Int).toNat).drop (w64 (4 * v18) : Int).toNat) (2 : Int))) * 2 ^ 16))) (wu32 ((wu32 (ix (eI .u8).d ((l0.take (w64 ((w64 (4 * v18)) + 4) : Int).toNat).drop (w64 (4 * v18) : Int).toNat) (3 : Int))) * 2 ^ 24))] : List Int).length ≤ 35184372088832 then some (.inl (l15 ++ ([bor .u32 (bor .u32 (bor .u32 (wu32 (ix (eI .u8).d ((l0.take (w64 ((w64 (4 * v18)) + 4) : Int).toNat).drop (w64 (4 * v18) : Int).toNat) (0 : Int))) (wu32 ((wu32 (ix (eI .u8).d ((l0.take (w64 ((w64 (4 * v18)) + 4) : Int).toNat).drop (w64 (4 * v18) : Int).toNat) (1 : Int))) * 2 ^ 8))) (wu32 ((wu32 (ix (eI .u8).d ((l0.take (w64 ((w64 (4 * v18)) + 4) : Int).toNat).drop (w64 (4 * v18) : Int).toNat) (2 : Int))) * 2 ^ 16))) (wu32 ((wu32 (ix (eI .u8).d ((l0.take (w64 ((w64 (4 * v18)) + 4) : Int).toNat).drop (w64 (4 * v18) : Int).toNat) (3 : Int))) * 2 ^ 24))] : List Int), w64 (v18 + 1))) else none) else none) else none) else none) else none) else none) else some (.inr l15))
noncomputable def le_Take.j3 (l48 : List Int) : Option ((List Int) × Int) := some (l48, 0)
noncomputable def le_Take.j2 (a1 : Int) (l0 : List Int) : Option ((List Int) × Int) := ((loopO (fun (σ : (List Int) × Int) => le_Take.b14 a1 l0 σ.1 σ.2) (([] : List Int), 0)).bind fun e => le_Take.j3 e)
noncomputable def le_Take.j1 (a1 : Int) (l0 : List Int) (v5 : Bool) : Option ((List Int) × Int) := (if v5 = true then some (([] : List Int), 3) else le_Take.j2 a1 l0)
noncomputable def le_Take (l0 : List Int) (a1 : Int) : Option ((List Int) × Int) := (if a1 < 0 then le_Take.j1 a1 l0 true else le_Take.j1 a1 l0 (decide ((w64 ((l0.length : Int).tdiv 4)) < a1)))
set_option maxRecDepth 100000 in
set_option maxHeartbeats 4000000 in
theorem le_Take.calls (A0 : Option Addr) (c0 : Nat) (l0 : List Int) (a1 : Int) (r : (List Int) × Int) (w0 : World) (hr0 : Rd w0 (eI .u8) A0 c0 l0) (H : le_Take l0 a1 = some r) :
    Calls Tryd.prog 16 #[.slice A0 l0.length c0, .int .i64 a1] w0 fun e w' => ∃ A_0 c_0, e = .returned (.tuple #[.slice A_0 r.1.length c_0, .int .i64 r.2]) ∧ St [] w0 w' [own 43 (eI .u32) A_0 c_0 r.1] := by
 have hw : St [] w0 w0 [] := St.nil w0
 unfold le_Take at H
 refine go_fn Tryd.func16 rfl 56 Tryd.ntmps16 [(0, .slice A0 l0.length c0), (1, .int .i64 a1)] (by kernel_rfl) rfl ?_
 intro a hs
 refine go_seq_k fun K1 hK1 => ?_
 refine go_region ?_
 refine go_pvs 0 2 [0, 1] hs (L' := [(0, .slice A0 l0.length c0), (1, .int .i64 a1)]) (by kernel_rfl) ?_ rfl
 clear hs; intro a hs
 refine go_end (by kernel_rfl) ?_
 refine hK1 _ _ ?_
 refine go_seq_k fun K2 hK2 => ?_
 have hJ2 : ∀ (a : Act) (w : World), Slots a 56 [(0, .slice A0 l0.length c0), (1, .int .i64 a1)] → St [] w0 w [] → le_Take.j2 a1 l0 = some r → K2 a w := by
  intro a w hs hw H
  unfold le_Take.j2 at H
  refine hK2 _ _ ?_
  refine go_seq_k fun K10 hK10 => ?_
  refine go_region ?_
  refine go_pvs 0 1 [0, 1, 6] hs (L' := [(0, .slice A0 l0.length c0), (1, .int .i64 a1), (6, .slice none 0 0)]) (by kernel_rfl) ?_ rfl
  clear hs; intro a hs
  refine go_end (by kernel_rfl) ?_
  refine hK10 _ _ ?_
  refine go_seq_k fun K11 hK11 => ?_
  refine go_seq_k fun K12 hK12 => ?_
  refine go_region ?_
  refine go_pvs 0 2 [0, 6, 18, 19] hs (L' := [(0, .slice A0 l0.length c0), (6, .slice none 0 0), (18, .int .i64 a1), (19, .int .i64 0)]) (by kernel_rfl) ?_ rfl
  clear hs; intro a hs
  refine go_end (by kernel_rfl) ?_
  refine hK12 _ _ ?_
  refine wp_block ?_
  replace hw := St.own_nil hw 43 (eI .u32)
  obtain ⟨e14, hl14, HX14⟩ := bind_some H
  have hJ3 : ∀ (Aa49 : Option Addr) (cc50 : Nat) (l48 : List Int) (a : Act) (w : World), Slots a 56 [(6, .slice Aa49 l48.length cc50)] → St [] w0 w [own 43 (eI .u32) Aa49 cc50 l48] → le_Take.j3 l48 = some r → K11 a w := by
   intro Aa49 cc50 l48 a w hs hw H
   unfold le_Take.j3 at H
   refine hK11 _ _ ?_
   refine go_seq_k fun K51 hK51 => ?_
   refine go_region ?_
   refine go_pvs 0 3 [4, 5] hs (L' := [(4, .slice Aa49 l48.length cc50), (5, .int .i64 0)]) (by kernel_rfl) ?_ rfl
   clear hs; intro a hs
   refine go_end (by kernel_rfl) ?_
   refine hK51 _ _ ?_
   refine wp_ret ?_
   obtain rfl := Option.some.inj H
   refine ret2 (t1 := 4) (v1 := .slice Aa49 l48.length cc50) (t2 := 5) (v2 := .int .i64 0) hs (by kernel_rfl) (by kernel_rfl) (by kernel_rfl) ?_
   exact ⟨Aa49, cc50, rfl, hw.only 1⟩
  clear H
  refine go_loop (σ := (List Int) × Int) (fun σ a w => ∃ Aa16, ∃ cc17, Slots a 56 [(0, .slice A0 l0.length c0), (6, .slice Aa16 σ.1.length cc17), (18, .int .i64 a1), (19, .int .i64 σ.2)] ∧ St [] w0 w [own 43 (eI .u32) Aa16 cc17 σ.1]) hl14 (by exact ⟨none, 0, hs.keep [0, 6, 18, 19] (by kernel_rfl), hw⟩) ?_
  rintro ⟨l15, v18⟩ a w ⟨Aa16, cc17, hs, hw⟩ o H hr14
  replace hs : Slots a 56 [(0, .slice A0 l0.length c0), (6, .slice Aa16 l15.length cc17), (18, .int .i64 a1), (19, .int .i64 v18)] := hs
  replace hw : St [] w0 w [own 43 (eI .u32) Aa16 cc17 l15] := hw
  replace H : le_Take.b14 a1 l0 l15 v18 = some o := H
  unfold le_Take.b14 at H
  refine go_seq_k fun K19 hK19 => ?_
  refine go_region ?_
  refine go_pvs 0 1 [0, 6, 18, 19, 20] hs (L' := [(0, .slice A0 l0.length c0), (6, .slice Aa16 l15.length cc17), (18, .int .i64 a1), (19, .int .i64 v18), (20, .bool (decide (v18 < a1)))]) (by kernel_rfl) ?_ rfl
  clear hs; intro a hs
  refine go_end (by kernel_rfl) ?_
  refine hK19 _ _ ?_
  refine go_seq_k fun K20 hK20 => ?_
  refine go_cond hs (decide (v18 < a1)) (by kernel_rfl) (fun hc => ?_) (fun hc => ?_)
  ·replace H := ite_t H (of_decide_eq_true hc)
   have hb21 := hc
   rw [hb21] at hs
   refine wp_skip ?_
   refine hK20 _ _ ?_
   refine go_seq_k fun K22 hK22 => ?_
   refine wp_block ?_
   refine go_seq_k fun K23 hK23 => ?_
   refine go_region ?_
   refine go_pvs 0 2 [0, 6, 7, 18, 19] hs (L' := [(0, .slice A0 l0.length c0), (6, .slice Aa16 l15.length cc17), (7, .int .i64 v18), (18, .int .i64 a1), (19, .int .i64 v18)]) (by kernel_rfl) ?_ rfl
   clear hs; intro a hs
   refine go_end (by kernel_rfl) ?_
   refine hK23 _ _ ?_
   refine go_seq_k fun K24 hK24 => ?_
   refine go_region ?_
   refine go_pvs 0 6 [0, 6, 18, 19, 22, 24, 27] hs (L' := [(0, .slice A0 l0.length c0), (6, .slice Aa16 l15.length cc17), (18, .int .i64 a1), (19, .int .i64 v18), (22, .slice A0 l0.length c0), (24, .int .i64 (w64 (4 * v18))), (27, .int .i64 (w64 ((w64 (4 * v18)) + 4)))]) (by kernel_rfl) ?_ rfl
   clear hs; intro a hs
   obtain ⟨hp25, H⟩ := ite_only H
   obtain ⟨Aa26, cc27, hx28, hc29⟩ := c_lohi (P := Tryd.prog) (ty := 22) (E := (eI .u8)) (T := 5) (t := 22) (x := (Operand.tmp 22)) (y := (Operand.tmp 24)) (k := .i64) (y' := (Operand.tmp 27)) (k' := .i64) hs (by kernel_rfl) (by kernel_rfl) (hr0.old hw) (by kernel_rfl) (by kernel_rfl) (by kernel_rfl) hp25.1 hp25.2.1 hp25.2.2
   refine go_run hs (op := (Op.slice 22 (Operand.tmp 22) (some (Operand.tmp 24)) (some (Operand.tmp 27)) none)) (ty := 22) (dst := some 28) (g := none) (by kernel_rfl) (by kernel_rfl) (by kernel_rfl) hx28 [0, 6, 18, 19, 28] (L' := [(0, .slice A0 l0.length c0), (6, .slice Aa16 l15.length cc17), (18, .int .i64 a1), (19, .int .i64 v18), (28, .slice Aa26 ((l0.take (w64 ((w64 (4 * v18)) + 4) : Int).toNat).drop (w64 (4 * v18) : Int).toNat).length cc27)]) (by kernel_rfl) ?_
   clear hs; intro a hs
   refine go_pvs 7 8 [0, 6, 8, 18, 19] hs (L' := [(0, .slice A0 l0.length c0), (6, .slice Aa16 l15.length cc17), (8, .slice Aa26 ((l0.take (w64 ((w64 (4 * v18)) + 4) : Int).toNat).drop (w64 (4 * v18) : Int).toNat).length cc27), (18, .int .i64 a1), (19, .int .i64 v18)]) (by kernel_rfl) ?_ rfl
   clear hs; intro a hs
   refine go_end (by kernel_rfl) ?_
   refine hK24 _ _ ?_
   refine t2_region [(0, true), (1, true), (2, true), (3, false), (4, true), (5, true), (6, true), (7, false), (8, true), (9, true), (10, true), (11, true), (12, true), (13, false), (14, true), (15, true), (16, true), (17, true), (18, true), (19, false), (20, true), (21, true), (22, true)] [23, 24, 25] [] (by kernel_rfl) (by kernel_rfl) (fun c a d v w h => by cases d <;> exact h) ?_
   refine t_pvs [0, 1] [(2, true), (3, false), (4, true), (5, true), (6, true), (7, false), (8, true), (9, true), (10, true), (11, true), (12, true), (13, false), (14, true), (15, true), (16, true), (17, true), (18, true), (19, false), (20, true), (21, true), (22, true)] [0, 8, 18, 19, 29, 30] hs (L' := [(0, .slice A0 l0.length c0), (8, .slice Aa26 ((l0.take (w64 ((w64 (4 * v18)) + 4) : Int).toNat).drop (w64 (4 * v18) : Int).toNat).length cc27), (18, .int .i64 a1), (19, .int .i64 v18), (29, .slice Aa16 l15.length cc17), (30, .slice Aa26 ((l0.take (w64 ((w64 (4 * v18)) + 4) : Int).toNat).drop (w64 (4 * v18) : Int).toNat).length cc27)]) (by kernel_rfl) ?_ (by kernel_rfl)
   clear hs; intro a hs
   obtain ⟨hp31, H⟩ := ite_only H
   obtain ⟨ad32, rfl⟩ := (hc29 _ (hr0.old hw)).some hp31.1 hp31.2
   refine t_run hs (op := (Op.indexAddr 22 (Operand.tmp 30) (Operand.const (Value.int IntKind.i64 0)))) (ty := 0) (dst := some 31) (g := none) (by kernel_rfl) (by kernel_rfl) (by kernel_rfl) (fun wx => (x_idx (T := 5) (sz := 1) (a := ad32) (n := ((l0.take (w64 ((w64 (4 * v18)) + 4) : Int).toNat).drop (w64 (4 * v18) : Int).toNat).length) (cap := cc27) (k := .i64) (i := (0 : Int)) (by kernel_rfl) (by kernel_rfl) (by kernel_rfl) (by kernel_rfl) hp31.1 hp31.2)) [0, 8, 18, 19, 29, 31] (L' := [(0, .slice A0 l0.length c0), (8, .slice (some ad32) ((l0.take (w64 ((w64 (4 * v18)) + 4) : Int).toNat).drop (w64 (4 * v18) : Int).toNat).length cc27), (18, .int .i64 a1), (19, .int .i64 v18), (29, .slice Aa16 l15.length cc17), (31, .pointer (some (ad32.add (((0 : Int) : Int).toNat * 1))))]) (by kernel_rfl) ?_
   clear hs; intro a hs
   refine t_rd hs (op := (Op.load 5 (Operand.tmp 31))) (ty := 5) (dst := some 32) (g := none) (by kernel_rfl) (by kernel_rfl) (by kernel_rfl) (fun wx hbx => (x_ld (E := (eI .u8)) (off := 0) (p := ad32.add (((0 : Int) : Int).toNat * 1)) (v := .int .u8 (ix (eI .u8).d ((l0.take (w64 ((w64 (4 * v18)) + 4) : Int).toNat).drop (w64 (4 * v18) : Int).toNat) (0 : Int))) ((hc29 _ (hr0.old hw)).below hbx) hp31.1 hp31.2 (by kernel_rfl) rfl (by kernel_rfl) (by kernel_rfl))) [0, 8, 18, 19, 29, 32] (L' := [(0, .slice A0 l0.length c0), (8, .slice (some ad32) ((l0.take (w64 ((w64 (4 * v18)) + 4) : Int).toNat).drop (w64 (4 * v18) : Int).toNat).length cc27), (18, .int .i64 a1), (19, .int .i64 v18), (29, .slice Aa16 l15.length cc17), (32, .int .u8 (ix (eI .u8).d ((l0.take (w64 ((w64 (4 * v18)) + 4) : Int).toNat).drop (w64 (4 * v18) : Int).toNat) (0 : Int)))]) (by kernel_rfl) ?_
   clear hs; intro a hs
   refine t_pvs [4, 5] [(6, true), (7, false), (8, true), (9, true), (10, true), (11, true), (12, true), (13, false), (14, true), (15, true), (16, true), (17, true), (18, true), (19, false), (20, true), (21, true), (22, true)] [0, 8, 18, 19, 29, 33, 34] hs (L' := [(0, .slice A0 l0.length c0), (8, .slice (some ad32) ((l0.take (w64 ((w64 (4 * v18)) + 4) : Int).toNat).drop (w64 (4 * v18) : Int).toNat).length cc27), (18, .int .i64 a1), (19, .int .i64 v18), (29, .slice Aa16 l15.length cc17), (33, .int .u32 (wu32 (ix (eI .u8).d ((l0.take (w64 ((w64 (4 * v18)) + 4) : Int).toNat).drop (w64 (4 * v18) : Int).toNat) (0 : Int)))), (34, .slice (some ad32) ((l0.take (w64 ((w64 (4 * v18)) + 4) : Int).toNat).drop (w64 (4 * v18) : Int).toNat).length cc27)]) (by kernel_rfl) ?_ (by kernel_rfl)
   clear hs; intro a hs
   obtain ⟨hp33, H⟩ := ite_only H
   refine t_run hs (op := (Op.indexAddr 22 (Operand.tmp 34) (Operand.const (Value.int IntKind.i64 1)))) (ty := 0) (dst := some 35) (g := none) (by kernel_rfl) (by kernel_rfl) (by kernel_rfl) (fun wx => (x_idx (T := 5) (sz := 1) (a := ad32) (n := ((l0.take (w64 ((w64 (4 * v18)) + 4) : Int).toNat).drop (w64 (4 * v18) : Int).toNat).length) (cap := cc27) (k := .i64) (i := (1 : Int)) (by kernel_rfl) (by kernel_rfl) (by kernel_rfl) (by kernel_rfl) hp33.1 hp33.2)) [0, 8, 18, 19, 29, 33, 35] (L' := [(0, .slice A0 l0.length c0), (8, .slice (some ad32) ((l0.take (w64 ((w64 (4 * v18)) + 4) : Int).toNat).drop (w64 (4 * v18) : Int).toNat).length cc27), (18, .int .i64 a1), (19, .int .i64 v18), (29, .slice Aa16 l15.length cc17), (33, .int .u32 (wu32 (ix (eI .u8).d ((l0.take (w64 ((w64 (4 * v18)) + 4) : Int).toNat).drop (w64 (4 * v18) : Int).toNat) (0 : Int)))), (35, .pointer (some (ad32.add (((1 : Int) : Int).toNat * 1))))]) (by kernel_rfl) ?_
   clear hs; intro a hs
   refine t_rd hs (op := (Op.load 5 (Operand.tmp 35))) (ty := 5) (dst := some 36) (g := none) (by kernel_rfl) (by kernel_rfl) (by kernel_rfl) (fun wx hbx => (x_ld (E := (eI .u8)) (off := 0) (p := ad32.add (((1 : Int) : Int).toNat * 1)) (v := .int .u8 (ix (eI .u8).d ((l0.take (w64 ((w64 (4 * v18)) + 4) : Int).toNat).drop (w64 (4 * v18) : Int).toNat) (1 : Int))) ((hc29 _ (hr0.old hw)).below hbx) hp33.1 hp33.2 (by kernel_rfl) rfl (by kernel_rfl) (by kernel_rfl))) [0, 8, 18, 19, 29, 33, 36] (L' := [(0, .slice A0 l0.length c0), (8, .slice (some ad32) ((l0.take (w64 ((w64 (4 * v18)) + 4) : Int).toNat).drop (w64 (4 * v18) : Int).toNat).length cc27), (18, .int .i64 a1), (19, .int .i64 v18), (29, .slice Aa16 l15.length cc17), (33, .int .u32 (wu32 (ix (eI .u8).d ((l0.take (w64 ((w64 (4 * v18)) + 4) : Int).toNat).drop (w64 (4 * v18) : Int).toNat) (0 : Int)))), (36, .int .u8 (ix (eI .u8).d ((l0.take (w64 ((w64 (4 * v18)) + 4) : Int).toNat).drop (w64 (4 * v18) : Int).toNat) (1 : Int)))]) (by kernel_rfl) ?_
   clear hs; intro a hs
   refine t_pvs [8, 9, 10, 11] [(12, true), (13, false), (14, true), (15, true), (16, true), (17, true), (18, true), (19, false), (20, true), (21, true), (22, true)] [0, 8, 18, 19, 29, 39, 40] hs (L' := [(0, .slice A0 l0.length c0), (8, .slice (some ad32) ((l0.take (w64 ((w64 (4 * v18)) + 4) : Int).toNat).drop (w64 (4 * v18) : Int).toNat).length cc27), (18, .int .i64 a1), (19, .int .i64 v18), (29, .slice Aa16 l15.length cc17), (39, .int .u32 (bor .u32 (wu32 (ix (eI .u8).d ((l0.take (w64 ((w64 (4 * v18)) + 4) : Int).toNat).drop (w64 (4 * v18) : Int).toNat) (0 : Int))) (wu32 ((wu32 (ix (eI .u8).d ((l0.take (w64 ((w64 (4 * v18)) + 4) : Int).toNat).drop (w64 (4 * v18) : Int).toNat) (1 : Int))) * 2 ^ 8)))), (40, .slice (some ad32) ((l0.take (w64 ((w64 (4 * v18)) + 4) : Int).toNat).drop (w64 (4 * v18) : Int).toNat).length cc27)]) (by kernel_rfl) ?_ (by kernel_rfl)
   clear hs; intro a hs
   obtain ⟨hp34, H⟩ := ite_only H
   refine t_run hs (op := (Op.indexAddr 22 (Operand.tmp 40) (Operand.const (Value.int IntKind.i64 2)))) (ty := 0) (dst := some 41) (g := none) (by kernel_rfl) (by kernel_rfl) (by kernel_rfl) (fun wx => (x_idx (T := 5) (sz := 1) (a := ad32) (n := ((l0.take (w64 ((w64 (4 * v18)) + 4) : Int).toNat).drop (w64 (4 * v18) : Int).toNat).length) (cap := cc27) (k := .i64) (i := (2 : Int)) (by kernel_rfl) (by kernel_rfl) (by kernel_rfl) (by kernel_rfl) hp34.1 hp34.2)) [0, 8, 18, 19, 29, 39, 41] (L' := [(0, .slice A0 l0.length c0), (8, .slice (some ad32) ((l0.take (w64 ((w64 (4 * v18)) + 4) : Int).toNat).drop (w64 (4 * v18) : Int).toNat).length cc27), (18, .int .i64 a1), (19, .int .i64 v18), (29, .slice Aa16 l15.length cc17), (39, .int .u32 (bor .u32 (wu32 (ix (eI .u8).d ((l0.take (w64 ((w64 (4 * v18)) + 4) : Int).toNat).drop (w64 (4 * v18) : Int).toNat) (0 : Int))) (wu32 ((wu32 (ix (eI .u8).d ((l0.take (w64 ((w64 (4 * v18)) + 4) : Int).toNat).drop (w64 (4 * v18) : Int).toNat) (1 : Int))) * 2 ^ 8)))), (41, .pointer (some (ad32.add (((2 : Int) : Int).toNat * 1))))]) (by kernel_rfl) ?_
   clear hs; intro a hs
   refine t_rd hs (op := (Op.load 5 (Operand.tmp 41))) (ty := 5) (dst := some 42) (g := none) (by kernel_rfl) (by kernel_rfl) (by kernel_rfl) (fun wx hbx => (x_ld (E := (eI .u8)) (off := 0) (p := ad32.add (((2 : Int) : Int).toNat * 1)) (v := .int .u8 (ix (eI .u8).d ((l0.take (w64 ((w64 (4 * v18)) + 4) : Int).toNat).drop (w64 (4 * v18) : Int).toNat) (2 : Int))) ((hc29 _ (hr0.old hw)).below hbx) hp34.1 hp34.2 (by kernel_rfl) rfl (by kernel_rfl) (by kernel_rfl))) [0, 8, 18, 19, 29, 39, 42] (L' := [(0, .slice A0 l0.length c0), (8, .slice (some ad32) ((l0.take (w64 ((w64 (4 * v18)) + 4) : Int).toNat).drop (w64 (4 * v18) : Int).toNat).length cc27), (18, .int .i64 a1), (19, .int .i64 v18), (29, .slice Aa16 l15.length cc17), (39, .int .u32 (bor .u32 (wu32 (ix (eI .u8).d ((l0.take (w64 ((w64 (4 * v18)) + 4) : Int).toNat).drop (w64 (4 * v18) : Int).toNat) (0 : Int))) (wu32 ((wu32 (ix (eI .u8).d ((l0.take (w64 ((w64 (4 * v18)) + 4) : Int).toNat).drop (w64 (4 * v18) : Int).toNat) (1 : Int))) * 2 ^ 8)))), (42, .int .u8 (ix (eI .u8).d ((l0.take (w64 ((w64 (4 * v18)) + 4) : Int).toNat).drop (w64 (4 * v18) : Int).toNat) (2 : Int)))]) (by kernel_rfl) ?_
   clear hs; intro a hs
   refine t_pvs [14, 15, 16, 17] [(18, true), (19, false), (20, true), (21, true), (22, true)] [0, 18, 19, 29, 45, 46] hs (L' := [(0, .slice A0 l0.length c0), (18, .int .i64 a1), (19, .int .i64 v18), (29, .slice Aa16 l15.length cc17), (45, .int .u32 (bor .u32 (bor .u32 (wu32 (ix (eI .u8).d ((l0.take (w64 ((w64 (4 * v18)) + 4) : Int).toNat).drop (w64 (4 * v18) : Int).toNat) (0 : Int))) (wu32 ((wu32 (ix (eI .u8).d ((l0.take (w64 ((w64 (4 * v18)) + 4) : Int).toNat).drop (w64 (4 * v18) : Int).toNat) (1 : Int))) * 2 ^ 8))) (wu32 ((wu32 (ix (eI .u8).d ((l0.take (w64 ((w64 (4 * v18)) + 4) : Int).toNat).drop (w64 (4 * v18) : Int).toNat) (2 : Int))) * 2 ^ 16)))), (46, .slice (some ad32) ((l0.take (w64 ((w64 (4 * v18)) + 4) : Int).toNat).drop (w64 (4 * v18) : Int).toNat).length cc27)]) (by kernel_rfl) ?_ (by kernel_rfl)
   clear hs; intro a hs
   obtain ⟨hp35, H⟩ := ite_only H
   refine t_run hs (op := (Op.indexAddr 22 (Operand.tmp 46) (Operand.const (Value.int IntKind.i64 3)))) (ty := 0) (dst := some 47) (g := none) (by kernel_rfl) (by kernel_rfl) (by kernel_rfl) (fun wx => (x_idx (T := 5) (sz := 1) (a := ad32) (n := ((l0.take (w64 ((w64 (4 * v18)) + 4) : Int).toNat).drop (w64 (4 * v18) : Int).toNat).length) (cap := cc27) (k := .i64) (i := (3 : Int)) (by kernel_rfl) (by kernel_rfl) (by kernel_rfl) (by kernel_rfl) hp35.1 hp35.2)) [0, 18, 19, 29, 45, 47] (L' := [(0, .slice A0 l0.length c0), (18, .int .i64 a1), (19, .int .i64 v18), (29, .slice Aa16 l15.length cc17), (45, .int .u32 (bor .u32 (bor .u32 (wu32 (ix (eI .u8).d ((l0.take (w64 ((w64 (4 * v18)) + 4) : Int).toNat).drop (w64 (4 * v18) : Int).toNat) (0 : Int))) (wu32 ((wu32 (ix (eI .u8).d ((l0.take (w64 ((w64 (4 * v18)) + 4) : Int).toNat).drop (w64 (4 * v18) : Int).toNat) (1 : Int))) * 2 ^ 8))) (wu32 ((wu32 (ix (eI .u8).d ((l0.take (w64 ((w64 (4 * v18)) + 4) : Int).toNat).drop (w64 (4 * v18) : Int).toNat) (2 : Int))) * 2 ^ 16)))), (47, .pointer (some (ad32.add (((3 : Int) : Int).toNat * 1))))]) (by kernel_rfl) ?_
   clear hs; intro a hs
   refine t_rd hs (op := (Op.load 5 (Operand.tmp 47))) (ty := 5) (dst := some 48) (g := none) (by kernel_rfl) (by kernel_rfl) (by kernel_rfl) (fun wx hbx => (x_ld (E := (eI .u8)) (off := 0) (p := ad32.add (((3 : Int) : Int).toNat * 1)) (v := .int .u8 (ix (eI .u8).d ((l0.take (w64 ((w64 (4 * v18)) + 4) : Int).toNat).drop (w64 (4 * v18) : Int).toNat) (3 : Int))) ((hc29 _ (hr0.old hw)).below hbx) hp35.1 hp35.2 (by kernel_rfl) rfl (by kernel_rfl) (by kernel_rfl))) [0, 18, 19, 29, 45, 48] (L' := [(0, .slice A0 l0.length c0), (18, .int .i64 a1), (19, .int .i64 v18), (29, .slice Aa16 l15.length cc17), (45, .int .u32 (bor .u32 (bor .u32 (wu32 (ix (eI .u8).d ((l0.take (w64 ((w64 (4 * v18)) + 4) : Int).toNat).drop (w64 (4 * v18) : Int).toNat) (0 : Int))) (wu32 ((wu32 (ix (eI .u8).d ((l0.take (w64 ((w64 (4 * v18)) + 4) : Int).toNat).drop (w64 (4 * v18) : Int).toNat) (1 : Int))) * 2 ^ 8))) (wu32 ((wu32 (ix (eI .u8).d ((l0.take (w64 ((w64 (4 * v18)) + 4) : Int).toNat).drop (w64 (4 * v18) : Int).toNat) (2 : Int))) * 2 ^ 16)))), (48, .int .u8 (ix (eI .u8).d ((l0.take (w64 ((w64 (4 * v18)) + 4) : Int).toNat).drop (w64 (4 * v18) : Int).toNat) (3 : Int)))]) (by kernel_rfl) ?_
   clear hs; intro a hs
   refine t_pvs [20, 21, 22] [] [0, 18, 19, 29, 51] hs (L' := [(0, .slice A0 l0.length c0), (18, .int .i64 a1), (19, .int .i64 v18), (29, .slice Aa16 l15.length cc17), (51, .int .u32 (bor .u32 (bor .u32 (bor .u32 (wu32 (ix (eI .u8).d ((l0.take (w64 ((w64 (4 * v18)) + 4) : Int).toNat).drop (w64 (4 * v18) : Int).toNat) (0 : Int))) (wu32 ((wu32 (ix (eI .u8).d ((l0.take (w64 ((w64 (4 * v18)) + 4) : Int).toNat).drop (w64 (4 * v18) : Int).toNat) (1 : Int))) * 2 ^ 8))) (wu32 ((wu32 (ix (eI .u8).d ((l0.take (w64 ((w64 (4 * v18)) + 4) : Int).toNat).drop (w64 (4 * v18) : Int).toNat) (2 : Int))) * 2 ^ 16))) (wu32 ((wu32 (ix (eI .u8).d ((l0.take (w64 ((w64 (4 * v18)) + 4) : Int).toNat).drop (w64 (4 * v18) : Int).toNat) (3 : Int))) * 2 ^ 24))))]) (by kernel_rfl) ?_ (by kernel_rfl)
   clear hs; intro a hs
   refine t_end ?_
   intro wq hbq
   replace hw := hw.behind hbq
   obtain ⟨Aa36, cc37, wd38, hx39, hw⟩ := n_lit (P := Tryd.prog) (t := 32) (ty := 32) (T := 43) (len := 1) (parts := #[(0, (Operand.tmp 51))]) (z := .int .u32 0) (bytes := 4) (cells := #[.int .u32 (bor .u32 (bor .u32 (bor .u32 (wu32 (ix (eI .u8).d ((l0.take (w64 ((w64 (4 * v18)) + 4) : Int).toNat).drop (w64 (4 * v18) : Int).toNat) (0 : Int))) (wu32 ((wu32 (ix (eI .u8).d ((l0.take (w64 ((w64 (4 * v18)) + 4) : Int).toNat).drop (w64 (4 * v18) : Int).toNat) (1 : Int))) * 2 ^ 8))) (wu32 ((wu32 (ix (eI .u8).d ((l0.take (w64 ((w64 (4 * v18)) + 4) : Int).toNat).drop (w64 (4 * v18) : Int).toNat) (2 : Int))) * 2 ^ 16))) (wu32 ((wu32 (ix (eI .u8).d ((l0.take (w64 ((w64 (4 * v18)) + 4) : Int).toNat).drop (w64 (4 * v18) : Int).toNat) (3 : Int))) * 2 ^ 24)))]) hs hw (eI .u32) ([bor .u32 (bor .u32 (bor .u32 (wu32 (ix (eI .u8).d ((l0.take (w64 ((w64 (4 * v18)) + 4) : Int).toNat).drop (w64 (4 * v18) : Int).toNat) (0 : Int))) (wu32 ((wu32 (ix (eI .u8).d ((l0.take (w64 ((w64 (4 * v18)) + 4) : Int).toNat).drop (w64 (4 * v18) : Int).toNat) (1 : Int))) * 2 ^ 8))) (wu32 ((wu32 (ix (eI .u8).d ((l0.take (w64 ((w64 (4 * v18)) + 4) : Int).toNat).drop (w64 (4 * v18) : Int).toNat) (2 : Int))) * 2 ^ 16))) (wu32 ((wu32 (ix (eI .u8).d ((l0.take (w64 ((w64 (4 * v18)) + 4) : Int).toNat).drop (w64 (4 * v18) : Int).toNat) (3 : Int))) * 2 ^ 24))] : List Int) (by kernel_rfl) (by kernel_rfl) (by kernel_rfl) (by kernel_rfl) (by kernel_rfl) (by kernel_rfl) (by kernel_rfl)
   refine p_run hs (op := (Op.buildSlice 32 1 #[(0, (Operand.tmp 51))])) (ty := 32) (dst := some 52) (g := none) (by kernel_rfl) (by kernel_rfl) (by kernel_rfl) hx39 [0, 18, 19, 29, 52] (L' := [(0, .slice A0 l0.length c0), (18, .int .i64 a1), (19, .int .i64 v18), (29, .slice Aa16 l15.length cc17), (52, .slice Aa36 ([bor .u32 (bor .u32 (bor .u32 (wu32 (ix (eI .u8).d ((l0.take (w64 ((w64 (4 * v18)) + 4) : Int).toNat).drop (w64 (4 * v18) : Int).toNat) (0 : Int))) (wu32 ((wu32 (ix (eI .u8).d ((l0.take (w64 ((w64 (4 * v18)) + 4) : Int).toNat).drop (w64 (4 * v18) : Int).toNat) (1 : Int))) * 2 ^ 8))) (wu32 ((wu32 (ix (eI .u8).d ((l0.take (w64 ((w64 (4 * v18)) + 4) : Int).toNat).drop (w64 (4 * v18) : Int).toNat) (2 : Int))) * 2 ^ 16))) (wu32 ((wu32 (ix (eI .u8).d ((l0.take (w64 ((w64 (4 * v18)) + 4) : Int).toNat).drop (w64 (4 * v18) : Int).toNat) (3 : Int))) * 2 ^ 24))] : List Int).length cc37)]) (by kernel_rfl) ?_
   clear hs; intro a hs
   obtain ⟨hp41, H⟩ := ite_only H
   have hsrc46 : Src Tryd.prog (eI .u32).sz 32 (.slice Aa36 ([bor .u32 (bor .u32 (bor .u32 (wu32 (ix (eI .u8).d ((l0.take (w64 ((w64 (4 * v18)) + 4) : Int).toNat).drop (w64 (4 * v18) : Int).toNat) (0 : Int))) (wu32 ((wu32 (ix (eI .u8).d ((l0.take (w64 ((w64 (4 * v18)) + 4) : Int).toNat).drop (w64 (4 * v18) : Int).toNat) (1 : Int))) * 2 ^ 8))) (wu32 ((wu32 (ix (eI .u8).d ((l0.take (w64 ((w64 (4 * v18)) + 4) : Int).toNat).drop (w64 (4 * v18) : Int).toNat) (2 : Int))) * 2 ^ 16))) (wu32 ((wu32 (ix (eI .u8).d ((l0.take (w64 ((w64 (4 * v18)) + 4) : Int).toNat).drop (w64 (4 * v18) : Int).toNat) (3 : Int))) * 2 ^ 24))] : List Int).length cc37) ([bor .u32 (bor .u32 (bor .u32 (wu32 (ix (eI .u8).d ((l0.take (w64 ((w64 (4 * v18)) + 4) : Int).toNat).drop (w64 (4 * v18) : Int).toNat) (0 : Int))) (wu32 ((wu32 (ix (eI .u8).d ((l0.take (w64 ((w64 (4 * v18)) + 4) : Int).toNat).drop (w64 (4 * v18) : Int).toNat) (1 : Int))) * 2 ^ 8))) (wu32 ((wu32 (ix (eI .u8).d ((l0.take (w64 ((w64 (4 * v18)) + 4) : Int).toNat).drop (w64 (4 * v18) : Int).toNat) (2 : Int))) * 2 ^ 16))) (wu32 ((wu32 (ix (eI .u8).d ((l0.take (w64 ((w64 (4 * v18)) + 4) : Int).toNat).drop (w64 (4 * v18) : Int).toNat) (3 : Int))) * 2 ^ 24))] : List Int).length (([bor .u32 (bor .u32 (bor .u32 (wu32 (ix (eI .u8).d ((l0.take (w64 ((w64 (4 * v18)) + 4) : Int).toNat).drop (w64 (4 * v18) : Int).toNat) (0 : Int))) (wu32 ((wu32 (ix (eI .u8).d ((l0.take (w64 ((w64 (4 * v18)) + 4) : Int).toNat).drop (w64 (4 * v18) : Int).toNat) (1 : Int))) * 2 ^ 8))) (wu32 ((wu32 (ix (eI .u8).d ((l0.take (w64 ((w64 (4 * v18)) + 4) : Int).toNat).drop (w64 (4 * v18) : Int).toNat) (2 : Int))) * 2 ^ 16))) (wu32 ((wu32 (ix (eI .u8).d ((l0.take (w64 ((w64 (4 * v18)) + 4) : Int).toNat).drop (w64 (4 * v18) : Int).toNat) (3 : Int))) * 2 ^ 24))] : List Int).flatMap (eI .u32).enc) _ := (Src.of_rd (E := (eI .u32)) (e' := 43) (by kernel_rfl) (Rd.of_own (hw.up 0)))
   replace hw := hw.up 1
   obtain ⟨Aa42, cc43, wd44, hx45, hw⟩ := x_append (P := Tryd.prog) (t := 32) (tx := 32) (ty := 32) (x := (Operand.tmp 29)) (y := (Operand.tmp 52)) (z := .int .u32 0) (bytes := 4) (l2 := ([bor .u32 (bor .u32 (bor .u32 (wu32 (ix (eI .u8).d ((l0.take (w64 ((w64 (4 * v18)) + 4) : Int).toNat).drop (w64 (4 * v18) : Int).toNat) (0 : Int))) (wu32 ((wu32 (ix (eI .u8).d ((l0.take (w64 ((w64 (4 * v18)) + 4) : Int).toNat).drop (w64 (4 * v18) : Int).toNat) (1 : Int))) * 2 ^ 8))) (wu32 ((wu32 (ix (eI .u8).d ((l0.take (w64 ((w64 (4 * v18)) + 4) : Int).toNat).drop (w64 (4 * v18) : Int).toNat) (2 : Int))) * 2 ^ 16))) (wu32 ((wu32 (ix (eI .u8).d ((l0.take (w64 ((w64 (4 * v18)) + 4) : Int).toNat).drop (w64 (4 * v18) : Int).toNat) (3 : Int))) * 2 ^ 24))] : List Int)) hs hw (by kernel_rfl) (by kernel_rfl) (by kernel_rfl) (by kernel_rfl) (by kernel_rfl) hsrc46 (by omega) (by omega)
   refine p_run hs (op := (Op.call { callee := (Callee.builtin Builtin.append), args := #[(Operand.tmp 29), (Operand.tmp 52)], argTypes := #[32, 32] })) (ty := 32) (dst := some 53) (g := none) (by kernel_rfl) (by kernel_rfl) (by kernel_rfl) hx45 [0, 18, 19, 53] (L' := [(0, .slice A0 l0.length c0), (18, .int .i64 a1), (19, .int .i64 v18), (53, .slice Aa42 (l15 ++ ([bor .u32 (bor .u32 (bor .u32 (wu32 (ix (eI .u8).d ((l0.take (w64 ((w64 (4 * v18)) + 4) : Int).toNat).drop (w64 (4 * v18) : Int).toNat) (0 : Int))) (wu32 ((wu32 (ix (eI .u8).d ((l0.take (w64 ((w64 (4 * v18)) + 4) : Int).toNat).drop (w64 (4 * v18) : Int).toNat) (1 : Int))) * 2 ^ 8))) (wu32 ((wu32 (ix (eI .u8).d ((l0.take (w64 ((w64 (4 * v18)) + 4) : Int).toNat).drop (w64 (4 * v18) : Int).toNat) (2 : Int))) * 2 ^ 16))) (wu32 ((wu32 (ix (eI .u8).d ((l0.take (w64 ((w64 (4 * v18)) + 4) : Int).toNat).drop (w64 (4 * v18) : Int).toNat) (3 : Int))) * 2 ^ 24))] : List Int)).length cc43)]) (by kernel_rfl) ?_
   clear hs; intro a hs
   refine p_pvs [25] [] [0, 6, 18, 19] hs (L' := [(0, .slice A0 l0.length c0), (6, .slice Aa42 (l15 ++ ([bor .u32 (bor .u32 (bor .u32 (wu32 (ix (eI .u8).d ((l0.take (w64 ((w64 (4 * v18)) + 4) : Int).toNat).drop (w64 (4 * v18) : Int).toNat) (0 : Int))) (wu32 ((wu32 (ix (eI .u8).d ((l0.take (w64 ((w64 (4 * v18)) + 4) : Int).toNat).drop (w64 (4 * v18) : Int).toNat) (1 : Int))) * 2 ^ 8))) (wu32 ((wu32 (ix (eI .u8).d ((l0.take (w64 ((w64 (4 * v18)) + 4) : Int).toNat).drop (w64 (4 * v18) : Int).toNat) (2 : Int))) * 2 ^ 16))) (wu32 ((wu32 (ix (eI .u8).d ((l0.take (w64 ((w64 (4 * v18)) + 4) : Int).toNat).drop (w64 (4 * v18) : Int).toNat) (3 : Int))) * 2 ^ 24))] : List Int)).length cc43), (18, .int .i64 a1), (19, .int .i64 v18)]) (by kernel_rfl) ?_
   clear hs; intro a hs
   refine p_last ?_
   refine e_end ?_
   refine ib_norm ?_
   refine hK22 _ _ ?_
   refine go_region ?_
   refine go_pvs 0 2 [0, 6, 18, 19] hs (L' := [(0, .slice A0 l0.length c0), (6, .slice Aa42 (l15 ++ ([bor .u32 (bor .u32 (bor .u32 (wu32 (ix (eI .u8).d ((l0.take (w64 ((w64 (4 * v18)) + 4) : Int).toNat).drop (w64 (4 * v18) : Int).toNat) (0 : Int))) (wu32 ((wu32 (ix (eI .u8).d ((l0.take (w64 ((w64 (4 * v18)) + 4) : Int).toNat).drop (w64 (4 * v18) : Int).toNat) (1 : Int))) * 2 ^ 8))) (wu32 ((wu32 (ix (eI .u8).d ((l0.take (w64 ((w64 (4 * v18)) + 4) : Int).toNat).drop (w64 (4 * v18) : Int).toNat) (2 : Int))) * 2 ^ 16))) (wu32 ((wu32 (ix (eI .u8).d ((l0.take (w64 ((w64 (4 * v18)) + 4) : Int).toNat).drop (w64 (4 * v18) : Int).toNat) (3 : Int))) * 2 ^ 24))] : List Int)).length cc43), (18, .int .i64 a1), (19, .int .i64 (w64 (v18 + 1)))]) (by kernel_rfl) ?_ rfl
   clear hs; intro a hs
   refine go_end (by kernel_rfl) ?_
   replace hw := hw.only 1
   exact round_end (l15 ++ ([bor .u32 (bor .u32 (bor .u32 (wu32 (ix (eI .u8).d ((l0.take (w64 ((w64 (4 * v18)) + 4) : Int).toNat).drop (w64 (4 * v18) : Int).toNat) (0 : Int))) (wu32 ((wu32 (ix (eI .u8).d ((l0.take (w64 ((w64 (4 * v18)) + 4) : Int).toNat).drop (w64 (4 * v18) : Int).toNat) (1 : Int))) * 2 ^ 8))) (wu32 ((wu32 (ix (eI .u8).d ((l0.take (w64 ((w64 (4 * v18)) + 4) : Int).toNat).drop (w64 (4 * v18) : Int).toNat) (2 : Int))) * 2 ^ 16))) (wu32 ((wu32 (ix (eI .u8).d ((l0.take (w64 ((w64 (4 * v18)) + 4) : Int).toNat).drop (w64 (4 * v18) : Int).toNat) (3 : Int))) * 2 ^ 24))] : List Int), w64 (v18 + 1)) (Option.some.inj H).symm ⟨Aa42, cc43, hs.keep [0, 6, 18, 19] (by kernel_rfl), hw⟩
  ·replace H := ite_f H (of_decide_eq_false hc)
   have hb47 := hc
   rw [hb47] at hs
   refine wp_exit ?_
   refine th_exit ?_
   refine th_exit ?_
   refine in_block ?_
   replace hw := hw.only 1
   rw [← hr14 _ (Option.some.inj H).symm] at HX14
   exact hJ3 Aa16 cc17 l15 _ _ (hs.keep [6] (by kernel_rfl)) hw HX14
 refine go_seq_k fun K3 hK3 => ?_
 have hJ1 : ∀ (v5 : Bool) (a : Act) (w : World), Slots a 56 [(0, .slice A0 l0.length c0), (1, .int .i64 a1), (17, .bool v5)] → St [] w0 w [] → le_Take.j1 a1 l0 v5 = some r → K3 a w := by
  intro v5 a w hs hw H
  unfold le_Take.j1 at H
  refine hK3 _ _ ?_
  refine go_cond hs v5 (by kernel_rfl) (fun hc => ?_) (fun hc => ?_)
  ·replace H := ite_t H hc
   have hb6 := hc
   rw [hb6] at hs
   refine go_seq_k fun K7 hK7 => ?_
   refine go_region ?_
   refine go_pvs 0 2 [4, 5] hs (L' := [(4, .slice none 0 0), (5, .int .i64 3)]) (by kernel_rfl) ?_ rfl
   clear hs; intro a hs
   refine go_end (by kernel_rfl) ?_
   refine hK7 _ _ ?_
   refine wp_ret ?_
   refine th_ret ?_
   obtain rfl := Option.some.inj H
   replace hw := St.own_nil hw 43 (eI .u32)
   refine ret2 (t1 := 4) (v1 := .slice none 0 0) (t2 := 5) (v2 := .int .i64 3) hs (by kernel_rfl) (by kernel_rfl) (by kernel_rfl) ?_
   exact ⟨none, 0, rfl, hw.only 1⟩
  ·replace H := ite_f H (ff hc)
   have hb9 := hc
   rw [hb9] at hs
   refine wp_skip ?_
   replace hw := hw.only 0
   exact hJ2 _ _ (hs.keep [0, 1] (by kernel_rfl)) hw H
 refine go_region ?_
 refine go_pvs 0 3 [0, 1, 11] hs (L' := [(0, .slice A0 l0.length c0), (1, .int .i64 a1), (11, .bool (decide (a1 < 0)))]) (by kernel_rfl) ?_ rfl
 clear hs; intro a hs
 cases hb4 : (decide (a1 < 0))
 ·replace H := ite_f H (of_decide_eq_false hb4)
  rw [hb4] at hs
  refine go_pvs 3 9 [0, 1, 17] hs (L' := [(0, .slice A0 l0.length c0), (1, .int .i64 a1), (17, .bool (decide ((w64 ((l0.length : Int).tdiv 4)) < a1)))]) (by kernel_rfl) ?_ rfl
  clear hs; intro a hs
  refine go_end (by kernel_rfl) ?_
  replace hw := hw.only 0
  exact hJ1 (decide ((w64 ((l0.length : Int).tdiv 4)) < a1)) _ _ (hs.keep [0, 1, 17] (by kernel_rfl)) hw H
 ·replace H := ite_t H (of_decide_eq_true hb4)
  rw [hb4] at hs
  refine go_pvs 3 9 [0, 1, 17] hs (L' := [(0, .slice A0 l0.length c0), (1, .int .i64 a1), (17, .bool true)]) (by kernel_rfl) ?_ rfl
  clear hs; intro a hs
  refine go_end (by kernel_rfl) ?_
  replace hw := hw.only 0
  exact hJ1 true _ _ (hs.keep [0, 1, 17] (by kernel_rfl)) hw H

/-! rivet/rivetref07.Take: function 17 -/
noncomputable def rivetref07_Take.b30 (v22 : Int) (l0 : List Int) (v31 : Int) (v32 : Int) : Option (Int × Int ⊕ Int) := (if v32 ≥ 0 then (if 0 ≤ (w64 ((w64 (4 * v22)) + v32)) ∧ (w64 ((w64 (4 * v22)) + v32)) < (l0.length : Int) then (nm (wu32 ((wu32 (v31 * 256)) + (wu32 (ix (eI .u8).d l0 (w64 ((w64 (4 * v22)) + v32)))))) fun y39 => some (.inl (y39, w64 (v32 - 1)))) else none) else some (.inr v31))
noncomputable def rivetref07_Take.j3 (l19 : List Int) (v22 : Int) (v41 : Int) : Option ((List Int) × Int ⊕ (List Int)) := (if l19.length + ([v41] : List Int).length ≤ 35184372088832 then some (.inl (l19 ++ ([v41] : List Int), w64 (v22 + 1))) else none)
noncomputable def rivetref07_Take.b18 (a1 : Int) (l0 : List Int) (l19 : List Int) (v22 : Int) : Option ((List Int) × Int ⊕ (List Int)) := (if v22 < a1 then ((loopO (fun (σ : Int × Int) => rivetref07_Take.b30 v22 l0 σ.1 σ.2) (0, 3)).bind fun e => rivetref07_Take.j3 l19 v22 e) else some (.inr l19))
noncomputable def rivetref07_Take.j4 (l54 : List Int) : Option ((List Int) × Int) := some (l54, 0)
noncomputable def rivetref07_Take.j2 (a1 : Int) (l0 : List Int) : Option ((List Int) × Int) := ((loopO (fun (σ : (List Int) × Int) => rivetref07_Take.b18 a1 l0 σ.1 σ.2) (([] : List Int), 0)).bind fun e => rivetref07_Take.j4 e)
noncomputable def rivetref07_Take.j1 (a1 : Int) (l0 : List Int) (v5 : Bool) : Option ((List Int) × Int) := (if v5 = true then some (([] : List Int), 3) else rivetref07_Take.j2 a1 l0)
noncomputable def rivetref07_Take (l0 : List Int) (a1 : Int) : Option ((List Int) × Int) := (if a1 < 0 then rivetref07_Take.j1 a1 l0 true else rivetref07_Take.j1 a1 l0 (decide ((w64 ((l0.length : Int).tdiv 4)) < a1)))
set_option maxRecDepth 100000 in
set_option maxHeartbeats 4000000 in
theorem rivetref07_Take.calls (A0 : Option Addr) (c0 : Nat) (l0 : List Int) (a1 : Int) (r : (List Int) × Int) (w0 : World) (hr0 : Rd w0 (eI .u8) A0 c0 l0) (H : rivetref07_Take l0 a1 = some r) :
    Calls Tryd.prog 17 #[.slice A0 l0.length c0, .int .i64 a1] w0 fun e w' => ∃ A_0 c_0, e = .returned (.tuple #[.slice A_0 r.1.length c_0, .int .i64 r.2]) ∧ St [] w0 w' [own 43 (eI .u32) A_0 c_0 r.1] := by
 have hw : St [] w0 w0 [] := St.nil w0
 unfold rivetref07_Take at H
 refine go_fn Tryd.func17 rfl 45 Tryd.ntmps17 [(0, .slice A0 l0.length c0), (1, .int .i64 a1)] (by kernel_rfl) rfl ?_
 intro a hs
 refine go_seq_k fun K1 hK1 => ?_
 refine go_region ?_
 refine go_pvs 0 2 [0, 1] hs (L' := [(0, .slice A0 l0.length c0), (1, .int .i64 a1)]) (by kernel_rfl) ?_ rfl
 clear hs; intro a hs
 refine go_end (by kernel_rfl) ?_
 refine hK1 _ _ ?_
 refine go_seq_k fun K2 hK2 => ?_
 have hJ2 : ∀ (a : Act) (w : World), Slots a 45 [(0, .slice A0 l0.length c0), (1, .int .i64 a1)] → St [] w0 w [] → rivetref07_Take.j2 a1 l0 = some r → K2 a w := by
  intro a w hs hw H
  unfold rivetref07_Take.j2 at H
  refine hK2 _ _ ?_
  refine go_seq_k fun K10 hK10 => ?_
  refine go_region ?_
  obtain ⟨Aa11, cc12, wd13, hx14, hw⟩ := n_lit0 (P := Tryd.prog) (t := 32) (ty := 32) (T := 43) hs hw (eI .u32) (by kernel_rfl) (by kernel_rfl)
  refine go_run hs (op := (Op.buildSlice 32 0 #[])) (ty := 32) (dst := some 19) (g := none) (by kernel_rfl) (by kernel_rfl) (by kernel_rfl) hx14 [0, 1, 19] (L' := [(0, .slice A0 l0.length c0), (1, .int .i64 a1), (19, .slice Aa11 ([] : List Int).length cc12)]) (by kernel_rfl) ?_
  clear hs; intro a hs
  refine go_pvs 1 2 [0, 1, 6] hs (L' := [(0, .slice A0 l0.length c0), (1, .int .i64 a1), (6, .slice Aa11 ([] : List Int).length cc12)]) (by kernel_rfl) ?_ rfl
  clear hs; intro a hs
  refine go_end (by kernel_rfl) ?_
  refine hK10 _ _ ?_
  refine go_seq_k fun K16 hK16 => ?_
  refine go_seq_k fun K17 hK17 => ?_
  refine go_region ?_
  refine go_pvs 0 1 [0, 1, 6, 7] hs (L' := [(0, .slice A0 l0.length c0), (1, .int .i64 a1), (6, .slice Aa11 ([] : List Int).length cc12), (7, .int .i64 0)]) (by kernel_rfl) ?_ rfl
  clear hs; intro a hs
  refine go_end (by kernel_rfl) ?_
  refine hK17 _ _ ?_
  refine wp_block ?_
  obtain ⟨e18, hl18, HX18⟩ := bind_some H
  have hJ4 : ∀ (Aa55 : Option Addr) (cc56 : Nat) (l54 : List Int) (a : Act) (w : World), Slots a 45 [(6, .slice Aa55 l54.length cc56)] → St [] w0 w [own 43 (eI .u32) Aa55 cc56 l54] → rivetref07_Take.j4 l54 = some r → K16 a w := by
   intro Aa55 cc56 l54 a w hs hw H
   unfold rivetref07_Take.j4 at H
   refine hK16 _ _ ?_
   refine go_seq_k fun K57 hK57 => ?_
   refine go_region ?_
   refine go_pvs 0 3 [4, 5] hs (L' := [(4, .slice Aa55 l54.length cc56), (5, .int .i64 0)]) (by kernel_rfl) ?_ rfl
   clear hs; intro a hs
   refine go_end (by kernel_rfl) ?_
   refine hK57 _ _ ?_
   refine wp_ret ?_
   obtain rfl := Option.some.inj H
   refine ret2 (t1 := 4) (v1 := .slice Aa55 l54.length cc56) (t2 := 5) (v2 := .int .i64 0) hs (by kernel_rfl) (by kernel_rfl) (by kernel_rfl) ?_
   exact ⟨Aa55, cc56, rfl, hw.only 1⟩
  clear H
  refine go_loop (σ := (List Int) × Int) (fun σ a w => ∃ Aa20, ∃ cc21, Slots a 45 [(0, .slice A0 l0.length c0), (1, .int .i64 a1), (6, .slice Aa20 σ.1.length cc21), (7, .int .i64 σ.2)] ∧ St [] w0 w [own 43 (eI .u32) Aa20 cc21 σ.1]) hl18 (by exact ⟨Aa11, cc12, hs.keep [0, 1, 6, 7] (by kernel_rfl), hw⟩) ?_
  rintro ⟨l19, v22⟩ a w ⟨Aa20, cc21, hs, hw⟩ o H hr18
  replace hs : Slots a 45 [(0, .slice A0 l0.length c0), (1, .int .i64 a1), (6, .slice Aa20 l19.length cc21), (7, .int .i64 v22)] := hs
  replace hw : St [] w0 w [own 43 (eI .u32) Aa20 cc21 l19] := hw
  replace H : rivetref07_Take.b18 a1 l0 l19 v22 = some o := H
  unfold rivetref07_Take.b18 at H
  refine go_seq_k fun K23 hK23 => ?_
  refine go_seq_k fun K24 hK24 => ?_
  refine go_region ?_
  refine go_pvs 0 3 [0, 1, 6, 7, 22] hs (L' := [(0, .slice A0 l0.length c0), (1, .int .i64 a1), (6, .slice Aa20 l19.length cc21), (7, .int .i64 v22), (22, .bool (decide (v22 < a1)))]) (by kernel_rfl) ?_ rfl
  clear hs; intro a hs
  refine go_end (by kernel_rfl) ?_
  refine hK24 _ _ ?_
  refine go_cond hs (decide (v22 < a1)) (by kernel_rfl) (fun hc => ?_) (fun hc => ?_)
  ·replace H := ite_t H (of_decide_eq_true hc)
   have hb25 := hc
   rw [hb25] at hs
   refine wp_skip ?_
   refine hK23 _ _ ?_
   refine go_seq_k fun K26 hK26 => ?_
   refine wp_block ?_
   refine go_seq_k fun K27 hK27 => ?_
   refine go_region ?_
   refine go_pvs 0 1 [0, 1, 6, 7, 8] hs (L' := [(0, .slice A0 l0.length c0), (1, .int .i64 a1), (6, .slice Aa20 l19.length cc21), (7, .int .i64 v22), (8, .int .u32 0)]) (by kernel_rfl) ?_ rfl
   clear hs; intro a hs
   refine go_end (by kernel_rfl) ?_
   refine hK27 _ _ ?_
   refine go_seq_k fun K28 hK28 => ?_
   refine go_seq_k fun K29 hK29 => ?_
   refine go_region ?_
   refine go_pvs 0 1 [0, 1, 6, 7, 8, 9] hs (L' := [(0, .slice A0 l0.length c0), (1, .int .i64 a1), (6, .slice Aa20 l19.length cc21), (7, .int .i64 v22), (8, .int .u32 0), (9, .int .i64 3)]) (by kernel_rfl) ?_ rfl
   clear hs; intro a hs
   refine go_end (by kernel_rfl) ?_
   refine hK29 _ _ ?_
   refine wp_block ?_
   obtain ⟨e30, hl30, HX30⟩ := bind_some H
   have hJ3 : ∀ (v41 : Int) (a : Act) (w : World), Slots a 45 [(0, .slice A0 l0.length c0), (1, .int .i64 a1), (6, .slice Aa20 l19.length cc21), (7, .int .i64 v22), (8, .int .u32 v41)] → St [] w0 w [own 43 (eI .u32) Aa20 cc21 l19] → rivetref07_Take.j3 l19 v22 v41 = some o → K28 a w := by
    intro v41 a w hs hw H
    unfold rivetref07_Take.j3 at H
    refine hK28 _ _ ?_
    refine go_region ?_
    refine go_pvs 0 2 [0, 1, 7, 40, 41] hs (L' := [(0, .slice A0 l0.length c0), (1, .int .i64 a1), (7, .int .i64 v22), (40, .slice Aa20 l19.length cc21), (41, .int .u32 v41)]) (by kernel_rfl) ?_ rfl
    clear hs; intro a hs
    obtain ⟨Aa42, cc43, wd44, hx45, hw⟩ := n_lit (P := Tryd.prog) (t := 32) (ty := 32) (T := 43) (len := 1) (parts := #[(0, (Operand.tmp 41))]) (z := .int .u32 0) (bytes := 4) (cells := #[.int .u32 v41]) hs hw (eI .u32) ([v41] : List Int) (by kernel_rfl) (by kernel_rfl) (by kernel_rfl) (by kernel_rfl) (by kernel_rfl) (by kernel_rfl) (by kernel_rfl)
    refine go_run hs (op := (Op.buildSlice 32 1 #[(0, (Operand.tmp 41))])) (ty := 32) (dst := some 42) (g := none) (by kernel_rfl) (by kernel_rfl) (by kernel_rfl) hx45 [0, 1, 7, 40, 42] (L' := [(0, .slice A0 l0.length c0), (1, .int .i64 a1), (7, .int .i64 v22), (40, .slice Aa20 l19.length cc21), (42, .slice Aa42 ([v41] : List Int).length cc43)]) (by kernel_rfl) ?_
    clear hs; intro a hs
    obtain ⟨hp47, H⟩ := ite_only H
    have hsrc52 : Src Tryd.prog (eI .u32).sz 32 (.slice Aa42 ([v41] : List Int).length cc43) ([v41] : List Int).length (([v41] : List Int).flatMap (eI .u32).enc) _ := (Src.of_rd (E := (eI .u32)) (e' := 43) (by kernel_rfl) (Rd.of_own (hw.up 0)))
    replace hw := hw.up 1
    obtain ⟨Aa48, cc49, wd50, hx51, hw⟩ := x_append (P := Tryd.prog) (t := 32) (tx := 32) (ty := 32) (x := (Operand.tmp 40)) (y := (Operand.tmp 42)) (z := .int .u32 0) (bytes := 4) (l2 := ([v41] : List Int)) hs hw (by kernel_rfl) (by kernel_rfl) (by kernel_rfl) (by kernel_rfl) (by kernel_rfl) hsrc52 (by omega) (by omega)
    refine go_run hs (op := (Op.call { callee := (Callee.builtin Builtin.append), args := #[(Operand.tmp 40), (Operand.tmp 42)], argTypes := #[32, 32] })) (ty := 32) (dst := some 43) (g := none) (by kernel_rfl) (by kernel_rfl) (by kernel_rfl) hx51 [0, 1, 7, 43] (L' := [(0, .slice A0 l0.length c0), (1, .int .i64 a1), (7, .int .i64 v22), (43, .slice Aa48 (l19 ++ ([v41] : List Int)).length cc49)]) (by kernel_rfl) ?_
    clear hs; intro a hs
    refine go_pvs 4 5 [0, 1, 6, 7] hs (L' := [(0, .slice A0 l0.length c0), (1, .int .i64 a1), (6, .slice Aa48 (l19 ++ ([v41] : List Int)).length cc49), (7, .int .i64 v22)]) (by kernel_rfl) ?_ rfl
    clear hs; intro a hs
    refine go_end (by kernel_rfl) ?_
    refine ib_norm ?_
    refine hK26 _ _ ?_
    refine go_region ?_
    refine go_pvs 0 3 [0, 1, 6, 7] hs (L' := [(0, .slice A0 l0.length c0), (1, .int .i64 a1), (6, .slice Aa48 (l19 ++ ([v41] : List Int)).length cc49), (7, .int .i64 (w64 (v22 + 1)))]) (by kernel_rfl) ?_ rfl
    clear hs; intro a hs
    refine go_end (by kernel_rfl) ?_
    replace hw := hw.only 1
    exact round_end (l19 ++ ([v41] : List Int), w64 (v22 + 1)) (Option.some.inj H).symm ⟨Aa48, cc49, hs.keep [0, 1, 6, 7] (by kernel_rfl), hw⟩
   clear H
   refine go_loop (σ := Int × Int) (fun σ a w => Slots a 45 [(0, .slice A0 l0.length c0), (1, .int .i64 a1), (6, .slice Aa20 l19.length cc21), (7, .int .i64 v22), (8, .int .u32 σ.1), (9, .int .i64 σ.2)] ∧ St [] w0 w [own 43 (eI .u32) Aa20 cc21 l19]) hl30 (by exact ⟨hs.keep [0, 1, 6, 7, 8, 9] (by kernel_rfl), hw⟩) ?_
   rintro ⟨v31, v32⟩ a w ⟨hs, hw⟩ o H hr30
   replace hs : Slots a 45 [(0, .slice A0 l0.length c0), (1, .int .i64 a1), (6, .slice Aa20 l19.length cc21), (7, .int .i64 v22), (8, .int .u32 v31), (9, .int .i64 v32)] := hs
   replace hw : St [] w0 w [own 43 (eI .u32) Aa20 cc21 l19] := hw
   replace H : rivetref07_Take.b30 v22 l0 v31 v32 = some o := H
   unfold rivetref07_Take.b30 at H
   refine go_seq_k fun K33 hK33 => ?_
   refine go_seq_k fun K34 hK34 => ?_
   refine go_region ?_
   refine go_pvs 0 2 [0, 1, 6, 7, 8, 9, 26] hs (L' := [(0, .slice A0 l0.length c0), (1, .int .i64 a1), (6, .slice Aa20 l19.length cc21), (7, .int .i64 v22), (8, .int .u32 v31), (9, .int .i64 v32), (26, .bool (decide (v32 ≥ 0)))]) (by kernel_rfl) ?_ rfl
   clear hs; intro a hs
   refine go_end (by kernel_rfl) ?_
   refine hK34 _ _ ?_
   refine go_cond hs (decide (v32 ≥ 0)) (by kernel_rfl) (fun hc => ?_) (fun hc => ?_)
   ·replace H := ite_t H (of_decide_eq_true hc)
    have hb35 := hc
    rw [hb35] at hs
    refine wp_skip ?_
    refine hK33 _ _ ?_
    refine go_seq_k fun K36 hK36 => ?_
    refine wp_block ?_
    refine go_region ?_
    refine go_pvs 0 7 [0, 1, 6, 7, 9, 30, 31, 35] hs (L' := [(0, .slice A0 l0.length c0), (1, .int .i64 a1), (6, .slice Aa20 l19.length cc21), (7, .int .i64 v22), (9, .int .i64 v32), (30, .int .u32 (wu32 (v31 * 256))), (31, .slice A0 l0.length c0), (35, .int .i64 (w64 ((w64 (4 * v22)) + v32)))]) (by kernel_rfl) ?_ rfl
    clear hs; intro a hs
    obtain ⟨hp37, H⟩ := ite_only H
    obtain ⟨ad38, rfl⟩ := (hr0.old hw).some hp37.1 hp37.2
    refine go_run hs (op := (Op.indexAddr 22 (Operand.tmp 31) (Operand.tmp 35))) (ty := 0) (dst := some 36) (g := none) (by kernel_rfl) (by kernel_rfl) (by kernel_rfl) (x_idx (T := 5) (sz := 1) (a := ad38) (n := l0.length) (cap := c0) (k := .i64) (i := (w64 ((w64 (4 * v22)) + v32))) (by kernel_rfl) (by kernel_rfl) (by kernel_rfl) (by kernel_rfl) hp37.1 hp37.2) [0, 1, 6, 7, 9, 30, 36] (L' := [(0, .slice (some ad38) l0.length c0), (1, .int .i64 a1), (6, .slice Aa20 l19.length cc21), (7, .int .i64 v22), (9, .int .i64 v32), (30, .int .u32 (wu32 (v31 * 256))), (36, .pointer (some (ad38.add ((w64 ((w64 (4 * v22)) + v32)).toNat * 1))))]) (by kernel_rfl) ?_
    clear hs; intro a hs
    refine go_run hs (op := (Op.load 5 (Operand.tmp 36))) (ty := 5) (dst := some 37) (g := none) (by kernel_rfl) (by kernel_rfl) (by kernel_rfl) (x_ld (E := (eI .u8)) (off := 0) (p := ad38.add ((w64 ((w64 (4 * v22)) + v32)).toNat * 1)) (v := .int .u8 (ix (eI .u8).d l0 (w64 ((w64 (4 * v22)) + v32)))) (hr0.old hw) hp37.1 hp37.2 (by kernel_rfl) rfl (by kernel_rfl) (by kernel_rfl)) [0, 1, 6, 7, 9, 30, 37] (L' := [(0, .slice (some ad38) l0.length c0), (1, .int .i64 a1), (6, .slice Aa20 l19.length cc21), (7, .int .i64 v22), (9, .int .i64 v32), (30, .int .u32 (wu32 (v31 * 256))), (37, .int .u8 (ix (eI .u8).d l0 (w64 ((w64 (4 * v22)) + v32))))]) (by kernel_rfl) ?_
    clear hs; intro a hs
    refine go_pvs 9 12 [0, 1, 6, 7, 8, 9] hs (L' := [(0, .slice (some ad38) l0.length c0), (1, .int .i64 a1), (6, .slice Aa20 l19.length cc21), (7, .int .i64 v22), (8, .int .u32 (wu32 ((wu32 (v31 * 256)) + (wu32 (ix (eI .u8).d l0 (w64 ((w64 (4 * v22)) + v32))))))), (9, .int .i64 v32)]) (by kernel_rfl) ?_ rfl
    clear hs; intro a hs
    obtain ⟨y39, hy39, H⟩ := nm_some H
    replace hs : Slots a 45 [(0, .slice (some ad38) l0.length c0), (1, .int .i64 a1), (6, .slice Aa20 l19.length cc21), (7, .int .i64 v22), (8, .int .u32 y39), (9, .int .i64 v32)] := by rw [hy39]; exact hs
    refine go_end (by kernel_rfl) ?_
    refine ib_norm ?_
    refine hK36 _ _ ?_
    refine go_region ?_
    refine go_pvs 0 3 [0, 1, 6, 7, 8, 9] hs (L' := [(0, .slice (some ad38) l0.length c0), (1, .int .i64 a1), (6, .slice Aa20 l19.length cc21), (7, .int .i64 v22), (8, .int .u32 y39), (9, .int .i64 (w64 (v32 - 1)))]) (by kernel_rfl) ?_ rfl
    clear hs; intro a hs
    refine go_end (by kernel_rfl) ?_
    replace hw := hw.only 1
    exact round_end (y39, w64 (v32 - 1)) (Option.some.inj H).symm ⟨hs.keep [0, 1, 6, 7, 8, 9] (by kernel_rfl), hw⟩
   ·replace H := ite_f H (of_decide_eq_false hc)
    have hb40 := hc
    rw [hb40] at hs
    refine wp_exit ?_
    refine th_exit ?_
    refine th_exit ?_
    refine in_block ?_
    replace hw := hw.only 1
    rw [← hr30 _ (Option.some.inj H).symm] at HX30
    exact hJ3 v31 _ _ (hs.keep [0, 1, 6, 7, 8] (by kernel_rfl)) hw HX30
  ·replace H := ite_f H (of_decide_eq_false hc)
   have hb53 := hc
   rw [hb53] at hs
   refine wp_exit ?_
   refine th_exit ?_
   refine th_exit ?_
   refine in_block ?_
   replace hw := hw.only 1
   rw [← hr18 _ (Option.some.inj H).symm] at HX18
   exact hJ4 Aa20 cc21 l19 _ _ (hs.keep [6] (by kernel_rfl)) hw HX18
 refine go_seq_k fun K3 hK3 => ?_
 have hJ1 : ∀ (v5 : Bool) (a : Act) (w : World), Slots a 45 [(0, .slice A0 l0.length c0), (1, .int .i64 a1), (18, .bool v5)] → St [] w0 w [] → rivetref07_Take.j1 a1 l0 v5 = some r → K3 a w := by
  intro v5 a w hs hw H
  unfold rivetref07_Take.j1 at H
  refine hK3 _ _ ?_
  refine go_cond hs v5 (by kernel_rfl) (fun hc => ?_) (fun hc => ?_)
  ·replace H := ite_t H hc
   have hb6 := hc
   rw [hb6] at hs
   refine go_seq_k fun K7 hK7 => ?_
   refine go_region ?_
   refine go_pvs 0 2 [4, 5] hs (L' := [(4, .slice none 0 0), (5, .int .i64 3)]) (by kernel_rfl) ?_ rfl
   clear hs; intro a hs
   refine go_end (by kernel_rfl) ?_
   refine hK7 _ _ ?_
   refine wp_ret ?_
   refine th_ret ?_
   obtain rfl := Option.some.inj H
   replace hw := St.own_nil hw 43 (eI .u32)
   refine ret2 (t1 := 4) (v1 := .slice none 0 0) (t2 := 5) (v2 := .int .i64 3) hs (by kernel_rfl) (by kernel_rfl) (by kernel_rfl) ?_
   exact ⟨none, 0, rfl, hw.only 1⟩
  ·replace H := ite_f H (ff hc)
   have hb9 := hc
   rw [hb9] at hs
   refine wp_skip ?_
   replace hw := hw.only 0
   exact hJ2 _ _ (hs.keep [0, 1] (by kernel_rfl)) hw H
 refine go_region ?_
 refine go_pvs 0 3 [0, 1, 12] hs (L' := [(0, .slice A0 l0.length c0), (1, .int .i64 a1), (12, .bool (decide (a1 < 0)))]) (by kernel_rfl) ?_ rfl
 clear hs; intro a hs
 cases hb4 : (decide (a1 < 0))
 ·replace H := ite_f H (of_decide_eq_false hb4)
  rw [hb4] at hs
  refine go_pvs 3 9 [0, 1, 18] hs (L' := [(0, .slice A0 l0.length c0), (1, .int .i64 a1), (18, .bool (decide ((w64 ((l0.length : Int).tdiv 4)) < a1)))]) (by kernel_rfl) ?_ rfl
  clear hs; intro a hs
  refine go_end (by kernel_rfl) ?_
  replace hw := hw.only 0
  exact hJ1 (decide ((w64 ((l0.length : Int).tdiv 4)) < a1)) _ _ (hs.keep [0, 1, 18] (by kernel_rfl)) hw H
 ·replace H := ite_t H (of_decide_eq_true hb4)
  rw [hb4] at hs
  refine go_pvs 3 9 [0, 1, 18] hs (L' := [(0, .slice A0 l0.length c0), (1, .int .i64 a1), (18, .bool true)]) (by kernel_rfl) ?_ rfl
  clear hs; intro a hs
  refine go_end (by kernel_rfl) ?_
  replace hw := hw.only 0
  exact hJ1 true _ _ (hs.keep [0, 1, 18] (by kernel_rfl)) hw H

/-! rivet/le.Put: function 19 -/
noncomputable def le_Put.j1 (l30 : List Int) : Option (List Int) := some l30
noncomputable def le_Put.b6 (l0 : List Int) (l7 : List Int) (v10 : Int) : Option ((List Int) × Int ⊕ (List Int)) := (if v10 < (l0.length : Int) then (if 0 ≤ v10 ∧ v10 < (l0.length : Int) then (if l7.length + ([wu8 (ix (eI .u32).d l0 v10), wu8 ((ix (eI .u32).d l0 v10).fdiv (2 ^ 8)), wu8 ((ix (eI .u32).d l0 v10).fdiv (2 ^ 16)), wu8 ((ix (eI .u32).d l0 v10).fdiv (2 ^ 24))] : List Int).length ≤ 140737488355328 then some (.inl (l7 ++ ([wu8 (ix (eI .u32).d l0 v10), wu8 ((ix (eI .u32).d l0 v10).fdiv (2 ^ 8)), wu8 ((ix (eI .u32).d l0 v10).fdiv (2 ^ 16)), wu8 ((ix (eI .u32).d l0 v10).fdiv (2 ^ 24))] : List Int), w64 (v10 + 1))) else none) else none) else some (.inr l7))
noncomputable def le_Put (l0 : List Int) : Option (List Int) := ((loopO (fun (σ : (List Int) × Int) => le_Put.b6 l0 σ.1 σ.2) (([] : List Int), 0)).bind fun e => le_Put.j1 e)
set_option maxRecDepth 100000 in
set_option maxHeartbeats 4000000 in
theorem le_Put.calls (A0 : Option Addr) (c0 : Nat) (l0 : List Int) (r : (List Int)) (w0 : World) (hr0 : Rd w0 (eI .u32) A0 c0 l0) (H : le_Put l0 = some r) :
    Calls Tryd.prog 19 #[.slice A0 l0.length c0] w0 fun e w' => ∃ A_0 c_0, e = .returned (.slice A_0 r.length c_0) ∧ St [] w0 w' [own 5 (eI .u8) A_0 c_0 r] := by
 have hw : St [] w0 w0 [] := St.nil w0
 unfold le_Put at H
 refine go_fn Tryd.func19 rfl 28 Tryd.ntmps19 [(0, .slice A0 l0.length c0)] (by kernel_rfl) rfl ?_
 intro a hs
 refine go_seq_k fun K1 hK1 => ?_
 refine go_region ?_
 refine go_pvs 0 1 [0] hs (L' := [(0, .slice A0 l0.length c0)]) (by kernel_rfl) ?_ rfl
 clear hs; intro a hs
 refine go_end (by kernel_rfl) ?_
 refine hK1 _ _ ?_
 refine go_seq_k fun K2 hK2 => ?_
 refine go_region ?_
 refine go_pvs 0 1 [0, 3] hs (L' := [(0, .slice A0 l0.length c0), (3, .slice none 0 0)]) (by kernel_rfl) ?_ rfl
 clear hs; intro a hs
 refine go_end (by kernel_rfl) ?_
 refine hK2 _ _ ?_
 refine go_seq_k fun K3 hK3 => ?_
 refine go_seq_k fun K4 hK4 => ?_
 refine go_region ?_
 refine go_pvs 0 3 [3, 6, 7, 8] hs (L' := [(3, .slice none 0 0), (6, .slice A0 l0.length c0), (7, .int .i64 (l0.length : Int)), (8, .int .i64 0)]) (by kernel_rfl) ?_ rfl
 clear hs; intro a hs
 refine go_end (by kernel_rfl) ?_
 refine hK4 _ _ ?_
 refine wp_block ?_
 replace hw := St.own_nil hw 5 (eI .u8)
 obtain ⟨e6, hl6, HX6⟩ := bind_some H
 have hJ1 : ∀ (Aa31 : Option Addr) (cc32 : Nat) (l30 : List Int) (a : Act) (w : World), Slots a 28 [(3, .slice Aa31 l30.length cc32)] → St [] w0 w [own 5 (eI .u8) Aa31 cc32 l30] → le_Put.j1 l30 = some r → K3 a w := by
  intro Aa31 cc32 l30 a w hs hw H
  unfold le_Put.j1 at H
  refine hK3 _ _ ?_
  refine go_seq_k fun K33 hK33 => ?_
  refine go_region ?_
  refine go_pvs 0 2 [2] hs (L' := [(2, .slice Aa31 l30.length cc32)]) (by kernel_rfl) ?_ rfl
  clear hs; intro a hs
  refine go_end (by kernel_rfl) ?_
  refine hK33 _ _ ?_
  refine wp_ret ?_
  obtain rfl := Option.some.inj H
  refine ret1 (t := 2) (v := .slice Aa31 l30.length cc32) hs (by kernel_rfl) (by kernel_rfl) ?_
  exact ⟨Aa31, cc32, rfl, hw.only 1⟩
 clear H
 refine go_loop (σ := (List Int) × Int) (fun σ a w => ∃ Aa8, ∃ cc9, Slots a 28 [(3, .slice Aa8 σ.1.length cc9), (6, .slice A0 l0.length c0), (7, .int .i64 (l0.length : Int)), (8, .int .i64 σ.2)] ∧ St [] w0 w [own 5 (eI .u8) Aa8 cc9 σ.1]) hl6 (by exact ⟨none, 0, hs.keep [3, 6, 7, 8] (by kernel_rfl), hw⟩) ?_
 rintro ⟨l7, v10⟩ a w ⟨Aa8, cc9, hs, hw⟩ o H hr6
 replace hs : Slots a 28 [(3, .slice Aa8 l7.length cc9), (6, .slice A0 l0.length c0), (7, .int .i64 (l0.length : Int)), (8, .int .i64 v10)] := hs
 replace hw : St [] w0 w [own 5 (eI .u8) Aa8 cc9 l7] := hw
 replace H : le_Put.b6 l0 l7 v10 = some o := H
 unfold le_Put.b6 at H
 refine go_seq_k fun K11 hK11 => ?_
 refine go_region ?_
 refine go_pvs 0 1 [3, 6, 7, 8, 9] hs (L' := [(3, .slice Aa8 l7.length cc9), (6, .slice A0 l0.length c0), (7, .int .i64 (l0.length : Int)), (8, .int .i64 v10), (9, .bool (decide (v10 < (l0.length : Int))))]) (by kernel_rfl) ?_ rfl
 clear hs; intro a hs
 refine go_end (by kernel_rfl) ?_
 refine hK11 _ _ ?_
 refine go_seq_k fun K12 hK12 => ?_
 refine go_cond hs (decide (v10 < (l0.length : Int))) (by kernel_rfl) (fun hc => ?_) (fun hc => ?_)
 ·replace H := ite_t H (of_decide_eq_true hc)
  have hb13 := hc
  rw [hb13] at hs
  refine wp_skip ?_
  refine hK12 _ _ ?_
  refine go_seq_k fun K14 hK14 => ?_
  refine wp_block ?_
  refine go_seq_k fun K15 hK15 => ?_
  refine go_region ?_
  obtain ⟨hp16, H⟩ := ite_only H
  obtain ⟨ad17, rfl⟩ := (hr0.old hw).some hp16.1 hp16.2
  refine go_run hs (op := (Op.indexAddr 32 (Operand.tmp 6) (Operand.tmp 8))) (ty := 0) (dst := some 10) (g := none) (by kernel_rfl) (by kernel_rfl) (by kernel_rfl) (x_idx (T := 43) (sz := 1) (a := ad17) (n := l0.length) (cap := c0) (k := .i64) (i := v10) (by kernel_rfl) (by kernel_rfl) (by kernel_rfl) (by kernel_rfl) hp16.1 hp16.2) [3, 6, 7, 8, 10] (L' := [(3, .slice Aa8 l7.length cc9), (6, .slice (some ad17) l0.length c0), (7, .int .i64 (l0.length : Int)), (8, .int .i64 v10), (10, .pointer (some (ad17.add (v10.toNat * 1))))]) (by kernel_rfl) ?_
  clear hs; intro a hs
  refine go_run hs (op := (Op.load 43 (Operand.tmp 10))) (ty := 43) (dst := some 11) (g := none) (by kernel_rfl) (by kernel_rfl) (by kernel_rfl) (x_ld (E := (eI .u32)) (off := 0) (p := ad17.add (v10.toNat * 1)) (v := .int .u32 (ix (eI .u32).d l0 v10)) (hr0.old hw) hp16.1 hp16.2 (by kernel_rfl) rfl (by kernel_rfl) (by kernel_rfl)) [3, 6, 7, 8, 11] (L' := [(3, .slice Aa8 l7.length cc9), (6, .slice (some ad17) l0.length c0), (7, .int .i64 (l0.length : Int)), (8, .int .i64 v10), (11, .int .u32 (ix (eI .u32).d l0 v10))]) (by kernel_rfl) ?_
  clear hs; intro a hs
  refine go_pvs 2 3 [3, 5, 6, 7, 8] hs (L' := [(3, .slice Aa8 l7.length cc9), (5, .int .u32 (ix (eI .u32).d l0 v10)), (6, .slice (some ad17) l0.length c0), (7, .int .i64 (l0.length : Int)), (8, .int .i64 v10)]) (by kernel_rfl) ?_ rfl
  clear hs; intro a hs
  refine go_end (by kernel_rfl) ?_
  refine hK15 _ _ ?_
  refine go_region ?_
  refine go_pvs 0 12 [6, 7, 8, 12, 14, 17, 20, 23] hs (L' := [(6, .slice (some ad17) l0.length c0), (7, .int .i64 (l0.length : Int)), (8, .int .i64 v10), (12, .slice Aa8 l7.length cc9), (14, .int .u8 (wu8 (ix (eI .u32).d l0 v10))), (17, .int .u8 (wu8 ((ix (eI .u32).d l0 v10).fdiv (2 ^ 8)))), (20, .int .u8 (wu8 ((ix (eI .u32).d l0 v10).fdiv (2 ^ 16)))), (23, .int .u8 (wu8 ((ix (eI .u32).d l0 v10).fdiv (2 ^ 24))))]) (by kernel_rfl) ?_ rfl
  clear hs; intro a hs
  obtain ⟨Aa18, cc19, wd20, hx21, hw⟩ := n_lit (P := Tryd.prog) (t := 22) (ty := 22) (T := 5) (len := 4) (parts := #[(0, (Operand.tmp 14)), (1, (Operand.tmp 17)), (2, (Operand.tmp 20)), (3, (Operand.tmp 23))]) (z := .int .u8 0) (bytes := 1) (cells := #[.int .u8 (wu8 (ix (eI .u32).d l0 v10)), .int .u8 (wu8 ((ix (eI .u32).d l0 v10).fdiv (2 ^ 8))), .int .u8 (wu8 ((ix (eI .u32).d l0 v10).fdiv (2 ^ 16))), .int .u8 (wu8 ((ix (eI .u32).d l0 v10).fdiv (2 ^ 24)))]) hs hw (eI .u8) ([wu8 (ix (eI .u32).d l0 v10), wu8 ((ix (eI .u32).d l0 v10).fdiv (2 ^ 8)), wu8 ((ix (eI .u32).d l0 v10).fdiv (2 ^ 16)), wu8 ((ix (eI .u32).d l0 v10).fdiv (2 ^ 24))] : List Int) (by kernel_rfl) (by kernel_rfl) (by kernel_rfl) (by kernel_rfl) (by kernel_rfl) (by kernel_rfl) (by kernel_rfl)
  refine go_run hs (op := (Op.buildSlice 22 4 #[(0, (Operand.tmp 14)), (1, (Operand.tmp 17)), (2, (Operand.tmp 20)), (3, (Operand.tmp 23))])) (ty := 22) (dst := some 24) (g := none) (by kernel_rfl) (by kernel_rfl) (by kernel_rfl) hx21 [6, 7, 8, 12, 24] (L' := [(6, .slice (some ad17) l0.length c0), (7, .int .i64 (l0.length : Int)), (8, .int .i64 v10), (12, .slice Aa8 l7.length cc9), (24, .slice Aa18 ([wu8 (ix (eI .u32).d l0 v10), wu8 ((ix (eI .u32).d l0 v10).fdiv (2 ^ 8)), wu8 ((ix (eI .u32).d l0 v10).fdiv (2 ^ 16)), wu8 ((ix (eI .u32).d l0 v10).fdiv (2 ^ 24))] : List Int).length cc19)]) (by kernel_rfl) ?_
  clear hs; intro a hs
  obtain ⟨hp23, H⟩ := ite_only H
  have hsrc28 : Src Tryd.prog (eI .u8).sz 22 (.slice Aa18 ([wu8 (ix (eI .u32).d l0 v10), wu8 ((ix (eI .u32).d l0 v10).fdiv (2 ^ 8)), wu8 ((ix (eI .u32).d l0 v10).fdiv (2 ^ 16)), wu8 ((ix (eI .u32).d l0 v10).fdiv (2 ^ 24))] : List Int).length cc19) ([wu8 (ix (eI .u32).d l0 v10), wu8 ((ix (eI .u32).d l0 v10).fdiv (2 ^ 8)), wu8 ((ix (eI .u32).d l0 v10).fdiv (2 ^ 16)), wu8 ((ix (eI .u32).d l0 v10).fdiv (2 ^ 24))] : List Int).length (([wu8 (ix (eI .u32).d l0 v10), wu8 ((ix (eI .u32).d l0 v10).fdiv (2 ^ 8)), wu8 ((ix (eI .u32).d l0 v10).fdiv (2 ^ 16)), wu8 ((ix (eI .u32).d l0 v10).fdiv (2 ^ 24))] : List Int).flatMap (eI .u8).enc) _ := (Src.of_rd (E := (eI .u8)) (e' := 5) (by kernel_rfl) (Rd.of_own (hw.up 0)))
  replace hw := hw.up 1
  obtain ⟨Aa24, cc25, wd26, hx27, hw⟩ := x_append (P := Tryd.prog) (t := 22) (tx := 22) (ty := 22) (x := (Operand.tmp 12)) (y := (Operand.tmp 24)) (z := .int .u8 0) (bytes := 1) (l2 := ([wu8 (ix (eI .u32).d l0 v10), wu8 ((ix (eI .u32).d l0 v10).fdiv (2 ^ 8)), wu8 ((ix (eI .u32).d l0 v10).fdiv (2 ^ 16)), wu8 ((ix (eI .u32).d l0 v10).fdiv (2 ^ 24))] : List Int)) hs hw (by kernel_rfl) (by kernel_rfl) (by kernel_rfl) (by kernel_rfl) (by kernel_rfl) hsrc28 (by omega) (by omega)
  refine go_run hs (op := (Op.call { callee := (Callee.builtin Builtin.append), args := #[(Operand.tmp 12), (Operand.tmp 24)], argTypes := #[22, 22] })) (ty := 22) (dst := some 25) (g := none) (by kernel_rfl) (by kernel_rfl) (by kernel_rfl) hx27 [6, 7, 8, 25] (L' := [(6, .slice (some ad17) l0.length c0), (7, .int .i64 (l0.length : Int)), (8, .int .i64 v10), (25, .slice Aa24 (l7 ++ ([wu8 (ix (eI .u32).d l0 v10), wu8 ((ix (eI .u32).d l0 v10).fdiv (2 ^ 8)), wu8 ((ix (eI .u32).d l0 v10).fdiv (2 ^ 16)), wu8 ((ix (eI .u32).d l0 v10).fdiv (2 ^ 24))] : List Int)).length cc25)]) (by kernel_rfl) ?_
  clear hs; intro a hs
  refine go_pvs 14 15 [3, 6, 7, 8] hs (L' := [(3, .slice Aa24 (l7 ++ ([wu8 (ix (eI .u32).d l0 v10), wu8 ((ix (eI .u32).d l0 v10).fdiv (2 ^ 8)), wu8 ((ix (eI .u32).d l0 v10).fdiv (2 ^ 16)), wu8 ((ix (eI .u32).d l0 v10).fdiv (2 ^ 24))] : List Int)).length cc25), (6, .slice (some ad17) l0.length c0), (7, .int .i64 (l0.length : Int)), (8, .int .i64 v10)]) (by kernel_rfl) ?_ rfl
  clear hs; intro a hs
  refine go_end (by kernel_rfl) ?_
  refine ib_norm ?_
  refine hK14 _ _ ?_
  refine go_region ?_
  refine go_pvs 0 2 [3, 6, 7, 8] hs (L' := [(3, .slice Aa24 (l7 ++ ([wu8 (ix (eI .u32).d l0 v10), wu8 ((ix (eI .u32).d l0 v10).fdiv (2 ^ 8)), wu8 ((ix (eI .u32).d l0 v10).fdiv (2 ^ 16)), wu8 ((ix (eI .u32).d l0 v10).fdiv (2 ^ 24))] : List Int)).length cc25), (6, .slice (some ad17) l0.length c0), (7, .int .i64 (l0.length : Int)), (8, .int .i64 (w64 (v10 + 1)))]) (by kernel_rfl) ?_ rfl
  clear hs; intro a hs
  refine go_end (by kernel_rfl) ?_
  replace hw := hw.only 1
  exact round_end (l7 ++ ([wu8 (ix (eI .u32).d l0 v10), wu8 ((ix (eI .u32).d l0 v10).fdiv (2 ^ 8)), wu8 ((ix (eI .u32).d l0 v10).fdiv (2 ^ 16)), wu8 ((ix (eI .u32).d l0 v10).fdiv (2 ^ 24))] : List Int), w64 (v10 + 1)) (Option.some.inj H).symm ⟨Aa24, cc25, hs.keep [3, 6, 7, 8] (by kernel_rfl), hw⟩
 ·replace H := ite_f H (of_decide_eq_false hc)
  have hb29 := hc
  rw [hb29] at hs
  refine wp_exit ?_
  refine th_exit ?_
  refine th_exit ?_
  refine in_block ?_
  replace hw := hw.only 1
  rw [← hr6 _ (Option.some.inj H).symm] at HX6
  exact hJ1 Aa8 cc9 l7 _ _ (hs.keep [3] (by kernel_rfl)) hw HX6

/-! rivet/rivetref07.Put: function 21 -/
noncomputable def rivetref07_Put.j1 (v14 : Int) (l47 : List Int) : Option ((List Int) × Int ⊕ (List Int)) := some (.inl (l47, w64 (v14 + 1)))
noncomputable def rivetref07_Put.b24 (l25 : List Int) (v28 : Int) (v29 : Int) : Option ((List Int) × Int × Int ⊕ (List Int)) := (if v29 < 4 then (if l25.length + ([wu8 (v28.tmod 256)] : List Int).length ≤ 140737488355328 then some (.inl (l25 ++ ([wu8 (v28.tmod 256)] : List Int), wu32 (v28.tdiv 256), w64 (v29 + 1))) else none) else some (.inr l25))
noncomputable def rivetref07_Put.j2 (l51 : List Int) : Option (List Int) := some l51
noncomputable def rivetref07_Put.b10 (l0 : List Int) (l11 : List Int) (v14 : Int) : Option ((List Int) × Int ⊕ (List Int)) := (if v14 < (l0.length : Int) then (if 0 ≤ v14 ∧ v14 < (l0.length : Int) then ((loopO (fun (σ : (List Int) × Int × Int) => rivetref07_Put.b24 σ.1 σ.2.1 σ.2.2) (l11, (ix (eI .u32).d l0 v14), 0)).bind fun e => rivetref07_Put.j1 v14 e) else none) else some (.inr l11))
noncomputable def rivetref07_Put (l0 : List Int) : Option (List Int) := ((loopO (fun (σ : (List Int) × Int) => rivetref07_Put.b10 l0 σ.1 σ.2) (([] : List Int), 0)).bind fun e => rivetref07_Put.j2 e)
set_option maxRecDepth 100000 in
set_option maxHeartbeats 4000000 in
theorem rivetref07_Put.calls (A0 : Option Addr) (c0 : Nat) (l0 : List Int) (r : (List Int)) (w0 : World) (hr0 : Rd w0 (eI .u32) A0 c0 l0) (H : rivetref07_Put l0 = some r) :
    Calls Tryd.prog 21 #[.slice A0 l0.length c0] w0 fun e w' => ∃ A_0 c_0, e = .returned (.slice A_0 r.length c_0) ∧ St [] w0 w' [own 5 (eI .u8) A_0 c_0 r] := by
 have hw : St [] w0 w0 [] := St.nil w0
 unfold rivetref07_Put at H
 refine go_fn Tryd.func21 rfl 31 Tryd.ntmps21 [(0, .slice A0 l0.length c0)] (by kernel_rfl) rfl ?_
 intro a hs
 refine go_seq_k fun K1 hK1 => ?_
 refine go_region ?_
 refine go_pvs 0 1 [0] hs (L' := [(0, .slice A0 l0.length c0)]) (by kernel_rfl) ?_ rfl
 clear hs; intro a hs
 refine go_end (by kernel_rfl) ?_
 refine hK1 _ _ ?_
 refine go_seq_k fun K2 hK2 => ?_
 refine go_region ?_
 obtain ⟨Aa3, cc4, wd5, hx6, hw⟩ := n_lit0 (P := Tryd.prog) (t := 22) (ty := 22) (T := 5) hs hw (eI .u8) (by kernel_rfl) (by kernel_rfl)
 refine go_run hs (op := (Op.buildSlice 22 0 #[])) (ty := 22) (dst := some 7) (g := none) (by kernel_rfl) (by kernel_rfl) (by kernel_rfl) hx6 [0, 7] (L' := [(0, .slice A0 l0.length c0), (7, .slice Aa3 ([] : List Int).length cc4)]) (by kernel_rfl) ?_
 clear hs; intro a hs
 refine go_pvs 1 2 [0, 3] hs (L' := [(0, .slice A0 l0.length c0), (3, .slice Aa3 ([] : List Int).length cc4)]) (by kernel_rfl) ?_ rfl
 clear hs; intro a hs
 refine go_end (by kernel_rfl) ?_
 refine hK2 _ _ ?_
 refine go_seq_k fun K8 hK8 => ?_
 refine go_seq_k fun K9 hK9 => ?_
 refine go_region ?_
 refine go_pvs 0 1 [0, 3, 4] hs (L' := [(0, .slice A0 l0.length c0), (3, .slice Aa3 ([] : List Int).length cc4), (4, .int .i64 0)]) (by kernel_rfl) ?_ rfl
 clear hs; intro a hs
 refine go_end (by kernel_rfl) ?_
 refine hK9 _ _ ?_
 refine wp_block ?_
 obtain ⟨e10, hl10, HX10⟩ := bind_some H
 have hJ2 : ∀ (Aa52 : Option Addr) (cc53 : Nat) (l51 : List Int) (a : Act) (w : World), Slots a 31 [(3, .slice Aa52 l51.length cc53)] → St [] w0 w [own 5 (eI .u8) Aa52 cc53 l51] → rivetref07_Put.j2 l51 = some r → K8 a w := by
  intro Aa52 cc53 l51 a w hs hw H
  unfold rivetref07_Put.j2 at H
  refine hK8 _ _ ?_
  refine go_seq_k fun K54 hK54 => ?_
  refine go_region ?_
  refine go_pvs 0 2 [2] hs (L' := [(2, .slice Aa52 l51.length cc53)]) (by kernel_rfl) ?_ rfl
  clear hs; intro a hs
  refine go_end (by kernel_rfl) ?_
  refine hK54 _ _ ?_
  refine wp_ret ?_
  obtain rfl := Option.some.inj H
  refine ret1 (t := 2) (v := .slice Aa52 l51.length cc53) hs (by kernel_rfl) (by kernel_rfl) ?_
  exact ⟨Aa52, cc53, rfl, hw.only 1⟩
 clear H
 refine go_loop (σ := (List Int) × Int) (fun σ a w => ∃ Aa12, ∃ cc13, Slots a 31 [(0, .slice A0 l0.length c0), (3, .slice Aa12 σ.1.length cc13), (4, .int .i64 σ.2)] ∧ St [] w0 w [own 5 (eI .u8) Aa12 cc13 σ.1]) hl10 (by exact ⟨Aa3, cc4, hs.keep [0, 3, 4] (by kernel_rfl), hw⟩) ?_
 rintro ⟨l11, v14⟩ a w ⟨Aa12, cc13, hs, hw⟩ o H hr10
 replace hs : Slots a 31 [(0, .slice A0 l0.length c0), (3, .slice Aa12 l11.length cc13), (4, .int .i64 v14)] := hs
 replace hw : St [] w0 w [own 5 (eI .u8) Aa12 cc13 l11] := hw
 replace H : rivetref07_Put.b10 l0 l11 v14 = some o := H
 unfold rivetref07_Put.b10 at H
 refine go_seq_k fun K15 hK15 => ?_
 refine go_seq_k fun K16 hK16 => ?_
 refine go_region ?_
 refine go_pvs 0 4 [0, 3, 4, 11] hs (L' := [(0, .slice A0 l0.length c0), (3, .slice Aa12 l11.length cc13), (4, .int .i64 v14), (11, .bool (decide (v14 < (l0.length : Int))))]) (by kernel_rfl) ?_ rfl
 clear hs; intro a hs
 refine go_end (by kernel_rfl) ?_
 refine hK16 _ _ ?_
 refine go_cond hs (decide (v14 < (l0.length : Int))) (by kernel_rfl) (fun hc => ?_) (fun hc => ?_)
 ·replace H := ite_t H (of_decide_eq_true hc)
  have hb17 := hc
  rw [hb17] at hs
  refine wp_skip ?_
  refine hK15 _ _ ?_
  refine go_seq_k fun K18 hK18 => ?_
  refine wp_block ?_
  refine go_seq_k fun K19 hK19 => ?_
  refine go_region ?_
  refine go_pvs 0 2 [0, 3, 4, 14, 15] hs (L' := [(0, .slice A0 l0.length c0), (3, .slice Aa12 l11.length cc13), (4, .int .i64 v14), (14, .slice A0 l0.length c0), (15, .int .i64 v14)]) (by kernel_rfl) ?_ rfl
  clear hs; intro a hs
  obtain ⟨hp20, H⟩ := ite_only H
  obtain ⟨ad21, rfl⟩ := (hr0.old hw).some hp20.1 hp20.2
  refine go_run hs (op := (Op.indexAddr 32 (Operand.tmp 14) (Operand.tmp 15))) (ty := 0) (dst := some 16) (g := none) (by kernel_rfl) (by kernel_rfl) (by kernel_rfl) (x_idx (T := 43) (sz := 1) (a := ad21) (n := l0.length) (cap := c0) (k := .i64) (i := v14) (by kernel_rfl) (by kernel_rfl) (by kernel_rfl) (by kernel_rfl) hp20.1 hp20.2) [0, 3, 4, 16] (L' := [(0, .slice (some ad21) l0.length c0), (3, .slice Aa12 l11.length cc13), (4, .int .i64 v14), (16, .pointer (some (ad21.add (v14.toNat * 1))))]) (by kernel_rfl) ?_
  clear hs; intro a hs
  refine go_run hs (op := (Op.load 43 (Operand.tmp 16))) (ty := 43) (dst := some 17) (g := none) (by kernel_rfl) (by kernel_rfl) (by kernel_rfl) (x_ld (E := (eI .u32)) (off := 0) (p := ad21.add (v14.toNat * 1)) (v := .int .u32 (ix (eI .u32).d l0 v14)) (hr0.old hw) hp20.1 hp20.2 (by kernel_rfl) rfl (by kernel_rfl) (by kernel_rfl)) [0, 3, 4, 17] (L' := [(0, .slice (some ad21) l0.length c0), (3, .slice Aa12 l11.length cc13), (4, .int .i64 v14), (17, .int .u32 (ix (eI .u32).d l0 v14))]) (by kernel_rfl) ?_
  clear hs; intro a hs
  refine go_pvs 4 5 [0, 3, 4, 5] hs (L' := [(0, .slice (some ad21) l0.length c0), (3, .slice Aa12 l11.length cc13), (4, .int .i64 v14), (5, .int .u32 (ix (eI .u32).d l0 v14))]) (by kernel_rfl) ?_ rfl
  clear hs; intro a hs
  refine go_end (by kernel_rfl) ?_
  refine hK19 _ _ ?_
  refine go_seq_k fun K22 hK22 => ?_
  refine go_region ?_
  refine go_pvs 0 1 [0, 3, 4, 5, 6] hs (L' := [(0, .slice (some ad21) l0.length c0), (3, .slice Aa12 l11.length cc13), (4, .int .i64 v14), (5, .int .u32 (ix (eI .u32).d l0 v14)), (6, .int .i64 0)]) (by kernel_rfl) ?_ rfl
  clear hs; intro a hs
  refine go_end (by kernel_rfl) ?_
  refine hK22 _ _ ?_
  refine name_k fun K23 hK23 => ?_
  refine wp_block ?_
  obtain ⟨e24, hl24, HX24⟩ := bind_some H
  have hJ1 : ∀ (Aa48 : Option Addr) (cc49 : Nat) (l47 : List Int) (a : Act) (w : World), Slots a 31 [(0, .slice (some ad21) l0.length c0), (3, .slice Aa48 l47.length cc49), (4, .int .i64 v14)] → St [] w0 w [own 5 (eI .u8) Aa48 cc49 l47] → rivetref07_Put.j1 v14 l47 = some o → K23 a w := by
   intro Aa48 cc49 l47 a w hs hw H
   unfold rivetref07_Put.j1 at H
   refine hK23 _ _ ?_
   refine ib_norm ?_
   refine hK18 _ _ ?_
   refine go_region ?_
   refine go_pvs 0 3 [0, 3, 4] hs (L' := [(0, .slice (some ad21) l0.length c0), (3, .slice Aa48 l47.length cc49), (4, .int .i64 (w64 (v14 + 1)))]) (by kernel_rfl) ?_ rfl
   clear hs; intro a hs
   refine go_end (by kernel_rfl) ?_
   replace hw := hw.only 1
   exact round_end (l47, w64 (v14 + 1)) (Option.some.inj H).symm ⟨Aa48, cc49, hs.keep [0, 3, 4] (by kernel_rfl), hw⟩
  clear H
  refine go_loop (σ := (List Int) × Int × Int) (fun σ a w => ∃ Aa26, ∃ cc27, Slots a 31 [(0, .slice (some ad21) l0.length c0), (3, .slice Aa26 σ.1.length cc27), (4, .int .i64 v14), (5, .int .u32 σ.2.1), (6, .int .i64 σ.2.2)] ∧ St [] w0 w [own 5 (eI .u8) Aa26 cc27 σ.1]) hl24 (by exact ⟨Aa12, cc13, hs.keep [0, 3, 4, 5, 6] (by kernel_rfl), hw⟩) ?_
  rintro ⟨l25, v28, v29⟩ a w ⟨Aa26, cc27, hs, hw⟩ o H hr24
  replace hs : Slots a 31 [(0, .slice (some ad21) l0.length c0), (3, .slice Aa26 l25.length cc27), (4, .int .i64 v14), (5, .int .u32 v28), (6, .int .i64 v29)] := hs
  replace hw : St [] w0 w [own 5 (eI .u8) Aa26 cc27 l25] := hw
  replace H : rivetref07_Put.b24 l25 v28 v29 = some o := H
  unfold rivetref07_Put.b24 at H
  refine go_seq_k fun K30 hK30 => ?_
  refine go_seq_k fun K31 hK31 => ?_
  refine go_region ?_
  refine go_pvs 0 2 [0, 3, 4, 5, 6, 19] hs (L' := [(0, .slice (some ad21) l0.length c0), (3, .slice Aa26 l25.length cc27), (4, .int .i64 v14), (5, .int .u32 v28), (6, .int .i64 v29), (19, .bool (decide (v29 < 4)))]) (by kernel_rfl) ?_ rfl
  clear hs; intro a hs
  refine go_end (by kernel_rfl) ?_
  refine hK31 _ _ ?_
  refine go_cond hs (decide (v29 < 4)) (by kernel_rfl) (fun hc => ?_) (fun hc => ?_)
  ·replace H := ite_t H (of_decide_eq_true hc)
   have hb32 := hc
   rw [hb32] at hs
   refine wp_skip ?_
   refine hK30 _ _ ?_
   refine go_seq_k fun K33 hK33 => ?_
   refine wp_block ?_
   refine go_seq_k fun K34 hK34 => ?_
   refine go_region ?_
   refine go_pvs 0 4 [0, 4, 5, 6, 22, 25] hs (L' := [(0, .slice (some ad21) l0.length c0), (4, .int .i64 v14), (5, .int .u32 v28), (6, .int .i64 v29), (22, .slice Aa26 l25.length cc27), (25, .int .u8 (wu8 (v28.tmod 256)))]) (by kernel_rfl) ?_ rfl
   clear hs; intro a hs
   obtain ⟨Aa35, cc36, wd37, hx38, hw⟩ := n_lit (P := Tryd.prog) (t := 22) (ty := 22) (T := 5) (len := 1) (parts := #[(0, (Operand.tmp 25))]) (z := .int .u8 0) (bytes := 1) (cells := #[.int .u8 (wu8 (v28.tmod 256))]) hs hw (eI .u8) ([wu8 (v28.tmod 256)] : List Int) (by kernel_rfl) (by kernel_rfl) (by kernel_rfl) (by kernel_rfl) (by kernel_rfl) (by kernel_rfl) (by kernel_rfl)
   refine go_run hs (op := (Op.buildSlice 22 1 #[(0, (Operand.tmp 25))])) (ty := 22) (dst := some 26) (g := none) (by kernel_rfl) (by kernel_rfl) (by kernel_rfl) hx38 [0, 4, 5, 6, 22, 26] (L' := [(0, .slice (some ad21) l0.length c0), (4, .int .i64 v14), (5, .int .u32 v28), (6, .int .i64 v29), (22, .slice Aa26 l25.length cc27), (26, .slice Aa35 ([wu8 (v28.tmod 256)] : List Int).length cc36)]) (by kernel_rfl) ?_
   clear hs; intro a hs
   obtain ⟨hp40, H⟩ := ite_only H
   have hsrc45 : Src Tryd.prog (eI .u8).sz 22 (.slice Aa35 ([wu8 (v28.tmod 256)] : List Int).length cc36) ([wu8 (v28.tmod 256)] : List Int).length (([wu8 (v28.tmod 256)] : List Int).flatMap (eI .u8).enc) _ := (Src.of_rd (E := (eI .u8)) (e' := 5) (by kernel_rfl) (Rd.of_own (hw.up 0)))
   replace hw := hw.up 1
   obtain ⟨Aa41, cc42, wd43, hx44, hw⟩ := x_append (P := Tryd.prog) (t := 22) (tx := 22) (ty := 22) (x := (Operand.tmp 22)) (y := (Operand.tmp 26)) (z := .int .u8 0) (bytes := 1) (l2 := ([wu8 (v28.tmod 256)] : List Int)) hs hw (by kernel_rfl) (by kernel_rfl) (by kernel_rfl) (by kernel_rfl) (by kernel_rfl) hsrc45 (by omega) (by omega)
   refine go_run hs (op := (Op.call { callee := (Callee.builtin Builtin.append), args := #[(Operand.tmp 22), (Operand.tmp 26)], argTypes := #[22, 22] })) (ty := 22) (dst := some 27) (g := none) (by kernel_rfl) (by kernel_rfl) (by kernel_rfl) hx44 [0, 4, 5, 6, 27] (L' := [(0, .slice (some ad21) l0.length c0), (4, .int .i64 v14), (5, .int .u32 v28), (6, .int .i64 v29), (27, .slice Aa41 (l25 ++ ([wu8 (v28.tmod 256)] : List Int)).length cc42)]) (by kernel_rfl) ?_
   clear hs; intro a hs
   refine go_pvs 6 7 [0, 3, 4, 5, 6] hs (L' := [(0, .slice (some ad21) l0.length c0), (3, .slice Aa41 (l25 ++ ([wu8 (v28.tmod 256)] : List Int)).length cc42), (4, .int .i64 v14), (5, .int .u32 v28), (6, .int .i64 v29)]) (by kernel_rfl) ?_ rfl
   clear hs; intro a hs
   refine go_end (by kernel_rfl) ?_
   refine hK34 _ _ ?_
   refine go_region ?_
   refine go_pvs 0 3 [0, 3, 4, 5, 6] hs (L' := [(0, .slice (some ad21) l0.length c0), (3, .slice Aa41 (l25 ++ ([wu8 (v28.tmod 256)] : List Int)).length cc42), (4, .int .i64 v14), (5, .int .u32 (wu32 (v28.tdiv 256))), (6, .int .i64 v29)]) (by kernel_rfl) ?_ rfl
   clear hs; intro a hs
   refine go_end (by kernel_rfl) ?_
   refine ib_norm ?_
   refine hK33 _ _ ?_
   refine go_region ?_
   refine go_pvs 0 3 [0, 3, 4, 5, 6] hs (L' := [(0, .slice (some ad21) l0.length c0), (3, .slice Aa41 (l25 ++ ([wu8 (v28.tmod 256)] : List Int)).length cc42), (4, .int .i64 v14), (5, .int .u32 (wu32 (v28.tdiv 256))), (6, .int .i64 (w64 (v29 + 1)))]) (by kernel_rfl) ?_ rfl
   clear hs; intro a hs
   refine go_end (by kernel_rfl) ?_
   replace hw := hw.only 1
   exact round_end (l25 ++ ([wu8 (v28.tmod 256)] : List Int), wu32 (v28.tdiv 256), w64 (v29 + 1)) (Option.some.inj H).symm ⟨Aa41, cc42, hs.keep [0, 3, 4, 5, 6] (by kernel_rfl), hw⟩
  ·replace H := ite_f H (of_decide_eq_false hc)
   have hb46 := hc
   rw [hb46] at hs
   refine wp_exit ?_
   refine th_exit ?_
   refine th_exit ?_
   refine in_block ?_
   replace hw := hw.only 1
   rw [← hr24 _ (Option.some.inj H).symm] at HX24
   exact hJ1 Aa26 cc27 l25 _ _ (hs.keep [0, 3, 4] (by kernel_rfl)) hw HX24
 ·replace H := ite_f H (of_decide_eq_false hc)
  have hb50 := hc
  rw [hb50] at hs
  refine wp_exit ?_
  refine th_exit ?_
  refine th_exit ?_
  refine in_block ?_
  replace hw := hw.only 1
  rw [← hr10 _ (Option.some.inj H).symm] at HX10
  exact hJ2 Aa12 cc13 l11 _ _ (hs.keep [3] (by kernel_rfl)) hw HX10

/-! rivet/rivetref07.Fit: function 22 -/
noncomputable def rivetref07_Fit.j2 (v15 : Int) (a0 : ByteArray) (y3 : ByteArray) (v14 : ByteArray) : Option (ByteArray × Int ⊕ ByteArray) := (if 0 ≤ v15 ∧ v15 < (a0.size : Int) then (if 0 ≤ v15 ∧ v15 < (a0.size : Int) then (if 0 ≤ ((w64 (sx a0 v15)).tmod 12) ∧ ((w64 (sx a0 v15)).tmod 12) ≤ (w64 (((w64 (sx a0 v15)).tmod 12) + 1)) ∧ (w64 (((w64 (sx a0 v15)).tmod 12) + 1)) ≤ (y3.size : Int) then (if v14.size + (y3.extract (((w64 (sx a0 v15)).tmod 12) : Int).toNat ((w64 (((w64 (sx a0 v15)).tmod 12) + 1)) : Int).toNat).size ≤ 4611686018427387904 then some (.inl (v14 ++ (y3.extract (((w64 (sx a0 v15)).tmod 12) : Int).toNat ((w64 (((w64 (sx a0 v15)).tmod 12) + 1)) : Int).toNat), w64 (v15 + 1))) else none) else none) else none) else none)
noncomputable def rivetref07_Fit.j1 (v15 : Int) (a0 : ByteArray) (y3 : ByteArray) (v14 : ByteArray) (v19 : Bool) : Option (ByteArray × Int ⊕ ByteArray) := (if v19 = true then rivetref07_Fit.j2 v15 a0 y3 v14 else some (.inr v14))
noncomputable def rivetref07_Fit.j3 (v27 : ByteArray) : Option ByteArray := some v27
noncomputable def rivetref07_Fit.b13 (a0 : ByteArray) (y3 : ByteArray) (v14 : ByteArray) (v15 : Int) : Option (ByteArray × Int ⊕ ByteArray) := (if v15 < (a0.size : Int) then rivetref07_Fit.j1 v15 a0 y3 v14 (decide (v15 < 6)) else rivetref07_Fit.j1 v15 a0 y3 v14 false)
noncomputable def rivetref07_Fit (a0 : ByteArray) : Option ByteArray := (nm (⟨#[97, 98, 99, 88, 89, 90, 95, 48, 49, 57, 82, 109]⟩ : ByteArray) fun y3 => (nm (strOfNums ([wu8 (97 + (wu8 ((a0.size : Int).tmod 26)))] : List Int)) fun y10 => ((loopO (fun (σ : ByteArray × Int) => rivetref07_Fit.b13 a0 y3 σ.1 σ.2) (y10, 0)).bind fun e => rivetref07_Fit.j3 e)))
set_option maxRecDepth 100000 in
set_option maxHeartbeats 4000000 in
theorem rivetref07_Fit.calls (a0 : ByteArray) (r : ByteArray) (w0 : World) (H : rivetref07_Fit a0 = some r) :
    Calls Tryd.prog 22 #[.string a0] w0 fun e w' => e = .returned (.string r) ∧ St [] w0 w' [] := by
 have hw : St [] w0 w0 [] := St.nil w0
 unfold rivetref07_Fit at H
 refine go_fn Tryd.func22 rfl 39 Tryd.ntmps22 [(0, .string a0)] (by kernel_rfl) rfl ?_
 intro a hs
 refine go_seq_k fun K1 hK1 => ?_
 refine go_region ?_
 refine go_pvs 0 1 [0] hs (L' := [(0, .string a0)]) (by kernel_rfl) ?_ rfl
 clear hs; intro a hs
 refine go_end (by kernel_rfl) ?_
 refine hK1 _ _ ?_
 refine go_seq_k fun K2 hK2 => ?_
 refine go_region ?_
 refine go_pvs 0 1 [0, 3] hs (L' := [(0, .string a0), (3, .string (⟨#[97, 98, 99, 88, 89, 90, 95, 48, 49, 57, 82, 109]⟩ : ByteArray))]) (by kernel_rfl) ?_ rfl
 clear hs; intro a hs
 obtain ⟨y3, hy3, H⟩ := nm_some H
 replace hs : Slots a 39 [(0, .string a0), (3, .string y3)] := by rw [hy3]; exact hs
 refine go_end (by kernel_rfl) ?_
 refine hK2 _ _ ?_
 refine go_seq_k fun K4 hK4 => ?_
 refine go_region ?_
 refine go_pvs 0 5 [0, 3, 10] hs (L' := [(0, .string a0), (3, .string y3), (10, .int .u8 (wu8 (97 + (wu8 ((a0.size : Int).tmod 26)))))]) (by kernel_rfl) ?_ rfl
 clear hs; intro a hs
 obtain ⟨Aa5, cc6, wd7, hx8, hw⟩ := n_lit (P := Tryd.prog) (t := 22) (ty := 22) (T := 5) (len := 1) (parts := #[(0, (Operand.tmp 10))]) (z := .int .u8 0) (bytes := 1) (cells := #[.int .u8 (wu8 (97 + (wu8 ((a0.size : Int).tmod 26))))]) hs hw (eI .u8) ([wu8 (97 + (wu8 ((a0.size : Int).tmod 26)))] : List Int) (by kernel_rfl) (by kernel_rfl) (by kernel_rfl) (by kernel_rfl) (by kernel_rfl) (by kernel_rfl) (by kernel_rfl)
 refine go_run hs (op := (Op.buildSlice 22 1 #[(0, (Operand.tmp 10))])) (ty := 22) (dst := some 11) (g := none) (by kernel_rfl) (by kernel_rfl) (by kernel_rfl) hx8 [0, 3, 11] (L' := [(0, .string a0), (3, .string y3), (11, .slice Aa5 ([wu8 (97 + (wu8 ((a0.size : Int).tmod 26)))] : List Int).length cc6)]) (by kernel_rfl) ?_
 clear hs; intro a hs
 refine go_run hs (op := (Op.convert 22 9 (Operand.tmp 11))) (ty := 9) (dst := some 12) (g := none) (by kernel_rfl) (by kernel_rfl) (by kernel_rfl) (x_conv (e := 5) (l := ([wu8 (97 + (wu8 ((a0.size : Int).tmod 26)))] : List Int)) (Rd.of_own (hw.up 0)) (by kernel_rfl) (by kernel_rfl) (by kernel_rfl) (by kernel_rfl)) [0, 3, 12] (L' := [(0, .string a0), (3, .string y3), (12, .string (strOfNums ([wu8 (97 + (wu8 ((a0.size : Int).tmod 26)))] : List Int)))]) (by kernel_rfl) ?_
 clear hs; intro a hs
 refine go_pvs 7 8 [0, 3, 4] hs (L' := [(0, .string a0), (3, .string y3), (4, .string (strOfNums ([wu8 (97 + (wu8 ((a0.size : Int).tmod 26)))] : List Int)))]) (by kernel_rfl) ?_ rfl
 clear hs; intro a hs
 obtain ⟨y10, hy10, H⟩ := nm_some H
 replace hs : Slots a 39 [(0, .string a0), (3, .string y3), (4, .string y10)] := by rw [hy10]; exact hs
 refine go_end (by kernel_rfl) ?_
 refine hK4 _ _ ?_
 refine go_seq_k fun K11 hK11 => ?_
 refine go_seq_k fun K12 hK12 => ?_
 refine go_region ?_
 refine go_pvs 0 1 [0, 3, 4, 5] hs (L' := [(0, .string a0), (3, .string y3), (4, .string y10), (5, .int .i64 0)]) (by kernel_rfl) ?_ rfl
 clear hs; intro a hs
 refine go_end (by kernel_rfl) ?_
 refine hK12 _ _ ?_
 refine wp_block ?_
 obtain ⟨e13, hl13, HX13⟩ := bind_some H
 have hJ3 : ∀ (v27 : ByteArray) (a : Act) (w : World), Slots a 39 [(4, .string v27)] → St [] w0 w [own 5 (eI .u8) Aa5 cc6 ([wu8 (97 + (wu8 ((a0.size : Int).tmod 26)))] : List Int)] → rivetref07_Fit.j3 v27 = some r → K11 a w := by
  intro v27 a w hs hw H
  unfold rivetref07_Fit.j3 at H
  refine hK11 _ _ ?_
  refine go_seq_k fun K28 hK28 => ?_
  refine go_region ?_
  refine go_pvs 0 2 [2] hs (L' := [(2, .string v27)]) (by kernel_rfl) ?_ rfl
  clear hs; intro a hs
  refine go_end (by kernel_rfl) ?_
  refine hK28 _ _ ?_
  refine wp_ret ?_
  obtain rfl := Option.some.inj H
  refine ret1 (t := 2) (v := .string v27) hs (by kernel_rfl) (by kernel_rfl) ?_
  exact ⟨rfl, hw.only 0⟩
 clear H
 refine go_loop (σ := ByteArray × Int) (fun σ a w => Slots a 39 [(0, .string a0), (3, .string y3), (4, .string σ.1), (5, .int .i64 σ.2)] ∧ St [] w0 w [own 5 (eI .u8) Aa5 cc6 ([wu8 (97 + (wu8 ((a0.size : Int).tmod 26)))] : List Int)]) hl13 (by exact ⟨hs.keep [0, 3, 4, 5] (by kernel_rfl), hw⟩) ?_
 rintro ⟨v14, v15⟩ a w ⟨hs, hw⟩ o H hr13
 replace hs : Slots a 39 [(0, .string a0), (3, .string y3), (4, .string v14), (5, .int .i64 v15)] := hs
 replace hw : St [] w0 w [own 5 (eI .u8) Aa5 cc6 ([wu8 (97 + (wu8 ((a0.size : Int).tmod 26)))] : List Int)] := hw
 replace H : rivetref07_Fit.b13 a0 y3 v14 v15 = some o := H
 unfold rivetref07_Fit.b13 at H
 refine go_seq_k fun K16 hK16 => ?_
 have hJ2 : ∀ (a : Act) (w : World), Slots a 39 [(0, .string a0), (3, .string y3), (4, .string v14), (5, .int .i64 v15)] → St [] w0 w [own 5 (eI .u8) Aa5 cc6 ([wu8 (97 + (wu8 ((a0.size : Int).tmod 26)))] : List Int)] → rivetref07_Fit.j2 v15 a0 y3 v14 = some o → K16 a w := by
  intro a w hs hw H
  unfold rivetref07_Fit.j2 at H
  refine hK16 _ _ ?_
  refine go_seq_k fun K22 hK22 => ?_
  refine wp_block ?_
  refine q2_region (by kernel_rfl) (by kernel_rfl) ?_
  refine q_pvs 0 4 [0, 3, 5, 23, 24, 25, 26] hs (L' := [(0, .string a0), (3, .string y3), (5, .int .i64 v15), (23, .string v14), (24, .string y3), (25, .string a0), (26, .int .i64 v15)]) (by kernel_rfl) ?_ rfl
  clear hs; intro a hs
  obtain ⟨hp23, H⟩ := ite_only H
  refine q_run hs (op := (Op.index 9 (Operand.tmp 25) (Operand.tmp 26))) (ty := 5) (dst := some 27) (g := none) (by kernel_rfl) (by kernel_rfl) (by kernel_rfl) (fun wx hbx => (x_sidx (s := a0) (k := .i64) (i := v15) (by kernel_rfl) (by kernel_rfl) (by kernel_rfl) hp23.1 hp23.2)) [0, 3, 5, 23, 24, 27] (L' := [(0, .string a0), (3, .string y3), (5, .int .i64 v15), (23, .string v14), (24, .string y3), (27, .int .u8 (sx a0 v15))]) (by kernel_rfl) ?_
  clear hs; intro a hs
  refine q_pvs 5 9 [0, 3, 5, 23, 24, 29, 30, 31] hs (L' := [(0, .string a0), (3, .string y3), (5, .int .i64 v15), (23, .string v14), (24, .string y3), (29, .int .i64 ((w64 (sx a0 v15)).tmod 12)), (30, .string a0), (31, .int .i64 v15)]) (by kernel_rfl) ?_ rfl
  clear hs; intro a hs
  obtain ⟨hp24, H⟩ := ite_only H
  refine q_run hs (op := (Op.index 9 (Operand.tmp 30) (Operand.tmp 31))) (ty := 5) (dst := some 32) (g := none) (by kernel_rfl) (by kernel_rfl) (by kernel_rfl) (fun wx hbx => (x_sidx (s := a0) (k := .i64) (i := v15) (by kernel_rfl) (by kernel_rfl) (by kernel_rfl) hp24.1 hp24.2)) [0, 3, 5, 23, 24, 29, 32] (L' := [(0, .string a0), (3, .string y3), (5, .int .i64 v15), (23, .string v14), (24, .string y3), (29, .int .i64 ((w64 (sx a0 v15)).tmod 12)), (32, .int .u8 (sx a0 v15))]) (by kernel_rfl) ?_
  clear hs; intro a hs
  refine q_pvs 10 13 [0, 3, 5, 23, 24, 29, 35] hs (L' := [(0, .string a0), (3, .string y3), (5, .int .i64 v15), (23, .string v14), (24, .string y3), (29, .int .i64 ((w64 (sx a0 v15)).tmod 12)), (35, .int .i64 (w64 (((w64 (sx a0 v15)).tmod 12) + 1)))]) (by kernel_rfl) ?_ rfl
  clear hs; intro a hs
  obtain ⟨hp25, H⟩ := ite_only H
  refine q_run hs (op := (Op.slice 9 (Operand.tmp 24) (some (Operand.tmp 29)) (some (Operand.tmp 35)) none)) (ty := 9) (dst := some 36) (g := none) (by kernel_rfl) (by kernel_rfl) (by kernel_rfl) (fun wx hbx => (x_scut (s := y3) (k := .i64) (k' := .i64) (l0 := ((w64 (sx a0 v15)).tmod 12)) (h := (w64 (((w64 (sx a0 v15)).tmod 12) + 1))) (by kernel_rfl) (by kernel_rfl) (Or.inl (by kernel_rfl)) (Or.inl (by kernel_rfl)) hp25.1 hp25.2.1 hp25.2.2)) [0, 3, 5, 23, 36] (L' := [(0, .string a0), (3, .string y3), (5, .int .i64 v15), (23, .string v14), (36, .string (y3.extract (((w64 (sx a0 v15)).tmod 12) : Int).toNat ((w64 (((w64 (sx a0 v15)).tmod 12) + 1)) : Int).toNat))]) (by kernel_rfl) ?_
  clear hs; intro a hs
  obtain ⟨hp26, H⟩ := ite_only H
  refine q_run hs (op := (Op.binOp BinOp.add 9 (Operand.tmp 23) (Operand.tmp 36) 9)) (ty := 9) (dst := some 37) (g := none) (by kernel_rfl) (by kernel_rfl) (by kernel_rfl) (fun wx hbx => (x_cat (m := v14) (n := y3.extract (((w64 (sx a0 v15)).tmod 12) : Int).toNat ((w64 (((w64 (sx a0 v15)).tmod 12) + 1)) : Int).toNat) (by kernel_rfl) (by kernel_rfl) hp26)) [0, 3, 5, 37] (L' := [(0, .string a0), (3, .string y3), (5, .int .i64 v15), (37, .string (v14 ++ (y3.extract (((w64 (sx a0 v15)).tmod 12) : Int).toNat ((w64 (((w64 (sx a0 v15)).tmod 12) + 1)) : Int).toNat)))]) (by kernel_rfl) ?_
  clear hs; intro a hs
  refine q_pvs 15 16 [0, 3, 4, 5] hs (L' := [(0, .string a0), (3, .string y3), (4, .string (v14 ++ (y3.extract (((w64 (sx a0 v15)).tmod 12) : Int).toNat ((w64 (((w64 (sx a0 v15)).tmod 12) + 1)) : Int).toNat))), (5, .int .i64 v15)]) (by kernel_rfl) ?_ rfl
  clear hs; intro a hs
  refine q_end (by kernel_rfl) ?_
  intro wq hbq
  replace hw := hw.behind hbq
  refine ib_norm ?_
  refine hK22 _ _ ?_
  refine go_region ?_
  refine go_pvs 0 3 [0, 3, 4, 5] hs (L' := [(0, .string a0), (3, .string y3), (4, .string (v14 ++ (y3.extract (((w64 (sx a0 v15)).tmod 12) : Int).toNat ((w64 (((w64 (sx a0 v15)).tmod 12) + 1)) : Int).toNat))), (5, .int .i64 (w64 (v15 + 1)))]) (by kernel_rfl) ?_ rfl
  clear hs; intro a hs
  refine go_end (by kernel_rfl) ?_
  replace hw := hw.only 1
  exact round_end (v14 ++ (y3.extract (((w64 (sx a0 v15)).tmod 12) : Int).toNat ((w64 (((w64 (sx a0 v15)).tmod 12) + 1)) : Int).toNat), w64 (v15 + 1)) (Option.some.inj H).symm ⟨hs.keep [0, 3, 4, 5] (by kernel_rfl), hw⟩
 refine go_seq_k fun K17 hK17 => ?_
 have hJ1 : ∀ (v19 : Bool) (a : Act) (w : World), Slots a 39 [(0, .string a0), (3, .string y3), (4, .string v14), (5, .int .i64 v15), (20, .bool v19)] → St [] w0 w [own 5 (eI .u8) Aa5 cc6 ([wu8 (97 + (wu8 ((a0.size : Int).tmod 26)))] : List Int)] → rivetref07_Fit.j1 v15 a0 y3 v14 v19 = some o → K17 a w := by
  intro v19 a w hs hw H
  unfold rivetref07_Fit.j1 at H
  refine hK17 _ _ ?_
  refine go_cond hs v19 (by kernel_rfl) (fun hc => ?_) (fun hc => ?_)
  ·replace H := ite_t H hc
   have hb20 := hc
   rw [hb20] at hs
   refine wp_skip ?_
   replace hw := hw.only 1
   exact hJ2 _ _ (hs.keep [0, 3, 4, 5] (by kernel_rfl)) hw H
  ·replace H := ite_f H (ff hc)
   have hb21 := hc
   rw [hb21] at hs
   refine wp_exit ?_
   refine th_exit ?_
   refine th_exit ?_
   refine in_block ?_
   replace hw := hw.only 1
   rw [← hr13 _ (Option.some.inj H).symm] at HX13
   exact hJ3 v14 _ _ (hs.keep [4] (by kernel_rfl)) hw HX13
 refine go_region ?_
 refine go_pvs 0 5 [0, 3, 4, 5, 17] hs (L' := [(0, .string a0), (3, .string y3), (4, .string v14), (5, .int .i64 v15), (17, .bool (decide (v15 < (a0.size : Int))))]) (by kernel_rfl) ?_ rfl
 clear hs; intro a hs
 cases hb18 : (decide (v15 < (a0.size : Int)))
 ·replace H := ite_f H (of_decide_eq_false hb18)
  rw [hb18] at hs
  refine go_pvs 5 8 [0, 3, 4, 5, 20] hs (L' := [(0, .string a0), (3, .string y3), (4, .string v14), (5, .int .i64 v15), (20, .bool false)]) (by kernel_rfl) ?_ rfl
  clear hs; intro a hs
  refine go_end (by kernel_rfl) ?_
  replace hw := hw.only 1
  exact hJ1 false _ _ (hs.keep [0, 3, 4, 5, 20] (by kernel_rfl)) hw H
 ·replace H := ite_t H (of_decide_eq_true hb18)
  rw [hb18] at hs
  refine go_pvs 5 8 [0, 3, 4, 5, 20] hs (L' := [(0, .string a0), (3, .string y3), (4, .string v14), (5, .int .i64 v15), (20, .bool (decide (v15 < 6)))]) (by kernel_rfl) ?_ rfl
  clear hs; intro a hs
  refine go_end (by kernel_rfl) ?_
  replace hw := hw.only 1
  exact hJ1 (decide (v15 < 6)) _ _ (hs.keep [0, 3, 4, 5, 20] (by kernel_rfl)) hw H

/-! rivet/rivetlaw07.shown: function 8 -/
noncomputable def rivetlaw07_shown.j1 (v44 : Bool) : Option Bool := some v44
noncomputable def rivetlaw07_shown : Option Bool := ((le_PutName (⟨#[97, 98]⟩ : ByteArray)).bind fun ⟨t4, t5⟩ => (((le_TakeName ([2, 97, 98, 0, 9] : List Int)).bind fun ⟨t19, t20, t21⟩ => ((if ((strOfNums t4).toList == (⟨#[2, 97, 98, 0]⟩ : ByteArray).toList) = true then (if t5 = 0 then (if (t19.toList == (⟨#[97, 98]⟩ : ByteArray).toList) = true then (if t20 = 4 then (if t21 = 0 then ((le_Put ([67305985] : List Int)).bind fun t37 => (rivetlaw07_shown.j1 ((strOfNums t37).toList == (⟨#[1, 2, 3, 4]⟩ : ByteArray).toList))) else rivetlaw07_shown.j1 false) else rivetlaw07_shown.j1 false) else rivetlaw07_shown.j1 false) else rivetlaw07_shown.j1 false) else rivetlaw07_shown.j1 false)))))
set_option maxRecDepth 100000 in
set_option maxHeartbeats 4000000 in
theorem rivetlaw07_shown.calls (r : Bool) (w0 : World) (H : rivetlaw07_shown = some r) :
    Calls Tryd.prog 8 #[] w0 fun e w' => e = .returned (.bool r) ∧ St [] w0 w' [] := by
 have hw : St [] w0 w0 [] := St.nil w0
 unfold rivetlaw07_shown at H
 refine go_fn Tryd.func8 rfl 41 Tryd.ntmps8 [] (by kernel_rfl) rfl ?_
 intro a hs
 refine go_seq_k fun K1 hK1 => ?_
 refine go_region ?_
 refine go_pvs 0 1 [] hs (L' := []) (by kernel_rfl) ?_ rfl
 clear hs; intro a hs
 refine go_end (by kernel_rfl) ?_
 refine hK1 _ _ ?_
 refine go_seq_k fun K2 hK2 => ?_
 refine go_region ?_
 obtain ⟨⟨t4, t5⟩, hx6, H⟩ := bind_some H
 refine go_call hs (op := (Op.call { callee := (Callee.value (Operand.func 9)), args := #[(Operand.const (Value.string { data := #[97, 98] }))], argTypes := #[9] })) (ty := 25) (dst := some 7) (g := none) (by kernel_rfl) (by kernel_rfl) (by kernel_rfl) (f := 9) (args := #[.string (⟨#[97, 98]⟩ : ByteArray)]) (by kernel_rfl) (le_PutName.calls (⟨#[97, 98]⟩ : ByteArray) (t4, t5) _ hx6) ?_
 rintro e wd9 ⟨Aa7, cc8, rfl, hw10⟩
 refine ⟨_, rfl, ?_⟩
 replace hw := hw.call hw10
 intro a hs1
 replace hs : Slots a 41 [(7, .tuple #[.slice Aa7 t4.length cc8, .int .i64 t5])] := hs1.keep [7] (by kernel_rfl)
 clear hs1
 refine go_pvs 1 6 [1, 2] hs (L' := [(1, .slice Aa7 t4.length cc8), (2, .int .i64 t5)]) (by kernel_rfl) ?_ rfl
 clear hs; intro a hs
 refine go_end (by kernel_rfl) ?_
 refine hK2 _ _ ?_
 refine go_seq_k fun K12 hK12 => ?_
 refine go_region ?_
 obtain ⟨Aa13, cc14, wd15, hx16, hw⟩ := n_lit (P := Tryd.prog) (t := 22) (ty := 22) (T := 5) (len := 5) (parts := #[(0, (Operand.const (Value.int IntKind.u8 2))), (1, (Operand.const (Value.int IntKind.u8 97))), (2, (Operand.const (Value.int IntKind.u8 98))), (3, (Operand.const (Value.int IntKind.u8 0))), (4, (Operand.const (Value.int IntKind.u8 9)))]) (z := .int .u8 0) (bytes := 1) (cells := #[.int .u8 2, .int .u8 97, .int .u8 98, .int .u8 0, .int .u8 9]) hs hw (eI .u8) ([2, 97, 98, 0, 9] : List Int) (by kernel_rfl) (by kernel_rfl) (by kernel_rfl) (by kernel_rfl) (by kernel_rfl) (by kernel_rfl) (by kernel_rfl)
 refine go_run hs (op := (Op.buildSlice 22 5 #[(0, (Operand.const (Value.int IntKind.u8 2))), (1, (Operand.const (Value.int IntKind.u8 97))), (2, (Operand.const (Value.int IntKind.u8 98))), (3, (Operand.const (Value.int IntKind.u8 0))), (4, (Operand.const (Value.int IntKind.u8 9)))])) (ty := 22) (dst := some 11) (g := none) (by kernel_rfl) (by kernel_rfl) (by kernel_rfl) hx16 [1, 2, 11] (L' := [(1, .slice Aa7 t4.length cc8), (2, .int .i64 t5), (11, .slice Aa13 ([2, 97, 98, 0, 9] : List Int).length cc14)]) (by kernel_rfl) ?_
 clear hs; intro a hs
 obtain ⟨⟨t19, t20, t21⟩, hx22, H⟩ := bind_some H
 refine go_call hs (op := (Op.call { callee := (Callee.value (Operand.func 11)), args := #[(Operand.tmp 11)], argTypes := #[22] })) (ty := 27) (dst := some 12) (g := none) (by kernel_rfl) (by kernel_rfl) (by kernel_rfl) (f := 11) (args := #[.slice Aa13 ([2, 97, 98, 0, 9] : List Int).length cc14]) (by kernel_rfl) (le_TakeName.calls Aa13 cc14 ([2, 97, 98, 0, 9] : List Int) (t19, t20, t21) _ (Rd.of_own (hw.up 0)) hx22) ?_
 rintro e wd23 ⟨rfl, hw24⟩
 refine ⟨_, rfl, ?_⟩
 replace hw := hw.call hw24
 intro a hs1
 replace hs : Slots a 41 [(1, .slice Aa7 t4.length cc8), (2, .int .i64 t5), (12, .tuple #[.string t19, .int .i64 t20, .int .i64 t21])] := hs1.keep [1, 2, 12] (by kernel_rfl)
 clear hs1
 refine go_pvs 2 9 [1, 2, 3, 4, 5] hs (L' := [(1, .slice Aa7 t4.length cc8), (2, .int .i64 t5), (3, .string t19), (4, .int .i64 t20), (5, .int .i64 t21)]) (by kernel_rfl) ?_ rfl
 clear hs; intro a hs
 refine go_end (by kernel_rfl) ?_
 refine hK12 _ _ ?_
 refine go_seq_k fun K25 hK25 => ?_
 have hJ1 : ∀ (v44 : Bool) (a : Act) (w : World), Slots a 41 [(0, .bool v44)] → St [] w0 w [own 5 (eI .u8) Aa13 cc14 ([2, 97, 98, 0, 9] : List Int), own 5 (eI .u8) Aa7 cc8 t4] → rivetlaw07_shown.j1 v44 = some r → K25 a w := by
  intro v44 a w hs hw H
  unfold rivetlaw07_shown.j1 at H
  refine hK25 _ _ ?_
  refine wp_ret ?_
  obtain rfl := Option.some.inj H
  refine ret1 (t := 0) (v := .bool v44) hs (by kernel_rfl) (by kernel_rfl) ?_
  exact ⟨rfl, hw.only 0⟩
 refine go_region ?_
 refine go_pvs 0 1 [2, 3, 4, 5, 16] hs (L' := [(2, .int .i64 t5), (3, .string t19), (4, .int .i64 t20), (5, .int .i64 t21), (16, .slice Aa7 t4.length cc8)]) (by kernel_rfl) ?_ rfl
 clear hs; intro a hs
 refine go_run hs (op := (Op.convert 22 9 (Operand.tmp 16))) (ty := 9) (dst := some 17) (g := none) (by kernel_rfl) (by kernel_rfl) (by kernel_rfl) (x_conv (e := 5) (l := t4) (Rd.of_own (hw.up 1)) (by kernel_rfl) (by kernel_rfl) (by kernel_rfl) (by kernel_rfl)) [2, 3, 4, 5, 17] (L' := [(2, .int .i64 t5), (3, .string t19), (4, .int .i64 t20), (5, .int .i64 t21), (17, .string (strOfNums t4))]) (by kernel_rfl) ?_
 clear hs; intro a hs
 refine go_pvs 2 4 [2, 3, 4, 5, 19] hs (L' := [(2, .int .i64 t5), (3, .string t19), (4, .int .i64 t20), (5, .int .i64 t21), (19, .bool ((strOfNums t4).toList == (⟨#[2, 97, 98, 0]⟩ : ByteArray).toList))]) (by kernel_rfl) ?_ rfl
 clear hs; intro a hs
 cases hb26 : ((strOfNums t4).toList == (⟨#[2, 97, 98, 0]⟩ : ByteArray).toList)
 ·replace H := ite_f H (ff hb26)
  rw [hb26] at hs
  refine go_pvs 4 26 [0] hs (L' := [(0, .bool false)]) (by kernel_rfl) ?_ rfl
  clear hs; intro a hs
  refine go_end (by kernel_rfl) ?_
  replace hw := hw.up 1
  replace hw := hw.up 1
  replace hw := hw.only 2
  exact hJ1 false _ _ (hs.keep [0] (by kernel_rfl)) hw H
 ·replace H := ite_t H hb26
  rw [hb26] at hs
  refine go_pvs 4 8 [3, 4, 5, 23] hs (L' := [(3, .string t19), (4, .int .i64 t20), (5, .int .i64 t21), (23, .bool (t5 == 0))]) (by kernel_rfl) ?_ rfl
  clear hs; intro a hs
  cases hb27 : (t5 == 0)
  ·replace H := ite_f H (beq_eq_false_iff_ne.1 hb27)
   rw [hb27] at hs
   refine go_pvs 8 26 [0] hs (L' := [(0, .bool false)]) (by kernel_rfl) ?_ rfl
   clear hs; intro a hs
   refine go_end (by kernel_rfl) ?_
   replace hw := hw.up 1
   replace hw := hw.up 1
   replace hw := hw.only 2
   exact hJ1 false _ _ (hs.keep [0] (by kernel_rfl)) hw H
  ·replace H := ite_t H (beq_iff_eq.1 hb27)
   rw [hb27] at hs
   refine go_pvs 8 12 [4, 5, 27] hs (L' := [(4, .int .i64 t20), (5, .int .i64 t21), (27, .bool (t19.toList == (⟨#[97, 98]⟩ : ByteArray).toList))]) (by kernel_rfl) ?_ rfl
   clear hs; intro a hs
   cases hb28 : (t19.toList == (⟨#[97, 98]⟩ : ByteArray).toList)
   ·replace H := ite_f H (ff hb28)
    rw [hb28] at hs
    refine go_pvs 12 26 [0] hs (L' := [(0, .bool false)]) (by kernel_rfl) ?_ rfl
    clear hs; intro a hs
    refine go_end (by kernel_rfl) ?_
    replace hw := hw.up 1
    replace hw := hw.up 1
    replace hw := hw.only 2
    exact hJ1 false _ _ (hs.keep [0] (by kernel_rfl)) hw H
   ·replace H := ite_t H hb28
    rw [hb28] at hs
    refine go_pvs 12 16 [5, 31] hs (L' := [(5, .int .i64 t21), (31, .bool (t20 == 4))]) (by kernel_rfl) ?_ rfl
    clear hs; intro a hs
    cases hb29 : (t20 == 4)
    ·replace H := ite_f H (beq_eq_false_iff_ne.1 hb29)
     rw [hb29] at hs
     refine go_pvs 16 26 [0] hs (L' := [(0, .bool false)]) (by kernel_rfl) ?_ rfl
     clear hs; intro a hs
     refine go_end (by kernel_rfl) ?_
     replace hw := hw.up 1
     replace hw := hw.up 1
     replace hw := hw.only 2
     exact hJ1 false _ _ (hs.keep [0] (by kernel_rfl)) hw H
    ·replace H := ite_t H (beq_iff_eq.1 hb29)
     rw [hb29] at hs
     refine go_pvs 16 20 [35] hs (L' := [(35, .bool (t21 == 0))]) (by kernel_rfl) ?_ rfl
     clear hs; intro a hs
     cases hb30 : (t21 == 0)
     ·replace H := ite_f H (beq_eq_false_iff_ne.1 hb30)
      rw [hb30] at hs
      refine go_pvs 20 26 [0] hs (L' := [(0, .bool false)]) (by kernel_rfl) ?_ rfl
      clear hs; intro a hs
      refine go_end (by kernel_rfl) ?_
      replace hw := hw.up 1
      replace hw := hw.up 1
      replace hw := hw.only 2
      exact hJ1 false _ _ (hs.keep [0] (by kernel_rfl)) hw H
     ·replace H := ite_t H (beq_iff_eq.1 hb30)
      rw [hb30] at hs
      obtain ⟨Aa31, cc32, wd33, hx34, hw⟩ := n_lit (P := Tryd.prog) (t := 32) (ty := 32) (T := 43) (len := 1) (parts := #[(0, (Operand.const (Value.int IntKind.u32 67305985)))]) (z := .int .u32 0) (bytes := 4) (cells := #[.int .u32 67305985]) hs hw (eI .u32) ([67305985] : List Int) (by kernel_rfl) (by kernel_rfl) (by kernel_rfl) (by kernel_rfl) (by kernel_rfl) (by kernel_rfl) (by kernel_rfl)
      refine go_run hs (op := (Op.buildSlice 32 1 #[(0, (Operand.const (Value.int IntKind.u32 67305985)))])) (ty := 32) (dst := some 36) (g := some (19, true)) (by kernel_rfl) (by kernel_rfl) (by kernel_rfl) hx34 [35, 36] (L' := [(35, .bool true), (36, .slice Aa31 ([67305985] : List Int).length cc32)]) (by kernel_rfl) ?_
      clear hs; intro a hs
      obtain ⟨t37, hx38, H⟩ := bind_some H
      refine go_call hs (op := (Op.call { callee := (Callee.value (Operand.func 19)), args := #[(Operand.tmp 36)], argTypes := #[32] })) (ty := 22) (dst := some 37) (g := some (19, true)) (by kernel_rfl) (by kernel_rfl) (by kernel_rfl) (f := 19) (args := #[.slice Aa31 ([67305985] : List Int).length cc32]) (by kernel_rfl) (le_Put.calls Aa31 cc32 ([67305985] : List Int) t37 _ (Rd.of_own (hw.up 0)) hx38) ?_
      rintro e wd41 ⟨Aa39, cc40, rfl, hw42⟩
      refine ⟨_, rfl, ?_⟩
      replace hw := hw.call hw42
      intro a hs1
      replace hs : Slots a 41 [(35, .bool true), (37, .slice Aa39 t37.length cc40)] := hs1.keep [35, 37] (by kernel_rfl)
      clear hs1
      refine go_run hs (op := (Op.convert 22 9 (Operand.tmp 37))) (ty := 9) (dst := some 38) (g := some (19, true)) (by kernel_rfl) (by kernel_rfl) (by kernel_rfl) (x_conv (e := 5) (l := t37) (Rd.of_own (hw.up 0)) (by kernel_rfl) (by kernel_rfl) (by kernel_rfl) (by kernel_rfl)) [35, 38] (L' := [(35, .bool true), (38, .string (strOfNums t37))]) (by kernel_rfl) ?_
      clear hs; intro a hs
      refine go_pvs 23 26 [0] hs (L' := [(0, .bool ((strOfNums t37).toList == (⟨#[1, 2, 3, 4]⟩ : ByteArray).toList))]) (by kernel_rfl) ?_ rfl
      clear hs; intro a hs
      refine go_end (by kernel_rfl) ?_
      replace hw := hw.up 3
      replace hw := hw.up 3
      replace hw := hw.only 2
      exact hJ1 ((strOfNums t37).toList == (⟨#[1, 2, 3, 4]⟩ : ByteArray).toList) _ _ (hs.keep [0] (by kernel_rfl)) hw H

end Go.Proofs.YtckefpenekolhaaDoor.T07
