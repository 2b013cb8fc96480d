/- YtckefpenekolhaaDoorT07zLeAll: Go functions told as plain ones, each with a proof that its call comes to what is told, part 1. Condition of each: that the plain function comes to a value. -/
import Derived.Test.YtckefpenekolhaaDoorT07
import Derived.Test.YtckefpenekolhaaDoorEL
import Derived.Test.YtckefpenekolhaaDoorProg
namespace Go.Proofs.YtckefpenekolhaaDoor.T07
open Go Go.RowKit Go.Proofs.YtckefpenekolhaaDoor.E
set_option linter.unusedVariables false
set_option linter.unusedSimpArgs false

/-! rivet/rivetlaw07.LeAll: function 4 -/
noncomputable def rivetlaw07_LeAll.j2 (v11 : Int) : Option (Int ⊕ (Ex Bool Unit)) := some (.inl (w64 (v11 + 1)))
noncomputable def rivetlaw07_LeAll.j1 (v11 : Int) (v61 : Bool) : Option (Int ⊕ (Ex Bool Unit)) := (if v61 = true then some (.inr (.ret false)) else rivetlaw07_LeAll.j2 v11)
noncomputable def rivetlaw07_LeAll.j4 (v147 : Bool) : Option Bool := some v147
noncomputable def rivetlaw07_LeAll.j3 (l1 : List Int) (a2 : Int) (t4 : Bool) (l0 : List Int) : Option Bool := (if 0 ≤ (mnn (l1.length : Int) 200) ∧ (mnn (l1.length : Int) 200) ≤ (l1.length : Int) then ((le_Take (l1.take (mnn (l1.length : Int) 200 : Int).toNat) a2).bind fun ⟨t77, t78⟩ => ((if 0 ≤ (mnn (l1.length : Int) 200) ∧ (mnn (l1.length : Int) 200) ≤ (l1.length : Int) then ((rivetref07_Take (l1.take (mnn (l1.length : Int) 200 : Int).toNat) a2).bind fun ⟨t96, t97⟩ => ((if t4 = true then (if 0 ≤ (mnn (l0.length : Int) 40) ∧ (mnn (l0.length : Int) 40) ≤ (l0.length : Int) then ((le_Put (l0.take (mnn (l0.length : Int) 40 : Int).toNat)).bind fun t116 => ((if 0 ≤ (mnn (l0.length : Int) 40) ∧ (mnn (l0.length : Int) 40) ≤ (l0.length : Int) then ((rivetref07_Put (l0.take (mnn (l0.length : Int) 40 : Int).toNat)).bind fun t133 => ((if ((strOfNums t116).toList == (strOfNums t133).toList) = true then ((rivetref05_Same t77 t96).bind fun t142 => ((if t142 = true then rivetlaw07_LeAll.j4 (t78 == t97) else rivetlaw07_LeAll.j4 false))) else rivetlaw07_LeAll.j4 false))) else none))) else none) else rivetlaw07_LeAll.j4 false))) else none))) else none)
noncomputable def rivetlaw07_LeAll.b10 (l1 : List Int) (v11 : Int) : Option (Int ⊕ (Ex Bool Unit)) := (if v11 < 60 then (if 0 ≤ (mnn (l1.length : Int) 200) ∧ (mnn (l1.length : Int) 200) ≤ (l1.length : Int) then ((le_Take (l1.take (mnn (l1.length : Int) 200 : Int).toNat) v11).bind fun ⟨t27, t28⟩ => ((if 0 ≤ (mnn (l1.length : Int) 200) ∧ (mnn (l1.length : Int) 200) ≤ (l1.length : Int) then ((rivetref07_Take (l1.take (mnn (l1.length : Int) 200 : Int).toNat) v11).bind fun ⟨t46, t47⟩ => (((rivetref05_Same t27 t46).bind fun t56 => ((if t56 = true then rivetlaw07_LeAll.j1 v11 (t28 != t47) else rivetlaw07_LeAll.j1 v11 true))))) else none))) else none) else some (.inr (.done ())))
noncomputable def rivetlaw07_LeAll (l0 : List Int) (l1 : List Int) (a2 : Int) : Option Bool := ((rivetlaw07_shown).bind fun t4 => (((loopO (fun (σ : Int) => rivetlaw07_LeAll.b10 l1 σ) 0).bind fun e => match e with | .ret x => some x | .done e => rivetlaw07_LeAll.j3 l1 a2 t4 l0)))
set_option maxRecDepth 100000 in
set_option maxHeartbeats 4000000 in
theorem rivetlaw07_LeAll.calls (A0 : Option Addr) (c0 : Nat) (l0 : List Int) (A1 : Option Addr) (c1 : Nat) (l1 : List Int) (a2 : Int) (r : Bool) (w0 : World) (hr0 : Rd w0 (eI .u32) A0 c0 l0) (hr1 : Rd w0 (eI .u8) A1 c1 l1) (H : rivetlaw07_LeAll l0 l1 a2 = some r) :
    Calls Tryd.prog 4 #[.slice A0 l0.length c0, .slice A1 l1.length c1, .int .i64 a2] w0 fun e w' => e = .returned (.bool r) ∧ St [] w0 w' [] := by
 have hw : St [] w0 w0 [] := St.nil w0
 unfold rivetlaw07_LeAll at H
 refine go_fn Tryd.func4 rfl 81 Tryd.ntmps4 [(0, .slice A0 l0.length c0), (1, .slice A1 l1.length c1), (2, .int .i64 a2)] (by kernel_rfl) rfl ?_
 intro a hs
 refine go_seq_k fun K1 hK1 => ?_
 refine go_region ?_
 refine go_pvs 0 1 [0, 1, 2] hs (L' := [(0, .slice A0 l0.length c0), (1, .slice A1 l1.length c1), (2, .int .i64 a2)]) (by kernel_rfl) ?_ rfl
 clear hs; intro a hs
 refine go_end (by kernel_rfl) ?_
 refine hK1 _ _ ?_
 refine go_seq_k fun K2 hK2 => ?_
 refine go_region ?_
 obtain ⟨t4, hx5, H⟩ := bind_some H
 refine go_call hs (op := (Op.call { callee := (Callee.value (Operand.func 8)), args := #[], argTypes := #[] })) (ty := 4) (dst := some 17) (g := none) (by kernel_rfl) (by kernel_rfl) (by kernel_rfl) (f := 8) (args := #[]) (by kernel_rfl) (rivetlaw07_shown.calls t4 _ hx5) ?_
 rintro e wd6 ⟨rfl, hw7⟩
 refine ⟨_, rfl, ?_⟩
 replace hw := hw.call hw7
 intro a hs1
 replace hs : Slots a 81 [(0, .slice A0 l0.length c0), (1, .slice A1 l1.length c1), (2, .int .i64 a2), (17, .bool t4)] := hs1.keep [0, 1, 2, 17] (by kernel_rfl)
 clear hs1
 refine go_pvs 1 2 [0, 1, 2, 7] hs (L' := [(0, .slice A0 l0.length c0), (1, .slice A1 l1.length c1), (2, .int .i64 a2), (7, .bool t4)]) (by kernel_rfl) ?_ rfl
 clear hs; intro a hs
 refine go_end (by kernel_rfl) ?_
 refine hK2 _ _ ?_
 refine go_seq_k fun K8 hK8 => ?_
 refine go_seq_k fun K9 hK9 => ?_
 refine go_region ?_
 refine go_pvs 0 1 [0, 1, 2, 7, 8] hs (L' := [(0, .slice A0 l0.length c0), (1, .slice A1 l1.length c1), (2, .int .i64 a2), (7, .bool t4), (8, .int .i64 0)]) (by kernel_rfl) ?_ rfl
 clear hs; intro a hs
 refine go_end (by kernel_rfl) ?_
 refine hK9 _ _ ?_
 refine wp_block ?_
 obtain ⟨e10, hl10, HX10⟩ := bind_some H
 have hJ3 : ∀ (a : Act) (w : World), Slots a 81 [(0, .slice A0 l0.length c0), (1, .slice A1 l1.length c1), (2, .int .i64 a2), (7, .bool t4)] → St [] w0 w [] → rivetlaw07_LeAll.j3 l1 a2 t4 l0 = some r → K8 a w := by
  intro a w hs hw H
  unfold rivetlaw07_LeAll.j3 at H
  refine hK8 _ _ ?_
  refine go_seq_k fun K66 hK66 => ?_
  refine go_region ?_
  refine go_pvs 0 1 [0, 1, 2, 7, 46] hs (L' := [(0, .slice A0 l0.length c0), (1, .slice A1 l1.length c1), (2, .int .i64 a2), (7, .bool t4), (46, .slice A1 l1.length c1)]) (by kernel_rfl) ?_ rfl
  clear hs; intro a hs
  refine go_inline_k hs (op := (Op.call { callee := (Callee.value (Operand.func 12)), args := #[(Operand.tmp 46)], argTypes := #[22] })) (ty := 22) (dst := some 47) (g := none) (by kernel_rfl) (by kernel_rfl) (by kernel_rfl) (f := 12) (args := #[.slice A1 l1.length c1]) (by kernel_rfl) (fun KR67 hKR67 => ?_)
  refine go_fn Tryd.func12 rfl 8 Tryd.ntmps12 [(0, .slice A1 l1.length c1)] (by kernel_rfl) rfl ?_
  clear hs; intro a hs
  refine go_seq_k fun K68 hK68 => ?_
  refine go_region ?_
  refine go_pvs 0 1 [0] hs (L' := [(0, .slice A1 l1.length c1)]) (by kernel_rfl) ?_ rfl
  clear hs; intro a hs
  refine go_end (by kernel_rfl) ?_
  refine hK68 _ _ ?_
  refine go_seq_k fun K69 hK69 => ?_
  refine go_region ?_
  refine go_pvs 0 4 [3, 6] hs (L' := [(3, .slice A1 l1.length c1), (6, .int .i64 (mnn (l1.length : Int) 200))]) (by kernel_rfl) ?_ rfl
  clear hs; intro a hs
  obtain ⟨hp70, H⟩ := ite_only H
  obtain ⟨Aa71, cc72, hx73, hc74⟩ := c_hi (P := Tryd.prog) (ty := 22) (E := (eI .u8)) (T := 5) (t := 22) (x := (Operand.tmp 3)) (y := (Operand.tmp 6)) (k := .i64) hs (by kernel_rfl) (by kernel_rfl) (hr1.old hw) (by kernel_rfl) (by kernel_rfl) hp70.1 hp70.2
  refine go_run hs (op := (Op.slice 22 (Operand.tmp 3) none (some (Operand.tmp 6)) none)) (ty := 22) (dst := some 7) (g := none) (by kernel_rfl) (by kernel_rfl) (by kernel_rfl) hx73 [7] (L' := [(7, .slice Aa71 (l1.take (mnn (l1.length : Int) 200 : Int).toNat).length cc72)]) (by kernel_rfl) ?_
  clear hs; intro a hs
  refine go_pvs 5 6 [2] hs (L' := [(2, .slice Aa71 (l1.take (mnn (l1.length : Int) 200 : Int).toNat).length cc72)]) (by kernel_rfl) ?_ rfl
  clear hs; intro a hs
  refine go_end (by kernel_rfl) ?_
  refine hK69 _ _ ?_
  refine wp_ret ?_
  refine ret1 (t := 2) (v := .slice Aa71 (l1.take (mnn (l1.length : Int) 200 : Int).toNat).length cc72) hs (by kernel_rfl) (by kernel_rfl) ?_
  refine ⟨_, rfl, ?_⟩
  refine hKR67 _ _ ?_
  intro a hs1
  have hs : Slots a _ [(0, .slice A0 l0.length c0), (1, .slice A1 l1.length c1), (2, .int .i64 a2), (7, .bool t4), (47, .slice Aa71 (l1.take (mnn (l1.length : Int) 200 : Int).toNat).length cc72)] := hs1.keep [0, 1, 2, 7, 47] (by kernel_rfl)
  clear hs1
  refine go_pvs 2 3 [0, 1, 2, 7, 47, 48] hs (L' := [(0, .slice A0 l0.length c0), (1, .slice A1 l1.length c1), (2, .int .i64 a2), (7, .bool t4), (47, .slice Aa71 (l1.take (mnn (l1.length : Int) 200 : Int).toNat).length cc72), (48, .int .i64 a2)]) (by kernel_rfl) ?_ rfl
  clear hs; intro a hs
  obtain ⟨⟨t77, t78⟩, hx79, H⟩ := bind_some H
  refine go_call hs (op := (Op.call { callee := (Callee.value (Operand.func 16)), args := #[(Operand.tmp 47), (Operand.tmp 48)], argTypes := #[22, 3] })) (ty := 33) (dst := some 49) (g := none) (by kernel_rfl) (by kernel_rfl) (by kernel_rfl) (f := 16) (args := #[.slice Aa71 (l1.take (mnn (l1.length : Int) 200 : Int).toNat).length cc72, .int .i64 a2]) (by kernel_rfl) (le_Take.calls Aa71 cc72 (l1.take (mnn (l1.length : Int) 200 : Int).toNat) a2 (t77, t78) _ (hc74 _ (hr1.old hw)) hx79) ?_
  rintro e wd82 ⟨Aa80, cc81, rfl, hw83⟩
  refine ⟨_, rfl, ?_⟩
  replace hw := hw.call hw83
  intro a hs1
  replace hs : Slots a 81 [(0, .slice A0 l0.length c0), (1, .slice A1 l1.length c1), (2, .int .i64 a2), (7, .bool t4), (49, .tuple #[.slice Aa80 t77.length cc81, .int .i64 t78])] := hs1.keep [0, 1, 2, 7, 49] (by kernel_rfl)
  clear hs1
  refine go_pvs 4 9 [0, 1, 2, 7, 13, 14] hs (L' := [(0, .slice A0 l0.length c0), (1, .slice A1 l1.length c1), (2, .int .i64 a2), (7, .bool t4), (13, .slice Aa80 t77.length cc81), (14, .int .i64 t78)]) (by kernel_rfl) ?_ rfl
  clear hs; intro a hs
  refine go_end (by kernel_rfl) ?_
  refine hK66 _ _ ?_
  refine go_seq_k fun K85 hK85 => ?_
  refine go_region ?_
  refine go_pvs 0 1 [0, 2, 7, 13, 14, 53] hs (L' := [(0, .slice A0 l0.length c0), (2, .int .i64 a2), (7, .bool t4), (13, .slice Aa80 t77.length cc81), (14, .int .i64 t78), (53, .slice A1 l1.length c1)]) (by kernel_rfl) ?_ rfl
  clear hs; intro a hs
  refine go_inline_k hs (op := (Op.call { callee := (Callee.value (Operand.func 12)), args := #[(Operand.tmp 53)], argTypes := #[22] })) (ty := 22) (dst := some 54) (g := none) (by kernel_rfl) (by kernel_rfl) (by kernel_rfl) (f := 12) (args := #[.slice A1 l1.length c1]) (by kernel_rfl) (fun KR86 hKR86 => ?_)
  refine go_fn Tryd.func12 rfl 8 Tryd.ntmps12 [(0, .slice A1 l1.length c1)] (by kernel_rfl) rfl ?_
  clear hs; intro a hs
  refine go_seq_k fun K87 hK87 => ?_
  refine go_region ?_
  refine go_pvs 0 1 [0] hs (L' := [(0, .slice A1 l1.length c1)]) (by kernel_rfl) ?_ rfl
  clear hs; intro a hs
  refine go_end (by kernel_rfl) ?_
  refine hK87 _ _ ?_
  refine go_seq_k fun K88 hK88 => ?_
  refine go_region ?_
  refine go_pvs 0 4 [3, 6] hs (L' := [(3, .slice A1 l1.length c1), (6, .int .i64 (mnn (l1.length : Int) 200))]) (by kernel_rfl) ?_ rfl
  clear hs; intro a hs
  obtain ⟨hp89, H⟩ := ite_only H
  obtain ⟨Aa90, cc91, hx92, hc93⟩ := c_hi (P := Tryd.prog) (ty := 22) (E := (eI .u8)) (T := 5) (t := 22) (x := (Operand.tmp 3)) (y := (Operand.tmp 6)) (k := .i64) hs (by kernel_rfl) (by kernel_rfl) (hr1.old hw) (by kernel_rfl) (by kernel_rfl) hp89.1 hp89.2
  refine go_run hs (op := (Op.slice 22 (Operand.tmp 3) none (some (Operand.tmp 6)) none)) (ty := 22) (dst := some 7) (g := none) (by kernel_rfl) (by kernel_rfl) (by kernel_rfl) hx92 [7] (L' := [(7, .slice Aa90 (l1.take (mnn (l1.length : Int) 200 : Int).toNat).length cc91)]) (by kernel_rfl) ?_
  clear hs; intro a hs
  refine go_pvs 5 6 [2] hs (L' := [(2, .slice Aa90 (l1.take (mnn (l1.length : Int) 200 : Int).toNat).length cc91)]) (by kernel_rfl) ?_ rfl
  clear hs; intro a hs
  refine go_end (by kernel_rfl) ?_
  refine hK88 _ _ ?_
  refine wp_ret ?_
  refine ret1 (t := 2) (v := .slice Aa90 (l1.take (mnn (l1.length : Int) 200 : Int).toNat).length cc91) hs (by kernel_rfl) (by kernel_rfl) ?_
  refine ⟨_, rfl, ?_⟩
  refine hKR86 _ _ ?_
  intro a hs1
  have hs : Slots a _ [(0, .slice A0 l0.length c0), (2, .int .i64 a2), (7, .bool t4), (13, .slice Aa80 t77.length cc81), (14, .int .i64 t78), (54, .slice Aa90 (l1.take (mnn (l1.length : Int) 200 : Int).toNat).length cc91)] := hs1.keep [0, 2, 7, 13, 14, 54] (by kernel_rfl)
  clear hs1
  refine go_pvs 2 3 [0, 7, 13, 14, 54, 55] hs (L' := [(0, .slice A0 l0.length c0), (7, .bool t4), (13, .slice Aa80 t77.length cc81), (14, .int .i64 t78), (54, .slice Aa90 (l1.take (mnn (l1.length : Int) 200 : Int).toNat).length cc91), (55, .int .i64 a2)]) (by kernel_rfl) ?_ rfl
  clear hs; intro a hs
  obtain ⟨⟨t96, t97⟩, hx98, H⟩ := bind_some H
  refine go_call hs (op := (Op.call { callee := (Callee.value (Operand.func 17)), args := #[(Operand.tmp 54), (Operand.tmp 55)], argTypes := #[22, 3] })) (ty := 33) (dst := some 56) (g := none) (by kernel_rfl) (by kernel_rfl) (by kernel_rfl) (f := 17) (args := #[.slice Aa90 (l1.take (mnn (l1.length : Int) 200 : Int).toNat).length cc91, .int .i64 a2]) (by kernel_rfl) (rivetref07_Take.calls Aa90 cc91 (l1.take (mnn (l1.length : Int) 200 : Int).toNat) a2 (t96, t97) _ (hc93 _ (hr1.old hw)) hx98) ?_
  rintro e wd101 ⟨Aa99, cc100, rfl, hw102⟩
  refine ⟨_, rfl, ?_⟩
  replace hw := hw.call hw102
  intro a hs1
  replace hs : Slots a 81 [(0, .slice A0 l0.length c0), (7, .bool t4), (13, .slice Aa80 t77.length cc81), (14, .int .i64 t78), (56, .tuple #[.slice Aa99 t96.length cc100, .int .i64 t97])] := hs1.keep [0, 7, 13, 14, 56] (by kernel_rfl)
  clear hs1
  refine go_pvs 4 9 [0, 7, 13, 14, 15, 16] hs (L' := [(0, .slice A0 l0.length c0), (7, .bool t4), (13, .slice Aa80 t77.length cc81), (14, .int .i64 t78), (15, .slice Aa99 t96.length cc100), (16, .int .i64 t97)]) (by kernel_rfl) ?_ rfl
  clear hs; intro a hs
  refine go_end (by kernel_rfl) ?_
  refine hK85 _ _ ?_
  refine go_seq_k fun K104 hK104 => ?_
  have hJ4 : ∀ (v147 : Bool) (a : Act) (w : World), Slots a 81 [(6, .bool v147)] → St [] w0 w [own 43 (eI .u32) Aa99 cc100 t96, own 43 (eI .u32) Aa80 cc81 t77] → rivetlaw07_LeAll.j4 v147 = some r → K104 a w := by
   intro v147 a w hs hw H
   unfold rivetlaw07_LeAll.j4 at H
   refine hK104 _ _ ?_
   refine wp_ret ?_
   obtain rfl := Option.some.inj H
   refine ret1 (t := 6) (v := .bool v147) hs (by kernel_rfl) (by kernel_rfl) ?_
   exact ⟨rfl, hw.only 0⟩
  refine c_region [(true, [0, 1, 2, 6], 3), (true, [], 4), (true, [5], 7), (true, [], 8), (true, [9, 10, 11, 12, 13, 14], 15)] [16, 17, 18, 19, 20, 21, 22] (by kernel_rfl) (by kernel_rfl) (fun c a d v w h => by cases d <;> exact h) ?_
  refine c_seg ?_
  refine c_pvs [0, 1] [2, 6] [0, 13, 14, 15, 16, 60] hs (L' := [(0, .slice A0 l0.length c0), (13, .slice Aa80 t77.length cc81), (14, .int .i64 t78), (15, .slice Aa99 t96.length cc100), (16, .int .i64 t97), (60, .bool t4)]) (by kernel_rfl) ?_ (by kernel_rfl)
  clear hs; intro a hs
  cases hb105 : t4
  ·replace H := ite_f H (ff hb105)
   rw [hb105] at hs
   refine c_pvs [2, 6] [] [13, 14, 15, 16, 60, 61, 65] hs (L' := [(13, .slice Aa80 t77.length cc81), (14, .int .i64 t78), (15, .slice Aa99 t96.length cc100), (16, .int .i64 t97), (60, .bool false), (61, undef), (65, undef)]) (by kernel_rfl) ?_ (by kernel_rfl)
   clear hs; intro a hs
   refine c_end ?_
   intro wq hbq
   replace hw := hw.behind hbq
   have hbc := Below.refl wq.heap.size wq
   refine p_pvs [3] [] [13, 14, 15, 16, 60, 62, 65] hs (L' := [(13, .slice Aa80 t77.length cc81), (14, .int .i64 t78), (15, .slice Aa99 t96.length cc100), (16, .int .i64 t97), (60, .bool false), (62, undef), (65, undef)]) (by kernel_rfl) ?_
   clear hs; intro a hs
   refine c_done ⟨bl_of hbq hbc, ?_⟩
   clear hbc hbq
   refine c_seg ?_
   refine c_end ?_
   intro wq hbq
   replace hw := hw.behind hbq
   have hbc := Below.refl wq.heap.size wq
   refine p_pvs [4] [] [13, 14, 15, 16, 60, 63, 65] hs (L' := [(13, .slice Aa80 t77.length cc81), (14, .int .i64 t78), (15, .slice Aa99 t96.length cc100), (16, .int .i64 t97), (60, .bool false), (63, undef), (65, undef)]) (by kernel_rfl) ?_
   clear hs; intro a hs
   refine c_done ⟨bl_of hbq hbc, ?_⟩
   clear hbc hbq
   refine c_seg ?_
   refine c_pvs [5] [] [13, 14, 15, 16, 60, 64, 65] hs (L' := [(13, .slice Aa80 t77.length cc81), (14, .int .i64 t78), (15, .slice Aa99 t96.length cc100), (16, .int .i64 t97), (60, .bool false), (64, undef), (65, undef)]) (by kernel_rfl) ?_ (by kernel_rfl)
   clear hs; intro a hs
   refine c_end ?_
   intro wq hbq
   replace hw := hw.behind hbq
   have hbc := Below.refl wq.heap.size wq
   refine p_pvs [7] [] [13, 14, 15, 16, 60, 64, 66] hs (L' := [(13, .slice Aa80 t77.length cc81), (14, .int .i64 t78), (15, .slice Aa99 t96.length cc100), (16, .int .i64 t97), (60, .bool false), (64, undef), (66, undef)]) (by kernel_rfl) ?_
   clear hs; intro a hs
   refine c_done ⟨bl_of hbq hbc, ?_⟩
   clear hbc hbq
   refine c_seg ?_
   refine c_end ?_
   intro wq hbq
   replace hw := hw.behind hbq
   have hbc := Below.refl wq.heap.size wq
   refine p_pvs [8] [] [13, 14, 15, 16, 60, 64, 67] hs (L' := [(13, .slice Aa80 t77.length cc81), (14, .int .i64 t78), (15, .slice Aa99 t96.length cc100), (16, .int .i64 t97), (60, .bool false), (64, undef), (67, undef)]) (by kernel_rfl) ?_
   clear hs; intro a hs
   refine c_done ⟨bl_of hbq hbc, ?_⟩
   clear hbc hbq
   refine c_seg ?_
   refine c_pvs [9, 10, 11, 12, 13, 14] [] [14, 16, 71, 72, 73] hs (L' := [(14, .int .i64 t78), (16, .int .i64 t97), (71, .bool false), (72, undef), (73, undef)]) (by kernel_rfl) ?_ (by kernel_rfl)
   clear hs; intro a hs
   refine c_end ?_
   intro wq hbq
   replace hw := hw.behind hbq
   have hbc := Below.refl wq.heap.size wq
   refine p_pvs [15] [] [14, 16, 71, 74] hs (L' := [(14, .int .i64 t78), (16, .int .i64 t97), (71, .bool false), (74, undef)]) (by kernel_rfl) ?_
   clear hs; intro a hs
   refine c_done ⟨bl_of hbq hbc, ?_⟩
   clear hbc hbq
   refine c_last ?_
   refine c_pvs [16, 17, 18, 19, 20, 21, 22] [] [6] hs (L' := [(6, .bool false)]) (by kernel_rfl) ?_ (by kernel_rfl)
   clear hs; intro a hs
   refine c_end ?_
   intro wq hbq
   replace hw := hw.behind hbq
   replace hw := hw.up 1
   replace hw := hw.up 1
   replace hw := hw.only 2
   exact hJ4 false _ _ (hs.keep [6] (by kernel_rfl)) hw H
  ·replace H := ite_t H hb105
   rw [hb105] at hs
   refine c_pvs [2, 6] [] [13, 14, 15, 16, 60, 61, 65] hs (L' := [(13, .slice Aa80 t77.length cc81), (14, .int .i64 t78), (15, .slice Aa99 t96.length cc100), (16, .int .i64 t97), (60, .bool true), (61, .slice A0 l0.length c0), (65, .slice A0 l0.length c0)]) (by kernel_rfl) ?_ (by kernel_rfl)
   clear hs; intro a hs
   refine c_end ?_
   intro wq hbq
   replace hw := hw.behind hbq
   have hbc := Below.refl wq.heap.size wq
   refine p_inline_k hs (op := (Op.call { callee := (Callee.value (Operand.func 20)), args := #[(Operand.tmp 61)], argTypes := #[32] })) (ty := 32) (dst := some 62) (g := some (1, true)) (by kernel_rfl) (by kernel_rfl) (by kernel_rfl) (f := 20) (args := #[.slice A0 l0.length c0]) (by kernel_rfl) (fun KR106 hKR106 => ?_)
   refine go_fn Tryd.func20 rfl 8 Tryd.ntmps20 [(0, .slice A0 l0.length c0)] (by kernel_rfl) rfl ?_
   clear hs; intro a hs
   refine go_seq_k fun K107 hK107 => ?_
   refine go_region ?_
   refine go_pvs 0 1 [0] hs (L' := [(0, .slice A0 l0.length c0)]) (by kernel_rfl) ?_ rfl
   clear hs; intro a hs
   refine go_end (by kernel_rfl) ?_
   refine hK107 _ _ ?_
   refine go_seq_k fun K108 hK108 => ?_
   refine go_region ?_
   refine go_pvs 0 4 [3, 6] hs (L' := [(3, .slice A0 l0.length c0), (6, .int .i64 (mnn (l0.length : Int) 40))]) (by kernel_rfl) ?_ rfl
   clear hs; intro a hs
   obtain ⟨hp109, H⟩ := ite_only H
   obtain ⟨Aa110, cc111, hx112, hc113⟩ := c_hi (P := Tryd.prog) (ty := 32) (E := (eI .u32)) (T := 43) (t := 32) (x := (Operand.tmp 3)) (y := (Operand.tmp 6)) (k := .i64) hs (by kernel_rfl) (by kernel_rfl) (hr0.old hw) (by kernel_rfl) (by kernel_rfl) hp109.1 hp109.2
   refine go_run hs (op := (Op.slice 32 (Operand.tmp 3) none (some (Operand.tmp 6)) none)) (ty := 32) (dst := some 7) (g := none) (by kernel_rfl) (by kernel_rfl) (by kernel_rfl) hx112 [7] (L' := [(7, .slice Aa110 (l0.take (mnn (l0.length : Int) 40 : Int).toNat).length cc111)]) (by kernel_rfl) ?_
   clear hs; intro a hs
   refine go_pvs 5 6 [2] hs (L' := [(2, .slice Aa110 (l0.take (mnn (l0.length : Int) 40 : Int).toNat).length cc111)]) (by kernel_rfl) ?_ rfl
   clear hs; intro a hs
   refine go_end (by kernel_rfl) ?_
   refine hK108 _ _ ?_
   refine wp_ret ?_
   refine ret1 (t := 2) (v := .slice Aa110 (l0.take (mnn (l0.length : Int) 40 : Int).toNat).length cc111) hs (by kernel_rfl) (by kernel_rfl) ?_
   refine ⟨_, rfl, ?_⟩
   refine hKR106 _ _ ?_
   intro a hs1
   have hs : Slots a _ [(13, .slice Aa80 t77.length cc81), (14, .int .i64 t78), (15, .slice Aa99 t96.length cc100), (16, .int .i64 t97), (60, .bool true), (62, .slice Aa110 (l0.take (mnn (l0.length : Int) 40 : Int).toNat).length cc111), (65, .slice A0 l0.length c0)] := hs1.keep [13, 14, 15, 16, 60, 62, 65] (by kernel_rfl)
   clear hs1
   refine c_done ⟨bl_of hbq hbc, ?_⟩
   clear hbc hbq
   refine c_seg ?_
   refine c_end ?_
   intro wq hbq
   replace hw := hw.behind hbq
   have hbc := Below.refl wq.heap.size wq
   obtain ⟨t116, hx117, H⟩ := bind_some H
   refine p_call hs (op := (Op.call { callee := (Callee.value (Operand.func 19)), args := #[(Operand.tmp 62)], argTypes := #[32] })) (ty := 22) (dst := some 63) (g := some (1, true)) (by kernel_rfl) (by kernel_rfl) (by kernel_rfl) (f := 19) (args := #[.slice Aa110 (l0.take (mnn (l0.length : Int) 40 : Int).toNat).length cc111]) (by kernel_rfl) (le_Put.calls Aa110 cc111 (l0.take (mnn (l0.length : Int) 40 : Int).toNat) t116 _ (hc113 _ (hr0.old hw)) hx117) ?_
   rintro e wd120 ⟨Aa118, cc119, rfl, hw121⟩
   refine ⟨_, rfl, ?_⟩
   replace hbc := hw121.below
   replace hw := hw.call hw121
   intro a hs1
   replace hs : Slots a 81 [(13, .slice Aa80 t77.length cc81), (14, .int .i64 t78), (15, .slice Aa99 t96.length cc100), (16, .int .i64 t97), (60, .bool true), (63, .slice Aa118 t116.length cc119), (65, .slice A0 l0.length c0)] := hs1.keep [13, 14, 15, 16, 60, 63, 65] (by kernel_rfl)
   clear hs1
   refine c_done ⟨bl_of hbq hbc, ?_⟩
   clear hbc hbq
   refine c_seg ?_
   refine c_run hs (op := (Op.convert 22 9 (Operand.tmp 63))) (ty := 9) (dst := some 64) (g := some (1, true)) (by kernel_rfl) (by kernel_rfl) (by kernel_rfl) (fun wx hbx => (x_conv (e := 5) (l := t116) ((Rd.of_own (hw.up 0)).below hbx) (by kernel_rfl) (by kernel_rfl) (by kernel_rfl) (by kernel_rfl))) [13, 14, 15, 16, 60, 64, 65] (L' := [(13, .slice Aa80 t77.length cc81), (14, .int .i64 t78), (15, .slice Aa99 t96.length cc100), (16, .int .i64 t97), (60, .bool true), (64, .string (strOfNums t116)), (65, .slice A0 l0.length c0)]) (by kernel_rfl) ?_
   clear hs; intro a hs
   refine c_end ?_
   intro wq hbq
   replace hw := hw.behind hbq
   have hbc := Below.refl wq.heap.size wq
   refine p_inline_k hs (op := (Op.call { callee := (Callee.value (Operand.func 20)), args := #[(Operand.tmp 65)], argTypes := #[32] })) (ty := 32) (dst := some 66) (g := some (1, true)) (by kernel_rfl) (by kernel_rfl) (by kernel_rfl) (f := 20) (args := #[.slice A0 l0.length c0]) (by kernel_rfl) (fun KR123 hKR123 => ?_)
   refine go_fn Tryd.func20 rfl 8 Tryd.ntmps20 [(0, .slice A0 l0.length c0)] (by kernel_rfl) rfl ?_
   clear hs; intro a hs
   refine go_seq_k fun K124 hK124 => ?_
   refine go_region ?_
   refine go_pvs 0 1 [0] hs (L' := [(0, .slice A0 l0.length c0)]) (by kernel_rfl) ?_ rfl
   clear hs; intro a hs
   refine go_end (by kernel_rfl) ?_
   refine hK124 _ _ ?_
   refine go_seq_k fun K125 hK125 => ?_
   refine go_region ?_
   refine go_pvs 0 4 [3, 6] hs (L' := [(3, .slice A0 l0.length c0), (6, .int .i64 (mnn (l0.length : Int) 40))]) (by kernel_rfl) ?_ rfl
   clear hs; intro a hs
   obtain ⟨hp126, H⟩ := ite_only H
   obtain ⟨Aa127, cc128, hx129, hc130⟩ := c_hi (P := Tryd.prog) (ty := 32) (E := (eI .u32)) (T := 43) (t := 32) (x := (Operand.tmp 3)) (y := (Operand.tmp 6)) (k := .i64) hs (by kernel_rfl) (by kernel_rfl) (hr0.old hw) (by kernel_rfl) (by kernel_rfl) hp126.1 hp126.2
   refine go_run hs (op := (Op.slice 32 (Operand.tmp 3) none (some (Operand.tmp 6)) none)) (ty := 32) (dst := some 7) (g := none) (by kernel_rfl) (by kernel_rfl) (by kernel_rfl) hx129 [7] (L' := [(7, .slice Aa127 (l0.take (mnn (l0.length : Int) 40 : Int).toNat).length cc128)]) (by kernel_rfl) ?_
   clear hs; intro a hs
   refine go_pvs 5 6 [2] hs (L' := [(2, .slice Aa127 (l0.take (mnn (l0.length : Int) 40 : Int).toNat).length cc128)]) (by kernel_rfl) ?_ rfl
   clear hs; intro a hs
   refine go_end (by kernel_rfl) ?_
   refine hK125 _ _ ?_
   refine wp_ret ?_
   refine ret1 (t := 2) (v := .slice Aa127 (l0.take (mnn (l0.length : Int) 40 : Int).toNat).length cc128) hs (by kernel_rfl) (by kernel_rfl) ?_
   refine ⟨_, rfl, ?_⟩
   refine hKR123 _ _ ?_
   intro a hs1
   have hs : Slots a _ [(13, .slice Aa80 t77.length cc81), (14, .int .i64 t78), (15, .slice Aa99 t96.length cc100), (16, .int .i64 t97), (60, .bool true), (64, .string (strOfNums t116)), (66, .slice Aa127 (l0.take (mnn (l0.length : Int) 40 : Int).toNat).length cc128)] := hs1.keep [13, 14, 15, 16, 60, 64, 66] (by kernel_rfl)
   clear hs1
   refine c_done ⟨bl_of hbq hbc, ?_⟩
   clear hbc hbq
   refine c_seg ?_
   refine c_end ?_
   intro wq hbq
   replace hw := hw.behind hbq
   have hbc := Below.refl wq.heap.size wq
   obtain ⟨t133, hx134, H⟩ := bind_some H
   refine p_call hs (op := (Op.call { callee := (Callee.value (Operand.func 21)), args := #[(Operand.tmp 66)], argTypes := #[32] })) (ty := 22) (dst := some 67) (g := some (1, true)) (by kernel_rfl) (by kernel_rfl) (by kernel_rfl) (f := 21) (args := #[.slice Aa127 (l0.take (mnn (l0.length : Int) 40 : Int).toNat).length cc128]) (by kernel_rfl) (rivetref07_Put.calls Aa127 cc128 (l0.take (mnn (l0.length : Int) 40 : Int).toNat) t133 _ (hc130 _ (hr0.old hw)) hx134) ?_
   rintro e wd137 ⟨Aa135, cc136, rfl, hw138⟩
   refine ⟨_, rfl, ?_⟩
   replace hbc := hw138.below
   replace hw := hw.call hw138
   intro a hs1
   replace hs : Slots a 81 [(13, .slice Aa80 t77.length cc81), (14, .int .i64 t78), (15, .slice Aa99 t96.length cc100), (16, .int .i64 t97), (60, .bool true), (64, .string (strOfNums t116)), (67, .slice Aa135 t133.length cc136)] := hs1.keep [13, 14, 15, 16, 60, 64, 67] (by kernel_rfl)
   clear hs1
   refine c_done ⟨bl_of hbq hbc, ?_⟩
   clear hbc hbq
   refine c_seg ?_
   refine c_run hs (op := (Op.convert 22 9 (Operand.tmp 67))) (ty := 9) (dst := some 68) (g := some (1, true)) (by kernel_rfl) (by kernel_rfl) (by kernel_rfl) (fun wx hbx => (x_conv (e := 5) (l := t133) ((Rd.of_own (hw.up 0)).below hbx) (by kernel_rfl) (by kernel_rfl) (by kernel_rfl) (by kernel_rfl))) [13, 14, 15, 16, 60, 64, 68] (L' := [(13, .slice Aa80 t77.length cc81), (14, .int .i64 t78), (15, .slice Aa99 t96.length cc100), (16, .int .i64 t97), (60, .bool true), (64, .string (strOfNums t116)), (68, .string (strOfNums t133))]) (by kernel_rfl) ?_
   clear hs; intro a hs
   refine c_pvs [10, 11, 12] [13, 14] [13, 14, 15, 16, 71] hs (L' := [(13, .slice Aa80 t77.length cc81), (14, .int .i64 t78), (15, .slice Aa99 t96.length cc100), (16, .int .i64 t97), (71, .bool ((strOfNums t116).toList == (strOfNums t133).toList))]) (by kernel_rfl) ?_ (by kernel_rfl)
   clear hs; intro a hs
   cases hb140 : ((strOfNums t116).toList == (strOfNums t133).toList)
   ·replace H := ite_f H (ff hb140)
    rw [hb140] at hs
    refine c_pvs [13, 14] [] [14, 16, 71, 72, 73] hs (L' := [(14, .int .i64 t78), (16, .int .i64 t97), (71, .bool false), (72, undef), (73, undef)]) (by kernel_rfl) ?_ (by kernel_rfl)
    clear hs; intro a hs
    refine c_end ?_
    intro wq hbq
    replace hw := hw.behind hbq
    have hbc := Below.refl wq.heap.size wq
    refine p_pvs [15] [] [14, 16, 71, 74] hs (L' := [(14, .int .i64 t78), (16, .int .i64 t97), (71, .bool false), (74, undef)]) (by kernel_rfl) ?_
    clear hs; intro a hs
    refine c_done ⟨bl_of hbq hbc, ?_⟩
    clear hbc hbq
    refine c_last ?_
    refine c_pvs [16, 17, 18, 19, 20, 21, 22] [] [6] hs (L' := [(6, .bool false)]) (by kernel_rfl) ?_ (by kernel_rfl)
    clear hs; intro a hs
    refine c_end ?_
    intro wq hbq
    replace hw := hw.behind hbq
    replace hw := hw.up 3
    replace hw := hw.up 3
    replace hw := hw.only 2
    exact hJ4 false _ _ (hs.keep [6] (by kernel_rfl)) hw H
   ·replace H := ite_t H hb140
    rw [hb140] at hs
    refine c_pvs [13, 14] [] [14, 16, 71, 72, 73] hs (L' := [(14, .int .i64 t78), (16, .int .i64 t97), (71, .bool true), (72, .slice Aa80 t77.length cc81), (73, .slice Aa99 t96.length cc100)]) (by kernel_rfl) ?_ (by kernel_rfl)
    clear hs; intro a hs
    refine c_end ?_
    intro wq hbq
    replace hw := hw.behind hbq
    have hbc := Below.refl wq.heap.size wq
    obtain ⟨t142, hx143, H⟩ := bind_some H
    refine p_call hs (op := (Op.call { callee := (Callee.value (Operand.func 18)), args := #[(Operand.tmp 72), (Operand.tmp 73)], argTypes := #[32, 32] })) (ty := 4) (dst := some 74) (g := some (12, true)) (by kernel_rfl) (by kernel_rfl) (by kernel_rfl) (f := 18) (args := #[.slice Aa80 t77.length cc81, .slice Aa99 t96.length cc100]) (by kernel_rfl) (rivetref05_Same.calls Aa80 cc81 t77 Aa99 cc100 t96 t142 _ (Rd.of_own (hw.up 3)) (Rd.of_own (hw.up 2)) hx143) ?_
    rintro e wd144 ⟨rfl, hw145⟩
    refine ⟨_, rfl, ?_⟩
    replace hbc := hw145.below
    replace hw := hw.call hw145
    intro a hs1
    replace hs : Slots a 81 [(14, .int .i64 t78), (16, .int .i64 t97), (71, .bool true), (74, .bool t142)] := hs1.keep [14, 16, 71, 74] (by kernel_rfl)
    clear hs1
    refine c_done ⟨bl_of hbq hbc, ?_⟩
    clear hbc hbq
    refine c_last ?_
    refine c_pvs [16, 17] [18, 19, 20, 21, 22] [14, 16, 76] hs (L' := [(14, .int .i64 t78), (16, .int .i64 t97), (76, .bool t142)]) (by kernel_rfl) ?_ (by kernel_rfl)
    clear hs; intro a hs
    cases hb146 : t142
    ·replace H := ite_f H (ff hb146)
     rw [hb146] at hs
     refine c_pvs [18, 19, 20, 21, 22] [] [6] hs (L' := [(6, .bool false)]) (by kernel_rfl) ?_ (by kernel_rfl)
     clear hs; intro a hs
     refine c_end ?_
     intro wq hbq
     replace hw := hw.behind hbq
     replace hw := hw.up 3
     replace hw := hw.up 3
     replace hw := hw.only 2
     exact hJ4 false _ _ (hs.keep [6] (by kernel_rfl)) hw H
    ·replace H := ite_t H hb146
     rw [hb146] at hs
     refine c_pvs [18, 19, 20, 21, 22] [] [6] hs (L' := [(6, .bool (t78 == t97))]) (by kernel_rfl) ?_ (by kernel_rfl)
     clear hs; intro a hs
     refine c_end ?_
     intro wq hbq
     replace hw := hw.behind hbq
     replace hw := hw.up 3
     replace hw := hw.up 3
     replace hw := hw.only 2
     exact hJ4 (t78 == t97) _ _ (hs.keep [6] (by kernel_rfl)) hw H
 clear H
 refine go_loop (σ := Int) (fun σ a w => Slots a 81 [(0, .slice A0 l0.length c0), (1, .slice A1 l1.length c1), (2, .int .i64 a2), (7, .bool t4), (8, .int .i64 σ)] ∧ St [] w0 w []) hl10 (by exact ⟨hs.keep [0, 1, 2, 7, 8] (by kernel_rfl), hw⟩) ?_
 rintro v11 a w ⟨hs, hw⟩ o H hr10
 replace hs : Slots a 81 [(0, .slice A0 l0.length c0), (1, .slice A1 l1.length c1), (2, .int .i64 a2), (7, .bool t4), (8, .int .i64 v11)] := hs
 replace hw : St [] w0 w [] := hw
 replace H : rivetlaw07_LeAll.b10 l1 v11 = some o := H
 unfold rivetlaw07_LeAll.b10 at H
 refine go_seq_k fun K12 hK12 => ?_
 refine go_seq_k fun K13 hK13 => ?_
 refine go_region ?_
 refine go_pvs 0 2 [0, 1, 2, 7, 8, 19] hs (L' := [(0, .slice A0 l0.length c0), (1, .slice A1 l1.length c1), (2, .int .i64 a2), (7, .bool t4), (8, .int .i64 v11), (19, .bool (decide (v11 < 60)))]) (by kernel_rfl) ?_ rfl
 clear hs; intro a hs
 refine go_end (by kernel_rfl) ?_
 refine hK13 _ _ ?_
 refine go_cond hs (decide (v11 < 60)) (by kernel_rfl) (fun hc => ?_) (fun hc => ?_)
 ·replace H := ite_t H (of_decide_eq_true hc)
  have hb14 := hc
  rw [hb14] at hs
  refine wp_skip ?_
  refine hK12 _ _ ?_
  refine go_seq_k fun K15 hK15 => ?_
  have hJ2 : ∀ (a : Act) (w : World), Slots a 81 [(0, .slice A0 l0.length c0), (1, .slice A1 l1.length c1), (2, .int .i64 a2), (7, .bool t4), (8, .int .i64 v11)] → St [] w0 w [] → rivetlaw07_LeAll.j2 v11 = some o → K15 a w := by
   intro a w hs hw H
   unfold rivetlaw07_LeAll.j2 at H
   refine hK15 _ _ ?_
   refine go_region ?_
   refine go_pvs 0 3 [0, 1, 2, 7, 8] hs (L' := [(0, .slice A0 l0.length c0), (1, .slice A1 l1.length c1), (2, .int .i64 a2), (7, .bool t4), (8, .int .i64 (w64 (v11 + 1)))]) (by kernel_rfl) ?_ rfl
   clear hs; intro a hs
   refine go_end (by kernel_rfl) ?_
   replace hw := hw.only 0
   exact round_end (w64 (v11 + 1)) (Option.some.inj H).symm ⟨hs.keep [0, 1, 2, 7, 8] (by kernel_rfl), hw⟩
  refine wp_block ?_
  refine go_seq_k fun K16 hK16 => ?_
  refine go_region ?_
  refine go_pvs 0 1 [0, 1, 2, 7, 8, 23] hs (L' := [(0, .slice A0 l0.length c0), (1, .slice A1 l1.length c1), (2, .int .i64 a2), (7, .bool t4), (8, .int .i64 v11), (23, .slice A1 l1.length c1)]) (by kernel_rfl) ?_ rfl
  clear hs; intro a hs
  refine go_inline_k hs (op := (Op.call { callee := (Callee.value (Operand.func 12)), args := #[(Operand.tmp 23)], argTypes := #[22] })) (ty := 22) (dst := some 24) (g := none) (by kernel_rfl) (by kernel_rfl) (by kernel_rfl) (f := 12) (args := #[.slice A1 l1.length c1]) (by kernel_rfl) (fun KR17 hKR17 => ?_)
  refine go_fn Tryd.func12 rfl 8 Tryd.ntmps12 [(0, .slice A1 l1.length c1)] (by kernel_rfl) rfl ?_
  clear hs; intro a hs
  refine go_seq_k fun K18 hK18 => ?_
  refine go_region ?_
  refine go_pvs 0 1 [0] hs (L' := [(0, .slice A1 l1.length c1)]) (by kernel_rfl) ?_ rfl
  clear hs; intro a hs
  refine go_end (by kernel_rfl) ?_
  refine hK18 _ _ ?_
  refine go_seq_k fun K19 hK19 => ?_
  refine go_region ?_
  refine go_pvs 0 4 [3, 6] hs (L' := [(3, .slice A1 l1.length c1), (6, .int .i64 (mnn (l1.length : Int) 200))]) (by kernel_rfl) ?_ rfl
  clear hs; intro a hs
  obtain ⟨hp20, H⟩ := ite_only H
  obtain ⟨Aa21, cc22, hx23, hc24⟩ := c_hi (P := Tryd.prog) (ty := 22) (E := (eI .u8)) (T := 5) (t := 22) (x := (Operand.tmp 3)) (y := (Operand.tmp 6)) (k := .i64) hs (by kernel_rfl) (by kernel_rfl) (hr1.old hw) (by kernel_rfl) (by kernel_rfl) hp20.1 hp20.2
  refine go_run hs (op := (Op.slice 22 (Operand.tmp 3) none (some (Operand.tmp 6)) none)) (ty := 22) (dst := some 7) (g := none) (by kernel_rfl) (by kernel_rfl) (by kernel_rfl) hx23 [7] (L' := [(7, .slice Aa21 (l1.take (mnn (l1.length : Int) 200 : Int).toNat).length cc22)]) (by kernel_rfl) ?_
  clear hs; intro a hs
  refine go_pvs 5 6 [2] hs (L' := [(2, .slice Aa21 (l1.take (mnn (l1.length : Int) 200 : Int).toNat).length cc22)]) (by kernel_rfl) ?_ rfl
  clear hs; intro a hs
  refine go_end (by kernel_rfl) ?_
  refine hK19 _ _ ?_
  refine wp_ret ?_
  refine ret1 (t := 2) (v := .slice Aa21 (l1.take (mnn (l1.length : Int) 200 : Int).toNat).length cc22) hs (by kernel_rfl) (by kernel_rfl) ?_
  refine ⟨_, rfl, ?_⟩
  refine hKR17 _ _ ?_
  intro a hs1
  have hs : Slots a _ [(0, .slice A0 l0.length c0), (1, .slice A1 l1.length c1), (2, .int .i64 a2), (7, .bool t4), (8, .int .i64 v11), (24, .slice Aa21 (l1.take (mnn (l1.length : Int) 200 : Int).toNat).length cc22)] := hs1.keep [0, 1, 2, 7, 8, 24] (by kernel_rfl)
  clear hs1
  refine go_pvs 2 3 [0, 1, 2, 7, 8, 24, 25] hs (L' := [(0, .slice A0 l0.length c0), (1, .slice A1 l1.length c1), (2, .int .i64 a2), (7, .bool t4), (8, .int .i64 v11), (24, .slice Aa21 (l1.take (mnn (l1.length : Int) 200 : Int).toNat).length cc22), (25, .int .i64 v11)]) (by kernel_rfl) ?_ rfl
  clear hs; intro a hs
  obtain ⟨⟨t27, t28⟩, hx29, H⟩ := bind_some H
  refine go_call hs (op := (Op.call { callee := (Callee.value (Operand.func 16)), args := #[(Operand.tmp 24), (Operand.tmp 25)], argTypes := #[22, 3] })) (ty := 33) (dst := some 26) (g := none) (by kernel_rfl) (by kernel_rfl) (by kernel_rfl) (f := 16) (args := #[.slice Aa21 (l1.take (mnn (l1.length : Int) 200 : Int).toNat).length cc22, .int .i64 v11]) (by kernel_rfl) (le_Take.calls Aa21 cc22 (l1.take (mnn (l1.length : Int) 200 : Int).toNat) v11 (t27, t28) _ (hc24 _ (hr1.old hw)) hx29) ?_
  rintro e wd32 ⟨Aa30, cc31, rfl, hw33⟩
  refine ⟨_, rfl, ?_⟩
  replace hw := hw.call hw33
  intro a hs1
  replace hs : Slots a 81 [(0, .slice A0 l0.length c0), (1, .slice A1 l1.length c1), (2, .int .i64 a2), (7, .bool t4), (8, .int .i64 v11), (26, .tuple #[.slice Aa30 t27.length cc31, .int .i64 t28])] := hs1.keep [0, 1, 2, 7, 8, 26] (by kernel_rfl)
  clear hs1
  refine go_pvs 4 9 [0, 1, 2, 7, 8, 9, 10] hs (L' := [(0, .slice A0 l0.length c0), (1, .slice A1 l1.length c1), (2, .int .i64 a2), (7, .bool t4), (8, .int .i64 v11), (9, .slice Aa30 t27.length cc31), (10, .int .i64 t28)]) (by kernel_rfl) ?_ rfl
  clear hs; intro a hs
  refine go_end (by kernel_rfl) ?_
  refine hK16 _ _ ?_
  refine go_seq_k fun K35 hK35 => ?_
  refine go_region ?_
  refine go_pvs 0 1 [0, 1, 2, 7, 8, 9, 10, 30] hs (L' := [(0, .slice A0 l0.length c0), (1, .slice A1 l1.length c1), (2, .int .i64 a2), (7, .bool t4), (8, .int .i64 v11), (9, .slice Aa30 t27.length cc31), (10, .int .i64 t28), (30, .slice A1 l1.length c1)]) (by kernel_rfl) ?_ rfl
  clear hs; intro a hs
  refine go_inline_k hs (op := (Op.call { callee := (Callee.value (Operand.func 12)), args := #[(Operand.tmp 30)], argTypes := #[22] })) (ty := 22) (dst := some 31) (g := none) (by kernel_rfl) (by kernel_rfl) (by kernel_rfl) (f := 12) (args := #[.slice A1 l1.length c1]) (by kernel_rfl) (fun KR36 hKR36 => ?_)
  refine go_fn Tryd.func12 rfl 8 Tryd.ntmps12 [(0, .slice A1 l1.length c1)] (by kernel_rfl) rfl ?_
  clear hs; intro a hs
  refine go_seq_k fun K37 hK37 => ?_
  refine go_region ?_
  refine go_pvs 0 1 [0] hs (L' := [(0, .slice A1 l1.length c1)]) (by kernel_rfl) ?_ rfl
  clear hs; intro a hs
  refine go_end (by kernel_rfl) ?_
  refine hK37 _ _ ?_
  refine go_seq_k fun K38 hK38 => ?_
  refine go_region ?_
  refine go_pvs 0 4 [3, 6] hs (L' := [(3, .slice A1 l1.length c1), (6, .int .i64 (mnn (l1.length : Int) 200))]) (by kernel_rfl) ?_ rfl
  clear hs; intro a hs
  obtain ⟨hp39, H⟩ := ite_only H
  obtain ⟨Aa40, cc41, hx42, hc43⟩ := c_hi (P := Tryd.prog) (ty := 22) (E := (eI .u8)) (T := 5) (t := 22) (x := (Operand.tmp 3)) (y := (Operand.tmp 6)) (k := .i64) hs (by kernel_rfl) (by kernel_rfl) (hr1.old hw) (by kernel_rfl) (by kernel_rfl) hp39.1 hp39.2
  refine go_run hs (op := (Op.slice 22 (Operand.tmp 3) none (some (Operand.tmp 6)) none)) (ty := 22) (dst := some 7) (g := none) (by kernel_rfl) (by kernel_rfl) (by kernel_rfl) hx42 [7] (L' := [(7, .slice Aa40 (l1.take (mnn (l1.length : Int) 200 : Int).toNat).length cc41)]) (by kernel_rfl) ?_
  clear hs; intro a hs
  refine go_pvs 5 6 [2] hs (L' := [(2, .slice Aa40 (l1.take (mnn (l1.length : Int) 200 : Int).toNat).length cc41)]) (by kernel_rfl) ?_ rfl
  clear hs; intro a hs
  refine go_end (by kernel_rfl) ?_
  refine hK38 _ _ ?_
  refine wp_ret ?_
  refine ret1 (t := 2) (v := .slice Aa40 (l1.take (mnn (l1.length : Int) 200 : Int).toNat).length cc41) hs (by kernel_rfl) (by kernel_rfl) ?_
  refine ⟨_, rfl, ?_⟩
  refine hKR36 _ _ ?_
  intro a hs1
  have hs : Slots a _ [(0, .slice A0 l0.length c0), (1, .slice A1 l1.length c1), (2, .int .i64 a2), (7, .bool t4), (8, .int .i64 v11), (9, .slice Aa30 t27.length cc31), (10, .int .i64 t28), (31, .slice Aa40 (l1.take (mnn (l1.length : Int) 200 : Int).toNat).length cc41)] := hs1.keep [0, 1, 2, 7, 8, 9, 10, 31] (by kernel_rfl)
  clear hs1
  refine go_pvs 2 3 [0, 1, 2, 7, 8, 9, 10, 31, 32] hs (L' := [(0, .slice A0 l0.length c0), (1, .slice A1 l1.length c1), (2, .int .i64 a2), (7, .bool t4), (8, .int .i64 v11), (9, .slice Aa30 t27.length cc31), (10, .int .i64 t28), (31, .slice Aa40 (l1.take (mnn (l1.length : Int) 200 : Int).toNat).length cc41), (32, .int .i64 v11)]) (by kernel_rfl) ?_ rfl
  clear hs; intro a hs
  obtain ⟨⟨t46, t47⟩, hx48, H⟩ := bind_some H
  refine go_call hs (op := (Op.call { callee := (Callee.value (Operand.func 17)), args := #[(Operand.tmp 31), (Operand.tmp 32)], argTypes := #[22, 3] })) (ty := 33) (dst := some 33) (g := none) (by kernel_rfl) (by kernel_rfl) (by kernel_rfl) (f := 17) (args := #[.slice Aa40 (l1.take (mnn (l1.length : Int) 200 : Int).toNat).length cc41, .int .i64 v11]) (by kernel_rfl) (rivetref07_Take.calls Aa40 cc41 (l1.take (mnn (l1.length : Int) 200 : Int).toNat) v11 (t46, t47) _ (hc43 _ (hr1.old hw)) hx48) ?_
  rintro e wd51 ⟨Aa49, cc50, rfl, hw52⟩
  refine ⟨_, rfl, ?_⟩
  replace hw := hw.call hw52
  intro a hs1
  replace hs : Slots a 81 [(0, .slice A0 l0.length c0), (1, .slice A1 l1.length c1), (2, .int .i64 a2), (7, .bool t4), (8, .int .i64 v11), (9, .slice Aa30 t27.length cc31), (10, .int .i64 t28), (33, .tuple #[.slice Aa49 t46.length cc50, .int .i64 t47])] := hs1.keep [0, 1, 2, 7, 8, 9, 10, 33] (by kernel_rfl)
  clear hs1
  refine go_pvs 4 9 [0, 1, 2, 7, 8, 9, 10, 11, 12] hs (L' := [(0, .slice A0 l0.length c0), (1, .slice A1 l1.length c1), (2, .int .i64 a2), (7, .bool t4), (8, .int .i64 v11), (9, .slice Aa30 t27.length cc31), (10, .int .i64 t28), (11, .slice Aa49 t46.length cc50), (12, .int .i64 t47)]) (by kernel_rfl) ?_ rfl
  clear hs; intro a hs
  refine go_end (by kernel_rfl) ?_
  refine hK35 _ _ ?_
  refine go_seq_k fun K54 hK54 => ?_
  have hJ1 : ∀ (v61 : Bool) (a : Act) (w : World), Slots a 81 [(0, .slice A0 l0.length c0), (1, .slice A1 l1.length c1), (2, .int .i64 a2), (7, .bool t4), (8, .int .i64 v11), (44, .bool v61)] → St [] w0 w [own 43 (eI .u32) Aa49 cc50 t46, own 43 (eI .u32) Aa30 cc31 t27] → rivetlaw07_LeAll.j1 v11 v61 = some o → K54 a w := by
   intro v61 a w hs hw H
   unfold rivetlaw07_LeAll.j1 at H
   refine hK54 _ _ ?_
   refine go_cond hs v61 (by kernel_rfl) (fun hc => ?_) (fun hc => ?_)
   ·replace H := ite_t H hc
    have hb62 := hc
    rw [hb62] at hs
    refine go_seq_k fun K63 hK63 => ?_
    refine go_region ?_
    refine go_pvs 0 1 [6] hs (L' := [(6, .bool false)]) (by kernel_rfl) ?_ rfl
    clear hs; intro a hs
    refine go_end (by kernel_rfl) ?_
    refine hK63 _ _ ?_
    refine wp_ret ?_
    refine ib_ret ?_
    refine th_ret ?_
    refine th_ret ?_
    refine ib_ret ?_
    refine th_ret ?_
    rw [← hr10 _ (Option.some.inj H).symm] at HX10
    replace H : some false = some r := HX10
    obtain rfl := Option.some.inj H
    refine ret1 (t := 6) (v := .bool false) hs (by kernel_rfl) (by kernel_rfl) ?_
    exact ⟨rfl, hw.only 0⟩
   ·replace H := ite_f H (ff hc)
    have hb64 := hc
    rw [hb64] at hs
    refine wp_skip ?_
    refine ib_norm ?_
    replace hw := hw.only 0
    exact hJ2 _ _ (hs.keep [0, 1, 2, 7, 8] (by kernel_rfl)) hw H
  refine go_region ?_
  refine go_pvs 0 2 [0, 1, 2, 7, 8, 10, 12, 36, 37] hs (L' := [(0, .slice A0 l0.length c0), (1, .slice A1 l1.length c1), (2, .int .i64 a2), (7, .bool t4), (8, .int .i64 v11), (10, .int .i64 t28), (12, .int .i64 t47), (36, .slice Aa30 t27.length cc31), (37, .slice Aa49 t46.length cc50)]) (by kernel_rfl) ?_ rfl
  clear hs; intro a hs
  obtain ⟨t56, hx57, H⟩ := bind_some H
  refine go_call hs (op := (Op.call { callee := (Callee.value (Operand.func 18)), args := #[(Operand.tmp 36), (Operand.tmp 37)], argTypes := #[32, 32] })) (ty := 4) (dst := some 38) (g := none) (by kernel_rfl) (by kernel_rfl) (by kernel_rfl) (f := 18) (args := #[.slice Aa30 t27.length cc31, .slice Aa49 t46.length cc50]) (by kernel_rfl) (rivetref05_Same.calls Aa30 cc31 t27 Aa49 cc50 t46 t56 _ (Rd.of_own (hw.up 1)) (Rd.of_own (hw.up 0)) hx57) ?_
  rintro e wd58 ⟨rfl, hw59⟩
  refine ⟨_, rfl, ?_⟩
  replace hw := hw.call hw59
  intro a hs1
  replace hs : Slots a 81 [(0, .slice A0 l0.length c0), (1, .slice A1 l1.length c1), (2, .int .i64 a2), (7, .bool t4), (8, .int .i64 v11), (10, .int .i64 t28), (12, .int .i64 t47), (38, .bool t56)] := hs1.keep [0, 1, 2, 7, 8, 10, 12, 38] (by kernel_rfl)
  clear hs1
  refine go_pvs 3 5 [0, 1, 2, 7, 8, 10, 12, 40] hs (L' := [(0, .slice A0 l0.length c0), (1, .slice A1 l1.length c1), (2, .int .i64 a2), (7, .bool t4), (8, .int .i64 v11), (10, .int .i64 t28), (12, .int .i64 t47), (40, .bool (!t56))]) (by kernel_rfl) ?_ rfl
  clear hs; intro a hs
  cases hb60 : (!t56)
  ·replace H := ite_t H (nf hb60)
   rw [hb60] at hs
   refine go_pvs 5 9 [0, 1, 2, 7, 8, 44] hs (L' := [(0, .slice A0 l0.length c0), (1, .slice A1 l1.length c1), (2, .int .i64 a2), (7, .bool t4), (8, .int .i64 v11), (44, .bool (t28 != t47))]) (by kernel_rfl) ?_ rfl
   clear hs; intro a hs
   refine go_end (by kernel_rfl) ?_
   replace hw := hw.up 1
   replace hw := hw.up 1
   replace hw := hw.only 2
   exact hJ1 (t28 != t47) _ _ (hs.keep [0, 1, 2, 7, 8, 44] (by kernel_rfl)) hw H
  ·replace H := ite_f H (ff (nt hb60))
   rw [hb60] at hs
   refine go_pvs 5 9 [0, 1, 2, 7, 8, 44] hs (L' := [(0, .slice A0 l0.length c0), (1, .slice A1 l1.length c1), (2, .int .i64 a2), (7, .bool t4), (8, .int .i64 v11), (44, .bool true)]) (by kernel_rfl) ?_ rfl
   clear hs; intro a hs
   refine go_end (by kernel_rfl) ?_
   replace hw := hw.up 1
   replace hw := hw.up 1
   replace hw := hw.only 2
   exact hJ1 true _ _ (hs.keep [0, 1, 2, 7, 8, 44] (by kernel_rfl)) hw H
 ·replace H := ite_f H (of_decide_eq_false hc)
  have hb65 := hc
  rw [hb65] at hs
  refine wp_exit ?_
  refine th_exit ?_
  refine th_exit ?_
  refine in_block ?_
  replace hw := hw.only 0
  rw [← hr10 _ (Option.some.inj H).symm] at HX10
  exact hJ3 _ _ (hs.keep [0, 1, 2, 7] (by kernel_rfl)) hw HX10

end Go.Proofs.YtckefpenekolhaaDoor.T07
