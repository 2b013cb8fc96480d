/- YtmfnololpfdfdaaDoorT10: Go functions told as plain ones, each with a proof that its call comes to what is told, part 2. Condition of each: that the plain function comes to a value. -/
import Derived.Test.YtmfnololpfdfdaaDoorT10a
namespace Go.Proofs.YtmfnololpfdfdaaDoor.T09
open Go Go.RowKit Go.Proofs.YtmfnololpfdfdaaDoor.E
set_option linter.unusedVariables false
set_option linter.unusedSimpArgs false

/-! rivet/file.Take: function 24 -/
noncomputable def file_Take.j5 (l137 : List Sapi_Sym) (t152 : ByteArray) (v145 : Int) (l202 : List Int) (l208 : List Int) (v209 : Int) : Option ((List Sapi_Sym) × (List Int) × Int ⊕ (Ex (Sapi_Obj × Int) ((List Int) × (List Sapi_Sym)))) := (if v209 = 0 then (if 0 ≤ (0 : Int) ∧ (0 : Int) < (l208.length : Int) then (if l137.length + ([(⟨t152, w64 (ix (eI .u32).d l208 (0 : Int))⟩ : Sapi_Sym)] : List Sapi_Sym).length ≤ 5864062014805 then some (.inl (l137 ++ ([(⟨t152, w64 (ix (eI .u32).d l208 (0 : Int))⟩ : Sapi_Sym)] : List Sapi_Sym), l202, wu32 (v145 + 1))) else none) else none) else some (.inr (.ret ((⟨([] : List Int), ([] : List Int), ([] : List Sapi_Sym)⟩ : Sapi_Obj), v209))))
noncomputable def file_Take.b136 (l42 : List Int) (l137 : List Sapi_Sym) (l142 : List Int) (v145 : Int) : Option ((List Sapi_Sym) × (List Int) × Int ⊕ (Ex (Sapi_Obj × Int) ((List Int) × (List Sapi_Sym)))) := (if v145 < (ix (eI .u32).d l42 (3 : Int)) then ((le_TakeName l142).bind fun ⟨t152, t153, t154⟩ => ((if t154 = 0 then (if 0 ≤ t153 ∧ t153 ≤ (l142.length : Int) then ((le_Take (l142.drop (t153 : Int).toNat) 1).bind fun ⟨t181, t182⟩ => ((if t182 = 0 then (if 0 ≤ (w64 (4 * 1)) ∧ (w64 (4 * 1)) ≤ ((l142.drop (t153 : Int).toNat).length : Int) then file_Take.j5 l137 t152 v145 ((l142.drop (t153 : Int).toNat).drop (w64 (4 * 1) : Int).toNat) t181 0 else none) else file_Take.j5 l137 t152 v145 ([] : List Int) ([] : List Int) t182))) else none) else some (.inr (.ret ((⟨([] : List Int), ([] : List Int), ([] : List Sapi_Sym)⟩ : Sapi_Obj), t154)))))) else some (.inr (.done (l142, l137))))
noncomputable def file_Take.j6 (l42 : List Int) (l113 : List Int) (l240 : List Int) (l243 : List Sapi_Sym) : Option (Sapi_Obj × Int) := (if (l240.length : Int) > 0 then some ((⟨([] : List Int), ([] : List Int), ([] : List Sapi_Sym)⟩ : Sapi_Obj), 4) else (if 0 ≤ (2 : Int) ∧ (2 : Int) < (l42.length : Int) then ((chain_Unpack l113 (w64 (ix (eI .u32).d l42 (2 : Int)))).bind fun ⟨t260, t261, t262⟩ => ((if t262 = 0 then ((object_May (⟨t260, t261, l243⟩ : Sapi_Obj)).bind fun t288 => ((if t288 = 0 then some ((⟨t260, t261, l243⟩ : Sapi_Obj), 0) else some ((⟨([] : List Int), ([] : List Int), ([] : List Sapi_Sym)⟩ : Sapi_Obj), 6)))) else some ((⟨([] : List Int), ([] : List Int), ([] : List Sapi_Sym)⟩ : Sapi_Obj), t262)))) else none))
noncomputable def file_Take.j4 (l42 : List Int) (l107 : List Int) (l113 : List Int) (v114 : Int) : Option (Sapi_Obj × Int) := (if v114 = 0 then (if 0 ≤ (3 : Int) ∧ (3 : Int) < (l42.length : Int) then ((loopO (fun (σ : (List Sapi_Sym) × (List Int) × Int) => file_Take.b136 l42 σ.1 σ.2.1 σ.2.2) (([] : List Sapi_Sym), l107, 0)).bind fun e => match e with | .ret x => some x | .done e => file_Take.j6 l42 l113 e.1 e.2) else none) else some ((⟨([] : List Int), ([] : List Int), ([] : List Sapi_Sym)⟩ : Sapi_Obj), v114))
noncomputable def file_Take.j3 (l42 : List Int) (l36 : List Int) : Option (Sapi_Obj × Int) := (if 0 ≤ (1 : Int) ∧ (1 : Int) < (l42.length : Int) then ((le_Take l36 (w64 (ix (eI .u32).d l42 (1 : Int)))).bind fun ⟨t86, t87⟩ => ((if t87 = 0 then (if 0 ≤ (w64 (4 * (w64 (ix (eI .u32).d l42 (1 : Int))))) ∧ (w64 (4 * (w64 (ix (eI .u32).d l42 (1 : Int))))) ≤ (l36.length : Int) then file_Take.j4 l42 (l36.drop (w64 (4 * (w64 (ix (eI .u32).d l42 (1 : Int)))) : Int).toNat) t86 0 else none) else file_Take.j4 l42 ([] : List Int) ([] : List Int) t87))) else none)
noncomputable def file_Take.j2 (l42 : List Int) (l36 : List Int) (v69 : Bool) : Option (Sapi_Obj × Int) := (if v69 = true then some ((⟨([] : List Int), ([] : List Int), ([] : List Sapi_Sym)⟩ : Sapi_Obj), 2) else file_Take.j3 l42 l36)
noncomputable def file_Take.j1 (l36 : List Int) (l42 : List Int) (v43 : Int) : Option (Sapi_Obj × Int) := (if v43 = 0 then (if 0 ≤ (0 : Int) ∧ (0 : Int) < (l42.length : Int) then (if (ix (eI .u32).d l42 (0 : Int)) = 894847314 then (if 0 ≤ (1 : Int) ∧ (1 : Int) < (l42.length : Int) then (if (ix (eI .u32).d l42 (1 : Int)) > 1024 then file_Take.j2 l42 l36 true else (if 0 ≤ (3 : Int) ∧ (3 : Int) < (l42.length : Int) then file_Take.j2 l42 l36 (decide ((ix (eI .u32).d l42 (3 : Int)) > 64)) else none)) else none) else some ((⟨([] : List Int), ([] : List Int), ([] : List Sapi_Sym)⟩ : Sapi_Obj), 5)) else none) else some ((⟨([] : List Int), ([] : List Int), ([] : List Sapi_Sym)⟩ : Sapi_Obj), v43))
noncomputable def file_Take (l0 : List Int) : Option (Sapi_Obj × Int) := ((le_Take l0 4).bind fun ⟨t15, t16⟩ => ((if t16 = 0 then (if 0 ≤ (w64 (4 * 4)) ∧ (w64 (4 * 4)) ≤ (l0.length : Int) then file_Take.j1 (l0.drop (w64 (4 * 4) : Int).toNat) t15 0 else none) else file_Take.j1 ([] : List Int) ([] : List Int) t16)))
set_option maxRecDepth 100000 in
set_option maxHeartbeats 4000000 in
theorem file_Take.calls (A0 : Option Addr) (c0 : Nat) (l0 : List Int) (r : Sapi_Obj × Int) (w0 : World) (hr0 : Rd w0 (eI .u8) A0 c0 l0) (H : file_Take l0 = some r) :
    Calls Tryd.prog 24 #[.slice A0 l0.length c0] w0 fun e w' => ∃ A_0_1 c_0_1, ∃ A_0_2 c_0_2, ∃ A_0_3 c_0_3, e = .returned (.tuple #[.agg #[.slice A_0_1 r.1.Words.length c_0_1, .slice A_0_2 r.1.Sites.length c_0_2, .slice A_0_3 r.1.Syms.length c_0_3], .int .i64 r.2]) ∧ St [] w0 w' [own 37 (eI .u32) A_0_1 c_0_1 r.1.Words, own 3 (eI .i64) A_0_2 c_0_2 r.1.Sites, own 39 eSapi_Sym A_0_3 c_0_3 r.1.Syms] := by
 have hw : St [] w0 w0 [] := St.nil w0
 unfold file_Take at H
 refine go_fn Tryd.func24 rfl Tryd.ntmps24 ?_; intro a hs
 refine go_sk fun K1 hK1 => ?_
 obtain ⟨g2, wd3, hx4, hw⟩ := x_allocc (P := Tryd.prog) (elem := 26) (ty := 0) (z := .agg #[.slice none 0 0, .slice none 0 0, .slice none 0 0]) (cs := [.slice none 0 0, .slice none 0 0, .slice none 0 0]) hs hw (by kernel_rfl) (by kernel_rfl)
 refine go_run hs (by rfl) hx4 [] ?_; clear hs; intro a hs
 replace hw := St.own_nil hw 37 (eI .u32)
 replace hw := St.own_nil hw 3 (eI .i64)
 replace hw := St.own_nil hw 39 eSapi_Sym
 replace hw : St [] w0 wd3 [own 39 eSapi_Sym none 0 ([] : List Sapi_Sym), own 3 (eI .i64) none 0 ([] : List Int), own 37 (eI .u32) none 0 ([] : List Int), box g2 26 [.slice none ([] : List Int).length 0, .slice none ([] : List Int).length 0, .slice none ([] : List Sapi_Sym).length 0]] := hw
 refine go_pvs 2 [] [] hs ?_; clear hs; intro a hs
 refine go_end (hK1 _ _ ?_)
 refine go_sk fun K9 hK9 => ?_
 refine go_pvs 1 [0] [(14, .slice A0 l0.length c0)] hs ?_; clear hs; intro a hs
 refine go_inline_k hs (by rfl) (f := 48) (args := #[.slice A0 l0.length c0, .int .i64 4]) (fun KR10 hKR10 => ?_)
 refine go_fn Tryd.func48 rfl Tryd.ntmps48 ?_; clear hs; intro a hs
 have hJ1 : ∀ (Aa34 : Option Addr) (cc35 : Nat) (l36 : List Int) (hc37 : ∀ w', Rd w' (eI .u8) A0 c0 l0 → Rd w' (eI .u8) Aa34 cc35 l36) (Aa40 : Option Addr) (cc41 : Nat) (l42 : List Int) (v43 : Int) (w : World), St [] w0 w [own 39 eSapi_Sym none 0 ([] : List Sapi_Sym), own 3 (eI .i64) none 0 ([] : List Int), own 37 (eI .u32) none 0 ([] : List Int), box g2 26 [.slice none ([] : List Int).length 0, .slice none ([] : List Int).length 0, .slice none ([] : List Sapi_Sym).length 0], own 37 (eI .u32) Aa40 cc41 l42] → file_Take.j1 l36 l42 v43 = some r → KR10 (.tuple #[.slice Aa40 l42.length cc41, .slice Aa34 l36.length cc35, .int .i64 v43]) w := by
  intro Aa34 cc35 l36 hc37 Aa40 cc41 l42 v43 w hw H
  unfold file_Take.j1 at H
  refine hKR10 _ _ ?_
  intro a hs1; have hs : Slots a _ [(2, .pointer (some (⟨g2, 0, none⟩ : Addr))), (15, .tuple #[.slice Aa40 l42.length cc41, .slice Aa34 l36.length cc35, .int .i64 v43])] := hs1.kx; clear hs1
  refine go_pvs 9 [15] [(0, .slice Aa34 l36.length cc35), (4, .slice Aa40 l42.length cc41), (5, .int .i64 v43)] hs ?_; clear hs; intro a hs
  refine go_end (hK9 _ _ ?_)
  refine go_seq_k fun K44 hK44 => ?_
  have hJ3 : ∀ (a : Act) (w : World), Slots a 121 [(0, .slice Aa34 l36.length cc35), (2, .pointer (some (⟨g2, 0, none⟩ : Addr))), (4, .slice Aa40 l42.length cc41)] → St [] w0 w [own 39 eSapi_Sym none 0 ([] : List Sapi_Sym), own 3 (eI .i64) none 0 ([] : List Int), own 37 (eI .u32) none 0 ([] : List Int), box g2 26 [.slice none ([] : List Int).length 0, .slice none ([] : List Int).length 0, .slice none ([] : List Sapi_Sym).length 0], own 37 (eI .u32) Aa40 cc41 l42] → file_Take.j3 l42 l36 = some r → K44 a w := by
   intro a w hs hw H
   unfold file_Take.j3 at H
   refine hK44 _ _ ?_
   refine go_sk fun K78 hK78 => ?_
   refine go_pvs 2 [0] [(43, .slice Aa34 l36.length cc35), (44, .slice Aa40 l42.length cc41)] hs ?_; clear hs; intro a hs
   obtain ⟨hp79, H⟩ := ite_only H
   obtain ⟨ad80, rfl⟩ := (Rd.of_own (hw.up 4)).some hp79.1 hp79.2
   refine go_run hs (by rfl) (x_idx (T := 37) (sz := 1) (a := ad80) (n := l42.length) (cap := cc41) (k := .i64) (i := (1 : Int)) hp79) [44] ?_; clear hs; intro a hs
   refine go_run hs (by rfl) (x_ld (off := 0) (p := ad80.add (((1 : Int) : Int).toNat * 1)) (v := .int .u32 (ix (eI .u32).d l42 (1 : Int))) (Rd.of_own (hw.up 4)) hp79 rfl) [45] ?_; clear hs; intro a hs
   refine go_pvs 5 [46] [(47, .int .i64 (w64 (ix (eI .u32).d l42 (1 : Int))))] hs ?_; clear hs; intro a hs
   refine go_inline_k hs (by rfl) (f := 48) (args := #[.slice Aa34 l36.length cc35, .int .i64 (w64 (ix (eI .u32).d l42 (1 : Int)))]) (fun KR81 hKR81 => ?_)
   refine go_fn Tryd.func48 rfl Tryd.ntmps48 ?_; clear hs; intro a hs
   have hJ4 : ∀ (Aa105 : Option Addr) (cc106 : Nat) (l107 : List Int) (hc108 : ∀ w', Rd w' (eI .u8) A0 c0 l0 → Rd w' (eI .u8) Aa105 cc106 l107) (Aa111 : Option Addr) (cc112 : Nat) (l113 : List Int) (v114 : Int) (w : World), St [] w0 w [own 39 eSapi_Sym none 0 ([] : List Sapi_Sym), own 3 (eI .i64) none 0 ([] : List Int), own 37 (eI .u32) none 0 ([] : List Int), box g2 26 [.slice none ([] : List Int).length 0, .slice none ([] : List Int).length 0, .slice none ([] : List Sapi_Sym).length 0], own 37 (eI .u32) (some ad80) cc41 l42, own 37 (eI .u32) Aa111 cc112 l113] → file_Take.j4 l42 l107 l113 v114 = some r → KR81 (.tuple #[.slice Aa111 l113.length cc112, .slice Aa105 l107.length cc106, .int .i64 v114]) w := by
    intro Aa105 cc106 l107 hc108 Aa111 cc112 l113 v114 w hw H
    unfold file_Take.j4 at H
    refine hKR81 _ _ ?_
    intro a hs1; have hs : Slots a _ [(2, .pointer (some (⟨g2, 0, none⟩ : Addr))), (4, .slice (some ad80) l42.length cc41), (48, .tuple #[.slice Aa111 l113.length cc112, .slice Aa105 l107.length cc106, .int .i64 v114])] := hs1.kx; clear hs1
    refine go_pvs 13 [48] [(0, .slice Aa105 l107.length cc106), (5, .int .i64 v114), (6, .slice Aa111 l113.length cc112)] hs ?_; clear hs; intro a hs
    refine go_end (hK78 _ _ ?_)
    refine go_seq_k fun K115 hK115 => ?_
    refine go_sp [] [(53, .bool (v114 != 0))] hs ?_; clear hs; intro a hs
    refine go_cond hs (v114 != 0) (fun hc => ?_) fun hc => ?_
    ·replace H := ite_f H (bne_iff_ne.1 hc)
     have hb117 := hc
     rw [hb117] at hs
     refine go_sk fun K118 hK118 => ?_
     refine go_pvs 2 [0, 4, 5, 6, 53] [(54, .agg #[.slice none 0 0, .slice none 0 0, .slice none 0 0]), (55, .int .i64 v114)] hs ?_; clear hs; intro a hs
     replace hw := hw.up 3
     obtain ⟨wd119, hx120, hw⟩ := x_bput (P := Tryd.prog) (ty := 0) (t := 26) (y := (Operand.tmp 2)) (z := (Operand.tmp 54)) (o := 0) (p := (⟨g2, 0, none⟩ : Addr)) (v := .agg #[.slice none 0 0, .slice none 0 0, .slice none 0 0]) (vs := [.slice none 0 0, .slice none 0 0, .slice none 0 0]) (cs' := [.slice none 0 0, .slice none 0 0, .slice none 0 0]) hs hw (by kernel_rfl) rfl (by kernel_rfl) rfl (by kernel_rfl) (by kernel_rfl) (by simp [Value.oneCell']) rfl
     refine go_unit hs (by rfl) hx120 [54] ?_; clear hs; intro a hs
     replace hw := St.own_nil hw 37 (eI .u32)
     replace hw := St.own_nil hw 3 (eI .i64)
     replace hw := St.own_nil hw 39 eSapi_Sym
     replace hw : St [] w0 wd119 [own 39 eSapi_Sym none 0 ([] : List Sapi_Sym), own 3 (eI .i64) none 0 ([] : List Int), own 37 (eI .u32) none 0 ([] : List Int), box g2 26 [.slice none ([] : List Int).length 0, .slice none ([] : List Int).length 0, .slice none ([] : List Sapi_Sym).length 0], own 39 eSapi_Sym none 0 ([] : List Sapi_Sym), own 3 (eI .i64) none 0 ([] : List Int), own 37 (eI .u32) none 0 ([] : List Int), own 37 (eI .u32) (some ad80) cc41 l42, own 37 (eI .u32) Aa111 cc112 l113] := hw
     refine go_pvs 4 [55] [(3, .int .i64 v114)] hs ?_; clear hs; intro a hs
     refine go_end (hK118 _ _ ?_)
     refine wp_ret ?_
     refine th_ret ?_
     obtain rfl := Option.some.inj H
     replace hw := hw.up 1
     replace hw := hw.up 2
     replace hs : Slots a 121 [(2, .pointer (some (⟨g2, 0, none⟩ : Addr))), (3, .int .i64 v114)] := hs.kx
     refine ret2g (L := [(2, .pointer (some (⟨g2, 0, none⟩ : Addr))), (3, .int .i64 v114)]) (r1 := .cell 2 26) (v1 := .agg #[.slice none ([] : List Int).length 0, .slice none ([] : List Int).length 0, .slice none ([] : List Sapi_Sym).length 0]) (r2 := .tmp 3) (v2 := .int .i64 v114) hs (by kernel_rfl) ⟨_, (show lk 2 [(2, .pointer (some (⟨g2, 0, none⟩ : Addr))), (3, .int .i64 v114)] = some (.pointer (some (⟨g2, 0, none⟩ : Addr))) by kernel_rfl), lvb_row (hw.up 3) (by kernel_rfl) (by kernel_rfl) (by kernel_rfl)⟩ (show lk 3 [(2, .pointer (some (⟨g2, 0, none⟩ : Addr))), (3, .int .i64 v114)] = some (.int .i64 v114) by kernel_rfl) ?_
     exact ⟨none, 0, none, 0, none, 0, rfl, hw.only 3⟩
    ·replace H := ite_t H (bne_eq_false_iff_eq.1 hc)
     have hb124 := hc
     rw [hb124] at hs
     refine wp_skip ?_
     refine hK115 _ _ ?_
     refine go_sk fun K125 hK125 => ?_
     obtain ⟨g126, wd127, hx128, hw⟩ := x_allocc (P := Tryd.prog) (elem := 26) (ty := 0) (z := .agg #[.slice none 0 0, .slice none 0 0, .slice none 0 0]) (cs := [.slice none 0 0, .slice none 0 0, .slice none 0 0]) hs hw (by kernel_rfl) (by kernel_rfl)
     refine go_run hs (by rfl) hx128 [5, 53] ?_; clear hs; intro a hs
     replace hw := St.own_nil hw 37 (eI .u32)
     replace hw := St.own_nil hw 3 (eI .i64)
     replace hw := St.own_nil hw 39 eSapi_Sym
     replace hw : St [] w0 wd127 [own 39 eSapi_Sym none 0 ([] : List Sapi_Sym), own 3 (eI .i64) none 0 ([] : List Int), own 37 (eI .u32) none 0 ([] : List Int), box g126 26 [.slice none ([] : List Int).length 0, .slice none ([] : List Int).length 0, .slice none ([] : List Sapi_Sym).length 0], own 39 eSapi_Sym none 0 ([] : List Sapi_Sym), own 3 (eI .i64) none 0 ([] : List Int), own 37 (eI .u32) none 0 ([] : List Int), box g2 26 [.slice none ([] : List Int).length 0, .slice none ([] : List Int).length 0, .slice none ([] : List Sapi_Sym).length 0], own 37 (eI .u32) (some ad80) cc41 l42, own 37 (eI .u32) Aa111 cc112 l113] := hw
     refine go_end (hK125 _ _ ?_)
     refine go_seq_k fun K133 hK133 => ?_
     refine go_sk fun K134 hK134 => ?_
     refine go_pvs 1 [] [(56, .slice (some ad80) l42.length cc41)] hs ?_; clear hs; intro a hs
     obtain ⟨hp135, H⟩ := ite_only H
     refine go_run hs (by rfl) (x_idx (T := 37) (sz := 1) (a := ad80) (n := l42.length) (cap := cc41) (k := .i64) (i := (3 : Int)) hp135) [56] ?_; clear hs; intro a hs
     refine go_run hs (by rfl) (x_ld (off := 0) (p := ad80.add (((3 : Int) : Int).toNat * 1)) (v := .int .u32 (ix (eI .u32).d l42 (3 : Int))) (Rd.of_own (hw.up 8)) hp135 rfl) [57] ?_; clear hs; intro a hs
     refine go_pvs 4 [] [(59, .int .u32 0)] hs ?_; clear hs; intro a hs
     refine go_end (hK134 _ _ ?_)
     refine wp_block ?_
     obtain ⟨e136, hl136, HX136⟩ := bind_some H
     have hJ6 : ∀ (Aa238 : Option Addr) (cc239 : Nat) (l240 : List Int) (hc241 : ∀ w', Rd w' (eI .u8) A0 c0 l0 → Rd w' (eI .u8) Aa238 cc239 l240) (Aa244 : Option Addr) (cc245 : Nat) (l243 : List Sapi_Sym) (a : Act) (w : World), Slots a 121 [(0, .slice Aa238 l240.length cc239), (2, .pointer (some (⟨g2, 0, none⟩ : Addr))), (4, .slice (some ad80) l42.length cc41), (6, .slice Aa111 l113.length cc112), (7, .pointer (some (⟨g126, 0, none⟩ : Addr)))] → St [] w0 w [own 39 eSapi_Sym Aa244 cc245 l243, own 3 (eI .i64) none 0 ([] : List Int), own 37 (eI .u32) none 0 ([] : List Int), box g126 26 [.slice none ([] : List Int).length 0, .slice none ([] : List Int).length 0, .slice Aa244 l243.length cc245], own 39 eSapi_Sym none 0 ([] : List Sapi_Sym), own 3 (eI .i64) none 0 ([] : List Int), own 37 (eI .u32) none 0 ([] : List Int), box g2 26 [.slice none ([] : List Int).length 0, .slice none ([] : List Int).length 0, .slice none ([] : List Sapi_Sym).length 0], own 37 (eI .u32) (some ad80) cc41 l42, own 37 (eI .u32) Aa111 cc112 l113] → file_Take.j6 l42 l113 l240 l243 = some r → K133 a w := by
      intro Aa238 cc239 l240 hc241 Aa244 cc245 l243 a w hs hw H
      unfold file_Take.j6 at H
      refine hK133 _ _ ?_
      refine go_seq_k fun K246 hK246 => ?_
      refine go_sp [0] [(98, .bool (decide ((l240.length : Int) > 0)))] hs ?_; clear hs; intro a hs
      refine go_cond hs (decide ((l240.length : Int) > 0)) (fun hc => ?_) fun hc => ?_
      ·replace H := ite_t H (of_decide_eq_true hc)
       have hb248 := hc
       rw [hb248] at hs
       refine go_sk fun K249 hK249 => ?_
       refine go_pvs 1 [4, 6, 7, 98] [(99, .agg #[.slice none 0 0, .slice none 0 0, .slice none 0 0])] hs ?_; clear hs; intro a hs
       replace hw := hw.up 7
       obtain ⟨wd250, hx251, hw⟩ := x_bput (P := Tryd.prog) (ty := 0) (t := 26) (y := (Operand.tmp 2)) (z := (Operand.tmp 99)) (o := 0) (p := (⟨g2, 0, none⟩ : Addr)) (v := .agg #[.slice none 0 0, .slice none 0 0, .slice none 0 0]) (vs := [.slice none 0 0, .slice none 0 0, .slice none 0 0]) (cs' := [.slice none 0 0, .slice none 0 0, .slice none 0 0]) hs hw (by kernel_rfl) rfl (by kernel_rfl) rfl (by kernel_rfl) (by kernel_rfl) (by simp [Value.oneCell']) rfl
       refine go_unit hs (by rfl) hx251 [99] ?_; clear hs; intro a hs
       replace hw := St.own_nil hw 37 (eI .u32)
       replace hw := St.own_nil hw 3 (eI .i64)
       replace hw := St.own_nil hw 39 eSapi_Sym
       replace hw : St [] w0 wd250 [own 39 eSapi_Sym none 0 ([] : List Sapi_Sym), own 3 (eI .i64) none 0 ([] : List Int), own 37 (eI .u32) none 0 ([] : List Int), box g2 26 [.slice none ([] : List Int).length 0, .slice none ([] : List Int).length 0, .slice none ([] : List Sapi_Sym).length 0], own 39 eSapi_Sym Aa244 cc245 l243, own 3 (eI .i64) none 0 ([] : List Int), own 37 (eI .u32) none 0 ([] : List Int), box g126 26 [.slice none ([] : List Int).length 0, .slice none ([] : List Int).length 0, .slice Aa244 l243.length cc245], own 39 eSapi_Sym none 0 ([] : List Sapi_Sym), own 3 (eI .i64) none 0 ([] : List Int), own 37 (eI .u32) none 0 ([] : List Int), own 37 (eI .u32) (some ad80) cc41 l42, own 37 (eI .u32) Aa111 cc112 l113] := hw
       refine go_pvs 3 [] [(3, .int .i64 4)] hs ?_; clear hs; intro a hs
       refine go_end (hK249 _ _ ?_)
       refine wp_ret ?_
       refine th_ret ?_
       obtain rfl := Option.some.inj H
       replace hw := hw.up 1
       replace hw := hw.up 2
       replace hs : Slots a 121 [(2, .pointer (some (⟨g2, 0, none⟩ : Addr))), (3, .int .i64 4)] := hs.kx
       refine ret2g (L := [(2, .pointer (some (⟨g2, 0, none⟩ : Addr))), (3, .int .i64 4)]) (r1 := .cell 2 26) (v1 := .agg #[.slice none ([] : List Int).length 0, .slice none ([] : List Int).length 0, .slice none ([] : List Sapi_Sym).length 0]) (r2 := .tmp 3) (v2 := .int .i64 4) hs (by kernel_rfl) ⟨_, (show lk 2 [(2, .pointer (some (⟨g2, 0, none⟩ : Addr))), (3, .int .i64 4)] = some (.pointer (some (⟨g2, 0, none⟩ : Addr))) by kernel_rfl), lvb_row (hw.up 3) (by kernel_rfl) (by kernel_rfl) (by kernel_rfl)⟩ (show lk 3 [(2, .pointer (some (⟨g2, 0, none⟩ : Addr))), (3, .int .i64 4)] = some (.int .i64 4) by kernel_rfl) ?_
       exact ⟨none, 0, none, 0, none, 0, rfl, hw.only 3⟩
      ·replace H := ite_f H (of_decide_eq_false hc)
       have hb255 := hc
       rw [hb255] at hs
       refine wp_skip ?_
       refine hK246 _ _ ?_
       refine go_seq_k fun K256 hK256 => ?_
       refine go_sk fun K257 hK257 => ?_
       refine go_pvs 2 [4, 6, 98] [(101, .slice Aa111 l113.length cc112), (102, .slice (some ad80) l42.length cc41)] hs ?_; clear hs; intro a hs
       obtain ⟨hp258, H⟩ := ite_only H
       refine go_run hs (by rfl) (x_idx (T := 37) (sz := 1) (a := ad80) (n := l42.length) (cap := cc41) (k := .i64) (i := (2 : Int)) hp258) [102] ?_; clear hs; intro a hs
       refine go_run hs (by rfl) (x_ld (off := 0) (p := ad80.add (((2 : Int) : Int).toNat * 1)) (v := .int .u32 (ix (eI .u32).d l42 (2 : Int))) (Rd.of_own (hw.up 8)) hp258 rfl) [103] ?_; clear hs; intro a hs
       refine go_pvs 5 [104] [(105, .int .i64 (w64 (ix (eI .u32).d l42 (2 : Int))))] hs ?_; clear hs; intro a hs
       obtain ⟨⟨t260, t261, t262⟩, hx263, H⟩ := bind_some H
       refine go_call hs (by rfl) (chain_Unpack.calls Aa111 cc112 l113 (w64 (ix (eI .u32).d l42 (2 : Int))) (t260, t261, t262) _ (Rd.of_own (hw.up 9)) hx263) ?_
       rintro e wd268 ⟨Aa264, cc265, Aa266, cc267, rfl, hw269⟩
       refine ⟨_, rfl, ?_⟩
       replace hw := hw.call hw269
       clear hs; intro a hs; replace hs := hs.rms [101, 105]
       refine go_pvs 11 [106] [(107, .slice Aa264 t260.length cc265), (108, .slice Aa266 t261.length cc267), (109, .int .i64 t262), (110, .pointer (some (((⟨g126, 0, none⟩ : Addr) : Addr).add 0)))] hs ?_; clear hs; intro a hs
       replace hw := hw.up 5
       obtain ⟨wd272, hx273, hw⟩ := x_bput (P := Tryd.prog) (ty := 0) (t := 22) (y := (Operand.tmp 110)) (z := (Operand.tmp 107)) (o := 0) (p := ((⟨g126, 0, none⟩ : Addr) : Addr).add 0) (v := .slice Aa264 t260.length cc265) (vs := [.slice Aa264 t260.length cc265]) (cs' := [.slice Aa264 t260.length cc265, .slice none ([] : List Int).length 0, .slice Aa244 l243.length cc245]) hs hw (by kernel_rfl) rfl (by kernel_rfl) rfl (by kernel_rfl) (by kernel_rfl) (by simp [Value.oneCell']) rfl
       refine go_unit hs (by rfl) hx273 [107, 110] ?_; clear hs; intro a hs
       refine go_pvs 13 [] [(111, .pointer (some (((⟨g126, 0, none⟩ : Addr) : Addr).add 1)))] hs ?_; clear hs; intro a hs
       obtain ⟨wd274, hx275, hw⟩ := x_bput (P := Tryd.prog) (ty := 0) (t := 23) (y := (Operand.tmp 111)) (z := (Operand.tmp 108)) (o := 1) (p := ((⟨g126, 0, none⟩ : Addr) : Addr).add 1) (v := .slice Aa266 t261.length cc267) (vs := [.slice Aa266 t261.length cc267]) (cs' := [.slice Aa264 t260.length cc265, .slice Aa266 t261.length cc267, .slice Aa244 l243.length cc245]) hs hw (by kernel_rfl) rfl (by kernel_rfl) rfl (by kernel_rfl) (by kernel_rfl) (by simp [Value.oneCell']) rfl
       refine go_unit hs (by rfl) hx275 [108, 111] ?_; clear hs; intro a hs
       refine go_pvs 15 [109] [(5, .int .i64 t262)] hs ?_; clear hs; intro a hs
       refine go_end (hK257 _ _ ?_)
       refine go_sp [] [(113, .bool (t262 != 0))] hs ?_; clear hs; intro a hs
       refine go_cond hs (t262 != 0) (fun hc => ?_) fun hc => ?_
       ·replace H := ite_f H (bne_iff_ne.1 hc)
        have hb277 := hc
        rw [hb277] at hs
        refine go_sk fun K278 hK278 => ?_
        refine go_pvs 2 [5, 7, 113] [(114, .agg #[.slice none 0 0, .slice none 0 0, .slice none 0 0]), (115, .int .i64 t262)] hs ?_; clear hs; intro a hs
        replace hw := hw.up 9
        obtain ⟨wd279, hx280, hw⟩ := x_bput (P := Tryd.prog) (ty := 0) (t := 26) (y := (Operand.tmp 2)) (z := (Operand.tmp 114)) (o := 0) (p := (⟨g2, 0, none⟩ : Addr)) (v := .agg #[.slice none 0 0, .slice none 0 0, .slice none 0 0]) (vs := [.slice none 0 0, .slice none 0 0, .slice none 0 0]) (cs' := [.slice none 0 0, .slice none 0 0, .slice none 0 0]) hs hw (by kernel_rfl) rfl (by kernel_rfl) rfl (by kernel_rfl) (by kernel_rfl) (by simp [Value.oneCell']) rfl
        refine go_unit hs (by rfl) hx280 [114] ?_; clear hs; intro a hs
        replace hw := St.own_nil hw 37 (eI .u32)
        replace hw := St.own_nil hw 3 (eI .i64)
        replace hw := St.own_nil hw 39 eSapi_Sym
        replace hw : St [] w0 wd279 [own 39 eSapi_Sym none 0 ([] : List Sapi_Sym), own 3 (eI .i64) none 0 ([] : List Int), own 37 (eI .u32) none 0 ([] : List Int), box g2 26 [.slice none ([] : List Int).length 0, .slice none ([] : List Int).length 0, .slice none ([] : List Sapi_Sym).length 0], box g126 26 [.slice Aa264 t260.length cc265, .slice Aa266 t261.length cc267, .slice Aa244 l243.length cc245], own 37 (eI .u32) Aa264 cc265 t260, own 3 (eI .i64) Aa266 cc267 t261, own 39 eSapi_Sym Aa244 cc245 l243, own 3 (eI .i64) none 0 ([] : List Int), own 37 (eI .u32) none 0 ([] : List Int), own 39 eSapi_Sym none 0 ([] : List Sapi_Sym), own 3 (eI .i64) none 0 ([] : List Int), own 37 (eI .u32) none 0 ([] : List Int), own 37 (eI .u32) (some ad80) cc41 l42, own 37 (eI .u32) Aa111 cc112 l113] := hw
        refine go_pvs 4 [115] [(3, .int .i64 t262)] hs ?_; clear hs; intro a hs
        refine go_end (hK278 _ _ ?_)
        refine wp_ret ?_
        refine th_ret ?_
        obtain rfl := Option.some.inj H
        replace hw := hw.up 1
        replace hw := hw.up 2
        replace hs : Slots a 121 [(2, .pointer (some (⟨g2, 0, none⟩ : Addr))), (3, .int .i64 t262)] := hs.kx
        refine ret2g (L := [(2, .pointer (some (⟨g2, 0, none⟩ : Addr))), (3, .int .i64 t262)]) (r1 := .cell 2 26) (v1 := .agg #[.slice none ([] : List Int).length 0, .slice none ([] : List Int).length 0, .slice none ([] : List Sapi_Sym).length 0]) (r2 := .tmp 3) (v2 := .int .i64 t262) hs (by kernel_rfl) ⟨_, (show lk 2 [(2, .pointer (some (⟨g2, 0, none⟩ : Addr))), (3, .int .i64 t262)] = some (.pointer (some (⟨g2, 0, none⟩ : Addr))) by kernel_rfl), lvb_row (hw.up 3) (by kernel_rfl) (by kernel_rfl) (by kernel_rfl)⟩ (show lk 3 [(2, .pointer (some (⟨g2, 0, none⟩ : Addr))), (3, .int .i64 t262)] = some (.int .i64 t262) by kernel_rfl) ?_
        exact ⟨none, 0, none, 0, none, 0, rfl, hw.only 3⟩
       ·replace H := ite_t H (bne_eq_false_iff_eq.1 hc)
        have hb284 := hc
        rw [hb284] at hs
        refine wp_skip ?_
        refine hK256 _ _ ?_
        refine go_seq_k fun K285 hK285 => ?_
        refine go_sk fun K286 hK286 => ?_
        refine go_run hs (by rfl) (x_blds (g := g126) (o := 0) (p := (⟨g126, 0, none⟩ : Addr)) (vs := [.slice Aa264 t260.length cc265, .slice Aa266 t261.length cc267, .slice Aa244 l243.length cc245]) (hw.up 0)) [5, 113] ?_; clear hs; intro a hs
        obtain ⟨t288, hx289, H⟩ := bind_some H
        refine go_call hs (by rfl) (object_May.calls (⟨t260, t261, l243⟩ : Sapi_Obj) Aa264 cc265 Aa266 cc267 Aa244 cc245 t288 _ (Rd.of_own (hw.up 1)) (Rd.of_own (hw.up 2)) (Rd.of_own (hw.up 3)) hx289) ?_
        rintro e wd290 ⟨rfl, hw291⟩
        refine ⟨_, rfl, ?_⟩
        replace hw := hw.call hw291
        clear hs; intro a hs; replace hs := hs.rms [116]
        refine go_pvs 3 [117] [(118, .bool (t288 != 0))] hs ?_; clear hs; intro a hs
        refine go_end (hK286 _ _ ?_)
        refine go_cond hs (t288 != 0) (fun hc => ?_) fun hc => ?_
        ·replace H := ite_f H (bne_iff_ne.1 hc)
         have hb292 := hc
         rw [hb292] at hs
         refine go_sk fun K293 hK293 => ?_
         refine go_pvs 1 [7, 118] [(119, .agg #[.slice none 0 0, .slice none 0 0, .slice none 0 0])] hs ?_; clear hs; intro a hs
         replace hw := hw.up 9
         obtain ⟨wd294, hx295, hw⟩ := x_bput (P := Tryd.prog) (ty := 0) (t := 26) (y := (Operand.tmp 2)) (z := (Operand.tmp 119)) (o := 0) (p := (⟨g2, 0, none⟩ : Addr)) (v := .agg #[.slice none 0 0, .slice none 0 0, .slice none 0 0]) (vs := [.slice none 0 0, .slice none 0 0, .slice none 0 0]) (cs' := [.slice none 0 0, .slice none 0 0, .slice none 0 0]) hs hw (by kernel_rfl) rfl (by kernel_rfl) rfl (by kernel_rfl) (by kernel_rfl) (by simp [Value.oneCell']) rfl
         refine go_unit hs (by rfl) hx295 [119] ?_; clear hs; intro a hs
         replace hw := St.own_nil hw 37 (eI .u32)
         replace hw := St.own_nil hw 3 (eI .i64)
         replace hw := St.own_nil hw 39 eSapi_Sym
         replace hw : St [] w0 wd294 [own 39 eSapi_Sym none 0 ([] : List Sapi_Sym), own 3 (eI .i64) none 0 ([] : List Int), own 37 (eI .u32) none 0 ([] : List Int), box g2 26 [.slice none ([] : List Int).length 0, .slice none ([] : List Int).length 0, .slice none ([] : List Sapi_Sym).length 0], box g126 26 [.slice Aa264 t260.length cc265, .slice Aa266 t261.length cc267, .slice Aa244 l243.length cc245], own 37 (eI .u32) Aa264 cc265 t260, own 3 (eI .i64) Aa266 cc267 t261, own 39 eSapi_Sym Aa244 cc245 l243, own 3 (eI .i64) none 0 ([] : List Int), own 37 (eI .u32) none 0 ([] : List Int), own 39 eSapi_Sym none 0 ([] : List Sapi_Sym), own 3 (eI .i64) none 0 ([] : List Int), own 37 (eI .u32) none 0 ([] : List Int), own 37 (eI .u32) (some ad80) cc41 l42, own 37 (eI .u32) Aa111 cc112 l113] := hw
         refine go_pvs 3 [] [(3, .int .i64 6)] hs ?_; clear hs; intro a hs
         refine go_end (hK293 _ _ ?_)
         refine wp_ret ?_
         refine th_ret ?_
         obtain rfl := Option.some.inj H
         replace hw := hw.up 1
         replace hw := hw.up 2
         replace hs : Slots a 121 [(2, .pointer (some (⟨g2, 0, none⟩ : Addr))), (3, .int .i64 6)] := hs.kx
         refine ret2g (L := [(2, .pointer (some (⟨g2, 0, none⟩ : Addr))), (3, .int .i64 6)]) (r1 := .cell 2 26) (v1 := .agg #[.slice none ([] : List Int).length 0, .slice none ([] : List Int).length 0, .slice none ([] : List Sapi_Sym).length 0]) (r2 := .tmp 3) (v2 := .int .i64 6) hs (by kernel_rfl) ⟨_, (show lk 2 [(2, .pointer (some (⟨g2, 0, none⟩ : Addr))), (3, .int .i64 6)] = some (.pointer (some (⟨g2, 0, none⟩ : Addr))) by kernel_rfl), lvb_row (hw.up 3) (by kernel_rfl) (by kernel_rfl) (by kernel_rfl)⟩ (show lk 3 [(2, .pointer (some (⟨g2, 0, none⟩ : Addr))), (3, .int .i64 6)] = some (.int .i64 6) by kernel_rfl) ?_
         exact ⟨none, 0, none, 0, none, 0, rfl, hw.only 3⟩
        ·replace H := ite_t H (bne_eq_false_iff_eq.1 hc)
         have hb299 := hc
         rw [hb299] at hs
         refine wp_skip ?_
         refine hK285 _ _ ?_
         refine go_sk fun K300 hK300 => ?_
         refine go_run hs (by rfl) (x_blds (g := g126) (o := 0) (p := (⟨g126, 0, none⟩ : Addr)) (vs := [.slice Aa264 t260.length cc265, .slice Aa266 t261.length cc267, .slice Aa244 l243.length cc245]) (hw.up 0)) [7, 118] ?_; clear hs; intro a hs
         replace hw := hw.up 9
         obtain ⟨wd301, hx302, hw⟩ := x_bput (P := Tryd.prog) (ty := 0) (t := 26) (y := (Operand.tmp 2)) (z := (Operand.tmp 120)) (o := 0) (p := (⟨g2, 0, none⟩ : Addr)) (v := .agg #[.slice Aa264 t260.length cc265, .slice Aa266 t261.length cc267, .slice Aa244 l243.length cc245]) (vs := [.slice Aa264 t260.length cc265, .slice Aa266 t261.length cc267, .slice Aa244 l243.length cc245]) (cs' := [.slice Aa264 t260.length cc265, .slice Aa266 t261.length cc267, .slice Aa244 l243.length cc245]) hs hw (by kernel_rfl) rfl (by kernel_rfl) rfl (by kernel_rfl) (by kernel_rfl) (by simp [Value.oneCell']) rfl
         refine go_unit hs (by rfl) hx302 [120] ?_; clear hs; intro a hs
         refine go_pvs 3 [] [(3, .int .i64 0)] hs ?_; clear hs; intro a hs
         refine go_end (hK300 _ _ ?_)
         refine wp_ret ?_
         obtain rfl := Option.some.inj H
         replace hw := hw.up 4
         replace hw := hw.up 4
         replace hw := hw.up 4
         replace hs : Slots a 121 [(2, .pointer (some (⟨g2, 0, none⟩ : Addr))), (3, .int .i64 0)] := hs.kx
         refine ret2g (L := [(2, .pointer (some (⟨g2, 0, none⟩ : Addr))), (3, .int .i64 0)]) (r1 := .cell 2 26) (v1 := .agg #[.slice Aa264 t260.length cc265, .slice Aa266 t261.length cc267, .slice Aa244 l243.length cc245]) (r2 := .tmp 3) (v2 := .int .i64 0) hs (by kernel_rfl) ⟨_, (show lk 2 [(2, .pointer (some (⟨g2, 0, none⟩ : Addr))), (3, .int .i64 0)] = some (.pointer (some (⟨g2, 0, none⟩ : Addr))) by kernel_rfl), lvb_row (hw.up 3) (by kernel_rfl) (by kernel_rfl) (by kernel_rfl)⟩ (show lk 3 [(2, .pointer (some (⟨g2, 0, none⟩ : Addr))), (3, .int .i64 0)] = some (.int .i64 0) by kernel_rfl) ?_
         exact ⟨Aa264, cc265, Aa266, cc267, Aa244, cc245, rfl, hw.only 3⟩
     clear H
     refine go_loop (σ := (List Sapi_Sym) × (List Int) × Int) (fun σ a w => ∃ Aa138, ∃ cc139, ∃ Aa140, ∃ cc141, ∃ hc143 : (∀ w', Rd w' (eI .u8) A0 c0 l0 → Rd w' (eI .u8) Aa140 cc141 σ.2.1), Slots a 121 [(0, .slice Aa140 σ.2.1.length cc141), (2, .pointer (some (⟨g2, 0, none⟩ : Addr))), (4, .slice (some ad80) l42.length cc41), (6, .slice Aa111 l113.length cc112), (7, .pointer (some (⟨g126, 0, none⟩ : Addr))), (58, .int .u32 (ix (eI .u32).d l42 (3 : Int))), (59, .int .u32 σ.2.2)] ∧ St [] w0 w [own 39 eSapi_Sym Aa138 cc139 σ.1, own 3 (eI .i64) none 0 ([] : List Int), own 37 (eI .u32) none 0 ([] : List Int), box g126 26 [.slice none ([] : List Int).length 0, .slice none ([] : List Int).length 0, .slice Aa138 σ.1.length cc139], own 39 eSapi_Sym none 0 ([] : List Sapi_Sym), own 3 (eI .i64) none 0 ([] : List Int), own 37 (eI .u32) none 0 ([] : List Int), box g2 26 [.slice none ([] : List Int).length 0, .slice none ([] : List Int).length 0, .slice none ([] : List Sapi_Sym).length 0], own 37 (eI .u32) (some ad80) cc41 l42, own 37 (eI .u32) Aa111 cc112 l113]) hl136 (by exact ⟨none, 0, Aa105, cc106, hc108, hs.kx, hw⟩) ?_
     rintro ⟨l137, l142, v145⟩ a w ⟨Aa138, cc139, Aa140, cc141, hc143, hs, hw⟩ o H hr136
     replace hs : Slots a 121 [(0, .slice Aa140 l142.length cc141), (2, .pointer (some (⟨g2, 0, none⟩ : Addr))), (4, .slice (some ad80) l42.length cc41), (6, .slice Aa111 l113.length cc112), (7, .pointer (some (⟨g126, 0, none⟩ : Addr))), (58, .int .u32 (ix (eI .u32).d l42 (3 : Int))), (59, .int .u32 v145)] := hs
     replace hw : St [] w0 w [own 39 eSapi_Sym Aa138 cc139 l137, own 3 (eI .i64) none 0 ([] : List Int), own 37 (eI .u32) none 0 ([] : List Int), box g126 26 [.slice none ([] : List Int).length 0, .slice none ([] : List Int).length 0, .slice Aa138 l137.length cc139], own 39 eSapi_Sym none 0 ([] : List Sapi_Sym), own 3 (eI .i64) none 0 ([] : List Int), own 37 (eI .u32) none 0 ([] : List Int), box g2 26 [.slice none ([] : List Int).length 0, .slice none ([] : List Int).length 0, .slice none ([] : List Sapi_Sym).length 0], own 37 (eI .u32) (some ad80) cc41 l42, own 37 (eI .u32) Aa111 cc112 l113] := hw
     replace H : file_Take.b136 l42 l137 l142 v145 = some o := H
     unfold file_Take.b136 at H
     refine go_sp [] [(60, .bool (decide (v145 < (ix (eI .u32).d l42 (3 : Int)))))] hs ?_; clear hs; intro a hs
     refine go_seq_k fun K147 hK147 => ?_
     refine go_cond hs (decide (v145 < (ix (eI .u32).d l42 (3 : Int)))) (fun hc => ?_) fun hc => ?_
     ·replace H := ite_t H (of_decide_eq_true hc)
      have hb148 := hc
      rw [hb148] at hs
      refine wp_skip ?_
      refine hK147 _ _ ?_
      refine go_seq_k fun K149 hK149 => ?_
      refine wp_block ?_
      refine go_sk fun K150 hK150 => ?_
      refine go_pvs 1 [60] [(62, .slice Aa140 l142.length cc141)] hs ?_; clear hs; intro a hs
      obtain ⟨⟨t152, t153, t154⟩, hx155, H⟩ := bind_some H
      refine go_call hs (by rfl) (le_TakeName.calls Aa140 cc141 l142 (t152, t153, t154) _ (hc143 _ (hr0.old hw)) hx155) ?_
      rintro e wd156 ⟨rfl, hw157⟩
      refine ⟨_, rfl, ?_⟩
      replace hw := hw.call hw157
      clear hs; intro a hs; replace hs := hs.rms [62]
      refine go_pvs 9 [63] [(8, .string t152), (9, .int .i64 t153), (10, .int .i64 t154)] hs ?_; clear hs; intro a hs
      refine go_end (hK150 _ _ ?_)
      refine go_seq_k fun K158 hK158 => ?_
      refine go_sp [] [(68, .bool (t154 != 0))] hs ?_; clear hs; intro a hs
      refine go_cond hs (t154 != 0) (fun hc => ?_) fun hc => ?_
      ·replace H := ite_f H (bne_iff_ne.1 hc)
       have hb160 := hc
       rw [hb160] at hs
       refine go_sk fun K161 hK161 => ?_
       refine go_pvs 2 [0, 4, 6, 7, 8, 9, 10, 58, 59, 68] [(69, .agg #[.slice none 0 0, .slice none 0 0, .slice none 0 0]), (70, .int .i64 t154)] hs ?_; clear hs; intro a hs
       replace hw := hw.up 7
       obtain ⟨wd162, hx163, hw⟩ := x_bput (P := Tryd.prog) (ty := 0) (t := 26) (y := (Operand.tmp 2)) (z := (Operand.tmp 69)) (o := 0) (p := (⟨g2, 0, none⟩ : Addr)) (v := .agg #[.slice none 0 0, .slice none 0 0, .slice none 0 0]) (vs := [.slice none 0 0, .slice none 0 0, .slice none 0 0]) (cs' := [.slice none 0 0, .slice none 0 0, .slice none 0 0]) hs hw (by kernel_rfl) rfl (by kernel_rfl) rfl (by kernel_rfl) (by kernel_rfl) (by simp [Value.oneCell']) rfl
       refine go_unit hs (by rfl) hx163 [69] ?_; clear hs; intro a hs
       replace hw := St.own_nil hw 37 (eI .u32)
       replace hw := St.own_nil hw 3 (eI .i64)
       replace hw := St.own_nil hw 39 eSapi_Sym
       replace hw : St [] w0 wd162 [own 39 eSapi_Sym none 0 ([] : List Sapi_Sym), own 3 (eI .i64) none 0 ([] : List Int), own 37 (eI .u32) none 0 ([] : List Int), box g2 26 [.slice none ([] : List Int).length 0, .slice none ([] : List Int).length 0, .slice none ([] : List Sapi_Sym).length 0], own 39 eSapi_Sym Aa138 cc139 l137, own 3 (eI .i64) none 0 ([] : List Int), own 37 (eI .u32) none 0 ([] : List Int), box g126 26 [.slice none ([] : List Int).length 0, .slice none ([] : List Int).length 0, .slice Aa138 l137.length cc139], own 39 eSapi_Sym none 0 ([] : List Sapi_Sym), own 3 (eI .i64) none 0 ([] : List Int), own 37 (eI .u32) none 0 ([] : List Int), own 37 (eI .u32) (some ad80) cc41 l42, own 37 (eI .u32) Aa111 cc112 l113] := hw
       refine go_pvs 4 [70] [(3, .int .i64 t154)] hs ?_; clear hs; intro a hs
       refine go_end (hK161 _ _ ?_)
       refine wp_ret ?_
       refine th_ret ?_
       refine ib_ret ?_
       refine th_ret ?_
       refine th_ret ?_
       refine ib_ret ?_
       refine th_ret ?_
       rw [← hr136 _ (Option.some.inj H).symm] at HX136
       replace H : some ((⟨([] : List Int), ([] : List Int), ([] : List Sapi_Sym)⟩ : Sapi_Obj), t154) = some r := HX136
       obtain rfl := Option.some.inj H
       replace hw := hw.up 1
       replace hw := hw.up 2
       replace hs : Slots a 121 [(2, .pointer (some (⟨g2, 0, none⟩ : Addr))), (3, .int .i64 t154)] := hs.kx
       refine ret2g (L := [(2, .pointer (some (⟨g2, 0, none⟩ : Addr))), (3, .int .i64 t154)]) (r1 := .cell 2 26) (v1 := .agg #[.slice none ([] : List Int).length 0, .slice none ([] : List Int).length 0, .slice none ([] : List Sapi_Sym).length 0]) (r2 := .tmp 3) (v2 := .int .i64 t154) hs (by kernel_rfl) ⟨_, (show lk 2 [(2, .pointer (some (⟨g2, 0, none⟩ : Addr))), (3, .int .i64 t154)] = some (.pointer (some (⟨g2, 0, none⟩ : Addr))) by kernel_rfl), lvb_row (hw.up 3) (by kernel_rfl) (by kernel_rfl) (by kernel_rfl)⟩ (show lk 3 [(2, .pointer (some (⟨g2, 0, none⟩ : Addr))), (3, .int .i64 t154)] = some (.int .i64 t154) by kernel_rfl) ?_
       exact ⟨none, 0, none, 0, none, 0, rfl, hw.only 3⟩
      ·replace H := ite_t H (bne_eq_false_iff_eq.1 hc)
       have hb167 := hc
       rw [hb167] at hs
       refine wp_skip ?_
       refine hK158 _ _ ?_
       refine go_sk fun K168 hK168 => ?_
       refine go_pvs 2 [0, 9, 10, 68] [(72, .slice Aa140 l142.length cc141), (73, .int .i64 t153)] hs ?_; clear hs; intro a hs
       obtain ⟨hp169, H⟩ := ite_only H
       obtain ⟨Aa170, cc171, hA174, hx172, hc173⟩ := c_loA (P := Tryd.prog) (ty := 32) (E := (eI .u8)) (T := 5) (t := 32) (x := (Operand.tmp 72)) (y := (Operand.tmp 73)) (k := .i64) hs (by kernel_rfl) (by kernel_rfl) (hc143 _ (hr0.old hw)) (by kernel_rfl) (by kernel_rfl) hp169.1 hp169.2
       refine go_run hs (by rfl) hx172 [72, 73] ?_; clear hs; intro a hs
       refine go_inline_k hs (by rfl) (f := 48) (args := #[.slice Aa170 (l142.drop (t153 : Int).toNat).length cc171, .int .i64 1]) (fun KR176 hKR176 => ?_)
       refine go_fn Tryd.func48 rfl Tryd.ntmps48 ?_; clear hs; intro a hs
       have hJ5 : ∀ (Aa200 : Option Addr) (cc201 : Nat) (l202 : List Int) (hc203 : ∀ w', Rd w' (eI .u8) A0 c0 l0 → Rd w' (eI .u8) Aa200 cc201 l202) (Aa206 : Option Addr) (cc207 : Nat) (l208 : List Int) (v209 : Int) (w : World), St [] w0 w [own 39 eSapi_Sym Aa138 cc139 l137, own 3 (eI .i64) none 0 ([] : List Int), own 37 (eI .u32) none 0 ([] : List Int), box g126 26 [.slice none ([] : List Int).length 0, .slice none ([] : List Int).length 0, .slice Aa138 l137.length cc139], own 39 eSapi_Sym none 0 ([] : List Sapi_Sym), own 3 (eI .i64) none 0 ([] : List Int), own 37 (eI .u32) none 0 ([] : List Int), box g2 26 [.slice none ([] : List Int).length 0, .slice none ([] : List Int).length 0, .slice none ([] : List Sapi_Sym).length 0], own 37 (eI .u32) (some ad80) cc41 l42, own 37 (eI .u32) Aa111 cc112 l113, own 37 (eI .u32) Aa206 cc207 l208] → file_Take.j5 l137 t152 v145 l202 l208 v209 = some o → KR176 (.tuple #[.slice Aa206 l208.length cc207, .slice Aa200 l202.length cc201, .int .i64 v209]) w := by
        intro Aa200 cc201 l202 hc203 Aa206 cc207 l208 v209 w hw H
        unfold file_Take.j5 at H
        refine hKR176 _ _ ?_
        intro a hs1; have hs : Slots a _ [(2, .pointer (some (⟨g2, 0, none⟩ : Addr))), (4, .slice (some ad80) l42.length cc41), (6, .slice Aa111 l113.length cc112), (7, .pointer (some (⟨g126, 0, none⟩ : Addr))), (8, .string t152), (58, .int .u32 (ix (eI .u32).d l42 (3 : Int))), (59, .int .u32 v145), (75, .tuple #[.slice Aa206 l208.length cc207, .slice Aa200 l202.length cc201, .int .i64 v209])] := hs1.kx; clear hs1
        refine go_pvs 11 [75] [(10, .int .i64 v209), (11, .slice Aa206 l208.length cc207), (12, .slice Aa200 l202.length cc201)] hs ?_; clear hs; intro a hs
        refine go_end (hK168 _ _ ?_)
        refine go_seq_k fun K210 hK210 => ?_
        refine go_sp [] [(80, .bool (v209 != 0))] hs ?_; clear hs; intro a hs
        refine go_cond hs (v209 != 0) (fun hc => ?_) fun hc => ?_
        ·replace H := ite_f H (bne_iff_ne.1 hc)
         have hb212 := hc
         rw [hb212] at hs
         refine go_sk fun K213 hK213 => ?_
         refine go_pvs 2 [4, 6, 7, 8, 10, 11, 12, 58, 59, 80] [(81, .agg #[.slice none 0 0, .slice none 0 0, .slice none 0 0]), (82, .int .i64 v209)] hs ?_; clear hs; intro a hs
         replace hw := hw.up 7
         obtain ⟨wd214, hx215, hw⟩ := x_bput (P := Tryd.prog) (ty := 0) (t := 26) (y := (Operand.tmp 2)) (z := (Operand.tmp 81)) (o := 0) (p := (⟨g2, 0, none⟩ : Addr)) (v := .agg #[.slice none 0 0, .slice none 0 0, .slice none 0 0]) (vs := [.slice none 0 0, .slice none 0 0, .slice none 0 0]) (cs' := [.slice none 0 0, .slice none 0 0, .slice none 0 0]) hs hw (by kernel_rfl) rfl (by kernel_rfl) rfl (by kernel_rfl) (by kernel_rfl) (by simp [Value.oneCell']) rfl
         refine go_unit hs (by rfl) hx215 [81] ?_; clear hs; intro a hs
         replace hw := St.own_nil hw 37 (eI .u32)
         replace hw := St.own_nil hw 3 (eI .i64)
         replace hw := St.own_nil hw 39 eSapi_Sym
         replace hw : St [] w0 wd214 [own 39 eSapi_Sym none 0 ([] : List Sapi_Sym), own 3 (eI .i64) none 0 ([] : List Int), own 37 (eI .u32) none 0 ([] : List Int), box g2 26 [.slice none ([] : List Int).length 0, .slice none ([] : List Int).length 0, .slice none ([] : List Sapi_Sym).length 0], own 39 eSapi_Sym Aa138 cc139 l137, own 3 (eI .i64) none 0 ([] : List Int), own 37 (eI .u32) none 0 ([] : List Int), box g126 26 [.slice none ([] : List Int).length 0, .slice none ([] : List Int).length 0, .slice Aa138 l137.length cc139], own 39 eSapi_Sym none 0 ([] : List Sapi_Sym), own 3 (eI .i64) none 0 ([] : List Int), own 37 (eI .u32) none 0 ([] : List Int), own 37 (eI .u32) (some ad80) cc41 l42, own 37 (eI .u32) Aa111 cc112 l113, own 37 (eI .u32) Aa206 cc207 l208] := hw
         refine go_pvs 4 [82] [(3, .int .i64 v209)] hs ?_; clear hs; intro a hs
         refine go_end (hK213 _ _ ?_)
         refine wp_ret ?_
         refine th_ret ?_
         refine ib_ret ?_
         refine th_ret ?_
         refine th_ret ?_
         refine ib_ret ?_
         refine th_ret ?_
         rw [← hr136 _ (Option.some.inj H).symm] at HX136
         replace H : some ((⟨([] : List Int), ([] : List Int), ([] : List Sapi_Sym)⟩ : Sapi_Obj), v209) = some r := HX136
         obtain rfl := Option.some.inj H
         replace hw := hw.up 1
         replace hw := hw.up 2
         replace hs : Slots a 121 [(2, .pointer (some (⟨g2, 0, none⟩ : Addr))), (3, .int .i64 v209)] := hs.kx
         refine ret2g (L := [(2, .pointer (some (⟨g2, 0, none⟩ : Addr))), (3, .int .i64 v209)]) (r1 := .cell 2 26) (v1 := .agg #[.slice none ([] : List Int).length 0, .slice none ([] : List Int).length 0, .slice none ([] : List Sapi_Sym).length 0]) (r2 := .tmp 3) (v2 := .int .i64 v209) hs (by kernel_rfl) ⟨_, (show lk 2 [(2, .pointer (some (⟨g2, 0, none⟩ : Addr))), (3, .int .i64 v209)] = some (.pointer (some (⟨g2, 0, none⟩ : Addr))) by kernel_rfl), lvb_row (hw.up 3) (by kernel_rfl) (by kernel_rfl) (by kernel_rfl)⟩ (show lk 3 [(2, .pointer (some (⟨g2, 0, none⟩ : Addr))), (3, .int .i64 v209)] = some (.int .i64 v209) by kernel_rfl) ?_
         exact ⟨none, 0, none, 0, none, 0, rfl, hw.only 3⟩
        ·replace H := ite_t H (bne_eq_false_iff_eq.1 hc)
         have hb219 := hc
         rw [hb219] at hs
         refine wp_skip ?_
         refine hK210 _ _ ?_
         refine go_seq_k fun K220 hK220 => ?_
         refine d_region [9, 11] [(true, [0, 1, 2, 3, 4, 5, 6, 7], 8), (true, [], 9), (false, [10], 11)] [] (by kernel_rfl) (by kernel_rfl) (fun c a d v w h => by cases d <;> exact h) ?_
         refine d_seg ?_
         refine c_pvs [0] [1, 2, 3, 4, 5, 6, 7] [10, 80] [(83, .pointer (some (((⟨g126, 0, none⟩ : Addr) : Addr).add 2)))] hs ?_; clear hs; intro a hs
         refine d_run hs (by rfl) (fun wx hbx => (x_bldD (g := g126) (o := 2) (p := ((⟨g126, 0, none⟩ : Addr) : Addr).add 2) (v := .slice Aa138 l137.length cc139) (hw.up 3) hbx)) [83] ?_; clear hs; intro a hs
         refine c_pvs [2, 3] [4, 5, 6, 7] [8, 11] [(85, .string t152), (86, .slice Aa206 l208.length cc207)] hs ?_; clear hs; intro a hs
         obtain ⟨hp221, H⟩ := ite_only H
         obtain ⟨ad222, rfl⟩ := (Rd.of_own (hw.up 10)).some hp221.1 hp221.2
         refine d_run hs (by rfl) (fun wx hbx => (x_idx (T := 37) (sz := 1) (a := ad222) (n := l208.length) (cap := cc207) (k := .i64) (i := (0 : Int)) hp221)) [86] ?_; clear hs; intro a hs
         refine d_run hs (by rfl) (fun wx hbx => (x_ld (off := 0) (p := ad222.add (((0 : Int) : Int).toNat * 1)) (v := .int .u32 (ix (eI .u32).d l208 (0 : Int))) (Rd.bn (Rd.of_own (hw.up 10)) hbx) hp221 rfl)) [87] ?_; clear hs; intro a hs
         refine c_pvs [6, 7] [] [85, 88] [(90, .agg #[.string t152, .int .i64 (w64 (ix (eI .u32).d l208 (0 : Int)))])] hs ?_; clear hs; intro a hs
         refine c_end ?_
         intro wq hbq
         replace hw := hw.behind hbq
         have hbc := Below.refl wq.heap.size wq
         obtain ⟨Aa223, cc224, wd225, hx226, hwn⟩ := n_lit (P := Tryd.prog) (t := 24) (ty := 24) (T := 39) (len := 1) (parts := #[(0, (Operand.tmp 90))]) (z := .agg #[.string (⟨#[]⟩ : ByteArray), .int .i64 0]) (bytes := 24) (cells := #[.string t152, .int .i64 (w64 (ix (eI .u32).d l208 (0 : Int)))]) hs (nil_of hw) eSapi_Sym ([(⟨t152, w64 (ix (eI .u32).d l208 (0 : Int))⟩ : Sapi_Sym)] : List Sapi_Sym) (by kernel_rfl) (by kernel_rfl) (by kernel_rfl) (by kernel_rfl) (by kernel_rfl) (by kernel_rfl) (by kernel_rfl)
         replace hbc := hwn.below
         replace hw := hw.call hwn
         clear hwn
         refine p_run hs (by rfl) hx226 [90] ?_; clear hs; intro a hs
         refine c_done ⟨.inr (bn_of hbq hbc), ?_⟩
         clear hbc hbq
         refine d_seg ?_
         refine c_end ?_
         intro wq hbq
         replace hw := hw.behind hbq
         obtain ⟨hp228, H⟩ := ite_only H
         have hsrc233 : Src Tryd.prog eSapi_Sym.sz 24 (.slice Aa223 ([(⟨t152, w64 (ix (eI .u32).d l208 (0 : Int))⟩ : Sapi_Sym)] : List Sapi_Sym).length cc224) ([(⟨t152, w64 (ix (eI .u32).d l208 (0 : Int))⟩ : Sapi_Sym)] : List Sapi_Sym).length (([(⟨t152, w64 (ix (eI .u32).d l208 (0 : Int))⟩ : Sapi_Sym)] : List Sapi_Sym).flatMap eSapi_Sym.enc) _ := (Src.of_rd (E := eSapi_Sym) (e' := 39) (by kernel_rfl) (Rd.of_own (hw.up 0)))
         replace hw := hw.up 1
         obtain ⟨Aa229, cc230, wd231, hx232, hw⟩ := x_append (P := Tryd.prog) (t := 24) (tx := 24) (ty := 24) (x := (Operand.tmp 84)) (y := (Operand.tmp 91)) (z := .agg #[.string (⟨#[]⟩ : ByteArray), .int .i64 0]) (bytes := 24) (l2 := ([(⟨t152, w64 (ix (eI .u32).d l208 (0 : Int))⟩ : Sapi_Sym)] : List Sapi_Sym)) hs hw (by kernel_rfl) (by kernel_rfl) (by kernel_rfl) (by kernel_rfl) (by kernel_rfl) hsrc233 (by omega) (by omega)
         refine p_run hs (by rfl) hx232 [84, 91] ?_; clear hs; intro a hs
         refine c_done ⟨.inl (by kernel_rfl), ?_⟩
         clear hbq
         refine d_seg0 ?_
         refine c_pvs [10] [] [] [(93, .pointer (some (((⟨g126, 0, none⟩ : Addr) : Addr).add 2)))] hs ?_; clear hs; intro a hs
         refine c_end ?_
         intro wq hbq
         replace hw := hw.behind hbq
         replace hw := hw.up 4
         obtain ⟨wd234, hx235, hw⟩ := x_bput (P := Tryd.prog) (ty := 0) (t := 24) (y := (Operand.tmp 93)) (z := (Operand.tmp 92)) (o := 2) (p := ((⟨g126, 0, none⟩ : Addr) : Addr).add 2) (v := .slice Aa229 (l137 ++ ([(⟨t152, w64 (ix (eI .u32).d l208 (0 : Int))⟩ : Sapi_Sym)] : List Sapi_Sym)).length cc230) (vs := [.slice Aa229 (l137 ++ ([(⟨t152, w64 (ix (eI .u32).d l208 (0 : Int))⟩ : Sapi_Sym)] : List Sapi_Sym)).length cc230]) (cs' := [.slice none ([] : List Int).length 0, .slice none ([] : List Int).length 0, .slice Aa229 (l137 ++ ([(⟨t152, w64 (ix (eI .u32).d l208 (0 : Int))⟩ : Sapi_Sym)] : List Sapi_Sym)).length cc230]) hs hw (by kernel_rfl) rfl (by kernel_rfl) rfl (by kernel_rfl) (by kernel_rfl) (by simp [Value.oneCell']) rfl
         refine p_unit hs (by rfl) hx235 [92, 93] ?_; clear hs; intro a hs
         refine c_done ⟨.inl (by kernel_rfl), ?_⟩
         clear hbq
         refine d_last ?_
         refine c_end ?_
         intro wq hbq
         replace hw := hw.behind hbq
         refine hK220 _ _ ?_
         refine go_plain [12] [(0, .slice Aa200 l202.length cc201)] hs ?_; clear hs; intro a hs
         refine ib_norm ?_
         refine hK149 _ _ ?_
         refine go_plain [] [(59, .int .u32 (wu32 (v145 + 1)))] hs ?_; clear hs; intro a hs
         replace hw := hw.up 10
         replace hw := hw.up 10
         replace hw := hw.up 10
         replace hw := hw.up 10
         replace hw := hw.up 10
         replace hw := hw.up 10
         replace hw := hw.up 6
         replace hw := hw.up 10
         replace hw := hw.up 10
         replace hw := hw.up 9
         replace hw := hw.only 10
         exact round_end (l137 ++ ([(⟨t152, w64 (ix (eI .u32).d l208 (0 : Int))⟩ : Sapi_Sym)] : List Sapi_Sym), l202, wu32 (v145 + 1)) (Option.some.inj H).symm ⟨Aa229, cc230, Aa200, cc201, hc203, hs.kx, hw⟩
       refine go_sp [] [] hs ?_; clear hs; intro a hs
       refine go_seq_k fun K178 hK178 => ?_
       refine go_sk fun K179 hK179 => ?_
       refine go_pvs 2 [] [(8, .slice Aa170 (l142.drop (t153 : Int).toNat).length cc171), (9, .int .i64 1)] hs ?_; clear hs; intro a hs
       obtain ⟨⟨t181, t182⟩, hx183, H⟩ := bind_some H
       refine go_call hs (by rfl) (le_Take.calls Aa170 cc171 (l142.drop (t153 : Int).toNat) 1 (t181, t182) _ (hc173 _ (hc143 _ (hr0.old hw))) hx183) ?_
       rintro e wd186 ⟨Aa184, cc185, rfl, hw187⟩
       refine ⟨_, rfl, ?_⟩
       replace hw := hw.call hw187
       clear hs; intro a hs; replace hs := hs.rms [8, 9]
       refine go_pvs 8 [10] [(4, .slice Aa184 t181.length cc185), (6, .int .i64 t182)] hs ?_; clear hs; intro a hs
       refine go_end (hK179 _ _ ?_)
       refine go_sp [] [(14, .bool (t182 != 0))] hs ?_; clear hs; intro a hs
       refine go_cond hs (t182 != 0) (fun hc => ?_) fun hc => ?_
       ·replace H := ite_f H (bne_iff_ne.1 hc)
        have hb190 := hc
        rw [hb190] at hs
        refine go_sp [0, 1, 14] [(4, .slice none 0 0), (5, .slice none 0 0)] hs ?_; clear hs; intro a hs
        refine wp_ret ?_
        refine th_ret ?_
        refine ret3 (t1 := 4) (v1 := .slice none 0 0) (t2 := 5) (v2 := .slice none 0 0) (t3 := 6) (v3 := .int .i64 t182) hs (by kernel_rfl) (by kernel_rfl) (by kernel_rfl) (by kernel_rfl) ?_
        refine ⟨_, rfl, ?_⟩
        replace hw := St.own_nil hw 37 (eI .u32)
        replace hw := hw.up 11
        replace hw := hw.up 11
        replace hw := hw.up 11
        replace hw := hw.up 11
        replace hw := hw.up 11
        replace hw := hw.up 11
        replace hw := hw.up 11
        replace hw := hw.up 11
        replace hw := hw.up 11
        replace hw := hw.up 11
        replace hw := hw.only 11
        exact hJ5 none 0 ([] : List Int) (fun _ _ => Rd.nil _ _) none 0 ([] : List Int) t182 _ hw H
       ·replace H := ite_t H (bne_eq_false_iff_eq.1 hc)
        have hb192 := hc
        rw [hb192] at hs
        refine wp_skip ?_
        refine hK178 _ _ ?_
        refine go_seq_k fun K193 hK193 => ?_
        refine q2_region (by kernel_rfl) (by kernel_rfl) ?_
        refine q_pvs 4 [0, 1, 4, 6, 14] [(16, .slice Aa184 t181.length cc185), (17, .slice Aa170 (l142.drop (t153 : Int).toNat).length cc171), (19, .int .i64 (w64 (4 * 1)))] hs ?_; clear hs; intro a hs
        obtain ⟨hp194, H⟩ := ite_only H
        obtain ⟨Aa195, cc196, hx197, hc198⟩ := w_lo (P := Tryd.prog) (ty := 32) (E := (eI .u8)) (T := 5) (t := 32) (x := (Operand.tmp 17)) (y := (Operand.tmp 19)) (k := .i64) hs (by kernel_rfl) (by kernel_rfl) (hc173 _ (hc143 _ (hr0.old hw))) (by kernel_rfl) (by kernel_rfl) hp194.1 hp194.2
        refine q_run hs (by rfl) (fun wx hbx => (hx197 wx)) [17, 19] ?_; clear hs; intro a hs
        refine q_pvs 8 [16, 20] [(4, .slice Aa184 t181.length cc185), (5, .slice Aa195 ((l142.drop (t153 : Int).toNat).drop (w64 (4 * 1) : Int).toNat).length cc196), (6, .int .i64 0)] hs ?_; clear hs; intro a hs
        refine q_end ?_
        intro wq hbq
        replace hw := hw.behind hbq
        refine hK193 _ _ ?_
        refine wp_ret ?_
        refine ret3 (t1 := 4) (v1 := .slice Aa184 t181.length cc185) (t2 := 5) (v2 := .slice Aa195 ((l142.drop (t153 : Int).toNat).drop (w64 (4 * 1) : Int).toNat).length cc196) (t3 := 6) (v3 := .int .i64 0) hs (by kernel_rfl) (by kernel_rfl) (by kernel_rfl) (by kernel_rfl) ?_
        refine ⟨_, rfl, ?_⟩
        replace hw := hw.up 10
        replace hw := hw.up 10
        replace hw := hw.up 10
        replace hw := hw.up 10
        replace hw := hw.up 10
        replace hw := hw.up 10
        replace hw := hw.up 10
        replace hw := hw.up 10
        replace hw := hw.up 10
        replace hw := hw.up 10
        exact hJ5 Aa195 cc196 ((l142.drop (t153 : Int).toNat).drop (w64 (4 * 1) : Int).toNat) (fun w' h => hc198 w' ((fun w' h => hc173 w' (hc143 w' h)) w' h)) Aa184 cc185 t181 0 _ hw H
     ·replace H := ite_f H (of_decide_eq_false hc)
      have hb237 := hc
      rw [hb237] at hs
      refine wp_exit ?_
      refine th_exit ?_
      refine th_exit ?_
      refine in_block ?_
      replace hw := hw.up 9
      replace hw := hw.up 9
      replace hw := hw.up 9
      replace hw := hw.up 9
      replace hw := hw.up 9
      replace hw := hw.up 9
      replace hw := hw.up 9
      replace hw := hw.up 9
      replace hw := hw.up 9
      replace hw := hw.up 9
      rw [← hr136 _ (Option.some.inj H).symm] at HX136
      exact hJ6 Aa140 cc141 l142 hc143 Aa138 cc139 l137 _ _ hs.kx hw HX136
   refine go_sp [] [] hs ?_; clear hs; intro a hs
   refine go_seq_k fun K83 hK83 => ?_
   refine go_sk fun K84 hK84 => ?_
   refine go_pvs 2 [] [(8, .slice Aa34 l36.length cc35), (9, .int .i64 (w64 (ix (eI .u32).d l42 (1 : Int))))] hs ?_; clear hs; intro a hs
   obtain ⟨⟨t86, t87⟩, hx88, H⟩ := bind_some H
   refine go_call hs (by rfl) (le_Take.calls Aa34 cc35 l36 (w64 (ix (eI .u32).d l42 (1 : Int))) (t86, t87) _ (hc37 _ (hr0.old hw)) hx88) ?_
   rintro e wd91 ⟨Aa89, cc90, rfl, hw92⟩
   refine ⟨_, rfl, ?_⟩
   replace hw := hw.call hw92
   clear hs; intro a hs; replace hs := hs.rms [8, 9]
   refine go_pvs 8 [10] [(4, .slice Aa89 t86.length cc90), (6, .int .i64 t87)] hs ?_; clear hs; intro a hs
   refine go_end (hK84 _ _ ?_)
   refine go_sp [] [(14, .bool (t87 != 0))] hs ?_; clear hs; intro a hs
   refine go_cond hs (t87 != 0) (fun hc => ?_) fun hc => ?_
   ·replace H := ite_f H (bne_iff_ne.1 hc)
    have hb95 := hc
    rw [hb95] at hs
    refine go_sp [0, 1, 14] [(4, .slice none 0 0), (5, .slice none 0 0)] hs ?_; clear hs; intro a hs
    refine wp_ret ?_
    refine th_ret ?_
    refine ret3 (t1 := 4) (v1 := .slice none 0 0) (t2 := 5) (v2 := .slice none 0 0) (t3 := 6) (v3 := .int .i64 t87) hs (by kernel_rfl) (by kernel_rfl) (by kernel_rfl) (by kernel_rfl) ?_
    refine ⟨_, rfl, ?_⟩
    replace hw := St.own_nil hw 37 (eI .u32)
    replace hw := hw.up 6
    replace hw := hw.up 6
    replace hw := hw.up 6
    replace hw := hw.up 6
    replace hw := hw.up 6
    replace hw := hw.only 6
    exact hJ4 none 0 ([] : List Int) (fun _ _ => Rd.nil _ _) none 0 ([] : List Int) t87 _ hw H
   ·replace H := ite_t H (bne_eq_false_iff_eq.1 hc)
    have hb97 := hc
    rw [hb97] at hs
    refine wp_skip ?_
    refine hK83 _ _ ?_
    refine go_seq_k fun K98 hK98 => ?_
    refine q2_region (by kernel_rfl) (by kernel_rfl) ?_
    refine q_pvs 4 [0, 1, 4, 6, 14] [(16, .slice Aa89 t86.length cc90), (17, .slice Aa34 l36.length cc35), (19, .int .i64 (w64 (4 * (w64 (ix (eI .u32).d l42 (1 : Int))))))] hs ?_; clear hs; intro a hs
    obtain ⟨hp99, H⟩ := ite_only H
    obtain ⟨Aa100, cc101, hx102, hc103⟩ := w_lo (P := Tryd.prog) (ty := 32) (E := (eI .u8)) (T := 5) (t := 32) (x := (Operand.tmp 17)) (y := (Operand.tmp 19)) (k := .i64) hs (by kernel_rfl) (by kernel_rfl) (hc37 _ (hr0.old hw)) (by kernel_rfl) (by kernel_rfl) hp99.1 hp99.2
    refine q_run hs (by rfl) (fun wx hbx => (hx102 wx)) [17, 19] ?_; clear hs; intro a hs
    refine q_pvs 8 [16, 20] [(4, .slice Aa89 t86.length cc90), (5, .slice Aa100 (l36.drop (w64 (4 * (w64 (ix (eI .u32).d l42 (1 : Int)))) : Int).toNat).length cc101), (6, .int .i64 0)] hs ?_; clear hs; intro a hs
    refine q_end ?_
    intro wq hbq
    replace hw := hw.behind hbq
    refine hK98 _ _ ?_
    refine wp_ret ?_
    refine ret3 (t1 := 4) (v1 := .slice Aa89 t86.length cc90) (t2 := 5) (v2 := .slice Aa100 (l36.drop (w64 (4 * (w64 (ix (eI .u32).d l42 (1 : Int)))) : Int).toNat).length cc101) (t3 := 6) (v3 := .int .i64 0) hs (by kernel_rfl) (by kernel_rfl) (by kernel_rfl) (by kernel_rfl) ?_
    refine ⟨_, rfl, ?_⟩
    replace hw := hw.up 5
    replace hw := hw.up 5
    replace hw := hw.up 5
    replace hw := hw.up 5
    replace hw := hw.up 5
    exact hJ4 Aa100 cc101 (l36.drop (w64 (4 * (w64 (ix (eI .u32).d l42 (1 : Int)))) : Int).toNat) (fun w' h => hc103 w' (hc37 w' h)) Aa89 cc90 t86 0 _ hw H
  refine wp_block ?_
  refine go_sp [] [(19, .bool (v43 != 0))] hs ?_; clear hs; intro a hs
  refine go_cond hs (v43 != 0) (fun hc => ?_) fun hc => ?_
  ·replace H := ite_f H (bne_iff_ne.1 hc)
   have hb46 := hc
   rw [hb46] at hs
   refine go_sk fun K47 hK47 => ?_
   refine go_pvs 2 [0, 4, 5, 19] [(22, .agg #[.slice none 0 0, .slice none 0 0, .slice none 0 0]), (23, .int .i64 v43)] hs ?_; clear hs; intro a hs
   replace hw := hw.up 3
   obtain ⟨wd48, hx49, hw⟩ := x_bput (P := Tryd.prog) (ty := 0) (t := 26) (y := (Operand.tmp 2)) (z := (Operand.tmp 22)) (o := 0) (p := (⟨g2, 0, none⟩ : Addr)) (v := .agg #[.slice none 0 0, .slice none 0 0, .slice none 0 0]) (vs := [.slice none 0 0, .slice none 0 0, .slice none 0 0]) (cs' := [.slice none 0 0, .slice none 0 0, .slice none 0 0]) hs hw (by kernel_rfl) rfl (by kernel_rfl) rfl (by kernel_rfl) (by kernel_rfl) (by simp [Value.oneCell']) rfl
   refine go_unit hs (by rfl) hx49 [22] ?_; clear hs; intro a hs
   replace hw := St.own_nil hw 37 (eI .u32)
   replace hw := St.own_nil hw 3 (eI .i64)
   replace hw := St.own_nil hw 39 eSapi_Sym
   replace hw : St [] w0 wd48 [own 39 eSapi_Sym none 0 ([] : List Sapi_Sym), own 3 (eI .i64) none 0 ([] : List Int), own 37 (eI .u32) none 0 ([] : List Int), box g2 26 [.slice none ([] : List Int).length 0, .slice none ([] : List Int).length 0, .slice none ([] : List Sapi_Sym).length 0], own 39 eSapi_Sym none 0 ([] : List Sapi_Sym), own 3 (eI .i64) none 0 ([] : List Int), own 37 (eI .u32) none 0 ([] : List Int), own 37 (eI .u32) Aa40 cc41 l42] := hw
   refine go_pvs 4 [23] [(3, .int .i64 v43)] hs ?_; clear hs; intro a hs
   refine go_end (hK47 _ _ ?_)
   refine wp_ret ?_
   refine ib_ret ?_
   refine th_ret ?_
   obtain rfl := Option.some.inj H
   replace hw := hw.up 1
   replace hw := hw.up 2
   replace hs : Slots a 121 [(2, .pointer (some (⟨g2, 0, none⟩ : Addr))), (3, .int .i64 v43)] := hs.kx
   refine ret2g (L := [(2, .pointer (some (⟨g2, 0, none⟩ : Addr))), (3, .int .i64 v43)]) (r1 := .cell 2 26) (v1 := .agg #[.slice none ([] : List Int).length 0, .slice none ([] : List Int).length 0, .slice none ([] : List Sapi_Sym).length 0]) (r2 := .tmp 3) (v2 := .int .i64 v43) hs (by kernel_rfl) ⟨_, (show lk 2 [(2, .pointer (some (⟨g2, 0, none⟩ : Addr))), (3, .int .i64 v43)] = some (.pointer (some (⟨g2, 0, none⟩ : Addr))) by kernel_rfl), lvb_row (hw.up 3) (by kernel_rfl) (by kernel_rfl) (by kernel_rfl)⟩ (show lk 3 [(2, .pointer (some (⟨g2, 0, none⟩ : Addr))), (3, .int .i64 v43)] = some (.int .i64 v43) by kernel_rfl) ?_
   exact ⟨none, 0, none, 0, none, 0, rfl, hw.only 3⟩
  ·replace H := ite_t H (bne_eq_false_iff_eq.1 hc)
   have hb53 := hc
   rw [hb53] at hs
   refine go_sk fun K54 hK54 => ?_
   refine go_pvs 1 [5, 19] [(25, .slice Aa40 l42.length cc41)] hs ?_; clear hs; intro a hs
   obtain ⟨hp55, H⟩ := ite_only H
   obtain ⟨ad56, rfl⟩ := (Rd.of_own (hw.up 4)).some hp55.1 hp55.2
   refine go_run hs (by rfl) (x_idx (T := 37) (sz := 1) (a := ad56) (n := l42.length) (cap := cc41) (k := .i64) (i := (0 : Int)) hp55) [25] ?_; clear hs; intro a hs
   refine go_run hs (by rfl) (x_ld (off := 0) (p := ad56.add (((0 : Int) : Int).toNat * 1)) (v := .int .u32 (ix (eI .u32).d l42 (0 : Int))) (Rd.of_own (hw.up 4)) hp55 rfl) [26] ?_; clear hs; intro a hs
   refine go_pvs 5 [27] [(24, .bool ((ix (eI .u32).d l42 (0 : Int)) != 894847314))] hs ?_; clear hs; intro a hs
   refine go_end (hK54 _ _ ?_)
   refine go_cond hs ((ix (eI .u32).d l42 (0 : Int)) != 894847314) (fun hc => ?_) fun hc => ?_
   ·replace H := ite_f H (bne_iff_ne.1 hc)
    have hb57 := hc
    rw [hb57] at hs
    refine go_sk fun K58 hK58 => ?_
    refine go_pvs 1 [0, 4, 24] [(29, .agg #[.slice none 0 0, .slice none 0 0, .slice none 0 0])] hs ?_; clear hs; intro a hs
    replace hw := hw.up 3
    obtain ⟨wd59, hx60, hw⟩ := x_bput (P := Tryd.prog) (ty := 0) (t := 26) (y := (Operand.tmp 2)) (z := (Operand.tmp 29)) (o := 0) (p := (⟨g2, 0, none⟩ : Addr)) (v := .agg #[.slice none 0 0, .slice none 0 0, .slice none 0 0]) (vs := [.slice none 0 0, .slice none 0 0, .slice none 0 0]) (cs' := [.slice none 0 0, .slice none 0 0, .slice none 0 0]) hs hw (by kernel_rfl) rfl (by kernel_rfl) rfl (by kernel_rfl) (by kernel_rfl) (by simp [Value.oneCell']) rfl
    refine go_unit hs (by rfl) hx60 [29] ?_; clear hs; intro a hs
    replace hw := St.own_nil hw 37 (eI .u32)
    replace hw := St.own_nil hw 3 (eI .i64)
    replace hw := St.own_nil hw 39 eSapi_Sym
    replace hw : St [] w0 wd59 [own 39 eSapi_Sym none 0 ([] : List Sapi_Sym), own 3 (eI .i64) none 0 ([] : List Int), own 37 (eI .u32) none 0 ([] : List Int), box g2 26 [.slice none ([] : List Int).length 0, .slice none ([] : List Int).length 0, .slice none ([] : List Sapi_Sym).length 0], own 39 eSapi_Sym none 0 ([] : List Sapi_Sym), own 3 (eI .i64) none 0 ([] : List Int), own 37 (eI .u32) none 0 ([] : List Int), own 37 (eI .u32) (some ad56) cc41 l42] := hw
    refine go_pvs 3 [] [(3, .int .i64 5)] hs ?_; clear hs; intro a hs
    refine go_end (hK58 _ _ ?_)
    refine wp_ret ?_
    refine ib_ret ?_
    refine th_ret ?_
    obtain rfl := Option.some.inj H
    replace hw := hw.up 1
    replace hw := hw.up 2
    replace hs : Slots a 121 [(2, .pointer (some (⟨g2, 0, none⟩ : Addr))), (3, .int .i64 5)] := hs.kx
    refine ret2g (L := [(2, .pointer (some (⟨g2, 0, none⟩ : Addr))), (3, .int .i64 5)]) (r1 := .cell 2 26) (v1 := .agg #[.slice none ([] : List Int).length 0, .slice none ([] : List Int).length 0, .slice none ([] : List Sapi_Sym).length 0]) (r2 := .tmp 3) (v2 := .int .i64 5) hs (by kernel_rfl) ⟨_, (show lk 2 [(2, .pointer (some (⟨g2, 0, none⟩ : Addr))), (3, .int .i64 5)] = some (.pointer (some (⟨g2, 0, none⟩ : Addr))) by kernel_rfl), lvb_row (hw.up 3) (by kernel_rfl) (by kernel_rfl) (by kernel_rfl)⟩ (show lk 3 [(2, .pointer (some (⟨g2, 0, none⟩ : Addr))), (3, .int .i64 5)] = some (.int .i64 5) by kernel_rfl) ?_
    exact ⟨none, 0, none, 0, none, 0, rfl, hw.only 3⟩
   ·replace H := ite_t H (bne_eq_false_iff_eq.1 hc)
    have hb64 := hc
    rw [hb64] at hs
    refine go_seq_k fun K65 hK65 => ?_
    have hJ2 : ∀ (v69 : Bool) (a : Act) (w : World), Slots a 121 [(0, .slice Aa34 l36.length cc35), (2, .pointer (some (⟨g2, 0, none⟩ : Addr))), (4, .slice (some ad56) l42.length cc41), (30, .bool v69)] → St [] w0 w [own 39 eSapi_Sym none 0 ([] : List Sapi_Sym), own 3 (eI .i64) none 0 ([] : List Int), own 37 (eI .u32) none 0 ([] : List Int), box g2 26 [.slice none ([] : List Int).length 0, .slice none ([] : List Int).length 0, .slice none ([] : List Sapi_Sym).length 0], own 37 (eI .u32) (some ad56) cc41 l42] → file_Take.j2 l42 l36 v69 = some r → K65 a w := by
     intro v69 a w hs hw H
     unfold file_Take.j2 at H
     refine hK65 _ _ ?_
     refine go_cond hs v69 (fun hc => ?_) fun hc => ?_
     ·replace H := ite_t H hc
      have hb70 := hc
      rw [hb70] at hs
      refine go_sk fun K71 hK71 => ?_
      refine go_pvs 1 [0, 4, 30] [(41, .agg #[.slice none 0 0, .slice none 0 0, .slice none 0 0])] hs ?_; clear hs; intro a hs
      replace hw := hw.up 3
      obtain ⟨wd72, hx73, hw⟩ := x_bput (P := Tryd.prog) (ty := 0) (t := 26) (y := (Operand.tmp 2)) (z := (Operand.tmp 41)) (o := 0) (p := (⟨g2, 0, none⟩ : Addr)) (v := .agg #[.slice none 0 0, .slice none 0 0, .slice none 0 0]) (vs := [.slice none 0 0, .slice none 0 0, .slice none 0 0]) (cs' := [.slice none 0 0, .slice none 0 0, .slice none 0 0]) hs hw (by kernel_rfl) rfl (by kernel_rfl) rfl (by kernel_rfl) (by kernel_rfl) (by simp [Value.oneCell']) rfl
      refine go_unit hs (by rfl) hx73 [41] ?_; clear hs; intro a hs
      replace hw := St.own_nil hw 37 (eI .u32)
      replace hw := St.own_nil hw 3 (eI .i64)
      replace hw := St.own_nil hw 39 eSapi_Sym
      replace hw : St [] w0 wd72 [own 39 eSapi_Sym none 0 ([] : List Sapi_Sym), own 3 (eI .i64) none 0 ([] : List Int), own 37 (eI .u32) none 0 ([] : List Int), box g2 26 [.slice none ([] : List Int).length 0, .slice none ([] : List Int).length 0, .slice none ([] : List Sapi_Sym).length 0], own 39 eSapi_Sym none 0 ([] : List Sapi_Sym), own 3 (eI .i64) none 0 ([] : List Int), own 37 (eI .u32) none 0 ([] : List Int), own 37 (eI .u32) (some ad56) cc41 l42] := hw
      refine go_pvs 3 [] [(3, .int .i64 2)] hs ?_; clear hs; intro a hs
      refine go_end (hK71 _ _ ?_)
      refine wp_ret ?_
      refine ib_ret ?_
      refine th_ret ?_
      obtain rfl := Option.some.inj H
      replace hw := hw.up 1
      replace hw := hw.up 2
      replace hs : Slots a 121 [(2, .pointer (some (⟨g2, 0, none⟩ : Addr))), (3, .int .i64 2)] := hs.kx
      refine ret2g (L := [(2, .pointer (some (⟨g2, 0, none⟩ : Addr))), (3, .int .i64 2)]) (r1 := .cell 2 26) (v1 := .agg #[.slice none ([] : List Int).length 0, .slice none ([] : List Int).length 0, .slice none ([] : List Sapi_Sym).length 0]) (r2 := .tmp 3) (v2 := .int .i64 2) hs (by kernel_rfl) ⟨_, (show lk 2 [(2, .pointer (some (⟨g2, 0, none⟩ : Addr))), (3, .int .i64 2)] = some (.pointer (some (⟨g2, 0, none⟩ : Addr))) by kernel_rfl), lvb_row (hw.up 3) (by kernel_rfl) (by kernel_rfl) (by kernel_rfl)⟩ (show lk 3 [(2, .pointer (some (⟨g2, 0, none⟩ : Addr))), (3, .int .i64 2)] = some (.int .i64 2) by kernel_rfl) ?_
      exact ⟨none, 0, none, 0, none, 0, rfl, hw.only 3⟩
     ·replace H := ite_f H (ff hc)
      have hb77 := hc
      rw [hb77] at hs
      refine wp_skip ?_
      refine ib_norm ?_
      replace hw := hw.up 4
      replace hw := hw.up 4
      replace hw := hw.up 4
      replace hw := hw.up 4
      replace hw := hw.up 4
      exact hJ3 _ _ hs.kx hw H
    refine go_region ?_
    refine go_pvs 1 [24] [(31, .slice (some ad56) l42.length cc41)] hs ?_; clear hs; intro a hs
    obtain ⟨hp66, H⟩ := ite_only H
    refine go_run hs (by rfl) (x_idx (T := 37) (sz := 1) (a := ad56) (n := l42.length) (cap := cc41) (k := .i64) (i := (1 : Int)) hp66) [31] ?_; clear hs; intro a hs
    refine go_run hs (by rfl) (x_ld (off := 0) (p := ad56.add (((1 : Int) : Int).toNat * 1)) (v := .int .u32 (ix (eI .u32).d l42 (1 : Int))) (Rd.of_own (hw.up 4)) hp66 rfl) [32] ?_; clear hs; intro a hs
    refine go_pvs 5 [33] [(35, .bool (decide ((ix (eI .u32).d l42 (1 : Int)) > 1024)))] hs ?_; clear hs; intro a hs
    cases hb67 : (decide ((ix (eI .u32).d l42 (1 : Int)) > 1024))
    ·replace H := ite_f H (of_decide_eq_false hb67)
     rw [hb67] at hs
     refine go_pvs 6 [] [(36, .slice (some ad56) l42.length cc41)] hs ?_; clear hs; intro a hs
     obtain ⟨hp68, H⟩ := ite_only H
     refine go_run hs (by rfl) (x_idx (T := 37) (sz := 1) (a := ad56) (n := l42.length) (cap := cc41) (k := .i64) (i := (3 : Int)) hp68) [36] ?_; clear hs; intro a hs
     refine go_run hs (by rfl) (x_ld (off := 0) (p := ad56.add (((3 : Int) : Int).toNat * 1)) (v := .int .u32 (ix (eI .u32).d l42 (3 : Int))) (Rd.of_own (hw.up 4)) hp68 rfl) [37] ?_; clear hs; intro a hs
     refine go_pvs 11 [35, 38] [(30, .bool (decide ((ix (eI .u32).d l42 (3 : Int)) > 64)))] hs ?_; clear hs; intro a hs
     refine go_end ?_
     replace hw := hw.up 4
     replace hw := hw.up 4
     replace hw := hw.up 4
     replace hw := hw.up 4
     replace hw := hw.up 4
     exact hJ2 (decide ((ix (eI .u32).d l42 (3 : Int)) > 64)) _ _ hs.kx hw H
    ·replace H := ite_t H (of_decide_eq_true hb67)
     rw [hb67] at hs
     refine go_pvs 11 [35] [(30, .bool true)] hs ?_; clear hs; intro a hs
     refine go_end ?_
     replace hw := hw.up 4
     replace hw := hw.up 4
     replace hw := hw.up 4
     replace hw := hw.up 4
     replace hw := hw.up 4
     exact hJ2 true _ _ hs.kx hw H
 refine go_sp [] [] hs ?_; clear hs; intro a hs
 refine go_seq_k fun K12 hK12 => ?_
 refine go_sk fun K13 hK13 => ?_
 refine go_pvs 2 [] [(8, .slice A0 l0.length c0), (9, .int .i64 4)] hs ?_; clear hs; intro a hs
 obtain ⟨⟨t15, t16⟩, hx17, H⟩ := bind_some H
 refine go_call hs (by rfl) (le_Take.calls A0 c0 l0 4 (t15, t16) _ (hr0.old hw) hx17) ?_
 rintro e wd20 ⟨Aa18, cc19, rfl, hw21⟩
 refine ⟨_, rfl, ?_⟩
 replace hw := hw.call hw21
 clear hs; intro a hs; replace hs := hs.rms [8, 9]
 refine go_pvs 8 [10] [(4, .slice Aa18 t15.length cc19), (6, .int .i64 t16)] hs ?_; clear hs; intro a hs
 refine go_end (hK13 _ _ ?_)
 refine go_sp [] [(14, .bool (t16 != 0))] hs ?_; clear hs; intro a hs
 refine go_cond hs (t16 != 0) (fun hc => ?_) fun hc => ?_
 ·replace H := ite_f H (bne_iff_ne.1 hc)
  have hb24 := hc
  rw [hb24] at hs
  refine go_sp [0, 1, 14] [(4, .slice none 0 0), (5, .slice none 0 0)] hs ?_; clear hs; intro a hs
  refine wp_ret ?_
  refine th_ret ?_
  refine ret3 (t1 := 4) (v1 := .slice none 0 0) (t2 := 5) (v2 := .slice none 0 0) (t3 := 6) (v3 := .int .i64 t16) hs (by kernel_rfl) (by kernel_rfl) (by kernel_rfl) (by kernel_rfl) ?_
  refine ⟨_, rfl, ?_⟩
  replace hw := St.own_nil hw 37 (eI .u32)
  replace hw := hw.up 5
  replace hw := hw.up 5
  replace hw := hw.up 5
  replace hw := hw.up 5
  replace hw := hw.only 5
  exact hJ1 none 0 ([] : List Int) (fun _ _ => Rd.nil _ _) none 0 ([] : List Int) t16 _ hw H
 ·replace H := ite_t H (bne_eq_false_iff_eq.1 hc)
  have hb26 := hc
  rw [hb26] at hs
  refine wp_skip ?_
  refine hK12 _ _ ?_
  refine go_seq_k fun K27 hK27 => ?_
  refine q2_region (by kernel_rfl) (by kernel_rfl) ?_
  refine q_pvs 4 [0, 1, 4, 6, 14] [(16, .slice Aa18 t15.length cc19), (17, .slice A0 l0.length c0), (19, .int .i64 (w64 (4 * 4)))] hs ?_; clear hs; intro a hs
  obtain ⟨hp28, H⟩ := ite_only H
  obtain ⟨Aa29, cc30, hx31, hc32⟩ := w_lo (P := Tryd.prog) (ty := 32) (E := (eI .u8)) (T := 5) (t := 32) (x := (Operand.tmp 17)) (y := (Operand.tmp 19)) (k := .i64) hs (by kernel_rfl) (by kernel_rfl) (hr0.old hw) (by kernel_rfl) (by kernel_rfl) hp28.1 hp28.2
  refine q_run hs (by rfl) (fun wx hbx => (hx31 wx)) [17, 19] ?_; clear hs; intro a hs
  refine q_pvs 8 [16, 20] [(4, .slice Aa18 t15.length cc19), (5, .slice Aa29 (l0.drop (w64 (4 * 4) : Int).toNat).length cc30), (6, .int .i64 0)] hs ?_; clear hs; intro a hs
  refine q_end ?_
  intro wq hbq
  replace hw := hw.behind hbq
  refine hK27 _ _ ?_
  refine wp_ret ?_
  refine ret3 (t1 := 4) (v1 := .slice Aa18 t15.length cc19) (t2 := 5) (v2 := .slice Aa29 (l0.drop (w64 (4 * 4) : Int).toNat).length cc30) (t3 := 6) (v3 := .int .i64 0) hs (by kernel_rfl) (by kernel_rfl) (by kernel_rfl) (by kernel_rfl) ?_
  refine ⟨_, rfl, ?_⟩
  replace hw := hw.up 4
  replace hw := hw.up 4
  replace hw := hw.up 4
  replace hw := hw.up 4
  exact hJ1 Aa29 cc30 (l0.drop (w64 (4 * 4) : Int).toNat) hc32 Aa18 cc19 t15 0 _ hw H

/-! rivet/rivetref10.Put: function 23 -/
noncomputable def rivetref10_Put.j1 (v64 : Int) (l199 : List Int) : Option ((List Int) × Int ⊕ (List Int)) := some (.inl (l199, w64 (v64 + 1)))
noncomputable def rivetref10_Put.j2 (l203 : List Int) : Option ((List Int) × Int) := some (l203, 0)
noncomputable def rivetref10_Put.b60 (a0 : Sapi_Obj) (l61 : List Int) (v64 : Int) : Option ((List Int) × Int ⊕ (List Int)) := (if v64 < (a0.Syms.length : Int) then (if 0 ≤ v64 ∧ v64 < (a0.Syms.length : Int) then ((rivetref07_PutName ((ix eSapi_Sym.d a0.Syms v64).Name)).bind fun ⟨t73, t74⟩ => ((if l61.length + t73.length ≤ 140737488355328 then (if 0 ≤ v64 ∧ v64 < (a0.Syms.length : Int) then ((rivetref07_Put ([wu32 ((ix eSapi_Sym.d a0.Syms v64).At)] : List Int)).bind fun t94 => ((if (l61 ++ t73).length + t94.length ≤ 140737488355328 then rivetref10_Put.j1 v64 ((l61 ++ t73) ++ t94) else none))) else none) else none))) else none) else some (.inr l61))
noncomputable def rivetref10_Put (a0 : Sapi_Obj) : Option ((List Int) × Int) := ((rivetref09_May a0).bind fun t8 => ((if t8 = 0 then ((rivetref08_Pack a0.Words a0.Sites).bind fun ⟨t20, t21, t22⟩ => (((rivetref07_Put ([894847314, wu32 (a0.Words.length : Int), wu32 t21, wu32 (a0.Syms.length : Int)] : List Int)).bind fun t36 => (((rivetref07_Put t20).bind fun t45 => ((if t36.length + t45.length ≤ 140737488355328 then ((loopO (fun (σ : (List Int) × Int) => rivetref10_Put.b60 a0 σ.1 σ.2) (t36 ++ t45, 0)).bind fun e => rivetref10_Put.j2 e) else none))))))) else some (([] : List Int), t8))))
set_option maxRecDepth 100000 in
set_option maxHeartbeats 4000000 in
theorem rivetref10_Put.calls (a0 : Sapi_Obj) (A0_1 : Option Addr) (c0_1 : Nat) (A0_2 : Option Addr) (c0_2 : Nat) (A0_3 : Option Addr) (c0_3 : Nat) (r : (List Int) × Int) (w0 : World) (hr0_1 : Rd w0 (eI .u32) A0_1 c0_1 a0.Words) (hr0_2 : Rd w0 (eI .i64) A0_2 c0_2 a0.Sites) (hr0_3 : Rd w0 eSapi_Sym A0_3 c0_3 a0.Syms) (H : rivetref10_Put a0 = some r) :
    Calls Tryd.prog 23 #[.agg #[.slice A0_1 a0.Words.length c0_1, .slice A0_2 a0.Sites.length c0_2, .slice A0_3 a0.Syms.length c0_3]] w0 fun e w' => ∃ A_0 c_0, e = .returned (.tuple #[.slice A_0 r.1.length c_0, .int .i64 r.2]) ∧ St [] w0 w' [own 5 (eI .u8) A_0 c_0 r.1] := by
 have hw : St [] w0 w0 [] := St.nil w0
 unfold rivetref10_Put at H
 refine go_fn Tryd.func23 rfl Tryd.ntmps23 ?_; intro a hs
 refine go_sk fun K1 hK1 => ?_
 obtain ⟨g2, wd3, hx4, hw⟩ := x_boxc (P := Tryd.prog) (elem := 26) (v := (Operand.tmp 0)) (ty := 0) (cs := [.slice A0_1 a0.Words.length c0_1, .slice A0_2 a0.Sites.length c0_2, .slice A0_3 a0.Syms.length c0_3]) hs hw (by kernel_rfl)
 refine go_run hs (by rfl) hx4 [0] ?_; clear hs; intro a hs
 refine go_pvs 3 [] [] hs ?_; clear hs; intro a hs
 refine go_end (hK1 _ _ ?_)
 refine go_sk fun K6 hK6 => ?_
 refine go_run hs (by rfl) (x_blds (g := g2) (o := 0) (p := (⟨g2, 0, none⟩ : Addr)) (vs := [.slice A0_1 a0.Words.length c0_1, .slice A0_2 a0.Sites.length c0_2, .slice A0_3 a0.Syms.length c0_3]) (hw.up 0)) [] ?_; clear hs; intro a hs
 obtain ⟨t8, hx9, H⟩ := bind_some H
 refine go_call hs (by rfl) (rivetref09_May.calls a0 A0_1 c0_1 A0_2 c0_2 A0_3 c0_3 t8 _ (hr0_1.old hw) (hr0_2.old hw) (hr0_3.old hw) hx9) ?_
 rintro e wd10 ⟨rfl, hw11⟩
 refine ⟨_, rfl, ?_⟩
 replace hw := hw.call hw11
 clear hs; intro a hs; replace hs := hs.rms [12]
 refine go_pvs 3 [13] [(4, .int .i64 t8)] hs ?_; clear hs; intro a hs
 refine go_end (hK6 _ _ ?_)
 refine go_seq_k fun K12 hK12 => ?_
 refine go_sp [] [(15, .bool (t8 != 0))] hs ?_; clear hs; intro a hs
 refine go_cond hs (t8 != 0) (fun hc => ?_) fun hc => ?_
 ·replace H := ite_f H (bne_iff_ne.1 hc)
  have hb14 := hc
  rw [hb14] at hs
  refine go_sp [1, 4, 15] [(2, .slice none 0 0), (3, .int .i64 t8)] hs ?_; clear hs; intro a hs
  refine wp_ret ?_
  refine th_ret ?_
  obtain rfl := Option.some.inj H
  replace hw := St.own_nil hw 5 (eI .u8)
  refine ret2 (t1 := 2) (v1 := .slice none 0 0) (t2 := 3) (v2 := .int .i64 t8) hs (by kernel_rfl) (by kernel_rfl) (by kernel_rfl) ?_
  exact ⟨none, 0, rfl, hw.only 1⟩
 ·replace H := ite_t H (bne_eq_false_iff_eq.1 hc)
  have hb17 := hc
  rw [hb17] at hs
  refine wp_skip ?_
  refine hK12 _ _ ?_
  refine go_sk fun K18 hK18 => ?_
  refine go_pvs 1 [4, 15] [(18, .pointer (some (((⟨g2, 0, none⟩ : Addr) : Addr).add 0)))] hs ?_; clear hs; intro a hs
  refine go_run hs (by rfl) (x_bld (g := g2) (o := 0) (p := ((⟨g2, 0, none⟩ : Addr) : Addr).add 0) (v := .slice A0_1 a0.Words.length c0_1) (hw.up 0)) [18] ?_; clear hs; intro a hs
  refine go_pvs 3 [] [(20, .pointer (some (((⟨g2, 0, none⟩ : Addr) : Addr).add 1)))] hs ?_; clear hs; intro a hs
  refine go_run hs (by rfl) (x_bld (g := g2) (o := 1) (p := ((⟨g2, 0, none⟩ : Addr) : Addr).add 1) (v := .slice A0_2 a0.Sites.length c0_2) (hw.up 0)) [20] ?_; clear hs; intro a hs
  obtain ⟨⟨t20, t21, t22⟩, hx23, H⟩ := bind_some H
  refine go_call hs (by rfl) (rivetref08_Pack.calls A0_1 c0_1 a0.Words A0_2 c0_2 a0.Sites (t20, t21, t22) _ (hr0_1.old hw) (hr0_2.old hw) hx23) ?_
  rintro e wd26 ⟨Aa24, cc25, rfl, hw27⟩
  refine ⟨_, rfl, ?_⟩
  replace hw := hw.call hw27
  clear hs; intro a hs; replace hs := hs.rms [19, 21]
  refine go_pvs 12 [22] [(5, .slice Aa24 t20.length cc25), (6, .int .i64 t21)] hs ?_; clear hs; intro a hs
  refine go_end (hK18 _ _ ?_)
  refine go_sk fun K29 hK29 => ?_
  refine go_pvs 1 [] [(26, .pointer (some (((⟨g2, 0, none⟩ : Addr) : Addr).add 0)))] hs ?_; clear hs; intro a hs
  refine go_run hs (by rfl) (x_bld (g := g2) (o := 0) (p := ((⟨g2, 0, none⟩ : Addr) : Addr).add 0) (v := .slice A0_1 a0.Words.length c0_1) (hw.up 1)) [26] ?_; clear hs; intro a hs
  refine go_pvs 7 [6, 27] [(29, .int .u32 (wu32 (a0.Words.length : Int))), (31, .int .u32 (wu32 t21)), (32, .pointer (some (((⟨g2, 0, none⟩ : Addr) : Addr).add 2)))] hs ?_; clear hs; intro a hs
  refine go_run hs (by rfl) (x_bld (g := g2) (o := 2) (p := ((⟨g2, 0, none⟩ : Addr) : Addr).add 2) (v := .slice A0_3 a0.Syms.length c0_3) (hw.up 1)) [32] ?_; clear hs; intro a hs
  refine go_pvs 10 [33] [(35, .int .u32 (wu32 (a0.Syms.length : Int)))] hs ?_; clear hs; intro a hs
  obtain ⟨Aa30, cc31, wd32, hx33, hw⟩ := n_lit (P := Tryd.prog) (t := 22) (ty := 22) (T := 37) (len := 4) (parts := #[(0, (Operand.const (Value.int IntKind.u32 894847314))), (1, (Operand.tmp 29)), (2, (Operand.tmp 31)), (3, (Operand.tmp 35))]) (z := .int .u32 0) (bytes := 4) (cells := #[.int .u32 894847314, .int .u32 (wu32 (a0.Words.length : Int)), .int .u32 (wu32 t21), .int .u32 (wu32 (a0.Syms.length : Int))]) hs hw (eI .u32) ([894847314, wu32 (a0.Words.length : Int), wu32 t21, wu32 (a0.Syms.length : Int)] : List Int) (by kernel_rfl) (by kernel_rfl) (by kernel_rfl) (by kernel_rfl) (by kernel_rfl) (by kernel_rfl) (by kernel_rfl)
  refine go_run hs (by rfl) hx33 [29, 31, 35] ?_; clear hs; intro a hs
  obtain ⟨t36, hx37, H⟩ := bind_some H
  refine go_call hs (by rfl) (rivetref07_Put.calls Aa30 cc31 ([894847314, wu32 (a0.Words.length : Int), wu32 t21, wu32 (a0.Syms.length : Int)] : List Int) t36 _ (Rd.of_own (hw.up 0)) hx37) ?_
  rintro e wd40 ⟨Aa38, cc39, rfl, hw41⟩
  refine ⟨_, rfl, ?_⟩
  replace hw := hw.call hw41
  clear hs; intro a hs; replace hs := hs.rms [36]
  refine go_pvs 13 [37] [(8, .slice Aa38 t36.length cc39)] hs ?_; clear hs; intro a hs
  refine go_end (hK29 _ _ ?_)
  refine go_sk fun K43 hK43 => ?_
  refine go_pvs 2 [5, 8] [(38, .slice Aa38 t36.length cc39), (39, .slice Aa24 t20.length cc25)] hs ?_; clear hs; intro a hs
  obtain ⟨t45, hx46, H⟩ := bind_some H
  refine go_call hs (by rfl) (rivetref07_Put.calls Aa24 cc25 t20 t45 _ (Rd.of_own (hw.up 2)) hx46) ?_
  rintro e wd49 ⟨Aa47, cc48, rfl, hw50⟩
  refine ⟨_, rfl, ?_⟩
  replace hw := hw.call hw50
  clear hs; intro a hs; replace hs := hs.rms [39]
  obtain ⟨hp52, H⟩ := ite_only H
  have hsrc57 : Src Tryd.prog (eI .u8).sz 32 (.slice Aa47 t45.length cc48) t45.length (t45.flatMap (eI .u8).enc) _ := (Src.of_rd (E := (eI .u8)) (e' := 5) (by kernel_rfl) (Rd.of_own (hw.up 0)))
  replace hw := hw.up 1
  obtain ⟨Aa53, cc54, wd55, hx56, hw⟩ := x_append (P := Tryd.prog) (t := 32) (tx := 32) (ty := 32) (x := (Operand.tmp 38)) (y := (Operand.tmp 40)) (z := .int .u8 0) (bytes := 1) (l2 := t45) hs hw (by kernel_rfl) (by kernel_rfl) (by kernel_rfl) (by kernel_rfl) (by kernel_rfl) hsrc57 (by omega) (by omega)
  refine go_run hs (by rfl) hx56 [38, 40] ?_; clear hs; intro a hs
  refine go_pvs 5 [41] [(8, .slice Aa53 (t36 ++ t45).length cc54)] hs ?_; clear hs; intro a hs
  refine go_end (hK43 _ _ ?_)
  refine go_seq_k fun K58 hK58 => ?_
  refine go_sp [] [(9, .int .i64 0)] hs ?_; clear hs; intro a hs
  replace hs : Slots a 73 [(1, .pointer (some (⟨g2, 0, none⟩ : Addr))), (8, .slice Aa53 (t36 ++ t45).length cc54), (9, .int .i64 0)] := hs.kx
  refine wp_block ?_
  obtain ⟨e60, hl60, HX60⟩ := bind_some H
  have hJ2 : ∀ (Aa204 : Option Addr) (cc205 : Nat) (l203 : List Int) (a : Act) (w : World), Slots a 73 [(8, .slice Aa204 l203.length cc205)] → St [] w0 w [own 5 (eI .u8) Aa204 cc205 l203, own 5 (eI .u8) Aa47 cc48 t45, own 37 (eI .u32) Aa30 cc31 ([894847314, wu32 (a0.Words.length : Int), wu32 t21, wu32 (a0.Syms.length : Int)] : List Int), own 37 (eI .u32) Aa24 cc25 t20, box g2 26 [.slice A0_1 a0.Words.length c0_1, .slice A0_2 a0.Sites.length c0_2, .slice A0_3 a0.Syms.length c0_3]] → rivetref10_Put.j2 l203 = some r → K58 a w := by
   intro Aa204 cc205 l203 a w hs hw H
   unfold rivetref10_Put.j2 at H
   refine hK58 _ _ ?_
   refine go_sp [8] [(2, .slice Aa204 l203.length cc205), (3, .int .i64 0)] hs ?_; clear hs; intro a hs
   refine wp_ret ?_
   obtain rfl := Option.some.inj H
   refine ret2 (t1 := 2) (v1 := .slice Aa204 l203.length cc205) (t2 := 3) (v2 := .int .i64 0) hs (by kernel_rfl) (by kernel_rfl) (by kernel_rfl) ?_
   exact ⟨Aa204, cc205, rfl, hw.only 1⟩
  clear H
  refine go_loop (σ := (List Int) × Int) (fun σ a w => ∃ Aa62, ∃ cc63, Slots a 73 [(1, .pointer (some (⟨g2, 0, none⟩ : Addr))), (8, .slice Aa62 σ.1.length cc63), (9, .int .i64 σ.2)] ∧ St [] w0 w [own 5 (eI .u8) Aa62 cc63 σ.1, own 5 (eI .u8) Aa47 cc48 t45, own 37 (eI .u32) Aa30 cc31 ([894847314, wu32 (a0.Words.length : Int), wu32 t21, wu32 (a0.Syms.length : Int)] : List Int), own 37 (eI .u32) Aa24 cc25 t20, box g2 26 [.slice A0_1 a0.Words.length c0_1, .slice A0_2 a0.Sites.length c0_2, .slice A0_3 a0.Syms.length c0_3]]) hl60 (by exact ⟨Aa53, cc54, hs.kx, hw⟩) ?_
  rintro ⟨l61, v64⟩ a w ⟨Aa62, cc63, hs, hw⟩ o H hr60
  replace hs : Slots a 73 [(1, .pointer (some (⟨g2, 0, none⟩ : Addr))), (8, .slice Aa62 l61.length cc63), (9, .int .i64 v64)] := hs
  replace hw : St [] w0 w [own 5 (eI .u8) Aa62 cc63 l61, own 5 (eI .u8) Aa47 cc48 t45, own 37 (eI .u32) Aa30 cc31 ([894847314, wu32 (a0.Words.length : Int), wu32 t21, wu32 (a0.Syms.length : Int)] : List Int), own 37 (eI .u32) Aa24 cc25 t20, box g2 26 [.slice A0_1 a0.Words.length c0_1, .slice A0_2 a0.Sites.length c0_2, .slice A0_3 a0.Syms.length c0_3]] := hw
  replace H : rivetref10_Put.b60 a0 l61 v64 = some o := H
  unfold rivetref10_Put.b60 at H
  refine go_seq_k fun K65 hK65 => ?_
  refine go_sk fun K66 hK66 => ?_
  refine go_pvs 2 [] [(42, .int .i64 v64), (43, .pointer (some (((⟨g2, 0, none⟩ : Addr) : Addr).add 2)))] hs ?_; clear hs; intro a hs
  refine go_run hs (by rfl) (x_bld (g := g2) (o := 2) (p := ((⟨g2, 0, none⟩ : Addr) : Addr).add 2) (v := .slice A0_3 a0.Syms.length c0_3) (hw.up 4)) [43] ?_; clear hs; intro a hs
  refine go_pvs 5 [42, 44] [(46, .bool (decide (v64 < (a0.Syms.length : Int))))] hs ?_; clear hs; intro a hs
  refine go_end (hK66 _ _ ?_)
  refine go_cond hs (decide (v64 < (a0.Syms.length : Int))) (fun hc => ?_) fun hc => ?_
  ·replace H := ite_t H (of_decide_eq_true hc)
   have hb67 := hc
   rw [hb67] at hs
   refine wp_skip ?_
   refine hK65 _ _ ?_
   refine go_seq_k fun K68 hK68 => ?_
   have hJ1 : ∀ (Aa200 : Option Addr) (cc201 : Nat) (l199 : List Int) (a : Act) (w : World), Slots a 73 [(1, .pointer (some (⟨g2, 0, none⟩ : Addr))), (8, .slice Aa200 l199.length cc201), (9, .int .i64 v64)] → St [] w0 w [own 5 (eI .u8) Aa200 cc201 l199, own 5 (eI .u8) Aa47 cc48 t45, own 37 (eI .u32) Aa30 cc31 ([894847314, wu32 (a0.Words.length : Int), wu32 t21, wu32 (a0.Syms.length : Int)] : List Int), own 37 (eI .u32) Aa24 cc25 t20, box g2 26 [.slice A0_1 a0.Words.length c0_1, .slice A0_2 a0.Sites.length c0_2, .slice A0_3 a0.Syms.length c0_3]] → rivetref10_Put.j1 v64 l199 = some o → K68 a w := by
    intro Aa200 cc201 l199 a w hs hw H
    unfold rivetref10_Put.j1 at H
    refine hK68 _ _ ?_
    refine go_plain [] [(9, .int .i64 (w64 (v64 + 1)))] hs ?_; clear hs; intro a hs
    replace hw := hw.up 4
    replace hw := hw.up 4
    replace hw := hw.up 4
    replace hw := hw.up 4
    replace hw := hw.up 4
    exact round_end (l199, w64 (v64 + 1)) (Option.some.inj H).symm ⟨Aa200, cc201, hs.kx, hw⟩
   refine wp_block ?_
   refine go_sk fun K69 hK69 => ?_
   refine go_pvs 1 [46] [(50, .pointer (some (((⟨g2, 0, none⟩ : Addr) : Addr).add 2)))] hs ?_; clear hs; intro a hs
   refine go_run hs (by rfl) (x_bld (g := g2) (o := 2) (p := ((⟨g2, 0, none⟩ : Addr) : Addr).add 2) (v := .slice A0_3 a0.Syms.length c0_3) (hw.up 4)) [50] ?_; clear hs; intro a hs
   refine go_pvs 3 [] [(52, .int .i64 v64)] hs ?_; clear hs; intro a hs
   obtain ⟨hp70, H⟩ := ite_only H
   obtain ⟨ad71, rfl⟩ := (hr0_3.old hw).some hp70.1 hp70.2
   refine go_run hs (by rfl) (x_idx (T := 39) (sz := 2) (a := ad71) (n := a0.Syms.length) (cap := c0_3) (k := .i64) (i := v64) hp70) [51, 52] ?_; clear hs; intro a hs
   refine go_pvs 5 [53] [(54, .pointer (some ((ad71.add (v64.toNat * 2) : Addr).add 0)))] hs ?_; clear hs; intro a hs
   refine go_run hs (by rfl) (x_ld (off := 0) (p := (ad71.add (v64.toNat * 2) : Addr).add 0) (v := .string ((ix eSapi_Sym.d a0.Syms v64).Name)) (hr0_3.old hw) hp70 (by simp only [add_add', Nat.add_assoc]; rfl)) [54] ?_; clear hs; intro a hs
   obtain ⟨⟨t73, t74⟩, hx75, H⟩ := bind_some H
   refine go_call hs (by rfl) (rivetref07_PutName.calls ((ix eSapi_Sym.d a0.Syms v64).Name) (t73, t74) _ hx75) ?_
   rintro e wd78 ⟨Aa76, cc77, rfl, hw79⟩
   refine ⟨_, rfl, ?_⟩
   replace hw := hw.call hw79
   clear hs; intro a hs; replace hs := hs.rms [55]
   refine go_pvs 12 [56] [(10, .slice Aa76 t73.length cc77)] hs ?_; clear hs; intro a hs
   refine go_end (hK69 _ _ ?_)
   obtain ⟨hp81, H⟩ := ite_only H
   obtain ⟨hp87, H⟩ := ite_only H
   obtain ⟨t94, hx95, H⟩ := bind_some H
   obtain ⟨hp101, H⟩ := ite_only H
   refine o_region [2, 4, 8, 10, 11, 12] (.two [0, 1, 3, 5] 2 (.one [] 4 (.one [6, 7] 8 (.one [9] 10 (.one [] 11 (.one [] 12 (.fin [13])))))) 4 (.two [6, 7] 2 (.one [] 8 (.one [9] 10 (.one [] 11 (.one [] 12 (.fin [13]))))) 8 (.two [9] 2 (.one [] 10 (.one [] 11 (.one [] 12 (.fin [13])))) 10 (.one [] 2 (.one [] 11 (.one [] 12 (.fin [13]))))))) (by kernel_rfl) (by kernel_rfl) (fun c a d v w h => by cases d <;> exact h) ?_
   intro wq hbq; replace hw := hw.behind hbq; clear hbq
   refine o_two ?_
   refine c_pvs [0, 1, 3, 5] [] [10] [(59, .slice Aa62 l61.length cc63), (60, .slice Aa76 t73.length cc77), (62, .pointer (some (((⟨g2, 0, none⟩ : Addr) : Addr).add 2))), (64, .int .i64 v64)] hs ?_; clear hs; intro a hs
   refine c_end ⟨?_, ?_⟩
   ·skip
    have hsrc111 : Src Tryd.prog (eI .u8).sz 32 (.slice Aa76 t73.length cc77) t73.length (t73.flatMap (eI .u8).enc) _ := (Src.of_rd (E := (eI .u8)) (e' := 5) (by kernel_rfl) (Rd.of_own (hw.up 0)))
    replace hw := hw.up 1
    obtain ⟨Aa107, cc108, wd109, hx110, hw⟩ := x_append (P := Tryd.prog) (t := 32) (tx := 32) (ty := 32) (x := (Operand.tmp 59)) (y := (Operand.tmp 60)) (z := .int .u8 0) (bytes := 1) (l2 := t73) hs hw (by kernel_rfl) (by kernel_rfl) (by kernel_rfl) (by kernel_rfl) (by kernel_rfl) hsrc111 (by omega) (by omega)
    refine p_run hs (by rfl) hx110 [8, 59, 60] ?_; clear hs; intro a hs
    refine c_done ?_
    refine o_one ?_
    refine c_end ?_
    refine p_run hs (by rfl) (x_bld (g := g2) (o := 2) (p := ((⟨g2, 0, none⟩ : Addr) : Addr).add 2) (v := .slice (some ad71) a0.Syms.length c0_3) (hw.up 5)) [62] ?_; clear hs; intro a hs
    refine c_done ?_
    refine o_one ?_
    refine c0_run hs (by rfl) (fun wx _ => (x_idx (T := 39) (sz := 2) (a := ad71) (n := a0.Syms.length) (cap := c0_3) (k := .i64) (i := v64) hp87)) [63, 64] ?_; clear hs; intro a hs
    refine c_pvs [7] [] [65] [(66, .pointer (some ((ad71.add (v64.toNat * 2) : Addr).add 1)))] hs ?_; clear hs; intro a hs
    refine c_end ?_
    refine p_run hs (by rfl) (x_ld (off := 1) (p := (ad71.add (v64.toNat * 2) : Addr).add 1) (v := .int .i64 ((ix eSapi_Sym.d a0.Syms v64).At)) (hr0_3.old hw) hp87 (by simp only [add_add', Nat.add_assoc]; rfl)) [66] ?_; clear hs; intro a hs
    refine c_done ?_
    refine o_one ?_
    refine c_pvs [9] [] [67] [(68, .int .u32 (wu32 ((ix eSapi_Sym.d a0.Syms v64).At)))] hs ?_; clear hs; intro a hs
    refine c_end ?_
    obtain ⟨Aa112, cc113, wd114, hx115, hw⟩ := n_lit (P := Tryd.prog) (t := 22) (ty := 22) (T := 37) (len := 1) (parts := #[(0, (Operand.tmp 68))]) (z := .int .u32 0) (bytes := 4) (cells := #[.int .u32 (wu32 ((ix eSapi_Sym.d a0.Syms v64).At))]) hs hw (eI .u32) ([wu32 ((ix eSapi_Sym.d a0.Syms v64).At)] : List Int) (by kernel_rfl) (by kernel_rfl) (by kernel_rfl) (by kernel_rfl) (by kernel_rfl) (by kernel_rfl) (by kernel_rfl)
    refine p_run hs (by rfl) hx115 [68] ?_; clear hs; intro a hs
    refine c_done ?_
    refine o_one ?_
    refine c_end ?_
    refine p_call hs (by rfl) (rivetref07_Put.calls Aa112 cc113 ([wu32 ((ix eSapi_Sym.d a0.Syms v64).At)] : List Int) t94 _ (Rd.of_own (hw.up 0)) hx95) ?_
    rintro e wd122 ⟨Aa120, cc121, rfl, hw123⟩
    refine ⟨_, rfl, ?_⟩
    replace hw := hw.call hw123
    clear hs; intro a hs; replace hs := hs.rms [69]
    refine c_done ?_
    refine o_one ?_
    refine c_end ?_
    have hsrc129 : Src Tryd.prog (eI .u8).sz 32 (.slice Aa120 t94.length cc121) t94.length (t94.flatMap (eI .u8).enc) _ := (Src.of_rd (E := (eI .u8)) (e' := 5) (by kernel_rfl) (Rd.of_own (hw.up 0)))
    replace hw := hw.up 2
    obtain ⟨Aa125, cc126, wd127, hx128, hw⟩ := x_append (P := Tryd.prog) (t := 32) (tx := 32) (ty := 32) (x := (Operand.tmp 61)) (y := (Operand.tmp 70)) (z := .int .u8 0) (bytes := 1) (l2 := t94) hs hw (by kernel_rfl) (by kernel_rfl) (by kernel_rfl) (by kernel_rfl) (by kernel_rfl) hsrc129 (by omega) (by omega)
    refine p_run hs (by rfl) hx128 [61, 70] ?_; clear hs; intro a hs
    refine c_done ?_
    refine o_fin ?_
    refine c_pvs [13] [] [71] [(8, .slice Aa125 ((l61 ++ t73) ++ t94).length cc126)] hs ?_; clear hs; intro a hs
    refine c_end ?_
    refine ib_norm ?_
    replace hw := hw.up 7
    replace hw := hw.up 7
    replace hw := hw.up 7
    replace hw := hw.up 7
    replace hw := hw.up 4
    replace hw := hw.only 5
    exact hJ1 Aa125 cc126 ((l61 ++ t73) ++ t94) _ _ hs.kx hw H
   ·skip
    refine p_run hs (by rfl) (x_bld (g := g2) (o := 2) (p := ((⟨g2, 0, none⟩ : Addr) : Addr).add 2) (v := .slice (some ad71) a0.Syms.length c0_3) (hw.up 5)) [62] ?_; clear hs; intro a hs
    refine c_done ?_
    refine o_two ?_
    refine c0_run hs (by rfl) (fun wx _ => (x_idx (T := 39) (sz := 2) (a := ad71) (n := a0.Syms.length) (cap := c0_3) (k := .i64) (i := v64) hp87)) [63, 64] ?_; clear hs; intro a hs
    refine c_pvs [7] [] [65] [(66, .pointer (some ((ad71.add (v64.toNat * 2) : Addr).add 1)))] hs ?_; clear hs; intro a hs
    refine c_end ⟨?_, ?_⟩
    ·skip
     have hsrc134 : Src Tryd.prog (eI .u8).sz 32 (.slice Aa76 t73.length cc77) t73.length (t73.flatMap (eI .u8).enc) _ := (Src.of_rd (E := (eI .u8)) (e' := 5) (by kernel_rfl) (Rd.of_own (hw.up 0)))
     replace hw := hw.up 1
     obtain ⟨Aa130, cc131, wd132, hx133, hw⟩ := x_append (P := Tryd.prog) (t := 32) (tx := 32) (ty := 32) (x := (Operand.tmp 59)) (y := (Operand.tmp 60)) (z := .int .u8 0) (bytes := 1) (l2 := t73) hs hw (by kernel_rfl) (by kernel_rfl) (by kernel_rfl) (by kernel_rfl) (by kernel_rfl) hsrc134 (by omega) (by omega)
     refine p_run hs (by rfl) hx133 [8, 59, 60] ?_; clear hs; intro a hs
     refine c_done ?_
     refine o_one ?_
     refine c_end ?_
     refine p_run hs (by rfl) (x_ld (off := 1) (p := (ad71.add (v64.toNat * 2) : Addr).add 1) (v := .int .i64 ((ix eSapi_Sym.d a0.Syms v64).At)) (hr0_3.old hw) hp87 (by simp only [add_add', Nat.add_assoc]; rfl)) [66] ?_; clear hs; intro a hs
     refine c_done ?_
     refine o_one ?_
     refine c_pvs [9] [] [67] [(68, .int .u32 (wu32 ((ix eSapi_Sym.d a0.Syms v64).At)))] hs ?_; clear hs; intro a hs
     refine c_end ?_
     obtain ⟨Aa135, cc136, wd137, hx138, hw⟩ := n_lit (P := Tryd.prog) (t := 22) (ty := 22) (T := 37) (len := 1) (parts := #[(0, (Operand.tmp 68))]) (z := .int .u32 0) (bytes := 4) (cells := #[.int .u32 (wu32 ((ix eSapi_Sym.d a0.Syms v64).At))]) hs hw (eI .u32) ([wu32 ((ix eSapi_Sym.d a0.Syms v64).At)] : List Int) (by kernel_rfl) (by kernel_rfl) (by kernel_rfl) (by kernel_rfl) (by kernel_rfl) (by kernel_rfl) (by kernel_rfl)
     refine p_run hs (by rfl) hx138 [68] ?_; clear hs; intro a hs
     refine c_done ?_
     refine o_one ?_
     refine c_end ?_
     refine p_call hs (by rfl) (rivetref07_Put.calls Aa135 cc136 ([wu32 ((ix eSapi_Sym.d a0.Syms v64).At)] : List Int) t94 _ (Rd.of_own (hw.up 0)) hx95) ?_
     rintro e wd145 ⟨Aa143, cc144, rfl, hw146⟩
     refine ⟨_, rfl, ?_⟩
     replace hw := hw.call hw146
     clear hs; intro a hs; replace hs := hs.rms [69]
     refine c_done ?_
     refine o_one ?_
     refine c_end ?_
     have hsrc152 : Src Tryd.prog (eI .u8).sz 32 (.slice Aa143 t94.length cc144) t94.length (t94.flatMap (eI .u8).enc) _ := (Src.of_rd (E := (eI .u8)) (e' := 5) (by kernel_rfl) (Rd.of_own (hw.up 0)))
     replace hw := hw.up 2
     obtain ⟨Aa148, cc149, wd150, hx151, hw⟩ := x_append (P := Tryd.prog) (t := 32) (tx := 32) (ty := 32) (x := (Operand.tmp 61)) (y := (Operand.tmp 70)) (z := .int .u8 0) (bytes := 1) (l2 := t94) hs hw (by kernel_rfl) (by kernel_rfl) (by kernel_rfl) (by kernel_rfl) (by kernel_rfl) hsrc152 (by omega) (by omega)
     refine p_run hs (by rfl) hx151 [61, 70] ?_; clear hs; intro a hs
     refine c_done ?_
     refine o_fin ?_
     refine c_pvs [13] [] [71] [(8, .slice Aa148 ((l61 ++ t73) ++ t94).length cc149)] hs ?_; clear hs; intro a hs
     refine c_end ?_
     refine ib_norm ?_
     replace hw := hw.up 7
     replace hw := hw.up 7
     replace hw := hw.up 7
     replace hw := hw.up 7
     replace hw := hw.up 4
     replace hw := hw.only 5
     exact hJ1 Aa148 cc149 ((l61 ++ t73) ++ t94) _ _ hs.kx hw H
    ·skip
     refine p_run hs (by rfl) (x_ld (off := 1) (p := (ad71.add (v64.toNat * 2) : Addr).add 1) (v := .int .i64 ((ix eSapi_Sym.d a0.Syms v64).At)) (hr0_3.old hw) hp87 (by simp only [add_add', Nat.add_assoc]; rfl)) [66] ?_; clear hs; intro a hs
     refine c_done ?_
     refine o_two ?_
     refine c_pvs [9] [] [67] [(68, .int .u32 (wu32 ((ix eSapi_Sym.d a0.Syms v64).At)))] hs ?_; clear hs; intro a hs
     refine c_end ⟨?_, ?_⟩
     ·skip
      have hsrc157 : Src Tryd.prog (eI .u8).sz 32 (.slice Aa76 t73.length cc77) t73.length (t73.flatMap (eI .u8).enc) _ := (Src.of_rd (E := (eI .u8)) (e' := 5) (by kernel_rfl) (Rd.of_own (hw.up 0)))
      replace hw := hw.up 1
      obtain ⟨Aa153, cc154, wd155, hx156, hw⟩ := x_append (P := Tryd.prog) (t := 32) (tx := 32) (ty := 32) (x := (Operand.tmp 59)) (y := (Operand.tmp 60)) (z := .int .u8 0) (bytes := 1) (l2 := t73) hs hw (by kernel_rfl) (by kernel_rfl) (by kernel_rfl) (by kernel_rfl) (by kernel_rfl) hsrc157 (by omega) (by omega)
      refine p_run hs (by rfl) hx156 [8, 59, 60] ?_; clear hs; intro a hs
      refine c_done ?_
      refine o_one ?_
      refine c_end ?_
      obtain ⟨Aa158, cc159, wd160, hx161, hw⟩ := n_lit (P := Tryd.prog) (t := 22) (ty := 22) (T := 37) (len := 1) (parts := #[(0, (Operand.tmp 68))]) (z := .int .u32 0) (bytes := 4) (cells := #[.int .u32 (wu32 ((ix eSapi_Sym.d a0.Syms v64).At))]) hs hw (eI .u32) ([wu32 ((ix eSapi_Sym.d a0.Syms v64).At)] : List Int) (by kernel_rfl) (by kernel_rfl) (by kernel_rfl) (by kernel_rfl) (by kernel_rfl) (by kernel_rfl) (by kernel_rfl)
      refine p_run hs (by rfl) hx161 [68] ?_; clear hs; intro a hs
      refine c_done ?_
      refine o_one ?_
      refine c_end ?_
      refine p_call hs (by rfl) (rivetref07_Put.calls Aa158 cc159 ([wu32 ((ix eSapi_Sym.d a0.Syms v64).At)] : List Int) t94 _ (Rd.of_own (hw.up 0)) hx95) ?_
      rintro e wd168 ⟨Aa166, cc167, rfl, hw169⟩
      refine ⟨_, rfl, ?_⟩
      replace hw := hw.call hw169
      clear hs; intro a hs; replace hs := hs.rms [69]
      refine c_done ?_
      refine o_one ?_
      refine c_end ?_
      have hsrc175 : Src Tryd.prog (eI .u8).sz 32 (.slice Aa166 t94.length cc167) t94.length (t94.flatMap (eI .u8).enc) _ := (Src.of_rd (E := (eI .u8)) (e' := 5) (by kernel_rfl) (Rd.of_own (hw.up 0)))
      replace hw := hw.up 2
      obtain ⟨Aa171, cc172, wd173, hx174, hw⟩ := x_append (P := Tryd.prog) (t := 32) (tx := 32) (ty := 32) (x := (Operand.tmp 61)) (y := (Operand.tmp 70)) (z := .int .u8 0) (bytes := 1) (l2 := t94) hs hw (by kernel_rfl) (by kernel_rfl) (by kernel_rfl) (by kernel_rfl) (by kernel_rfl) hsrc175 (by omega) (by omega)
      refine p_run hs (by rfl) hx174 [61, 70] ?_; clear hs; intro a hs
      refine c_done ?_
      refine o_fin ?_
      refine c_pvs [13] [] [71] [(8, .slice Aa171 ((l61 ++ t73) ++ t94).length cc172)] hs ?_; clear hs; intro a hs
      refine c_end ?_
      refine ib_norm ?_
      replace hw := hw.up 7
      replace hw := hw.up 7
      replace hw := hw.up 7
      replace hw := hw.up 7
      replace hw := hw.up 4
      replace hw := hw.only 5
      exact hJ1 Aa171 cc172 ((l61 ++ t73) ++ t94) _ _ hs.kx hw H
     ·skip
      obtain ⟨Aa176, cc177, wd178, hx179, hw⟩ := n_lit (P := Tryd.prog) (t := 22) (ty := 22) (T := 37) (len := 1) (parts := #[(0, (Operand.tmp 68))]) (z := .int .u32 0) (bytes := 4) (cells := #[.int .u32 (wu32 ((ix eSapi_Sym.d a0.Syms v64).At))]) hs hw (eI .u32) ([wu32 ((ix eSapi_Sym.d a0.Syms v64).At)] : List Int) (by kernel_rfl) (by kernel_rfl) (by kernel_rfl) (by kernel_rfl) (by kernel_rfl) (by kernel_rfl) (by kernel_rfl)
      refine p_run hs (by rfl) hx179 [68] ?_; clear hs; intro a hs
      refine c_done ?_
      refine o_one ?_
      refine c_end ?_
      have hsrc185 : Src Tryd.prog (eI .u8).sz 32 (.slice Aa76 t73.length cc77) t73.length (t73.flatMap (eI .u8).enc) _ := (Src.of_rd (E := (eI .u8)) (e' := 5) (by kernel_rfl) (Rd.of_own (hw.up 1)))
      replace hw := hw.up 2
      obtain ⟨Aa181, cc182, wd183, hx184, hw⟩ := x_append (P := Tryd.prog) (t := 32) (tx := 32) (ty := 32) (x := (Operand.tmp 59)) (y := (Operand.tmp 60)) (z := .int .u8 0) (bytes := 1) (l2 := t73) hs hw (by kernel_rfl) (by kernel_rfl) (by kernel_rfl) (by kernel_rfl) (by kernel_rfl) hsrc185 (by omega) (by omega)
      refine p_run hs (by rfl) hx184 [8, 59, 60] ?_; clear hs; intro a hs
      refine c_done ?_
      refine o_one ?_
      refine c_end ?_
      refine p_call hs (by rfl) (rivetref07_Put.calls Aa176 cc177 ([wu32 ((ix eSapi_Sym.d a0.Syms v64).At)] : List Int) t94 _ (Rd.of_own (hw.up 1)) hx95) ?_
      rintro e wd191 ⟨Aa189, cc190, rfl, hw192⟩
      refine ⟨_, rfl, ?_⟩
      replace hw := hw.call hw192
      clear hs; intro a hs; replace hs := hs.rms [69]
      refine c_done ?_
      refine o_one ?_
      refine c_end ?_
      have hsrc198 : Src Tryd.prog (eI .u8).sz 32 (.slice Aa189 t94.length cc190) t94.length (t94.flatMap (eI .u8).enc) _ := (Src.of_rd (E := (eI .u8)) (e' := 5) (by kernel_rfl) (Rd.of_own (hw.up 0)))
      replace hw := hw.up 1
      obtain ⟨Aa194, cc195, wd196, hx197, hw⟩ := x_append (P := Tryd.prog) (t := 32) (tx := 32) (ty := 32) (x := (Operand.tmp 61)) (y := (Operand.tmp 70)) (z := .int .u8 0) (bytes := 1) (l2 := t94) hs hw (by kernel_rfl) (by kernel_rfl) (by kernel_rfl) (by kernel_rfl) (by kernel_rfl) hsrc198 (by omega) (by omega)
      refine p_run hs (by rfl) hx197 [61, 70] ?_; clear hs; intro a hs
      refine c_done ?_
      refine o_fin ?_
      refine c_pvs [13] [] [71] [(8, .slice Aa194 ((l61 ++ t73) ++ t94).length cc195)] hs ?_; clear hs; intro a hs
      refine c_end ?_
      refine ib_norm ?_
      replace hw := hw.up 7
      replace hw := hw.up 7
      replace hw := hw.up 7
      replace hw := hw.up 7
      replace hw := hw.up 4
      replace hw := hw.only 5
      exact hJ1 Aa194 cc195 ((l61 ++ t73) ++ t94) _ _ hs.kx hw H
  ·replace H := ite_f H (of_decide_eq_false hc)
   have hb202 := hc
   rw [hb202] at hs
   refine wp_exit ?_
   refine th_exit ?_
   refine th_exit ?_
   refine in_block ?_
   replace hw := hw.up 4
   replace hw := hw.up 4
   replace hw := hw.up 4
   replace hw := hw.up 4
   replace hw := hw.up 4
   rw [← hr60 _ (Option.some.inj H).symm] at HX60
   exact hJ2 Aa62 cc63 l61 _ _ hs.kx hw HX60

/-! rivet/rivetref10.Take: function 26 -/
noncomputable def rivetref10_Take.b108 (t11 : List Int) (l109 : List Sapi_Sym) (l114 : List Int) (v117 : Int) : Option ((List Sapi_Sym) × (List Int) × Int ⊕ (Ex (Sapi_Obj × Int) ((List Int) × (List Sapi_Sym)))) := (if 0 ≤ (3 : Int) ∧ (3 : Int) < (t11.length : Int) then (if v117 < (w64 (ix (eI .u32).d t11 (3 : Int))) then ((rivetref07_TakeName l114).bind fun ⟨t125, t126, t127⟩ => ((if t127 = 0 then (if 0 ≤ t126 ∧ t126 ≤ (l114.length : Int) then ((rivetref07_Take (l114.drop (t126 : Int).toNat) 1).bind fun ⟨t150, t151⟩ => ((if t151 = 0 then (if 0 ≤ (0 : Int) ∧ (0 : Int) < (t150.length : Int) then (if l109.length + ([(⟨t125, w64 (ix (eI .u32).d t150 (0 : Int))⟩ : Sapi_Sym)] : List Sapi_Sym).length ≤ 5864062014805 then (if 0 ≤ (w64 (t126 + 4)) ∧ (w64 (t126 + 4)) ≤ (l114.length : Int) then some (.inl (l109 ++ ([(⟨t125, w64 (ix (eI .u32).d t150 (0 : Int))⟩ : Sapi_Sym)] : List Sapi_Sym), l114.drop (w64 (t126 + 4) : Int).toNat, w64 (v117 + 1))) else none) else none) else none) else some (.inr (.ret ((⟨([] : List Int), ([] : List Int), ([] : List Sapi_Sym)⟩ : Sapi_Obj), t151)))))) else none) else some (.inr (.ret ((⟨([] : List Int), ([] : List Int), ([] : List Sapi_Sym)⟩ : Sapi_Obj), t127)))))) else some (.inr (.done (l114, l109)))) else none)
noncomputable def rivetref10_Take.j3 (t11 : List Int) (t67 : List Int) (l194 : List Int) (l197 : List Sapi_Sym) : Option (Sapi_Obj × Int) := (if (l194.length : Int) > 0 then some ((⟨([] : List Int), ([] : List Int), ([] : List Sapi_Sym)⟩ : Sapi_Obj), 4) else (if 0 ≤ (2 : Int) ∧ (2 : Int) < (t11.length : Int) then ((rivetref08_Unpack t67 (w64 (ix (eI .u32).d t11 (2 : Int)))).bind fun ⟨t213, t214, t215⟩ => ((if t215 = 0 then ((rivetref09_May (⟨t213, t214, l197⟩ : Sapi_Obj)).bind fun t244 => ((if t244 = 0 then some ((⟨t213, t214, l197⟩ : Sapi_Obj), 0) else some ((⟨([] : List Int), ([] : List Int), ([] : List Sapi_Sym)⟩ : Sapi_Obj), 6)))) else some ((⟨([] : List Int), ([] : List Int), ([] : List Sapi_Sym)⟩ : Sapi_Obj), t215)))) else none))
noncomputable def rivetref10_Take.j2 (t11 : List Int) (l0 : List Int) : Option (Sapi_Obj × Int) := (if 0 ≤ (1 : Int) ∧ (1 : Int) < (t11.length : Int) then (nm (w64 (ix (eI .u32).d t11 (1 : Int))) fun y57 => (if 0 ≤ (16 : Int) ∧ (16 : Int) ≤ (l0.length : Int) then ((rivetref07_Take (l0.drop (16 : Int).toNat) y57).bind fun ⟨t67, t68⟩ => ((if t68 = 0 then (if 0 ≤ (w64 (16 + (w64 (4 * y57)))) ∧ (w64 (16 + (w64 (4 * y57)))) ≤ (l0.length : Int) then ((loopO (fun (σ : (List Sapi_Sym) × (List Int) × Int) => rivetref10_Take.b108 t11 σ.1 σ.2.1 σ.2.2) (([] : List Sapi_Sym), l0.drop (w64 (16 + (w64 (4 * y57))) : Int).toNat, 0)).bind fun e => match e with | .ret x => some x | .done e => rivetref10_Take.j3 t11 t67 e.1 e.2) else none) else some ((⟨([] : List Int), ([] : List Int), ([] : List Sapi_Sym)⟩ : Sapi_Obj), t68)))) else none)) else none)
noncomputable def rivetref10_Take.j1 (t11 : List Int) (l0 : List Int) (v46 : Bool) : Option (Sapi_Obj × Int) := (if v46 = true then some ((⟨([] : List Int), ([] : List Int), ([] : List Sapi_Sym)⟩ : Sapi_Obj), 2) else rivetref10_Take.j2 t11 l0)
noncomputable def rivetref10_Take (l0 : List Int) : Option (Sapi_Obj × Int) := ((rivetref07_Take l0 4).bind fun ⟨t11, t12⟩ => ((if t12 = 0 then (if 0 ≤ (0 : Int) ∧ (0 : Int) < (t11.length : Int) then (if (ix (eI .u32).d t11 (0 : Int)) = 894847314 then (if 0 ≤ (1 : Int) ∧ (1 : Int) < (t11.length : Int) then (if (ix (eI .u32).d t11 (1 : Int)) > 1024 then rivetref10_Take.j1 t11 l0 true else (if 0 ≤ (3 : Int) ∧ (3 : Int) < (t11.length : Int) then rivetref10_Take.j1 t11 l0 (decide ((ix (eI .u32).d t11 (3 : Int)) > 64)) else none)) else none) else some ((⟨([] : List Int), ([] : List Int), ([] : List Sapi_Sym)⟩ : Sapi_Obj), 5)) else none) else some ((⟨([] : List Int), ([] : List Int), ([] : List Sapi_Sym)⟩ : Sapi_Obj), t12))))
set_option maxRecDepth 100000 in
set_option maxHeartbeats 4000000 in
theorem rivetref10_Take.calls (A0 : Option Addr) (c0 : Nat) (l0 : List Int) (r : Sapi_Obj × Int) (w0 : World) (hr0 : Rd w0 (eI .u8) A0 c0 l0) (H : rivetref10_Take l0 = some r) :
    Calls Tryd.prog 26 #[.slice A0 l0.length c0] w0 fun e w' => ∃ A_0_1 c_0_1, ∃ A_0_2 c_0_2, ∃ A_0_3 c_0_3, e = .returned (.tuple #[.agg #[.slice A_0_1 r.1.Words.length c_0_1, .slice A_0_2 r.1.Sites.length c_0_2, .slice A_0_3 r.1.Syms.length c_0_3], .int .i64 r.2]) ∧ St [] w0 w' [own 37 (eI .u32) A_0_1 c_0_1 r.1.Words, own 3 (eI .i64) A_0_2 c_0_2 r.1.Sites, own 39 eSapi_Sym A_0_3 c_0_3 r.1.Syms] := by
 have hw : St [] w0 w0 [] := St.nil w0
 unfold rivetref10_Take at H
 refine go_fn Tryd.func26 rfl Tryd.ntmps26 ?_; intro a hs
 refine go_sk fun K1 hK1 => ?_
 obtain ⟨g2, wd3, hx4, hw⟩ := x_allocc (P := Tryd.prog) (elem := 26) (ty := 0) (z := .agg #[.slice none 0 0, .slice none 0 0, .slice none 0 0]) (cs := [.slice none 0 0, .slice none 0 0, .slice none 0 0]) hs hw (by kernel_rfl) (by kernel_rfl)
 refine go_run hs (by rfl) hx4 [] ?_; clear hs; intro a hs
 replace hw := St.own_nil hw 37 (eI .u32)
 replace hw := St.own_nil hw 3 (eI .i64)
 replace hw := St.own_nil hw 39 eSapi_Sym
 replace hw : St [] w0 wd3 [own 39 eSapi_Sym none 0 ([] : List Sapi_Sym), own 3 (eI .i64) none 0 ([] : List Int), own 37 (eI .u32) none 0 ([] : List Int), box g2 26 [.slice none ([] : List Int).length 0, .slice none ([] : List Int).length 0, .slice none ([] : List Sapi_Sym).length 0]] := hw
 refine go_pvs 2 [] [] hs ?_; clear hs; intro a hs
 refine go_end (hK1 _ _ ?_)
 refine go_sk fun K9 hK9 => ?_
 refine go_pvs 1 [] [(21, .slice A0 l0.length c0)] hs ?_; clear hs; intro a hs
 obtain ⟨⟨t11, t12⟩, hx13, H⟩ := bind_some H
 refine go_call hs (by rfl) (rivetref07_Take.calls A0 c0 l0 4 (t11, t12) _ (hr0.old hw) hx13) ?_
 rintro e wd16 ⟨Aa14, cc15, rfl, hw17⟩
 refine ⟨_, rfl, ?_⟩
 replace hw := hw.call hw17
 clear hs; intro a hs; replace hs := hs.rms [21]
 refine go_pvs 7 [22] [(4, .slice Aa14 t11.length cc15), (5, .int .i64 t12)] hs ?_; clear hs; intro a hs
 refine go_end (hK9 _ _ ?_)
 refine go_seq_k fun K19 hK19 => ?_
 refine go_sp [] [(26, .bool (t12 != 0))] hs ?_; clear hs; intro a hs
 refine go_cond hs (t12 != 0) (fun hc => ?_) fun hc => ?_
 ·replace H := ite_f H (bne_iff_ne.1 hc)
  have hb21 := hc
  rw [hb21] at hs
  refine go_sk fun K22 hK22 => ?_
  refine go_pvs 2 [0, 4, 5, 26] [(27, .agg #[.slice none 0 0, .slice none 0 0, .slice none 0 0]), (28, .int .i64 t12)] hs ?_; clear hs; intro a hs
  replace hw := hw.up 4
  obtain ⟨wd23, hx24, hw⟩ := x_bput (P := Tryd.prog) (ty := 0) (t := 26) (y := (Operand.tmp 2)) (z := (Operand.tmp 27)) (o := 0) (p := (⟨g2, 0, none⟩ : Addr)) (v := .agg #[.slice none 0 0, .slice none 0 0, .slice none 0 0]) (vs := [.slice none 0 0, .slice none 0 0, .slice none 0 0]) (cs' := [.slice none 0 0, .slice none 0 0, .slice none 0 0]) hs hw (by kernel_rfl) rfl (by kernel_rfl) rfl (by kernel_rfl) (by kernel_rfl) (by simp [Value.oneCell']) rfl
  refine go_unit hs (by rfl) hx24 [27] ?_; clear hs; intro a hs
  replace hw := St.own_nil hw 37 (eI .u32)
  replace hw := St.own_nil hw 3 (eI .i64)
  replace hw := St.own_nil hw 39 eSapi_Sym
  replace hw : St [] w0 wd23 [own 39 eSapi_Sym none 0 ([] : List Sapi_Sym), own 3 (eI .i64) none 0 ([] : List Int), own 37 (eI .u32) none 0 ([] : List Int), box g2 26 [.slice none ([] : List Int).length 0, .slice none ([] : List Int).length 0, .slice none ([] : List Sapi_Sym).length 0], own 37 (eI .u32) Aa14 cc15 t11, own 39 eSapi_Sym none 0 ([] : List Sapi_Sym), own 3 (eI .i64) none 0 ([] : List Int), own 37 (eI .u32) none 0 ([] : List Int)] := hw
  refine go_pvs 4 [28] [(3, .int .i64 t12)] hs ?_; clear hs; intro a hs
  refine go_end (hK22 _ _ ?_)
  refine wp_ret ?_
  refine th_ret ?_
  obtain rfl := Option.some.inj H
  replace hw := hw.up 1
  replace hw := hw.up 2
  replace hs : Slots a 137 [(2, .pointer (some (⟨g2, 0, none⟩ : Addr))), (3, .int .i64 t12)] := hs.kx
  refine ret2g (L := [(2, .pointer (some (⟨g2, 0, none⟩ : Addr))), (3, .int .i64 t12)]) (r1 := .cell 2 26) (v1 := .agg #[.slice none ([] : List Int).length 0, .slice none ([] : List Int).length 0, .slice none ([] : List Sapi_Sym).length 0]) (r2 := .tmp 3) (v2 := .int .i64 t12) hs (by kernel_rfl) ⟨_, (show lk 2 [(2, .pointer (some (⟨g2, 0, none⟩ : Addr))), (3, .int .i64 t12)] = some (.pointer (some (⟨g2, 0, none⟩ : Addr))) by kernel_rfl), lvb_row (hw.up 3) (by kernel_rfl) (by kernel_rfl) (by kernel_rfl)⟩ (show lk 3 [(2, .pointer (some (⟨g2, 0, none⟩ : Addr))), (3, .int .i64 t12)] = some (.int .i64 t12) by kernel_rfl) ?_
  exact ⟨none, 0, none, 0, none, 0, rfl, hw.only 3⟩
 ·replace H := ite_t H (bne_eq_false_iff_eq.1 hc)
  have hb28 := hc
  rw [hb28] at hs
  refine wp_skip ?_
  refine hK19 _ _ ?_
  refine go_seq_k fun K29 hK29 => ?_
  refine go_sk fun K30 hK30 => ?_
  refine go_pvs 1 [5, 26] [(29, .slice Aa14 t11.length cc15)] hs ?_; clear hs; intro a hs
  obtain ⟨hp31, H⟩ := ite_only H
  obtain ⟨ad32, rfl⟩ := (Rd.of_own (hw.up 0)).some hp31.1 hp31.2
  refine go_run hs (by rfl) (x_idx (T := 37) (sz := 1) (a := ad32) (n := t11.length) (cap := cc15) (k := .i64) (i := (0 : Int)) hp31) [29] ?_; clear hs; intro a hs
  refine go_run hs (by rfl) (x_ld (off := 0) (p := ad32.add (((0 : Int) : Int).toNat * 1)) (v := .int .u32 (ix (eI .u32).d t11 (0 : Int))) (Rd.of_own (hw.up 0)) hp31 rfl) [30] ?_; clear hs; intro a hs
  refine go_pvs 4 [31] [(32, .bool ((ix (eI .u32).d t11 (0 : Int)) != 894847314))] hs ?_; clear hs; intro a hs
  refine go_end (hK30 _ _ ?_)
  refine go_cond hs ((ix (eI .u32).d t11 (0 : Int)) != 894847314) (fun hc => ?_) fun hc => ?_
  ·replace H := ite_f H (bne_iff_ne.1 hc)
   have hb33 := hc
   rw [hb33] at hs
   refine go_sk fun K34 hK34 => ?_
   refine go_pvs 1 [0, 4, 32] [(33, .agg #[.slice none 0 0, .slice none 0 0, .slice none 0 0])] hs ?_; clear hs; intro a hs
   replace hw := hw.up 4
   obtain ⟨wd35, hx36, hw⟩ := x_bput (P := Tryd.prog) (ty := 0) (t := 26) (y := (Operand.tmp 2)) (z := (Operand.tmp 33)) (o := 0) (p := (⟨g2, 0, none⟩ : Addr)) (v := .agg #[.slice none 0 0, .slice none 0 0, .slice none 0 0]) (vs := [.slice none 0 0, .slice none 0 0, .slice none 0 0]) (cs' := [.slice none 0 0, .slice none 0 0, .slice none 0 0]) hs hw (by kernel_rfl) rfl (by kernel_rfl) rfl (by kernel_rfl) (by kernel_rfl) (by simp [Value.oneCell']) rfl
   refine go_unit hs (by rfl) hx36 [33] ?_; clear hs; intro a hs
   replace hw := St.own_nil hw 37 (eI .u32)
   replace hw := St.own_nil hw 3 (eI .i64)
   replace hw := St.own_nil hw 39 eSapi_Sym
   replace hw : St [] w0 wd35 [own 39 eSapi_Sym none 0 ([] : List Sapi_Sym), own 3 (eI .i64) none 0 ([] : List Int), own 37 (eI .u32) none 0 ([] : List Int), box g2 26 [.slice none ([] : List Int).length 0, .slice none ([] : List Int).length 0, .slice none ([] : List Sapi_Sym).length 0], own 37 (eI .u32) (some ad32) cc15 t11, own 39 eSapi_Sym none 0 ([] : List Sapi_Sym), own 3 (eI .i64) none 0 ([] : List Int), own 37 (eI .u32) none 0 ([] : List Int)] := hw
   refine go_pvs 3 [] [(3, .int .i64 5)] hs ?_; clear hs; intro a hs
   refine go_end (hK34 _ _ ?_)
   refine wp_ret ?_
   refine th_ret ?_
   obtain rfl := Option.some.inj H
   replace hw := hw.up 1
   replace hw := hw.up 2
   replace hs : Slots a 137 [(2, .pointer (some (⟨g2, 0, none⟩ : Addr))), (3, .int .i64 5)] := hs.kx
   refine ret2g (L := [(2, .pointer (some (⟨g2, 0, none⟩ : Addr))), (3, .int .i64 5)]) (r1 := .cell 2 26) (v1 := .agg #[.slice none ([] : List Int).length 0, .slice none ([] : List Int).length 0, .slice none ([] : List Sapi_Sym).length 0]) (r2 := .tmp 3) (v2 := .int .i64 5) hs (by kernel_rfl) ⟨_, (show lk 2 [(2, .pointer (some (⟨g2, 0, none⟩ : Addr))), (3, .int .i64 5)] = some (.pointer (some (⟨g2, 0, none⟩ : Addr))) by kernel_rfl), lvb_row (hw.up 3) (by kernel_rfl) (by kernel_rfl) (by kernel_rfl)⟩ (show lk 3 [(2, .pointer (some (⟨g2, 0, none⟩ : Addr))), (3, .int .i64 5)] = some (.int .i64 5) by kernel_rfl) ?_
   exact ⟨none, 0, none, 0, none, 0, rfl, hw.only 3⟩
  ·replace H := ite_t H (bne_eq_false_iff_eq.1 hc)
   have hb40 := hc
   rw [hb40] at hs
   refine wp_skip ?_
   refine hK29 _ _ ?_
   refine go_seq_k fun K41 hK41 => ?_
   have hJ2 : ∀ (a : Act) (w : World), Slots a 137 [(0, .slice A0 l0.length c0), (2, .pointer (some (⟨g2, 0, none⟩ : Addr))), (4, .slice (some ad32) t11.length cc15)] → St [] w0 w [own 37 (eI .u32) (some ad32) cc15 t11, own 39 eSapi_Sym none 0 ([] : List Sapi_Sym), own 3 (eI .i64) none 0 ([] : List Int), own 37 (eI .u32) none 0 ([] : List Int), box g2 26 [.slice none ([] : List Int).length 0, .slice none ([] : List Int).length 0, .slice none ([] : List Sapi_Sym).length 0]] → rivetref10_Take.j2 t11 l0 = some r → K41 a w := by
    intro a w hs hw H
    unfold rivetref10_Take.j2 at H
    refine hK41 _ _ ?_
    refine go_sk fun K55 hK55 => ?_
    refine go_pvs 1 [] [(45, .slice (some ad32) t11.length cc15)] hs ?_; clear hs; intro a hs
    obtain ⟨hp56, H⟩ := ite_only H
    refine go_run hs (by rfl) (x_idx (T := 37) (sz := 1) (a := ad32) (n := t11.length) (cap := cc15) (k := .i64) (i := (1 : Int)) hp56) [45] ?_; clear hs; intro a hs
    refine go_run hs (by rfl) (x_ld (off := 0) (p := ad32.add (((1 : Int) : Int).toNat * 1)) (v := .int .u32 (ix (eI .u32).d t11 (1 : Int))) (Rd.of_own (hw.up 0)) hp56 rfl) [46] ?_; clear hs; intro a hs
    refine go_pvs 5 [47] [(6, .int .i64 (w64 (ix (eI .u32).d t11 (1 : Int))))] hs ?_; clear hs; intro a hs
    obtain ⟨y57, hy57, H⟩ := nm_some H
    replace hs : Slots a 137 [(0, .slice A0 l0.length c0), (2, .pointer (some (⟨g2, 0, none⟩ : Addr))), (4, .slice (some ad32) t11.length cc15), (6, .int .i64 y57)] := by rw [hy57]; exact hs.kx
    refine go_end (hK55 _ _ ?_)
    refine go_sk fun K58 hK58 => ?_
    refine go_pvs 1 [] [(50, .slice A0 l0.length c0)] hs ?_; clear hs; intro a hs
    obtain ⟨hp59, H⟩ := ite_only H
    obtain ⟨Aa60, cc61, hA64, hx62, hc63⟩ := c_loA (P := Tryd.prog) (ty := 32) (E := (eI .u8)) (T := 5) (t := 32) (x := (Operand.tmp 50)) (y := (Operand.const (Value.int IntKind.i64 16))) (k := .i64) hs (by kernel_rfl) (by kernel_rfl) (hr0.old hw) (by kernel_rfl) (by kernel_rfl) hp59.1 hp59.2
    refine go_run hs (by rfl) hx62 [50] ?_; clear hs; intro a hs
    refine go_pvs 3 [] [(52, .int .i64 y57)] hs ?_; clear hs; intro a hs
    obtain ⟨⟨t67, t68⟩, hx69, H⟩ := bind_some H
    refine go_call hs (by rfl) (rivetref07_Take.calls Aa60 cc61 (l0.drop (16 : Int).toNat) y57 (t67, t68) _ (hc63 _ (hr0.old hw)) hx69) ?_
    rintro e wd72 ⟨Aa70, cc71, rfl, hw73⟩
    refine ⟨_, rfl, ?_⟩
    replace hw := hw.call hw73
    clear hs; intro a hs; replace hs := hs.rms [51, 52]
    refine go_pvs 9 [53] [(7, .slice Aa70 t67.length cc71), (8, .int .i64 t68)] hs ?_; clear hs; intro a hs
    refine go_end (hK58 _ _ ?_)
    refine go_seq_k fun K75 hK75 => ?_
    refine go_sp [] [(57, .bool (t68 != 0))] hs ?_; clear hs; intro a hs
    refine go_cond hs (t68 != 0) (fun hc => ?_) fun hc => ?_
    ·replace H := ite_f H (bne_iff_ne.1 hc)
     have hb77 := hc
     rw [hb77] at hs
     refine go_sk fun K78 hK78 => ?_
     refine go_pvs 2 [0, 4, 6, 7, 8, 57] [(58, .agg #[.slice none 0 0, .slice none 0 0, .slice none 0 0]), (59, .int .i64 t68)] hs ?_; clear hs; intro a hs
     replace hw := hw.up 5
     obtain ⟨wd79, hx80, hw⟩ := x_bput (P := Tryd.prog) (ty := 0) (t := 26) (y := (Operand.tmp 2)) (z := (Operand.tmp 58)) (o := 0) (p := (⟨g2, 0, none⟩ : Addr)) (v := .agg #[.slice none 0 0, .slice none 0 0, .slice none 0 0]) (vs := [.slice none 0 0, .slice none 0 0, .slice none 0 0]) (cs' := [.slice none 0 0, .slice none 0 0, .slice none 0 0]) hs hw (by kernel_rfl) rfl (by kernel_rfl) rfl (by kernel_rfl) (by kernel_rfl) (by simp [Value.oneCell']) rfl
     refine go_unit hs (by rfl) hx80 [58] ?_; clear hs; intro a hs
     replace hw := St.own_nil hw 37 (eI .u32)
     replace hw := St.own_nil hw 3 (eI .i64)
     replace hw := St.own_nil hw 39 eSapi_Sym
     replace hw : St [] w0 wd79 [own 39 eSapi_Sym none 0 ([] : List Sapi_Sym), own 3 (eI .i64) none 0 ([] : List Int), own 37 (eI .u32) none 0 ([] : List Int), box g2 26 [.slice none ([] : List Int).length 0, .slice none ([] : List Int).length 0, .slice none ([] : List Sapi_Sym).length 0], own 37 (eI .u32) Aa70 cc71 t67, own 37 (eI .u32) (some ad32) cc15 t11, own 39 eSapi_Sym none 0 ([] : List Sapi_Sym), own 3 (eI .i64) none 0 ([] : List Int), own 37 (eI .u32) none 0 ([] : List Int)] := hw
     refine go_pvs 4 [59] [(3, .int .i64 t68)] hs ?_; clear hs; intro a hs
     refine go_end (hK78 _ _ ?_)
     refine wp_ret ?_
     refine th_ret ?_
     obtain rfl := Option.some.inj H
     replace hw := hw.up 1
     replace hw := hw.up 2
     replace hs : Slots a 137 [(2, .pointer (some (⟨g2, 0, none⟩ : Addr))), (3, .int .i64 t68)] := hs.kx
     refine ret2g (L := [(2, .pointer (some (⟨g2, 0, none⟩ : Addr))), (3, .int .i64 t68)]) (r1 := .cell 2 26) (v1 := .agg #[.slice none ([] : List Int).length 0, .slice none ([] : List Int).length 0, .slice none ([] : List Sapi_Sym).length 0]) (r2 := .tmp 3) (v2 := .int .i64 t68) hs (by kernel_rfl) ⟨_, (show lk 2 [(2, .pointer (some (⟨g2, 0, none⟩ : Addr))), (3, .int .i64 t68)] = some (.pointer (some (⟨g2, 0, none⟩ : Addr))) by kernel_rfl), lvb_row (hw.up 3) (by kernel_rfl) (by kernel_rfl) (by kernel_rfl)⟩ (show lk 3 [(2, .pointer (some (⟨g2, 0, none⟩ : Addr))), (3, .int .i64 t68)] = some (.int .i64 t68) by kernel_rfl) ?_
     exact ⟨none, 0, none, 0, none, 0, rfl, hw.only 3⟩
    ·replace H := ite_t H (bne_eq_false_iff_eq.1 hc)
     have hb84 := hc
     rw [hb84] at hs
     refine wp_skip ?_
     refine hK75 _ _ ?_
     refine go_sk fun K85 hK85 => ?_
     refine go_pvs 4 [0, 6, 8, 57] [(60, .slice A0 l0.length c0), (63, .int .i64 (w64 (16 + (w64 (4 * y57)))))] hs ?_; clear hs; intro a hs
     obtain ⟨hp86, H⟩ := ite_only H
     obtain ⟨Aa87, cc88, hA91, hx89, hc90⟩ := c_loA (P := Tryd.prog) (ty := 32) (E := (eI .u8)) (T := 5) (t := 32) (x := (Operand.tmp 60)) (y := (Operand.tmp 63)) (k := .i64) hs (by kernel_rfl) (by kernel_rfl) (hr0.old hw) (by kernel_rfl) (by kernel_rfl) hp86.1 hp86.2
     refine go_run hs (by rfl) hx89 [60, 63] ?_; clear hs; intro a hs
     refine go_pvs 6 [64] [(9, .slice Aa87 (l0.drop (w64 (16 + (w64 (4 * y57))) : Int).toNat).length cc88)] hs ?_; clear hs; intro a hs
     refine go_end (hK85 _ _ ?_)
     refine go_sk fun K93 hK93 => ?_
     refine go_pvs 1 [] [(65, .agg #[.slice none 0 0, .slice none 0 0, .slice none 0 0])] hs ?_; clear hs; intro a hs
     obtain ⟨g94, wd95, hx96, hw⟩ := x_allocc (P := Tryd.prog) (elem := 26) (ty := 0) (z := .agg #[.slice none 0 0, .slice none 0 0, .slice none 0 0]) (cs := [.slice none 0 0, .slice none 0 0, .slice none 0 0]) hs hw (by kernel_rfl) (by kernel_rfl)
     refine go_run hs (by rfl) hx96 [] ?_; clear hs; intro a hs
     replace hw := St.own_nil hw 37 (eI .u32)
     replace hw := St.own_nil hw 3 (eI .i64)
     replace hw := St.own_nil hw 39 eSapi_Sym
     replace hw : St [] w0 wd95 [own 39 eSapi_Sym none 0 ([] : List Sapi_Sym), own 3 (eI .i64) none 0 ([] : List Int), own 37 (eI .u32) none 0 ([] : List Int), box g94 26 [.slice none ([] : List Int).length 0, .slice none ([] : List Int).length 0, .slice none ([] : List Sapi_Sym).length 0], own 37 (eI .u32) Aa70 cc71 t67, own 37 (eI .u32) (some ad32) cc15 t11, own 39 eSapi_Sym none 0 ([] : List Sapi_Sym), own 3 (eI .i64) none 0 ([] : List Int), own 37 (eI .u32) none 0 ([] : List Int), box g2 26 [.slice none ([] : List Int).length 0, .slice none ([] : List Int).length 0, .slice none ([] : List Sapi_Sym).length 0]] := hw
     replace hw := hw.up 3
     obtain ⟨wd101, hx102, hw⟩ := x_bput (P := Tryd.prog) (ty := 0) (t := 26) (y := (Operand.tmp 10)) (z := (Operand.tmp 65)) (o := 0) (p := (⟨g94, 0, none⟩ : Addr)) (v := .agg #[.slice none 0 0, .slice none 0 0, .slice none 0 0]) (vs := [.slice none 0 0, .slice none 0 0, .slice none 0 0]) (cs' := [.slice none 0 0, .slice none 0 0, .slice none 0 0]) hs hw (by kernel_rfl) rfl (by kernel_rfl) rfl (by kernel_rfl) (by kernel_rfl) (by simp [Value.oneCell']) rfl
     refine go_unit hs (by rfl) hx102 [65] ?_; clear hs; intro a hs
     replace hw := St.own_nil hw 37 (eI .u32)
     replace hw := St.own_nil hw 3 (eI .i64)
     replace hw := St.own_nil hw 39 eSapi_Sym
     replace hw : St [] w0 wd101 [own 39 eSapi_Sym none 0 ([] : List Sapi_Sym), own 3 (eI .i64) none 0 ([] : List Int), own 37 (eI .u32) none 0 ([] : List Int), box g94 26 [.slice none ([] : List Int).length 0, .slice none ([] : List Int).length 0, .slice none ([] : List Sapi_Sym).length 0], own 39 eSapi_Sym none 0 ([] : List Sapi_Sym), own 3 (eI .i64) none 0 ([] : List Int), own 37 (eI .u32) none 0 ([] : List Int), own 37 (eI .u32) Aa70 cc71 t67, own 37 (eI .u32) (some ad32) cc15 t11, own 39 eSapi_Sym none 0 ([] : List Sapi_Sym), own 3 (eI .i64) none 0 ([] : List Int), own 37 (eI .u32) none 0 ([] : List Int), box g2 26 [.slice none ([] : List Int).length 0, .slice none ([] : List Int).length 0, .slice none ([] : List Sapi_Sym).length 0]] := hw
     refine go_end (hK93 _ _ ?_)
     refine go_seq_k fun K106 hK106 => ?_
     refine go_sp [] [(11, .int .i64 0)] hs ?_; clear hs; intro a hs
     refine wp_block ?_
     obtain ⟨e108, hl108, HX108⟩ := bind_some H
     have hJ3 : ∀ (Aa192 : Option Addr) (cc193 : Nat) (l194 : List Int) (hc195 : ∀ w', Rd w' (eI .u8) A0 c0 l0 → Rd w' (eI .u8) Aa192 cc193 l194) (Aa198 : Option Addr) (cc199 : Nat) (l197 : List Sapi_Sym) (a : Act) (w : World), Slots a 137 [(2, .pointer (some (⟨g2, 0, none⟩ : Addr))), (4, .slice (some ad32) t11.length cc15), (7, .slice Aa70 t67.length cc71), (9, .slice Aa192 l194.length cc193), (10, .pointer (some (⟨g94, 0, none⟩ : Addr)))] → St [] w0 w [own 39 eSapi_Sym Aa198 cc199 l197, own 3 (eI .i64) none 0 ([] : List Int), own 37 (eI .u32) none 0 ([] : List Int), box g94 26 [.slice none ([] : List Int).length 0, .slice none ([] : List Int).length 0, .slice Aa198 l197.length cc199], own 39 eSapi_Sym none 0 ([] : List Sapi_Sym), own 3 (eI .i64) none 0 ([] : List Int), own 37 (eI .u32) none 0 ([] : List Int), own 37 (eI .u32) Aa70 cc71 t67, own 37 (eI .u32) (some ad32) cc15 t11, own 39 eSapi_Sym none 0 ([] : List Sapi_Sym), own 3 (eI .i64) none 0 ([] : List Int), own 37 (eI .u32) none 0 ([] : List Int), box g2 26 [.slice none ([] : List Int).length 0, .slice none ([] : List Int).length 0, .slice none ([] : List Sapi_Sym).length 0]] → rivetref10_Take.j3 t11 t67 l194 l197 = some r → K106 a w := by
      intro Aa192 cc193 l194 hc195 Aa198 cc199 l197 a w hs hw H
      unfold rivetref10_Take.j3 at H
      refine hK106 _ _ ?_
      refine go_seq_k fun K200 hK200 => ?_
      refine go_sp [9] [(112, .bool (decide ((l194.length : Int) > 0)))] hs ?_; clear hs; intro a hs
      refine go_cond hs (decide ((l194.length : Int) > 0)) (fun hc => ?_) fun hc => ?_
      ·replace H := ite_t H (of_decide_eq_true hc)
       have hb202 := hc
       rw [hb202] at hs
       refine go_sk fun K203 hK203 => ?_
       refine go_pvs 1 [4, 7, 10, 112] [(113, .agg #[.slice none 0 0, .slice none 0 0, .slice none 0 0])] hs ?_; clear hs; intro a hs
       replace hw := hw.up 12
       obtain ⟨wd204, hx205, hw⟩ := x_bput (P := Tryd.prog) (ty := 0) (t := 26) (y := (Operand.tmp 2)) (z := (Operand.tmp 113)) (o := 0) (p := (⟨g2, 0, none⟩ : Addr)) (v := .agg #[.slice none 0 0, .slice none 0 0, .slice none 0 0]) (vs := [.slice none 0 0, .slice none 0 0, .slice none 0 0]) (cs' := [.slice none 0 0, .slice none 0 0, .slice none 0 0]) hs hw (by kernel_rfl) rfl (by kernel_rfl) rfl (by kernel_rfl) (by kernel_rfl) (by simp [Value.oneCell']) rfl
       refine go_unit hs (by rfl) hx205 [113] ?_; clear hs; intro a hs
       replace hw := St.own_nil hw 37 (eI .u32)
       replace hw := St.own_nil hw 3 (eI .i64)
       replace hw := St.own_nil hw 39 eSapi_Sym
       replace hw : St [] w0 wd204 [own 39 eSapi_Sym none 0 ([] : List Sapi_Sym), own 3 (eI .i64) none 0 ([] : List Int), own 37 (eI .u32) none 0 ([] : List Int), box g2 26 [.slice none ([] : List Int).length 0, .slice none ([] : List Int).length 0, .slice none ([] : List Sapi_Sym).length 0], own 39 eSapi_Sym Aa198 cc199 l197, own 3 (eI .i64) none 0 ([] : List Int), own 37 (eI .u32) none 0 ([] : List Int), box g94 26 [.slice none ([] : List Int).length 0, .slice none ([] : List Int).length 0, .slice Aa198 l197.length cc199], own 39 eSapi_Sym none 0 ([] : List Sapi_Sym), own 3 (eI .i64) none 0 ([] : List Int), own 37 (eI .u32) none 0 ([] : List Int), own 37 (eI .u32) Aa70 cc71 t67, own 37 (eI .u32) (some ad32) cc15 t11, own 39 eSapi_Sym none 0 ([] : List Sapi_Sym), own 3 (eI .i64) none 0 ([] : List Int), own 37 (eI .u32) none 0 ([] : List Int)] := hw
       refine go_pvs 3 [] [(3, .int .i64 4)] hs ?_; clear hs; intro a hs
       refine go_end (hK203 _ _ ?_)
       refine wp_ret ?_
       refine th_ret ?_
       obtain rfl := Option.some.inj H
       replace hw := hw.up 1
       replace hw := hw.up 2
       replace hs : Slots a 137 [(2, .pointer (some (⟨g2, 0, none⟩ : Addr))), (3, .int .i64 4)] := hs.kx
       refine ret2g (L := [(2, .pointer (some (⟨g2, 0, none⟩ : Addr))), (3, .int .i64 4)]) (r1 := .cell 2 26) (v1 := .agg #[.slice none ([] : List Int).length 0, .slice none ([] : List Int).length 0, .slice none ([] : List Sapi_Sym).length 0]) (r2 := .tmp 3) (v2 := .int .i64 4) hs (by kernel_rfl) ⟨_, (show lk 2 [(2, .pointer (some (⟨g2, 0, none⟩ : Addr))), (3, .int .i64 4)] = some (.pointer (some (⟨g2, 0, none⟩ : Addr))) by kernel_rfl), lvb_row (hw.up 3) (by kernel_rfl) (by kernel_rfl) (by kernel_rfl)⟩ (show lk 3 [(2, .pointer (some (⟨g2, 0, none⟩ : Addr))), (3, .int .i64 4)] = some (.int .i64 4) by kernel_rfl) ?_
       exact ⟨none, 0, none, 0, none, 0, rfl, hw.only 3⟩
      ·replace H := ite_f H (of_decide_eq_false hc)
       have hb209 := hc
       rw [hb209] at hs
       refine wp_skip ?_
       refine hK200 _ _ ?_
       refine go_sk fun K210 hK210 => ?_
       refine go_pvs 2 [4, 7, 112] [(115, .slice Aa70 t67.length cc71), (116, .slice (some ad32) t11.length cc15)] hs ?_; clear hs; intro a hs
       obtain ⟨hp211, H⟩ := ite_only H
       refine go_run hs (by rfl) (x_idx (T := 37) (sz := 1) (a := ad32) (n := t11.length) (cap := cc15) (k := .i64) (i := (2 : Int)) hp211) [116] ?_; clear hs; intro a hs
       refine go_run hs (by rfl) (x_ld (off := 0) (p := ad32.add (((2 : Int) : Int).toNat * 1)) (v := .int .u32 (ix (eI .u32).d t11 (2 : Int))) (Rd.of_own (hw.up 8)) hp211 rfl) [117] ?_; clear hs; intro a hs
       refine go_pvs 5 [118] [(119, .int .i64 (w64 (ix (eI .u32).d t11 (2 : Int))))] hs ?_; clear hs; intro a hs
       obtain ⟨⟨t213, t214, t215⟩, hx216, H⟩ := bind_some H
       refine go_call hs (by rfl) (rivetref08_Unpack.calls Aa70 cc71 t67 (w64 (ix (eI .u32).d t11 (2 : Int))) (t213, t214, t215) _ (Rd.of_own (hw.up 7)) hx216) ?_
       rintro e wd221 ⟨Aa217, cc218, Aa219, cc220, rfl, hw222⟩
       refine ⟨_, rfl, ?_⟩
       replace hw := hw.call hw222
       clear hs; intro a hs; replace hs := hs.rms [115, 119]
       refine go_pvs 13 [120] [(17, .slice Aa217 t213.length cc218), (18, .slice Aa219 t214.length cc220), (19, .int .i64 t215)] hs ?_; clear hs; intro a hs
       refine go_end (hK210 _ _ ?_)
       refine go_seq_k fun K225 hK225 => ?_
       refine go_sp [] [(125, .bool (t215 != 0))] hs ?_; clear hs; intro a hs
       refine go_cond hs (t215 != 0) (fun hc => ?_) fun hc => ?_
       ·replace H := ite_f H (bne_iff_ne.1 hc)
        have hb227 := hc
        rw [hb227] at hs
        refine go_sk fun K228 hK228 => ?_
        refine go_pvs 2 [10, 17, 18, 19, 125] [(126, .agg #[.slice none 0 0, .slice none 0 0, .slice none 0 0]), (127, .int .i64 t215)] hs ?_; clear hs; intro a hs
        replace hw := hw.up 14
        obtain ⟨wd229, hx230, hw⟩ := x_bput (P := Tryd.prog) (ty := 0) (t := 26) (y := (Operand.tmp 2)) (z := (Operand.tmp 126)) (o := 0) (p := (⟨g2, 0, none⟩ : Addr)) (v := .agg #[.slice none 0 0, .slice none 0 0, .slice none 0 0]) (vs := [.slice none 0 0, .slice none 0 0, .slice none 0 0]) (cs' := [.slice none 0 0, .slice none 0 0, .slice none 0 0]) hs hw (by kernel_rfl) rfl (by kernel_rfl) rfl (by kernel_rfl) (by kernel_rfl) (by simp [Value.oneCell']) rfl
        refine go_unit hs (by rfl) hx230 [126] ?_; clear hs; intro a hs
        replace hw := St.own_nil hw 37 (eI .u32)
        replace hw := St.own_nil hw 3 (eI .i64)
        replace hw := St.own_nil hw 39 eSapi_Sym
        replace hw : St [] w0 wd229 [own 39 eSapi_Sym none 0 ([] : List Sapi_Sym), own 3 (eI .i64) none 0 ([] : List Int), own 37 (eI .u32) none 0 ([] : List Int), box g2 26 [.slice none ([] : List Int).length 0, .slice none ([] : List Int).length 0, .slice none ([] : List Sapi_Sym).length 0], own 37 (eI .u32) Aa217 cc218 t213, own 3 (eI .i64) Aa219 cc220 t214, own 39 eSapi_Sym Aa198 cc199 l197, own 3 (eI .i64) none 0 ([] : List Int), own 37 (eI .u32) none 0 ([] : List Int), box g94 26 [.slice none ([] : List Int).length 0, .slice none ([] : List Int).length 0, .slice Aa198 l197.length cc199], own 39 eSapi_Sym none 0 ([] : List Sapi_Sym), own 3 (eI .i64) none 0 ([] : List Int), own 37 (eI .u32) none 0 ([] : List Int), own 37 (eI .u32) Aa70 cc71 t67, own 37 (eI .u32) (some ad32) cc15 t11, own 39 eSapi_Sym none 0 ([] : List Sapi_Sym), own 3 (eI .i64) none 0 ([] : List Int), own 37 (eI .u32) none 0 ([] : List Int)] := hw
        refine go_pvs 4 [127] [(3, .int .i64 t215)] hs ?_; clear hs; intro a hs
        refine go_end (hK228 _ _ ?_)
        refine wp_ret ?_
        refine th_ret ?_
        obtain rfl := Option.some.inj H
        replace hw := hw.up 1
        replace hw := hw.up 2
        replace hs : Slots a 137 [(2, .pointer (some (⟨g2, 0, none⟩ : Addr))), (3, .int .i64 t215)] := hs.kx
        refine ret2g (L := [(2, .pointer (some (⟨g2, 0, none⟩ : Addr))), (3, .int .i64 t215)]) (r1 := .cell 2 26) (v1 := .agg #[.slice none ([] : List Int).length 0, .slice none ([] : List Int).length 0, .slice none ([] : List Sapi_Sym).length 0]) (r2 := .tmp 3) (v2 := .int .i64 t215) hs (by kernel_rfl) ⟨_, (show lk 2 [(2, .pointer (some (⟨g2, 0, none⟩ : Addr))), (3, .int .i64 t215)] = some (.pointer (some (⟨g2, 0, none⟩ : Addr))) by kernel_rfl), lvb_row (hw.up 3) (by kernel_rfl) (by kernel_rfl) (by kernel_rfl)⟩ (show lk 3 [(2, .pointer (some (⟨g2, 0, none⟩ : Addr))), (3, .int .i64 t215)] = some (.int .i64 t215) by kernel_rfl) ?_
        exact ⟨none, 0, none, 0, none, 0, rfl, hw.only 3⟩
       ·replace H := ite_t H (bne_eq_false_iff_eq.1 hc)
        have hb234 := hc
        rw [hb234] at hs
        refine wp_skip ?_
        refine hK225 _ _ ?_
        refine go_sk fun K235 hK235 => ?_
        refine go_pvs 2 [17, 19, 125] [(128, .slice Aa217 t213.length cc218), (129, .pointer (some (((⟨g94, 0, none⟩ : Addr) : Addr).add 0)))] hs ?_; clear hs; intro a hs
        replace hw := hw.up 5
        obtain ⟨wd236, hx237, hw⟩ := x_bput (P := Tryd.prog) (ty := 0) (t := 22) (y := (Operand.tmp 129)) (z := (Operand.tmp 128)) (o := 0) (p := ((⟨g94, 0, none⟩ : Addr) : Addr).add 0) (v := .slice Aa217 t213.length cc218) (vs := [.slice Aa217 t213.length cc218]) (cs' := [.slice Aa217 t213.length cc218, .slice none ([] : List Int).length 0, .slice Aa198 l197.length cc199]) hs hw (by kernel_rfl) rfl (by kernel_rfl) rfl (by kernel_rfl) (by kernel_rfl) (by simp [Value.oneCell']) rfl
        refine go_unit hs (by rfl) hx237 [128, 129] ?_; clear hs; intro a hs
        refine go_end (hK235 _ _ ?_)
        refine go_sk fun K238 hK238 => ?_
        refine go_pvs 2 [18] [(130, .slice Aa219 t214.length cc220), (131, .pointer (some (((⟨g94, 0, none⟩ : Addr) : Addr).add 1)))] hs ?_; clear hs; intro a hs
        obtain ⟨wd239, hx240, hw⟩ := x_bput (P := Tryd.prog) (ty := 0) (t := 23) (y := (Operand.tmp 131)) (z := (Operand.tmp 130)) (o := 1) (p := ((⟨g94, 0, none⟩ : Addr) : Addr).add 1) (v := .slice Aa219 t214.length cc220) (vs := [.slice Aa219 t214.length cc220]) (cs' := [.slice Aa217 t213.length cc218, .slice Aa219 t214.length cc220, .slice Aa198 l197.length cc199]) hs hw (by kernel_rfl) rfl (by kernel_rfl) rfl (by kernel_rfl) (by kernel_rfl) (by simp [Value.oneCell']) rfl
        refine go_unit hs (by rfl) hx240 [130, 131] ?_; clear hs; intro a hs
        refine go_end (hK238 _ _ ?_)
        refine go_seq_k fun K241 hK241 => ?_
        refine go_sk fun K242 hK242 => ?_
        refine go_run hs (by rfl) (x_blds (g := g94) (o := 0) (p := (⟨g94, 0, none⟩ : Addr)) (vs := [.slice Aa217 t213.length cc218, .slice Aa219 t214.length cc220, .slice Aa198 l197.length cc199]) (hw.up 0)) [] ?_; clear hs; intro a hs
        obtain ⟨t244, hx245, H⟩ := bind_some H
        refine go_call hs (by rfl) (rivetref09_May.calls (⟨t213, t214, l197⟩ : Sapi_Obj) Aa217 cc218 Aa219 cc220 Aa198 cc199 t244 _ (Rd.of_own (hw.up 1)) (Rd.of_own (hw.up 2)) (Rd.of_own (hw.up 3)) hx245) ?_
        rintro e wd246 ⟨rfl, hw247⟩
        refine ⟨_, rfl, ?_⟩
        replace hw := hw.call hw247
        clear hs; intro a hs; replace hs := hs.rms [132]
        refine go_pvs 3 [133] [(134, .bool (t244 != 0))] hs ?_; clear hs; intro a hs
        refine go_end (hK242 _ _ ?_)
        refine go_cond hs (t244 != 0) (fun hc => ?_) fun hc => ?_
        ·replace H := ite_f H (bne_iff_ne.1 hc)
         have hb248 := hc
         rw [hb248] at hs
         refine go_sk fun K249 hK249 => ?_
         refine go_pvs 1 [10, 134] [(135, .agg #[.slice none 0 0, .slice none 0 0, .slice none 0 0])] hs ?_; clear hs; intro a hs
         replace hw := hw.up 14
         obtain ⟨wd250, hx251, hw⟩ := x_bput (P := Tryd.prog) (ty := 0) (t := 26) (y := (Operand.tmp 2)) (z := (Operand.tmp 135)) (o := 0) (p := (⟨g2, 0, none⟩ : Addr)) (v := .agg #[.slice none 0 0, .slice none 0 0, .slice none 0 0]) (vs := [.slice none 0 0, .slice none 0 0, .slice none 0 0]) (cs' := [.slice none 0 0, .slice none 0 0, .slice none 0 0]) hs hw (by kernel_rfl) rfl (by kernel_rfl) rfl (by kernel_rfl) (by kernel_rfl) (by simp [Value.oneCell']) rfl
         refine go_unit hs (by rfl) hx251 [135] ?_; clear hs; intro a hs
         replace hw := St.own_nil hw 37 (eI .u32)
         replace hw := St.own_nil hw 3 (eI .i64)
         replace hw := St.own_nil hw 39 eSapi_Sym
         replace hw : St [] w0 wd250 [own 39 eSapi_Sym none 0 ([] : List Sapi_Sym), own 3 (eI .i64) none 0 ([] : List Int), own 37 (eI .u32) none 0 ([] : List Int), box g2 26 [.slice none ([] : List Int).length 0, .slice none ([] : List Int).length 0, .slice none ([] : List Sapi_Sym).length 0], box g94 26 [.slice Aa217 t213.length cc218, .slice Aa219 t214.length cc220, .slice Aa198 l197.length cc199], own 37 (eI .u32) Aa217 cc218 t213, own 3 (eI .i64) Aa219 cc220 t214, own 39 eSapi_Sym Aa198 cc199 l197, own 3 (eI .i64) none 0 ([] : List Int), own 37 (eI .u32) none 0 ([] : List Int), own 39 eSapi_Sym none 0 ([] : List Sapi_Sym), own 3 (eI .i64) none 0 ([] : List Int), own 37 (eI .u32) none 0 ([] : List Int), own 37 (eI .u32) Aa70 cc71 t67, own 37 (eI .u32) (some ad32) cc15 t11, own 39 eSapi_Sym none 0 ([] : List Sapi_Sym), own 3 (eI .i64) none 0 ([] : List Int), own 37 (eI .u32) none 0 ([] : List Int)] := hw
         refine go_pvs 3 [] [(3, .int .i64 6)] hs ?_; clear hs; intro a hs
         refine go_end (hK249 _ _ ?_)
         refine wp_ret ?_
         refine th_ret ?_
         obtain rfl := Option.some.inj H
         replace hw := hw.up 1
         replace hw := hw.up 2
         replace hs : Slots a 137 [(2, .pointer (some (⟨g2, 0, none⟩ : Addr))), (3, .int .i64 6)] := hs.kx
         refine ret2g (L := [(2, .pointer (some (⟨g2, 0, none⟩ : Addr))), (3, .int .i64 6)]) (r1 := .cell 2 26) (v1 := .agg #[.slice none ([] : List Int).length 0, .slice none ([] : List Int).length 0, .slice none ([] : List Sapi_Sym).length 0]) (r2 := .tmp 3) (v2 := .int .i64 6) hs (by kernel_rfl) ⟨_, (show lk 2 [(2, .pointer (some (⟨g2, 0, none⟩ : Addr))), (3, .int .i64 6)] = some (.pointer (some (⟨g2, 0, none⟩ : Addr))) by kernel_rfl), lvb_row (hw.up 3) (by kernel_rfl) (by kernel_rfl) (by kernel_rfl)⟩ (show lk 3 [(2, .pointer (some (⟨g2, 0, none⟩ : Addr))), (3, .int .i64 6)] = some (.int .i64 6) by kernel_rfl) ?_
         exact ⟨none, 0, none, 0, none, 0, rfl, hw.only 3⟩
        ·replace H := ite_t H (bne_eq_false_iff_eq.1 hc)
         have hb255 := hc
         rw [hb255] at hs
         refine wp_skip ?_
         refine hK241 _ _ ?_
         refine go_sk fun K256 hK256 => ?_
         refine go_run hs (by rfl) (x_blds (g := g94) (o := 0) (p := (⟨g94, 0, none⟩ : Addr)) (vs := [.slice Aa217 t213.length cc218, .slice Aa219 t214.length cc220, .slice Aa198 l197.length cc199]) (hw.up 0)) [10, 134] ?_; clear hs; intro a hs
         replace hw := hw.up 14
         obtain ⟨wd257, hx258, hw⟩ := x_bput (P := Tryd.prog) (ty := 0) (t := 26) (y := (Operand.tmp 2)) (z := (Operand.tmp 136)) (o := 0) (p := (⟨g2, 0, none⟩ : Addr)) (v := .agg #[.slice Aa217 t213.length cc218, .slice Aa219 t214.length cc220, .slice Aa198 l197.length cc199]) (vs := [.slice Aa217 t213.length cc218, .slice Aa219 t214.length cc220, .slice Aa198 l197.length cc199]) (cs' := [.slice Aa217 t213.length cc218, .slice Aa219 t214.length cc220, .slice Aa198 l197.length cc199]) hs hw (by kernel_rfl) rfl (by kernel_rfl) rfl (by kernel_rfl) (by kernel_rfl) (by simp [Value.oneCell']) rfl
         refine go_unit hs (by rfl) hx258 [136] ?_; clear hs; intro a hs
         refine go_pvs 3 [] [(3, .int .i64 0)] hs ?_; clear hs; intro a hs
         refine go_end (hK256 _ _ ?_)
         refine wp_ret ?_
         obtain rfl := Option.some.inj H
         replace hw := hw.up 4
         replace hw := hw.up 4
         replace hw := hw.up 4
         replace hs : Slots a 137 [(2, .pointer (some (⟨g2, 0, none⟩ : Addr))), (3, .int .i64 0)] := hs.kx
         refine ret2g (L := [(2, .pointer (some (⟨g2, 0, none⟩ : Addr))), (3, .int .i64 0)]) (r1 := .cell 2 26) (v1 := .agg #[.slice Aa217 t213.length cc218, .slice Aa219 t214.length cc220, .slice Aa198 l197.length cc199]) (r2 := .tmp 3) (v2 := .int .i64 0) hs (by kernel_rfl) ⟨_, (show lk 2 [(2, .pointer (some (⟨g2, 0, none⟩ : Addr))), (3, .int .i64 0)] = some (.pointer (some (⟨g2, 0, none⟩ : Addr))) by kernel_rfl), lvb_row (hw.up 3) (by kernel_rfl) (by kernel_rfl) (by kernel_rfl)⟩ (show lk 3 [(2, .pointer (some (⟨g2, 0, none⟩ : Addr))), (3, .int .i64 0)] = some (.int .i64 0) by kernel_rfl) ?_
         exact ⟨Aa217, cc218, Aa219, cc220, Aa198, cc199, rfl, hw.only 3⟩
     clear H
     refine go_loop (σ := (List Sapi_Sym) × (List Int) × Int) (fun σ a w => ∃ Aa110, ∃ cc111, ∃ Aa112, ∃ cc113, ∃ hc115 : (∀ w', Rd w' (eI .u8) A0 c0 l0 → Rd w' (eI .u8) Aa112 cc113 σ.2.1), Slots a 137 [(2, .pointer (some (⟨g2, 0, none⟩ : Addr))), (4, .slice (some ad32) t11.length cc15), (7, .slice Aa70 t67.length cc71), (9, .slice Aa112 σ.2.1.length cc113), (10, .pointer (some (⟨g94, 0, none⟩ : Addr))), (11, .int .i64 σ.2.2)] ∧ St [] w0 w [own 39 eSapi_Sym Aa110 cc111 σ.1, own 3 (eI .i64) none 0 ([] : List Int), own 37 (eI .u32) none 0 ([] : List Int), box g94 26 [.slice none ([] : List Int).length 0, .slice none ([] : List Int).length 0, .slice Aa110 σ.1.length cc111], own 39 eSapi_Sym none 0 ([] : List Sapi_Sym), own 3 (eI .i64) none 0 ([] : List Int), own 37 (eI .u32) none 0 ([] : List Int), own 37 (eI .u32) Aa70 cc71 t67, own 37 (eI .u32) (some ad32) cc15 t11, own 39 eSapi_Sym none 0 ([] : List Sapi_Sym), own 3 (eI .i64) none 0 ([] : List Int), own 37 (eI .u32) none 0 ([] : List Int), box g2 26 [.slice none ([] : List Int).length 0, .slice none ([] : List Int).length 0, .slice none ([] : List Sapi_Sym).length 0]]) hl108 (by exact ⟨none, 0, Aa87, cc88, hc90, hs.kx, hw⟩) ?_
     rintro ⟨l109, l114, v117⟩ a w ⟨Aa110, cc111, Aa112, cc113, hc115, hs, hw⟩ o H hr108
     replace hs : Slots a 137 [(2, .pointer (some (⟨g2, 0, none⟩ : Addr))), (4, .slice (some ad32) t11.length cc15), (7, .slice Aa70 t67.length cc71), (9, .slice Aa112 l114.length cc113), (10, .pointer (some (⟨g94, 0, none⟩ : Addr))), (11, .int .i64 v117)] := hs
     replace hw : St [] w0 w [own 39 eSapi_Sym Aa110 cc111 l109, own 3 (eI .i64) none 0 ([] : List Int), own 37 (eI .u32) none 0 ([] : List Int), box g94 26 [.slice none ([] : List Int).length 0, .slice none ([] : List Int).length 0, .slice Aa110 l109.length cc111], own 39 eSapi_Sym none 0 ([] : List Sapi_Sym), own 3 (eI .i64) none 0 ([] : List Int), own 37 (eI .u32) none 0 ([] : List Int), own 37 (eI .u32) Aa70 cc71 t67, own 37 (eI .u32) (some ad32) cc15 t11, own 39 eSapi_Sym none 0 ([] : List Sapi_Sym), own 3 (eI .i64) none 0 ([] : List Int), own 37 (eI .u32) none 0 ([] : List Int), box g2 26 [.slice none ([] : List Int).length 0, .slice none ([] : List Int).length 0, .slice none ([] : List Sapi_Sym).length 0]] := hw
     replace H : rivetref10_Take.b108 t11 l109 l114 v117 = some o := H
     unfold rivetref10_Take.b108 at H
     refine go_seq_k fun K118 hK118 => ?_
     refine go_sk fun K119 hK119 => ?_
     refine go_pvs 2 [] [(66, .int .i64 v117), (67, .slice (some ad32) t11.length cc15)] hs ?_; clear hs; intro a hs
     obtain ⟨hp120, H⟩ := ite_only H
     refine go_run hs (by rfl) (x_idx (T := 37) (sz := 1) (a := ad32) (n := t11.length) (cap := cc15) (k := .i64) (i := (3 : Int)) hp120) [67] ?_; clear hs; intro a hs
     refine go_run hs (by rfl) (x_ld (off := 0) (p := ad32.add (((3 : Int) : Int).toNat * 1)) (v := .int .u32 (ix (eI .u32).d t11 (3 : Int))) (Rd.of_own (hw.up 8)) hp120 rfl) [68] ?_; clear hs; intro a hs
     refine go_pvs 6 [66, 69] [(71, .bool (decide (v117 < (w64 (ix (eI .u32).d t11 (3 : Int))))))] hs ?_; clear hs; intro a hs
     refine go_end (hK119 _ _ ?_)
     refine go_cond hs (decide (v117 < (w64 (ix (eI .u32).d t11 (3 : Int))))) (fun hc => ?_) fun hc => ?_
     ·replace H := ite_t H (of_decide_eq_true hc)
      have hb121 := hc
      rw [hb121] at hs
      refine wp_skip ?_
      refine hK118 _ _ ?_
      refine go_seq_k fun K122 hK122 => ?_
      refine wp_block ?_
      refine go_sk fun K123 hK123 => ?_
      refine go_pvs 1 [71] [(75, .slice Aa112 l114.length cc113)] hs ?_; clear hs; intro a hs
      obtain ⟨⟨t125, t126, t127⟩, hx128, H⟩ := bind_some H
      refine go_call hs (by rfl) (rivetref07_TakeName.calls Aa112 cc113 l114 (t125, t126, t127) _ (hc115 _ (hr0.old hw)) hx128) ?_
      rintro e wd129 ⟨rfl, hw130⟩
      refine ⟨_, rfl, ?_⟩
      replace hw := hw.call hw130
      clear hs; intro a hs; replace hs := hs.rms [75]
      refine go_pvs 9 [76] [(12, .string t125), (13, .int .i64 t126), (14, .int .i64 t127)] hs ?_; clear hs; intro a hs
      refine go_end (hK123 _ _ ?_)
      refine go_seq_k fun K131 hK131 => ?_
      refine go_sp [] [(81, .bool (t127 != 0))] hs ?_; clear hs; intro a hs
      refine go_cond hs (t127 != 0) (fun hc => ?_) fun hc => ?_
      ·replace H := ite_f H (bne_iff_ne.1 hc)
       have hb133 := hc
       rw [hb133] at hs
       refine go_sk fun K134 hK134 => ?_
       refine go_pvs 2 [4, 7, 9, 10, 11, 12, 13, 14, 81] [(82, .agg #[.slice none 0 0, .slice none 0 0, .slice none 0 0]), (83, .int .i64 t127)] hs ?_; clear hs; intro a hs
       replace hw := hw.up 12
       obtain ⟨wd135, hx136, hw⟩ := x_bput (P := Tryd.prog) (ty := 0) (t := 26) (y := (Operand.tmp 2)) (z := (Operand.tmp 82)) (o := 0) (p := (⟨g2, 0, none⟩ : Addr)) (v := .agg #[.slice none 0 0, .slice none 0 0, .slice none 0 0]) (vs := [.slice none 0 0, .slice none 0 0, .slice none 0 0]) (cs' := [.slice none 0 0, .slice none 0 0, .slice none 0 0]) hs hw (by kernel_rfl) rfl (by kernel_rfl) rfl (by kernel_rfl) (by kernel_rfl) (by simp [Value.oneCell']) rfl
       refine go_unit hs (by rfl) hx136 [82] ?_; clear hs; intro a hs
       replace hw := St.own_nil hw 37 (eI .u32)
       replace hw := St.own_nil hw 3 (eI .i64)
       replace hw := St.own_nil hw 39 eSapi_Sym
       replace hw : St [] w0 wd135 [own 39 eSapi_Sym none 0 ([] : List Sapi_Sym), own 3 (eI .i64) none 0 ([] : List Int), own 37 (eI .u32) none 0 ([] : List Int), box g2 26 [.slice none ([] : List Int).length 0, .slice none ([] : List Int).length 0, .slice none ([] : List Sapi_Sym).length 0], own 39 eSapi_Sym Aa110 cc111 l109, own 3 (eI .i64) none 0 ([] : List Int), own 37 (eI .u32) none 0 ([] : List Int), box g94 26 [.slice none ([] : List Int).length 0, .slice none ([] : List Int).length 0, .slice Aa110 l109.length cc111], own 39 eSapi_Sym none 0 ([] : List Sapi_Sym), own 3 (eI .i64) none 0 ([] : List Int), own 37 (eI .u32) none 0 ([] : List Int), own 37 (eI .u32) Aa70 cc71 t67, own 37 (eI .u32) (some ad32) cc15 t11, own 39 eSapi_Sym none 0 ([] : List Sapi_Sym), own 3 (eI .i64) none 0 ([] : List Int), own 37 (eI .u32) none 0 ([] : List Int)] := hw
       refine go_pvs 4 [83] [(3, .int .i64 t127)] hs ?_; clear hs; intro a hs
       refine go_end (hK134 _ _ ?_)
       refine wp_ret ?_
       refine th_ret ?_
       refine ib_ret ?_
       refine th_ret ?_
       refine th_ret ?_
       refine ib_ret ?_
       refine th_ret ?_
       rw [← hr108 _ (Option.some.inj H).symm] at HX108
       replace H : some ((⟨([] : List Int), ([] : List Int), ([] : List Sapi_Sym)⟩ : Sapi_Obj), t127) = some r := HX108
       obtain rfl := Option.some.inj H
       replace hw := hw.up 1
       replace hw := hw.up 2
       replace hs : Slots a 137 [(2, .pointer (some (⟨g2, 0, none⟩ : Addr))), (3, .int .i64 t127)] := hs.kx
       refine ret2g (L := [(2, .pointer (some (⟨g2, 0, none⟩ : Addr))), (3, .int .i64 t127)]) (r1 := .cell 2 26) (v1 := .agg #[.slice none ([] : List Int).length 0, .slice none ([] : List Int).length 0, .slice none ([] : List Sapi_Sym).length 0]) (r2 := .tmp 3) (v2 := .int .i64 t127) hs (by kernel_rfl) ⟨_, (show lk 2 [(2, .pointer (some (⟨g2, 0, none⟩ : Addr))), (3, .int .i64 t127)] = some (.pointer (some (⟨g2, 0, none⟩ : Addr))) by kernel_rfl), lvb_row (hw.up 3) (by kernel_rfl) (by kernel_rfl) (by kernel_rfl)⟩ (show lk 3 [(2, .pointer (some (⟨g2, 0, none⟩ : Addr))), (3, .int .i64 t127)] = some (.int .i64 t127) by kernel_rfl) ?_
       exact ⟨none, 0, none, 0, none, 0, rfl, hw.only 3⟩
      ·replace H := ite_t H (bne_eq_false_iff_eq.1 hc)
       have hb140 := hc
       rw [hb140] at hs
       refine wp_skip ?_
       refine hK131 _ _ ?_
       refine go_sk fun K141 hK141 => ?_
       refine go_pvs 2 [14, 81] [(85, .slice Aa112 l114.length cc113), (86, .int .i64 t126)] hs ?_; clear hs; intro a hs
       obtain ⟨hp142, H⟩ := ite_only H
       obtain ⟨Aa143, cc144, hA147, hx145, hc146⟩ := c_loA (P := Tryd.prog) (ty := 32) (E := (eI .u8)) (T := 5) (t := 32) (x := (Operand.tmp 85)) (y := (Operand.tmp 86)) (k := .i64) hs (by kernel_rfl) (by kernel_rfl) (hc115 _ (hr0.old hw)) (by kernel_rfl) (by kernel_rfl) hp142.1 hp142.2
       refine go_run hs (by rfl) hx145 [85, 86] ?_; clear hs; intro a hs
       obtain ⟨⟨t150, t151⟩, hx152, H⟩ := bind_some H
       refine go_call hs (by rfl) (rivetref07_Take.calls Aa143 cc144 (l114.drop (t126 : Int).toNat) 1 (t150, t151) _ (hc146 _ (hc115 _ (hr0.old hw))) hx152) ?_
       rintro e wd155 ⟨Aa153, cc154, rfl, hw156⟩
       refine ⟨_, rfl, ?_⟩
       replace hw := hw.call hw156
       clear hs; intro a hs; replace hs := hs.rms [87]
       refine go_pvs 9 [88] [(15, .slice Aa153 t150.length cc154), (16, .int .i64 t151)] hs ?_; clear hs; intro a hs
       refine go_end (hK141 _ _ ?_)
       refine go_seq_k fun K158 hK158 => ?_
       refine go_sp [] [(92, .bool (t151 != 0))] hs ?_; clear hs; intro a hs
       refine go_cond hs (t151 != 0) (fun hc => ?_) fun hc => ?_
       ·replace H := ite_f H (bne_iff_ne.1 hc)
        have hb160 := hc
        rw [hb160] at hs
        refine go_sk fun K161 hK161 => ?_
        refine go_pvs 2 [4, 7, 9, 10, 11, 12, 13, 15, 16, 92] [(93, .agg #[.slice none 0 0, .slice none 0 0, .slice none 0 0]), (94, .int .i64 t151)] hs ?_; clear hs; intro a hs
        replace hw := hw.up 13
        obtain ⟨wd162, hx163, hw⟩ := x_bput (P := Tryd.prog) (ty := 0) (t := 26) (y := (Operand.tmp 2)) (z := (Operand.tmp 93)) (o := 0) (p := (⟨g2, 0, none⟩ : Addr)) (v := .agg #[.slice none 0 0, .slice none 0 0, .slice none 0 0]) (vs := [.slice none 0 0, .slice none 0 0, .slice none 0 0]) (cs' := [.slice none 0 0, .slice none 0 0, .slice none 0 0]) hs hw (by kernel_rfl) rfl (by kernel_rfl) rfl (by kernel_rfl) (by kernel_rfl) (by simp [Value.oneCell']) rfl
        refine go_unit hs (by rfl) hx163 [93] ?_; clear hs; intro a hs
        replace hw := St.own_nil hw 37 (eI .u32)
        replace hw := St.own_nil hw 3 (eI .i64)
        replace hw := St.own_nil hw 39 eSapi_Sym
        replace hw : St [] w0 wd162 [own 39 eSapi_Sym none 0 ([] : List Sapi_Sym), own 3 (eI .i64) none 0 ([] : List Int), own 37 (eI .u32) none 0 ([] : List Int), box g2 26 [.slice none ([] : List Int).length 0, .slice none ([] : List Int).length 0, .slice none ([] : List Sapi_Sym).length 0], own 37 (eI .u32) Aa153 cc154 t150, own 39 eSapi_Sym Aa110 cc111 l109, own 3 (eI .i64) none 0 ([] : List Int), own 37 (eI .u32) none 0 ([] : List Int), box g94 26 [.slice none ([] : List Int).length 0, .slice none ([] : List Int).length 0, .slice Aa110 l109.length cc111], own 39 eSapi_Sym none 0 ([] : List Sapi_Sym), own 3 (eI .i64) none 0 ([] : List Int), own 37 (eI .u32) none 0 ([] : List Int), own 37 (eI .u32) Aa70 cc71 t67, own 37 (eI .u32) (some ad32) cc15 t11, own 39 eSapi_Sym none 0 ([] : List Sapi_Sym), own 3 (eI .i64) none 0 ([] : List Int), own 37 (eI .u32) none 0 ([] : List Int)] := hw
        refine go_pvs 4 [94] [(3, .int .i64 t151)] hs ?_; clear hs; intro a hs
        refine go_end (hK161 _ _ ?_)
        refine wp_ret ?_
        refine th_ret ?_
        refine ib_ret ?_
        refine th_ret ?_
        refine th_ret ?_
        refine ib_ret ?_
        refine th_ret ?_
        rw [← hr108 _ (Option.some.inj H).symm] at HX108
        replace H : some ((⟨([] : List Int), ([] : List Int), ([] : List Sapi_Sym)⟩ : Sapi_Obj), t151) = some r := HX108
        obtain rfl := Option.some.inj H
        replace hw := hw.up 1
        replace hw := hw.up 2
        replace hs : Slots a 137 [(2, .pointer (some (⟨g2, 0, none⟩ : Addr))), (3, .int .i64 t151)] := hs.kx
        refine ret2g (L := [(2, .pointer (some (⟨g2, 0, none⟩ : Addr))), (3, .int .i64 t151)]) (r1 := .cell 2 26) (v1 := .agg #[.slice none ([] : List Int).length 0, .slice none ([] : List Int).length 0, .slice none ([] : List Sapi_Sym).length 0]) (r2 := .tmp 3) (v2 := .int .i64 t151) hs (by kernel_rfl) ⟨_, (show lk 2 [(2, .pointer (some (⟨g2, 0, none⟩ : Addr))), (3, .int .i64 t151)] = some (.pointer (some (⟨g2, 0, none⟩ : Addr))) by kernel_rfl), lvb_row (hw.up 3) (by kernel_rfl) (by kernel_rfl) (by kernel_rfl)⟩ (show lk 3 [(2, .pointer (some (⟨g2, 0, none⟩ : Addr))), (3, .int .i64 t151)] = some (.int .i64 t151) by kernel_rfl) ?_
        exact ⟨none, 0, none, 0, none, 0, rfl, hw.only 3⟩
       ·replace H := ite_t H (bne_eq_false_iff_eq.1 hc)
        have hb167 := hc
        rw [hb167] at hs
        refine wp_skip ?_
        refine hK158 _ _ ?_
        refine go_seq_k fun K168 hK168 => ?_
        refine d_region [9, 11] [(true, [0, 1, 2, 3, 4, 5, 6, 7], 8), (true, [], 9), (false, [10], 11)] [] (by kernel_rfl) (by kernel_rfl) (fun c a d v w h => by cases d <;> exact h) ?_
        refine d_seg ?_
        refine c_pvs [0] [1, 2, 3, 4, 5, 6, 7] [16, 92] [(95, .pointer (some (((⟨g94, 0, none⟩ : Addr) : Addr).add 2)))] hs ?_; clear hs; intro a hs
        refine d_run hs (by rfl) (fun wx hbx => (x_bldD (g := g94) (o := 2) (p := ((⟨g94, 0, none⟩ : Addr) : Addr).add 2) (v := .slice Aa110 l109.length cc111) (hw.up 4) hbx)) [95] ?_; clear hs; intro a hs
        refine c_pvs [2, 3] [4, 5, 6, 7] [12, 15] [(97, .string t125), (98, .slice Aa153 t150.length cc154)] hs ?_; clear hs; intro a hs
        obtain ⟨hp169, H⟩ := ite_only H
        obtain ⟨ad170, rfl⟩ := (Rd.of_own (hw.up 0)).some hp169.1 hp169.2
        refine d_run hs (by rfl) (fun wx hbx => (x_idx (T := 37) (sz := 1) (a := ad170) (n := t150.length) (cap := cc154) (k := .i64) (i := (0 : Int)) hp169)) [98] ?_; clear hs; intro a hs
        refine d_run hs (by rfl) (fun wx hbx => (x_ld (off := 0) (p := ad170.add (((0 : Int) : Int).toNat * 1)) (v := .int .u32 (ix (eI .u32).d t150 (0 : Int))) (Rd.bn (Rd.of_own (hw.up 0)) hbx) hp169 rfl)) [99] ?_; clear hs; intro a hs
        refine c_pvs [6, 7] [] [97, 100] [(102, .agg #[.string t125, .int .i64 (w64 (ix (eI .u32).d t150 (0 : Int)))])] hs ?_; clear hs; intro a hs
        refine c_end ?_
        intro wq hbq
        replace hw := hw.behind hbq
        have hbc := Below.refl wq.heap.size wq
        obtain ⟨Aa171, cc172, wd173, hx174, hwn⟩ := n_lit (P := Tryd.prog) (t := 24) (ty := 24) (T := 39) (len := 1) (parts := #[(0, (Operand.tmp 102))]) (z := .agg #[.string (⟨#[]⟩ : ByteArray), .int .i64 0]) (bytes := 24) (cells := #[.string t125, .int .i64 (w64 (ix (eI .u32).d t150 (0 : Int)))]) hs (nil_of hw) eSapi_Sym ([(⟨t125, w64 (ix (eI .u32).d t150 (0 : Int))⟩ : Sapi_Sym)] : List Sapi_Sym) (by kernel_rfl) (by kernel_rfl) (by kernel_rfl) (by kernel_rfl) (by kernel_rfl) (by kernel_rfl) (by kernel_rfl)
        replace hbc := hwn.below
        replace hw := hw.call hwn
        clear hwn
        refine p_run hs (by rfl) hx174 [102] ?_; clear hs; intro a hs
        refine c_done ⟨.inr (bn_of hbq hbc), ?_⟩
        clear hbc hbq
        refine d_seg ?_
        refine c_end ?_
        intro wq hbq
        replace hw := hw.behind hbq
        obtain ⟨hp176, H⟩ := ite_only H
        have hsrc181 : Src Tryd.prog eSapi_Sym.sz 24 (.slice Aa171 ([(⟨t125, w64 (ix (eI .u32).d t150 (0 : Int))⟩ : Sapi_Sym)] : List Sapi_Sym).length cc172) ([(⟨t125, w64 (ix (eI .u32).d t150 (0 : Int))⟩ : Sapi_Sym)] : List Sapi_Sym).length (([(⟨t125, w64 (ix (eI .u32).d t150 (0 : Int))⟩ : Sapi_Sym)] : List Sapi_Sym).flatMap eSapi_Sym.enc) _ := (Src.of_rd (E := eSapi_Sym) (e' := 39) (by kernel_rfl) (Rd.of_own (hw.up 0)))
        replace hw := hw.up 2
        obtain ⟨Aa177, cc178, wd179, hx180, hw⟩ := x_append (P := Tryd.prog) (t := 24) (tx := 24) (ty := 24) (x := (Operand.tmp 96)) (y := (Operand.tmp 103)) (z := .agg #[.string (⟨#[]⟩ : ByteArray), .int .i64 0]) (bytes := 24) (l2 := ([(⟨t125, w64 (ix (eI .u32).d t150 (0 : Int))⟩ : Sapi_Sym)] : List Sapi_Sym)) hs hw (by kernel_rfl) (by kernel_rfl) (by kernel_rfl) (by kernel_rfl) (by kernel_rfl) hsrc181 (by omega) (by omega)
        refine p_run hs (by rfl) hx180 [96, 103] ?_; clear hs; intro a hs
        refine c_done ⟨.inl (by kernel_rfl), ?_⟩
        clear hbq
        refine d_seg0 ?_
        refine c_pvs [10] [] [] [(105, .pointer (some (((⟨g94, 0, none⟩ : Addr) : Addr).add 2)))] hs ?_; clear hs; intro a hs
        refine c_end ?_
        intro wq hbq
        replace hw := hw.behind hbq
        replace hw := hw.up 5
        obtain ⟨wd182, hx183, hw⟩ := x_bput (P := Tryd.prog) (ty := 0) (t := 24) (y := (Operand.tmp 105)) (z := (Operand.tmp 104)) (o := 2) (p := ((⟨g94, 0, none⟩ : Addr) : Addr).add 2) (v := .slice Aa177 (l109 ++ ([(⟨t125, w64 (ix (eI .u32).d t150 (0 : Int))⟩ : Sapi_Sym)] : List Sapi_Sym)).length cc178) (vs := [.slice Aa177 (l109 ++ ([(⟨t125, w64 (ix (eI .u32).d t150 (0 : Int))⟩ : Sapi_Sym)] : List Sapi_Sym)).length cc178]) (cs' := [.slice none ([] : List Int).length 0, .slice none ([] : List Int).length 0, .slice Aa177 (l109 ++ ([(⟨t125, w64 (ix (eI .u32).d t150 (0 : Int))⟩ : Sapi_Sym)] : List Sapi_Sym)).length cc178]) hs hw (by kernel_rfl) rfl (by kernel_rfl) rfl (by kernel_rfl) (by kernel_rfl) (by simp [Value.oneCell']) rfl
        refine p_unit hs (by rfl) hx183 [104, 105] ?_; clear hs; intro a hs
        refine c_done ⟨.inl (by kernel_rfl), ?_⟩
        clear hbq
        refine d_last ?_
        refine c_end ?_
        intro wq hbq
        replace hw := hw.behind hbq
        refine hK168 _ _ ?_
        refine go_region ?_
        refine go_pvs 3 [9, 13] [(106, .slice Aa112 l114.length cc113), (108, .int .i64 (w64 (t126 + 4)))] hs ?_; clear hs; intro a hs
        obtain ⟨hp184, H⟩ := ite_only H
        obtain ⟨Aa185, cc186, hA189, hx187, hc188⟩ := c_loA (P := Tryd.prog) (ty := 32) (E := (eI .u8)) (T := 5) (t := 32) (x := (Operand.tmp 106)) (y := (Operand.tmp 108)) (k := .i64) hs (by kernel_rfl) (by kernel_rfl) (hc115 _ (hr0.old hw)) (by kernel_rfl) (by kernel_rfl) hp184.1 hp184.2
        refine go_run hs (by rfl) hx187 [106, 108] ?_; clear hs; intro a hs
        replace hs : Slots a 137 [(2, .pointer (some (⟨g2, 0, none⟩ : Addr))), (4, .slice (some ad32) t11.length cc15), (7, .slice Aa70 t67.length cc71), (10, .pointer (some (⟨g94, 0, none⟩ : Addr))), (11, .int .i64 v117), (109, .slice Aa185 (l114.drop (w64 (t126 + 4) : Int).toNat).length cc186)] := hs.kx
        refine go_pvs 5 [109] [(9, .slice Aa185 (l114.drop (w64 (t126 + 4) : Int).toNat).length cc186)] hs ?_; clear hs; intro a hs
        refine go_end ?_
        refine ib_norm ?_
        refine hK122 _ _ ?_
        refine go_plain [] [(11, .int .i64 (w64 (v117 + 1)))] hs ?_; clear hs; intro a hs
        replace hw := hw.up 14
        replace hw := hw.up 14
        replace hw := hw.up 14
        replace hw := hw.up 14
        replace hw := hw.up 14
        replace hw := hw.up 14
        replace hw := hw.up 14
        replace hw := hw.up 14
        replace hw := hw.up 14
        replace hw := hw.up 9
        replace hw := hw.up 14
        replace hw := hw.up 14
        replace hw := hw.up 12
        replace hw := hw.only 13
        exact round_end (l109 ++ ([(⟨t125, w64 (ix (eI .u32).d t150 (0 : Int))⟩ : Sapi_Sym)] : List Sapi_Sym), l114.drop (w64 (t126 + 4) : Int).toNat, w64 (v117 + 1)) (Option.some.inj H).symm ⟨Aa177, cc178, Aa185, cc186, (fun w' h => hc188 w' (hc115 w' h)), hs.kx, hw⟩
     ·replace H := ite_f H (of_decide_eq_false hc)
      have hb191 := hc
      rw [hb191] at hs
      refine wp_exit ?_
      refine th_exit ?_
      refine th_exit ?_
      refine in_block ?_
      replace hw := hw.up 12
      replace hw := hw.up 12
      replace hw := hw.up 12
      replace hw := hw.up 12
      replace hw := hw.up 12
      replace hw := hw.up 12
      replace hw := hw.up 12
      replace hw := hw.up 12
      replace hw := hw.up 12
      replace hw := hw.up 12
      replace hw := hw.up 12
      replace hw := hw.up 12
      replace hw := hw.up 12
      rw [← hr108 _ (Option.some.inj H).symm] at HX108
      exact hJ3 Aa112 cc113 l114 hc115 Aa110 cc111 l109 _ _ hs.kx hw HX108
   refine go_seq_k fun K42 hK42 => ?_
   have hJ1 : ∀ (v46 : Bool) (a : Act) (w : World), Slots a 137 [(0, .slice A0 l0.length c0), (2, .pointer (some (⟨g2, 0, none⟩ : Addr))), (4, .slice (some ad32) t11.length cc15), (43, .bool v46)] → St [] w0 w [own 37 (eI .u32) (some ad32) cc15 t11, own 39 eSapi_Sym none 0 ([] : List Sapi_Sym), own 3 (eI .i64) none 0 ([] : List Int), own 37 (eI .u32) none 0 ([] : List Int), box g2 26 [.slice none ([] : List Int).length 0, .slice none ([] : List Int).length 0, .slice none ([] : List Sapi_Sym).length 0]] → rivetref10_Take.j1 t11 l0 v46 = some r → K42 a w := by
    intro v46 a w hs hw H
    unfold rivetref10_Take.j1 at H
    refine hK42 _ _ ?_
    refine go_cond hs v46 (fun hc => ?_) fun hc => ?_
    ·replace H := ite_t H hc
     have hb47 := hc
     rw [hb47] at hs
     refine go_sk fun K48 hK48 => ?_
     refine go_pvs 1 [0, 4, 43] [(44, .agg #[.slice none 0 0, .slice none 0 0, .slice none 0 0])] hs ?_; clear hs; intro a hs
     replace hw := hw.up 4
     obtain ⟨wd49, hx50, hw⟩ := x_bput (P := Tryd.prog) (ty := 0) (t := 26) (y := (Operand.tmp 2)) (z := (Operand.tmp 44)) (o := 0) (p := (⟨g2, 0, none⟩ : Addr)) (v := .agg #[.slice none 0 0, .slice none 0 0, .slice none 0 0]) (vs := [.slice none 0 0, .slice none 0 0, .slice none 0 0]) (cs' := [.slice none 0 0, .slice none 0 0, .slice none 0 0]) hs hw (by kernel_rfl) rfl (by kernel_rfl) rfl (by kernel_rfl) (by kernel_rfl) (by simp [Value.oneCell']) rfl
     refine go_unit hs (by rfl) hx50 [44] ?_; clear hs; intro a hs
     replace hw := St.own_nil hw 37 (eI .u32)
     replace hw := St.own_nil hw 3 (eI .i64)
     replace hw := St.own_nil hw 39 eSapi_Sym
     replace hw : St [] w0 wd49 [own 39 eSapi_Sym none 0 ([] : List Sapi_Sym), own 3 (eI .i64) none 0 ([] : List Int), own 37 (eI .u32) none 0 ([] : List Int), box g2 26 [.slice none ([] : List Int).length 0, .slice none ([] : List Int).length 0, .slice none ([] : List Sapi_Sym).length 0], own 37 (eI .u32) (some ad32) cc15 t11, own 39 eSapi_Sym none 0 ([] : List Sapi_Sym), own 3 (eI .i64) none 0 ([] : List Int), own 37 (eI .u32) none 0 ([] : List Int)] := hw
     refine go_pvs 3 [] [(3, .int .i64 2)] hs ?_; clear hs; intro a hs
     refine go_end (hK48 _ _ ?_)
     refine wp_ret ?_
     refine th_ret ?_
     obtain rfl := Option.some.inj H
     replace hw := hw.up 1
     replace hw := hw.up 2
     replace hs : Slots a 137 [(2, .pointer (some (⟨g2, 0, none⟩ : Addr))), (3, .int .i64 2)] := hs.kx
     refine ret2g (L := [(2, .pointer (some (⟨g2, 0, none⟩ : Addr))), (3, .int .i64 2)]) (r1 := .cell 2 26) (v1 := .agg #[.slice none ([] : List Int).length 0, .slice none ([] : List Int).length 0, .slice none ([] : List Sapi_Sym).length 0]) (r2 := .tmp 3) (v2 := .int .i64 2) hs (by kernel_rfl) ⟨_, (show lk 2 [(2, .pointer (some (⟨g2, 0, none⟩ : Addr))), (3, .int .i64 2)] = some (.pointer (some (⟨g2, 0, none⟩ : Addr))) by kernel_rfl), lvb_row (hw.up 3) (by kernel_rfl) (by kernel_rfl) (by kernel_rfl)⟩ (show lk 3 [(2, .pointer (some (⟨g2, 0, none⟩ : Addr))), (3, .int .i64 2)] = some (.int .i64 2) by kernel_rfl) ?_
     exact ⟨none, 0, none, 0, none, 0, rfl, hw.only 3⟩
    ·replace H := ite_f H (ff hc)
     have hb54 := hc
     rw [hb54] at hs
     refine wp_skip ?_
     replace hw := hw.up 4
     replace hw := hw.up 4
     replace hw := hw.up 4
     replace hw := hw.up 4
     replace hw := hw.up 4
     exact hJ2 _ _ hs.kx hw H
   refine go_region ?_
   refine go_pvs 1 [32] [(34, .slice (some ad32) t11.length cc15)] hs ?_; clear hs; intro a hs
   obtain ⟨hp43, H⟩ := ite_only H
   refine go_run hs (by rfl) (x_idx (T := 37) (sz := 1) (a := ad32) (n := t11.length) (cap := cc15) (k := .i64) (i := (1 : Int)) hp43) [34] ?_; clear hs; intro a hs
   refine go_run hs (by rfl) (x_ld (off := 0) (p := ad32.add (((1 : Int) : Int).toNat * 1)) (v := .int .u32 (ix (eI .u32).d t11 (1 : Int))) (Rd.of_own (hw.up 0)) hp43 rfl) [35] ?_; clear hs; intro a hs
   refine go_pvs 5 [36] [(38, .bool (decide ((ix (eI .u32).d t11 (1 : Int)) > 1024)))] hs ?_; clear hs; intro a hs
   cases hb44 : (decide ((ix (eI .u32).d t11 (1 : Int)) > 1024))
   ·replace H := ite_f H (of_decide_eq_false hb44)
    rw [hb44] at hs
    refine go_pvs 6 [] [(39, .slice (some ad32) t11.length cc15)] hs ?_; clear hs; intro a hs
    obtain ⟨hp45, H⟩ := ite_only H
    refine go_run hs (by rfl) (x_idx (T := 37) (sz := 1) (a := ad32) (n := t11.length) (cap := cc15) (k := .i64) (i := (3 : Int)) hp45) [39] ?_; clear hs; intro a hs
    refine go_run hs (by rfl) (x_ld (off := 0) (p := ad32.add (((3 : Int) : Int).toNat * 1)) (v := .int .u32 (ix (eI .u32).d t11 (3 : Int))) (Rd.of_own (hw.up 0)) hp45 rfl) [40] ?_; clear hs; intro a hs
    refine go_pvs 10 [38, 41] [(43, .bool (decide ((ix (eI .u32).d t11 (3 : Int)) > 64)))] hs ?_; clear hs; intro a hs
    refine go_end ?_
    replace hw := hw.up 4
    replace hw := hw.up 4
    replace hw := hw.up 4
    replace hw := hw.up 4
    replace hw := hw.up 4
    exact hJ1 (decide ((ix (eI .u32).d t11 (3 : Int)) > 64)) _ _ hs.kx hw H
   ·replace H := ite_t H (of_decide_eq_true hb44)
    rw [hb44] at hs
    refine go_pvs 10 [38] [(43, .bool true)] hs ?_; clear hs; intro a hs
    refine go_end ?_
    replace hw := hw.up 4
    replace hw := hw.up 4
    replace hw := hw.up 4
    replace hw := hw.up 4
    replace hw := hw.up 4
    exact hJ1 true _ _ hs.kx hw H

/-! rivet/rivetlaw10.shown: function 20 -/
noncomputable def rivetlaw10_shown.j1 (v60 : Bool) : Option Bool := some v60
noncomputable def rivetlaw10_shown : Option Bool := ((file_Put (⟨([7] : List Int), ([] : List Int), ([] : List Sapi_Sym)⟩ : Sapi_Obj)).bind fun ⟨t9, t10⟩ => (((file_Take t9).bind fun ⟨t19, t20⟩ => (((le_Put ([894847314, 1, 0, 0, 7] : List Int)).bind fun t49 => ((if ((strOfNums t9).toList == (strOfNums t49).toList) = true then (if (t9.length : Int) = 20 then (if t10 = 0 then (if (t19.Words.length : Int) = 1 then rivetlaw10_shown.j1 (t20 == 0) else rivetlaw10_shown.j1 false) else rivetlaw10_shown.j1 false) else rivetlaw10_shown.j1 false) else rivetlaw10_shown.j1 false)))))))
set_option maxRecDepth 100000 in
set_option maxHeartbeats 4000000 in
theorem rivetlaw10_shown.calls (r : Bool) (w0 : World) (H : rivetlaw10_shown = some r) :
    Calls Tryd.prog 20 #[] w0 fun e w' => e = .returned (.bool r) ∧ St [] w0 w' [] := by
 have hw : St [] w0 w0 [] := St.nil w0
 unfold rivetlaw10_shown at H
 refine go_fn Tryd.func20 rfl Tryd.ntmps20 ?_; intro a hs
 refine go_sp [] [] hs ?_; clear hs; intro a hs
 refine go_sk fun K2 hK2 => ?_
 obtain ⟨Aa3, cc4, wd5, hx6, hw⟩ := n_lit (P := Tryd.prog) (t := 22) (ty := 22) (T := 37) (len := 1) (parts := #[(0, (Operand.const (Value.int IntKind.u32 7)))]) (z := .int .u32 0) (bytes := 4) (cells := #[.int .u32 7]) hs hw (eI .u32) ([7] : List Int) (by kernel_rfl) (by kernel_rfl) (by kernel_rfl) (by kernel_rfl) (by kernel_rfl) (by kernel_rfl) (by kernel_rfl)
 refine go_run hs (by rfl) hx6 [] ?_; clear hs; intro a hs
 refine go_pvs 2 [6] [(7, .agg #[.slice Aa3 ([7] : List Int).length cc4, .slice none 0 0, .slice none 0 0])] hs ?_; clear hs; intro a hs
 obtain ⟨⟨t9, t10⟩, hx11, H⟩ := bind_some H
 refine go_call hs (by rfl) (file_Put.calls (⟨([7] : List Int), ([] : List Int), ([] : List Sapi_Sym)⟩ : Sapi_Obj) Aa3 cc4 none 0 none 0 (t9, t10) _ (Rd.of_own (hw.up 0)) (Rd.nil _ _) (Rd.nil _ _) hx11) ?_
 rintro e wd14 ⟨Aa12, cc13, rfl, hw15⟩
 refine ⟨_, rfl, ?_⟩
 replace hw := hw.call hw15
 clear hs; intro a hs; replace hs := hs.rms [7]
 refine go_pvs 8 [8] [(1, .slice Aa12 t9.length cc13), (2, .int .i64 t10)] hs ?_; clear hs; intro a hs
 refine go_end (hK2 _ _ ?_)
 refine go_sk fun K17 hK17 => ?_
 refine go_pvs 1 [] [(12, .slice Aa12 t9.length cc13)] hs ?_; clear hs; intro a hs
 obtain ⟨⟨t19, t20⟩, hx21, H⟩ := bind_some H
 refine go_call hs (by rfl) (file_Take.calls Aa12 cc13 t9 (t19, t20) _ (Rd.of_own (hw.up 0)) hx21) ?_
 rintro e wd28 ⟨Aa22, cc23, Aa24, cc25, Aa26, cc27, rfl, hw29⟩
 refine ⟨_, rfl, ?_⟩
 replace hw := hw.call hw29
 clear hs; intro a hs; replace hs := hs.rms [12]
 refine go_pvs 5 [13] [(14, .agg #[.slice Aa22 t19.Words.length cc23, .slice Aa24 t19.Sites.length cc25, .slice Aa26 t19.Syms.length cc27]), (15, .int .i64 t20)] hs ?_; clear hs; intro a hs
 obtain ⟨g33, wd34, hx35, hw⟩ := x_allocc (P := Tryd.prog) (elem := 26) (ty := 0) (z := .agg #[.slice none 0 0, .slice none 0 0, .slice none 0 0]) (cs := [.slice none 0 0, .slice none 0 0, .slice none 0 0]) hs hw (by kernel_rfl) (by kernel_rfl)
 refine go_run hs (by rfl) hx35 [] ?_; clear hs; intro a hs
 replace hw := St.own_nil hw 37 (eI .u32)
 replace hw := St.own_nil hw 3 (eI .i64)
 replace hw := St.own_nil hw 39 eSapi_Sym
 replace hw : St [] w0 wd34 [own 39 eSapi_Sym none 0 ([] : List Sapi_Sym), own 3 (eI .i64) none 0 ([] : List Int), own 37 (eI .u32) none 0 ([] : List Int), box g33 26 [.slice none ([] : List Int).length 0, .slice none ([] : List Int).length 0, .slice none ([] : List Sapi_Sym).length 0], own 37 (eI .u32) Aa22 cc23 t19.Words, own 3 (eI .i64) Aa24 cc25 t19.Sites, own 39 eSapi_Sym Aa26 cc27 t19.Syms, own 5 (eI .u8) Aa12 cc13 t9, own 37 (eI .u32) Aa3 cc4 ([7] : List Int)] := hw
 replace hw := hw.up 3
 obtain ⟨wd40, hx41, hw⟩ := x_bput (P := Tryd.prog) (ty := 0) (t := 26) (y := (Operand.tmp 3)) (z := (Operand.tmp 14)) (o := 0) (p := (⟨g33, 0, none⟩ : Addr)) (v := .agg #[.slice Aa22 t19.Words.length cc23, .slice Aa24 t19.Sites.length cc25, .slice Aa26 t19.Syms.length cc27]) (vs := [.slice Aa22 t19.Words.length cc23, .slice Aa24 t19.Sites.length cc25, .slice Aa26 t19.Syms.length cc27]) (cs' := [.slice Aa22 t19.Words.length cc23, .slice Aa24 t19.Sites.length cc25, .slice Aa26 t19.Syms.length cc27]) hs hw (by kernel_rfl) rfl (by kernel_rfl) rfl (by kernel_rfl) (by kernel_rfl) (by simp [Value.oneCell']) rfl
 refine go_unit hs (by rfl) hx41 [14] ?_; clear hs; intro a hs
 refine go_pvs 8 [15] [(4, .int .i64 t20)] hs ?_; clear hs; intro a hs
 refine go_end (hK17 _ _ ?_)
 refine go_seq_k fun K42 hK42 => ?_
 have hJ1 : ∀ (v60 : Bool) (a : Act) (w : World), Slots a 41 [(0, .bool v60)] → St [] w0 w [box g33 26 [.slice Aa22 t19.Words.length cc23, .slice Aa24 t19.Sites.length cc25, .slice Aa26 t19.Syms.length cc27], own 39 eSapi_Sym none 0 ([] : List Sapi_Sym), own 3 (eI .i64) none 0 ([] : List Int), own 37 (eI .u32) none 0 ([] : List Int), own 37 (eI .u32) Aa22 cc23 t19.Words, own 3 (eI .i64) Aa24 cc25 t19.Sites, own 39 eSapi_Sym Aa26 cc27 t19.Syms, own 5 (eI .u8) Aa12 cc13 t9, own 37 (eI .u32) Aa3 cc4 ([7] : List Int)] → rivetlaw10_shown.j1 v60 = some r → K42 a w := by
  intro v60 a w hs hw H
  unfold rivetlaw10_shown.j1 at H
  refine hK42 _ _ ?_
  refine wp_ret ?_
  obtain rfl := Option.some.inj H
  refine ret1 (t := 0) (v := .bool v60) hs (by kernel_rfl) (by kernel_rfl) ?_
  exact ⟨rfl, hw.only 0⟩
 refine d_region [] [(true, [0, 1], 2), (true, [], 3)] [4, 5, 6, 7, 8, 9, 10, 11, 12, 13, 14, 15, 16, 17, 18, 19, 20, 21, 22, 23, 24, 25] (by kernel_rfl) (by kernel_rfl) (fun c a d v w h => by cases d <;> exact h) ?_
 refine d_seg ?_
 refine c_pvs [0] [1] [] [(16, .slice Aa12 t9.length cc13)] hs ?_; clear hs; intro a hs
 refine d_run hs (by rfl) (fun wx hbx => (x_conv (e := 5) (l := t9) (Rd.bn (Rd.of_own (hw.up 7)) hbx) (by kernel_rfl) (by kernel_rfl) (by kernel_rfl) (by kernel_rfl))) [16] ?_; clear hs; intro a hs
 refine c_end ?_
 intro wq hbq
 replace hw := hw.behind hbq
 have hbc := Below.refl wq.heap.size wq
 obtain ⟨Aa43, cc44, wd45, hx46, hwn⟩ := n_lit (P := Tryd.prog) (t := 22) (ty := 22) (T := 37) (len := 5) (parts := #[(0, (Operand.const (Value.int IntKind.u32 894847314))), (1, (Operand.const (Value.int IntKind.u32 1))), (2, (Operand.const (Value.int IntKind.u32 0))), (3, (Operand.const (Value.int IntKind.u32 0))), (4, (Operand.const (Value.int IntKind.u32 7)))]) (z := .int .u32 0) (bytes := 4) (cells := #[.int .u32 894847314, .int .u32 1, .int .u32 0, .int .u32 0, .int .u32 7]) hs (nil_of hw) (eI .u32) ([894847314, 1, 0, 0, 7] : List Int) (by kernel_rfl) (by kernel_rfl) (by kernel_rfl) (by kernel_rfl) (by kernel_rfl) (by kernel_rfl) (by kernel_rfl)
 replace hbc := hwn.below
 replace hw := hw.call hwn
 clear hwn
 refine p_run hs (by rfl) hx46 [] ?_; clear hs; intro a hs
 refine c_done ⟨.inr (bn_of hbq hbc), ?_⟩
 clear hbc hbq
 refine d_seg ?_
 refine c_end ?_
 intro wq hbq
 replace hw := hw.behind hbq
 have hbc := Below.refl wq.heap.size wq
 obtain ⟨t49, hx50, H⟩ := bind_some H
 refine p_call hs (by rfl) (le_Put.calls Aa43 cc44 ([894847314, 1, 0, 0, 7] : List Int) t49 _ (Rd.of_own (hw.up 0)) hx50) ?_
 rintro e wd53 ⟨Aa51, cc52, rfl, hw54⟩
 refine ⟨_, rfl, ?_⟩
 replace hbc := hw54.below
 replace hw := hw.call hw54
 clear hs; intro a hs; replace hs := hs.rms [18]
 refine c_done ⟨.inr (bn_of hbq hbc), ?_⟩
 clear hbc hbq
 refine d_last ?_
 refine d_run hs (by rfl) (fun wx hbx => (x_conv (e := 5) (l := t49) (Rd.bn (Rd.of_own (hw.up 0)) hbx) (by kernel_rfl) (by kernel_rfl) (by kernel_rfl) (by kernel_rfl))) [19] ?_; clear hs; intro a hs
 refine c_pvs [5, 6] [7, 8, 9, 10, 11, 12, 13, 14, 15, 16, 17, 18, 19, 20, 21, 22, 23, 24, 25] [17, 20] [(22, .bool ((strOfNums t9).toList == (strOfNums t49).toList))] hs ?_; clear hs; intro a hs
 cases hb56 : ((strOfNums t9).toList == (strOfNums t49).toList)
 ·replace H := ite_f H (ff hb56)
  rw [hb56] at hs
  refine c_pvs [7, 8, 9, 10, 11, 12, 13, 14, 15, 16, 17, 18, 19, 20, 21, 22, 23, 24, 25] [] [1, 2, 3, 4, 22] [(0, .bool false)] hs ?_; clear hs; intro a hs
  refine c_end ?_
  intro wq hbq
  replace hw := hw.behind hbq
  replace hw := hw.up 10
  replace hw := hw.up 10
  replace hw := hw.up 10
  replace hw := hw.up 10
  replace hw := hw.up 10
  replace hw := hw.up 10
  replace hw := hw.up 10
  replace hw := hw.up 10
  replace hw := hw.up 10
  replace hw := hw.only 9
  exact hJ1 false _ _ hs.kx hw H
 ·replace H := ite_t H hb56
  rw [hb56] at hs
  refine c_pvs [7, 8, 9, 10, 11] [12, 13, 14, 15, 16, 17, 18, 19, 20, 21, 22, 23, 24, 25] [1, 22] [(27, .bool ((t9.length : Int) == 20))] hs ?_; clear hs; intro a hs
  cases hb57 : ((t9.length : Int) == 20)
  ·replace H := ite_f H (beq_eq_false_iff_ne.1 hb57)
   rw [hb57] at hs
   refine c_pvs [12, 13, 14, 15, 16, 17, 18, 19, 20, 21, 22, 23, 24, 25] [] [2, 3, 4, 27] [(0, .bool false)] hs ?_; clear hs; intro a hs
   refine c_end ?_
   intro wq hbq
   replace hw := hw.behind hbq
   replace hw := hw.up 10
   replace hw := hw.up 10
   replace hw := hw.up 10
   replace hw := hw.up 10
   replace hw := hw.up 10
   replace hw := hw.up 10
   replace hw := hw.up 10
   replace hw := hw.up 10
   replace hw := hw.up 10
   replace hw := hw.only 9
   exact hJ1 false _ _ hs.kx hw H
  ·replace H := ite_t H (beq_iff_eq.1 hb57)
   rw [hb57] at hs
   refine c_pvs [12, 13, 14, 15] [16, 17, 18, 19, 20, 21, 22, 23, 24, 25] [2, 27] [(31, .bool (t10 == 0))] hs ?_; clear hs; intro a hs
   cases hb58 : (t10 == 0)
   ·replace H := ite_f H (beq_eq_false_iff_ne.1 hb58)
    rw [hb58] at hs
    refine c_pvs [16, 17, 18, 19, 20, 21, 22, 23, 24, 25] [] [3, 4, 31] [(0, .bool false)] hs ?_; clear hs; intro a hs
    refine c_end ?_
    intro wq hbq
    replace hw := hw.behind hbq
    replace hw := hw.up 10
    replace hw := hw.up 10
    replace hw := hw.up 10
    replace hw := hw.up 10
    replace hw := hw.up 10
    replace hw := hw.up 10
    replace hw := hw.up 10
    replace hw := hw.up 10
    replace hw := hw.up 10
    replace hw := hw.only 9
    exact hJ1 false _ _ hs.kx hw H
   ·replace H := ite_t H (beq_iff_eq.1 hb58)
    rw [hb58] at hs
    refine c_pvs [16] [17, 18, 19, 20, 21, 22, 23, 24, 25] [3] [(32, .pointer (some (((⟨g33, 0, none⟩ : Addr) : Addr).add 0)))] hs ?_; clear hs; intro a hs
    refine d_run hs (by rfl) (fun wx hbx => (x_bldD (g := g33) (o := 0) (p := ((⟨g33, 0, none⟩ : Addr) : Addr).add 0) (v := .slice Aa22 t19.Words.length cc23) (hw.up 2) hbx)) [32] ?_; clear hs; intro a hs
    refine c_pvs [18, 19, 20, 21] [22, 23, 24, 25] [31, 33] [(37, .bool ((t19.Words.length : Int) == 1))] hs ?_; clear hs; intro a hs
    cases hb59 : ((t19.Words.length : Int) == 1)
    ·replace H := ite_f H (beq_eq_false_iff_ne.1 hb59)
     rw [hb59] at hs
     refine c_pvs [22, 23, 24, 25] [] [4, 37] [(0, .bool false)] hs ?_; clear hs; intro a hs
     refine c_end ?_
     intro wq hbq
     replace hw := hw.behind hbq
     replace hw := hw.up 10
     replace hw := hw.up 10
     replace hw := hw.up 10
     replace hw := hw.up 10
     replace hw := hw.up 10
     replace hw := hw.up 10
     replace hw := hw.up 10
     replace hw := hw.up 10
     replace hw := hw.up 10
     replace hw := hw.only 9
     exact hJ1 false _ _ hs.kx hw H
    ·replace H := ite_t H (beq_iff_eq.1 hb59)
     rw [hb59] at hs
     refine c_pvs [22, 23, 24, 25] [] [4, 37] [(0, .bool (t20 == 0))] hs ?_; clear hs; intro a hs
     refine c_end ?_
     intro wq hbq
     replace hw := hw.behind hbq
     replace hw := hw.up 10
     replace hw := hw.up 10
     replace hw := hw.up 10
     replace hw := hw.up 10
     replace hw := hw.up 10
     replace hw := hw.up 10
     replace hw := hw.up 10
     replace hw := hw.up 10
     replace hw := hw.up 10
     replace hw := hw.only 9
     exact hJ1 (t20 == 0) _ _ hs.kx hw H

end Go.Proofs.YtmfnololpfdfdaaDoor.T09
