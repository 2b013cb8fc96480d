/- The engine, the walk and the plain law, part 4. No condition. -/
import Derived.Test.YtlpiomnmaiddbaaGreatDoorM3
namespace Go.Proofs.YtlpiomnmaiddbaaGreatDoor.E
set_option linter.unusedVariables false
set_option linter.unusedSimpArgs false
open Go Go.RowKit
section
variable {X : Cx}
/-- What an append adds: the elements, and what is looked at. -/
def appY (X : Cx) (tx T : Nat) (y : Option AV) (H : HP X) : Option (List (X.τ T) × List Nat) := match y with
  | some (.o (.c (.sl o))) => match rowOf H o with
    | some ⟨S, l⟩ => match elOk X tx S with
      | true => match castT (F := fun T => List (X.τ T)) T l with
        | some l => some (l, fpOf H o)
        | none => none
      | false => none
    | none => none
  | some (.o (.c .nils)) => match elT X tx with
    | some _ => some ([], [])
    | none => none
  | some (.o (.c (.str s))) => match isStrT X tx with
    | true => match (X.ti T).ints with
      | some (.u8, f, _) => match Nat.beq (X.ti T).n 1 with
        | true => some (f (bytesL s), [])
        | false => none
      | _ => none
    | false => none
  | _ => none
theorem isStrT_ok {t : Nat} (h : isStrT X t = true) : X.P.underlying t = some .string := by
  unfold isStrT at h
  split at h
  · rename_i s hs
    split at h
    · rename_i hk
      exact (X.siOk hs).str hk
    · cases h
  · cases h
theorem appY_ok {tx T : Nat} {y : Option AV} {H HH : HP X} {l : List (X.τ T)} {fp : List Nat} (h : appY X tx T y H = some (l, fp)) {G : List Nat} {w0 w : World} {ρ : Rho} {Lo : List (Nat × AO X.τ)} {v : Value} (hv : ∀ av, y = some av → AR ρ av v)
    (hf : ∀ i ∈ fp, HH i = H i) (hr : RelL X G w0 ρ HH Lo w) : Src X.P (X.E T).sz tx v l.length (l.flatMap (X.E T).enc) w := by
  unfold appY at h
  split at h
  · rename_i o
    split at h
    · rename_i S l0 hrow
      split at h
      · rename_i hel
        obtain ⟨q1, q2⟩ := elOk_ok hel
        split at h
        · rename_i l' hl
          cases h
          obtain ⟨e, rfl⟩ := castT_ok hl
          subst e
          obtain ⟨L, k1, k2, k3, k4⟩ := hr.row ((rowOf_fp hf).trans hrow)
          obtain ⟨L', h1, h2⟩ := AR_sl (hv _ rfl)
          have : L = L' := Option.some.inj (k1.symm.trans h1)
          subst this
          rw [h2, ← k2]
          exact Src.of_rd q1 k4
        · cases h
      · cases h
    · cases h
  · split at h
    · rename_i S hS
      cases h
      obtain ⟨q1, q2⟩ := elT_ok hS
      rw [AR_nils (hv _ rfl)]
      exact Src.of_rd (E := X.E T) q1 (Rd.nil w (X.E T))
    · cases h
  · rename_i s
    split at h
    · rename_i hst
      split at h
      · rename_i f g hi
        split at h
        · rename_i hn
          cases h
          have hn := Nat.eq_of_beq_eq_true hn
          obtain ⟨h1, h2⟩ := ((X.ti T).hints _ _ _ hi).1 (bytesL s)
          rw [AR_str (hv _ rfl)]
          have := src_str (P := X.P) (w := w) (isStrT_ok hst) s
          rw [flat_u8] at this
          have e1 : (X.E T).sz = (eI .u8).sz := hn
          rw [e1, h1]
          have e2 : (f (bytesL s)).flatMap (X.E T).enc = (bytesL s).map (Value.int .u8) := h2
          rw [e2]
          exact this
        · cases h
      · cases h
    · cases h
  · cases h
def appF (X : Cx) (T fr : Nat) (l : List (X.τ T)) (del : List (Nat × Option (AO X.τ))) (fp : List Nat) (y : Option (List (X.τ T) × List Nat)) {R : Type} (k : Rs X → Option R) : Option R := match y with
  | some (l2, fp2) => match Nat.blt 0 (byT X T) with
    | true => if (l.length + l2.length) * byT X T ≤ 140737488355328 then k ⟨VC (.sl fr), del ++ [(fr, some (.own T 0 (l ++ l2)))], fp ++ fp2⟩ else none
    | false => none
  | none => none
def oApp (X : Cx) (t tx : Nat) (x y : Option AV) (H : HP X) (fr : Nat) {R : Type} (k : Rs X → Option R) : Option R := match x with
  | some (.o (.c (.sl o))) => match H o with
    | some (.own T v l) => match elOk X t T with
      | true => match zeroT X T with
        | some _ => appF X T fr l [(o, none)] [o] (appY X tx T y H) k
        | none => none
      | false => none
    | _ => none
  | some (.o (.c .nils)) => match elT X t with
    | some T => match zeroT X T with
      | some _ => appF X T fr [] [] [] (appY X tx T y H) k
      | none => none
    | none => none
  | _ => none
theorem oApp_ok {ev : Ev} {t tx : Nat} {x y : Operand} {H : HP X} {fr : Nat} {R : Type} {k : Rs X → Option R} {r : R} (h : oApp X t tx (ev x) (ev y) H fr k = some r) : ∃ rs, k rs = some r ∧ Sim X (.call { callee := .builtin .append, args := #[x, y], argTypes := #[t, tx] }) ev H fr rs := by
  unfold oApp at h
  split at h
  · rename_i o hx
    split at h
    · rename_i T v l ho
      split at h
      · rename_i hel
        obtain ⟨q1, q2⟩ := elOk_ok hel
        split at h
        · rename_i d hd
          obtain ⟨s, inf, z, z1, z2, z3, z4, z5⟩ := zeroT_ok hd
          unfold appF at h
          split at h
          · rename_i l2 fp2 hy
            split at h
            · rename_i hb
              split at h
              · rename_i hlim
                refine ⟨_, h, fun G w0 ρ HH Lo w e ty hop hf hr hfr => .inl ?_⟩
                have hop : OpsR ρ ev e [x, y] := hop
                have hby : byT X T = s.by_ := by unfold byT; rw [z1]
                have hb : 0 < byT X T := Nat.le_of_ble_eq_true hb
                have hsrc := appY_ok hy (v := e y) (fun av ha => hop.2.1 av ha) (fun i hi => hf i (List.mem_append_right _ hi)) hr
                obtain ⟨Lp, hp⟩ := hr.focus ((hf o (by simp)).trans ho)
                obtain ⟨L, k1, k2, k3, k4⟩ := asn_own hp.st
                obtain ⟨L', h1, h2⟩ := AR_sl (hop.1 _ hx)
                have : L = L' := Option.some.inj (k1.symm.trans h1)
                subst this
                rw [← k2] at h2
                obtain ⟨inf', j1, j2⟩ := Option.map_eq_some_iff.1 q2
                have : inf' = inf := Option.some.inj (j1.symm.trans z2)
                subst this
                have hmul : l.length + l2.length ≤ (l.length + l2.length) * byT X T := Nat.le_mul_of_pos_right _ hb
                obtain ⟨A', cap', w', r1, r2⟩ := x_append (P := X.P) (ev := e) (ty := ty) k4 q1 (z := z.cells.size |> fun _ => z) (bytes := byT X T) (by rw [z2]; simp only [Option.map_some, z3, j2, z4, hby]) (by rw [← Array.length_toList, z5]; exact (X.E T).len d) h2 rfl hsrc hlim (by omega)
                have hne : ρ fr = none := hfr fr (Nat.le_refl _) (by omega)
                have hd := hp.del
                have hd2 : St G w0 w' (own T (X.E T) A' cap' (l ++ l2) :: Lp.map fun p => asn X G w0 ρ (set1 HH o none) p.1 p.2) := by
                  have hh : HPle ρ HH (set1 HH o none) := fun q _ => by
                    by_cases e : q = o
                    · subst e; rw [set1_same]; exact .inr (.inl rfl)
                    · rw [set1_other _ _ e]; exact .inl rfl
                  exact St.monoL (As := [own T (X.E T) A' cap' (l ++ l2)]) (l := Lp) (f := fun p => asn X G w0 ρ HH p.1 p.2) (g := fun p => asn X G w0 ρ (set1 HH o none) p.1 p.2) (fun p _ L hL => asn.mono (Rho.le_refl ρ) hh hL) r2
                exact ⟨_, w', r1, _, _, setR_le hne, fun i hi => setR_dom hi, ⟨_, setR_same, rfl⟩, hd.newRow hne hd2⟩
              · cases h
            · cases h
          · cases h
        · cases h
      · cases h
    · cases h
  · rename_i hx
    split at h
    · rename_i T hT
      obtain ⟨q1, q2⟩ := elT_ok hT
      split at h
      · rename_i d hd
        obtain ⟨s, inf, z, z1, z2, z3, z4, z5⟩ := zeroT_ok hd
        unfold appF at h
        split at h
        · rename_i l2 fp2 hy
          split at h
          · rename_i hb
            split at h
            · rename_i hlim
              refine ⟨_, h, fun G w0 ρ HH Lo w e ty hop hf hr hfr => .inl ?_⟩
              have hop : OpsR ρ ev e [x, y] := hop
              have hby : byT X T = s.by_ := by unfold byT; rw [z1]
              have hb : 0 < byT X T := Nat.le_of_ble_eq_true hb
              have hsrc := appY_ok hy (v := e y) (fun av ha => hop.2.1 av ha) (fun i hi => hf i (List.mem_append_right _ hi)) hr
              have hxv := AR_nils (hop.1 _ hx)
              obtain ⟨inf', j1, j2⟩ := Option.map_eq_some_iff.1 q2
              have : inf' = inf := Option.some.inj (j1.symm.trans z2)
              subst this
              have hmul : l2.length ≤ l2.length * byT X T := Nat.le_mul_of_pos_right _ hb
              have hlim' : (([] : List (X.τ T)).length + l2.length) * byT X T ≤ 140737488355328 := hlim
              simp only [List.length_nil, Nat.zero_add] at hlim
              obtain ⟨A', cap', w', r1, r2⟩ := x_append (P := X.P) (ev := e) (ty := ty) (l := ([] : List (X.τ T))) (hr.st.own_nil T (X.E T)) q1 (z := z) (bytes := byT X T) (by rw [z2]; simp only [Option.map_some, z3, j2, z4, hby]) (by rw [← Array.length_toList, z5]; exact (X.E T).len d) hxv rfl hsrc hlim' (by simp only [List.length_nil]; omega)
              have hne : ρ fr = none := hfr fr (Nat.le_refl _) (by omega)
              exact ⟨_, w', r1, _, _, setR_le hne, fun i hi => setR_dom hi, ⟨_, setR_same, rfl⟩, hr.newRow hne r2⟩
            · cases h
          · cases h
        · cases h
      · cases h
    · cases h
  · cases h
end
end Go.Proofs.YtlpiomnmaiddbaaGreatDoor.E
namespace Go.Proofs.YtlpiomnmaiddbaaGreatDoor.E
set_option linter.unusedVariables false
set_option linter.unusedSimpArgs false
open Go Go.RowKit
section
variable {X : Cx} {fx0 : Rho}
def doApp (X : Cx) (xs : List Operand) (ts : List TypeId) (ev : Ev) (H : HP X) (fr : Nat) {R : Type} (k : Rs X → Option R) : Option R := match xs with
  | [x, y] => match ts with
    | [t, tx] => oApp X t tx (ev x) (ev y) H fr k
    | _ => none
  | _ => none
theorem doApp_ok {xs : Array Operand} {ts : Array TypeId} {ev : Ev} {H : HP X} {fr : Nat} {R : Type} {k : Rs X → Option R} {r : R} (h : doApp X xs.toList ts.toList ev H fr k = some r) : ∃ rs, k rs = some r ∧ Sim X (.call { callee := .builtin .append, args := xs, argTypes := ts }) ev H fr rs := by
  unfold doApp at h
  split at h
  · rename_i x y hx
    split at h
    · rename_i t tx ht
      have e1 : xs = #[x, y] := Array.ext' hx
      have e2 : ts = #[t, tx] := Array.ext' ht
      subst e1 e2
      exact oApp_ok h
    · cases h
  · cases h
def doNew (T : Ents X) (R : Type) (op : Op) (ev : Ev) (H : HP X) (fr : Nat) (k : Rs X → Option R) : Option R := match op with
  | .alloc t => oAlloc X t fr k
  | .box t x => oBox t (ev x) fr k
  | .makeSlice t x y => oMake X t (opEq x y) (ev x) fr k
  | .buildSlice t len ps => oLit X t len ps.toList ev fr k
  | .call c => match c.callee with
    | .builtin .append => doApp X c.args.toList c.argTypes.toList ev H fr k
    | _ => doAll T R (.call c) ev H fr k
  | op => doAll T R op ev H fr k
theorem doNew_ok {T : Ents X} {R : Type} {op : Op} {ev : Ev} {H : HP X} {fr : Nat} {k : Rs X → Option R} {r : R} (h : doNew T R op ev H fr k = some r) : ∃ rs, k rs = some r ∧ SimW X fx0 op ev H fr rs := by
  unfold doNew at h
  split at h
  · exact sk (oAlloc_ok h)
  · exact sk (oBox_ok h)
  · exact sk (oMake_ok h)
  · exact sk (oLit_ok h)
  · rename_i c
    split at h
    · rename_i hb
      obtain ⟨callee, args, argTypes⟩ := c
      have hb : callee = _ := hb
      subst hb
      exact sk (doApp_ok h)
    · exact doAll_ok h
  · exact doAll_ok h
def dv (T : Ents X) : Doer X := ⟨fun _ => none, doNew T, doNew_ok⟩
end
end Go.Proofs.YtlpiomnmaiddbaaGreatDoor.E
namespace Go.Proofs.YtlpiomnmaiddbaaGreatDoor.E
set_option linter.unusedVariables false
set_option linter.unusedSimpArgs false
open Go Go.RowKit
section
variable {X : Cx}
theorem ints_rd {T : Nat} {k : IntKind} {f : List Int → List (X.τ T)} {g : List (X.τ T) → List Int} (hi : (X.ti T).ints = some (k, f, g)) (hn : (X.ti T).n = 1) {w : World} {A : Option Addr} {cap : Nat} {l : List (X.τ T)} (h : Rd w (X.E T) A cap l) :
    Rd w (eI k) A cap (g l) ∧ (g l).length = l.length := by
  obtain ⟨h1, h2⟩ := ((X.ti T).hints _ _ _ hi).2 l
  refine ⟨⟨by rw [h1]; exact h.1, fun i y hy => ?_⟩, h1⟩
  have hlt : i < l.length := by
    have := (List.getElem?_eq_some_iff.1 hy).1
    omega
  have hx : l[i]? = some l[i] := List.getElem?_eq_getElem hlt
  obtain ⟨a, ha, hc⟩ := h.2 i _ hx
  refine ⟨a, ha, fun j u hj => ?_⟩
  have hsz : (X.E T).sz = 1 := hn
  have hf := flat_get (E := X.E T) hx (j := 0) (by rw [hsz]; exact Nat.one_pos)
  have h2 : l.flatMap (X.E T).enc = (g l).map (Value.int k) := h2
  rw [h2, hsz, List.getElem?_map, show i * 1 + 0 = i by omega, hy] at hf
  cases j with
  | succ j =>
    have hj : ([Value.int k y] : List Value)[j + 1]? = some u := hj
    simp at hj
  | zero =>
    have hj : ([Value.int k y] : List Value)[0]? = some u := hj
    have := hc 0 u (by rw [← hf]; exact hj)
    rw [hsz] at this
    exact this
def isU8 (X : Cx) (t : Nat) : Bool := match X.si t with
  | some s => match s.k with
    | .int .u8 => true
    | _ => false
  | none => false
/-- string(b). -/
def oStr (X : Cx) (s d : Nat) (x : Option AV) (H : HP X) {R : Type} (k : Rs X → Option R) : Option R := match isStrT X d with
  | true => match x with
    | some (.o (.c (.sl o))) => match rowOf H o with
      | some ⟨T, l⟩ => match elOk X s T && isU8 X T with
        | true => match (X.ti T).ints with
          | some (.u8, _, g) => match Nat.beq (X.ti T).n 1 with
            | true => k ⟨VC (.str (strOfNums (g l))), [], fpOf H o⟩
            | false => none
          | _ => none
        | false => none
      | none => none
    | _ => none
  | false => none
theorem oStr_ok {ev : Ev} {s d : Nat} {x : Operand} {H : HP X} {fr : Nat} {R : Type} {k : Rs X → Option R} {r : R} (h : oStr X s d (ev x) H k = some r) : ∃ rs, k rs = some r ∧ Sim X (.convert s d x) ev H fr rs := by
  unfold oStr at h
  split at h
  · rename_i hd
    split at h
    · rename_i o hx
      split at h
      · rename_i T l hrow
        split at h
        · rename_i hel
          rw [Bool.and_eq_true] at hel
          obtain ⟨q1, q2⟩ := elOk_ok hel.1
          split at h
          · rename_i f g hi
            split at h
            · rename_i hn
              refine ⟨_, h, Sim.read fun G w0 ρ HH Lo w e ty hop hf hr => ?_⟩
              have hop : OpsR ρ ev e [x] := hop
              obtain ⟨L, k1, k2, k3, k4⟩ := hr.row ((rowOf_fp hf).trans hrow)
              obtain ⟨L', h1, h2⟩ := AR_sl (hop.1 _ hx)
              have : L = L' := Option.some.inj (k1.symm.trans h1)
              subst this
              obtain ⟨g1, g2⟩ := ints_rd hi (Nat.eq_of_beq_eq_true hn) k4
              have hu : X.P.underlying T = some (.int .u8) := by
                have hu8 := hel.2
                unfold isU8 at hu8
                split at hu8
                · rename_i si hsi
                  split at hu8
                  · rename_i hk
                    exact (X.siOk hsi).int hk
                  · cases hu8
                · cases hu8
              exact ⟨_, x_conv (P := X.P) (ty := ty) g1 q1 hu (isStrT_ok hd) (by rw [h2, g2, k2]), rfl⟩
            · cases h
          · cases h
        · cases h
      · cases h
    · cases h
  · cases h
end
end Go.Proofs.YtlpiomnmaiddbaaGreatDoor.E
namespace Go.Proofs.YtlpiomnmaiddbaaGreatDoor.E
set_option linter.unusedVariables false
set_option linter.unusedSimpArgs false
open Go Go.RowKit
section
variable {X : Cx} {fx0 : Rho}
def doCv (T : Ents X) (R : Type) (op : Op) (ev : Ev) (H : HP X) (fr : Nat) (k : Rs X → Option R) : Option R := match op with
  | .convert s d x => match isStrT X d && isRowT X s with
    | true => oStr X s d (ev x) H k
    | false => doNew T R (.convert s d x) ev H fr k
  | op => doNew T R op ev H fr k
theorem doCv_ok {T : Ents X} {R : Type} {op : Op} {ev : Ev} {H : HP X} {fr : Nat} {k : Rs X → Option R} {r : R} (h : doCv T R op ev H fr k = some r) : ∃ rs, k rs = some r ∧ SimW X fx0 op ev H fr rs := by
  unfold doCv at h
  split at h
  · split at h
    · exact sk (oStr_ok h)
    · exact doNew_ok h
  · exact doNew_ok h
def dw (T : Ents X) : Doer X := ⟨fun _ => none, doCv T, doCv_ok⟩
end
end Go.Proofs.YtlpiomnmaiddbaaGreatDoor.E
namespace Go.Proofs.YtlpiomnmaiddbaaGreatDoor.E
set_option linter.unusedVariables false
set_option linter.unusedSimpArgs false
open Go Go.RowKit
section
variable {P : Program} {G : List Nat} {w0 w : World} {As : List Asn}
/-- What is copied at a place. -/
def cpy (l : List Int) (lo : Nat) (q : List Int) : List Int := l.take lo ++ (q ++ l.drop (lo + q.length))
theorem cpy_len {l : List Int} {lo : Nat} {q : List Int} (h : lo + q.length ≤ l.length) : (cpy l lo q).length = l.length := by
  unfold cpy
  simp only [List.length_append, List.length_take, List.length_drop]
  omega
theorem run_copy {e : Operand → Value} {dT sT : TypeId} {y z : Operand} {ty : TypeId} {u : Value} {w w' : World} {a b : Value} (hx : e y = a) (hz : e z = b) (h : (Builtin.copy_ #[dT, sT] ty #[a, b]).run P w = .ok u w') :
    (execOp e (mkO (.call { callee := .builtin .copy, args := #[y, z], argTypes := #[dT, sT] }) ty)).run P w = .ok (.value u) w' := by
  unfold execOp mkO
  simp only [resolve, invoke, builtin, Sem.run_bind, Sem.run_pure, Result.andThen_ok, List.map_toArray, List.map_cons, List.map_nil, hx, hz, h]
theorem copy_str {dT sT e : TypeId} {ty : TypeId} {A' : Option Addr} {len dcap : Nat} {s : ByteArray} (ht : P.underlying dT = some (.slice e)) (hs : (P.info? e).map (·.size) = some 1) :
    (Builtin.copy_ #[dT, sT] ty #[.slice A' len dcap, .string s]).run P w = ((stA A' (((bytesL s).take len).map (Value.int .u8))).run P w).andThen fun _ w' => .ok (.int .i64 (((bytesL s).take len).length : Int)) w' := by
  obtain ⟨inf, hi, hsz⟩ := Option.map_eq_some_iff.1 hs
  have hmin : Nat.min s.size len = ((bytesL s).take len).length := by
    rw [List.length_take, bytesL_length]; exact Nat.min_comm _ _
  have hcells : ((s.extract 0 ((bytesL s).take len).length).data.map fun b => (Value.int .u8 b.toNat)).toList = ((bytesL s).take len).map (Value.int .u8) := by
    rw [bytesL_cells, List.length_take]
    congr 1
    rw [List.take_eq_take_iff]
    omega
  rw [← hcells]
  generalize ((bytesL s).take len).length = n at hmin
  subst hmin
  cases A' with
  | none => simp only [Builtin.copy_, run_underlying ht, Builtin.lenOf, sizeOf, typeInfo, Builtin.firstCells, goInt, stA, Sem.run_bind, Sem.run_pure, Result.andThen_ok, List.getElem?_toArray, List.getElem?_cons_zero, List.getElem?_cons_succ]; simp [hi, hsz, Result.andThen]
  | some q => simp only [Builtin.copy_, run_underlying ht, Builtin.lenOf, sizeOf, typeInfo, Builtin.firstCells, goInt, stA, Sem.run_bind, Sem.run_pure, Result.andThen_ok, List.getElem?_toArray, List.getElem?_cons_zero, List.getElem?_cons_succ]; simp [hi, hsz, Result.andThen]
theorem copy_row {dT sT e : TypeId} {ty : TypeId} {A' A2 : Option Addr} {len dcap c2 : Nat} {k : IntKind} {l2 : List Int} (ht : P.underlying dT = some (.slice e)) (hs : (P.info? e).map (·.size) = some 1) (hr : Rd w (eI k) A2 c2 l2) :
    (Builtin.copy_ #[dT, sT] ty #[.slice A' len dcap, .slice A2 l2.length c2]).run P w = ((stA A' ((l2.take len).map (Value.int k))).run P w).andThen fun _ w' => .ok (.int .i64 ((l2.take len).length : Int)) w' := by
  have hmin : Nat.min l2.length len = (l2.take len).length := by rw [List.length_take]; exact Nat.min_comm _ _
  obtain ⟨inf, hi, hsz⟩ := Option.map_eq_some_iff.1 hs
  have hcells : (Builtin.firstCells 1 (l2.take len).length (.slice A2 l2.length c2)).run P w = .ok ((l2.take len).map (Value.int k)).toArray w := by
    rcases hr with ⟨_, hrd⟩
    cases hl : l2.take len with
    | nil =>
      cases A2 with
      | none => simp [Builtin.firstCells]
      | some b => simp [Builtin.firstCells, loadCells, loadCellsFrom]
    | cons q qs =>
      have h0 : ∃ b, A2 = some b := by
        cases l2 with
        | nil => simp at hl
        | cons q' r => obtain ⟨b, hb, _⟩ := hrd 0 q' rfl; exact ⟨b, hb⟩
      obtain ⟨b, rfl⟩ := h0
      rw [← hl]
      refine run_firstCells_some w 1 (l2.take len).length b l2.length c2 _ (by simp) fun j u hj => ?_
      rw [List.getElem?_map] at hj
      obtain ⟨z', hz', rfl⟩ := Option.map_eq_some_iff.1 hj
      rw [List.getElem?_take] at hz'
      split at hz'
      · obtain ⟨b', hb', hc'⟩ := hrd j z' hz'
        cases hb'
        have := hc' 0 (.int k z') rfl
        simpa [eI] using this
      · cases hz'
  generalize l2.take len = q2 at hmin hcells ⊢
  cases A' with
  | none => simp [Builtin.copy_, run_underlying ht, Builtin.lenOf, hmin, sizeOf, typeInfo, hi, hsz, hcells, goInt, stA]
  | some q => simp [Builtin.copy_, run_underlying ht, Builtin.lenOf, hmin, sizeOf, typeInfo, hi, hsz, hcells, goInt, stA]
/-- Cells stored into a variable. -/
theorem St.put_box {g : Nat} {T : TypeId} {vs us : List Value} {off : Nat} {A' : Option Addr} (hst : St G w0 w (box g T vs :: As)) (h1 : off + us.length ≤ vs.length) (hA : us ≠ [] → A' = some ⟨g, off, none⟩) (ho : ∀ u ∈ us, u.oneCell' = true) :
    ∃ w', (stA A' us).run P w = .ok () w' ∧ St G w0 w' (box g T (vs.take off ++ us ++ vs.drop (off + us.length)) :: As) := by
  by_cases hu : us = []
  · subst hu
    refine ⟨w, ?_, ?_⟩
    · cases A' with
      | none => simp [stA]
      | some q => simp [stA, storeCells]
    · simpa using hst
  · rw [hA hu]
    have hst' := run_storeCells_at P g off T us 0 vs.toArray w hst.heap (by simpa using h1) ho
    simp only [Nat.add_zero] at hst'
    exact ⟨_, hst', hst.setRow _⟩
/-- Numbers stored into a row of the call's own. -/
theorem St.put_row {T : TypeId} {k : IntKind} {A A' : Option Addr} {cap lo : Nat} {l q : List Int} (hst : St G w0 w (own T (eI k) A cap l :: As)) (h1 : lo + q.length ≤ l.length) (hA : q ≠ [] → ∃ a, A = some a ∧ A' = some (a.add lo)) :
    ∃ w', (stA A' (q.map (Value.int k))).run P w = .ok () w' ∧ St G w0 w' (own T (eI k) A cap (cpy l lo q) :: As) := by
  by_cases hq : q = []
  · subst hq
    refine ⟨w, ?_, ?_⟩
    · cases A' with
      | none => simp [stA]
      | some q => simp [stA, storeCells]
    · have : cpy l lo [] = l := by unfold cpy; simp
      rw [this]; exact hst
  · obtain ⟨a, ha, hA⟩ := hA hq
    subst hA
    obtain ⟨LL, ⟨L1, L2, rfl, hown, hr'⟩, hs'⟩ := hst
    rcases hown with ⟨rfl, _, _, _⟩ | ⟨g, b0, cur, hg, h2, h3, h4, h5, rfl⟩
    · cases ha
    · rw [ha] at hg
      cases hg
      have hh : w.heap[g]? = some (.cells cur T (0, 0)) := hs'.here (g, .cells cur T (0, 0)) (by simp)
      have hsz1 : (eI k).sz = 1 := rfl
      rw [hsz1, Nat.mul_one] at h4 h5
      rw [flat_eI] at h5
      have hcl : b0 + cap ≤ cur.toList.length := by rw [Array.length_toList]; exact h4
      have hst' := run_storeCells_at P g (b0 + lo) T (q.map (Value.int k)) 0 cur w hh (by simp only [List.length_map]; omega) (fun u hu => by
        obtain ⟨q, _, rfl⟩ := List.mem_map.1 hu; rfl)
      simp only [Nat.add_zero, List.length_map] at hst'
      rw [badd g b0 lo]
      refine ⟨_, hst', _, ⟨[_], L2, rfl, .inr ⟨g, b0, _, ha, by rw [cpy_len h1]; exact h2, h3, ?_, ?_, rfl⟩, hr'⟩, hs'.setRow⟩
      · simp only [List.size_toArray, List.length_append, List.length_take, List.length_drop, List.length_map, hsz1]
        omega
      · rw [cpy_len h1, hsz1, Nat.mul_one, flat_eI]
        unfold cpy
        simp only [List.map_append, List.map_take, List.map_drop]
        have t2 : (q.map (Value.int k)).length = q.length := List.length_map ..
        have := row_put (vs := q.map (Value.int k)) (p := lo) h5 (by omega) (by omega)
        rw [t2, List.append_assoc (List.take lo _)] at this
        exact this
end
section
variable {X : Cx}
theorem own_to {T : Nat} {k : IntKind} {f : List Int → List (X.τ T)} {g : List (X.τ T) → List Int} (hi : (X.ti T).ints = some (k, f, g)) (hn : (X.ti T).n = 1) {A : Option Addr} {cap : Nat} {l : List (X.τ T)} {L : BL} (h : own T (X.E T) A cap l L) : own T (eI k) A cap (g l) L := by
  obtain ⟨h1, h2⟩ := ((X.ti T).hints _ _ _ hi).2 l
  rcases h with ⟨a, b, c, d⟩ | ⟨b, b0, cur, e1, e2, e3, e4, e5, e6⟩
  · subst c
    have : g [] = [] := List.eq_nil_of_length_eq_zero h1
    exact .inl ⟨a, b, this, d⟩
  · have hsz : (X.E T).sz = 1 := hn
    rw [hsz] at e4 e5
    refine .inr ⟨b, b0, cur, e1, by rw [h1]; exact e2, e3, e4, ?_, e6⟩
    have h2 : l.flatMap (X.E T).enc = (g l).map (Value.int k) := h2
    rw [h1, flat_eI, ← h2]
    exact e5
theorem own_from {T : Nat} {k : IntKind} {f : List Int → List (X.τ T)} {g : List (X.τ T) → List Int} (hi : (X.ti T).ints = some (k, f, g)) (hn : (X.ti T).n = 1) {A : Option Addr} {cap : Nat} {l : List Int} {L : BL} (h : own T (eI k) A cap l L) : own T (X.E T) A cap (f l) L := by
  obtain ⟨h1, h2⟩ := ((X.ti T).hints _ _ _ hi).1 l
  rcases h with ⟨a, b, c, d⟩ | ⟨b, b0, cur, e1, e2, e3, e4, e5, e6⟩
  · subst c
    have : f [] = [] := List.eq_nil_of_length_eq_zero h1
    exact .inl ⟨a, b, this, d⟩
  · have hsz : (X.E T).sz = 1 := hn
    refine .inr ⟨b, b0, cur, e1, by rw [h1]; exact e2, e3, by rw [hsz]; exact e4, ?_, e6⟩
    have h2 : (f l).flatMap (X.E T).enc = l.map (Value.int k) := h2
    rw [hsz, h1, h2, ← flat_eI (k := k)]
    exact e5
theorem rd_ints {T : Nat} {k : IntKind} {f : List Int → List (X.τ T)} {g : List (X.τ T) → List Int} (hi : (X.ti T).ints = some (k, f, g)) (hn : (X.ti T).n = 1) {w : World} {A : Option Addr} {cap : Nat} {l : List Int} (h : Rd w (eI k) A cap l) :
    Rd w (X.E T) A cap (f l) ∧ (f l).length = l.length := by
  obtain ⟨h1, h2⟩ := ((X.ti T).hints _ _ _ hi).1 l
  refine ⟨⟨by rw [h1]; exact h.1, fun i y hy => ?_⟩, h1⟩
  have hlt : i < l.length := by
    have := (List.getElem?_eq_some_iff.1 hy).1
    omega
  have hx : l[i]? = some l[i] := List.getElem?_eq_getElem hlt
  obtain ⟨a, ha, hc⟩ := h.2 i _ hx
  refine ⟨a, ha, fun j u hj => ?_⟩
  have hsz : (X.E T).sz = 1 := hn
  have hjl : j < 1 := by
    have := (List.getElem?_eq_some_iff.1 hj).1
    rw [(X.E T).len, hsz] at this
    exact this
  have hf := flat_get (E := X.E T) hy (j := j) (by rw [hsz]; exact hjl)
  have h2 : (f l).flatMap (X.E T).enc = l.map (Value.int k) := h2
  rw [h2, hsz, List.getElem?_map, show i * 1 + j = i by omega, hx, hj] at hf
  have hf : Value.int k l[i] = u := Option.some.inj hf
  subst hf
  rw [hsz, show i * 1 + j = i * 1 + 0 by omega]
  exact hc 0 _ rfl
/-- Bounds of a cut. -/
def cutI (d : Int) : Option (Option AV) → Option Int
  | none => some d
  | some (some (.o (.c (.int _ n)))) => some n
  | _ => none
theorem cutI_ok {ρ : Rho} {ev : Ev} {e : Operand → Value} {d n : Int} : ∀ {o : Option Operand}, cutI d (o.map ev) = some n → (∀ x, o = some x → ∀ av, ev x = some av → AR ρ av (e x)) → (∃ z k', o = some z ∧ e z = .int k' n) ∨ o = none ∧ n = d
  | none, h, _ => .inr ⟨rfl, (Option.some.inj h).symm⟩
  | some x, h, hx => by
    have h : cutI d (some (ev x)) = some n := h
    unfold cutI at h
    split at h
    · rename_i e0; cases e0
    · rename_i k m e0
      have e0 : ev x = some (.o (.c (.int k m))) := Option.some.inj e0
      cases h
      exact .inl ⟨x, k, rfl, AR_int (hx x rfl _ e0)⟩
    · cases h
def encOf (vs : List Value) (h : 0 < vs.length) (ho : ∀ u ∈ vs, u.oneCell' = true) : Enc Unit := ⟨vs.length, fun _ => vs, (), h, fun _ => rfl, fun _ u hu => ho u hu⟩
/-- A cut of an array in a variable. -/
def oVCut (X : Cx) (t : Nat) (x : Option AV) (lo hi : Option (Option AV)) (H : HP X) (fr : Nat) {R : Type} (k : Rs X → Option R) : Option R := match x with
  | some (.o (.c (.pt o (.ofNat 0) off none))) => match H o with
    | some (.var Tv v cs) => match X.si t with
      | some s => match s.k with
        | .arr n e => match dropC cs off with
          | some (.vec kd m vv :: _) => match (X.ti e).ints with
            | some (kd', f, _) => match kEq kd kd' && Nat.beq n m && Nat.blt 0 n && Nat.beq (X.ti e).n 1 && (match X.si e with
                | some se => Nat.beq se.sz 1
                | none => false) with
              | true => match cutI 0 lo with
                | some a => match cutI (n : Int) hi with
                  | some b => if 0 ≤ a ∧ a ≤ b ∧ b ≤ (n : Int) then k ⟨VC (.sl fr), [(fr, some (.vw o v (some (off, a.toNat)) e (f ((vv.toList.take b.toNat).drop a.toNat))))], [o]⟩ else none
                  | none => none
                | none => none
              | false => none
            | none => none
          | _ => none
        | _ => none
      | none => none
    | _ => none
  | _ => none
theorem oVCut_ok {ev : Ev} {t : Nat} {x : Operand} {lo hi : Option Operand} {H : HP X} {fr : Nat} {R : Type} {k : Rs X → Option R} {r : R} (h : oVCut X t (ev x) (lo.map ev) (hi.map ev) H fr k = some r) : ∃ rs, k rs = some r ∧ Sim X (.slice t x lo hi none) ev H fr rs := by
  unfold oVCut at h
  split at h
  · rename_i o off hx
    split at h
    · rename_i Tv v cs ho
      split at h
      · rename_i s hs
        split at h
        · rename_i n e hk
          split at h
          · rename_i kd m vv rest hd
            split at h
            · rename_i kd' f g hint
              split at h
              · rename_i hb
                split at h
                · rename_i a ha
                  split at h
                  · rename_i b hbb
                    split at h
                    · rename_i hbd
                      rw [Bool.and_eq_true, Bool.and_eq_true, Bool.and_eq_true, Bool.and_eq_true] at hb
                      obtain ⟨⟨⟨⟨b1, b2⟩, b3⟩, b4⟩, b5⟩ := hb
                      have b1 := kEq_ok b1
                      have b2 := Nat.eq_of_beq_eq_true b2
                      subst b1 b2
                      have b3 : 0 < n := by simpa [Nat.blt_eq] using b3
                      have b4 := Nat.eq_of_beq_eq_true b4
                      split at b5
                      · rename_i se hse
                        have b5 := Nat.eq_of_beq_eq_true b5
                        have hsz : (X.P.info? e).map (·.size) = some 1 := by rw [(X.siOk hse).size, b5]
                        have ht := (X.siOk hs).arr hk
                        refine ⟨_, h, fun G w0 ρ HH Lo w ee ty hop hf hr hfr => .inl ?_⟩
                        have hHH := (hf o (by simp)).trans ho
                        obtain ⟨L, g0, vs, k1, k2, k3, k4, k5⟩ := hr.var_rx hHH
                        have hopx : ∀ z, z ∈ (Op.slice t x lo hi none).operands.toList → ∀ av, ev z = some av → AR ρ av (ee z) := by
                          have : ∀ {l : List Operand}, OpsR ρ ev ee l → ∀ z ∈ l, ∀ av, ev z = some av → AR ρ av (ee z) := by
                            intro l
                            induction l with
                            | nil => intro _ z hz; cases hz
                            | cons y r ih =>
                              intro h z hz
                              rcases List.mem_cons.1 hz with rfl | hz
                              · exact h.1
                              · exact ih h.2 z hz
                          exact this hop
                        have hmx : x ∈ (Op.slice t x lo hi none).operands.toList := by simp [Op.operands]
                        obtain ⟨L', A, p1, p2, p3, p4, p5⟩ := AR_pt (hopx x hmx _ hx)
                        have : L = L' := Option.some.inj (k1.symm.trans p1)
                        subst this
                        rw [k2] at p2
                        cases p2
                        obtain ⟨d1, d2⟩ := dropC_ok k4 hd
                        obtain ⟨va, vb, d3, d4, d5⟩ := d1
                        have d4 : va = vv.toList.map (Value.int kd) := d4
                        have hvs : vs = vs.take off ++ vv.toList.map (Value.int kd) ++ vb := by
                          rw [List.append_assoc, ← d4, ← d3, List.take_append_drop]
                        have hpos : 0 < vs.length := by
                          rw [hvs]
                          simp only [List.length_append, List.length_map, Vector.length_toList]
                          omega
                        have hpt : ee x = .pointer (some (Addr.add ⟨g0, 0, none⟩ ((0 : Int).toNat * (encOf vs hpos k4.ones).sz + off))) := by
                          rw [p5, k3.2]
                          simp [jn]
                        obtain ⟨A', cap', c1, c2, c3, c4⟩ := x_vcut (P := X.P) (E := encOf vs hpos k4.ones) (x := ()) (ev := ee) (ty := ty) (lo := lo) (hi := hi) ht hsz hpt rfl (cutI_ok ha fun y hy => hopx y (by subst hy; simp [Op.operands])) (cutI_ok hbb fun y hy => hopx y (by subst hy; cases lo <;> simp [Op.operands])) hbd.1 hbd.2.1 hbd.2.2 hvs (by rw [List.length_take]; omega)
                        have hne : ρ fr = none := hfr fr (Nat.le_refl _) (by omega)
                        have hHn : HH fr = none := by
                          cases e1 : HH fr with
                          | none => rfl
                          | some y => obtain ⟨L2, h2⟩ := hr.dom e1; rw [hne] at h2; cases h2
                        obtain ⟨q1, q2⟩ := ((X.ti e).hints _ _ _ hint).1 ((vv.toList.take b.toNat).drop a.toNat)
                        refine ⟨_, w, c1 w, setR ρ fr ⟨A', cap', ((vv.toList.take b.toNat).drop a.toNat).length, (X.E e).sz⟩, (fr, .vw o v (some (off, a.toNat)) e (f ((vv.toList.take b.toNat).drop a.toNat))) :: Lo, setR_le hne, fun i hi => setR_dom hi, ⟨_, setR_same, rfl⟩, ?_⟩
                        refine hr.add hne hHn (hr.st.emp ?_)
                        refine ⟨rfl, _, setR_same, q1, rfl, ?_⟩
                        have hhp : HPle ρ HH (set1 HH fr (some (.vw o v (some (off, a.toNat)) e (f ((vv.toList.take b.toNat).drop a.toNat))))) := fun q hq => by
                          by_cases e1 : q = fr
                          · subst e1; exact absurd hne hq
                          · rw [set1_other _ _ e1]; exact .inl rfl
                        refine VwF.mono (ρ := ρ) (H := HH) ?_ (setR_le hne) hhp
                        refine ⟨⟨L, k1, fun o1 lo1 e1 hl => ?_⟩, fun y n1 b1 hy hv => ?_, fun Lp Tp lp _ hy => ?_, fun Lp Tp lp _ hy => ?_, fun y hy => ?_, fun Lp Tp cs' _ hy => ?_, fun Lp Tp cs' _ hy => ?_⟩
                        · cases e1
                          refine ⟨_, k2, c3 ?_⟩
                          rw [← q1]
                          exact List.length_pos_iff.2 hl
                        · rw [hHH] at hy; cases hy; cases hv; exact ⟨Nat.le_refl _, fun _ => rfl⟩
                        · rw [hHH] at hy; cases hy
                        · rw [hHH] at hy; cases hy
                        · rw [hHH] at hy; cases hy; exact ⟨fun T y h => (by cases h), fun T y h => (by cases h)⟩
                        · rw [hHH] at hy
                          cases hy
                          refine ⟨vs, k4, fun g' w' e1 hrx => ?_⟩
                          rename_i hLp
                          have : L = Lp := Option.some.inj (k1.symm.trans hLp)
                          subst this
                          rw [k2] at e1
                          cases e1
                          refine (rd_ints hint b4 (c2 w' ⟨Nat.le_refl _, fun i y hi' => ?_⟩)).1
                          have : i = 0 := by
                            have := (List.getElem?_eq_some_iff.1 hi').1
                            simp at this
                            exact this
                          subst this
                          refine ⟨_, rfl, fun j u hj => ?_⟩
                          rw [Nat.zero_mul, Nat.zero_add, add_zero_addr]
                          exact hrx j u hj
                        · rw [hHH] at hy; cases hy
                      · cases b5
                    · cases h
                  · cases h
                · cases h
              · cases h
            · cases h
          · cases h
        · cases h
      · cases h
    · cases h
  · cases h
end
end Go.Proofs.YtlpiomnmaiddbaaGreatDoor.E
namespace Go.Proofs.YtlpiomnmaiddbaaGreatDoor.E
set_option linter.unusedVariables false
set_option linter.unusedSimpArgs false
open Go Go.RowKit
section
variable {X : Cx} {fx0 : Rho}
/-- What is copied: numbers of a row, or bytes of a string. -/
def srcL (X : Cx) (z : Option AV) (H : HP X) : Option (IntKind × List Int × List Nat) := match z with
  | some (.o (.c (.str s))) => some (.u8, bytesL s, [])
  | some (.o (.c (.sl o))) => match rowOf H o with
    | some ⟨T, l⟩ => match (X.ti T).ints with
      | some (k, _, g) => match Nat.beq (X.ti T).n 1 with
        | true => some (k, g l, fpOf H o)
        | false => none
      | none => none
    | none => none
  | _ => none
theorem srcL_ok {z : Option AV} {H HH : HP X} {k : IntKind} {q : List Int} {fp : List Nat} (h : srcL X z H = some (k, q, fp)) {G : List Nat} {w0 w : World} {ρ : Rho} {Lo : List (Nat × AO X.τ)} {v : Value} (hv : ∀ av, z = some av → AR ρ av v) (hf : ∀ i ∈ fp, HH i = H i) (hr : RelL X G w0 ρ HH Lo w)
    {dT sT e : TypeId} {ty : TypeId} {A' : Option Addr} {len dcap : Nat} (ht : X.P.underlying dT = some (.slice e)) (hs : (X.P.info? e).map (·.size) = some 1) :
    (Builtin.copy_ #[dT, sT] ty #[.slice A' len dcap, v]).run X.P w = ((stA A' ((q.take len).map (Value.int k))).run X.P w).andThen fun _ w' => .ok (.int .i64 ((q.take len).length : Int)) w' := by
  unfold srcL at h
  split at h
  · rename_i s
    cases h
    have : v = .string s := AR_str (hv _ rfl)
    subst this
    exact copy_str ht hs
  · rename_i o
    split at h
    · rename_i T l hrow
      split at h
      · rename_i k' f g hi
        split at h
        · rename_i hn
          cases h
          obtain ⟨L, k1, k2, k3, k4⟩ := hr.row ((rowOf_fp hf).trans hrow)
          obtain ⟨L', h1, h2⟩ := AR_sl (hv _ rfl)
          have : L = L' := Option.some.inj (k1.symm.trans h1)
          subst this
          obtain ⟨g1, g2⟩ := ints_rd hi (Nat.eq_of_beq_eq_true hn) k4
          rw [h2, ← k2, ← g2]
          exact copy_row ht hs g1
        · cases h
      · cases h
    · cases h
  · cases h
def sz1 (X : Cx) (t T : Nat) : Bool := elOk X t T && Nat.beq (X.ti T).n 1
theorem sz1_ok {t T : Nat} (h : sz1 X t T = true) : X.P.underlying t = some (.slice T) ∧ (X.P.info? T).map (·.size) = some 1 ∧ (X.ti T).n = 1 := by
  unfold sz1 at h
  rw [Bool.and_eq_true] at h
  obtain ⟨q1, q2⟩ := elOk_ok h.1
  have := Nat.eq_of_beq_eq_true h.2
  exact ⟨q1, by rw [q2]; exact congrArg some this, this⟩
def oCopy (X : Cx) (dT : Nat) (y z : Option AV) (H : HP X) {R : Type} (k : Rs X → Option R) : Option R := match srcL X z H with
  | some (kd, q, fp) => match y with
    | some (.o (.c (.sl o))) => match H o with
      | some (.own T v l) => match (X.ti T).ints with
        | some (kd', f, g) => match kEq kd kd' && sz1 X dT T with
          | true => k ⟨VI .i64 ((q.take l.length).length : Int), [(o, some (.own T (v + 1) (f (cpy (g l) 0 (q.take l.length)))))], o :: fp⟩
          | false => none
        | none => none
      | some (.vw p v (some (off, lo)) T l) => match H p with
        | some (.own Tp v' lp) => match (X.ti Tp).ints with
          | some (kd', f, g) => match kEq kd kd' && sz1 X dT Tp && Nat.beq v v' && Nat.beq T Tp with
            | true => if off + lo + l.length ≤ lp.length then k ⟨VI .i64 ((q.take l.length).length : Int), [(p, some (.own Tp (v' + 1) (f (cpy (g lp) (off + lo) (q.take l.length)))))], o :: p :: fp⟩ else none
            | false => none
          | none => none
        | some (.var Tp v' cs) => match dropC cs off with
          | some (.vec kd' n vv :: r) => match takeC cs off with
            | some p0 => match kEq kd kd' && sz1 X dT T && Nat.beq v v' with
              | true => if lo + l.length ≤ n then k ⟨VI .i64 ((q.take l.length).length : Int), [(p, some (.var Tp (v' + 1) (p0 ++ .vec kd' n (vcopy vv lo (q.take l.length)) :: r)))], o :: p :: fp⟩ else none
              | false => none
            | none => none
          | _ => none
        | _ => none
      | _ => none
    | _ => none
  | none => none
theorem asn_vw {G : List Nat} {w0 w : World} {ρ : Rho} {H : HP X} {Lo : List (Nat × AO X.τ)} (h : RelL X G w0 ρ H Lo w) {o p v : Nat} {a' : Option (Nat × Nat)} {T : Nat} {l : List (X.τ T)} (hx : H o = some (.vw p v a' T l)) :
    ∃ L, ρ o = some L ∧ l.length = L.n ∧ L.sz = (X.E T).sz ∧ VwF X ρ H L p v a' T l := by
  obtain ⟨Lp, hp⟩ := h.focus hx
  obtain ⟨Lb, _, L, h1, h2, h3, h4⟩ := hp.st.pure
  exact ⟨L, h1, h2, h3, h4⟩
theorem add0 (a : Addr) : a.add 0 = a := by simp [Addr.add]
theorem take_split {α : Type} {a m b : List α} {off lo k : Nat} (ha : a.length = off) (hm : lo + k ≤ m.length) : (a ++ m ++ b).take (off + lo) = a ++ m.take lo ∧ (a ++ m ++ b).drop (off + lo + k) = m.drop (lo + k) ++ b := by
  subst ha
  constructor
  · rw [List.append_assoc, List.take_length_add_append, List.take_append_of_le_length (by omega)]
  · rw [List.append_assoc, Nat.add_assoc, List.drop_length_add_append, List.drop_append_of_le_length hm]
theorem oCopy_ok {ev : Ev} {dT sT : Nat} {y z : Operand} {H : HP X} {fr : Nat} {R : Type} {k : Rs X → Option R} {r : R} (h : oCopy X dT (ev y) (ev z) H k = some r) : ∃ rs, k rs = some r ∧ Sim X (.call { callee := .builtin .copy, args := #[y, z], argTypes := #[dT, sT] }) ev H fr rs := by
  unfold oCopy at h
  split at h
  · rename_i kd q fp hsrc
    split at h
    · rename_i o hy
      split at h
      · rename_i T v l ho
        split at h
        · rename_i kd' f g hi
          split at h
          · rename_i hb
            rw [Bool.and_eq_true] at hb
            have b1 := kEq_ok hb.1
            subst b1
            obtain ⟨t1, t2, t3⟩ := sz1_ok hb.2
            refine ⟨_, h, fun G w0 ρ HH Lo w e ty hop hf hr hfr => .inl ?_⟩
            have hop : OpsR ρ ev e [y, z] := hop
            have hHH := (hf o (by simp)).trans ho
            obtain ⟨Lp, hp⟩ := hr.focus hHH
            obtain ⟨L, k1, k2, k3, k4⟩ := asn_own hp.st
            obtain ⟨L', h1, h2⟩ := AR_sl (hop.1 _ hy)
            have : L = L' := Option.some.inj (k1.symm.trans h1)
            subst this
            have hc := srcL_ok (ty := ty) (A' := L.A) (len := L.n) (dcap := L.cap) (sT := sT) hsrc (hop.2.1) (fun i hi => hf i (List.mem_cons_of_mem _ hi)) hr t1 t2
            obtain ⟨gl, _⟩ := ((X.ti T).hints _ _ _ hi).2 l
            have k5 : St G w0 w (own T (eI kd) L.A L.cap (g l) :: Lp.map fun p => asn X G w0 ρ HH p.1 p.2) := by
              obtain ⟨Lb, ⟨L1, L2, e1, e2, e3⟩, e4⟩ := k4
              exact ⟨Lb, ⟨L1, L2, e1, own_to hi t3 e2, e3⟩, e4⟩
            obtain ⟨w', p1, p2⟩ := k5.put_row (lo := 0) (q := q.take L.n) (A' := L.A) (by rw [List.length_take, gl, k2]; omega) (fun hq => by
              cases ha : L.A with
              | some a => exact ⟨a, rfl, by rw [add0]⟩
              | none =>
                exfalso
                obtain ⟨Lb, ⟨L1, L2, e1, e2, e3⟩, e4⟩ := k4
                rcases e2 with ⟨_, _, hl, _⟩ | ⟨b, b0, cur, hA, _⟩
                · apply hq; rw [← k2, hl]; rfl
                · rw [ha] at hA; cases hA)
            refine ⟨_, w', run_copy h2 rfl (by rw [hc, p1]; rfl), ρ, (o, .own T (v + 1) (f (cpy (g l) 0 (q.take l.length)))) :: Lp, Rho.le_refl ρ, fun i hi => .inl hi, ?_, ?_⟩
            · rw [k2]; exact rfl
            · refine hp.upd (.inr (.inr ⟨_, _, rfl, rfl, .inl ⟨v, true, v + 1, true, rfl, rfl, .inl (by omega)⟩⟩)) ?_
              obtain ⟨Lb, ⟨L1, L2, e1, e2, e3⟩, e4⟩ := p2
              obtain ⟨fl, _⟩ := ((X.ti T).hints _ _ _ hi).1 (cpy (g l) 0 (q.take l.length))
              refine ⟨Lb, ⟨L1, L2, e1, ⟨L, k1, ?_, k3, ?_⟩, e3⟩, e4⟩
              · rw [fl, cpy_len (by rw [List.length_take, gl]; omega), gl]; exact k2
              · rw [k2]; exact own_from hi t3 e2
          · cases h
        · cases h
      · rename_i p v off lo T l ho
        split at h
        · rename_i Tp v' lp hpp
          split at h
          · rename_i kd' f g hi
            split at h
            · rename_i hb
              split at h
              · rename_i hle
                rw [Bool.and_eq_true, Bool.and_eq_true, Bool.and_eq_true] at hb
                obtain ⟨⟨⟨b1, b2⟩, b3⟩, b4⟩ := hb
                have b1 := kEq_ok b1
                have b3 := Nat.eq_of_beq_eq_true b3
                have b4 := Nat.eq_of_beq_eq_true b4
                subst b1 b3 b4
                obtain ⟨t1, t2, t3⟩ := sz1_ok b2
                refine ⟨_, h, fun G w0 ρ HH Lo w e ty hop hf hr hfr => .inl ?_⟩
                have hop : OpsR ρ ev e [y, z] := hop
                have hHH := (hf p (by simp)).trans hpp
                have hHo := (hf o (by simp)).trans ho
                obtain ⟨Lv, v1, v2, v3, v4⟩ := asn_vw hr hHo
                obtain ⟨Lp, hp⟩ := hr.focus hHH
                obtain ⟨L, k1, k2, k3, k4⟩ := asn_own hp.st
                obtain ⟨L', h1, h2⟩ := AR_sl (hop.1 _ hy)
                have : Lv = L' := Option.some.inj (v1.symm.trans h1)
                subst this
                have hc := srcL_ok (ty := ty) (A' := Lv.A) (len := Lv.n) (dcap := Lv.cap) (sT := sT) hsrc (hop.2.1) (fun i hi => hf i (List.mem_cons_of_mem _ (List.mem_cons_of_mem _ hi))) hr t1 t2
                obtain ⟨gl, _⟩ := ((X.ti T).hints _ _ _ hi).2 lp
                have k5 : St G w0 w (own T (eI kd) L.A L.cap (g lp) :: Lp.map fun p => asn X G w0 ρ HH p.1 p.2) := by
                  obtain ⟨Lb, ⟨L1, L2, e1, e2, e3⟩, e4⟩ := k4
                  exact ⟨Lb, ⟨L1, L2, e1, own_to hi t3 e2, e3⟩, e4⟩
                obtain ⟨Lp', d1, d2⟩ := v4.dom
                have : L = Lp' := Option.some.inj (k1.symm.trans d1)
                subst this
                obtain ⟨w', p1, p2⟩ := k5.put_row (lo := off + lo) (q := q.take Lv.n) (A' := Lv.A) (by rw [List.length_take, gl]; rw [← v2]; omega) (fun hq => by
                  refine d2 _ _ rfl fun hl => hq ?_
                  rw [← v2, hl]; rfl)
                refine ⟨_, w', run_copy h2 rfl (by rw [hc, p1]; rfl), ρ, (p, .own T (v + 1) (f (cpy (g lp) (off + lo) (q.take l.length)))) :: Lp, Rho.le_refl ρ, fun i hi => .inl hi, ?_, ?_⟩
                · rw [v2]; exact rfl
                · refine hp.upd (.inr (.inr ⟨_, _, rfl, rfl, .inl ⟨v, true, v + 1, true, rfl, rfl, .inl (by omega)⟩⟩)) ?_
                  obtain ⟨Lb, ⟨L1, L2, e1, e2, e3⟩, e4⟩ := p2
                  obtain ⟨fl, _⟩ := ((X.ti T).hints _ _ _ hi).1 (cpy (g lp) (off + lo) (q.take l.length))
                  refine ⟨Lb, ⟨L1, L2, e1, ⟨L, k1, ?_, k3, ?_⟩, e3⟩, e4⟩
                  · rw [fl, cpy_len (by rw [List.length_take, gl]; omega), gl]; exact k2
                  · rw [v2]; exact own_from hi t3 e2
              · cases h
            · cases h
          · cases h
        · rename_i Tp v' cs hpp
          split at h
          · rename_i kd' n vv rr hd
            split at h
            · rename_i p0 htk
              split at h
              · rename_i hb
                split at h
                · rename_i hle
                  rw [Bool.and_eq_true, Bool.and_eq_true] at hb
                  obtain ⟨⟨b1, b2⟩, b3⟩ := hb
                  have b1 := kEq_ok b1
                  have b3 := Nat.eq_of_beq_eq_true b3
                  subst b1 b3
                  obtain ⟨t1, t2, t3⟩ := sz1_ok b2
                  refine ⟨_, h, fun G w0 ρ HH Lo w e ty hop hf hr hfr => .inl ?_⟩
                  have hop : OpsR ρ ev e [y, z] := hop
                  have hHH := (hf p (by simp)).trans hpp
                  have hHo := (hf o (by simp)).trans ho
                  obtain ⟨Lv, v1, v2, v3, v4⟩ := asn_vw hr hHo
                  obtain ⟨Lp, hp⟩ := hr.focus hHH
                  obtain ⟨L, g0, vs, k1, k2, k3, k4, k5⟩ := asn_var hp.st
                  obtain ⟨L', h1, h2⟩ := AR_sl (hop.1 _ hy)
                  have : Lv = L' := Option.some.inj (v1.symm.trans h1)
                  subst this
                  have hc := srcL_ok (ty := ty) (A' := Lv.A) (len := Lv.n) (dcap := Lv.cap) (sT := sT) hsrc (hop.2.1) (fun i hi => hf i (List.mem_cons_of_mem _ (List.mem_cons_of_mem _ hi))) hr t1 t2
                  obtain ⟨Lp', d1, d2⟩ := v4.dom
                  have : L = Lp' := Option.some.inj (k1.symm.trans d1)
                  subst this
                  obtain ⟨x1, x2⟩ := takeC_ok k4 htk
                  obtain ⟨y1, y2⟩ := dropC_ok k4 hd
                  obtain ⟨va, vb, y3, y4, y5⟩ := y1
                  have y4 : va = vv.toList.map (Value.int kd) := y4
                  have hta : (vs.take off).length = off := by rw [List.length_take]; omega
                  have hvs : vs = vs.take off ++ vv.toList.map (Value.int kd) ++ vb := by
                    rw [List.append_assoc, ← y4, ← y3, List.take_append_drop]
                  have hql : lo + (q.take Lv.n).length ≤ (vv.toList.map (Value.int kd)).length := by
                    rw [List.length_take, List.length_map, Vector.length_toList]
                    omega
                  obtain ⟨w', p1, p2⟩ := k5.put_box (off := off + lo) (us := (q.take Lv.n).map (Value.int kd)) (A' := Lv.A) (by
                    rw [hvs, List.length_append, List.length_append, hta, List.length_map]
                    omega) (fun hq => by
                    obtain ⟨a, a1, a2⟩ := d2 _ _ rfl fun hl => hq (by rw [← v2, hl]; rfl)
                    rw [k2] at a1
                    cases a1
                    rw [a2, add_zero_addr]) (fun u hu => by obtain ⟨_, _, rfl⟩ := List.mem_map.1 hu; rfl)
                  refine ⟨_, w', run_copy h2 rfl (by rw [hc, p1]; rfl), ρ, (p, .var Tp (v + 1) (p0 ++ .vec kd n (vcopy vv lo (q.take l.length)) :: rr)) :: Lp, Rho.le_refl ρ, fun i hi => .inl hi, ?_, ?_⟩
                  · rw [v2]; exact rfl
                  · refine hp.upd (.inr (.inr ⟨_, _, rfl, rfl, .inl ⟨v, true, v + 1, true, rfl, rfl, .inl (by omega)⟩⟩)) ?_
                    obtain ⟨Lb, ⟨L1, L2, e1, e2, e3⟩, e4⟩ := p2
                    refine ⟨Lb, ⟨L1, L2, e1, ⟨L, g0, _, k1, k2, k3.1, k3.2, ?_, e2⟩, e3⟩, e4⟩
                    have s1 := take_split (b := vb) hta hql
                    rw [← hvs] at s1
                    rw [List.length_map, s1.1, s1.2]
                    have s2 := vcopy_cells (x := vv) (k := kd) (lo := lo) (l := q.take Lv.n) (by rw [List.length_take]; omega)
                    rw [v2]
                    have : vs.take off ++ (vv.toList.map (Value.int kd)).take lo ++ (q.take Lv.n).map (Value.int kd) ++ ((vv.toList.map (Value.int kd)).drop (lo + (q.take Lv.n).length) ++ vb) = vs.take off ++ ((vcopy vv lo (q.take Lv.n)).toList.map (Value.int kd) ++ vb) := by
                      rw [s2]; simp only [List.append_assoc]
                    rw [this]
                    exact x1.app ⟨_, vb, rfl, rfl, y5⟩
                · cases h
              · cases h
            · cases h
          · cases h
        · cases h
      · cases h
    · cases h
  · cases h
/-- As preO, where the operation has new names. -/
def preF (X : Cx) (v : Option AV) (H : HP X) (fr : Nat) {R : Type} (f : HP X → Nat → (Rs X → Option R) → Option R) (k : Rs X → Option R) : Option R := match shutAt H v with
  | some o => openV X H o fr fun up => f (setL up H) (fr + 32) fun rs => k ⟨rs.v, up ++ rs.up, o :: rs.fp⟩
  | none => f H fr k
theorem preF_ok {v : Option AV} {H : HP X} {fr : Nat} {R : Type} {f : HP X → Nat → (Rs X → Option R) → Option R} {k : Rs X → Option R} {r : R} {op : Op} {ev : Ev} (hf : ∀ {fr : Nat} {H : HP X} {k : Rs X → Option R}, f H fr k = some r → ∃ rs, k rs = some r ∧ Sim X op ev H fr rs)
    (h : preF X v H fr f k = some r) : ∃ rs, k rs = some r ∧ SimW X fx0 op ev H fr rs := by
  unfold preF at h
  split at h
  · rename_i o ho
    obtain ⟨up, h1, h2⟩ := openV_ok h
    obtain ⟨rs, h3, h4⟩ := hf (fr := fr + 32) h1
    exact ⟨_, h3, Sim.pre h2 h4⟩
  · obtain ⟨rs, h3, h4⟩ := hf (fr := fr) h
    exact ⟨rs, h3, h4.w⟩
def doCopy (X : Cx) (xs : List Operand) (ts : List TypeId) (ev : Ev) (H : HP X) {R : Type} (k : Rs X → Option R) : Option R := match xs with
  | [x, y] => match ts with
    | [t, tx] => oCopy X t (ev x) (ev y) H k
    | _ => none
  | _ => none
theorem doCopy_ok {xs : Array Operand} {ts : Array TypeId} {ev : Ev} {H : HP X} {fr : Nat} {R : Type} {k : Rs X → Option R} {r : R} (h : doCopy X xs.toList ts.toList ev H k = some r) : ∃ rs, k rs = some r ∧ Sim X (.call { callee := .builtin .copy, args := xs, argTypes := ts }) ev H fr rs := by
  obtain ⟨xs⟩ := xs
  obtain ⟨ts⟩ := ts
  simp only at h
  unfold doCopy at h
  split at h
  · split at h
    · exact oCopy_ok h
    · cases h
  · cases h
def isNilsV : Option AV → Bool
  | some (.o (.c .nils)) => true
  | _ => false
/-- A cut of nil. -/
def oNCut (X : Cx) (t : Nat) (lo hi : Option (Option AV)) {R : Type} (k : Rs X → Option R) : Option R := match elT X t with
  | some _ => match cutI 0 lo with
    | some a => match cutI 0 hi with
      | some b => if 0 ≤ a ∧ a ≤ b ∧ b ≤ 0 then (match isNone lo && isNone hi with
          | true => none
          | false => k ⟨VC .nils, [], []⟩) else none
      | none => none
    | none => none
  | none => none
theorem oNCut_ok {ev : Ev} {t : Nat} {x : Operand} {lo hi : Option Operand} {H : HP X} {fr : Nat} {R : Type} {k : Rs X → Option R} {r : R} (hx : isNilsV (ev x) = true) (h : oNCut X t (lo.map ev) (hi.map ev) k = some r) : ∃ rs, k rs = some r ∧ Sim X (.slice t x lo hi none) ev H fr rs := by
  unfold oNCut at h
  split at h
  · rename_i T hT
    obtain ⟨t1, t2⟩ := elT_ok hT
    split at h
    · rename_i a ha
      split at h
      · rename_i b hb
        split at h
        · rename_i hbd
          split at h
          · cases h
          rename_i hnn
          refine ⟨_, h, fun G w0 ρ HH Lo w e ty hop hf hr hfr => .inl ?_⟩
          have hxv : ev x = some (VC .nils) := by
            unfold isNilsV at hx
            split at hx
            · rename_i e1; exact e1
            · cases hx
          have ha0 : a = 0 := by omega
          have hb0 : b = 0 := by omega
          subst ha0 hb0
          have hc : ∀ n : Nat, cutA none 0 n (X.E T).sz = none := fun n => by unfold cutA; split <;> rfl
          refine ⟨.slice none 0 0, w, ?_, ρ, Lo, Rho.le_refl ρ, fun i hi => .inl hi, rfl, hr⟩
          cases lo with
          | none =>
            cases hi with
            | none => cases hnn
            | some z =>
              have hop : OpsR ρ ev e [x, z] := by simpa [Op.operands] using hop
              have hxe := AR_nils (hop.1 _ hxv)
              rcases cutI_ok (ρ := ρ) (e := e) (o := some z) hb (fun y hy => by cases hy; exact hop.2.1) with ⟨z', k', e1, e2⟩ | ⟨e1, _⟩
              · cases e1
                have := x_hi (P := X.P) (ev := e) (w := w) (ty := ty) (A := none) (cap := 0) (l := ([] : List Int)) (x := x) (y := z) t1 (by rw [t2]; rfl) (Nat.le_refl _) hxe e2 (by omega) (by simp)
                simpa using this
              · cases e1
          | some y =>
            cases hi with
            | none =>
              have hop : OpsR ρ ev e [x, y] := by simpa [Op.operands] using hop
              have hxe := AR_nils (hop.1 _ hxv)
              rcases cutI_ok (ρ := ρ) (e := e) (o := some y) ha (fun z hz => by cases hz; exact hop.2.1) with ⟨z', k', e1, e2⟩ | ⟨e1, _⟩
              · cases e1
                have := x_lo (P := X.P) (ev := e) (w := w) (ty := ty) (A := none) (cap := 0) (l := ([] : List (X.τ T))) (E := X.E T) (x := x) (y := y) t1 t2 hxe e2 (by omega) (by simp)
                simpa [hc] using this
              · cases e1
            | some z =>
              have hop : OpsR ρ ev e [x, y, z] := by simpa [Op.operands] using hop
              have hxe := AR_nils (hop.1 _ hxv)
              rcases cutI_ok (ρ := ρ) (e := e) (o := some y) ha (fun z hz => by cases hz; exact hop.2.1) with ⟨z', k', e1, e2⟩ | ⟨e1, _⟩
              · rcases cutI_ok (ρ := ρ) (e := e) (o := some z) hb (fun y hy => by cases hy; exact hop.2.2.1) with ⟨z2, k2, e3, e4⟩ | ⟨e3, _⟩
                · cases e1
                  cases e3
                  have := x_lohi (P := X.P) (ev := e) (w := w) (ty := ty) (A := none) (cap := 0) (l := ([] : List (X.τ T))) (E := X.E T) (x := x) (y := y) (y' := z) t1 t2 (Nat.le_refl _) hxe e2 e4 (by omega) (by omega) (by simp)
                  simpa [hc] using this
                · cases e3
              · cases e1
        · cases h
      · cases h
    · cases h
  · cases h
def isPtV : Option AV → Bool
  | some (.o (.c (.pt _ _ _ _))) => true
  | _ => false
def doCp (T : Ents X) (R : Type) (op : Op) (ev : Ev) (H : HP X) (fr : Nat) (k : Rs X → Option R) : Option R := match op with
  | .slice t x lo hi none => match isPtV (ev x) with
    | true => preF X (ev x) H fr (fun H fr k => oVCut X t (ev x) (lo.map ev) (hi.map ev) H fr k) k
    | false => match isNilsV (ev x) with
      | true => oNCut X t (lo.map ev) (hi.map ev) k
      | false => doCv T R (.slice t x lo hi none) ev H fr k
  | .call c => match c.callee with
    | .builtin .copy => doCopy X c.args.toList c.argTypes.toList ev H k
    | _ => doCv T R (.call c) ev H fr k
  | op => doCv T R op ev H fr k
theorem doCp_ok {T : Ents X} {R : Type} {op : Op} {ev : Ev} {H : HP X} {fr : Nat} {k : Rs X → Option R} {r : R} (h : doCp T R op ev H fr k = some r) : ∃ rs, k rs = some r ∧ SimW X fx0 op ev H fr rs := by
  unfold doCp at h
  split at h
  · split at h
    · exact preF_ok (fun h => oVCut_ok h) h
    · split at h
      · rename_i hn
        exact sk (oNCut_ok hn h)
      · exact doCv_ok h
  · rename_i c
    split at h
    · rename_i hc
      obtain ⟨callee, args, argTypes⟩ := c
      subst hc
      exact sk (doCopy_ok h)
    · exact doCv_ok h
  · exact doCv_ok h
def dx (T : Ents X) : Doer X := ⟨fun _ => none, doCp T, doCp_ok⟩
end
end Go.Proofs.YtlpiomnmaiddbaaGreatDoor.E
namespace Go.Proofs.YtlpiomnmaiddbaaGreatDoor.E
set_option linter.unusedVariables false
set_option linter.unusedSimpArgs false
open Go Go.RowKit
section
variable {X : Cx} {fx0 : Rho}
/-- Row 0 against nil. -/
def nq (X : Cx) (t : Nat) (x y : Option AV) : Bool := match x with
  | some (.o (.c (.sl 0))) => match y with
    | some (.o (.c .nils)) => isRowT X t
    | _ => false
  | _ => false
def doN (b : Bool) (T : Ents X) (R : Type) (op : Op) (ev : Ev) (H : HP X) (fr : Nat) (k : Rs X → Option R) : Option R := match op with
  | .binOp .eql t x y u => match nq X t (ev x) (ev y) with
    | true => k ⟨VB (.val b), [], []⟩
    | false => doCp T R (.binOp .eql t x y u) ev H fr k
  | op => doCp T R op ev H fr k
def fx1 (L : Loc) : Rho := fun o => match o with
  | 0 => some L
  | _ + 1 => none
theorem doN_ok {b : Bool} {L : Loc} (hb : L.A.isNone = b) {T : Ents X} {R : Type} {op : Op} {ev : Ev} {H : HP X} {fr : Nat} {k : Rs X → Option R} {r : R} (h : doN b T R op ev H fr k = some r) : ∃ rs, k rs = some r ∧ SimW X (fx1 L) op ev H fr rs := by
  unfold doN at h
  split at h
  · rename_i t x y u
    split at h
    · rename_i hn
      refine ⟨_, h, fun G w0 ρ HH Lo w e ty ho hf hr hfr hx => .inl ?_⟩
      unfold nq at hn
      split at hn
      · rename_i hxv
        split at hn
        · rename_i hyv
          have ho : OpsR ρ ev e [x, y] := ho
          obtain ⟨L', h1, h2⟩ := AR_sl (ho.1 _ hxv)
          have : L = L' := Option.some.inj ((hx 0 L rfl).symm.trans h1)
          subst this
          have h3 := AR_nils (ho.2.1 _ hyv)
          unfold isRowT at hn
          split at hn
          · rename_i s hs
            split at hn
            · rename_i e' hk
              have hu := (X.siOk hs).sl hk
              refine ⟨.bool b, w, bin_run (by rw [h2, h3]; exact guard_sl) ?_, ρ, Lo, Rho.le_refl ρ, fun i hi => .inl hi, rfl, hr⟩
              rw [h2, h3]
              have := bin_eql (eq_sl (P := X.P) (w := w) (p := L.A) (q := none) (a := L.n) (b := L.cap) (c := 0) (d := 0) hu (.inr rfl))
              rw [this]
              simp [hb]
            · cases hn
          · cases hn
        · cases hn
      · cases hn
    · exact doCp_ok h
  · exact doCp_ok h
def dN (b : Bool) (L : Loc) (hb : L.A.isNone = b) (T : Ents X) : Doer X := ⟨fx1 L, doN b T, doN_ok hb⟩
abbrev cloneC (X : Cx) (f T0 : Nat) : Ct X := ⟨f, [.o (.c (.sl 0))], [(0, .ro T0)], 1, 2, .o (.c (.sl 1)), [(1, .own T0)], []⟩
/-- slices.Clone: nil of nil, and what is there of another one. -/
theorem clone_ok {f T0 : Nat} (T : Ents X) {fn : Func} {c : Code} {n : Nat} {F : List (X.τ T0) → Option (List (X.τ T0))} (hf : X.P.funcs[f]? = some fn) (hb : fn.body = some c) (hn : fn.ntmps = n) (hl : Nat.ble 1 n = true)
    (eq1 : ∀ L hb x, V (dN (X := X) true L hb T) n 1 .r c (start (cloneC X f T0) x) (finK (cloneC X f T0) fn.results.toList) = some ([] : List (X.τ T0)))
    (eq2 : ∀ L hb x, V (dN (X := X) false L hb T) n 1 .r c (start (cloneC X f T0) x) (finK (cloneC X f T0) fn.results.toList) = F x) (h0 : F [] = some []) (hd : X.dp T0 = false := by rfl) : CtOk (cloneC X f T0) F := by
  intro x x' hx G w0 ρ Lo args hrel hargs hfre
  obtain ⟨L, k1, k2, k3, k4⟩ := hrel.ro_rd (o := 0) (T := T0) (l := x) rfl hd
  have hle : (fx1 L).le ρ := fun o L' e => by
    cases o with
    | zero => cases e; exact k1
    | succ o => cases e
  cases hA : L.A with
  | none =>
    have hx0 : x = [] := by
      cases x with
      | nil => rfl
      | cons a r =>
        exfalso
        obtain ⟨b, hb, _⟩ := k4.2 0 a rfl
        rw [hA] at hb
        cases hb
    subst hx0
    have hx' : x' = ([] : List (X.τ T0)) := Option.some.inj (hx.symm.trans h0)
    subst hx'
    exact fn_at (C := cloneC X f T0) (dN true L (by rw [hA]; rfl) T) .r hf hb hn hl trivial (eq1 L _ _) G w0 ρ Lo args hle hrel hargs hfre
  | some a =>
    exact fn_at (C := cloneC X f T0) (dN false L (by rw [hA]; rfl) T) .r hf hb hn hl trivial ((eq2 L _ x).trans hx) G w0 ρ Lo args hle hrel hargs hfre
end
end Go.Proofs.YtlpiomnmaiddbaaGreatDoor.E
namespace Go.Proofs.YtlpiomnmaiddbaaGreatDoor.E
set_option linter.unusedVariables false
set_option linter.unusedSimpArgs false
open Go Go.RowKit
section
variable {X : Cx} {fx0 : Rho}
/-- On with what a pointer leads to, or without. -/
def optC {α R : Type} (y : Option α) (a : Option R) (f : α → Option R) : Option R := match y with
  | none => a
  | some z => f z
theorem RelL.optPk {G : List Nat} {w0 w : World} {ρ : Rho} {H : HP X} {Lo : List (Nat × AO X.τ)} (h : RelL X G w0 ρ H Lo w) {o T v : Nat} {z : X.τ T} (hx : H o = some (.opt T v (some z))) : ∃ Lo', RelL X G w0 ρ (set1 H o (some (.pk T v z))) Lo' w := by
  obtain ⟨Lp, hp⟩ := h.focus hx
  refine ⟨_, hp.upd (.inr (.inr ⟨_, _, rfl, rfl, .inl ⟨v, false, v, false, rfl, rfl, .inr ⟨rfl, rfl⟩⟩⟩)) ?_⟩
  obtain ⟨Lb, ⟨L1, L2, e1, e2, e3⟩, e4⟩ := hp.st
  refine ⟨Lb, ⟨L1, L2, e1, ?_, e3⟩, e4⟩
  obtain ⟨L, k1, k2, k3, k4, k5⟩ := e2
  refine ⟨L, k1, k2, k3, ?_, k5⟩
  rcases k4 with k4 | k4
  · cases k4
  · exact k4
theorem RelL.pk_pt {G : List Nat} {w0 w : World} {ρ : Rho} {H : HP X} {Lo : List (Nat × AO X.τ)} (h : RelL X G w0 ρ H Lo w) {o T v : Nat} {z : X.τ T} (hx : H o = some (.pk T v z)) {u : Value} (hu : AR ρ (VC (.op o)) u) : AR ρ (VC (.pt o (.ofNat 0) 0 none)) u := by
  obtain ⟨Lp, hp⟩ := h.focus hx
  obtain ⟨Lb, L, k1, k2, k3, ⟨g, k4⟩, k5⟩ := hp.st.pure
  obtain ⟨L', h1, h2⟩ := (show CR ρ (.op o) [u] from hu)
  have : L = L' := Option.some.inj (k1.symm.trans h1)
  subst this
  refine (show CR ρ (.pt o (.ofNat 0) 0 none) [u] from ⟨L, ⟨g, 0, none⟩, k1, k4, ⟨Int.le_refl 0, by rw [k2]; decide⟩, (fun p hp => by cases hp), ?_⟩)
  rw [h2, k4, k3]
  simp [jn, Addr.add]
/-- A pointer that is looked through. -/
def oNilO (x : Option AV) (H : HP X) {R : Type} (k : Rs X → Option R) : Option R := match x with
  | some (.o (.c (.op o))) => match H o with
    | some (.opt T v y) => y.bind fun z => k ⟨VC (.pt o (.ofNat 0) 0 none), [(o, some (.pk T v z))], [o]⟩
    | some (.pk _ _ _) => k ⟨VC (.pt o (.ofNat 0) 0 none), [], [o]⟩
    | _ => none
  | _ => none
theorem run_nil {P : Program} {e : Operand → Value} {x : Operand} {ty : TypeId} {w : World} {a : Addr} (h : e x = .pointer (some a)) : (execOp e (mkO (.nilCheck x) ty)).run P w = .ok (.value (.pointer (some a))) w := by
  unfold execOp
  simp [mkO, h]
theorem oNilO_ok {ev : Ev} {x : Operand} {H : HP X} {fr : Nat} {R : Type} {k : Rs X → Option R} {r : R} (h : oNilO (ev x) H k = some r) : ∃ rs, k rs = some r ∧ Sim X (.nilCheck x) ev H fr rs := by
  unfold oNilO at h
  split at h
  · rename_i o hx
    split at h
    · rename_i T v y ho
      obtain ⟨z, hz, h⟩ := Option.bind_eq_some_iff.1 h
      subst hz
      refine ⟨_, h, fun G w0 ρ HH Lo w e ty hop hf hr hfr => .inl ?_⟩
      obtain ⟨Lo', h1⟩ := hr.optPk ((hf o (by simp)).trans ho)
      have hv := h1.pk_pt (set1_same _ _ _) ((show OpsR ρ ev e [x] from hop).1 _ hx)
      obtain ⟨L, A, k1, k2, k3, k4, k5⟩ := AR_pt hv
      exact ⟨_, w, run_nil k5, ρ, Lo', Rho.le_refl ρ, fun i hi => .inl hi, by rw [← k5]; exact hv, h1⟩
    · rename_i T v z ho
      refine ⟨_, h, fun G w0 ρ HH Lo w e ty hop hf hr hfr => .inl ?_⟩
      have hv := hr.pk_pt ((hf o (by simp)).trans ho) ((show OpsR ρ ev e [x] from hop).1 _ hx)
      obtain ⟨L, A, k1, k2, k3, k4, k5⟩ := AR_pt hv
      exact ⟨_, w, run_nil k5, ρ, Lo, Rho.le_refl ρ, fun i hi => .inl hi, by rw [← k5]; exact hv, hr⟩
    · cases h
  · cases h
/-- A pointer against nil. -/
def oEqO (X : Cx) (ne : Bool) (t : Nat) (x : Option AV) (H : HP X) {R : Type} (k : Rs X → Option R) : Option R := match X.si t with
  | some s => match s.k with
    | .ptr _ => match x with
      | some (.o (.c (.op o))) => match H o with
        | some (.opt T v y) => optC y (k ⟨VB (.val (!ne)), [], [o]⟩) fun z => k ⟨VB (.val ne), [(o, some (.pk T v z))], [o]⟩
        | some (.pk _ _ _) => k ⟨VB (.val ne), [], [o]⟩
        | _ => none
      | _ => none
    | _ => none
  | none => none
def isNilpV : Option AV → Bool
  | some (.o (.c .nilp)) => true
  | _ => false
def bEq (b : Bool) : BinOp := match b with
  | true => .neq
  | false => .eql
theorem oEqO_ok {ev : Ev} {ne : Bool} {t u : Nat} {x y : Operand} {H : HP X} {fr : Nat} {R : Type} {k : Rs X → Option R} {r : R} (hy : isNilpV (ev y) = true) (h : oEqO X ne t (ev x) H k = some r) : ∃ rs, k rs = some r ∧ Sim X (.binOp (bEq ne) t x y u) ev H fr rs := by
  have hyv : ev y = some (VC .nilp) := by
    unfold isNilpV at hy
    split at hy
    · rename_i e; exact e
    · cases hy
  unfold oEqO at h
  split at h
  · rename_i s hs
    split at h
    · rename_i e' hk
      have hu := (X.siOk hs).ptr hk
      have run : ∀ {w : World} {e : Operand → Value} {ty : TypeId} {p : Option Addr}, e x = .pointer p → e y = .pointer none → (execOp e (mkO (.binOp (bEq ne) t x y u) ty)).run X.P w = .ok (.value (.bool (ne != p.isNone))) w := by
        intro w e ty p h1 h2
        cases ne with
        | false =>
          refine bin_run (by rw [h1, h2]; exact guard_ptr) ?_
          rw [h1, h2]
          have := bin_eql (eq_ptr (P := X.P) (w := w) (p := p) (q := none) hu (.inr rfl))
          show _ = _
          rw [show bEq false = .eql from rfl, this]; simp
        | true =>
          refine bin_run (by rw [h1, h2]; exact guard_ptr) ?_
          rw [h1, h2]
          have := bin_neq (eq_ptr (P := X.P) (w := w) (p := p) (q := none) hu (.inr rfl))
          rw [show bEq true = .neq from rfl, this]; simp
      split at h
      · rename_i o hx
        split at h
        · rename_i T v q ho
          unfold optC at h
          split at h
          · refine ⟨_, h, fun G w0 ρ HH Lo w e ty hop hf hr hfr => .inl ?_⟩
            have hop : OpsR ρ ev e [x, y] := hop
            obtain ⟨Lp, hp⟩ := hr.focus ((hf o (by simp)).trans ho)
            obtain ⟨Lb, L, k1, k2, k3, k4, k5⟩ := hp.st.pure
            obtain ⟨L', h1, h2⟩ := (show CR ρ (.op o) [e x] from hop.1 _ hx)
            have : L = L' := Option.some.inj (k1.symm.trans h1)
            subst this
            have h2 : e x = .pointer L.A := by simpa using h2
            have hA : L.A = none := k5.1
            refine ⟨_, w, run h2 (AR_nilp (hop.2.1 _ hyv)), ρ, Lo, Rho.le_refl ρ, fun i hi => .inl hi, ?_, hr⟩
            rw [hA]
            cases ne <;> rfl
          · rename_i z
            refine ⟨_, h, fun G w0 ρ HH Lo w e ty hop hf hr hfr => .inl ?_⟩
            have hop : OpsR ρ ev e [x, y] := hop
            obtain ⟨Lo', h1⟩ := hr.optPk ((hf o (by simp)).trans ho)
            have hv := h1.pk_pt (set1_same _ _ _) (hop.1 _ hx)
            obtain ⟨L, A, k1, k2, k3, k4, k5⟩ := AR_pt hv
            refine ⟨_, w, run k5 (AR_nilp (hop.2.1 _ hyv)), ρ, Lo', Rho.le_refl ρ, fun i hi => .inl hi, ?_, h1⟩
            cases ne <;> rfl
        · rename_i T v z ho
          refine ⟨_, h, fun G w0 ρ HH Lo w e ty hop hf hr hfr => .inl ?_⟩
          have hop : OpsR ρ ev e [x, y] := hop
          have hv := hr.pk_pt ((hf o (by simp)).trans ho) (hop.1 _ hx)
          obtain ⟨L, A, k1, k2, k3, k4, k5⟩ := AR_pt hv
          refine ⟨_, w, run k5 (AR_nilp (hop.2.1 _ hyv)), ρ, Lo, Rho.le_refl ρ, fun i hi => .inl hi, ?_, hr⟩
          cases ne <;> rfl
        · cases h
      · cases h
    · cases h
  · cases h
/-- Pointers that are handed on: what they lead to is there. -/
def opsO : List AV → HP X → {R : Type} → (List AV → List (Nat × Option (AO X.τ)) → List Nat → Option R) → Option R
  | [], _, _, K => K [] [] []
  | a :: r, H, _, K => match a with
    | .o (.c (.op o)) => match H o with
      | some (.opt T v y) => y.bind fun z => opsO r (set1 H o (some (.pk T v z))) fun l up fp => K (VC (.pt o (.ofNat 0) 0 none) :: l) ((o, some (.pk T v z)) :: up) (o :: fp)
      | some (.pk _ _ _) => opsO r H fun l up fp => K (VC (.pt o (.ofNat 0) 0 none) :: l) up (o :: fp)
      | _ => opsO r H fun l up fp => K (a :: l) up fp
    | _ => opsO r H fun l up fp => K (a :: l) up fp
theorem opsO_ok : ∀ {as : List AV} {H : HP X} {R : Type} {K : List AV → List (Nat × Option (AO X.τ)) → List Nat → Option R} {r : R}, opsO as H K = some r → ∃ l up fp, K l up fp = some r ∧
    ∀ (G : List Nat) (w0 : World) (ρ : Rho) (HH : HP X) (Lo : List (Nat × AO X.τ)) (w : World) (vs : List Value), (∀ i ∈ fp, HH i = H i) → RelL X G w0 ρ HH Lo w → AVs ρ as vs → AVs ρ l vs ∧ ∃ Lo', RelL X G w0 ρ (setL up HH) Lo' w
  | [], H, R, K, r, h => ⟨[], [], [], h, fun G w0 ρ HH Lo w vs _ hr ha => ⟨ha, Lo, hr⟩⟩
  | a :: as, H, R, K, r, h => by
    have keep : (opsO as H fun l up fp => K (a :: l) up fp) = some r → ∃ l up fp, K l up fp = some r ∧
        ∀ (G : List Nat) (w0 : World) (ρ : Rho) (HH : HP X) (Lo : List (Nat × AO X.τ)) (w : World) (vs : List Value), (∀ i ∈ fp, HH i = H i) → RelL X G w0 ρ HH Lo w → AVs ρ (a :: as) vs → AVs ρ l vs ∧ ∃ Lo', RelL X G w0 ρ (setL up HH) Lo' w := fun h => by
      obtain ⟨l, up, fp, h1, h2⟩ := opsO_ok h
      refine ⟨_, _, _, h1, fun G w0 ρ HH Lo w vs hf hr ⟨v, s, e1, e2, e3⟩ => ?_⟩
      obtain ⟨q1, q2⟩ := h2 G w0 ρ HH Lo w s hf hr e3
      exact ⟨⟨v, s, e1, e2, q1⟩, q2⟩
    unfold opsO at h
    split at h
    · rename_i o
      split at h
      · rename_i T v y ho
        obtain ⟨z, hz, h⟩ := Option.bind_eq_some_iff.1 h
        subst hz
        obtain ⟨l, up, fp, h1, h2⟩ := opsO_ok h
        refine ⟨_, _, _, h1, fun G w0 ρ HH Lo w vs hf hr ⟨v', s, e1, e2, e3⟩ => ?_⟩
        obtain ⟨Lo1, k1⟩ := hr.optPk ((hf o (by simp)).trans ho)
        obtain ⟨q1, q2⟩ := h2 G w0 ρ _ Lo1 w s (fun i hi => by
          by_cases e : i = o
          · subst e; rw [set1_same, set1_same]
          · rw [set1_other _ _ e, set1_other _ _ e]; exact hf i (List.mem_cons_of_mem _ hi)) k1 e3
        exact ⟨⟨v', s, e1, k1.pk_pt (set1_same _ _ _) e2, q1⟩, q2⟩
      · rename_i T v z ho
        obtain ⟨l, up, fp, h1, h2⟩ := opsO_ok h
        refine ⟨_, _, _, h1, fun G w0 ρ HH Lo w vs hf hr ⟨v', s, e1, e2, e3⟩ => ?_⟩
        obtain ⟨q1, q2⟩ := h2 G w0 ρ HH Lo w s (fun i hi => hf i (List.mem_cons_of_mem _ hi)) hr e3
        exact ⟨⟨v', s, e1, hr.pk_pt ((hf o (by simp)).trans ho) e2, q1⟩, q2⟩
      · exact keep h
    · exact keep h
/-- Is one of them a pointer that may be nil? -/
def anyO : List AV → Bool
  | [] => false
  | .o (.c (.op _)) :: _ => true
  | _ :: r => anyO r
def bdE (E : Ent X) (avs : List AV) (H : HP X) : Bds := bO E.C.oi H (bAs E.C.oi H [] E.C.ai avs) E.C.oi
def callO (T : Ents X) (g : Nat) (avs : List AV) (H : HP X) (fr : Nat) {R : Type} (k : Rs X → Option R) : Option R := opsO avs H fun l up fp => match T.find (fun E => canV E l (setL up H) fr (bdE E l (setL up H))) g with
  | some E => callV E l (setL up H) fr (fun rs => k ⟨rs.v, up ++ rs.up, fp ++ rs.fp⟩) (bdE E l (setL up H))
  | none => none
def doOpt (T : Ents X) (f : Operand) (xs : List Operand) (ev : Ev) (H : HP X) (fr : Nat) {R : Type} (k : Rs X → Option R) : Option R := match ev f with
  | some (.o (.c (.fn g []))) => match evL ev xs with
    | some avs => match anyO avs with
      | true => match T.find (fun E => canV E avs H fr (bdE E avs H)) g with
        | some _ => doCall T f xs ev H fr k
        | none => callO T g avs H fr k
      | false => doCall T f xs ev H fr k
    | none => none
  | _ => doCall T f xs ev H fr k
theorem doOpt_ok {T : Ents X} {f : Operand} {args : Array Operand} {ats : Array TypeId} {ev : Ev} {H : HP X} {fr : Nat} {R : Type} {k : Rs X → Option R} {r : R} (h : doOpt T f args.toList ev H fr k = some r) :
    ∃ rs, k rs = some r ∧ SimW X fx0 (.call { callee := .value f, args := args, argTypes := ats }) ev H fr rs := by
  unfold doOpt at h
  split at h
  · rename_i g hg
    split at h
    · rename_i avs havs
      split at h
      · split at h
        · exact doCall_ok h
        · unfold callO at h
          obtain ⟨l, up, fp, hq, hO⟩ := opsO_ok h
          clear h
          split at hq
          · rename_i E hE
            have hE := Ents.find_ok hE
            subst hE
            obtain ⟨rs, h1, h2⟩ := callV_ok hq
            refine ⟨_, h1, fun G w0 ρ HH Lo w e ty ho hf hr hfr _ => ?_⟩
            have ho' : OpsR ρ ev e (f :: args.toList) := by simpa [Op.operands, Call.operands] using ho
            obtain ⟨as, k1, k2⟩ : CR ρ (.fn E.C.f []) [e f] := ho'.1 _ hg
            have k1 : as = [] := k1
            subst k1
            have k2 : e f = .func (.func E.C.f) #[] #[] := by simpa using k2
            obtain ⟨q1, Lo1, q2⟩ := hO G w0 ρ HH Lo w (args.toList.map e) (fun i hi => hf i (List.mem_append_left _ hi)) hr (evL_ok havs ho'.2)
            refine .inr (.inr ⟨E.C.f, args.map e, by have := run_callV (args := args) (ats := ats) (ty := ty) (w := w) k2 E.ent; simpa using this, ?_⟩)
            have := h2 G w0 ρ (setL up HH) Lo1 w (args.toList.map e) q1 (fun i hi => setL_eq (hf i (List.mem_append_right _ hi))) q2 fun i hi hi' => hfr i hi (by omega)
            have e1 : (args.toList.map e).toArray = args.map e := Array.ext' (by simp)
            rw [e1] at this
            refine Calls.mono this ?_
            rintro x w' ⟨v, rfl, ρ', Lo', p1, p2, p3, p4⟩
            refine ⟨v, rfl, ρ', Lo', p1, fun i hi => (p2 i hi).imp id fun h => ⟨h.1, by omega⟩, p3, ?_⟩
            show RelL X G w0 ρ' (setL (up ++ rs.up) HH) Lo' w'
            rw [setL_app]
            exact p4
          · cases hq
      · exact doCall_ok h
    · cases h
  · exact doCall_ok h
def isOpV : Option AV → Bool
  | some (.o (.c (.op _))) => true
  | _ => false
def doZ (T : Ents X) (R : Type) (op : Op) (ev : Ev) (H : HP X) (fr : Nat) (k : Rs X → Option R) : Option R := match op with
  | .nilCheck x => match isOpV (ev x) with
    | true => oNilO (ev x) H k
    | false => doCp T R (.nilCheck x) ev H fr k
  | .binOp .eql t x y u => match isOpV (ev x) && isNilpV (ev y) with
    | true => oEqO X false t (ev x) H k
    | false => doCp T R (.binOp .eql t x y u) ev H fr k
  | .binOp .neq t x y u => match isOpV (ev x) && isNilpV (ev y) with
    | true => oEqO X true t (ev x) H k
    | false => doCp T R (.binOp .neq t x y u) ev H fr k
  | .call c => match c.callee with
    | .value f => doOpt T f c.args.toList ev H fr k
    | _ => doCp T R (.call c) ev H fr k
  | op => doCp T R op ev H fr k
theorem doZ_ok {T : Ents X} {R : Type} {op : Op} {ev : Ev} {H : HP X} {fr : Nat} {k : Rs X → Option R} {r : R} (h : doZ T R op ev H fr k = some r) : ∃ rs, k rs = some r ∧ SimW X fx0 op ev H fr rs := by
  unfold doZ at h
  split at h
  · split at h
    · exact sk (oNilO_ok h)
    · exact doCp_ok h
  · split at h
    · rename_i hb
      rw [Bool.and_eq_true] at hb
      exact sk (oEqO_ok (ne := false) hb.2 h)
    · exact doCp_ok h
  · split at h
    · rename_i hb
      rw [Bool.and_eq_true] at hb
      exact sk (oEqO_ok (ne := true) hb.2 h)
    · exact doCp_ok h
  · rename_i c
    split at h
    · rename_i f hc
      obtain ⟨callee, args, argTypes⟩ := c
      subst hc
      exact doOpt_ok h
    · exact doCp_ok h
  · exact doCp_ok h
def dz (T : Ents X) : Doer X := ⟨fun _ => none, doZ T, doZ_ok⟩
end
end Go.Proofs.YtlpiomnmaiddbaaGreatDoor.E
namespace Go.Proofs.YtlpiomnmaiddbaaGreatDoor.E
set_option linter.unusedVariables false
set_option linter.unusedSimpArgs false
open Go Go.RowKit
section
variable {X : Cx} {G : List Nat} {w0 w w' : World}
/-- Such a row stays while what there was stays. -/
theorem RRepL.moveF (hb : ∀ b, b < w.heap.size → w'.heap[b]? = w.heap[b]?) : ∀ {ds : List (DV X.τ)} {vs : List Value}, RRepL X (fun _ _ _ _ => False) w ds vs → RRepL X (fun _ _ _ _ => False) w' ds vs
  | [], vs, h => h
  | .c x :: r, vs, ⟨a, b, h1, h2, h3⟩ => ⟨a, b, h1, h2, RRepL.moveF hb (ds := r) h3⟩
  | .sl T l :: r, vs, ⟨A, c, b, h1, h2, h3⟩ => ⟨A, c, b, h1, h2.move fun a ha hl => hb a.block (h2.lt ha hl), RRepL.moveF hb (ds := r) h3⟩
  | .pt T x :: r, vs, ⟨A, b, h1, h2, h3⟩ => ⟨A, b, h1, by cases x with
      | none => exact h2
      | some y => exact h2.elim, RRepL.moveF hb (ds := r) h3⟩
theorem RdD.move {T : Nat} {f : Nat → List Value} {A : Option Addr} {cap : Nat} {l : List (X.τ T)} (h : RdD X T f w A cap l) (hk : Kp [] w w') : RdD X T f w' A cap l := by
  have hb : ∀ b, b < w.heap.size → w'.heap[b]? = w.heap[b]? := fun b hlt => hk.block b hlt (by simp)
  refine ⟨h.1, fun i x hx => ?_⟩
  obtain ⟨a, h1, h2, h3⟩ := h.2 i x hx
  refine ⟨a, h1, RRepL.moveF hb h2, fun j u hj => ?_⟩
  have h4 := h3 j u hj
  have hlt := World.block_lt_of_cell? w _ h4
  rw [add_block'] at hlt
  rw [World.cell?_of_block (w := w) (by rw [add_block']; exact hb _ hlt)]
  exact h4
/-- What lies at a place of such cells. -/
def partD {τ : Nat → Type} : List (DV τ) → Nat → Option (DV τ)
  | [], _ => none
  | d :: r, off => match off with
    | 0 => some d
    | m + 1 => match d with
      | .c x => match Nat.ble x.n (m + 1) with
        | true => partD r (m + 1 - x.n)
        | false => none
      | _ => partD r m
theorem partD_c {Rp : ∀ T, World → Option Addr → X.τ T → Prop} : ∀ {ds : List (DV X.τ)} {off : Nat} {vs : List Value} {x : Cl}, RRepL X Rp w ds vs → partD ds off = some (.c x) → x.n = 1 → ∃ v, vs[off]? = some v ∧ CR ρ0 x [v]
  | d :: r, off, vs, x, h, e, hn => by
    unfold partD at e
    split at e
    · cases e
      obtain ⟨a, b, h1, h2, h3⟩ := h
      have hl := h2.len
      rw [hn] at hl
      obtain ⟨v, rfl⟩ := List.length_eq_one_iff.1 hl
      exact ⟨v, by rw [h1]; rfl, h2⟩
    · rename_i m
      split at e
      · rename_i y
        obtain ⟨a, b, h1, h2, h3⟩ := h
        split at e
        · rename_i hb
          have hb := Nat.le_of_ble_eq_true hb
          obtain ⟨v, q1, q2⟩ := partD_c h3 e hn
          refine ⟨v, ?_, q2⟩
          have hl := h2.len
          rw [h1, List.getElem?_append_right (by omega), hl]
          exact q1
        · cases e
      · rename_i hne
        cases d with
        | c y => exact absurd rfl (hne y)
        | sl T l =>
          obtain ⟨A, c, b, h1, h2, h3⟩ := h
          obtain ⟨v, q1, q2⟩ := partD_c h3 e hn
          exact ⟨v, by rw [h1]; exact q1, q2⟩
        | pt T y =>
          obtain ⟨A, b, h1, h2, h3⟩ := h
          obtain ⟨v, q1, q2⟩ := partD_c h3 e hn
          exact ⟨v, by rw [h1]; exact q1, q2⟩
theorem partD_sl {Rp : ∀ T, World → Option Addr → X.τ T → Prop} : ∀ {ds : List (DV X.τ)} {off : Nat} {vs : List Value} {T : Nat} {l : List (X.τ T)}, RRepL X Rp w ds vs → partD ds off = some (.sl T l) → ∃ A c, vs[off]? = some (.slice A l.length c) ∧ Rd w (X.E T) A c l
  | d :: r, off, vs, T, l, h, e => by
    unfold partD at e
    split at e
    · cases e
      obtain ⟨A, c, b, h1, h2, h3⟩ := h
      exact ⟨A, c, by rw [h1]; rfl, h2⟩
    · rename_i m
      split at e
      · rename_i y
        obtain ⟨a, b, h1, h2, h3⟩ := h
        split at e
        · rename_i hb
          have hb := Nat.le_of_ble_eq_true hb
          obtain ⟨A, c, q1, q2⟩ := partD_sl h3 e
          refine ⟨A, c, ?_, q2⟩
          have hl := h2.len
          rw [h1, List.getElem?_append_right (by omega), hl]
          exact q1
        · cases e
      · rename_i hne
        cases d with
        | c y => exact absurd rfl (hne y)
        | sl T l =>
          obtain ⟨A, c, b, h1, h2, h3⟩ := h
          obtain ⟨A', c', q1, q2⟩ := partD_sl h3 e
          exact ⟨A', c', by rw [h1]; exact q1, q2⟩
        | pt T y =>
          obtain ⟨A, b, h1, h2, h3⟩ := h
          obtain ⟨A', c', q1, q2⟩ := partD_sl h3 e
          exact ⟨A', c', by rw [h1]; exact q1, q2⟩
/-- A row whose elements lead on to rows. -/
def deepOf (H : HP X) (o : Nat) : Option ((T : Nat) × List (X.τ T)) := match H o with
  | some (.ro T l) => match X.dp T with
    | true => some ⟨T, l⟩
    | false => none
  | _ => none
theorem deepOf_ok {H : HP X} {o T : Nat} {l : List (X.τ T)} (h : deepOf H o = some ⟨T, l⟩) : H o = some (.ro T l) ∧ X.dp T = true := by
  unfold deepOf at h
  split at h
  · rename_i T' l' e
    split at h
    · rename_i hd; cases h; exact ⟨e, hd⟩
    · cases h
  · cases h
theorem RelL.deep {ρ : Rho} {H HH : HP X} {Lo : List (Nat × AO X.τ)} (h : RelL X G w0 ρ HH Lo w) {o T : Nat} {l : List (X.τ T)} (hx : deepOf H o = some ⟨T, l⟩) (hf : HH o = H o) : ∃ L, ρ o = some L ∧ l.length = L.n ∧ L.sz = (X.ti T).n ∧ ∃ f, ∀ w', Kp G w0 w' → RdD X T f w' L.A L.cap l := by
  obtain ⟨h1, h2⟩ := deepOf_ok hx
  obtain ⟨L, k1, k2, k3, f, k4⟩ := h.ro_rr (hf.trans h1)
  exact ⟨L, k1, k2, k3, f, fun w' hk => Rr_deep h2 (k4 w' hk)⟩
def oDLen (X : Cx) (t : Nat) (x : Option AV) (H : HP X) {R : Type} (k : Rs X → Option R) (el : Option R) : Option R := match x with
  | some (.o (.c (.sl o))) => match deepOf H o with
    | some ⟨T, l⟩ => match X.si t with
      | some s => match s.k with
        | .sl _ => k ⟨VI .i64 (l.length : Int), [], [o]⟩
        | _ => none
      | none => none
    | none => el
  | _ => el
theorem oDLen_ok {ev : Ev} {t : Nat} {x : Operand} {H : HP X} {fr : Nat} {R : Type} {k : Rs X → Option R} {el : Option R} {r : R} (h : oDLen X t (ev x) H k el = some r) : (∃ rs, k rs = some r ∧ Sim X (.call { callee := .builtin .len, args := #[x], argTypes := #[t] }) ev H fr rs) ∨ el = some r := by
  unfold oDLen at h
  split at h
  · rename_i o hx
    split at h
    · rename_i T l hd
      left
      split at h
      · rename_i s hs
        split at h
        · rename_i e' hk
          have hu := (X.siOk hs).sl hk
          refine ⟨_, h, Sim.read fun G w0 ρ HH Lo w e ty hop hf hr => ?_⟩
          have hop : OpsR ρ ev e [x] := hop
          obtain ⟨L, h1, h2⟩ := AR_sl (hop.1 _ hx)
          obtain ⟨L', k1, k2, k3, k4⟩ := hr.deep hd (hf o (by simp))
          have : L = L' := Option.some.inj (h1.symm.trans k1)
          subst this
          refine ⟨.int .i64 (l.length : Int), bi_run rfl ?_, rfl⟩
          rw [k2]
          simp [builtin, Builtin.len_, h2, run_underlying hu, goInt]
        · cases h
      · cases h
    · exact .inr h
  · exact .inr h
def oDIdx (X : Cx) (t : Nat) (x i : Option AV) (H : HP X) {R : Type} (k : Rs X → Option R) (el : Option R) : Option R := match x with
  | some (.o (.c (.sl o))) => match deepOf H o with
    | some ⟨T, l⟩ => match i with
      | some (.o (.c (.int _ n))) => match elOk X t T with
        | true => if 0 ≤ n ∧ n < (l.length : Int) then k ⟨VC (.pt o n 0 none), [], [o]⟩ else none
        | false => none
      | _ => none
    | none => el
  | _ => el
theorem oDIdx_ok {ev : Ev} {t : Nat} {x i : Operand} {H : HP X} {fr : Nat} {R : Type} {k : Rs X → Option R} {el : Option R} {r : R} (h : oDIdx X t (ev x) (ev i) H k el = some r) : (∃ rs, k rs = some r ∧ Sim X (.indexAddr t x i) ev H fr rs) ∨ el = some r := by
  unfold oDIdx at h
  split at h
  · rename_i o hx
    split at h
    · rename_i T l hd
      left
      split at h
      · rename_i kd n hi
        split at h
        · rename_i hel
          obtain ⟨q1, q2⟩ := elOk_ok hel
          split at h
          · rename_i hb
            refine ⟨_, h, Sim.read fun G w0 ρ HH Lo w e ty hop hf hr => ?_⟩
            obtain ⟨L, h1, h2⟩ := AR_sl (hop.1 _ hx)
            obtain ⟨L', k1, k2, k3, f, k4⟩ := hr.deep hd (hf o (by simp))
            have : L = L' := Option.some.inj (h1.symm.trans k1)
            subst this
            obtain ⟨a, ha, _⟩ := (k4 w hr.kp).2 _ _ (ix_some (d := (X.E T).d) hb.1 hb.2)
            rw [ha, ← k2] at h2
            refine ⟨_, x_idx (T := T) hb q1 q2 h2 (AR_int (hop.2.1 _ hi)), L, a, h1, ha, by rw [← k2]; exact hb, (fun p hp => by cases hp), ?_⟩
            rw [k3]
            simp [jn, Cx.E, TI.E]
          · cases h
        · cases h
      · cases h
    · exact .inr h
  · exact .inr h
/-- What is loaded of an element: a cell, or a row. -/
def oDLoad (X : Cx) (t : Nat) (x : Option AV) (H : HP X) (fr : Nat) {R : Type} (k : Rs X → Option R) (el : Option R) : Option R := match x with
  | some (.o (.c (.pt o i off none))) => match deepOf H o with
    | some ⟨T, l⟩ => match isRowS X t with
      | some false => match partD ((X.ti T).opn (ix (X.ti T).d l i)) off with
        | some (.c c) => match Nat.beq c.n 1 with
          | true => k ⟨VC c, [], [o]⟩
          | false => none
        | some (.sl T' l') => match X.dp T' with
          | false => k ⟨VC (.sl fr), [(fr, some (.ro T' l'))], [o]⟩
          | true => none
        | _ => none
      | _ => none
    | none => el
  | _ => el
where isRowS (X : Cx) (t : Nat) : Option Bool := match X.si t with
  | some s => some s.row
  | none => none
theorem isRowS_ok {t : Nat} {b : Bool} (h : oDLoad.isRowS X t = some b) : (X.P.underlying t).map (·.isRow) = some b := by
  unfold oDLoad.isRowS at h
  split at h
  · rename_i s hs
    cases h
    exact (X.siOk hs).isRow
  · cases h
theorem oDLoad_ok {ev : Ev} {t : Nat} {x : Operand} {H : HP X} {fr : Nat} {R : Type} {k : Rs X → Option R} {el : Option R} {r : R} (h : oDLoad X t (ev x) H fr k el = some r) : (∃ rs, k rs = some r ∧ Sim X (.load t x) ev H fr rs) ∨ el = some r := by
  unfold oDLoad at h
  split at h
  · rename_i o i off hx
    split at h
    · rename_i T l hd
      left
      split at h
      · rename_i hrow
        have hu := isRowS_ok hrow
        have get : ∀ {G : List Nat} {w0 : World} {ρ : Rho} {HH : HP X} {Lo : List (Nat × AO X.τ)} {w : World} {e : Operand → Value}, OpsR ρ ev e [x] → HH o = H o → RelL X G w0 ρ HH Lo w →
            ∃ (L : Loc) (A : Addr) (f : Nat → List Value), ρ o = some L ∧ L.A = some A ∧ e x = .pointer (some (A.add (i.toNat * (X.ti T).n + off))) ∧ ∀ w', Kp G w0 w' → RRepL X (fun _ _ _ _ => False) w' ((X.ti T).opn (ix (X.ti T).d l i)) (f i.toNat) ∧ ∀ j u, (f i.toNat)[j]? = some u → w'.cell? (A.add (i.toNat * (X.ti T).n + j)) = some u := by
          intro G w0 ρ HH Lo w e hop hf hr
          obtain ⟨L, A, h1, h2, h3, h4, h5⟩ := AR_pt (hop.1 _ hx)
          obtain ⟨L', k1, k2, k3, f, k4⟩ := hr.deep hd hf
          have : L = L' := Option.some.inj (h1.symm.trans k1)
          subst this
          refine ⟨L, A, f, h1, h2, ?_, fun w' hk => ?_⟩
          · rw [h5, k3]
            simp [jn]
          · obtain ⟨a, ha, c1, c2⟩ := (k4 w' hk).2 _ _ (ix_some (d := (X.ti T).d) h3.1 (by rw [k2]; exact h3.2))
            rw [h2] at ha
            cases ha
            exact ⟨c1, c2⟩
        split at h
        · rename_i c hp
          split at h
          · rename_i hn
            have hn := Nat.eq_of_beq_eq_true hn
            refine ⟨_, h, Sim.read fun G w0 ρ HH Lo w e ty hop hf hr => ?_⟩
            obtain ⟨L, A, f, g1, g2, g3, g4⟩ := get (show OpsR ρ ev e [x] from hop) (hf o (by simp)) hr
            obtain ⟨g5, g6⟩ := g4 w hr.kp
            obtain ⟨v, q1, q2⟩ := partD_c g5 hp hn
            exact ⟨v, x_load g3 hu (g6 off v q1), cr_ρ0 q2⟩
          · cases h
        · rename_i T' l' hp
          split at h
          · rename_i hdp
            refine ⟨_, h, fun G w0 ρ HH Lo w e ty hop hf hr hfr => .inl ?_⟩
            obtain ⟨L, A, f, g1, g2, g3, g4⟩ := get (show OpsR ρ ev e [x] from hop) (hf o (by simp)) hr
            obtain ⟨g5, g6⟩ := g4 w hr.kp
            obtain ⟨B, c, q1, q2⟩ := partD_sl g5 hp
            have hne : ρ fr = none := hfr fr (Nat.le_refl _) (by omega)
            refine ⟨_, w, x_load g3 hu (g6 off _ q1), setR ρ fr ⟨B, c, l'.length, (X.E T').sz⟩, (fr, .ro T' l') :: Lo, setR_le hne, fun i hi => setR_dom hi, ⟨_, setR_same, rfl⟩, ?_⟩
            refine hr.add hne (hr.fresh hne) (hr.st.emp ⟨rfl, _, setR_same, rfl, rfl, fun _ => [], fun w' hk => Rr_of hdp ?_⟩)
            obtain ⟨g7, g8⟩ := g4 w' hk
            obtain ⟨B', c', q3, q4⟩ := partD_sl g7 hp
            rw [q1] at q3
            cases q3
            exact q4
          · cases h
        · cases h
      · cases h
    · exact .inr h
  · exact .inr h
variable {fx0 : Rho}
def doD (T : Ents X) (R : Type) (op : Op) (ev : Ev) (H : HP X) (fr : Nat) (k : Rs X → Option R) : Option R := match op with
  | .load t x => oDLoad X t (ev x) H fr k (doZ T R (.load t x) ev H fr k)
  | .indexAddr t x i => oDIdx X t (ev x) (ev i) H k (doZ T R (.indexAddr t x i) ev H fr k)
  | .call c => match lenOf c with
    | some (x, t) => oDLen X t (ev x) H k (doZ T R (.call c) ev H fr k)
    | none => doZ T R (.call c) ev H fr k
  | op => doZ T R op ev H fr k
where lenOf (c : Call) : Option (Operand × TypeId) := match c.callee with
  | .builtin .len => match c.args.toList with
    | [x] => match c.argTypes.toList with
      | [t] => some (x, t)
      | _ => none
    | _ => none
  | _ => none
theorem lenOf_ok {c : Call} {x : Operand} {t : TypeId} (h : doD.lenOf c = some (x, t)) : c = { callee := .builtin .len, args := #[x], argTypes := #[t] } := by
  obtain ⟨callee, args, ats⟩ := c
  unfold doD.lenOf at h
  split at h
  · rename_i hc
    split at h
    · rename_i y hy
      split at h
      · rename_i s hs
        cases h
        have e1 : args = #[x] := Array.ext' hy
        have e2 : ats = #[t] := Array.ext' hs
        have e3 : callee = .builtin .len := hc
        subst e1 e2 e3
        rfl
      · cases h
    · cases h
  · cases h
theorem doD_ok {T : Ents X} {R : Type} {op : Op} {ev : Ev} {H : HP X} {fr : Nat} {k : Rs X → Option R} {r : R} (h : doD T R op ev H fr k = some r) : ∃ rs, k rs = some r ∧ SimW X fx0 op ev H fr rs := by
  unfold doD at h
  split at h
  · rcases oDLoad_ok h with h | h
    · exact sk h
    · exact doZ_ok h
  · rcases oDIdx_ok h with h | h
    · exact sk h
    · exact doZ_ok h
  · split at h
    · rename_i c x t hl
      have := lenOf_ok hl
      subst this
      rcases oDLen_ok h with h | h
      · exact sk h
      · exact doZ_ok h
    · exact doZ_ok h
  · exact doZ_ok h
/-- Rows whose elements lead on to rows, too: THE doer. -/
def dy (T : Ents X) : Doer X := ⟨fun _ => none, doD T, doD_ok⟩
end
end Go.Proofs.YtlpiomnmaiddbaaGreatDoor.E
namespace Go.Proofs.YtlpiomnmaiddbaaGreatDoor.E
set_option linter.unusedVariables false
set_option linter.unusedSimpArgs false
open Go Go.RowKit
section
variable {P : Program} {ev : Operand → Value} {G : List Nat} {w0 w : World} {As : List Asn} {T : TypeId} {α : Type} {E : Enc α} {A : Option Addr} {cap : Nat} {l : List α}
theorem own_drop {L : BL} {n : Nat} (h : own T E A cap l L) (hn : n ≤ l.length) : own T E (cutA A cap n E.sz) (cap - n) (l.drop n) L := by
  rcases h with ⟨rfl, rfl, rfl, rfl⟩ | ⟨g, b0, cur, rfl, h2, h3, h4, h5, rfl⟩
  · refine .inl ⟨?_, by omega, by simp, rfl⟩
    unfold cutA
    split <;> rfl
  · unfold cutA
    split
    · rename_i hc
      have : l.drop n = [] := List.drop_eq_nil_of_le (by omega)
      rw [this]
      exact .inr ⟨g, b0, cur, rfl, Nat.zero_le _, by omega, by rw [hc, Nat.sub_self, Nat.zero_mul]; omega, by simp, rfl⟩
    · refine .inr ⟨g, b0 + n * E.sz, cur, by rw [Option.map_some, badd], by rw [List.length_drop]; omega, by omega, ?_, ?_, rfl⟩
      · rw [Nat.add_assoc, ← Nat.add_mul, show n + (cap - n) = cap by omega]; exact h4
      · have hs : l.flatMap E.enc = (l.take n).flatMap E.enc ++ (l.drop n).flatMap E.enc := by rw [← List.flatMap_append, List.take_append_drop]
        have hl : ((l.take n).flatMap E.enc).length = n * E.sz := by rw [flat_len, List.length_take, Nat.min_eq_left hn]
        have : (l.drop n).flatMap E.enc = (l.flatMap E.enc).drop (n * E.sz) := by rw [hs, ← hl, List.drop_left]
        rw [this, ← h5, List.drop_take, List.drop_drop, List.length_drop, Nat.sub_mul]
end
section
variable {X : Cx} {fx0 : Rho}
/-- A row of the call's own, cut for good: what it was is gone. -/
def oTake (X : Cx) (t : Nat) (x lo : Option AV) (H : HP X) (fr : Nat) {R : Type} (k : Rs X → Option R) (el : Option R) : Option R := match x with
  | some (.o (.c (.sl o))) => match H o with
    | some (.own T v l) => match elOk X t T with
      | true => match lo with
        | some (.o (.c (.int _ a))) => if 0 ≤ a ∧ a ≤ (l.length : Int) then k ⟨VC (.sl fr), [(o, none), (fr, some (.own T 0 (l.drop a.toNat)))], [o]⟩ else none
        | _ => none
      | false => none
    | _ => el
  | _ => el
theorem oTake_ok {ev : Ev} {t : Nat} {x y : Operand} {H : HP X} {fr : Nat} {R : Type} {k : Rs X → Option R} {el : Option R} {r : R} (h : oTake X t (ev x) (ev y) H fr k el = some r) : (∃ rs, k rs = some r ∧ Sim X (.slice t x (some y) none none) ev H fr rs) ∨ el = some r := by
  unfold oTake at h
  split at h
  · rename_i o hx
    split at h
    · rename_i T v l ho
      left
      split at h
      · rename_i hel
        obtain ⟨q1, q2⟩ := elOk_ok hel
        split at h
        · rename_i ka a hy
          split at h
          · rename_i hab
            refine ⟨_, h, fun G w0 ρ HH Lo w e ty hop hf hr hfr => .inl ?_⟩
            have hop : OpsR ρ ev e [x, y] := hop
            obtain ⟨Lp, hp⟩ := hr.focus ((hf o (by simp)).trans ho)
            obtain ⟨L, k1, k2, k3, k4⟩ := asn_own hp.st
            obtain ⟨L', h1, h2⟩ := AR_sl (hop.1 _ hx)
            have : L = L' := Option.some.inj (k1.symm.trans h1)
            subst this
            have hy' := AR_int (hop.2.1 _ hy)
            rw [← k2] at h2
            have r1 := x_lo (P := X.P) (w := w) (E := X.E T) (ty := ty) q1 q2 h2 hy' hab.1 hab.2
            have hne : ρ fr = none := hfr fr (Nat.le_refl _) (by omega)
            have hd := hp.del
            have hd2 : St G w0 w (own T (X.E T) (cutA L.A L.cap a.toNat (X.E T).sz) (L.cap - a.toNat) (l.drop a.toNat) :: Lp.map fun p => asn X G w0 ρ (set1 HH o none) p.1 p.2) := by
              have hh : HPle ρ HH (set1 HH o none) := fun q _ => by
                by_cases e : q = o
                · subst e; rw [set1_same]; exact .inr (.inl rfl)
                · rw [set1_other _ _ e]; exact .inl rfl
              refine St.monoL (As := [own T (X.E T) (cutA L.A L.cap a.toNat (X.E T).sz) (L.cap - a.toNat) (l.drop a.toNat)]) (l := Lp) (f := fun p => asn X G w0 ρ HH p.1 p.2) (g := fun p => asn X G w0 ρ (set1 HH o none) p.1 p.2) (fun p _ L hL => asn.mono (Rho.le_refl ρ) hh hL) ?_
              obtain ⟨Lb, ⟨L1, L2, e1, e2, e3⟩, e4⟩ := k4
              exact ⟨Lb, ⟨L1, L2, e1, own_drop e2 (by omega), e3⟩, e4⟩
            exact ⟨_, w, r1, _, _, setR_le hne, fun i hi => setR_dom hi, ⟨_, setR_same, rfl⟩, hd.newRow hne hd2⟩
          · cases h
        · cases h
      · cases h
    · exact .inr h
  · exact .inr h
def doQ (T : Ents X) (R : Type) (op : Op) (ev : Ev) (H : HP X) (fr : Nat) (k : Rs X → Option R) : Option R := match op with
  | .slice t x (some y) none none => oTake X t (ev x) (ev y) H fr k (doD T R (.slice t x (some y) none none) ev H fr k)
  | op => doD T R op ev H fr k
theorem doQ_ok {T : Ents X} {R : Type} {op : Op} {ev : Ev} {H : HP X} {fr : Nat} {k : Rs X → Option R} {r : R} (h : doQ T R op ev H fr k = some r) : ∃ rs, k rs = some r ∧ SimW X fx0 op ev H fr rs := by
  unfold doQ at h
  split at h
  · rcases oTake_ok h with h | h
    · exact sk h
    · exact doD_ok h
  · exact doD_ok h
/-- Where a cut of an own row takes its place. -/
def dq (T : Ents X) : Doer X := ⟨fun _ => none, doQ T, doQ_ok⟩
end
end Go.Proofs.YtlpiomnmaiddbaaGreatDoor.E
