/- The engine, the walk and the plain law, part 5. No condition. -/
import Derived.Test.YtlpiomnmaiddbaaGreatDoorM4
import Derived.Maps.Own
import Derived.Lib.SlKeysI
namespace Go.Proofs.YtlpiomnmaiddbaaGreatDoor.E
set_option linter.unusedVariables false
set_option linter.unusedSimpArgs false
open Go Go.RowKit Go.Maps Go.ChangeMaps Go.MapKept
/-- A map type: what is told of a map of it; what a store makes of that. -/
structure MapW (X : Cx) (t : Nat) where
  emp : X.τ t
  put : X.τ t → Cl → Cl → (R : Type) → (X.τ t → Option R) → Option R
  new : ∀ g, X.M t (some ⟨g, 0, none⟩) emp [(g, .map #[] 0)]
  upd : ∀ {x : X.τ t} {k v : Cl} {R : Type} {K : X.τ t → Option R} {r : R}, put x k v R K = some r → ∃ x', K x' = some r ∧
    ∀ (ρ : Rho) (kv vv : Value) (A : Option Addr) (L : BL) (w : World), CR ρ k [kv] → CR ρ v [vv] → X.M t A x L → (∀ p ∈ L, w.heap[p.1]? = some p.2) →
      ∃ g o o' w', A = some ⟨g, 0, none⟩ ∧ L = [(g, o)] ∧ (Instr.mapUpdate t (.map (some g)) kv vv).run X.P w = .ok () w' ∧ w.grownBy w' (some g) ∧ w'.heap[g]? = some o' ∧ X.M t A x' [(g, o')]
section
variable {X : Cx} {fx0 : Rho} {Ms : ∀ t, Option (MapW X t)}
def oMkMap (Ms : ∀ t, Option (MapW X t)) (t : Nat) (fr : Nat) {R : Type} (k : Rs X → Option R) : Option R := match Ms t with
  | some m => k ⟨VC (.mp fr), [(fr, some (.pk t 0 m.emp))], []⟩
  | none => none
theorem oMkMap_ok {ev : Ev} {t : Nat} {H : HP X} {fr : Nat} {R : Type} {k : Rs X → Option R} {r : R} (h : oMkMap Ms t fr k = some r) : ∃ rs, k rs = some r ∧ Sim X (.makeMap t none) ev H fr rs := by
  unfold oMkMap at h
  split at h
  · rename_i m hm
    refine ⟨_, h, fun G w0 ρ HH Lo w e ty ho hf hr hfr => .inl ?_⟩
    have hne : ρ fr = none := hfr fr (Nat.le_refl _) (by omega)
    refine ⟨.map (some w.heap.size), w.alloc (.map #[] 0), run_v rfl, setR ρ fr ⟨some ⟨w.heap.size, 0, none⟩, 0, 1, 0⟩, (fr, .pk t 0 m.emp) :: Lo, setR_le hne, fun i hi => setR_dom hi, ⟨_, _, setR_same, rfl, rfl⟩, ?_⟩
    refine hr.add hne (hr.fresh hne) ?_
    obtain ⟨L, hc, hs⟩ := hr.st
    exact ⟨_, ⟨[_], L, rfl, ⟨_, setR_same, rfl, rfl, ⟨_, rfl⟩, m.new _⟩, hc⟩, hs.alloc _⟩
  · cases h
def oMapUp (Ms : ∀ t, Option (MapW X t)) (t : Nat) (x y z : Option AV) (H : HP X) {R : Type} (k : Rs X → Option R) : Option R := match x with
  | some (.o (.c (.mp o))) => match H o with
    | some (.pk T v d) => match h : Nat.beq T t with
      | true => match Ms T with
        | some m => match y with
          | some (.o (.c a)) => match z with
            | some (.o (.c b)) => m.put d a b R fun d' => k ⟨.u, [(o, some (.pk T (v + 1) d'))], [o]⟩
            | _ => none
          | _ => none
        | none => none
      | false => none
    | _ => none
  | _ => none
theorem oMapUp_ok {ev : Ev} {t : Nat} {x y z : Operand} {H : HP X} {fr : Nat} {R : Type} {k : Rs X → Option R} {r : R} (h : oMapUp Ms t (ev x) (ev y) (ev z) H k = some r) : ∃ rs, k rs = some r ∧ Sim X (.mapUpdate t x y z) ev H fr rs := by
  unfold oMapUp at h
  split at h
  · rename_i o hx
    split at h
    · rename_i T v d ho
      split at h
      · rename_i hb
        have := Nat.eq_of_beq_eq_true hb
        subst this
        split at h
        · rename_i m hm
          split at h
          · rename_i a hy
            split at h
            · rename_i b hz
              obtain ⟨d', hk, hu⟩ := m.upd h
              refine ⟨_, hk, fun G w0 ρ HH Lo w e ty hop hf hr hfr => .inr (.inl ?_)⟩
              have hop : OpsR ρ ev e [x, y, z] := hop
              obtain ⟨Lp, hp⟩ := hr.focus ((hf o (by simp)).trans ho)
              obtain ⟨Lb, ⟨L1, L2, rfl, ⟨L, k1, k2, k3, k4, k5⟩, hc⟩, hs⟩ := hp.st
              obtain ⟨L', g', q1, q2, q3⟩ := (show CR ρ (.mp o) [e x] from hop.1 _ hx)
              have : L = L' := Option.some.inj (k1.symm.trans q1)
              subst this
              obtain ⟨g, ob, ob', w', p1, p2, p3, p4, p5, p6⟩ := hu ρ (e y) (e z) L.A L1 w (hop.2.1 _ hy) (hop.2.2.1 _ hz) k5 (fun p hp => hs.here p (List.mem_append_left _ hp))
              rw [q2] at p1
              cases p1
              subst p2
              have q3 : e x = .map (some g') := by simpa using q3
              refine ⟨w', run_u (by show (Instr.mapUpdate T (e x) (e y) (e z)).run X.P w = _; rw [q3]; exact p3), ρ, (o, .pk T (v + 1) d') :: Lp, Rho.le_refl ρ, fun i hi => .inl hi, rfl, ?_⟩
              refine hp.upd (.inr (.inr ⟨_, _, rfl, rfl, .inl ⟨v, false, v + 1, false, rfl, rfl, .inl (by omega)⟩⟩)) ?_
              exact ⟨_, ⟨[(g', ob')], L2, rfl, ⟨L, k1, k2, k3, ⟨_, q2⟩, p6⟩, hc⟩, hs.turn p4.os p4.tape p4.output p4.size (fun k hk hne => p4.block k hk (fun e => hne (Option.some.inj e))) p5⟩
            · cases h
          · cases h
        · cases h
      · cases h
    · cases h
  · cases h
def doM (Ms : ∀ t, Option (MapW X t)) (T : Ents X) (R : Type) (op : Op) (ev : Ev) (H : HP X) (fr : Nat) (k : Rs X → Option R) : Option R := match op with
  | .makeMap t none => oMkMap Ms t fr k
  | .mapUpdate t x y z => oMapUp Ms t (ev x) (ev y) (ev z) H k
  | op => doD T R op ev H fr k
theorem doM_ok {T : Ents X} {R : Type} {op : Op} {ev : Ev} {H : HP X} {fr : Nat} {k : Rs X → Option R} {r : R} (h : doM Ms T R op ev H fr k = some r) : ∃ rs, k rs = some r ∧ SimW X fx0 op ev H fr rs := by
  unfold doM at h
  split at h
  · exact sk (oMkMap_ok h)
  · exact sk (oMapUp_ok h)
  · exact doD_ok h
/-- With maps. -/
def dm (Ms : ∀ t, Option (MapW X t)) (T : Ents X) : Doer X := ⟨fun _ => none, doM Ms T, doM_ok⟩
end
/-- A map has no cells of its own. -/
def TI.mapI {τ : Nat → Type} : TI τ (List Int) where
  n := 1
  d := []
  enc _ := [.int .i64 0]
  seg _ := [.int .i64 0]
  inn _ := none
  opn _ := [.c (.int .i64 0)]
  cls _ := none
  hn := Nat.one_pos
  hlen _ := rfl
  hone x u hu := by rw [List.mem_singleton.1 hu]; rfl
  hseg ρ x := CRs.one.2 rfl
  hinn l x r h := by cases h
  hcls l x r h := by cases h
/-! ### maps of whole numbers to true -/
def dmap : List Int → DataW Unit
  | [] => .map []
  | k :: r => (dmap r).put (.int .i64 k) (.lit (.bool true))
def MapI (P : Program) (k e : TypeId) (A : Option Addr) (x : List Int) : Asn := fun L => ∃ g o, A = some ⟨g, 0, none⟩ ∧ L = [(g, o)] ∧ ∀ w : World, w.heap[g]? = some o → w.ownsMap P k (plainElem (H := Unit) P e) g x.length (dmap x)
theorem MapI_mk (P : Program) (k e : TypeId) (g : Nat) : MapI P k e (some ⟨g, 0, none⟩) [] [(g, .map #[] 0)] :=
  ⟨g, _, rfl, rfl, fun w hw => ⟨#[], 0, hw, ⟨by simp, stamped_empty 0, by simp⟩, Nat.le_refl _, rfl⟩⟩
/-- A key is put. -/
def putI (x : List Int) (k v : Cl) (R : Type) (K : List Int → Option R) : Option R := match k with
  | .int .i64 n => match v with
    | .bool (.val true) => if -9223372036854775808 ≤ n ∧ n ≤ 9223372036854775807 ∧ x.length < 1000000 then K (n :: x) else none
    | _ => none
  | _ => none
theorem putI_ok {P : Program} {t k e : TypeId} (ht : P.underlying t = some (.map k e)) (hk : P.underlying k = some (.int .i64)) (he : P.underlying e = some .bool) {x : List Int} {a b : Cl} {R : Type} {K : List Int → Option R} {r : R} (h : putI x a b R K = some r) : ∃ x', K x' = some r ∧
    ∀ (ρ : Rho) (kv vv : Value) (A : Option Addr) (L : BL) (w : World), CR ρ a [kv] → CR ρ b [vv] → MapI P k e A x L → (∀ p ∈ L, w.heap[p.1]? = some p.2) →
      ∃ g o o' w', A = some ⟨g, 0, none⟩ ∧ L = [(g, o)] ∧ (Instr.mapUpdate t (.map (some g)) kv vv).run P w = .ok () w' ∧ w.grownBy w' (some g) ∧ w'.heap[g]? = some o' ∧ MapI P k e A x' [(g, o')] := by
  unfold putI at h
  split at h
  · rename_i n
    split at h
    · split at h
      · rename_i hn
        refine ⟨_, h, fun ρ kv vv A L w h1 h2 h3 h4 => ?_⟩
        obtain ⟨g, o, rfl, rfl, h3⟩ := h3
        have h1 : kv = .int .i64 n := by simpa [CR] using h1
        have h2 : vv = .bool true := by simpa [CR, BE.v] using h2
        subst h1 h2
        have hw : (Lit.int .i64 n).wf = true := by
          have e1 : IntKind.min .i64 = -9223372036854775808 := rfl
          have e2 : IntKind.max .i64 = 9223372036854775807 := rfl
          simp only [Lit.wf, e1, e2, Bool.and_eq_true, decide_eq_true_eq]
          exact ⟨hn.1, hn.2.1⟩
        obtain ⟨w', q1, q2, q3⟩ := (h3 w (h4 (g, o) (by simp))).update (int_keyed hk) ht (Nat.lt_trans hn.2.2 (by decide)) (keyOf_int_mk hk hw) (plainElem_bool he true)
        obtain ⟨es, clock, r1, r2, r3, r4⟩ := q2
        exact ⟨g, o, _, w', rfl, rfl, q1, q3, r1, g, _, rfl, rfl, fun w2 hw2 => ⟨es, clock, hw2, r2, r3, r4⟩⟩
      · cases h
    · cases h
  · cases h
/-- Its keys, in order. -/
def keysS (x : List Int) : List Int := (intKeys (dmap x)).mergeSort (fun a b => decide (a ≤ b))
end Go.Proofs.YtlpiomnmaiddbaaGreatDoor.E
