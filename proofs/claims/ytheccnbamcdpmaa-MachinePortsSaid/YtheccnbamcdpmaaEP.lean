/- The engine's words, twenty-fifth part: variables that hold pointers, rows that are only read and cut. No condition. -/
import Derived.Test.YtheccnbamcdpmaaEO
namespace Go.Proofs.Ytheccnbamcdpmaa.E
set_option linter.unusedVariables false
set_option linter.unusedSimpArgs false
open Go Go.RowKit Go.Proofs.YtheccnbamcdpmaaW.PrintLast
section
variable {α : Type} {E : Enc α} {G : List Nat} {w0 w : World} {A A' : Option Addr} {cap cap' : Nat} {l l' : List α} {As : List Asn} {T : TypeId} {x : α}
theorem badd (g o n : Nat) : (⟨g, o, none⟩ : Addr).add n = ⟨g, o + n, none⟩ := by unfold Addr.add; split <;> simp_all
theorem St.oM_of {m : Option Addr → α → Asn} (h : St G w0 w (m A x :: As)) : St G w0 w (oM m A (some x) :: As) := h
theorem St.oM_some {m : Option Addr → α → Asn} {o : Option α} (h : St G w0 w (oM m A o :: As)) (ho : o = some x) : St G w0 w (m A x :: As) := by subst ho; exact h
theorem St.oM_back {m : Option Addr → α → Asn} {o : Option α} (h : St G w0 w (m A x :: As)) (ho : o = some x) : St G w0 w (oM m A o :: As) := by subst ho; exact h
/-- A row that is only read: whoever has its blocks can read it. -/
def rdo {α : Type} (E : Enc α) (A : Option Addr) (cap : Nat) (l : List α) : Asn := fun L => ∀ w : World, (∀ p ∈ L, w.heap[p.1]? = some p.2) → Rd w E A cap l
theorem Rd.of_rdo (h : St G w0 w (rdo E A cap l :: As)) : Rd w E A cap l := by
  obtain ⟨L, ⟨L1, L2, rfl, ha, _⟩, hs⟩ := h
  exact ha w fun p hp => hs.here p (List.mem_append_left _ hp)
theorem St.rdo_of_own (h : St G w0 w (own T E A cap l :: As)) : St G w0 w (rdo E A cap l :: As) := by
  obtain ⟨L, ⟨L1, L2, rfl, ha, hr⟩, hs⟩ := h
  refine ⟨_, ⟨L1, L2, rfl, fun w' hw' => ?_, hr⟩, hs⟩
  rcases ha with ⟨rfl, rfl, rfl, rfl⟩ | ⟨g, cur, rfl, h1, h2, h3, h4, rfl⟩
  · exact Rd.nil w' E
  · have hh : w'.heap[g]? = some (.cells cur T (0, 0)) := hw' (g, .cells cur T (0, 0)) (by simp)
    refine ⟨h1, fun i x hi => ⟨_, rfl, fun j u hj => ?_⟩⟩
    have hjlt : j < E.sz := by rw [← E.len x]; exact (List.getElem?_eq_some_iff.1 hj).1
    rw [add_zero_addr, cell_of_row w' g _ cur T (0, 0) hh]
    have := take_get h4 ((flat_get (E := E) hi hjlt).trans hj)
    simpa using this
theorem St.rdo_cut (h : ∀ w', Rd w' E A cap l → Rd w' E A' cap' l') (hs : St G w0 w (rdo E A cap l :: As)) : St G w0 w (rdo E A' cap' l' :: As) := by
  obtain ⟨L, ⟨L1, L2, rfl, ha, hr⟩, hs⟩ := hs
  exact ⟨_, ⟨L1, L2, rfl, fun w' hw' => h w' (ha w' hw'), hr⟩, hs⟩
end
section
variable {P : Program} {L : SL} {G : List Nat} {w0 w : World} {A : Option Addr} {cap : Nat} {As : List Asn} {T : TypeId}
/-- What copy(xs, ys) makes of xs. -/
def lputw (l l2 : List Int) : List Int := l2.take l.length ++ l.drop l2.length
theorem lputw_len {l l2 : List Int} : (lputw l l2).length = l.length := by unfold lputw; simp only [List.length_append, List.length_take, List.length_drop]; omega
theorem flat_eI {k : IntKind} : ∀ r : List Int, r.flatMap (eI k).enc = r.map (Value.int k)
  | [] => rfl
  | a :: r => by rw [List.flatMap_cons, flat_eI r]; rfl
/-- copy(xs, ys) into a row of the call's own. -/
theorem x_copyw {dT sT e : TypeId} {y z : Operand} {ty : TypeId} {k : IntKind} {l l2 : List Int} {A2 : Option Addr} {c2 : Nat} {aS : Act} {nS : Nat} (_hs : Slots aS nS L)
    (hst : St G w0 w (own T (eI k) A cap l :: As)) (ht : P.underlying dT = some (.slice e)) (hs : (P.info? e).map (·.size) = some 1)
    (hx : evD L y = .slice A l.length cap) (hz : evD L z = .slice A2 l2.length c2) (hr : Rd w (eI k) A2 c2 l2) :
    ∃ w', (execOp (evD L) (mkO (.call { callee := .builtin .copy, args := #[y, z], argTypes := #[dT, sT] }) ty)).run P w = .ok (.value (.int .i64 ((l2.take l.length).length : Int))) w' ∧ St G w0 w' (own T (eI k) A cap (lputw l l2) :: As) := by
  have hrun : ∀ {u w'}, (Builtin.copy_ #[dT, sT] ty #[.slice A l.length cap, .slice A2 l2.length c2]).run P w = .ok u w' →
      (execOp (evD L) (mkO (.call { callee := .builtin .copy, args := #[y, z], argTypes := #[dT, sT] }) ty)).run P w = .ok (.value u) w' := by
    intro u w' h
    unfold execOp mkO
    simp only [resolve, invoke, builtin, Sem.run_bind, Sem.run_pure, Result.andThen_ok, List.map_toArray, List.map_cons, List.map_nil, hx, hz, h]
  generalize hlen : l.length = len at *
  have hmin : Nat.min l2.length len = (l2.take len).length := by rw [List.length_take]; exact Nat.min_comm _ _
  obtain ⟨inf, hi, hsz⟩ := Option.map_eq_some_iff.1 hs
  have hcells : (Builtin.firstCells 1 (l2.take len).length (.slice A2 l2.length c2)).run P w = .ok ((l2.take len).map (Value.int k)).toArray w := by
    rcases hr with ⟨_, hrd⟩
    cases hl : l2.take len with
    | nil =>
      cases A2 with
      | none => simp [Builtin.firstCells]
      | some b => simp [Builtin.firstCells, loadCells, loadCellsFrom]
    | cons q qs =>
      have h0 : ∃ b, A2 = some b := by
        cases l2 with
        | nil => simp at hl
        | cons q' r => obtain ⟨b, hb, _⟩ := hrd 0 q' rfl; exact ⟨b, hb⟩
      obtain ⟨b, rfl⟩ := h0
      rw [← hl]
      refine run_firstCells_some w 1 (l2.take len).length b l2.length c2 _ (by simp) fun j u hj => ?_
      rw [List.getElem?_map] at hj
      obtain ⟨z', hz', rfl⟩ := Option.map_eq_some_iff.1 hj
      rw [List.getElem?_take] at hz'
      split at hz'
      · obtain ⟨b', hb', hc'⟩ := hrd j z' hz'
        cases hb'
        have := hc' 0 (.int k z') rfl
        simpa [eI] using this
      · cases hz'
  have hstart : (Builtin.copy_ #[dT, sT] ty #[.slice A len cap, .slice A2 l2.length c2]).run P w = ((stA A ((l2.take len).map (Value.int k))).run P w).andThen fun _ w' => .ok (.int .i64 ((l2.take len).length : Int)) w' := by
    generalize l2.take len = q2 at hmin hcells ⊢
    cases A with
    | none => simp [Builtin.copy_, run_underlying ht, Builtin.lenOf, hmin, sizeOf, typeInfo, hi, hsz, hcells, goInt, stA]
    | some q => simp [Builtin.copy_, run_underlying ht, Builtin.lenOf, hmin, sizeOf, typeInfo, hi, hsz, hcells, goInt, stA]
  obtain ⟨LL, ⟨L1, L2, rfl, hown, hr'⟩, hs'⟩ := hst
  have hput : lputw l l2 = l2.take len ++ l.drop l2.length := by unfold lputw; rw [hlen]
  rcases hown with ⟨rfl, rfl, rfl, rfl⟩ | ⟨g, cur, hg, h2, h3, h4, h5, rfl⟩
  · have h0 : len = 0 := hlen.symm
    subst h0
    refine ⟨w, hrun ?_, ⟨_, ⟨[], L2, rfl, .inl ⟨rfl, rfl, by rw [hput]; simp, rfl⟩, hr'⟩, hs'⟩⟩
    rw [hstart]
    simp [stA, Result.andThen]
  · subst hg
    have hh : w.heap[g]? = some (.cells cur T (0, 0)) := hs'.here (g, .cells cur T (0, 0)) (by simp)
    have hsz1 : (eI k).sz = 1 := rfl
    rw [hsz1, Nat.mul_one] at h4 h5
    rw [flat_eI] at h5
    have hcl : cap ≤ cur.toList.length := by rw [Array.length_toList]; exact h4
    have hql : (l2.take len).length ≤ len := by rw [List.length_take]; omega
    have hst' := run_storeCells_at P g 0 T ((l2.take len).map (Value.int k)) 0 cur w hh (by simp only [List.length_map]; omega) (fun u hu => by
      obtain ⟨q, _, rfl⟩ := List.mem_map.1 hu; rfl)
    simp only [Nat.zero_add, List.length_map] at hst'
    refine ⟨w.setRow g (cur.toList.take 0 ++ (l2.take len).map (Value.int k) ++ cur.toList.drop (l2.take len).length).toArray, hrun ?_, ?_⟩
    · rw [hstart]
      simp only [stA, hst', Result.andThen]
    · refine ⟨_, ⟨[_], L2, rfl, .inr ⟨g, _, rfl, by rw [lputw_len]; exact h2, h3, ?_, ?_, rfl⟩, hr'⟩, hs'.setRow⟩
      · simp only [List.size_toArray, List.length_append, List.length_take, List.length_drop, List.length_map, hsz1]
        omega
      · rw [lputw_len, hsz1, Nat.mul_one, flat_eI, hput]
        simp only [List.map_append, List.map_drop, List.take_zero, List.nil_append]
        rw [← h5, hlen]
        have t2 : ((l2.take len).map (Value.int k)).length = (l2.take len).length := List.length_map ..
        rw [List.take_append, List.take_of_length_le (l := (l2.take len).map (Value.int k)) (by omega), t2, List.drop_take]
        congr 1
        rw [List.length_take]
        by_cases hb : l2.length ≤ len
        · rw [Nat.min_eq_right hb]
        · have e1 : len - min len l2.length = 0 := by omega
          have e2 : len - l2.length = 0 := by omega
          rw [e1, e2, List.take_zero, List.take_zero]
end
/-! ### variables that are only read -/
section
variable {P : Program} {L : SL} {α : Type} {E : Enc α} {G : List Nat} {w0 w w' : World} {A : Option Addr} {As : List Asn} {T : TypeId} {g : Nat} {cs : List Value} {x : α} {o : Option α}
/-- A variable's cells can be read. -/
def Rx (w : World) (g : Nat) (cs : List Value) : Prop := ∀ j u, cs[j]? = some u → w.cell? ⟨g, j, none⟩ = some u
theorem Rx.of_box (h : St G w0 w (box g T cs :: As)) : Rx w g cs := fun _ _ hu => box_at h hu
theorem Rx.blocks (h : Rx w g cs) (hb : ∀ k, k < w.heap.size → w'.heap[k]? = w.heap[k]?) : Rx w' g cs := fun j u hu => by
  have h1 := h j u hu
  have hl : g < w.heap.size := World.block_lt_of_cell? w _ h1
  rw [World.cell?_of_block (w := w) (hb g hl)]
  exact h1
theorem Rx.below (h : Rx w g cs) (hb : Below w.heap.size w w') : Rx w' g cs := h.blocks hb.block
theorem Rx.bn (h : Rx w g cs) (hb : Bn w.heap.size w w') : Rx w' g cs := h.blocks hb.block
theorem Rx.old (h : Rx w0 g cs) (hs : St [] w0 w As) : Rx w g cs := h.below hs.below
theorem Rd.blocks {cap : Nat} {l : List α} (h : Rd w E A cap l) (hb : ∀ k, k < w.heap.size → w'.heap[k]? = w.heap[k]?) : Rd w' E A cap l := h.move fun a ha hl => hb a.block (h.lt ha hl)
theorem Rd.one (h : Rd w E A 1 [x]) : ∃ a, A = Option.some a := by obtain ⟨a, ha, _⟩ := h.2 0 x rfl; exact ⟨a, ha⟩
def oR {α : Type} (r : World → Option Addr → α → Prop) (w : World) (A : Option Addr) (o : Option α) : Prop := match o with
  | none => A = none
  | some x => r w A x
theorem oR.of_oM {m : Option Addr → α → Asn} {r : World → Option Addr → α → Prop} (hr : ∀ x, St G w0 w (m A x :: As) → r w A x) (h : St G w0 w (oM m A o :: As)) : oR r w A o := by
  cases o with
  | none => exact (St.oM_none h).1
  | some x => exact hr x h
theorem oR.blocks {r : World → Option Addr → α → Prop} (hr : ∀ x, r w A x → r w' A x) (h : oR r w A o) : oR r w' A o := by
  cases o with
  | none => exact h
  | some x => exact hr x h
theorem oR.some {r : World → Option Addr → α → Prop} (h : oR r w A o) (ho : o = some x) : r w A x := by subst ho; exact h
theorem x_rld {t : TypeId} {y : Operand} {ty : TypeId} {p : Addr} {o : Nat} {v : Value} (hr : Rx w g cs) (hx : evD L y = .pointer (some p) := by kernel_rfl) (hp : p = ⟨g, o, none⟩ := by rfl) (hu : (P.underlying t).map (·.isRow) = some false := by kernel_rfl) (hv : cs[o]? = some v := by kernel_rfl) :
    (execOp (evD L) (mkO (.load t y) ty)).run P w = .ok (.value v) w :=
  x_load hx hu (by rw [hp]; exact hr _ _ hv)
theorem x_rlds {t : TypeId} {y : Operand} {ty : TypeId} {p : Addr} {o : Nat} {vs : List Value} (hr : Rx w g cs) (hx : evD L y = .pointer (some p) := by kernel_rfl) (hp : p = ⟨g, o, none⟩ := by rfl) (hu : (P.underlying t).map (·.isRow) = some true := by kernel_rfl) (hi : (P.info? t).map (·.size) = some vs.length := by kernel_rfl) (hv : (cs.drop o).take vs.length = vs := by kernel_rfl) :
    (execOp (evD L) (mkO (.load t y) ty)).run P w = .ok (.value (.agg vs.toArray)) w := by
  refine x_loads hx hu hi fun j u hj => ?_
  rw [hp, badd]
  refine hr _ _ ?_
  rw [← hv, List.getElem?_take] at hj
  split at hj
  · rwa [List.getElem?_drop] at hj
  · cases hj
end
end Go.Proofs.Ytheccnbamcdpmaa.E
