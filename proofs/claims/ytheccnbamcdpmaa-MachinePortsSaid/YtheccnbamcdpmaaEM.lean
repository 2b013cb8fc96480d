/- The engine's words, twenty-second part: open orders as in the part before, where the last effects may write: what is quiet and reads comes ahead of all of them. No condition. -/
import Derived.Test.YtheccnbamcdpmaaEL
namespace Go.Proofs.Ytheccnbamcdpmaa.E
set_option linter.unusedVariables false
set_option linter.unusedSimpArgs false
open Go Go.RowKit Go.Proofs.YtheccnbamcdpmaaW.PrintLast
section
variable {P : Program} {ops : Array Oper} {Q : Exit → Act → World → Prop} {ds : List Nat}
/-- Nothing below block B is turned; nothing is said of how many there are. -/
structure Bn (B : Nat) (w w' : World) : Prop where
  os : w'.os = w.os
  tape : w'.tape = w.tape
  output : w'.output = w.output
  block : ∀ k, k < B → w'.heap[k]? = w.heap[k]?
theorem Bn.refl (B : Nat) (w : World) : Bn B w w := ⟨rfl, rfl, rfl, fun _ _ => rfl⟩
theorem Bn.trans {B : Nat} {a b c : World} (h : Bn B a b) (k : Bn B b c) : Bn B a c := ⟨k.os.trans h.os, k.tape.trans h.tape, k.output.trans h.output, fun i hi => (k.block i hi).trans (h.block i hi)⟩
theorem Bn.mono {B B' : Nat} {w w' : World} (h : Bn B' w w') (hB : B ≤ B') : Bn B w w' := ⟨h.os, h.tape, h.output, fun k hk => h.block k (Nat.lt_of_lt_of_le hk hB)⟩
theorem Bn.of {B : Nat} {w w' : World} (h : Below B w w') : Bn B w w' := ⟨h.os, h.tape, h.output, h.block⟩
theorem bn_of {w wq w2 : World} (hbq : Below w.heap.size w wq) (hbc : Below wq.heap.size wq w2) : Bn w.heap.size wq w2 ∧ w.heap.size ≤ w2.heap.size := ⟨Bn.of (hbc.mono hbq.size), Nat.le_trans hbq.size hbc.size⟩
theorem Rd.bn {α : Type} {E : Enc α} {A : Option Addr} {cap : Nat} {l : List α} {w w' : World} (h : Rd w E A cap l) (hb : Bn w.heap.size w w') : Rd w' E A cap l := h.move fun a ha hl => hb.block a.block (h.lt ha hl)
def wpD (P : Program) (ops : Array Oper) (Q : Exit → Act → World → Prop) (ds : List Nat) (B : Nat) : Nat → Array Bool → Act → World → Prop
  | 0, l, a, w => Region.ready .any ops l = [] ∧ Q .normal a w
  | f + 1, l, a, w => (Region.ready .any ops l = [] → Q .normal a w) ∧ ∀ i ∈ Region.ready .any ops l, wpOp P ops Q i (fun a' w' => (i ∉ ds → Bn B w w') ∧ wpD P ops Q ds B f (l.setIfInBounds i true) a' w') a w
theorem wpD_mono {B B' : Nat} (hB : B ≤ B') : ∀ (f : Nat) (l : Array Bool) (a : Act) (w : World), wpD P ops Q ds B' f l a w → wpD P ops Q ds B f l a w
  | 0, _, _, _, h => h
  | f + 1, _, _, _, h => ⟨h.1, fun i hi => wpOp_mono (fun a' w' h' => ⟨fun hn => (h'.1 hn).mono hB, wpD_mono hB f _ a' w' h'.2⟩) (h.2 i hi)⟩
theorem wpAny_of_D {B : Nat} : ∀ (f : Nat) (l : Array Bool) (a : Act) (w : World), wpD P ops Q ds B f l a w → wpAny P .any ops Q f l a w
  | 0, _, _, _, h => h
  | f + 1, _, _, _, h => ⟨h.1, fun i hi => wpOp_mono (fun a' w' h' => wpAny_of_D f _ a' w' h'.2) (h.2 i hi)⟩
theorem wpD_first {B i : Nat} {oi : Oper} {v : Value} {S : World → Prop} (hi : ops[i]? = some oi) (hsel : ∀ (j : Nat) (o : Oper) cs b, ops[j]? = some o → o.op ≠ .select cs b)
    (hQ : ∀ c a d v w, Q (.panic c) (a.put d v) w → Q (.panic c) a w) (n : Nat) (hS : (∀ w w', S w → Bn B w w' → S w') ∨ ∀ w, S w) :
    ∀ (f : Nat) (l : Array Bool) (a : Act) (w : World),
      (∀ j oj, ops[j]? = some oj → j ≠ i → l.getD j true = false → (∀ e ∈ oj.after, Region.binds .any e = true → e.on ≠ i) → oi.apart ops oj = true) →
      ListedClosed .any ops l → ((∀ w, S w) ∨ ∀ d ∈ ds, l.getD d true = false → Region.reachB .any ops i n d = true) →
      i ∈ Region.ready .any ops l → YieldsIf P ops S oi v a → S w →
      wpD P ops Q ds B f (l.setIfInBounds i true) (a.put oi.dst v) w → wpD P ops Q ds B (f + 1) l a w := by
  intro f
  induction f with
  | zero =>
    intro l a w _ _ _ hr hy hs H
    refine ⟨fun h => (by rw [h] at hr; cases hr), fun j hj => ?_⟩
    by_cases hji : j = i
    · subst hji; exact hy.wpOp hi hs ⟨fun _ => Bn.refl _ _, H⟩
    · have := ready_mono hj hji
      rw [H.1] at this
      cases this
  | succ f ih =>
    intro l a w hfree hc hd hr hy hs H
    refine ⟨fun h => (by rw [h] at hr; cases hr), fun j hj => ?_⟩
    by_cases hji : j = i
    · subst hji; exact hy.wpOp hi hs ⟨fun _ => Bn.refl _ _, H⟩
    · have h1 := H.2 j (ready_mono hj hji)
      obtain ⟨hjun, oj, hoj, hall⟩ := mem_ready.1 hj
      have hiun := (mem_ready.1 hr).1
      have hnot : ∀ e ∈ oj.after, Region.binds .any e = true → e.on ≠ i := fun e he hb heq => by
        have h1 := hall e he hb
        rw [heq] at h1
        rcases Nat.lt_or_ge i l.size with h' | h'
        · simp [h'] at hiun h1; rw [hiun] at h1; cases h1
        · simp [Array.getElem?_eq_none h'] at h1
      have h2 := wpOp_putIf hoj (hfree j oj hoj hji hjun hnot) (fun cs b => hsel i oi cs b hi) (fun cs b => hsel j oj cs b hoj) (fun c a w => hQ c a _ _ w) hy h1
      have hfree' : ∀ k ok, ops[k]? = some ok → k ≠ i → (l.setIfInBounds j true).getD k true = false →
          (∀ e ∈ ok.after, Region.binds .any e = true → e.on ≠ i) → oi.apart ops ok = true := fun k ok hk hki hun hno => by
        refine hfree k ok hk hki ?_ hno
        by_cases hjk : j = k
        · subst hjk; exact hjun
        · rw [getD_set_ne true hjk] at hun; exact hun
      have hd' : (∀ w, S w) ∨ ∀ d ∈ ds, (l.setIfInBounds j true).getD d true = false → Region.reachB .any ops i n d = true := hd.imp id fun hd d hm hun => by
        refine hd d hm ?_
        by_cases hjk : j = d
        · subst hjk; exact hjun
        · rw [getD_set_ne true hjk] at hun; exact hun
      have hSw : ∀ w', (j ∉ ds → Bn B w w') → S w' := fun w' hb => by
        rcases hd with hd | hd
        · exact hd w'
        · rcases hS with hS | hS
          · exact hS _ _ hs (hb fun hm => Region.reach_not_ready hc (hd j hm hjun) hiun hj)
          · exact hS w'
      refine wpOp_mono (fun a' w' h3 => ⟨h3.2.1, ih (l.setIfInBounds j true) a' w' hfree' (hc.set hj) hd' (ready_mono hr (Ne.symm hji)) h3.1 (hSw w' h3.2.1) ?_⟩) h2
      rw [Array.setIfInBounds_comm _ _ hji]
      exact h3.2.2
def Sg (fr : Bool) (w w' : World) : Prop := match fr with
  | true => Bn w.heap.size w w'
  | false => True
theorem wd_any {B : Nat} {fr : Bool} {w0 w : World} {Qa : Act → Prop} {k : Nat} {l' : Array Bool} (hsel : Region.noSelect ops = true) (hQ : ∀ c a d v w, Q (.panic c) (a.put d v) w → Q (.panic c) a w) (hB : fr = true → w0.heap.size ≤ B) (hs : Below w0.heap.size w0 w) (hk : ∀ a', Qa a' → wpD P ops Q ds B k l' a' w) :
    ∀ {hd : List Nat} {l : Array Bool} {a : Act}, zdB ops (if fr = true then ds else []) l hd = some l' → wcl P ops (Sg fr w0) Qa hd a → wpD P ops Q ds B (hd.length + k) l a w
  | [], l, a, he, h => by cases he; rw [show ([] : List Nat).length + k = k from Nat.zero_add k]; exact hk a h
  | i :: r, l, a, he, h => by
    obtain ⟨o, v, ho, hy, h⟩ := h
    unfold zdB at he
    split at he
    · rename_i hc
      simp only [Bool.and_eq_true] at hc
      obtain ⟨⟨⟨h1, h2⟩, h3⟩, h4⟩ := hc
      have hsw : Sg fr w0 w := by
        cases fr with
        | true => exact Bn.of hs
        | false => exact True.intro
      rw [show (i :: r).length + k = (r.length + k) + 1 by simp only [List.length_cons]; omega]
      refine wpD_first (S := Sg fr w0) ho (Region.noSelect_spec hsel) hQ ops.size ?_ _ l a w (Region.free_spec ho h1) (Region.closedB_spec h3) ?_ (by simpa using h2) hy hsw (wd_any hsel hQ hB hs hk he h)
      · cases fr with
        | true => exact .inl fun w1 w2 g1 g2 => Bn.trans g1 (g2.mono (hB rfl))
        | false => exact .inr fun _ => True.intro
      · cases fr with
        | true =>
          refine .inr fun d hd hun => ?_
          have := List.all_eq_true.1 h4 d hd
          rw [hun] at this
          simpa using this
        | false => exact .inl fun _ => True.intro
    · cases he
def wdS (P : Program) (ops : Array Oper) (Q : Exit → Act → World → Prop) (ds h2 : List Nat) : List (Bool × List Nat × Nat) → Act → World → Prop
  | [], a, w => wcl P ops (Sg true w) (fun a' => ∀ w', Below w.heap.size w w' → Q .normal a' w') h2 a
  | (fr, hd, e) :: r, a, w => wcl P ops (Sg fr w) (fun a' => ∀ wq, Below w.heap.size w wq → wpList P ops (Qe Q fun a2 w2 => (ds.contains e = true ∨ (Bn w.heap.size wq w2 ∧ w.heap.size ≤ w2.heap.size)) ∧ wdS P ops Q ds h2 r a2 w2) (pk ops [e]) a' wq) hd a
def allD (ds : List Nat) : List (Bool × List Nat × Nat) → Bool
  | [] => true
  | (_, _, e) :: r => ds.contains e && allD ds r
def dB (ops : Array Oper) (ds h2 : List Nat) : Array Bool → List (Bool × List Nat × Nat) → Bool
  | l, [] => match zdB ops ds l h2 with
    | some l' => Region.ready .any ops l' == []
    | none => false
  | l, (fr, hd, e) :: r => match zdB ops (if fr = true then ds else []) l hd with
    | some l' => (Region.ready .any ops l' == [e]) && inB ops [e] && (!ds.contains e || allD ds r) && dB ops ds h2 (l'.setIfInBounds e true) r
    | none => false
theorem dS_any {h2 : List Nat} (hsel : Region.noSelect ops = true) (hQ : ∀ c a d v w, Q (.panic c) (a.put d v) w → Q (.panic c) a w) :
    ∀ {segs : List (Bool × List Nat × Nat)} {l : Array Bool} {a : Act} {w0 w : World} {B : Nat}, dB ops ds h2 l segs = true → Below w0.heap.size w0 w → (B ≤ w0.heap.size ∨ allD ds segs = true) → wdS P ops Q ds h2 segs a w0 → wpD P ops Q ds B (cLen h2 segs) l a w
  | [], l, a, w0, w, B, he, hb, hz, h => by
    unfold dB at he
    split at he
    · rename_i l' hl
      have := wd_any (ds := ds) (B := max B w0.heap.size) (fr := true) (k := 0) (w0 := w0) (w := w) (l' := l') (Qa := fun a' => ∀ w', Below w0.heap.size w0 w' → Q .normal a' w') hsel hQ (fun _ => Nat.le_max_right _ _) hb (fun a' h' => ⟨by simpa using he, h' _ hb⟩) hl h
      exact wpD_mono (Nat.le_max_left _ _) _ _ _ _ (by simpa [cLen] using this)
    · cases he
  | (fr, hd, e) :: r, l, a, w0, w, B, he, hb, hz, h => by
    unfold dB at he
    split at he
    · rename_i l' hl
      simp only [Bool.and_eq_true, beq_iff_eq] at he
      refine wpD_mono (Nat.le_max_left B (if ds.contains e = true then max B w0.heap.size else w0.heap.size)) _ _ _ _ ?_
      generalize hB' : max B (if ds.contains e = true then max B w0.heap.size else w0.heap.size) = B'
      have hge : w0.heap.size ≤ B' := by
        rw [← hB']
        split <;> omega
      refine wd_any (ds := ds) (k := cLen h2 r + 1) (w0 := w0) (w := w) (l' := l') hsel hQ (fun _ => hge) hb (fun a' h' => ?_) hl h
      refine ⟨fun h0 => (by rw [he.1.1.1] at h0; cases h0), fun j hj => ?_⟩
      rw [he.1.1.1] at hj
      have hj : j = e := by simpa using hj
      subst hj
      have h3 := ops_pk he.1.1.2 (h' w hb)
      rw [wpOps_cons] at h3
      refine wpOp_Qe (wpOp_mono (fun a2 w2 h4 => ?_) h3)
      cases hd : ds.contains j with
      | true =>
        have hr : allD ds r = true := by
          have := he.1.2
          rw [hd] at this
          simpa using this
        refine ⟨fun hn => absurd (by simpa using hd) hn, dS_any hsel hQ he.2 (Below.refl _ _) (.inr hr) h4.2⟩
      | false =>
        have h5 : Bn w0.heap.size w w2 ∧ w0.heap.size ≤ w2.heap.size := h4.1.resolve_left (by rw [hd]; decide)
        have hle : B ≤ w0.heap.size := hz.resolve_right (by unfold allD; rw [hd]; simp)
        have hB2 : B' = w0.heap.size := by
          rw [← hB', hd, if_neg (by decide)]
          exact Nat.max_eq_right hle
        rw [hB2]
        exact ⟨fun _ => h5.1, dS_any hsel hQ he.2 (Below.refl _ _) (.inl h5.2) h4.2⟩
    · cases he
def dRegB (ops : Array Oper) (ds : List Nat) (segs : List (Bool × List Nat × Nat)) (h2 : List Nat) : Bool := Region.noSelect ops && Nat.beq ops.size (cLen h2 segs) && dB ops ds h2 (Array.replicate ops.size false) segs
theorem d_region {a : Act} {w : World} {id : Nat} (ds : List Nat) (segs : List (Bool × List Nat × Nat)) (h2 : List Nat) (hm : P.follows .mixedOrders = true) (hB : dRegB ops ds segs h2 = true) (hQ : ∀ c a d v w, Q (.panic c) (a.put d v) w → Q (.panic c) a w)
    (h : wdS P ops Q ds h2 segs a w) : (Code.region id ops true).wp P Q a w := by
  simp only [dRegB, Bool.and_eq_true] at hB
  obtain ⟨⟨h1, h3⟩, h4⟩ := hB
  have h3 := Nat.eq_of_beq_eq_true h3
  have hS : Below w.heap.size w w.drew := (Below.refl _ _).drew
  refine wp_region_any hm ?_
  show wpAny P .any ops Q ops.size _ a w.drew
  conv => arg 5; rw [h3]
  exact wpAny_of_D _ _ _ _ (dS_any (B := 0) h1 hQ h4 hS (.inl (Nat.zero_le _)) h)
end
section
variable {P : Program} {ops : Array Oper} {Q : Exit → Act → World → Prop} {Qa : Act → Prop} {a : Act} {w w0 : World} {n i : Nat} {L L' : SL} {op : Op} {ty : TypeId} {dst : Option Tmp} {g : Option (Nat × Bool)} {ds h2 : List Nat}
theorem d_seg {hd : List Nat} {e : Nat} {r : List (Bool × List Nat × Nat)} (h : wcl P ops (fun w' => Bn w.heap.size w w') (fun a' => ∀ wq, Below w.heap.size w wq → wpList P ops (Qe Q fun a2 w2 => (ds.contains e = true ∨ (Bn w.heap.size wq w2 ∧ w.heap.size ≤ w2.heap.size)) ∧ wdS P ops Q ds h2 r a2 w2) (pk ops [e]) a' wq) hd a) : wdS P ops Q ds h2 ((true, hd, e) :: r) a w := h
theorem d_seg0 {hd : List Nat} {e : Nat} {r : List (Bool × List Nat × Nat)} (h : wcl P ops (fun _ => True) (fun a' => ∀ wq, Below w.heap.size w wq → wpList P ops (Qe Q fun a2 w2 => (ds.contains e = true ∨ (Bn w.heap.size wq w2 ∧ w.heap.size ≤ w2.heap.size)) ∧ wdS P ops Q ds h2 r a2 w2) (pk ops [e]) a' wq) hd a) : wdS P ops Q ds h2 ((false, hd, e) :: r) a w := h
theorem d_last (h : wcl P ops (fun w' => Bn w.heap.size w w') (fun a' => ∀ w', Below w.heap.size w w' → Q .normal a' w') h2 a) : wdS P ops Q ds h2 [] a w := h
theorem d_run {r : List Nat} (hs : Slots a n L) (ho : opAt ops i = some (op, ty, dst, g)){v : Value}
    (hr : ∀ w', Bn w.heap.size w w' → (execOp (evD L) (mkO op ty)).run P w' = .ok (.value v) w') (ds : List Nat) (h : ∀ a', Slots a' n (rms ds (putL n dst v L)) → wcl P ops (fun w' => Bn w.heap.size w w') Qa r a') (hw : wantG ops L g = some true := by kernel_rfl) (hk : okOp L op = true := by kernel_rfl) : wcl P ops (fun w' => Bn w.heap.size w w') Qa (i :: r) a :=
  c0_run hs ho hr ds h hw hk
end
section
variable {P : Program} {L : SL} {G : List Nat} {w0 w wx : World} {As : List Asn} {g : Nat} {T : TypeId} {cs : List Value}
theorem nil_of (_h : St G w0 w As) : St [] w w [] := St.nil w
theorem St.heapD (hst : St G w0 w (box g T cs :: As)) (hb : Bn w.heap.size w wx) : wx.heap[g]? = some (.cells cs.toArray T (0, 0)) := by
  have h := hst.heap
  rw [hb.block g (Array.getElem?_eq_some_iff.1 h).1]
  exact h
theorem x_bldD {t : TypeId} {y : Operand} {ty : TypeId} {p : Addr} {o : Nat} {v : Value} (hst : St G w0 w (box g T cs :: As)) (hb : Bn w.heap.size w wx) (hx : evD L y = .pointer (some p) := by kernel_rfl) (hp : p = ⟨g, o, none⟩ := by rfl) (hu : (P.underlying t).map (·.isRow) = some false := by kernel_rfl) (hv : cs[o]? = some v := by kernel_rfl) :
    (execOp (evD L) (mkO (.load t y) ty)).run P wx = .ok (.value v) wx := by
  refine x_load hx hu ?_
  rw [hp, cell_of_row wx g o cs.toArray T (0, 0) (hst.heapD hb)]
  simpa using hv
theorem x_bldsD {t : TypeId} {y : Operand} {ty : TypeId} {p : Addr} {o : Nat} {vs : List Value} (hst : St G w0 w (box g T cs :: As)) (hb : Bn w.heap.size w wx) (hx : evD L y = .pointer (some p) := by kernel_rfl) (hp : p = ⟨g, o, none⟩ := by rfl) (hu : (P.underlying t).map (·.isRow) = some true := by kernel_rfl) (hi : (P.info? t).map (·.size) = some vs.length := by kernel_rfl) (hv : (cs.drop o).take vs.length = vs := by kernel_rfl) :
    (execOp (evD L) (mkO (.load t y) ty)).run P wx = .ok (.value (.agg vs.toArray)) wx := by
  refine x_loads hx hu hi fun j u hj => ?_
  rw [hp]
  have e : (⟨g, o, none⟩ : Addr).add j = ⟨g, o + j, none⟩ := by unfold Addr.add; split <;> simp_all
  rw [e, cell_of_row wx g (o + j) cs.toArray T (0, 0) (hst.heapD hb)]
  have hj' : (cs.drop o)[j]? = some u := by
    rw [← hv, List.getElem?_take] at hj
    split at hj
    · exact hj
    · cases hj
  rw [List.getElem?_drop] at hj'
  simpa using hj'
end
end Go.Proofs.Ytheccnbamcdpmaa.E
