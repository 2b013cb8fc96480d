/- The engine's words, twenty-first part: open orders of quiet operations and of effects that only make new blocks, the effects in one order: each quiet operation is walked as soon as what it needs is there. No condition. -/
import Derived.Test.YtheccnbamcdpmaaEK
namespace Go.Proofs.Ytheccnbamcdpmaa.E
set_option linter.unusedVariables false
set_option linter.unusedSimpArgs false
open Go Go.RowKit Go.Proofs.YtheccnbamcdpmaaW.PrintLast
section
variable {P : Program} {ops : Array Oper} {Q : Exit → Act → World → Prop}
/-- Nothing below block B is turned. -/
structure Bl (B : Nat) (w w' : World) : Prop where
  os : w'.os = w.os
  tape : w'.tape = w.tape
  output : w'.output = w.output
  size : B ≤ w'.heap.size
  block : ∀ k, k < B → w'.heap[k]? = w.heap[k]?
theorem Bl.trans {B : Nat} {a b c : World} (h : Bl B a b) (k : Bl B b c) : Bl B a c := ⟨k.os.trans h.os, k.tape.trans h.tape, k.output.trans h.output, k.size, fun i hi => (k.block i hi).trans (h.block i hi)⟩
theorem Bl.mono {B B' : Nat} {w w' : World} (h : Bl B' w w') (hB : B ≤ B') : Bl B w w' := ⟨h.os, h.tape, h.output, Nat.le_trans hB h.size, fun k hk => h.block k (Nat.lt_of_lt_of_le hk hB)⟩
theorem Bl.of {B : Nat} {w w' : World} (h : Below B w w') (hB : B ≤ w.heap.size) : Bl B w w' := ⟨h.os, h.tape, h.output, Nat.le_trans hB h.size, h.block⟩
theorem Bl.below {w w' : World} (h : Bl w.heap.size w w') : Below w.heap.size w w' := ⟨h.os, h.tape, h.output, h.size, h.block⟩
theorem bl_of {w wq w2 : World} (hbq : Below w.heap.size w wq) (hbc : Below wq.heap.size wq w2) : Bl w.heap.size wq w2 := Bl.of (hbc.mono hbq.size) hbq.size
theorem bl0 {G : List Nat} {w0 w w' : World} {As As' : List Asn} (h : St G w0 w As) (h' : St G w0 w' As') : Bl 0 w w' := by
  have k := h.kp
  have k' := h'.kp
  exact ⟨k'.os.trans k.os.symm, k'.tape.trans k.tape.symm, k'.output.trans k.output.symm, Nat.zero_le _, fun i hi => absurd hi (Nat.not_lt_zero i)⟩
def bd : Bool → World → Nat
  | true, w => w.heap.size
  | false, _ => 0
theorem bd_le (b : Bool) (w : World) : bd b w ≤ w.heap.size := by cases b <;> simp [bd]
def wpB (P : Program) (ops : Array Oper) (Q : Exit → Act → World → Prop) (B : Nat) : Nat → Array Bool → Act → World → Prop
  | 0, l, a, w => Region.ready .any ops l = [] ∧ Q .normal a w
  | f + 1, l, a, w => (Region.ready .any ops l = [] → Q .normal a w) ∧ ∀ i ∈ Region.ready .any ops l, wpOp P ops Q i (fun a' w' => Bl B w w' ∧ wpB P ops Q B f (l.setIfInBounds i true) a' w') a w
theorem wpB_mono {B B' : Nat} (hB : B ≤ B') : ∀ (f : Nat) (l : Array Bool) (a : Act) (w : World), wpB P ops Q B' f l a w → wpB P ops Q B f l a w
  | 0, _, _, _, h => h
  | f + 1, _, _, _, h => ⟨h.1, fun i hi => wpOp_mono (fun a' w' h' => ⟨h'.1.mono hB, wpB_mono hB f _ a' w' h'.2⟩) (h.2 i hi)⟩
theorem wpAny_of_B {B : Nat} : ∀ (f : Nat) (l : Array Bool) (a : Act) (w : World), wpB P ops Q B f l a w → wpAny P .any ops Q f l a w
  | 0, _, _, _, h => h
  | f + 1, _, _, _, h => ⟨h.1, fun i hi => wpOp_mono (fun a' w' h' => wpAny_of_B f _ a' w' h'.2) (h.2 i hi)⟩
theorem wpB_first {B i : Nat} {oi : Oper} {v : Value} {S : World → Prop} (hi : ops[i]? = some oi) (hsel : ∀ (j : Nat) (o : Oper) cs b, ops[j]? = some o → o.op ≠ .select cs b)
    (hQ : ∀ c a d v w, Q (.panic c) (a.put d v) w → Q (.panic c) a w) (hS : ∀ w w', S w → Bl B w w' → S w') :
    ∀ (f : Nat) (l : Array Bool) (a : Act) (w : World),
      (∀ j oj, ops[j]? = some oj → j ≠ i → l.getD j true = false → (∀ e ∈ oj.after, Region.binds .any e = true → e.on ≠ i) → oi.apart ops oj = true) →
      i ∈ Region.ready .any ops l → YieldsIf P ops S oi v a → S w → B ≤ w.heap.size →
      wpB P ops Q B f (l.setIfInBounds i true) (a.put oi.dst v) w → wpB P ops Q B (f + 1) l a w := by
  intro f
  induction f with
  | zero =>
    intro l a w _ hr hy hs hz H
    refine ⟨fun h => (by rw [h] at hr; cases hr), fun j hj => ?_⟩
    by_cases hji : j = i
    · subst hji; exact hy.wpOp hi hs ⟨Bl.of (Below.refl _ _) hz, H⟩
    · have := ready_mono hj hji
      rw [H.1] at this
      cases this
  | succ f ih =>
    intro l a w hfree hr hy hs hz H
    refine ⟨fun h => (by rw [h] at hr; cases hr), fun j hj => ?_⟩
    by_cases hji : j = i
    · subst hji; exact hy.wpOp hi hs ⟨Bl.of (Below.refl _ _) hz, H⟩
    · have h1 := H.2 j (ready_mono hj hji)
      obtain ⟨hjun, oj, hoj, hall⟩ := mem_ready.1 hj
      have hiun := (mem_ready.1 hr).1
      have hnot : ∀ e ∈ oj.after, Region.binds .any e = true → e.on ≠ i := fun e he hb heq => by
        have h1 := hall e he hb
        rw [heq] at h1
        rcases Nat.lt_or_ge i l.size with h' | h'
        · simp [h'] at hiun h1; rw [hiun] at h1; cases h1
        · simp [Array.getElem?_eq_none h'] at h1
      have h2 := wpOp_putIf hoj (hfree j oj hoj hji hjun hnot) (fun cs b => hsel i oi cs b hi) (fun cs b => hsel j oj cs b hoj) (fun c a w => hQ c a _ _ w) hy h1
      have hfree' : ∀ k ok, ops[k]? = some ok → k ≠ i → (l.setIfInBounds j true).getD k true = false →
          (∀ e ∈ ok.after, Region.binds .any e = true → e.on ≠ i) → oi.apart ops ok = true := fun k ok hk hki hun hno => by
        refine hfree k ok hk hki ?_ hno
        by_cases hjk : j = k
        · subst hjk; exact hjun
        · rw [getD_set_ne true hjk] at hun; exact hun
      refine wpOp_mono (fun a' w' h3 => ⟨h3.2.1, ih (l.setIfInBounds j true) a' w' hfree' (ready_mono hr (Ne.symm hji)) h3.1 (hS _ _ hs h3.2.1) h3.2.1.size ?_⟩) h2
      rw [Array.setIfInBounds_comm _ _ hji]
      exact h3.2.2
def wcl (P : Program) (ops : Array Oper) (C : World → Prop) (Qa : Act → Prop) : List Nat → Act → Prop
  | [], a => Qa a
  | i :: r, a => ∃ o v, ops[i]? = some o ∧ YieldsIf P ops C o v a ∧ wcl P ops C Qa r (a.put o.dst v)
def cqB (ops : Array Oper) : Array Bool → List Nat → Option (Array Bool)
  | l, [] => some l
  | l, i :: r => match Region.free .any ops l i && (Region.ready .any ops l).contains i with
    | true => cqB ops (l.setIfInBounds i true) r
    | false => none
theorem wcl_any {B : Nat} {S : World → Prop} {Qa : Act → Prop} {k : Nat} {w : World} {l' : Array Bool} (hsel : Region.noSelect ops = true) (hQ : ∀ c a d v w, Q (.panic c) (a.put d v) w → Q (.panic c) a w) (hS : ∀ w w', S w → Bl B w w' → S w') (hs : S w) (hz : B ≤ w.heap.size) (hk : ∀ a', Qa a' → wpB P ops Q B k l' a' w) :
    ∀ {hd : List Nat} {l : Array Bool} {a : Act}, cqB ops l hd = some l' → wcl P ops S Qa hd a → wpB P ops Q B (hd.length + k) l a w
  | [], l, a, he, h => by cases he; rw [show ([] : List Nat).length + k = k from Nat.zero_add k]; exact hk a h
  | i :: r, l, a, he, h => by
    obtain ⟨o, v, ho, hy, h⟩ := h
    unfold cqB at he
    split at he
    · rename_i hc
      simp only [Bool.and_eq_true] at hc
      rw [show (i :: r).length + k = (r.length + k) + 1 by simp only [List.length_cons]; omega]
      exact wpB_first ho (Region.noSelect_spec hsel) hQ hS _ l a w (Region.free_spec ho hc.1) (by simpa using hc.2) hy hs hz (wcl_any hsel hQ hS hs hz hk he h)
    · cases he
def wcS (P : Program) (ops : Array Oper) (Q : Exit → Act → World → Prop) (h2 : List Nat) : List (Bool × List Nat × Nat) → Act → World → Prop
  | [], a, w => wcl P ops (fun w' => Bl w.heap.size w w') (fun a' => ∀ w', Below w.heap.size w w' → Q .normal a' w') h2 a
  | (fr, hd, e) :: r, a, w => wcl P ops (fun w' => Bl (bd fr w) w w') (fun a' => ∀ wq, Below w.heap.size w wq → wpList P ops (Qe Q fun a2 w2 => Bl (bd fr w) wq w2 ∧ wcS P ops Q h2 r a2 w2) (pk ops [e]) a' wq) hd a
def cHd : List (Bool × List Nat × Nat) → Bool
  | [] => true
  | (fr, _, _) :: _ => fr
def cB (ops : Array Oper) (h2 : List Nat) : Array Bool → List (Bool × List Nat × Nat) → Bool
  | l, [] => match cqB ops l h2 with
    | some l' => Region.ready .any ops l' == []
    | none => false
  | l, (fr, hd, e) :: r => match cqB ops l hd with
    | some l' => (Region.ready .any ops l' == [e]) && inB ops [e] && (!fr || cHd r) && cB ops h2 (l'.setIfInBounds e true) r
    | none => false
def cLen (h2 : List Nat) : List (Bool × List Nat × Nat) → Nat
  | [] => h2.length
  | (_, hd, _) :: r => hd.length + (cLen h2 r + 1)
theorem cS_any {h2 : List Nat} (hsel : Region.noSelect ops = true) (hQ : ∀ c a d v w, Q (.panic c) (a.put d v) w → Q (.panic c) a w) :
    ∀ {segs : List (Bool × List Nat × Nat)} {l : Array Bool} {a : Act} {w0 w : World}, cB ops h2 l segs = true → Below w0.heap.size w0 w → wcS P ops Q h2 segs a w0 → wpB P ops Q (bd (cHd segs) w0) (cLen h2 segs) l a w
  | [], l, a, w0, w, he, hb, h => by
    unfold cB at he
    split at he
    · rename_i l' hl
      have := wcl_any (B := w0.heap.size) (k := 0) (w := w) (l' := l') (Qa := fun a' => ∀ w', Below w0.heap.size w0 w' → Q .normal a' w') hsel hQ (fun w1 w2 h1 h2 => Bl.trans h1 h2) (Bl.of hb (Nat.le_refl _)) hb.size (fun a' h' => ⟨by simpa using he, h' _ hb⟩) hl h
      simpa [cLen, cHd, bd] using this
    · cases he
  | (fr, hd, e) :: r, l, a, w0, w, he, hb, h => by
    unfold cB at he
    split at he
    · rename_i l' hl
      simp only [Bool.and_eq_true, beq_iff_eq] at he
      have hz : bd fr w0 ≤ w.heap.size := Nat.le_trans (bd_le fr w0) hb.size
      show wpB P ops Q (bd fr w0) _ l a w
      refine wcl_any (k := cLen h2 r + 1) (w := w) (l' := l') hsel hQ (fun w1 w2 h1 h2 => Bl.trans h1 h2) (Bl.of (hb.mono (bd_le fr w0)) (bd_le fr w0)) hz (fun a' h' => ?_) hl h
      refine ⟨fun h0 => (by rw [he.1.1.1] at h0; cases h0), fun j hj => ?_⟩
      rw [he.1.1.1] at hj
      have hj : j = e := by simpa using hj
      subst hj
      have h3 := ops_pk he.1.1.2 (h' w hb)
      rw [wpOps_cons] at h3
      refine wpOp_Qe (wpOp_mono (fun a2 w2 h4 => ⟨h4.1, wpB_mono ?_ _ _ _ _ (cS_any hsel hQ he.2 (Below.refl _ _) h4.2)⟩) h3)
      cases fr with
      | false => exact Nat.zero_le _
      | true =>
        have hr : cHd r = true := by simpa using he.1.2
        rw [hr]
        exact h4.1.size
    · cases he
def cRegB (ops : Array Oper) (segs : List (Bool × List Nat × Nat)) (h2 : List Nat) : Bool := Region.noSelect ops && Nat.beq ops.size (cLen h2 segs) && cB ops h2 (Array.replicate ops.size false) segs
theorem c_region {a : Act} {w : World} {id : Nat} (segs : List (Bool × List Nat × Nat)) (h2 : List Nat) (hm : P.follows .mixedOrders = true) (hB : cRegB ops segs h2 = true) (hQ : ∀ c a d v w, Q (.panic c) (a.put d v) w → Q (.panic c) a w)
    (h : wcS P ops Q h2 segs a w) : (Code.region id ops true).wp P Q a w := by
  simp only [cRegB, Bool.and_eq_true] at hB
  obtain ⟨⟨h1, h3⟩, h4⟩ := hB
  have h3 := Nat.eq_of_beq_eq_true h3
  have hS : Below w.heap.size w w.drew := (Below.refl _ _).drew
  refine wp_region_any hm ?_
  show wpAny P .any ops Q ops.size _ a w.drew
  conv => arg 5; rw [h3]
  exact wpAny_of_B _ _ _ _ (cS_any h1 hQ h4 hS h)
end
section
variable {P : Program} {ops : Array Oper} {Q : Exit → Act → World → Prop} {Qa : Act → Prop} {a : Act} {w w0 : World} {n i : Nat} {L L' : SL} {op : Op} {ty : TypeId} {dst : Option Tmp} {g : Option (Nat × Bool)}
variable {C : World → Prop}
theorem c_end (h : Qa a) : wcl P ops C Qa [] a := h
theorem c_seg {h2 : List Nat} {hd : List Nat} {e : Nat} {r : List (Bool × List Nat × Nat)} (h : wcl P ops (fun w' => Bl w.heap.size w w') (fun a' => ∀ wq, Below w.heap.size w wq → wpList P ops (Qe Q fun a2 w2 => Bl w.heap.size wq w2 ∧ wcS P ops Q h2 r a2 w2) (pk ops [e]) a' wq) hd a) : wcS P ops Q h2 ((true, hd, e) :: r) a w := h
theorem c_seg0 {h2 : List Nat} {hd : List Nat} {e : Nat} {r : List (Bool × List Nat × Nat)} (h : wcl P ops (fun w' => Bl 0 w w') (fun a' => ∀ wq, Below w.heap.size w wq → wpList P ops (Qe Q fun a2 w2 => Bl 0 wq w2 ∧ wcS P ops Q h2 r a2 w2) (pk ops [e]) a' wq) hd a) : wcS P ops Q h2 ((false, hd, e) :: r) a w := h
theorem c_last {h2 : List Nat} (h : wcl P ops (fun w' => Bl w.heap.size w w') (fun a' => ∀ w', Below w.heap.size w w' → Q .normal a' w') h2 a) : wcS P ops Q h2 [] a w := h
theorem c_done {K : Act → World → Prop} (h : K a w) : wpList P ops (Qe Q K) (pk ops []) a w := h
theorem c_pvs' {ms r : List Nat} : ∀ {L : SL} {a : Act}, inB ops ms = true → Slots a n L → pvs P ops n L (pk ops ms) = some L' → (∀ a', Slots a' n L' → wcl P ops C Qa r a') → wcl P ops C Qa (ms ++ r) a := by
  induction ms with
  | nil => intro L a _ hs he h; cases he; exact h a hs
  | cons i q ih =>
    intro L a hB hs he h
    simp only [inB, List.all_cons, Bool.and_eq_true] at hB
    have hlt : i < ops.toList.length := by simpa [Nat.blt_eq] using hB.1
    have ho : ops.toList[i]? = some ops.toList[i] := List.getElem?_eq_getElem hlt
    have ho2 : ops[i]? = some ops.toList[i] := by rw [← Array.getElem?_toList]; exact ho
    rw [pk_cons ho] at he
    unfold pvs at he
    split at he
    · cases he
    · rename_i L1 h1
      have next : ∀ a', Slots a' n L1 → wcl P ops C Qa (q ++ r) a' := fun a' hs' => ih (by simpa [inB] using hB.2) hs' he h
      unfold pv1 at h1
      split at h1
      · cases h1
      · rename_i hw; exact ⟨_, undef, ho2, (y_skip hs hw).yieldsIf, next _ (Option.some.inj h1 ▸ hs.put _ _)⟩
      · rename_i hw
        split at h1
        · cases h1
        · rename_i hk
          simp only [Bool.and_eq_true] at hk
          split at h1
          · rename_i v hv
            exact ⟨_, v, ho2, .inl ⟨wantL_ok hs hw, fun w' _ => by rw [exec_same hs hk.1 hk.2]; exact pv_ok _ hv w'⟩, next _ (Option.some.inj h1 ▸ hs.put _ _)⟩
          · cases h1
theorem c_pvs (ms r ds : List Nat) (N : SL) (hs : Slots a n L) (h : ∀ a', Slots a' n (kd ds N L) → wcl P ops C Qa r a') (he : (pvs P ops n L (pk ops ms)).map (kp (keysL (kd ds N L))) = some (kd ds N L) := by kernel_rfl) (hB : inB ops ms = true := by kernel_rfl) : wcl P ops C Qa (ms ++ r) a := by
  obtain ⟨L1, h1, h2⟩ := Option.map_eq_some_iff.1 he
  exact c_pvs' hB hs h1 fun a' hs' => h a' (hs'.keep _ h2)
theorem c_run {r : List Nat} (hs : Slots a n L) (ho : opAt ops i = some (op, ty, dst, g)){v : Value}
    (hr : ∀ w', Below w.heap.size w w' → (execOp (evD L) (mkO op ty)).run P w' = .ok (.value v) w') (ds : List Nat) (h : ∀ a', Slots a' n (rms ds (putL n dst v L)) → wcl P ops (fun w' => Bl w.heap.size w w') Qa r a') (hw : wantG ops L g = some true := by kernel_rfl) (hk : okOp L op = true := by kernel_rfl) : wcl P ops (fun w' => Bl w.heap.size w w') Qa (i :: r) a := by
  obtain ⟨o, h1, h2⟩ := Option.map_eq_some_iff.1 ho
  simp only [Prod.mk.injEq] at h2
  obtain ⟨rfl, rfl, rfl, rfl⟩ := h2
  have hk : known L o.op.operands.toList = true ∧ noSel (mkO o.op 0) = true := by simpa [okOp] using hk
  refine ⟨o, v, by rw [← Array.getElem?_toList]; exact h1, .inl ⟨wantL_ok hs (by unfold wantL; exact hw), fun w' hb => ?_⟩, h _ ((hs.put _ _).rms ds)⟩
  rw [exec_same hs hk.1 hk.2, exec_mk]
  exact hr w' hb.below
theorem c0_run {C : World → Prop} {r : List Nat} (hs : Slots a n L) (ho : opAt ops i = some (op, ty, dst, g)){v : Value}
    (hr : ∀ w', C w' → (execOp (evD L) (mkO op ty)).run P w' = .ok (.value v) w') (ds : List Nat) (h : ∀ a', Slots a' n (rms ds (putL n dst v L)) → wcl P ops C Qa r a') (hw : wantG ops L g = some true := by kernel_rfl) (hk : okOp L op = true := by kernel_rfl) : wcl P ops C Qa (i :: r) a := by
  obtain ⟨o, h1, h2⟩ := Option.map_eq_some_iff.1 ho
  simp only [Prod.mk.injEq] at h2
  obtain ⟨rfl, rfl, rfl, rfl⟩ := h2
  have hk : known L o.op.operands.toList = true ∧ noSel (mkO o.op 0) = true := by simpa [okOp] using hk
  refine ⟨o, v, by rw [← Array.getElem?_toList]; exact h1, .inl ⟨wantL_ok hs (by unfold wantL; exact hw), fun w' hb => ?_⟩, h _ ((hs.put _ _).rms ds)⟩
  rw [exec_same hs hk.1 hk.2, exec_mk]
  exact hr w' hb
end
section
variable {P : Program} {w : World} {L : SL} {α : Type} {E : Enc α} {A : Option Addr} {cap : Nat} {T : TypeId} {l : List α}
/-- Cuts, in whatever world. -/
theorem w_hi {t : TypeId} {x y : Operand} {ty : TypeId} {k : IntKind} {h : Int} {aS : Act} {nS : Nat} (_hs : Slots aS nS L) (ht : P.underlying t = some (.slice T)) (hs : (P.info? T).map (·.size) = some E.sz) (hq : Rd w E A cap l)
    (hx : evD L x = .slice A l.length cap) (hy : evD L y = .int k h) (h0 : 0 ≤ h) (h1 : h ≤ (l.length : Int)) :
    ∃ A' cap', (∀ wx, (execOp (evD L) (mkO (.slice t x none (some y) none) ty)).run P wx = .ok (.value (.slice A' (l.take h.toNat).length cap')) wx) ∧ ∀ w', Rd w' E A cap l → Rd w' E A' cap' (l.take h.toNat) :=
  ⟨_, _, fun _ => x_hi ht (by rw [hs]; rfl) hq.1 hx hy h0 h1, fun _ hq' => hq'.hi _⟩
theorem w_lo {t : TypeId} {x y : Operand} {ty : TypeId} {k : IntKind} {h : Int} {aS : Act} {nS : Nat} (_hs : Slots aS nS L) (ht : P.underlying t = some (.slice T)) (hs : (P.info? T).map (·.size) = some E.sz) (hq : Rd w E A cap l)
    (hx : evD L x = .slice A l.length cap) (hy : evD L y = .int k h) (h0 : 0 ≤ h) (h1 : h ≤ (l.length : Int)) :
    ∃ A' cap', (∀ wx, (execOp (evD L) (mkO (.slice t x (some y) none none) ty)).run P wx = .ok (.value (.slice A' (l.drop h.toNat).length cap')) wx) ∧ ∀ w', Rd w' E A cap l → Rd w' E A' cap' (l.drop h.toNat) :=
  ⟨_, _, fun _ => x_lo ht hs hx hy h0 (by have := hq.1; omega), fun _ hq' => hq'.lo _⟩
theorem w_lohi {t : TypeId} {x y y' : Operand} {ty : TypeId} {k k' : IntKind} {l0 h : Int} {aS : Act} {nS : Nat} (_hs : Slots aS nS L) (ht : P.underlying t = some (.slice T)) (hs : (P.info? T).map (·.size) = some E.sz) (hq : Rd w E A cap l)
    (hx : evD L x = .slice A l.length cap) (hy : evD L y = .int k l0) (hy' : evD L y' = .int k' h) (h0 : 0 ≤ l0) (h1 : l0 ≤ h) (h2 : h ≤ (l.length : Int)) :
    ∃ A' cap', (∀ wx, (execOp (evD L) (mkO (.slice t x (some y) (some y') none) ty)).run P wx = .ok (.value (.slice A' ((l.take h.toNat).drop l0.toNat).length cap')) wx) ∧ ∀ w', Rd w' E A cap l → Rd w' E A' cap' ((l.take h.toNat).drop l0.toNat) :=
  ⟨_, _, fun _ => x_lohi ht hs hq.1 hx hy hy' h0 h1 h2, fun _ hq' => hq'.cut⟩
end
end Go.Proofs.Ytheccnbamcdpmaa.E
