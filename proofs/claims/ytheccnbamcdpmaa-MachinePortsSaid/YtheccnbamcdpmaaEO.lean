/- The engine's words, twenty-fourth part: open orders, each walked by itself. No condition. -/
import Derived.Test.YtheccnbamcdpmaaEN
namespace Go.Proofs.Ytheccnbamcdpmaa.E
set_option linter.unusedVariables false
set_option linter.unusedSimpArgs false
open Go Go.RowKit Go.Proofs.YtheccnbamcdpmaaW.PrintLast
/-- The orders: what touches no memory first, then one operation, or one of two. -/
inductive OT where
  | fin (h2 : List Nat)
  | one (hd : List Nat) (e : Nat) (t : OT)
  | two (hd : List Nat) (e : Nat) (t : OT) (e' : Nat) (t' : OT)
section
variable {P : Program} {ops : Array Oper} {Q : Exit → Act → World → Prop} {ds : List Nat}
def wpO (P : Program) (ops : Array Oper) (Q : Exit → Act → World → Prop) : OT → Act → World → Prop
  | .fin h2, a, w => wcl P ops (fun _ => True) (fun a' => Q .normal a' w) h2 a
  | .one hd e t, a, w => wcl P ops (fun _ => True) (fun a' => wpList P ops (Qe Q fun a2 w2 => wpO P ops Q t a2 w2) (pk ops [e]) a' w) hd a
  | .two hd e t e' t', a, w => wcl P ops (fun _ => True) (fun a' => wpList P ops (Qe Q fun a2 w2 => wpO P ops Q t a2 w2) (pk ops [e]) a' w ∧ wpList P ops (Qe Q fun a2 w2 => wpO P ops Q t' a2 w2) (pk ops [e']) a' w) hd a
def oLen : OT → Nat
  | .fin h2 => h2.length
  | .one hd _ t => hd.length + (oLen t + 1)
  | .two hd _ t _ _ => hd.length + (oLen t + 1)
def oB (ops : Array Oper) (ds : List Nat) : Array Bool → OT → Bool
  | l, .fin h2 => match zdB ops [] l h2 with
    | some l' => Region.ready .any ops l' == []
    | none => false
  | l, .one hd e t => match zdB ops [] l hd with
    | some l' => (Region.ready .any ops l' == [e]) && inB ops [e] && ds.contains e && oB ops ds (l'.setIfInBounds e true) t
    | none => false
  | l, .two hd e t e' t' => match zdB ops [] l hd with
    | some l' => (Region.ready .any ops l' == [e, e']) && inB ops [e] && inB ops [e'] && ds.contains e && ds.contains e' && Nat.beq (oLen t) (oLen t') && oB ops ds (l'.setIfInBounds e true) t && oB ops ds (l'.setIfInBounds e' true) t'
    | none => false
theorem oD_any (hsel : Region.noSelect ops = true) (hQ : ∀ c a d v w, Q (.panic c) (a.put d v) w → Q (.panic c) a w) :
    ∀ {t : OT} {l : Array Bool} {a : Act} {w : World}, oB ops ds l t = true → wpO P ops Q t a w → wpD P ops Q ds 0 (oLen t) l a w
  | .fin h2, l, a, w, he, h => by
    unfold oB at he
    split at he
    · rename_i l' hl
      have := wd_any (ds := ds) (B := 0) (fr := false) (k := 0) (w0 := w) (w := w) (l' := l') (Qa := fun a' => Q .normal a' w) hsel hQ (fun e => by cases e) (Below.refl _ _) (fun a' h' => ⟨by simpa using he, h'⟩) hl h
      simpa [oLen] using this
    · cases he
  | .one hd e t, l, a, w, he, h => by
    unfold oB at he
    split at he
    · rename_i l' hl
      simp only [Bool.and_eq_true, beq_iff_eq] at he
      refine wd_any (ds := ds) (fr := false) (k := oLen t + 1) (w0 := w) (w := w) (l' := l') hsel hQ (fun e => by cases e) (Below.refl _ _) (fun a' h' => ?_) hl h
      refine ⟨fun h0 => (by rw [he.1.1.1] at h0; cases h0), fun j hj => ?_⟩
      rw [he.1.1.1] at hj
      have hj : j = e := by simpa using hj
      subst hj
      have h3 := ops_pk he.1.1.2 h'
      rw [wpOps_cons] at h3
      exact wpOp_Qe (wpOp_mono (fun a2 w2 h4 => ⟨fun hn => absurd (by simpa using he.1.2) hn, oD_any hsel hQ he.2 h4⟩) h3)
    · cases he
  | .two hd e t e' t', l, a, w, he, h => by
    unfold oB at he
    split at he
    · rename_i l' hl
      simp only [Bool.and_eq_true, beq_iff_eq] at he
      obtain ⟨⟨⟨⟨⟨⟨⟨h1, h2⟩, h3⟩, h4⟩, h5⟩, h6⟩, h7⟩, h8⟩ := he
      have h6 := Nat.eq_of_beq_eq_true h6
      refine wd_any (ds := ds) (fr := false) (k := oLen t + 1) (w0 := w) (w := w) (l' := l') hsel hQ (fun e => by cases e) (Below.refl _ _) (fun a' h' => ?_) hl h
      refine ⟨fun h0 => (by rw [h1] at h0; cases h0), fun j hj => ?_⟩
      rw [h1] at hj
      have hj : j = e ∨ j = e' := by simpa using hj
      rcases hj with rfl | rfl
      · have g := ops_pk h2 h'.1
        rw [wpOps_cons] at g
        exact wpOp_Qe (wpOp_mono (fun a2 w2 h9 => ⟨fun hn => absurd (by simpa using h4) hn, oD_any hsel hQ h7 h9⟩) g)
      · have g := ops_pk h3 h'.2
        rw [wpOps_cons] at g
        refine wpOp_Qe (wpOp_mono (fun a2 w2 h9 => ⟨fun hn => absurd (by simpa using h5) hn, ?_⟩) g)
        rw [h6]
        exact oD_any hsel hQ h8 h9
    · cases he
def oRegB (ops : Array Oper) (ds : List Nat) (t : OT) : Bool := Region.noSelect ops && Nat.beq ops.size (oLen t) && oB ops ds (Array.replicate ops.size false) t
theorem o_region {a : Act} {w : World} {id : Nat} (ds : List Nat) (t : OT) (hm : P.follows .mixedOrders = true) (hB : oRegB ops ds t = true) (hQ : ∀ c a d v w, Q (.panic c) (a.put d v) w → Q (.panic c) a w)
    (h : ∀ wq, Below w.heap.size w wq → wpO P ops Q t a wq) : (Code.region id ops true).wp P Q a w := by
  simp only [oRegB, Bool.and_eq_true] at hB
  obtain ⟨⟨h1, h3⟩, h4⟩ := hB
  have h3 := Nat.eq_of_beq_eq_true h3
  refine wp_region_any hm ?_
  show wpAny P .any ops Q ops.size _ a w.drew
  conv => arg 5; rw [h3]
  exact wpAny_of_D _ _ _ _ (oD_any h1 hQ h4 (h _ (Below.refl _ _).drew))
end
section
variable {P : Program} {ops : Array Oper} {Q : Exit → Act → World → Prop} {a : Act} {w : World}
theorem o_fin {h2 : List Nat} (h : wcl P ops (fun _ => True) (fun a' => Q .normal a' w) h2 a) : wpO P ops Q (.fin h2) a w := h
theorem o_one {hd : List Nat} {e : Nat} {t : OT} (h : wcl P ops (fun _ => True) (fun a' => wpList P ops (Qe Q fun a2 w2 => wpO P ops Q t a2 w2) (pk ops [e]) a' w) hd a) : wpO P ops Q (.one hd e t) a w := h
theorem o_two {hd : List Nat} {e e' : Nat} {t t' : OT} (h : wcl P ops (fun _ => True) (fun a' => wpList P ops (Qe Q fun a2 w2 => wpO P ops Q t a2 w2) (pk ops [e]) a' w ∧ wpList P ops (Qe Q fun a2 w2 => wpO P ops Q t' a2 w2) (pk ops [e']) a' w) hd a) : wpO P ops Q (.two hd e t e' t') a w := h
end
section
variable {P : Program} {L : SL} {G : List Nat} {w0 w : World} {As : List Asn} {T : TypeId} {α : Type} {E : Enc α} {A : Option Addr} {cap : Nat} {l : List α}
/-- An own row, cut to its length and no room behind. -/
theorem x_trim {t : TypeId} {x y y' : Operand} {ty : TypeId} {k k' : IntKind} {aS : Act} {nS : Nat} (_hs : Slots aS nS L) (hst : St G w0 w (own T E A cap l :: As)) (hx : evD L x = .slice A l.length cap) (hy : evD L y = .int k (l.length : Int)) (hy' : evD L y' = .int k' (l.length : Int))
    (ht : P.underlying t = some (.slice T) := by kernel_rfl) (hs : ((P.info? T).map (·.size)).isSome = true := by kernel_rfl) :
    (execOp (evD L) (mkO (.slice t x none (some y) (some y')) ty)).run P w = .ok (.value (.slice A l.length l.length)) w ∧ St G w0 w (own T E A l.length l :: As) := by
  obtain ⟨LL, ⟨L1, L2, rfl, ho, hr⟩, hst⟩ := hst
  have hle : l.length ≤ cap := by
    rcases ho with ⟨_, h, h', _⟩ | ⟨_, _, _, h, _⟩
    · rw [h']; exact Nat.zero_le _
    · exact h
  refine ⟨run_v ?_, _, ⟨L1, L2, rfl, ?_, hr⟩, hst⟩
  · show (Instr.sliceAt t (evD L x) none (some (evD L y)) (some (evD L y'))).run P w = _
    obtain ⟨he, hT⟩ := pelem ht
    obtain ⟨sz, hsz⟩ := Option.isSome_iff_exists.1 hs
    obtain ⟨inf, hi, hsz'⟩ := Option.map_eq_some_iff.1 hsz
    rw [hx, hy, hy']
    have a0 : ∀ a : Addr, a.add 0 = a := fun a => by unfold Addr.add; split <;> simp_all
    by_cases h0 : l = []
    · subst h0
      simp [Instr.sliceAt, Instr.slice, run_underlying ht, Instr.sliceBounds, run_sliceBound, sizeOf, typeInfo, hi, he, hT]
    · have : ¬ l.length = 0 := fun e => h0 (List.eq_nil_of_length_eq_zero e)
      simp [Instr.sliceAt, Instr.slice, run_underlying ht, Instr.sliceBounds, run_sliceBound, sizeOf, typeInfo, hi, he, hT, hle, this, a0]
  · rcases ho with ⟨h1, h2, h3, h4⟩ | ⟨g, cur, h1, h2, h3, h4, h5, h6⟩
    · exact .inl ⟨h1, by rw [h3]; rfl, h3, h4⟩
    · exact .inr ⟨g, cur, h1, Nat.le_refl _, Nat.le_trans h2 h3, Nat.le_trans (Nat.mul_le_mul_right _ h2) h4, h5, h6⟩
end
end Go.Proofs.Ytheccnbamcdpmaa.E
