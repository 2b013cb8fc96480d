/- The engine's words, eighteenth part: open orders of quiet operations, new variables and what is stored in them: any order comes to the same. No condition. -/
import Derived.Test.YtheccnbamcdpmaaEH
namespace Go.Proofs.Ytheccnbamcdpmaa.E
set_option linter.unusedVariables false
set_option linter.unusedSimpArgs false
open Go Go.RowKit Go.Proofs.YtheccnbamcdpmaaW.PrintLast
abbrev HV := List (Nat × Value)
def dstOf (ops : Array Oper) (i : Nat) : Option Nat := (ops[i]?).bind (·.dst)
def aftOf (ops : Array Oper) (i : Nat) : List Nat := match ops[i]? with
  | some o => (o.after.toList.filter fun e => Region.binds .any e).map (·.on)
  | none => []
def lookOf (ops : Array Oper) (i : Nat) : List Nat := match ops[i]? with
  | some o => o.looksAt ops
  | none => []
def puts (ops : Array Oper) : Act → HV → Act
  | a, [] => a
  | a, p :: r => puts ops (a.put (dstOf ops p.1) p.2) r
section
variable {P : Program} {ops : Array Oper} {Qa : Act → Prop}
/-- In every world that has what the region's begin had, o leaves v, and turns nothing of that world. -/
def Yq (P : Program) (ops : Array Oper) (wR : World) (o : Oper) (v : Value) (a : Act) : Prop :=
  (Region.wanted o (yielded ops a.tmps) = true ∧ ∀ w', Below wR.heap.size wR w' → o.quietAt P a (fun w'' => Below w'.heap.size w' w'') w' v) ∨ (Region.wanted o (yielded ops a.tmps) = false ∧ v = undef)
def wul (P : Program) (ops : Array Oper) (wR : World) (Qa : Act → Prop) : List Nat → Act → Prop
  | [], a => Qa a
  | i :: r, a => ∃ o v, ops[i]? = some o ∧ Yq P ops wR o v a ∧ wul P ops wR Qa r (a.put o.dst v)
theorem wul_puts {wR : World} : ∀ {hd : List Nat} {a : Act}, wul P ops wR Qa hd a → ∃ hv : HV, hv.map Prod.fst = hd ∧ Qa (puts ops a hv) ∧ ∀ p q i v, hv = p ++ (i, v) :: q → ∃ o, ops[i]? = some o ∧ Yq P ops wR o v (puts ops a p)
  | [], a, h => ⟨[], rfl, h, fun p q i v e => by cases p <;> cases e⟩
  | i :: r, a, h => by
    obtain ⟨o, v, ho, hy, h⟩ := h
    have hd : dstOf ops i = o.dst := by unfold dstOf; rw [ho]; rfl
    rw [← hd] at h
    obtain ⟨hv, h1, h2, h3⟩ := wul_puts h
    refine ⟨(i, v) :: hv, by simp [h1], h2, fun p q j u e => ?_⟩
    cases p with
    | nil =>
      simp only [List.nil_append, List.cons.injEq, Prod.mk.injEq] at e
      obtain ⟨⟨rfl, rfl⟩, _⟩ := e
      exact ⟨o, ho, hy⟩
    | cons x p =>
      simp only [List.cons_append, List.cons.injEq] at e
      obtain ⟨rfl, e⟩ := e
      exact h3 p q j u e
theorem puts_sz {a : Act} : ∀ {hv : HV}, (puts ops a hv).tmps.size = a.tmps.size ∧ (puts ops a hv).defers = a.defers := by
  intro hv
  induction hv generalizing a with
  | nil => exact ⟨rfl, rfl⟩
  | cons p r ih =>
    have h := ih (a := a.put (dstOf ops p.1) p.2)
    refine ⟨h.1.trans ?_, h.2.trans ?_⟩ <;> cases dstOf ops p.1 <;> simp [Act.put]
theorem put_get {a : Act} {d : Option Tmp} {v : Value} {t : Nat} (h : d ≠ some t) : (a.put d v).tmps.getD t undef = a.tmps.getD t undef := by
  cases d with
  | none => rfl
  | some d => exact getD_set_other fun e => h (by rw [e])
theorem puts_none {t : Nat} : ∀ {hv : HV} {a : Act}, (∀ p ∈ hv, dstOf ops p.1 ≠ some t) → (puts ops a hv).tmps.getD t undef = a.tmps.getD t undef
  | [], a, _ => rfl
  | p :: r, a, h => (puts_none (hv := r) fun q hq => h q (by simp [hq])).trans (put_get (h p (by simp)))
/-- Who writes a slot, writes it alone. -/
def Sole (ops : Array Oper) (hv : HV) : Prop := (hv.map Prod.fst).Nodup ∧ ∀ p ∈ hv, ∀ q ∈ hv, ∀ t, dstOf ops p.1 = some t → dstOf ops q.1 = some t → p.1 = q.1
theorem puts_some {t i : Nat} {v : Value} : ∀ {hv : HV} {a : Act}, Sole ops hv → (i, v) ∈ hv → dstOf ops i = some t → t < a.tmps.size → (puts ops a hv).tmps.getD t undef = v
  | [], a, _, h, _, _ => by cases h
  | p :: r, a, hs, h, hd, ht => by
    have hn := List.nodup_cons.1 (show (p.1 :: r.map Prod.fst).Nodup from hs.1)
    rcases List.mem_cons.1 h with e | e
    · subst e
      show (puts ops (a.put (dstOf ops i) v) r).tmps.getD t undef = v
      rw [puts_none (fun q hq e => hn.1 (List.mem_map.2 ⟨q, hq, (hs.2 q (by simp [hq]) (i, v) (by simp) t e hd)⟩)), hd]
      exact getD_set_same ht
    · exact puts_some (hv := r) ⟨hn.2, fun x hx y hy => hs.2 x (by simp [hx]) y (by simp [hy])⟩ e hd (by
        have : (a.put (dstOf ops p.1) p.2).tmps.size = a.tmps.size := by cases dstOf ops p.1 <;> simp [Act.put]
        rw [this]; exact ht)
theorem out_range {a : Act} {t : Nat} (h : a.tmps.size ≤ t) : a.tmps.getD t undef = undef := by simp [h]
end
/-! ### the order of the text, checked without lists of what has come up -/
def backB (k : Nat) (o : Oper) : Bool := o.after.toList.all fun e => !Region.binds .any e || Nat.blt e.on k
def freeB (ops : Array Oper) (k : Nat) (o : Oper) : List Oper → Bool
  | [] => true
  | oj :: r => ((oj.after.toList.any fun e => Region.binds .any e && Nat.beq e.on k) || o.apart ops oj) && freeB ops k o r
def lexG (ops : Array Oper) : Nat → List Oper → Bool
  | _, [] => true
  | k, o :: r => backB k o && freeB ops k o r && lexG ops (k + 1) r
theorem freeB_at {ops : Array Oper} {k : Nat} {o : Oper} : ∀ {l : List Oper}, freeB ops k o l = true → ∀ oj ∈ l, (oj.after.any fun e => Region.binds .any e && e.on == k) = true ∨ o.apart ops oj = true
  | [], _, _, h => by cases h
  | x :: r, h, oj, hm => by
    simp only [freeB, Bool.and_eq_true, Bool.or_eq_true] at h
    rcases List.mem_cons.1 hm with e | e
    · subst e
      refine h.1.imp (fun h => ?_) id
      rw [← Array.any_toList]
      obtain ⟨e, he, hb⟩ := List.any_eq_true.1 h
      refine List.any_eq_true.2 ⟨e, he, ?_⟩
      simp only [Bool.and_eq_true, beq_iff_eq] at hb ⊢
      exact ⟨hb.1, Nat.eq_of_beq_eq_true hb.2⟩
    · exact freeB_at h.2 oj e
theorem lexG_ok {ops : Array Oper} : ∀ (l : List Oper) (k : Nat) (listed : Array Bool), (∀ j, l[j]? = ops[k + j]?) → listed.size = ops.size → (∀ j, j < ops.size → listed.getD j true = decide (j < k)) → k + l.length = ops.size → lexG ops k l = true → Region.lexFrom .any ops l.length k listed = true
  | [], k, listed, _, hs, hl, hk, _ => by
    show (Region.ready .any ops listed).isEmpty = true
    rw [List.isEmpty_iff]
    cases hr : Region.ready .any ops listed with
    | nil => rfl
    | cons j r =>
      have hj : j ∈ Region.ready .any ops listed := by rw [hr]; simp
      obtain ⟨h1, o, ho, _⟩ := mem_ready.1 hj
      have hlt := (Array.getElem?_eq_some_iff.1 ho).1
      rw [hl j hlt] at h1
      simp only [List.length_nil, Nat.add_zero] at hk
      simp at h1
      omega
  | o :: r, k, listed, he, hs, hl, hk, h => by
    simp only [lexG, Bool.and_eq_true] at h
    obtain ⟨⟨h1, h2⟩, h3⟩ := h
    have ho : ops[k]? = some o := by simpa using (he 0).symm
    have hkl : k < ops.size := (Array.getElem?_eq_some_iff.1 ho).1
    have hf : ∀ j, j < ops.size → listed.getD j false = decide (j < k) := by
      intro j hj
      have := hl j hj
      simp only [Array.getD_eq_getD_getElem?] at this ⊢
      rw [Array.getElem?_eq_getElem (by omega)] at this ⊢
      simpa using this
    show (((Region.ready .any ops listed).contains k && Region.free .any ops listed k) && Region.lexFrom .any ops r.length (k + 1) (listed.setIfInBounds k true)) = true
    simp only [Bool.and_eq_true]
    refine ⟨⟨?_, ?_⟩, ?_⟩
    · rw [List.contains_iff_mem]
      refine mem_ready.2 ⟨by rw [hl k hkl]; simp, o, ho, fun e hm hb => ?_⟩
      unfold backB at h1
      have := List.all_eq_true.1 h1 e (Array.mem_toList_iff.2 hm)
      rw [hb] at this
      have hlt : e.on < k := by simpa [Nat.blt_eq] using this
      rw [hf _ (by omega)]
      simpa using hlt
    · unfold Region.free
      rw [ho]
      simp only [List.all_eq_true, List.mem_range]
      intro j hj
      by_cases h4 : j = k
      · simp [h4]
      · by_cases h5 : j < k
        · rw [hl j hj]; simp [h5]
        · have hoj : ops[j]? = some ops[j] := Array.getElem?_eq_getElem hj
          rw [hoj]
          have hm : ops[j] ∈ r := by
            have := he (j - k)
            rw [show k + (j - k) = j by omega, hoj, show j - k = (j - k - 1) + 1 by omega, List.getElem?_cons_succ] at this
            exact List.mem_of_getElem? this
          rcases freeB_at h2 _ hm with h6 | h6
          · simp only [h6, Bool.true_or, Bool.or_true]
          · simp only [h6, Bool.or_true]
    · refine lexG_ok r (k + 1) _ (fun j => ?_) (by simp [hs]) (fun j hj => ?_) (by simp only [List.length_cons] at hk; omega) h3
      · have := he (j + 1)
        simpa [Nat.add_assoc, Nat.add_comm 1 j] using this
      · by_cases e : k = j
        · subst e
          simp [hs, hkl]
        · rw [getD_set_ne true e, hl j hj]
          simp
          omega
theorem lexQ_ok {ops : Array Oper} (h : (Region.noSelect ops && lexG ops 0 ops.toList) = true) : Region.lexB .any ops = true := by
  simp only [Bool.and_eq_true] at h
  unfold Region.lexB
  rw [h.1, Bool.true_and]
  have := lexG_ok ops.toList 0 (Array.replicate ops.size false) (by intro j; simp) (by simp) (by intro j hj; simp [hj]) (by simp) h.2
  simpa using this
theorem q2_region {P : Program} {ops : Array Oper} {Q : Exit → Act → World → Prop} {a : Act} {w : World} {id : Nat} (hm : P.follows .mixedOrders = true) (hB : (Region.noSelect ops && lexG ops 0 ops.toList) = true) (h : wq P ops w (fun a' => ∀ w', Below w.heap.size w w' → Q .normal a' w') (ops.toList.drop 0) a) : (Code.region id ops true).wp P Q a w :=
  q_region hm (lexQ_ok hB) h
/-! ### the check -/
def rdB (ops : Array Oper) (hd jd : List Nat) : List Nat → List Nat → Bool
  | _, [] => true
  | bef, i :: r => ((lookOf ops i).all fun t => !jd.contains t && hd.all fun k => !(dstOf ops k == some t) || (bef.contains k && (aftOf ops i).contains k) || (!bef.contains k && (aftOf ops k).contains i)) && rdB ops hd jd (bef ++ [i]) r
def stB (ops : Array Oper) (hd jd : List Nat) (i s : Nat) (y : Operand) : Bool := (aftOf ops s).contains i && match y with
  | .tmp t => !jd.contains t && hd.all fun k => !(dstOf ops k == some t) || (aftOf ops s).contains k
  | _ => true
def soleB (ops : Array Oper) : List Nat → Bool
  | [] => true
  | i :: r => (match dstOf ops i with
    | none => true
    | some d => r.all fun k => !(dstOf ops k == some d)) && soleB ops r
def uRegB (ops : Array Oper) (n : Nat) (hd : List Nat) (js : List (Nat × Nat × Nat × Operand)) : Bool :=
  Region.noSelect ops && (List.range ops.size).all (fun k => (aftOf ops k).all (Nat.blt · k)) && ndB (hd ++ (js.map (·.1) ++ js.map (·.2.1))) && (List.range ops.size).all (fun k => (hd ++ (js.map (·.1) ++ js.map (·.2.1))).contains k) && (hd ++ (js.map (·.1) ++ js.map (·.2.1))).all (Nat.blt · ops.size) &&
  soleB ops hd && hd.all (fun k => match dstOf ops k with
    | none => true
    | some d => Nat.blt d n && !(js.map (·.2.2.1)).contains d) && ndB (js.map (·.2.2.1)) && rdB ops hd (js.map (·.2.2.1)) [] hd && js.all fun j => stB ops hd (js.map (·.2.2.1)) j.1 j.2.1 j.2.2.2
abbrev AJ.q (j : AJ) : Nat × Nat × Nat × Operand := (j.i, j.s, j.d, j.y)
section
variable {P : Program} {ops : Array Oper} {Q : Exit → Act → World → Prop} {n : Nat} {w w' : World} {a0 a : Act} {hv : HV} {js : List AJ} {l : Array Bool} {ad : Nat → Addr} {L1 : SL}
theorem rdB_at {hd jd : List Nat} : ∀ {bef : List Nat} {p q : List Nat} {i : Nat}, rdB ops hd jd bef (p ++ i :: q) = true → ∀ t ∈ lookOf ops i, t ∉ jd ∧ ∀ k ∈ hd, dstOf ops k = some t → ((k ∈ bef ∨ k ∈ p) ∧ k ∈ aftOf ops i) ∨ ((k ∉ bef ∧ k ∉ p) ∧ i ∈ aftOf ops k)
  | bef, [], q, i, h, t, ht => by
    simp only [List.nil_append, rdB, Bool.and_eq_true, List.all_eq_true] at h
    have h1 := h.1 t ht
    simp only [Bool.and_eq_true, Bool.not_eq_true', List.contains_eq_mem, decide_eq_false_iff_not, List.all_eq_true, Bool.or_eq_true, decide_eq_true_eq] at h1
    refine ⟨h1.1, fun k hk hd => ?_⟩
    have h2 := h1.2 k hk
    rcases h2 with (h2 | h2) | h2
    · rw [hd] at h2; simp at h2
    · exact .inl ⟨.inl h2.1, h2.2⟩
    · exact .inr ⟨⟨h2.1, by simp⟩, h2.2⟩
  | bef, x :: p, q, i, h, t, ht => by
    simp only [List.cons_append, rdB, Bool.and_eq_true] at h
    obtain ⟨h1, h2⟩ := rdB_at h.2 t ht
    refine ⟨h1, fun k hk hd => ?_⟩
    rcases h2 k hk hd with ⟨h3, h4⟩ | ⟨h3, h4⟩
    · refine .inl ⟨?_, h4⟩
      rcases h3 with h3 | h3
      · rcases List.mem_append.1 h3 with h3 | h3
        · exact .inl h3
        · exact .inr (by simp at h3; simp [h3])
      · exact .inr (by simp [h3])
    · refine .inr ⟨⟨fun h => h3.1 (by simp [h]), fun h => ?_⟩, h4⟩
      rcases List.mem_cons.1 h with h | h
      · exact h3.1 (by simp [h])
      · exact h3.2 h
theorem soleB_at : ∀ {hd : List Nat}, soleB ops hd = true → ∀ i ∈ hd, ∀ k ∈ hd, ∀ t, dstOf ops i = some t → dstOf ops k = some t → i = k
  | [], _, i, hi, _, _, _, _, _ => by cases hi
  | x :: r, h, i, hi, k, hk, t, h1, h2 => by
    simp only [soleB, Bool.and_eq_true] at h
    have far : ∀ m ∈ r, dstOf ops x = some t → dstOf ops m ≠ some t := by
      intro m hm hx hmt
      rw [hx] at h
      simp only [List.all_eq_true, Bool.not_eq_true', beq_eq_false_iff_ne] at h
      exact h.1 m hm hmt
    rcases List.mem_cons.1 hi with e1 | e1 <;> rcases List.mem_cons.1 hk with e2 | e2
    · rw [e1, e2]
    · subst e1; exact absurd h2 (far k e2 h1)
    · subst e2; exact absurd h1 (far i e1 h2)
    · exact soleB_at h.2 i e1 k e2 t h1 h2
/-- What holds wherever the order has come to. -/
structure UInv (w : World) (ops : Array Oper) (n : Nat) (a0 : Act) (hv : HV) (js : List AJ) (l : Array Bool) (a : Act) (w' : World) (ad : Nat → Addr) : Prop where
  sz : a.tmps.size = n
  df : a.defers = []
  s1 : ∀ i v, (i, v) ∈ hv → l.getD i false = true → ∀ d, dstOf ops i = some d → a.tmps.getD d undef = v
  s2 : ∀ j ∈ js, l.getD j.i false = true → a.tmps.getD j.d undef = .pointer (some (ad j.i))
  s3 : ∀ t, (∀ i v, (i, v) ∈ hv → l.getD i false = true → dstOf ops i ≠ some t) → (∀ j ∈ js, l.getD j.i false = true → j.d ≠ t) → a.tmps.getD t undef = a0.tmps.getD t undef
  st : St [] w w' (js.map fun j => if l.getD j.s false = true then own j.T j.E (some (ad j.i)) 1 [j.x] else if l.getD j.i false = true then own j.T j.E (some (ad j.i)) 1 [j.x0] else fun L => L = [])
  cl : ListedClosed .any ops l
theorem lsize (h : l.size = ops.size) {i : Nat} (hi : i < ops.size) : (l.getD i true = false ↔ l.getD i false = false) := by simp [h, hi]
theorem getD_set_eq {i : Nat} (h : i < l.size) : (l.setIfInBounds i true).getD i false = true := by simp [h]
theorem set_iff {i k : Nat} (h : i < l.size) : (l.setIfInBounds i true).getD k false = true ↔ k = i ∨ l.getD k false = true := by
  by_cases e : i = k
  · subst e; simp [h]
  · rw [getD_set_ne false e]
    constructor
    · exact .inr
    · rintro (h1 | h1)
      · exact absurd h1.symm e
      · exact h1
end
end Go.Proofs.Ytheccnbamcdpmaa.E
