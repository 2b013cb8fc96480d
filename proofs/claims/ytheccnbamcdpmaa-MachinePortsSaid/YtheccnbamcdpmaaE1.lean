/- The engine's words, first part: slots told by a list, operations that touch no memory run by the kernel, code's rules. No condition. -/
import Derived.WalkKit
import Derived.OrdersHeld
import Derived.Deep.Quiet
import Derived.KernelRfl
namespace Go.Proofs.Ytheccnbamcdpmaa.E
open Go Go.RowKit

/-! ### loops and small things of the plain side -/
/-- One round after the other, at most k of them. -/
def iter {σ ρ : Type} : Nat → (σ → Option (σ ⊕ ρ)) → σ → Option ρ
  | 0, _, _ => none
  | k + 1, b, s => match b s with
    | none => none
    | some (.inr r) => some r
    | some (.inl s') => iter k b s'
theorem iter_succ {σ ρ : Type} {b : σ → Option (σ ⊕ ρ)} {r : ρ} : ∀ {k : Nat} {s : σ}, iter k b s = some r → iter (k + 1) b s = some r
  | 0, _, h => by simp [iter] at h
  | k + 1, s, h => by
    simp only [iter] at h ⊢
    cases hb : b s with
    | none => rw [hb] at h; simp at h
    | some o =>
      cases o with
      | inr r' => rw [hb] at h; exact h
      | inl s' =>
        rw [hb] at h
        have := iter_succ (k := k) (s := s') h
        simpa only [iter] using this
theorem iter_le {σ ρ : Type} {b : σ → Option (σ ⊕ ρ)} {r : ρ} {k l : Nat} {s : σ} (h : iter k b s = some r) (hl : k ≤ l) : iter l b s = some r := by
  induction hl with
  | refl => exact h
  | step _ ih => exact iter_succ ih
theorem iter_one {σ ρ : Type} {b : σ → Option (σ ⊕ ρ)} {r r' : ρ} {k l : Nat} {s : σ} (h : iter k b s = some r) (h' : iter l b s = some r') : r = r' :=
  Option.some.inj ((iter_le h (Nat.le_max_left k l)).symm.trans (iter_le h' (Nat.le_max_right k l)))
open Classical in
/-- Round after round, till one tells the end. -/
noncomputable def loopO {σ ρ : Type} (b : σ → Option (σ ⊕ ρ)) (s : σ) : Option ρ := if h : ∃ k r, iter k b s = some r then some h.choose_spec.choose else none
theorem loopO_of {σ ρ : Type} {b : σ → Option (σ ⊕ ρ)} {s : σ} {r : ρ} (k : Nat) (h : iter k b s = some r) : loopO b s = some r := by
  have hx : ∃ k r, iter k b s = some r := ⟨k, r, h⟩
  unfold loopO
  rw [dif_pos hx]
  exact congrArg some (iter_one hx.choose_spec.choose_spec h)
theorem of_loopO {σ ρ : Type} {b : σ → Option (σ ⊕ ρ)} {s : σ} {r : ρ} (h : loopO b s = some r) : ∃ k, iter k b s = some r := by
  unfold loopO at h
  by_cases hx : ∃ k r, iter k b s = some r
  · rw [dif_pos hx] at h
    have := Option.some.inj h
    exact ⟨hx.choose, this ▸ hx.choose_spec.choose_spec⟩
  · rw [dif_neg hx] at h; cases h
theorem loopO_eq {σ ρ : Type} (b : σ → Option (σ ⊕ ρ)) (s : σ) : loopO b s = match b s with
    | none => none
    | some (.inr r) => some r
    | some (.inl s') => loopO b s' := by
  cases hb : b s with
  | none =>
    cases h : loopO b s with
    | none => rfl
    | some r => obtain ⟨k, hk⟩ := of_loopO h; cases k <;> simp [iter, hb] at hk
  | some o =>
    cases o with
    | inr r => exact loopO_of 1 (by simp [iter, hb])
    | inl s' =>
      show loopO b s = loopO b s'
      cases h : loopO b s' with
      | some r => obtain ⟨k, hk⟩ := of_loopO h; exact loopO_of (k + 1) (by simp only [iter, hb]; exact hk)
      | none =>
        cases h2 : loopO b s with
        | none => rfl
        | some r =>
          obtain ⟨k, hk⟩ := of_loopO h2
          cases k with
          | zero => simp [iter] at hk
          | succ k => simp only [iter, hb] at hk; rw [loopO_of k hk] at h; cases h
theorem loopO_none {σ ρ : Type} {b : σ → Option (σ ⊕ ρ)} {s : σ} (h : b s = none) : loopO b s = none := by rw [loopO_eq, h]
theorem loopO_done {σ ρ : Type} {b : σ → Option (σ ⊕ ρ)} {s : σ} {r : ρ} (h : b s = some (.inr r)) : loopO b s = some r := by rw [loopO_eq, h]
theorem loopO_next {σ ρ : Type} {b : σ → Option (σ ⊕ ρ)} {s s' : σ} (h : b s = some (.inl s')) : loopO b s = loopO b s' := by rw [loopO_eq, h]
/-- A loop with what holds at each round's head and a number that falls. -/
theorem loopO_inv {σ ρ : Type} {b : σ → Option (σ ⊕ ρ)} (I : σ → Prop) (μ : σ → Nat) (R : ρ → Prop)
    (round : ∀ s, I s → (∃ s', b s = some (.inl s') ∧ I s' ∧ μ s' < μ s) ∨ (∃ r, b s = some (.inr r) ∧ R r)) : ∀ s, I s → ∃ r, loopO b s = some r ∧ R r := by
  have key : ∀ n s, μ s = n → I s → ∃ r, loopO b s = some r ∧ R r := by
    intro n
    induction n using Nat.strongRecOn with
    | _ n ih =>
      intro s hn hs
      rcases round s hs with ⟨s', hb, hI, hlt⟩ | ⟨r, hb, hr⟩
      · obtain ⟨r, h1, h2⟩ := ih (μ s') (hn ▸ hlt) s' rfl hI
        exact ⟨r, (loopO_next hb).trans h1, h2⟩
      · exact ⟨r, loopO_done hb, hr⟩
  exact fun s hs => key _ s rfl hs
/-- What each round keeps holds at the end. -/
theorem loopO_ind {σ ρ : Type} {b : σ → Option (σ ⊕ ρ)} (I : σ → Prop) (R : ρ → Prop) (hn : ∀ s s', I s → b s = some (.inl s') → I s') (hd : ∀ s r, I s → b s = some (.inr r) → R r) {s : σ} {r : ρ} (h : loopO b s = some r) (h0 : I s) : R r := by
  obtain ⟨k, hk⟩ := of_loopO h
  clear h
  induction k generalizing s with
  | zero => simp [iter] at hk
  | succ k ih =>
    simp only [iter] at hk
    cases hb : b s with
    | none => rw [hb] at hk; simp at hk
    | some o =>
      rw [hb] at hk
      cases o with
      | inr r' => simp at hk; exact hk ▸ hd _ _ h0 hb
      | inl s' => exact ih (hn _ _ h0 hb) hk
theorem bind_some {α β : Type} {x : Option α} {f : α → Option β} {r : β} (h : x.bind f = some r) : ∃ y, x = some y ∧ f y = some r := Option.bind_eq_some_iff.1 h
theorem ite_some {α : Type} {c : Prop} [Decidable c] {x y : Option α} {r : α} (h : (if c then x else y) = some r) : (c ∧ x = some r) ∨ (¬ c ∧ y = some r) := by
  by_cases hc : c
  · rw [if_pos hc] at h; exact .inl ⟨hc, h⟩
  · rw [if_neg hc] at h; exact .inr ⟨hc, h⟩
theorem ite_only {α : Type} {c : Prop} [Decidable c] {x : Option α} {r : α} (h : (if c then x else none) = some r) : c ∧ x = some r := by
  rcases ite_some h with h | h
  · exact h
  · cases h.2
theorem ite_t {α : Type} {c : Prop} [Decidable c] {x y r : α} (h : (if c then x else y) = r) (hc : c) : x = r := by rwa [if_pos hc] at h
theorem ite_f {α : Type} {c : Prop} [Decidable c] {x y r : α} (h : (if c then x else y) = r) (hc : ¬ c) : y = r := by rwa [if_neg hc] at h
/-- A value under a name. -/
def nm {α β : Type} (x : α) (f : α → β) : β := f x
theorem nm_some {α β : Type} {x : α} {f : α → β} {r : β} (h : nm x f = r) : ∃ y, y = x ∧ f y = r := ⟨x, rfl, h⟩
/-- A loop's end: the function's own, or behind the loop. -/
inductive Ex (ρ σ : Type) where
  | ret (r : ρ)
  | done (s : σ)

/-! ### slots -/
abbrev SL := List (Nat × Value)
def lk (t : Nat) : SL → Option Value
  | [] => none
  | p :: r => match Nat.beq t p.1 with
    | true => some p.2
    | false => lk t r
def rm (t : Nat) : SL → SL
  | [] => []
  | p :: r => match Nat.beq t p.1 with
    | true => rm t r
    | false => p :: rm t r
def kp : List Nat → SL → SL
  | [], _ => []
  | k :: ks, L => match lk k L with
    | some v => (k, v) :: kp ks L
    | none => kp ks L
theorem lk_mem {t : Nat} {v : Value} : ∀ {L : SL}, lk t L = some v → (t, v) ∈ L
  | [], h => by cases h
  | p :: r, h => by
    unfold lk at h
    split at h
    · rename_i hb
      have hb := Nat.eq_of_beq_eq_true hb
      cases h
      subst hb
      exact List.mem_cons_self
    · exact List.mem_cons_of_mem _ (lk_mem h)
theorem mem_rm {t : Nat} {p : Nat × Value} : ∀ {L : SL}, p ∈ rm t L → p ∈ L ∧ p.1 ≠ t
  | [], h => by cases h
  | q :: r, h => by
    unfold rm at h
    split at h
    · obtain ⟨h1, h2⟩ := mem_rm h
      exact ⟨List.mem_cons_of_mem _ h1, h2⟩
    · rename_i hb
      rcases List.mem_cons.1 h with h | h
      · subst h
        refine ⟨List.mem_cons_self, fun e => ?_⟩
        have := Nat.ne_of_beq_eq_false hb
        exact this e.symm
      · obtain ⟨h1, h2⟩ := mem_rm h
        exact ⟨List.mem_cons_of_mem _ h1, h2⟩
theorem mem_kp {p : Nat × Value} {L : SL} : ∀ {ks : List Nat}, p ∈ kp ks L → p ∈ L
  | [], h => by cases h
  | k :: ks, h => by
    unfold kp at h
    split at h
    · rename_i v hv
      rcases List.mem_cons.1 h with h | h
      · exact h ▸ lk_mem hv
      · exact mem_kp h
    · exact mem_kp h
def hasN : List Nat → Nat → Bool
  | [], _ => false
  | d :: r, k => match Nat.beq d k with
    | true => true
    | false => hasN r k
def rms (ds : List Nat) : SL → SL
  | [] => []
  | p :: r => match hasN ds p.1 with
    | true => rms ds r
    | false => p :: rms ds r
def keysL : SL → List Nat
  | [] => []
  | p :: r => p.1 :: keysL r
/-- The slots without some, and with new ones. -/
def kd (ds : List Nat) (N L : SL) : SL := N ++ rms (keysL N) (rms ds L)
theorem mem_rms {ds : List Nat} {p : Nat × Value} : ∀ {L : SL}, p ∈ rms ds L → p ∈ L
  | [], h => by cases h
  | q :: r, h => by
    unfold rms at h
    split at h
    · exact List.mem_cons_of_mem _ (mem_rms h)
    · rcases List.mem_cons.1 h with h | h
      · subst h; exact List.mem_cons_self
      · exact List.mem_cons_of_mem _ (mem_rms h)
/-- n slots, no deferred call, and what some of the slots hold. -/
structure Slots (a : Act) (n : Nat) (L : SL) : Prop where
  sz : a.tmps.size = n
  df : a.defers = []
  hold : ∀ p, p ∈ L → a.tmps.getD p.1 undef = p.2
theorem Slots.lk {a : Act} {n : Nat} {L : SL} (h : Slots a n L) {t : Nat} {v : Value} (e : lk t L = some v) : a.tmps.getD t undef = v := h.hold (t, v) (lk_mem e)
theorem Slots.keep {a : Act} {n : Nat} {L L' : SL} (ks : List Nat) (h : Slots a n L) (e : kp ks L = L') : Slots a n L' := ⟨h.sz, h.df, fun p hp => h.hold p (mem_kp (e ▸ hp))⟩
theorem Slots.rms {a : Act} {n : Nat} {L : SL} (h : Slots a n L) (ds : List Nat) : Slots a n (rms ds L) := ⟨h.sz, h.df, fun p hp => h.hold p (mem_rms hp)⟩
theorem Slots.kx {a : Act} {n : Nat} {L L' : SL} (h : Slots a n L) (e : kp (keysL L') L = L' := by kernel_rfl) : Slots a n L' := h.keep _ e
theorem getD_set_same {xs : Array Value} {d : Nat} {v : Value} (h : d < xs.size) : (xs.setIfInBounds d v).getD d undef = v := by simp [h]
theorem getD_set_other {xs : Array Value} {d i : Nat} {v : Value} (h : i ≠ d) : (xs.setIfInBounds d v).getD i undef = xs.getD i undef := by
  simp only [Array.getD_eq_getD_getElem?, Array.getElem?_setIfInBounds]
  rw [if_neg (fun e => h e.symm)]
/-- The slots behind an operation that leaves v. -/
def putL (n : Nat) (dst : Option Tmp) (v : Value) (L : SL) : SL := match dst with
  | none => L
  | some d => match Nat.blt d n with
    | true => (d, v) :: rm d L
    | false => L
theorem Slots.put {a : Act} {n : Nat} {L : SL} (h : Slots a n L) (dst : Option Tmp) (v : Value) : Slots (a.put dst v) n (putL n dst v L) := by
  cases dst with
  | none => exact h
  | some d =>
    refine ⟨by simp [Act.put, h.sz], h.df, fun p hp => ?_⟩
    unfold putL at hp
    simp only at hp
    show (a.tmps.setIfInBounds d v).getD p.1 undef = p.2
    split at hp
    · rename_i hb
      have hd : d < n := by simpa [Nat.blt_eq] using hb
      rcases List.mem_cons.1 hp with hp | hp
      · subst hp; exact getD_set_same (h.sz ▸ hd)
      · obtain ⟨h1, h2⟩ := mem_rm hp
        rw [getD_set_other h2]; exact h.hold p h1
    · rename_i hb
      have hd : ¬ d < n := by
        intro hd
        have : Nat.blt d n = true := by simpa [Nat.blt_eq] using hd
        rw [this] at hb; cases hb
      have : a.tmps.setIfInBounds d v = a.tmps := Array.setIfInBounds_eq_of_size_le (by rw [h.sz]; exact Nat.le_of_not_lt hd)
      rw [this]; exact h.hold p hp
/-! ### operands, operations -/
def ev (L : SL) : Operand → Option Value
  | .tmp t => lk t L
  | .const v => some v
  | .global g => some (.pointer (some ⟨g, 0, none⟩))
  | .func f => some (.func (.func f) #[] #[])
def evD (L : SL) (x : Operand) : Value := match ev L x with
  | some v => v
  | none => undef
theorem ev_ok {a : Act} {n : Nat} {L : SL} (h : Slots a n L) {x : Operand} {v : Value} (e : ev L x = some v) : a.eval x = v := by
  cases x with
  | tmp t => exact h.lk e
  | const u => cases e; rfl
  | global g => cases e; rfl
  | func f => cases e; rfl
def known (L : SL) : List Operand → Bool
  | [] => true
  | x :: r => match ev L x with
    | some _ => known L r
    | none => false
theorem known_ok {a : Act} {n : Nat} {L : SL} (h : Slots a n L) : ∀ {xs : List Operand}, known L xs = true → ∀ x ∈ xs, a.eval x = evD L x
  | [], _, _, hx => by cases hx
  | y :: r, e, x, hx => by
    unfold known at e
    split at e
    · rename_i v hv
      rcases List.mem_cons.1 hx with hx | hx
      · subst hx; rw [ev_ok h hv, evD, hv]
      · exact known_ok h e x hx
    · cases e
def noSel (o : Oper) : Bool := match o.op with
  | .select .. => false
  | _ => true
theorem noSel_ok {o : Oper} (h : noSel o = true) : ∀ cs b, o.op ≠ .select cs b := by
  intro cs b e
  unfold noSel at h
  rw [e] at h
  cases h
theorem exec_same {a : Act} {n : Nat} {L : SL} (h : Slots a n L) {o : Oper} (hk : known L o.op.operands.toList = true) (hn : noSel o = true) : execOp a.eval o = execOp (evD L) o :=
  execOp_congr o (noSel_ok hn) fun x hx => known_ok h hk x (Array.mem_toList_iff.2 hx)
/-- What runs without a look at the world. -/
def pv {α : Type} (P : Program) : Sem α → Option α
  | .pure v => some v
  | .program k => pv P (k P)
  | _ => none
theorem pv_ok {α : Type} {P : Program} {v : α} : ∀ (s : Sem α), pv P s = some v → ∀ w, s.run P w = .ok v w
  | .pure u, h, w => by cases h; rfl
  | .program k, h, w => pv_ok (k P) h w
  | .load .., h, _ => by cases h
  | .store .., h, _ => by cases h
  | .new .., h, _ => by cases h
  | .shape .., h, _ => by cases h
  | .freeze .., h, _ => by cases h
  | .frozen .., h, _ => by cases h
  | .getObj .., h, _ => by cases h
  | .setObj .., h, _ => by cases h
  | .choose .., h, _ => by cases h
  | .sys .., h, _ => by cases h
  | .mark .., h, _ => by cases h
  | .halt .., h, _ => by cases h
/-- Is the operation carried out? -/
def wantL (ops : Array Oper) (L : SL) (o : Oper) : Option Bool := match o.guard with
  | none => some true
  | some (j, b) => match (ops[j]?).bind (·.dst) with
    | none => none
    | some d => match lk d L with
      | some (.bool c) => some (c == b)
      | some (.tuple _) => some false
      | _ => none
theorem wantL_ok {a : Act} {n : Nat} {L : SL} (h : Slots a n L) {ops : Array Oper} {o : Oper} {c : Bool} (e : wantL ops L o = some c) : Region.wanted o (yielded ops a.tmps) = c := by
  unfold wantL at e
  unfold Region.wanted
  split at e
  · rename_i hg; rw [hg]; exact Option.some.inj e
  · rename_i j b hg
    rw [hg]
    show (yielded ops a.tmps j == some b) = c
    split at e
    · cases e
    · rename_i d hd
      split at e
      · rename_i c' hc
        have h1 := h.lk hc
        have h2 : a.tmps[d]? = some (.bool c') := by
          rw [Array.getD_eq_getD_getElem?] at h1
          cases hx : a.tmps[d]? with
          | none => rw [hx] at h1; simp [undef] at h1
          | some x => rw [hx] at h1; exact congrArg some h1
        unfold yielded
        rw [hd]
        simp only [Option.bind_some, h2]
        rw [← Option.some.inj e]
        cases c' <;> cases b <;> rfl
      · rename_i vs hc
        have h1 := h.lk hc
        have h2 : yielded ops a.tmps j = none := by
          unfold yielded
          rw [hd]
          simp only [Option.bind_some]
          rw [Array.getD_eq_getD_getElem?] at h1
          cases hx : a.tmps[d]? with
          | none => rfl
          | some x =>
            rw [hx] at h1
            have : x = .tuple vs := h1
            subst this
            rfl
        rw [h2, ← Option.some.inj e]
        rfl
      · cases e
def pv1 (P : Program) (ops : Array Oper) (n : Nat) (L : SL) (o : Oper) : Option SL := match wantL ops L o with
  | none => none
  | some false => some (putL n o.dst undef L)
  | some true => match known L o.op.operands.toList && noSel o with
    | false => none
    | true => match pv P (execOp (evD L) o) with
      | some (.value v) => some (putL n o.dst v L)
      | _ => none
def pvs (P : Program) (ops : Array Oper) (n : Nat) : SL → List Oper → Option SL
  | L, [] => some L
  | L, o :: r => match pv1 P ops n L o with
    | none => none
    | some L' => pvs P ops n L' r
section
variable {P : Program} {ops : Array Oper} {Q : Exit → Act → World → Prop} {a : Act} {w : World} {n : Nat} {L L' : SL}
theorem step_skip' (hs : Slots a n L) {o : Oper} {rest : List Oper} (hw : wantL ops L o = some false) (h : ∀ a', Slots a' n (putL n o.dst undef L) → wpList P ops Q rest a' w) : wpList P ops Q (o :: rest) a w := by
  unfold wpList
  rw [if_neg (by rw [wantL_ok hs hw]; simp)]
  exact h _ (hs.put _ _)
/-- An operation that runs to a value, in whatever world. -/
theorem step_run (hs : Slots a n L) {o : Oper} {rest : List Oper} (hw : wantL ops L o = some true) (hk : (known L o.op.operands.toList && noSel o) = true) {v : Value} {w' : World}
    (hr : (execOp (evD L) o).run P w = .ok (.value v) w') (h : ∀ a', Slots a' n (putL n o.dst v L) → wpList P ops Q rest a' w') : wpList P ops Q (o :: rest) a w := by
  simp only [Bool.and_eq_true] at hk
  unfold wpList
  rw [if_pos (wantL_ok hs hw)]
  refine .inl ?_
  unfold Oper.wp
  rw [exec_same hs hk.1 hk.2, hr]
  exact h _ (hs.put _ _)
/-- An operation that leaves no value (a store). -/
theorem step_unit (hs : Slots a n L) {o : Oper} {rest : List Oper} (hw : wantL ops L o = some true) (hk : (known L o.op.operands.toList && noSel o) = true) {w' : World}
    (hr : (execOp (evD L) o).run P w = .ok .skip w') (h : ∀ a', Slots a' n (putL n o.dst undef L) → wpList P ops Q rest a' w') : wpList P ops Q (o :: rest) a w := by
  simp only [Bool.and_eq_true] at hk
  unfold wpList
  rw [if_pos (wantL_ok hs hw)]
  refine .inl ?_
  unfold Oper.wp
  rw [exec_same hs hk.1 hk.2, hr]
  exact h _ (hs.put _ _)
theorem step_pv1 (hs : Slots a n L) {o : Oper} {rest : List Oper} (he : pv1 P ops n L o = some L') (h : ∀ a', Slots a' n L' → wpList P ops Q rest a' w) : wpList P ops Q (o :: rest) a w := by
  unfold pv1 at he
  split at he
  · cases he
  · rename_i hw; exact step_skip' hs hw (Option.some.inj he ▸ h)
  · rename_i hw
    split at he
    · cases he
    · rename_i hk
      split at he
      · rename_i v hv
        exact step_run hs hw hk (pv_ok _ hv w) (Option.some.inj he ▸ h)
      · cases he
theorem step_pvs {l rest : List Oper} : ∀ {L : SL} {a : Act}, Slots a n L → pvs P ops n L l = some L' → (∀ a', Slots a' n L' → wpList P ops Q rest a' w) → wpList P ops Q (l ++ rest) a w := by
  induction l with
  | nil => intro L a hs he h; cases he; exact h a hs
  | cons o r ih =>
    intro L a hs he h
    unfold pvs at he
    split at he
    · cases he
    · rename_i L1 h1
      exact step_pv1 hs h1 fun a' hs' => ih hs' he h
/-- The operations from number i on: those up to j run by the kernel. -/
theorem go_pvs {i : Nat} (j : Nat) (ds : List Nat) (N : SL) (hs : Slots a n L) 
    (h : ∀ a', Slots a' n (kd ds N L) → wpList P ops Q (ops.toList.drop j) a' w) (he : (pvs P ops n L ((ops.toList.drop i).take (j - i))).map (kp (keysL (kd ds N L))) = some (kd ds N L) := by kernel_rfl) (hij : Nat.ble i j = true := by kernel_rfl) : wpList P ops Q (ops.toList.drop i) a w := by
  obtain ⟨L1, h1, h2⟩ := Option.map_eq_some_iff.1 he
  have hij : i ≤ j := Nat.le_of_ble_eq_true hij
  have e : ops.toList.drop i = (ops.toList.drop i).take (j - i) ++ ops.toList.drop j := by
    conv => lhs; rw [← List.take_append_drop (j - i) (ops.toList.drop i)]
    rw [List.drop_drop]
    congr 2
    omega
  rw [e]
  exact step_pvs hs h1 fun a' hs' => h a' (hs'.keep _ h2)
/-- The operation number i, which it is. -/
theorem go_at {i : Nat} {o : Oper} (ho : ops.toList[i]? = some o) (h : wpList P ops Q (o :: ops.toList.drop (i + 1)) a w) : wpList P ops Q (ops.toList.drop i) a w := by
  have hi := (List.getElem?_eq_some_iff.1 ho)
  obtain ⟨hlt, he⟩ := hi
  rw [List.drop_eq_getElem_cons hlt, he]
  exact h
theorem go_end {i : Nat} (h : Q .normal a w) (hi : Nat.ble ops.toList.length i = true := by kernel_rfl) : wpList P ops Q (ops.toList.drop i) a w := by
  rw [List.drop_eq_nil_of_le (Nat.le_of_ble_eq_true hi)]
  exact h
theorem go_region {id : Nat} (h : wpList P ops Q (ops.toList.drop 0) a w) : (Code.region id ops false).wp P Q a w := wp_region_list h
/-- A region that touches no memory. -/
theorem go_plain {id : Nat} (ds : List Nat) (N : SL) (hs : Slots a n L) (h : ∀ a', Slots a' n (kd ds N L) → Q .normal a' w) (he : (pvs P ops n L ops.toList).map (kp (keysL (kd ds N L))) = some (kd ds N L) := by kernel_rfl) : (Code.region id ops false).wp P Q a w := by
  obtain ⟨L1, h1, h2⟩ := Option.map_eq_some_iff.1 he
  refine wp_region_list ?_
  have := step_pvs (P := P) (ops := ops) (Q := Q) (w := w) (l := ops.toList) (rest := []) hs h1 fun a' hs' => h a' (hs'.keep _ h2)
  simpa using this
/-- A call by contract. -/
theorem step_call (hs : Slots a n L) {o : Oper} {rest : List Oper} (hw : wantL ops L o = some true) (hk : (known L o.op.operands.toList && noSel o) = true) {f : FuncId} {args : Array Value}
    (he : pv P (execOp (evD L) o) = some (.enter f args)) {R : Ending → World → Prop} (hc : Calls P f args w R)
    (h : ∀ e w', R e w' → ∃ v, e = .returned v ∧ ∀ a', Slots a' n (putL n o.dst v L) → wpList P ops Q rest a' w') : wpList P ops Q (o :: rest) a w := by
  simp only [Bool.and_eq_true] at hk
  unfold wpList
  rw [if_pos (wantL_ok hs hw)]
  refine .inl ?_
  unfold Oper.wp
  rw [exec_same hs hk.1 hk.2, pv_ok _ he w]
  refine hc.mono fun e w' hR => ?_
  obtain ⟨v, rfl, hv⟩ := h e w' hR
  exact hv _ (hs.put _ _)
/-! ### code -/
theorem go_seq {x y : Code} (h : x.wp P (Exit.then (y.wp P Q) Q) a w) : (Code.seq x y).wp P Q a w := wp_seq h
theorem go_seq_k {x y : Code} (h : ∀ K : Act → World → Prop, (∀ a w, y.wp P Q a w → K a w) → x.wp P (Exit.then K Q) a w) : (Code.seq x y).wp P Q a w := wp_seq_k h
theorem go_sp {id : Nat} {y : Code} (ds : List Nat) (N : SL) (hs : Slots a n L) (h : ∀ a', Slots a' n (kd ds N L) → y.wp P Q a' w) (he : (pvs P ops n L ops.toList).map (kp (keysL (kd ds N L))) = some (kd ds N L) := by kernel_rfl) : (Code.seq (Code.region id ops false) y).wp P Q a w :=
  go_seq_k fun _ hK => go_plain ds N hs (fun a' hs' => hK _ _ (h a' hs')) he
theorem go_sk {id : Nat} {y : Code} (h : ∀ K : Act → World → Prop, (∀ a w, y.wp P Q a w → K a w) → wpList P ops (Exit.then K Q) (ops.toList.drop 0) a w) : (Code.seq (Code.region id ops false) y).wp P Q a w := go_seq_k fun K hK => go_region (h K hK)
theorem go_cond (hs : Slots a n L) {t : Nat} {x y : Code} (b : Bool) (h1 : b = true → x.wp P Q a w) (h2 : b = false → y.wp P Q a w) (e : lk t L = some (.bool b) := by kernel_rfl) : (Code.cond (.tmp t) x y).wp P Q a w :=
  wp_cond_split (t := b) (hs.lk e) h1 h2
/-- A loop, round by round as its plain twin goes. -/
theorem go_loop {σ ρ : Type} {b : σ → Option (σ ⊕ ρ)} {s0 : σ} {r : ρ} {c : Code} (I : σ → Act → World → Prop) (hl : loopO b s0 = some r) (h0 : I s0 a w)
    (round : ∀ s a w, I s a w → ∀ o, b s = some o → (∀ r', o = .inr r' → r' = r) → c.wp P (Exit.then (fun a' w' => ∃ s', o = .inl s' ∧ I s' a' w') Q) a w) : (Code.loop c).wp P Q a w := by
  intro bf kk cs
  obtain ⟨k0, hk0⟩ := of_loopO hl
  have key : ∀ k s a w, iter k b s = some r → I s a w →
      ∃ e a' w', Q e a' w' ∧ Arrives P (lone (bf.at a (.code c :: .inLoop c :: kk)) cs w) bf kk cs e a' w' := by
    intro k
    induction k with
    | zero => intro s a w h; simp [iter] at h
    | succ k ih =>
      intro s a w h hI
      simp only [iter] at h
      cases ho : b s with
      | none => rw [ho] at h; cases h
      | some o =>
        rw [ho] at h
        have hr : ∀ r', o = .inr r' → r' = r := by
          rintro r' rfl
          exact Option.some.inj h
        obtain ⟨e, a₁, w₁, hq, harr⟩ := round s a w hI o ho hr bf (.inLoop c :: kk) cs
        cases e with
        | normal =>
          obtain ⟨s', rfl, hI₁⟩ := hq
          obtain ⟨e₂, a₂, w₂, hq₂, harr₂⟩ := ih s' a₁ w₁ h hI₁
          exact ⟨e₂, a₂, w₂, hq₂, .of_steps (Steps.trans harr (.one step_inLoop)) harr₂⟩
        | exit id => exact ⟨_, a₁, w₁, hq, .pass (x := .inLoop c) rfl (fun _ _ => .inl (by simp)) harr⟩
        | goto l => exact ⟨_, a₁, w₁, hq, .pass (x := .inLoop c) rfl (fun _ _ => .inl (by simp)) harr⟩
        | ret => exact ⟨_, a₁, w₁, hq, .pass (x := .inLoop c) rfl (fun _ _ => .inl (by simp)) harr⟩
        | panic ch => exact ⟨_, a₁, w₁, hq, .pass (x := .inLoop c) rfl (fun _ _ => .inl (by simp)) harr⟩
        | outgrown => exact ⟨_, a₁, w₁, hq, .pass (x := .inLoop c) rfl (fun _ _ => .inl (by simp)) harr⟩
  obtain ⟨e, a', w', hq, harr⟩ := key k0 s0 a w hk0 h0
  exact ⟨e, a', w', hq, .of_steps (.one step_loop) harr⟩
/-- A function's begin. -/
theorem go_fn {f : FuncId} {fn : Func} {c : Code} {args : Array Value} {R : Ending → World → Prop} (hf : P.funcs[f]? = some fn) (hb : fn.body = some c) {n : Nat} (hn : fn.ntmps = n)
    (h : ∀ a, Slots a n (args.toList.zipIdx.map fun p => (p.2, p.1)) → c.wp P (bodyPost P fn R) a w) (hle : Nat.ble args.size n = true := by kernel_rfl) : Calls P f args w R := by
  refine calls_of_wp hf hb (h _ ⟨?_, rfl, fun p hp => ?_⟩)
  · have := Nat.le_of_ble_eq_true hle
    simp [hn]; omega
  · skip
    simp only [List.mem_map] at hp
    obtain ⟨q, hq, rfl⟩ := hp
    have hq := List.mem_zipIdx_iff_getElem?.1 hq
    have hlt : q.2 < args.size := by
      have := (List.getElem?_eq_some_iff.1 hq).1
      simpa using this
    simp only [Array.getD_eq_getD_getElem?]
    rw [Array.getElem?_append_left hlt]
    have : args[q.2]? = some q.1 := by simpa using hq
    rw [this]; rfl
theorem go_ret {fn : Func} {R : Ending → World → Prop} {v : Value} (hs : Slots a n L) (hr : (results fn a.tmps).run P w = .ok v w) (h : R (.returned v) w) : bodyPost P fn R .ret a w := ⟨hs.df, v, hr, h⟩
theorem go_fin {fn : Func} {R : Ending → World → Prop} {v : Value} (hs : Slots a n L) (hr : (results fn a.tmps).run P w = .ok v w) (h : R (.returned v) w) : bodyPost P fn R .normal a w := ⟨hs.df, v, hr, h⟩
end
end Go.Proofs.Ytheccnbamcdpmaa.E
