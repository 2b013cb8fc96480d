/- The engine, the walk and the plain law, part 1. No condition. -/
import Derived.WalkKit
import Derived.OrdersHeld
import Derived.Deep.Quiet
import Derived.KernelRfl
import Derived.Deep.AppendSrc
import Derived.Deep.MidRow
import Derived.Laws.MakeOwn
import Derived.Laws.Slices
namespace Go.Proofs.YtlpiomnmaiddbaaGreatDoor.E
set_option linter.unusedVariables false
set_option linter.unusedSimpArgs false
open Go Go.RowKit
/-- One round after the other, at most k of them. -/
def iter {σ ρ : Type} : Nat → (σ → Option (σ ⊕ ρ)) → σ → Option ρ
  | 0, _, _ => none
  | k + 1, b, s => match b s with
    | none => none
    | some (.inr r) => some r
    | some (.inl s') => iter k b s'
theorem iter_succ {σ ρ : Type} {b : σ → Option (σ ⊕ ρ)} {r : ρ} : ∀ {k : Nat} {s : σ}, iter k b s = some r → iter (k + 1) b s = some r
  | 0, _, h => by simp [iter] at h
  | k + 1, s, h => by
    simp only [iter] at h ⊢
    cases hb : b s with
    | none => rw [hb] at h; simp at h
    | some o =>
      cases o with
      | inr r' => rw [hb] at h; exact h
      | inl s' =>
        rw [hb] at h
        have := iter_succ (k := k) (s := s') h
        simpa only [iter] using this
theorem iter_le {σ ρ : Type} {b : σ → Option (σ ⊕ ρ)} {r : ρ} {k l : Nat} {s : σ} (h : iter k b s = some r) (hl : k ≤ l) : iter l b s = some r := by
  induction hl with
  | refl => exact h
  | step _ ih => exact iter_succ ih
theorem iter_one {σ ρ : Type} {b : σ → Option (σ ⊕ ρ)} {r r' : ρ} {k l : Nat} {s : σ} (h : iter k b s = some r) (h' : iter l b s = some r') : r = r' :=
  Option.some.inj ((iter_le h (Nat.le_max_left k l)).symm.trans (iter_le h' (Nat.le_max_right k l)))
open Classical in
/-- Round after round, till one tells the end. -/
noncomputable def loopO {σ ρ : Type} (b : σ → Option (σ ⊕ ρ)) (s : σ) : Option ρ := if h : ∃ k r, iter k b s = some r then some h.choose_spec.choose else none
theorem loopO_of {σ ρ : Type} {b : σ → Option (σ ⊕ ρ)} {s : σ} {r : ρ} (k : Nat) (h : iter k b s = some r) : loopO b s = some r := by
  have hx : ∃ k r, iter k b s = some r := ⟨k, r, h⟩
  unfold loopO
  rw [dif_pos hx]
  exact congrArg some (iter_one hx.choose_spec.choose_spec h)
theorem of_loopO {σ ρ : Type} {b : σ → Option (σ ⊕ ρ)} {s : σ} {r : ρ} (h : loopO b s = some r) : ∃ k, iter k b s = some r := by
  unfold loopO at h
  by_cases hx : ∃ k r, iter k b s = some r
  · rw [dif_pos hx] at h
    have := Option.some.inj h
    exact ⟨hx.choose, this ▸ hx.choose_spec.choose_spec⟩
  · rw [dif_neg hx] at h; cases h
theorem loopO_eq {σ ρ : Type} (b : σ → Option (σ ⊕ ρ)) (s : σ) : loopO b s = match b s with
    | none => none
    | some (.inr r) => some r
    | some (.inl s') => loopO b s' := by
  cases hb : b s with
  | none =>
    cases h : loopO b s with
    | none => rfl
    | some r => obtain ⟨k, hk⟩ := of_loopO h; cases k <;> simp [iter, hb] at hk
  | some o =>
    cases o with
    | inr r => exact loopO_of 1 (by simp [iter, hb])
    | inl s' =>
      show loopO b s = loopO b s'
      cases h : loopO b s' with
      | some r => obtain ⟨k, hk⟩ := of_loopO h; exact loopO_of (k + 1) (by simp only [iter, hb]; exact hk)
      | none =>
        cases h2 : loopO b s with
        | none => rfl
        | some r =>
          obtain ⟨k, hk⟩ := of_loopO h2
          cases k with
          | zero => simp [iter] at hk
          | succ k => simp only [iter, hb] at hk; rw [loopO_of k hk] at h; cases h
theorem loopO_none {σ ρ : Type} {b : σ → Option (σ ⊕ ρ)} {s : σ} (h : b s = none) : loopO b s = none := by rw [loopO_eq, h]
theorem loopO_done {σ ρ : Type} {b : σ → Option (σ ⊕ ρ)} {s : σ} {r : ρ} (h : b s = some (.inr r)) : loopO b s = some r := by rw [loopO_eq, h]
theorem loopO_next {σ ρ : Type} {b : σ → Option (σ ⊕ ρ)} {s s' : σ} (h : b s = some (.inl s')) : loopO b s = loopO b s' := by rw [loopO_eq, h]
/-- A loop with what holds at each round's head and a number that falls. -/
theorem loopO_inv {σ ρ : Type} {b : σ → Option (σ ⊕ ρ)} (I : σ → Prop) (μ : σ → Nat) (R : ρ → Prop)
    (round : ∀ s, I s → (∃ s', b s = some (.inl s') ∧ I s' ∧ μ s' < μ s) ∨ (∃ r, b s = some (.inr r) ∧ R r)) : ∀ s, I s → ∃ r, loopO b s = some r ∧ R r := by
  have key : ∀ n s, μ s = n → I s → ∃ r, loopO b s = some r ∧ R r := by
    intro n
    induction n using Nat.strongRecOn with
    | _ n ih =>
      intro s hn hs
      rcases round s hs with ⟨s', hb, hI, hlt⟩ | ⟨r, hb, hr⟩
      · obtain ⟨r, h1, h2⟩ := ih (μ s') (hn ▸ hlt) s' rfl hI
        exact ⟨r, (loopO_next hb).trans h1, h2⟩
      · exact ⟨r, loopO_done hb, hr⟩
  exact fun s hs => key _ s rfl hs
/-- What each round keeps holds at the end. -/
theorem loopO_ind {σ ρ : Type} {b : σ → Option (σ ⊕ ρ)} (I : σ → Prop) (R : ρ → Prop) (hn : ∀ s s', I s → b s = some (.inl s') → I s') (hd : ∀ s r, I s → b s = some (.inr r) → R r) {s : σ} {r : ρ} (h : loopO b s = some r) (h0 : I s) : R r := by
  obtain ⟨k, hk⟩ := of_loopO h
  clear h
  induction k generalizing s with
  | zero => simp [iter] at hk
  | succ k ih =>
    simp only [iter] at hk
    cases hb : b s with
    | none => rw [hb] at hk; simp at hk
    | some o =>
      rw [hb] at hk
      cases o with
      | inr r' => simp at hk; exact hk ▸ hd _ _ h0 hb
      | inl s' => exact ih (hn _ _ h0 hb) hk
theorem bind_some {α β : Type} {x : Option α} {f : α → Option β} {r : β} (h : x.bind f = some r) : ∃ y, x = some y ∧ f y = some r := Option.bind_eq_some_iff.1 h
theorem ite_some {α : Type} {c : Prop} [Decidable c] {x y : Option α} {r : α} (h : (if c then x else y) = some r) : (c ∧ x = some r) ∨ (¬ c ∧ y = some r) := by
  by_cases hc : c
  · rw [if_pos hc] at h; exact .inl ⟨hc, h⟩
  · rw [if_neg hc] at h; exact .inr ⟨hc, h⟩
theorem ite_only {α : Type} {c : Prop} [Decidable c] {x : Option α} {r : α} (h : (if c then x else none) = some r) : c ∧ x = some r := by
  rcases ite_some h with h | h
  · exact h
  · cases h.2
theorem ite_t {α : Type} {c : Prop} [Decidable c] {x y r : α} (h : (if c then x else y) = r) (hc : c) : x = r := by rwa [if_pos hc] at h
theorem ite_f {α : Type} {c : Prop} [Decidable c] {x y r : α} (h : (if c then x else y) = r) (hc : ¬ c) : y = r := by rwa [if_neg hc] at h
/-- A value under a name. -/
def nm {α β : Type} (x : α) (f : α → β) : β := f x
theorem nm_some {α β : Type} {x : α} {f : α → β} {r : β} (h : nm x f = r) : ∃ y, y = x ∧ f y = r := ⟨x, rfl, h⟩
/-- A loop's end: the function's own, or behind the loop. -/
inductive Ex (ρ σ : Type) where
  | ret (r : ρ)
  | done (s : σ)

/-- What runs without a look at the world. -/
def pv {α : Type} (P : Program) : Sem α → Option α
  | .pure v => some v
  | .program k => pv P (k P)
  | _ => none
theorem pv_ok {α : Type} {P : Program} {v : α} : ∀ (s : Sem α), pv P s = some v → ∀ w, s.run P w = .ok v w
  | .pure u, h, w => by cases h; rfl
  | .program k, h, w => pv_ok (k P) h w
  | .load .., h, _ => by cases h
  | .store .., h, _ => by cases h
  | .new .., h, _ => by cases h
  | .shape .., h, _ => by cases h
  | .freeze .., h, _ => by cases h
  | .frozen .., h, _ => by cases h
  | .getObj .., h, _ => by cases h
  | .setObj .., h, _ => by cases h
  | .choose .., h, _ => by cases h
  | .sys .., h, _ => by cases h
  | .mark .., h, _ => by cases h
  | .halt .., h, _ => by cases h
section
variable {P : Program} {ops : Array Oper} {Q : Exit → Act → World → Prop} {a : Act} {w : World} {n : Nat}
/-- A loop, round by round as its plain twin goes. -/
theorem go_loop {σ ρ : Type} {b : σ → Option (σ ⊕ ρ)} {s0 : σ} {r : ρ} {c : Code} (I : σ → Act → World → Prop) (hl : loopO b s0 = some r) (h0 : I s0 a w)
    (round : ∀ s a w, I s a w → ∀ o, b s = some o → (∀ r', o = .inr r' → r' = r) → c.wp P (Exit.then (fun a' w' => ∃ s', o = .inl s' ∧ I s' a' w') Q) a w) : (Code.loop c).wp P Q a w := by
  intro bf kk cs
  obtain ⟨k0, hk0⟩ := of_loopO hl
  have key : ∀ k s a w, iter k b s = some r → I s a w →
      ∃ e a' w', Q e a' w' ∧ Arrives P (lone (bf.at a (.code c :: .inLoop c :: kk)) cs w) bf kk cs e a' w' := by
    intro k
    induction k with
    | zero => intro s a w h; simp [iter] at h
    | succ k ih =>
      intro s a w h hI
      simp only [iter] at h
      cases ho : b s with
      | none => rw [ho] at h; cases h
      | some o =>
        rw [ho] at h
        have hr : ∀ r', o = .inr r' → r' = r := by
          rintro r' rfl
          exact Option.some.inj h
        obtain ⟨e, a₁, w₁, hq, harr⟩ := round s a w hI o ho hr bf (.inLoop c :: kk) cs
        cases e with
        | normal =>
          obtain ⟨s', rfl, hI₁⟩ := hq
          obtain ⟨e₂, a₂, w₂, hq₂, harr₂⟩ := ih s' a₁ w₁ h hI₁
          exact ⟨e₂, a₂, w₂, hq₂, .of_steps (Steps.trans harr (.one step_inLoop)) harr₂⟩
        | exit id => exact ⟨_, a₁, w₁, hq, .pass (x := .inLoop c) rfl (fun _ _ => .inl (by simp)) harr⟩
        | goto l => exact ⟨_, a₁, w₁, hq, .pass (x := .inLoop c) rfl (fun _ _ => .inl (by simp)) harr⟩
        | ret => exact ⟨_, a₁, w₁, hq, .pass (x := .inLoop c) rfl (fun _ _ => .inl (by simp)) harr⟩
        | panic ch => exact ⟨_, a₁, w₁, hq, .pass (x := .inLoop c) rfl (fun _ _ => .inl (by simp)) harr⟩
        | outgrown => exact ⟨_, a₁, w₁, hq, .pass (x := .inLoop c) rfl (fun _ _ => .inl (by simp)) harr⟩
  obtain ⟨e, a', w', hq, harr⟩ := key k0 s0 a w hk0 h0
  exact ⟨e, a', w', hq, .of_steps (.one step_loop) harr⟩
end

abbrev BL := List (Nat × Obj)
abbrev Asn := BL → Prop
/-- w is w0 but for the blocks of G and new ones; of L it is known what they hold. -/
structure StB (G : List Nat) (w0 w : World) (L : BL) : Prop where
  os : w.os = w0.os
  tape : w.tape = w0.tape
  output : w.output = w0.output
  size : w0.heap.size ≤ w.heap.size
  old : ∀ k, k < w0.heap.size → k ∉ G → w.heap[k]? = w0.heap[k]?
  here : ∀ p, p ∈ L → w.heap[p.1]? = some p.2
  dom : ∀ p, p ∈ L → p.1 ∈ G ∨ w0.heap.size ≤ p.1
  nodup : (L.map Prod.fst).Nodup
def Cov : List Asn → BL → Prop
  | [], L => L = []
  | A :: As, L => ∃ L1 L2, L = L1 ++ L2 ∧ A L1 ∧ Cov As L2
def St (G : List Nat) (w0 w : World) (As : List Asn) : Prop := ∃ L, Cov As L ∧ StB G w0 w L
section
variable {G : List Nat} {w0 w w' : World} {As Bs : List Asn} {A B : Asn}
theorem StB.perm {L L' : BL} (h : StB G w0 w L) (hp : L.Perm L') : StB G w0 w L' :=
  ⟨h.os, h.tape, h.output, h.size, h.old, fun p hp' => h.here p (hp.mem_iff.2 hp'), fun p hp' => h.dom p (hp.mem_iff.2 hp'), (hp.map _).nodup_iff.1 h.nodup⟩
theorem StB.sub {L L' : BL} (h : StB G w0 w L) (hs : L'.Sublist L) : StB G w0 w L' :=
  ⟨h.os, h.tape, h.output, h.size, h.old, fun p hp => h.here p (hs.subset hp), fun p hp => h.dom p (hs.subset hp), (hs.map _).nodup h.nodup⟩
theorem StB.lt {L : BL} (h : StB G w0 w L) {p : Nat × Obj} (hp : p ∈ L) : p.1 < w.heap.size := (Array.getElem?_eq_some_iff.1 (h.here p hp)).1
theorem Cov.swap {L : BL} (h : Cov (A :: B :: As) L) : ∃ L', Cov (B :: A :: As) L' ∧ L.Perm L' := by
  obtain ⟨L1, L2, rfl, ha, M1, M2, rfl, hb, hr⟩ := h
  refine ⟨M1 ++ (L1 ++ M2), ⟨M1, L1 ++ M2, rfl, hb, L1, M2, rfl, ha, hr⟩, ?_⟩
  rw [← List.append_assoc, ← List.append_assoc]
  exact List.Perm.append_right _ List.perm_append_comm
theorem St.swap (h : St G w0 w (A :: B :: As)) : St G w0 w (B :: A :: As) := by
  obtain ⟨L, hc, hs⟩ := h
  obtain ⟨L', hc', hp⟩ := hc.swap
  exact ⟨L', hc', hs.perm hp⟩
def up : Nat → List Asn → List Asn
  | 0, As => As
  | _ + 1, [] => []
  | n + 1, A :: As => match up n As with
    | [] => [A]
    | B :: Bs => B :: A :: Bs
theorem Cov.up : ∀ (n : Nat) {As : List Asn} {L : BL}, Cov As L → ∃ L', Cov (up n As) L' ∧ L.Perm L'
  | 0, As, L, h => ⟨L, h, List.Perm.refl _⟩
  | _ + 1, [], L, h => ⟨L, h, List.Perm.refl _⟩
  | n + 1, A :: As, L, h => by
    obtain ⟨L1, L2, rfl, ha, hr⟩ := h
    obtain ⟨L2', hr', hp⟩ := Cov.up n hr
    unfold E.up
    cases hu : E.up n As with
    | nil =>
      rw [hu] at hr'
      exact ⟨L1 ++ L2', ⟨L1, L2', rfl, ha, hr'⟩, List.Perm.append_left _ hp⟩
    | cons B Bs =>
      rw [hu] at hr'
      obtain ⟨L', hc, hp2⟩ := Cov.swap (A := A) (B := B) (As := Bs) (L := L1 ++ L2') ⟨L1, L2', rfl, ha, hr'⟩
      exact ⟨L', hc, (List.Perm.append_left _ hp).trans hp2⟩
/-- Number n comes to the head. -/
theorem St.up (n : Nat) (h : St G w0 w As) : St G w0 w (up n As) := by
  obtain ⟨L, hc, hs⟩ := h
  obtain ⟨L', hc', hp⟩ := hc.up n
  exact ⟨L', hc', hs.perm hp⟩
/-- The head is told no more. -/
theorem St.tail (h : St G w0 w (A :: As)) : St G w0 w As := by
  obtain ⟨L, ⟨L1, L2, rfl, _, hr⟩, hs⟩ := h
  exact ⟨L2, hr, hs.sub (List.sublist_append_right _ _)⟩
theorem St.nil (w : World) : St [] w w [] := ⟨[], rfl, rfl, rfl, rfl, Nat.le_refl _, fun _ _ _ => rfl, (by intro p hp; cases hp), (by intro p hp; cases hp), List.nodup_nil⟩
theorem St.mono (h : St G w0 w (A :: As)) (hi : ∀ L, A L → B L) : St G w0 w (B :: As) := by
  obtain ⟨L, ⟨L1, L2, rfl, ha, hr⟩, hs⟩ := h
  exact ⟨_, ⟨L1, L2, rfl, hi _ ha, hr⟩, hs⟩
theorem St.below (h : St [] w0 w As) : Below w0.heap.size w0 w := by
  obtain ⟨L, _, hs⟩ := h
  exact ⟨hs.os, hs.tape, hs.output, hs.size, fun k hk => hs.old k hk (by simp)⟩
theorem St.size (h : St G w0 w As) : w0.heap.size ≤ w.heap.size := by
  obtain ⟨L, _, hs⟩ := h
  exact hs.size
theorem St.block (h : St G w0 w As) {k : Nat} (hk : k < w0.heap.size) (hg : k ∉ G) : w.heap[k]? = w0.heap[k]? := by
  obtain ⟨L, _, hs⟩ := h
  exact hs.old k hk hg
/-- A change that the blocks told do not see. -/
theorem StB.same {L : BL} (h : StB G w0 w L) (h1 : w'.os = w.os) (h2 : w'.tape = w.tape) (h3 : w'.output = w.output) (h4 : w.heap.size ≤ w'.heap.size) (h5 : ∀ k, k < w.heap.size → w'.heap[k]? = w.heap[k]?) : StB G w0 w' L :=
  ⟨h1.trans h.os, h2.trans h.tape, h3.trans h.output, Nat.le_trans h.size h4, fun k hk hg => (h5 k (Nat.lt_of_lt_of_le hk h.size)).trans (h.old k hk hg),
    fun p hp => (h5 p.1 (h.lt hp)).trans (h.here p hp), h.dom, h.nodup⟩
theorem St.drew (h : St G w0 w As) : St G w0 w.drew As := by
  obtain ⟨L, hc, hs⟩ := h
  exact ⟨L, hc, hs.same rfl rfl rfl (Nat.le_refl _) fun _ _ => rfl⟩
theorem St.drewN (h : St G w0 w As) (n : Nat) : St G w0 (w.drewN n) As := by
  obtain ⟨L, hc, hs⟩ := h
  exact ⟨L, hc, hs.same rfl rfl rfl (Nat.le_refl _) fun _ _ => rfl⟩
theorem StB.alloc {L : BL} (h : StB G w0 w L) (o : Obj) : StB G w0 (w.alloc o) ((w.heap.size, o) :: L) := by
  have h1 := h.same (w' := w.alloc o) rfl rfl rfl (by simp) (fun k hk => Below.heap_alloc w o k hk)
  refine ⟨h1.os, h1.tape, h1.output, h1.size, h1.old, ?_, ?_, ?_⟩
  · intro p hp
    rcases List.mem_cons.1 hp with hp | hp
    · subst hp; exact heap_alloc_new w o
    · exact h1.here p hp
  · intro p hp
    rcases List.mem_cons.1 hp with hp | hp
    · subst hp; exact .inr h.size
    · exact h1.dom p hp
  · refine List.nodup_cons.2 ⟨fun hm => ?_, h1.nodup⟩
    obtain ⟨p, hp, he⟩ := List.mem_map.1 hm
    have := h.lt hp
    simp only at he
    omega
/-- A block that holds these cells. -/
def box (g : Nat) (T : TypeId) (cs : List Value) : Asn := fun L => L = [(g, .cells cs.toArray T (0, 0))]
theorem St.alloc (h : St G w0 w As) (T : TypeId) (cs : List Value) : St G w0 (w.alloc (.cells cs.toArray T (0, 0))) (box w.heap.size T cs :: As) := by
  obtain ⟨L, hc, hs⟩ := h
  exact ⟨_, ⟨[_], L, rfl, rfl, hc⟩, hs.alloc _⟩
theorem St.heap {g : Nat} {T : TypeId} {cs : List Value} (h : St G w0 w (box g T cs :: As)) : w.heap[g]? = some (.cells cs.toArray T (0, 0)) := by
  obtain ⟨L, ⟨L1, L2, rfl, ha, hr⟩, hs⟩ := h
  have ha : L1 = [(g, .cells cs.toArray T (0, 0))] := ha
  subst ha
  exact hs.here (g, .cells cs.toArray T (0, 0)) (by simp)
theorem St.ge {g : Nat} {T : TypeId} {cs : List Value} (h : St [] w0 w (box g T cs :: As)) : w0.heap.size ≤ g := by
  obtain ⟨L, ⟨L1, L2, rfl, ha, hr⟩, hs⟩ := h
  have ha : L1 = [(g, .cells cs.toArray T (0, 0))] := ha
  subst ha
  rcases hs.dom (g, .cells cs.toArray T (0, 0)) (by simp) with h | h
  · cases h
  · exact h
/-- The head block alone turns. -/
theorem StB.turn {g : Nat} {o o' : Obj} {L : BL} (h : StB G w0 w ((g, o) :: L)) (h1 : w'.os = w.os) (h2 : w'.tape = w.tape) (h3 : w'.output = w.output) (h4 : w.heap.size ≤ w'.heap.size)
    (h5 : ∀ k, k < w.heap.size → k ≠ g → w'.heap[k]? = w.heap[k]?) (h6 : w'.heap[g]? = some o') : StB G w0 w' ((g, o') :: L) := by
  have hn := List.nodup_cons.1 h.nodup
  refine ⟨h1.trans h.os, h2.trans h.tape, h3.trans h.output, Nat.le_trans h.size h4, fun k hk hg => ?_, ?_, ?_, List.nodup_cons.2 ⟨hn.1, hn.2⟩⟩
  · have hne : k ≠ g := by
      rintro rfl
      rcases h.dom (k, o) (by simp) with hd | hd
      · exact hg hd
      · simp only at hd; omega
    exact (h5 k (Nat.lt_of_lt_of_le hk h.size) hne).trans (h.old k hk hg)
  · intro p hp
    rcases List.mem_cons.1 hp with hp | hp
    · subst hp; exact h6
    · have hm : p ∈ (g, o) :: L := List.mem_cons_of_mem _ hp
      exact (h5 p.1 (h.lt hm) (fun e => hn.1 (List.mem_map.2 ⟨p, hp, e⟩))).trans (h.here p hm)
  · intro p hp
    rcases List.mem_cons.1 hp with hp | hp
    · subst hp; exact h.dom (g, o) (by simp)
    · exact h.dom p (List.mem_cons_of_mem _ hp)
theorem setRow_far (w : World) (g k : Nat) (cs : Array Value) (h : k ≠ g) : (w.setRow g cs).heap[k]? = w.heap[k]? := by
  simp only [World.setRow, Array.getElem?_modify]
  rw [if_neg (fun e => h e.symm)]
theorem StB.setRow {g : Nat} {T : TypeId} {cur cs : Array Value} {L : BL} (h : StB G w0 w ((g, .cells cur T (0, 0)) :: L)) : StB G w0 (w.setRow g cs) ((g, .cells cs T (0, 0)) :: L) :=
  h.turn rfl rfl rfl (by simp [World.setRow]) (fun k _ hne => setRow_far w g k cs hne) (setRow_heap w g cur cs T (0, 0) (h.here (g, .cells cur T (0, 0)) (by simp)))
theorem St.setRow {g : Nat} {T : TypeId} {cs : List Value} (h : St G w0 w (box g T cs :: As)) (cs' : List Value) : St G w0 (w.setRow g cs'.toArray) (box g T cs' :: As) := by
  obtain ⟨L, ⟨L1, L2, rfl, ha, hr⟩, hs⟩ := h
  have ha : L1 = [(g, .cells cs.toArray T (0, 0))] := ha
  subst ha
  exact ⟨_, ⟨[_], L2, rfl, rfl, hr⟩, StB.setRow hs⟩
/-- Behind a callee that told of blocks of its own, and turned none. -/
theorem St.call (h : St G w0 w As) (hc : St [] w w' Bs) : St G w0 w' (Bs ++ As) := by
  obtain ⟨L, hcov, hs⟩ := h
  obtain ⟨M, hcov', hs'⟩ := hc
  have cov : ∀ {Bs : List Asn} {M : BL}, Cov Bs M → Cov (Bs ++ As) (M ++ L) := by
    intro Bs
    induction Bs with
    | nil => intro M h; cases h; exact hcov
    | cons B Bs ih =>
      intro M h
      obtain ⟨L1, L2, rfl, hb, hr⟩ := h
      exact ⟨L1, L2 ++ L, by rw [List.append_assoc], hb, ih hr⟩
  refine ⟨M ++ L, cov hcov', hs'.os.trans hs.os, hs'.tape.trans hs.tape, hs'.output.trans hs.output, Nat.le_trans hs.size hs'.size, fun k hk hg => ?_, fun p hp => ?_, fun p hp => ?_, ?_⟩
  · exact (hs'.old k (Nat.lt_of_lt_of_le hk hs.size) (by simp)).trans (hs.old k hk hg)
  · rcases List.mem_append.1 hp with hp | hp
    · exact hs'.here p hp
    · exact (hs'.old p.1 (hs.lt hp) (by simp)).trans (hs.here p hp)
  · rcases List.mem_append.1 hp with hp | hp
    · rcases hs'.dom p hp with h | h
      · cases h
      · exact .inr (Nat.le_trans hs.size h)
    · exact hs.dom p hp
  · rw [List.map_append]
    refine List.nodup_append.2 ⟨hs'.nodup, hs.nodup, fun a ha b hb e => ?_⟩
    obtain ⟨p, hp, rfl⟩ := List.mem_map.1 ha
    obtain ⟨q, hq, rfl⟩ := List.mem_map.1 hb
    have h1 := hs.lt hq
    rcases hs'.dom p hp with h | h
    · cases h
    · omega
theorem St.call0 (h : St G w0 w As) (hc : St [] w w' []) : St G w0 w' As := St.call h hc
/-- A callee that was handed one block, which it may turn. -/
theorem St.give {g : Nat} {T : TypeId} {cs : List Value} (h : St G w0 w (box g T cs :: As)) : St [g] w w [box g T cs] := by
  have hh := h.heap
  exact ⟨_, ⟨[_], [], rfl, rfl, rfl⟩, rfl, rfl, rfl, Nat.le_refl _, fun _ _ _ => rfl, by intro p hp; simp at hp; subst hp; exact hh, by intro p hp; simp at hp; subst hp; simp, by simp⟩
theorem St.back {g : Nat} {T : TypeId} {cs cs' : List Value} (h : St G w0 w (box g T cs :: As)) (hc : St [g] w w' (box g T cs' :: Bs)) : St G w0 w' (box g T cs' :: Bs ++ As) := by
  obtain ⟨L, ⟨L1, L2, rfl, ha, hr⟩, hs⟩ := h
  have ha : L1 = [(g, .cells cs.toArray T (0, 0))] := ha
  subst ha
  obtain ⟨M, ⟨M1, M2, rfl, hb, hr'⟩, hs'⟩ := hc
  have hb : M1 = [(g, .cells cs'.toArray T (0, 0))] := hb
  subst hb
  have cov : ∀ {Bs : List Asn} {M : BL}, Cov Bs M → Cov (Bs ++ As) (M ++ L2) := by
    intro Bs
    induction Bs with
    | nil => intro M h; cases h; exact hr
    | cons B Bs ih =>
      intro M h
      obtain ⟨L1, L3, rfl, hb, hr⟩ := h
      exact ⟨L1, L3 ++ L2, by rw [List.append_assoc], hb, ih hr⟩
  have hn := List.nodup_cons.1 (show (((g, Obj.cells cs.toArray T (0, 0)) :: L2).map Prod.fst).Nodup from hs.nodup)
  have hlt : g < w.heap.size := hs.lt (p := (g, .cells cs.toArray T (0, 0))) (by simp)
  have here2 : ∀ p, p ∈ L2 → p.1 < w.heap.size ∧ p.1 ≠ g := fun p hp => ⟨hs.lt (List.mem_cons_of_mem _ hp), fun e => hn.1 (List.mem_map.2 ⟨p, hp, e⟩)⟩
  refine ⟨(g, .cells cs'.toArray T (0, 0)) :: M2 ++ L2, ⟨[_], M2 ++ L2, rfl, rfl, cov hr'⟩, hs'.os.trans hs.os, hs'.tape.trans hs.tape, hs'.output.trans hs.output, Nat.le_trans hs.size hs'.size, fun k hk hg => ?_, fun p hp => ?_, fun p hp => ?_, ?_⟩
  · have hne : k ≠ g := by
      rintro rfl
      rcases hs.dom (k, .cells cs.toArray T (0, 0)) (by simp) with hd | hd
      · exact hg hd
      · simp only at hd; omega
    exact (hs'.old k (Nat.lt_of_lt_of_le hk hs.size) (by simpa using hne)).trans (hs.old k hk hg)
  · rcases List.mem_append.1 hp with hp | hp
    · exact hs'.here p hp
    · obtain ⟨h1, h2⟩ := here2 p hp
      exact (hs'.old p.1 h1 (by simpa using h2)).trans (hs.here p (List.mem_cons_of_mem _ hp))
  · rcases List.mem_append.1 hp with hp | hp
    · rcases List.mem_cons.1 hp with hp | hp
      · subst hp; exact hs.dom (g, .cells cs.toArray T (0, 0)) (by simp)
      · rcases hs'.dom p (List.mem_cons_of_mem _ hp) with h | h
        · have h : p.1 = g := by simpa using h
          have hnn := List.nodup_cons.1 (show (((g, Obj.cells cs'.toArray T (0, 0)) :: M2).map Prod.fst).Nodup from hs'.nodup)
          exact absurd (List.mem_map.2 ⟨p, hp, h⟩) hnn.1
        · exact .inr (Nat.le_trans hs.size h)
    · exact hs.dom p (List.mem_cons_of_mem _ hp)
  · rw [List.map_append]
    refine List.nodup_append.2 ⟨hs'.nodup, hn.2, fun a ha b hb e => ?_⟩
    obtain ⟨p, hp, rfl⟩ := List.mem_map.1 ha
    obtain ⟨q, hq, rfl⟩ := List.mem_map.1 hb
    obtain ⟨h1, h2⟩ := here2 q hq
    rcases hs'.dom p hp with h | h
    · have h : p.1 = g := by simpa using h
      omega
    · omega
/-- w' is w but for the blocks of G and new ones. -/
structure Kp (G : List Nat) (w w' : World) : Prop where
  os : w'.os = w.os
  tape : w'.tape = w.tape
  output : w'.output = w.output
  size : w.heap.size ≤ w'.heap.size
  block : ∀ k, k < w.heap.size → k ∉ G → w'.heap[k]? = w.heap[k]?
theorem St.kp (h : St G w0 w As) : Kp G w0 w := by
  obtain ⟨L, _, hs⟩ := h
  exact ⟨hs.os, hs.tape, hs.output, hs.size, hs.old⟩
theorem Cov.split : ∀ {Gs As : List Asn} {L : BL}, Cov (Gs ++ As) L → ∃ L1 L2, L = L1 ++ L2 ∧ Cov Gs L1 ∧ Cov As L2
  | [], As, L, h => ⟨[], L, rfl, rfl, h⟩
  | A :: Gs, As, L, h => by
    obtain ⟨L1, L2, rfl, ha, hr⟩ := h
    obtain ⟨M1, M2, rfl, h1, h2⟩ := Cov.split hr
    exact ⟨L1 ++ M1, M2, by rw [List.append_assoc], ⟨L1, M1, rfl, ha, h1⟩, h2⟩
theorem Cov.join {As : List Asn} {L2 : BL} (h2 : Cov As L2) : ∀ {Gs : List Asn} {L1 : BL}, Cov Gs L1 → Cov (Gs ++ As) (L1 ++ L2)
  | [], L1, h => by cases h; exact h2
  | A :: Gs, L1, h => by
    obtain ⟨M1, M2, rfl, ha, hr⟩ := h
    exact ⟨M1, M2 ++ L2, by rw [List.append_assoc], ha, Cov.join h2 hr⟩
/-- The first ones are handed on: what the others are stays, whatever is done to these. -/
theorem St.lend (n : Nat) (h : St G w0 w As) : ∃ ks, St ks w w (As.take n) ∧ (∀ w', Kp ks w w' → St G w0 w' (As.drop n)) ∧ (∀ w' Bs, St ks w w' Bs → St G w0 w' (Bs ++ As.drop n)) := by
  obtain ⟨L, hc, hs⟩ := h
  obtain ⟨L1, L2, rfl, h1, h2⟩ := Cov.split (Gs := As.take n) (As := As.drop n) (by rw [List.take_append_drop]; exact hc)
  have hnd := hs.nodup
  rw [List.map_append] at hnd
  obtain ⟨n1, n2, n3⟩ := List.nodup_append.1 hnd
  have hlt : ∀ p, p ∈ L1 ++ L2 → p.1 < w.heap.size := fun p hp => hs.lt hp
  have hfar : ∀ p, p ∈ L2 → p.1 ∉ L1.map Prod.fst := fun p hp hm => n3 p.1 hm p.1 (List.mem_map.2 ⟨p, hp, rfl⟩) rfl
  have hrest : ∀ w', Kp (L1.map Prod.fst) w w' → StB G w0 w' L2 := by
    intro w' hk
    refine ⟨hk.os.trans hs.os, hk.tape.trans hs.tape, hk.output.trans hs.output, Nat.le_trans hs.size hk.size, fun k hk0 hg => ?_, fun p hp => ?_, fun p hp => hs.dom p (List.mem_append_right _ hp), n2⟩
    · refine (hk.block k (Nat.lt_of_lt_of_le hk0 hs.size) fun hm => ?_).trans (hs.old k hk0 hg)
      obtain ⟨p, hp, rfl⟩ := List.mem_map.1 hm
      rcases hs.dom p (List.mem_append_left _ hp) with hd | hd
      · exact hg hd
      · omega
    · exact (hk.block p.1 (hlt p (List.mem_append_right _ hp)) (hfar p hp)).trans (hs.here p (List.mem_append_right _ hp))
  refine ⟨L1.map Prod.fst, ⟨L1, h1, rfl, rfl, rfl, Nat.le_refl _, fun _ _ _ => rfl, fun p hp => hs.here p (List.mem_append_left _ hp), fun p hp => .inl (List.mem_map.2 ⟨p, hp, rfl⟩), n1⟩, fun w' hk => ⟨L2, h2, hrest w' hk⟩, fun w' Bs hb => ?_⟩
  obtain ⟨M, hcm, hm⟩ := hb
  have hr := hrest w' ⟨hm.os, hm.tape, hm.output, hm.size, hm.old⟩
  refine ⟨M ++ L2, Cov.join h2 hcm, hr.os, hr.tape, hr.output, hr.size, hr.old, fun p hp => ?_, fun p hp => ?_, ?_⟩
  · rcases List.mem_append.1 hp with hp | hp
    · exact hm.here p hp
    · exact hr.here p hp
  · rcases List.mem_append.1 hp with hp | hp
    · rcases hm.dom p hp with hd | hd
      · obtain ⟨q, hq, he⟩ := List.mem_map.1 hd
        rw [← he]; exact hs.dom q (List.mem_append_left _ hq)
      · exact .inr (Nat.le_trans hs.size hd)
    · exact hr.dom p hp
  · rw [List.map_append]
    refine List.nodup_append.2 ⟨hm.nodup, n2, fun a ha b hb e => ?_⟩
    obtain ⟨p, hp, rfl⟩ := List.mem_map.1 ha
    obtain ⟨q, hq, rfl⟩ := List.mem_map.1 hb
    rcases hm.dom p hp with hd | hd
    · exact hfar q hq (e ▸ hd)
    · have := hlt q (List.mem_append_right _ hq)
      omega
end

structure Enc (α : Type) where
  sz : Nat
  enc : α → List Value
  d : α
  pos : 0 < sz
  len : ∀ x, (enc x).length = sz
  one : ∀ x, ∀ u ∈ enc x, u.oneCell' = true
def eI (k : IntKind) : Enc Int := ⟨1, fun x => [.int k x], 0, Nat.one_pos, fun _ => rfl, fun x u hu => by rw [List.mem_singleton.1 hu]; rfl⟩
def eB : Enc Bool := ⟨1, fun x => [.bool x], false, Nat.one_pos, fun _ => rfl, fun x u hu => by rw [List.mem_singleton.1 hu]; rfl⟩
def eS : Enc ByteArray := ⟨1, fun x => [.string x], ⟨#[]⟩, Nat.one_pos, fun _ => rfl, fun x u hu => by rw [List.mem_singleton.1 hu]; rfl⟩
/-- Element i. -/
def ix {α : Type} (d : α) (l : List α) (i : Int) : α := l.getD i.toNat d
theorem ix_some {α : Type} {d : α} {l : List α} {i : Int} (h0 : 0 ≤ i) (h1 : i < (l.length : Int)) : l[i.toNat]? = some (ix d l i) := by
  have : i.toNat < l.length := by omega
  simp [ix, this]
section
variable {α : Type} {E : Enc α}
theorem flat_len (l : List α) : (l.flatMap E.enc).length = l.length * E.sz := by
  induction l with
  | nil => simp
  | cons x r ih => simp only [List.flatMap_cons, List.length_append, ih, E.len, List.length_cons, Nat.add_mul, Nat.one_mul]; omega
theorem flat_get {l : List α} : ∀ {i : Nat} {x : α}, l[i]? = some x → ∀ {j : Nat}, j < E.sz → (l.flatMap E.enc)[i * E.sz + j]? = (E.enc x)[j]? := by
  induction l with
  | nil => intro i x h; cases h
  | cons y r ih =>
    intro i x h j hj
    cases i with
    | zero =>
      simp at h
      subst h
      rw [List.flatMap_cons, Nat.zero_mul, Nat.zero_add, List.getElem?_append_left (by rw [E.len]; exact hj)]
    | succ i =>
      simp at h
      rw [List.flatMap_cons, List.getElem?_append_right (by rw [E.len, Nat.add_mul, Nat.one_mul]; omega), E.len]
      rw [show (i + 1) * E.sz + j - E.sz = i * E.sz + j by rw [Nat.add_mul, Nat.one_mul]; omega]
      exact ih h hj
theorem flat_set {l : List α} : ∀ {i : Nat} {x y : α}, l[i]? = some x → ∀ {j : Nat} {vs : List Value}, j + vs.length ≤ E.sz → E.enc y = (E.enc x).take j ++ vs ++ (E.enc x).drop (j + vs.length) →
    (l.set i y).flatMap E.enc = (l.flatMap E.enc).take (i * E.sz + j) ++ vs ++ (l.flatMap E.enc).drop (i * E.sz + j + vs.length) := by
  induction l with
  | nil => intro i x y h; cases h
  | cons z r ih =>
    intro i x y h j vs hj he
    cases i with
    | zero =>
      simp at h
      subst h
      have hl := E.len z
      simp only [List.set_cons_zero, List.flatMap_cons, Nat.zero_mul, Nat.zero_add]
      rw [List.take_append_of_le_length (by omega), List.drop_append_of_le_length (by omega), he]
      simp only [List.append_assoc]
    | succ i =>
      simp at h
      have hl := E.len z
      simp only [List.set_cons_succ, List.flatMap_cons]
      rw [ih h hj he, show (i + 1) * E.sz + j = (E.enc z).length + (i * E.sz + j) by rw [hl, Nat.add_mul, Nat.one_mul]; omega]
      rw [List.take_length_add_append, Nat.add_assoc (E.enc z).length, List.drop_length_add_append]
      simp only [List.append_assoc]
theorem flat_one (l : List α) : ∀ u ∈ l.flatMap E.enc, u.oneCell' = true := by
  intro u hu
  obtain ⟨x, _, hx⟩ := List.mem_flatMap.1 hu
  exact E.one x u hx
end

def Rd {α : Type} (w : World) (E : Enc α) (A : Option Addr) (cap : Nat) (l : List α) : Prop :=
  l.length ≤ cap ∧ ∀ i x, l[i]? = some x → ∃ a, A = some a ∧ ∀ j u, (E.enc x)[j]? = some u → w.cell? (a.add (i * E.sz + j)) = some u
section
variable {α : Type} {E : Enc α} {G : List Nat} {w0 w w' : World} {A : Option Addr} {cap : Nat} {l : List α} {As : List Asn}
theorem Rd.nil (w : World) (E : Enc α) : Rd w E none 0 [] := ⟨Nat.le_refl _, by intro i x h; cases h⟩
theorem add_block' (a : Addr) (n : Nat) : (a.add n).block = a.block := by unfold Addr.add; split <;> rfl
theorem add_add' (a : Addr) (m n : Nat) : (a.add m).add n = a.add (m + n) := by
  unfold Addr.add
  by_cases hm : m = 0
  · subst hm; simp
  · by_cases hn : n = 0
    · subst hn; simp
    · simp [hm, hn, Nat.add_assoc]
theorem Rd.lt (h : Rd w E A cap l) {a : Addr} (ha : A = some a) (hl : l ≠ []) : a.block < w.heap.size := by
  cases l with
  | nil => exact absurd rfl hl
  | cons x r =>
    obtain ⟨b, hb, hc⟩ := h.2 0 x rfl
    have hab : b = a := Option.some.inj (hb.symm.trans ha)
    subst hab
    have hpos := E.pos
    have hlen := E.len x
    have h0 := hc 0 ((E.enc x)[0]'(by omega)) (List.getElem?_eq_getElem _)
    have := World.block_lt_of_cell? w _ h0
    rwa [add_block'] at this
/-- The row's block stays. -/
theorem Rd.move (h : Rd w E A cap l) (hb : ∀ a, A = some a → l ≠ [] → w'.heap[a.block]? = w.heap[a.block]?) : Rd w' E A cap l := by
  refine ⟨h.1, fun i x hi => ?_⟩
  obtain ⟨a, ha, hc⟩ := h.2 i x hi
  refine ⟨a, ha, fun j u hj => ?_⟩
  rw [World.cell?_of_block (w := w) (by rw [add_block']; exact hb a ha (by rintro rfl; cases hi))]
  exact hc j u hj
theorem Rd.below (h : Rd w E A cap l) (hb : Below w.heap.size w w') : Rd w' E A cap l := h.move fun a ha hl => hb.block a.block (h.lt ha hl)
/-- What was there when the call began is there. -/
theorem Rd.old (h : Rd w0 E A cap l) (hs : St [] w0 w As) : Rd w E A cap l := h.below hs.below
theorem Rd.oldG (h : Rd w0 E A cap l) (hs : St G w0 w As) (hg : ∀ a, A = some a → l ≠ [] → a.block ∉ G) : Rd w E A cap l := h.move fun a ha hl => hs.block (h.lt ha hl) (hg a ha hl)
theorem Rd.at (h : Rd w E A cap l) {i : Int} (h0 : 0 ≤ i) (h1 : i < (l.length : Int)) : ∃ a, A = some a ∧ ∀ j u, (E.enc (ix E.d l i))[j]? = some u → w.cell? (a.add (i.toNat * E.sz + j)) = some u := h.2 _ _ (ix_some h0 h1)
/-- l[lo:hi] begins here. -/
def cutA (A : Option Addr) (cap lo sz : Nat) : Option Addr := if cap = lo then A else A.map (·.add (lo * sz))
theorem Rd.cut (h : Rd w E A cap l) {lo hi : Nat} : Rd w E (cutA A cap lo E.sz) (cap - lo) ((l.take hi).drop lo) := by
  refine ⟨by have := h.1; simp only [List.length_drop, List.length_take]; omega, fun i x hi' => ?_⟩
  have hx : l[lo + i]? = some x := by
    simp only [List.getElem?_drop, List.getElem?_take] at hi'
    split at hi'
    · exact hi'
    · cases hi'
  have hlt : lo + i < l.length := (List.getElem?_eq_some_iff.1 hx).1
  obtain ⟨a, ha, hc⟩ := h.2 _ _ hx
  have hne : cap ≠ lo := by have := h.1; omega
  refine ⟨a.add (lo * E.sz), by simp [cutA, hne, ha], fun j u hj => ?_⟩
  rw [add_add', ← Nat.add_assoc, ← Nat.add_mul]
  exact hc j u hj

def own {α : Type} (T : TypeId) (E : Enc α) (A : Option Addr) (cap : Nat) (l : List α) : Asn := fun L =>
  (A = none ∧ cap = 0 ∧ l = [] ∧ L = []) ∨
  ∃ g b0 cur, A = some ⟨g, b0, none⟩ ∧ l.length ≤ cap ∧ cap ≤ maxLen ∧ b0 + cap * E.sz ≤ cur.size ∧ (cur.toList.drop b0).take (l.length * E.sz) = l.flatMap E.enc ∧ L = [(g, .cells cur T (0, 0))]
variable {T : TypeId}
theorem St.own_nil (h : St G w0 w As) (T : TypeId) (E : Enc α) : St G w0 w (own T E none 0 [] :: As) := by
  obtain ⟨L, hc, hs⟩ := h
  exact ⟨L, ⟨[], L, rfl, .inl ⟨rfl, rfl, rfl, rfl⟩, hc⟩, hs⟩
theorem take_get {cur : List Value} {n : Nat} {cs : List Value} (h : cur.take n = cs) {i : Nat} {u : Value} (hi : cs[i]? = some u) : cur[i]? = some u := by
  rw [← h, List.getElem?_take] at hi
  split at hi
  · exact hi
  · cases hi
theorem badd (g o n : Nat) : (⟨g, o, none⟩ : Addr).add n = ⟨g, o + n, none⟩ := by unfold Addr.add; split <;> simp_all
theorem add_zero_addr (g n : Nat) : (⟨g, 0, none⟩ : Addr).add n = ⟨g, n, none⟩ := by unfold Addr.add; split <;> simp_all
theorem Rd.of_own (h : St G w0 w (own T E A cap l :: As)) : Rd w E A cap l := by
  obtain ⟨L, ⟨L1, L2, rfl, ha, hr⟩, hs⟩ := h
  rcases ha with ⟨rfl, rfl, rfl, rfl⟩ | ⟨g, b0, cur, rfl, h1, h2, h3, h4, rfl⟩
  · exact Rd.nil w E
  · have hh : w.heap[g]? = some (.cells cur T (0, 0)) := hs.here (g, .cells cur T (0, 0)) (by simp)
    refine ⟨h1, fun i x hi => ⟨_, rfl, fun j u hj => ?_⟩⟩
    have hjlt : j < E.sz := by rw [← E.len x]; exact (List.getElem?_eq_some_iff.1 hj).1
    rw [badd, cell_of_row w g _ cur T (0, 0) hh]
    have := take_get h4 ((flat_get (E := E) hi hjlt).trans hj)
    simpa using this
theorem row_split {β : Type} {cur F : List β} {b0 n : Nat} (h : (cur.drop b0).take n = F) (hb : b0 + n ≤ cur.length) : ∃ P tl, cur = P ++ (F ++ tl) ∧ P.length = b0 ∧ F.length = n :=
  ⟨cur.take b0, cur.drop (b0 + n), by rw [← h, ← List.drop_drop, List.take_append_drop, List.take_append_drop], by rw [List.length_take]; omega, by rw [← h, List.length_take, List.length_drop]; omega⟩
theorem row_put {β : Type} {cur F vs : List β} {b0 n p : Nat} (h : (cur.drop b0).take n = F) (hb : b0 + n ≤ cur.length) (hp : p + vs.length ≤ n) :
    ((cur.take (b0 + p) ++ vs ++ cur.drop (b0 + p + vs.length)).drop b0).take n = F.take p ++ vs ++ F.drop (p + vs.length) := by
  obtain ⟨P, tl, rfl, rfl, rfl⟩ := row_split h hb
  have e1 : (F ++ tl).take p = F.take p := List.take_append_of_le_length (by omega)
  have e2 : (F ++ tl).drop (p + vs.length) = F.drop (p + vs.length) ++ tl := List.drop_append_of_le_length hp
  rw [List.take_length_add_append, Nat.add_assoc, List.drop_length_add_append, List.append_assoc, List.append_assoc, List.drop_left, e1, e2]
  rw [← List.append_assoc, ← List.append_assoc]
  exact List.take_left' (by simp only [List.length_append, List.length_take, List.length_drop]; omega)
theorem row_app {β : Type} {cur F vs : List β} {b0 n m : Nat} (h : (cur.drop b0).take n = F) (hb : b0 + n + vs.length ≤ cur.length) (hm : m = n + vs.length) :
    ((cur.take (b0 + n) ++ vs ++ cur.drop (b0 + n + vs.length)).drop b0).take m = F ++ vs := by
  subst hm
  obtain ⟨P, tl, rfl, rfl, rfl⟩ := row_split h (by omega)
  rw [List.take_length_add_append, List.take_left, List.append_assoc, List.append_assoc, List.drop_left, ← List.append_assoc]
  exact List.take_left' (by simp only [List.length_append])
theorem St.own_cap (h : St G w0 w (own T E A cap l :: As)) : l.length ≤ cap := (Rd.of_own h).1

def mkO (op : Op) (ty : TypeId) : Oper := ⟨none, op, ty, "", #[], none⟩
theorem exec_mk (ρ : Operand → Value) (o : Oper) : execOp ρ o = execOp ρ (mkO o.op o.type) := by
  unfold execOp mkO
  rfl

section
variable {P : Program} {ev : Operand → Value}
theorem run_v {s : Sem Value} {v : Value} (h : s.run P w = .ok v w') : (do pure (Next.value (← s)) : Sem Next).run P w = .ok (.value v) w' := by
  simp [h]
theorem run_u {s : Sem Unit} (h : s.run P w = .ok () w') : (do s; pure Next.skip : Sem Next).run P w = .ok .skip w' := by
  simp [h]
/-- A load of one cell. -/
theorem x_load {t : TypeId} {x : Operand} {ty : TypeId} {p : Addr} {v : Value} (hx : ev x = .pointer (some p)) (hu : (P.underlying t).map (·.isRow) = some false) (hc : w.cell? p = some v) :
    (execOp ev (mkO (.load t x) ty)).run P w = .ok (.value v) w := by
  refine run_v ?_
  show (Instr.loadAt t (ev x)).run P w = _
  obtain ⟨d, hu, hd⟩ := Option.map_eq_some_iff.1 hu
  have hagg : (isAgg t).run P w = .ok false w := by
    unfold isAgg
    rw [Sem.run_bind, run_underlying hu w]
    cases d <;> simp_all
  rw [hx]
  simp [Instr.loadAt, Instr.sureAddr, loadVar, Sem.run_bind, hagg, hc]
/-- A load of a row of cells. -/
theorem x_loads {t : TypeId} {x : Operand} {ty : TypeId} {p : Addr} {cs : List Value} (hx : ev x = .pointer (some p)) (hu : (P.underlying t).map (·.isRow) = some true)
    (hi : (P.info? t).map (·.size) = some cs.length) (hc : ∀ j u, cs[j]? = some u → w.cell? (p.add j) = some u) :
    (execOp ev (mkO (.load t x) ty)).run P w = .ok (.value (.agg cs.toArray)) w := by
  refine run_v ?_
  show (Instr.loadAt t (ev x)).run P w = _
  obtain ⟨d, hu, hd⟩ := Option.map_eq_some_iff.1 hu
  have hagg : (isAgg t).run P w = .ok true w := by
    unfold isAgg
    rw [Sem.run_bind, run_underlying hu w]
    cases d <;> simp_all
  have hl := run_loadCells_list (P := P) w p cs hc
  cases hq : P.info? t with
  | none => simp [hq] at hi
  | some inf =>
    have hs : inf.size = cs.length := by simpa [hq] using hi
    rw [hx]
    simp [Instr.loadAt, Instr.sureAddr, loadVar, Sem.run_bind, hagg, sizeOf, typeInfo, hq, hs, hl]
/-- A store. -/
theorem x_store {t : TypeId} {x y : Operand} {ty : TypeId} {gb o : Nat} {T : TypeId} {cur : Array Value} {v : Value} {vs : List Value} (hx : ev x = .pointer (some ⟨gb, o, none⟩)) (hy : ev y = v) (hv : v.cells.toList = vs)
    (hi : (P.info? t).map (·.size) = some vs.length) (hh : w.heap[gb]? = some (.cells cur T (0, 0))) (hfit : o + vs.length ≤ cur.size) (h1 : ∀ u ∈ vs, u.oneCell' = true) :
    (execOp ev (mkO (.store t x y) ty)).run P w = .ok .skip (w.setRow gb (cur.toList.take o ++ vs ++ cur.toList.drop (o + vs.length)).toArray) := by
  refine run_u ?_
  show (Instr.storeAt t (ev x) (ev y)).run P w = _
  have hst := run_storeCells_at P gb o T vs 0 cur w hh (by simpa using hfit) h1
  simp only [Nat.add_zero] at hst
  cases hq : P.info? t with
  | none => simp [hq] at hi
  | some inf =>
    have hs : v.cells.size = inf.size := by rw [← Array.length_toList, hv]; simp [hq] at hi; omega
    rw [hx, hy]
    simp [Instr.storeAt, Instr.sureAddr, storeVar, Sem.run_bind, sizeOf, typeInfo, hq, hs, hv, hst]
end
end
end Go.Proofs.YtlpiomnmaiddbaaGreatDoor.E
