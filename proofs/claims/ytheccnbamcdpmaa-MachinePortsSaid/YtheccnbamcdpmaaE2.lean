/- The engine's words, second part: memory told block by block; what an operation that reads or writes memory does. No condition. -/
import Derived.Test.YtheccnbamcdpmaaE1
import Derived.Deep.AppendSrc
import Derived.Deep.MidRow
import Derived.Laws.MakeOwn
import Derived.Laws.Slices
namespace Go.Proofs.Ytheccnbamcdpmaa.E
open Go Go.RowKit

/-! ### blocks -/
abbrev BL := List (Nat × Obj)
abbrev Asn := BL → Prop
/-- w is w0 but for the blocks of G and new ones; of L it is known what they hold. -/
structure StB (G : List Nat) (w0 w : World) (L : BL) : Prop where
  os : w.os = w0.os
  tape : w.tape = w0.tape
  output : w.output = w0.output
  size : w0.heap.size ≤ w.heap.size
  old : ∀ k, k < w0.heap.size → k ∉ G → w.heap[k]? = w0.heap[k]?
  here : ∀ p, p ∈ L → w.heap[p.1]? = some p.2
  dom : ∀ p, p ∈ L → p.1 ∈ G ∨ w0.heap.size ≤ p.1
  nodup : (L.map Prod.fst).Nodup
def Cov : List Asn → BL → Prop
  | [], L => L = []
  | A :: As, L => ∃ L1 L2, L = L1 ++ L2 ∧ A L1 ∧ Cov As L2
def St (G : List Nat) (w0 w : World) (As : List Asn) : Prop := ∃ L, Cov As L ∧ StB G w0 w L
section
variable {G : List Nat} {w0 w w' : World} {As Bs : List Asn} {A B : Asn}
theorem StB.perm {L L' : BL} (h : StB G w0 w L) (hp : L.Perm L') : StB G w0 w L' :=
  ⟨h.os, h.tape, h.output, h.size, h.old, fun p hp' => h.here p (hp.mem_iff.2 hp'), fun p hp' => h.dom p (hp.mem_iff.2 hp'), (hp.map _).nodup_iff.1 h.nodup⟩
theorem StB.sub {L L' : BL} (h : StB G w0 w L) (hs : L'.Sublist L) : StB G w0 w L' :=
  ⟨h.os, h.tape, h.output, h.size, h.old, fun p hp => h.here p (hs.subset hp), fun p hp => h.dom p (hs.subset hp), (hs.map _).nodup h.nodup⟩
theorem StB.lt {L : BL} (h : StB G w0 w L) {p : Nat × Obj} (hp : p ∈ L) : p.1 < w.heap.size := (Array.getElem?_eq_some_iff.1 (h.here p hp)).1
theorem Cov.swap {L : BL} (h : Cov (A :: B :: As) L) : ∃ L', Cov (B :: A :: As) L' ∧ L.Perm L' := by
  obtain ⟨L1, L2, rfl, ha, M1, M2, rfl, hb, hr⟩ := h
  refine ⟨M1 ++ (L1 ++ M2), ⟨M1, L1 ++ M2, rfl, hb, L1, M2, rfl, ha, hr⟩, ?_⟩
  rw [← List.append_assoc, ← List.append_assoc]
  exact List.Perm.append_right _ List.perm_append_comm
theorem St.swap (h : St G w0 w (A :: B :: As)) : St G w0 w (B :: A :: As) := by
  obtain ⟨L, hc, hs⟩ := h
  obtain ⟨L', hc', hp⟩ := hc.swap
  exact ⟨L', hc', hs.perm hp⟩
def up : Nat → List Asn → List Asn
  | 0, As => As
  | _ + 1, [] => []
  | n + 1, A :: As => match up n As with
    | [] => [A]
    | B :: Bs => B :: A :: Bs
theorem Cov.up : ∀ (n : Nat) {As : List Asn} {L : BL}, Cov As L → ∃ L', Cov (up n As) L' ∧ L.Perm L'
  | 0, As, L, h => ⟨L, h, List.Perm.refl _⟩
  | _ + 1, [], L, h => ⟨L, h, List.Perm.refl _⟩
  | n + 1, A :: As, L, h => by
    obtain ⟨L1, L2, rfl, ha, hr⟩ := h
    obtain ⟨L2', hr', hp⟩ := Cov.up n hr
    unfold E.up
    cases hu : E.up n As with
    | nil =>
      rw [hu] at hr'
      exact ⟨L1 ++ L2', ⟨L1, L2', rfl, ha, hr'⟩, List.Perm.append_left _ hp⟩
    | cons B Bs =>
      rw [hu] at hr'
      obtain ⟨L', hc, hp2⟩ := Cov.swap (A := A) (B := B) (As := Bs) (L := L1 ++ L2') ⟨L1, L2', rfl, ha, hr'⟩
      exact ⟨L', hc, (List.Perm.append_left _ hp).trans hp2⟩
/-- Number n comes to the head. -/
theorem St.up (n : Nat) (h : St G w0 w As) : St G w0 w (up n As) := by
  obtain ⟨L, hc, hs⟩ := h
  obtain ⟨L', hc', hp⟩ := hc.up n
  exact ⟨L', hc', hs.perm hp⟩
/-- The head is told no more. -/
theorem St.tail (h : St G w0 w (A :: As)) : St G w0 w As := by
  obtain ⟨L, ⟨L1, L2, rfl, _, hr⟩, hs⟩ := h
  exact ⟨L2, hr, hs.sub (List.sublist_append_right _ _)⟩
theorem St.nil (w : World) : St [] w w [] := ⟨[], rfl, rfl, rfl, rfl, Nat.le_refl _, fun _ _ _ => rfl, (by intro p hp; cases hp), (by intro p hp; cases hp), List.nodup_nil⟩
theorem St.mono (h : St G w0 w (A :: As)) (hi : ∀ L, A L → B L) : St G w0 w (B :: As) := by
  obtain ⟨L, ⟨L1, L2, rfl, ha, hr⟩, hs⟩ := h
  exact ⟨_, ⟨L1, L2, rfl, hi _ ha, hr⟩, hs⟩
theorem St.below (h : St [] w0 w As) : Below w0.heap.size w0 w := by
  obtain ⟨L, _, hs⟩ := h
  exact ⟨hs.os, hs.tape, hs.output, hs.size, fun k hk => hs.old k hk (by simp)⟩
theorem St.size (h : St G w0 w As) : w0.heap.size ≤ w.heap.size := by
  obtain ⟨L, _, hs⟩ := h
  exact hs.size
theorem St.block (h : St G w0 w As) {k : Nat} (hk : k < w0.heap.size) (hg : k ∉ G) : w.heap[k]? = w0.heap[k]? := by
  obtain ⟨L, _, hs⟩ := h
  exact hs.old k hk hg
/-- A change that the blocks told do not see. -/
theorem StB.same {L : BL} (h : StB G w0 w L) (h1 : w'.os = w.os) (h2 : w'.tape = w.tape) (h3 : w'.output = w.output) (h4 : w.heap.size ≤ w'.heap.size) (h5 : ∀ k, k < w.heap.size → w'.heap[k]? = w.heap[k]?) : StB G w0 w' L :=
  ⟨h1.trans h.os, h2.trans h.tape, h3.trans h.output, Nat.le_trans h.size h4, fun k hk hg => (h5 k (Nat.lt_of_lt_of_le hk h.size)).trans (h.old k hk hg),
    fun p hp => (h5 p.1 (h.lt hp)).trans (h.here p hp), h.dom, h.nodup⟩
theorem St.drew (h : St G w0 w As) : St G w0 w.drew As := by
  obtain ⟨L, hc, hs⟩ := h
  exact ⟨L, hc, hs.same rfl rfl rfl (Nat.le_refl _) fun _ _ => rfl⟩
theorem St.drewN (h : St G w0 w As) (n : Nat) : St G w0 (w.drewN n) As := by
  obtain ⟨L, hc, hs⟩ := h
  exact ⟨L, hc, hs.same rfl rfl rfl (Nat.le_refl _) fun _ _ => rfl⟩
theorem StB.alloc {L : BL} (h : StB G w0 w L) (o : Obj) : StB G w0 (w.alloc o) ((w.heap.size, o) :: L) := by
  have h1 := h.same (w' := w.alloc o) rfl rfl rfl (by simp) (fun k hk => Below.heap_alloc w o k hk)
  refine ⟨h1.os, h1.tape, h1.output, h1.size, h1.old, ?_, ?_, ?_⟩
  · intro p hp
    rcases List.mem_cons.1 hp with hp | hp
    · subst hp; exact heap_alloc_new w o
    · exact h1.here p hp
  · intro p hp
    rcases List.mem_cons.1 hp with hp | hp
    · subst hp; exact .inr h.size
    · exact h1.dom p hp
  · refine List.nodup_cons.2 ⟨fun hm => ?_, h1.nodup⟩
    obtain ⟨p, hp, he⟩ := List.mem_map.1 hm
    have := h.lt hp
    simp only at he
    omega
/-- A block that holds these cells. -/
def box (g : Nat) (T : TypeId) (cs : List Value) : Asn := fun L => L = [(g, .cells cs.toArray T (0, 0))]
theorem St.alloc (h : St G w0 w As) (T : TypeId) (cs : List Value) : St G w0 (w.alloc (.cells cs.toArray T (0, 0))) (box w.heap.size T cs :: As) := by
  obtain ⟨L, hc, hs⟩ := h
  exact ⟨_, ⟨[_], L, rfl, rfl, hc⟩, hs.alloc _⟩
theorem St.heap {g : Nat} {T : TypeId} {cs : List Value} (h : St G w0 w (box g T cs :: As)) : w.heap[g]? = some (.cells cs.toArray T (0, 0)) := by
  obtain ⟨L, ⟨L1, L2, rfl, ha, hr⟩, hs⟩ := h
  have ha : L1 = [(g, .cells cs.toArray T (0, 0))] := ha
  subst ha
  exact hs.here (g, .cells cs.toArray T (0, 0)) (by simp)
theorem St.ge {g : Nat} {T : TypeId} {cs : List Value} (h : St [] w0 w (box g T cs :: As)) : w0.heap.size ≤ g := by
  obtain ⟨L, ⟨L1, L2, rfl, ha, hr⟩, hs⟩ := h
  have ha : L1 = [(g, .cells cs.toArray T (0, 0))] := ha
  subst ha
  rcases hs.dom (g, .cells cs.toArray T (0, 0)) (by simp) with h | h
  · cases h
  · exact h
/-- The head block alone turns. -/
theorem StB.turn {g : Nat} {o o' : Obj} {L : BL} (h : StB G w0 w ((g, o) :: L)) (h1 : w'.os = w.os) (h2 : w'.tape = w.tape) (h3 : w'.output = w.output) (h4 : w.heap.size ≤ w'.heap.size)
    (h5 : ∀ k, k < w.heap.size → k ≠ g → w'.heap[k]? = w.heap[k]?) (h6 : w'.heap[g]? = some o') : StB G w0 w' ((g, o') :: L) := by
  have hn := List.nodup_cons.1 h.nodup
  refine ⟨h1.trans h.os, h2.trans h.tape, h3.trans h.output, Nat.le_trans h.size h4, fun k hk hg => ?_, ?_, ?_, List.nodup_cons.2 ⟨hn.1, hn.2⟩⟩
  · have hne : k ≠ g := by
      rintro rfl
      rcases h.dom (k, o) (by simp) with hd | hd
      · exact hg hd
      · simp only at hd; omega
    exact (h5 k (Nat.lt_of_lt_of_le hk h.size) hne).trans (h.old k hk hg)
  · intro p hp
    rcases List.mem_cons.1 hp with hp | hp
    · subst hp; exact h6
    · have hm : p ∈ (g, o) :: L := List.mem_cons_of_mem _ hp
      exact (h5 p.1 (h.lt hm) (fun e => hn.1 (List.mem_map.2 ⟨p, hp, e⟩))).trans (h.here p hm)
  · intro p hp
    rcases List.mem_cons.1 hp with hp | hp
    · subst hp; exact h.dom (g, o) (by simp)
    · exact h.dom p (List.mem_cons_of_mem _ hp)
theorem setRow_far (w : World) (g k : Nat) (cs : Array Value) (h : k ≠ g) : (w.setRow g cs).heap[k]? = w.heap[k]? := by
  simp only [World.setRow, Array.getElem?_modify]
  rw [if_neg (fun e => h e.symm)]
theorem StB.setRow {g : Nat} {T : TypeId} {cur cs : Array Value} {L : BL} (h : StB G w0 w ((g, .cells cur T (0, 0)) :: L)) : StB G w0 (w.setRow g cs) ((g, .cells cs T (0, 0)) :: L) :=
  h.turn rfl rfl rfl (by simp [World.setRow]) (fun k _ hne => setRow_far w g k cs hne) (setRow_heap w g cur cs T (0, 0) (h.here (g, .cells cur T (0, 0)) (by simp)))
theorem St.setRow {g : Nat} {T : TypeId} {cs : List Value} (h : St G w0 w (box g T cs :: As)) (cs' : List Value) : St G w0 (w.setRow g cs'.toArray) (box g T cs' :: As) := by
  obtain ⟨L, ⟨L1, L2, rfl, ha, hr⟩, hs⟩ := h
  have ha : L1 = [(g, .cells cs.toArray T (0, 0))] := ha
  subst ha
  exact ⟨_, ⟨[_], L2, rfl, rfl, hr⟩, StB.setRow hs⟩
/-! ### a call -/
/-- Behind a callee that told of blocks of its own, and turned none. -/
theorem St.call (h : St G w0 w As) (hc : St [] w w' Bs) : St G w0 w' (Bs ++ As) := by
  obtain ⟨L, hcov, hs⟩ := h
  obtain ⟨M, hcov', hs'⟩ := hc
  have cov : ∀ {Bs : List Asn} {M : BL}, Cov Bs M → Cov (Bs ++ As) (M ++ L) := by
    intro Bs
    induction Bs with
    | nil => intro M h; cases h; exact hcov
    | cons B Bs ih =>
      intro M h
      obtain ⟨L1, L2, rfl, hb, hr⟩ := h
      exact ⟨L1, L2 ++ L, by rw [List.append_assoc], hb, ih hr⟩
  refine ⟨M ++ L, cov hcov', hs'.os.trans hs.os, hs'.tape.trans hs.tape, hs'.output.trans hs.output, Nat.le_trans hs.size hs'.size, fun k hk hg => ?_, fun p hp => ?_, fun p hp => ?_, ?_⟩
  · exact (hs'.old k (Nat.lt_of_lt_of_le hk hs.size) (by simp)).trans (hs.old k hk hg)
  · rcases List.mem_append.1 hp with hp | hp
    · exact hs'.here p hp
    · exact (hs'.old p.1 (hs.lt hp) (by simp)).trans (hs.here p hp)
  · rcases List.mem_append.1 hp with hp | hp
    · rcases hs'.dom p hp with h | h
      · cases h
      · exact .inr (Nat.le_trans hs.size h)
    · exact hs.dom p hp
  · rw [List.map_append]
    refine List.nodup_append.2 ⟨hs'.nodup, hs.nodup, fun a ha b hb e => ?_⟩
    obtain ⟨p, hp, rfl⟩ := List.mem_map.1 ha
    obtain ⟨q, hq, rfl⟩ := List.mem_map.1 hb
    have h1 := hs.lt hq
    rcases hs'.dom p hp with h | h
    · cases h
    · omega
theorem St.call0 (h : St G w0 w As) (hc : St [] w w' []) : St G w0 w' As := St.call h hc
/-- A callee that was handed one block, which it may turn. -/
theorem St.give {g : Nat} {T : TypeId} {cs : List Value} (h : St G w0 w (box g T cs :: As)) : St [g] w w [box g T cs] := by
  have hh := h.heap
  exact ⟨_, ⟨[_], [], rfl, rfl, rfl⟩, rfl, rfl, rfl, Nat.le_refl _, fun _ _ _ => rfl, by intro p hp; simp at hp; subst hp; exact hh, by intro p hp; simp at hp; subst hp; simp, by simp⟩
theorem St.back {g : Nat} {T : TypeId} {cs cs' : List Value} (h : St G w0 w (box g T cs :: As)) (hc : St [g] w w' (box g T cs' :: Bs)) : St G w0 w' (box g T cs' :: Bs ++ As) := by
  obtain ⟨L, ⟨L1, L2, rfl, ha, hr⟩, hs⟩ := h
  have ha : L1 = [(g, .cells cs.toArray T (0, 0))] := ha
  subst ha
  obtain ⟨M, ⟨M1, M2, rfl, hb, hr'⟩, hs'⟩ := hc
  have hb : M1 = [(g, .cells cs'.toArray T (0, 0))] := hb
  subst hb
  have cov : ∀ {Bs : List Asn} {M : BL}, Cov Bs M → Cov (Bs ++ As) (M ++ L2) := by
    intro Bs
    induction Bs with
    | nil => intro M h; cases h; exact hr
    | cons B Bs ih =>
      intro M h
      obtain ⟨L1, L3, rfl, hb, hr⟩ := h
      exact ⟨L1, L3 ++ L2, by rw [List.append_assoc], hb, ih hr⟩
  have hn := List.nodup_cons.1 (show (((g, Obj.cells cs.toArray T (0, 0)) :: L2).map Prod.fst).Nodup from hs.nodup)
  have hlt : g < w.heap.size := hs.lt (p := (g, .cells cs.toArray T (0, 0))) (by simp)
  have here2 : ∀ p, p ∈ L2 → p.1 < w.heap.size ∧ p.1 ≠ g := fun p hp => ⟨hs.lt (List.mem_cons_of_mem _ hp), fun e => hn.1 (List.mem_map.2 ⟨p, hp, e⟩)⟩
  refine ⟨(g, .cells cs'.toArray T (0, 0)) :: M2 ++ L2, ⟨[_], M2 ++ L2, rfl, rfl, cov hr'⟩, hs'.os.trans hs.os, hs'.tape.trans hs.tape, hs'.output.trans hs.output, Nat.le_trans hs.size hs'.size, fun k hk hg => ?_, fun p hp => ?_, fun p hp => ?_, ?_⟩
  · have hne : k ≠ g := by
      rintro rfl
      rcases hs.dom (k, .cells cs.toArray T (0, 0)) (by simp) with hd | hd
      · exact hg hd
      · simp only at hd; omega
    exact (hs'.old k (Nat.lt_of_lt_of_le hk hs.size) (by simpa using hne)).trans (hs.old k hk hg)
  · rcases List.mem_append.1 hp with hp | hp
    · exact hs'.here p hp
    · obtain ⟨h1, h2⟩ := here2 p hp
      exact (hs'.old p.1 h1 (by simpa using h2)).trans (hs.here p (List.mem_cons_of_mem _ hp))
  · rcases List.mem_append.1 hp with hp | hp
    · rcases List.mem_cons.1 hp with hp | hp
      · subst hp; exact hs.dom (g, .cells cs.toArray T (0, 0)) (by simp)
      · rcases hs'.dom p (List.mem_cons_of_mem _ hp) with h | h
        · have h : p.1 = g := by simpa using h
          have hnn := List.nodup_cons.1 (show (((g, Obj.cells cs'.toArray T (0, 0)) :: M2).map Prod.fst).Nodup from hs'.nodup)
          exact absurd (List.mem_map.2 ⟨p, hp, h⟩) hnn.1
        · exact .inr (Nat.le_trans hs.size h)
    · exact hs.dom p (List.mem_cons_of_mem _ hp)
  · rw [List.map_append]
    refine List.nodup_append.2 ⟨hs'.nodup, hn.2, fun a ha b hb e => ?_⟩
    obtain ⟨p, hp, rfl⟩ := List.mem_map.1 ha
    obtain ⟨q, hq, rfl⟩ := List.mem_map.1 hb
    obtain ⟨h1, h2⟩ := here2 q hq
    rcases hs'.dom p hp with h | h
    · have h : p.1 = g := by simpa using h
      omega
    · omega
/-! ### handing blocks to a callee -/
/-- w' is w but for the blocks of G and new ones. -/
structure Kp (G : List Nat) (w w' : World) : Prop where
  os : w'.os = w.os
  tape : w'.tape = w.tape
  output : w'.output = w.output
  size : w.heap.size ≤ w'.heap.size
  block : ∀ k, k < w.heap.size → k ∉ G → w'.heap[k]? = w.heap[k]?
theorem St.kp (h : St G w0 w As) : Kp G w0 w := by
  obtain ⟨L, _, hs⟩ := h
  exact ⟨hs.os, hs.tape, hs.output, hs.size, hs.old⟩
theorem Cov.split : ∀ {Gs As : List Asn} {L : BL}, Cov (Gs ++ As) L → ∃ L1 L2, L = L1 ++ L2 ∧ Cov Gs L1 ∧ Cov As L2
  | [], As, L, h => ⟨[], L, rfl, rfl, h⟩
  | A :: Gs, As, L, h => by
    obtain ⟨L1, L2, rfl, ha, hr⟩ := h
    obtain ⟨M1, M2, rfl, h1, h2⟩ := Cov.split hr
    exact ⟨L1 ++ M1, M2, by rw [List.append_assoc], ⟨L1, M1, rfl, ha, h1⟩, h2⟩
theorem Cov.join {As : List Asn} {L2 : BL} (h2 : Cov As L2) : ∀ {Gs : List Asn} {L1 : BL}, Cov Gs L1 → Cov (Gs ++ As) (L1 ++ L2)
  | [], L1, h => by cases h; exact h2
  | A :: Gs, L1, h => by
    obtain ⟨M1, M2, rfl, ha, hr⟩ := h
    exact ⟨M1, M2 ++ L2, by rw [List.append_assoc], ha, Cov.join h2 hr⟩
/-- The first ones are handed on: what the others are stays, whatever is done to these. -/
theorem St.lend (n : Nat) (h : St G w0 w As) : ∃ ks, St ks w w (As.take n) ∧ (∀ w', Kp ks w w' → St G w0 w' (As.drop n)) ∧ (∀ w' Bs, St ks w w' Bs → St G w0 w' (Bs ++ As.drop n)) := by
  obtain ⟨L, hc, hs⟩ := h
  obtain ⟨L1, L2, rfl, h1, h2⟩ := Cov.split (Gs := As.take n) (As := As.drop n) (by rw [List.take_append_drop]; exact hc)
  have hnd := hs.nodup
  rw [List.map_append] at hnd
  obtain ⟨n1, n2, n3⟩ := List.nodup_append.1 hnd
  have hlt : ∀ p, p ∈ L1 ++ L2 → p.1 < w.heap.size := fun p hp => hs.lt hp
  have hfar : ∀ p, p ∈ L2 → p.1 ∉ L1.map Prod.fst := fun p hp hm => n3 p.1 hm p.1 (List.mem_map.2 ⟨p, hp, rfl⟩) rfl
  have hrest : ∀ w', Kp (L1.map Prod.fst) w w' → StB G w0 w' L2 := by
    intro w' hk
    refine ⟨hk.os.trans hs.os, hk.tape.trans hs.tape, hk.output.trans hs.output, Nat.le_trans hs.size hk.size, fun k hk0 hg => ?_, fun p hp => ?_, fun p hp => hs.dom p (List.mem_append_right _ hp), n2⟩
    · refine (hk.block k (Nat.lt_of_lt_of_le hk0 hs.size) fun hm => ?_).trans (hs.old k hk0 hg)
      obtain ⟨p, hp, rfl⟩ := List.mem_map.1 hm
      rcases hs.dom p (List.mem_append_left _ hp) with hd | hd
      · exact hg hd
      · omega
    · exact (hk.block p.1 (hlt p (List.mem_append_right _ hp)) (hfar p hp)).trans (hs.here p (List.mem_append_right _ hp))
  refine ⟨L1.map Prod.fst, ⟨L1, h1, rfl, rfl, rfl, Nat.le_refl _, fun _ _ _ => rfl, fun p hp => hs.here p (List.mem_append_left _ hp), fun p hp => .inl (List.mem_map.2 ⟨p, hp, rfl⟩), n1⟩, fun w' hk => ⟨L2, h2, hrest w' hk⟩, fun w' Bs hb => ?_⟩
  obtain ⟨M, hcm, hm⟩ := hb
  have hr := hrest w' ⟨hm.os, hm.tape, hm.output, hm.size, hm.old⟩
  refine ⟨M ++ L2, Cov.join h2 hcm, hr.os, hr.tape, hr.output, hr.size, hr.old, fun p hp => ?_, fun p hp => ?_, ?_⟩
  · rcases List.mem_append.1 hp with hp | hp
    · exact hm.here p hp
    · exact hr.here p hp
  · rcases List.mem_append.1 hp with hp | hp
    · rcases hm.dom p hp with hd | hd
      · obtain ⟨q, hq, he⟩ := List.mem_map.1 hd
        rw [← he]; exact hs.dom q (List.mem_append_left _ hq)
      · exact .inr (Nat.le_trans hs.size hd)
    · exact hr.dom p hp
  · rw [List.map_append]
    refine List.nodup_append.2 ⟨hm.nodup, n2, fun a ha b hb e => ?_⟩
    obtain ⟨p, hp, rfl⟩ := List.mem_map.1 ha
    obtain ⟨q, hq, rfl⟩ := List.mem_map.1 hb
    rcases hm.dom p hp with hd | hd
    · exact hfar q hq (e ▸ hd)
    · have := hlt q (List.mem_append_right _ hq)
      omega
end
end Go.Proofs.Ytheccnbamcdpmaa.E
