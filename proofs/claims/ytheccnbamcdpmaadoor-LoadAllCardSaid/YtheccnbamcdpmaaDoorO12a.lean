/- What Pack comes to, as a plain recursion; sites that are made. No condition. -/
import Derived.Test.YtheccnbamcdpmaaDoorT12
import Derived.Test.YtheccnbamcdpmaaDoorE9
namespace Go.Proofs.YtheccnbamcdpmaaDoor.C08
open Go Go.RowKit Go.Proofs.YtheccnbamcdpmaaDoor.E Go.Proofs.YtheccnbamcdpmaaDoor.T12
theorem ixn {k : IntKind} {l : List Int} {i : Nat} (h : i < l.length) : ix (eI k).d l (i : Int) = l[i] := by
  show l.getD (i : Int).toNat 0 = _
  simp [h]
theorem ixd {k : IntKind} {l : List Int} {i : Int} : ix (eI k).d l i = l.getD i.toNat 0 := rfl
theorem drop_at {l : List Int} {i : Nat} (h : i < l.length) : l.drop i = l[i] :: l.drop (i + 1) := List.drop_eq_getElem_cons h
theorem w64s {x : Int} (h0 : -9000000000000000000 ≤ x) (h1 : x ≤ 9000000000000000000) : w64 x = x := w64_id (by omega) (by omega)
/-! ### same -/
theorem same32 {a b : List Int} (ha : a.length ≤ 4611686018427387904) : rivetref05_Same a b = some (decide (a = b)) := by
  unfold rivetref05_Same
  by_cases hl : a.length = b.length
  · rw [if_pos (by omega)]
    have key : ∀ n (i : Nat), a.length - i = n → i ≤ a.length → loopO (fun σ : Int => rivetref05_Same.b9 a b σ) (i : Int) = some (if a.drop i = b.drop i then .done () else .ret false) := by
      intro n
      induction n with
      | zero =>
        intro i hn hi
        rw [loopO_done (r := .done ())]
        · rw [List.drop_of_length_le (by omega), List.drop_of_length_le (by omega)]; simp
        · simp only [rivetref05_Same.b9]
          rw [if_neg (by omega)]
      | succ n ih =>
        intro i hn hi
        have h1 : i < a.length := by omega
        have h2 : i < b.length := by omega
        by_cases he : a[i] = b[i]
        · rw [loopO_next (s' := ((i + 1 : Nat) : Int)), ih (i + 1) (by omega) (by omega), drop_at h1, drop_at h2, he]
          · simp only [List.cons.injEq, true_and]
          · simp only [rivetref05_Same.b9]
            rw [if_pos (by omega), if_pos (by omega), if_pos (by omega), ixn h1, ixn h2, if_pos he, w64s (by omega) (by omega)]
            rfl
        · rw [loopO_done (r := .ret false), drop_at h1, drop_at h2, if_neg (fun e => he (List.cons.inj e).1)]
          · simp only [rivetref05_Same.b9]
            rw [if_pos (by omega), if_pos (by omega), if_pos (by omega), ixn h1, ixn h2, if_neg he]
    have := key a.length 0 (by omega) (by omega)
    simp only [Int.natCast_zero, List.drop_zero] at this
    rw [this]
    by_cases he : a = b
    · simp [he, rivetref05_Same.j1]
    · simp [he]
  · rw [if_neg (by omega)]
    have : a ≠ b := fun e => hl (by rw [e])
    simp [this]
/-! ### rising sites -/
def rise (N : Int) : Int → List Int → Bool
  | _, [] => true
  | p, s :: r => decide (p < s ∧ s < N ∧ s ≤ 65534) && rise N s r
theorem rise_chain (l0 l1 : List Int) (h1 : l1.length ≤ 4611686018427387904) : ∀ n (p : Int) (i : Nat), l1.length - i = n → i ≤ l1.length →
    loopO (fun σ : Int × Int => chain_Pack.b5 l1 l0 σ.1 σ.2) (p, (i : Int)) = some (if rise (l0.length : Int) p (l1.drop i) = true then .done () else .ret ([], 0, 7)) := by
  intro n
  induction n with
  | zero =>
    intro p i hn hi
    rw [loopO_done (r := .done ())]
    · rw [List.drop_of_length_le (by omega)]; simp [rise]
    · simp only [chain_Pack.b5]
      rw [if_neg (by omega)]
  | succ n ih =>
    intro p i hn hi
    have hlt : i < l1.length := by omega
    rw [drop_at hlt]
    simp only [rise]
    by_cases hc : p < l1[i] ∧ l1[i] < (l0.length : Int) ∧ l1[i] ≤ 65534
    · rw [loopO_next (s' := (l1[i], ((i + 1 : Nat) : Int))), ih _ _ (by omega) (by omega)]
      · simp [hc]
      · simp only [chain_Pack.b5]
        rw [if_pos (by omega), if_pos (by omega), ixn hlt, if_neg (by omega), if_neg (by omega)]
        simp only [chain_Pack.j1, chain_Pack.j2, chain_Pack.j3]
        rw [if_neg (by simp; omega), ixn hlt, w64s (by omega) (by omega)]
        rfl
    · rw [loopO_done (r := .ret ([], 0, 7))]
      · simp [hc]
      · simp only [chain_Pack.b5]
        rw [if_pos (by omega), if_pos (by omega), ixn hlt]
        by_cases h2 : l1[i] ≤ p
        · rw [if_pos h2]; simp [chain_Pack.j1]
        · rw [if_neg h2]
          by_cases h3 : l1[i] ≥ (l0.length : Int)
          · rw [if_pos h3]; simp [chain_Pack.j1]
          · rw [if_neg h3]; simp only [chain_Pack.j1]; rw [if_pos (by simp; omega)]
theorem rise_ref (N : Int) (l1 : List Int) (h1 : l1.length ≤ 4611686018427387904) : ∀ n (p : Int) (i : Nat), l1.length - i = n → i ≤ l1.length → -1 ≤ p → (i = 0 → p = -1) → (0 < i → p = l1.getD (i - 1) 0) →
    loopO (fun σ : Int => rivetref08_Rise.b4 l1 N σ) (i : Int) = some (if rise N p (l1.drop i) = true then .done () else .ret false) := by
  intro n
  induction n with
  | zero =>
    intro p i hn hi _ _ _
    rw [loopO_done (r := .done ())]
    · rw [List.drop_of_length_le (by omega)]; simp [rise]
    · simp only [rivetref08_Rise.b4]
      rw [if_neg (by omega)]
  | succ n ih =>
    intro p i hn hi hp hp0 hp1
    have hlt : i < l1.length := by omega
    rw [drop_at hlt]
    simp only [rise]
    have hb : rivetref08_Rise.b4 l1 N (i : Int) = rivetref08_Rise.j1 (i : Int) (!decide (p < l1[i] ∧ l1[i] < N ∧ l1[i] ≤ 65534)) := by
      simp only [rivetref08_Rise.b4]
      rw [if_pos (by omega), if_pos (by omega), ixn hlt]
      by_cases h2 : l1[i] < 0
      · rw [if_pos h2]; congr 1; simp; omega
      · rw [if_neg h2, if_pos (by omega)]
        by_cases h3 : l1[i] ≥ N
        · rw [if_pos h3]; congr 1; simp; omega
        · rw [if_neg h3, if_pos (by omega)]
          by_cases h4 : l1[i] > 65534
          · rw [if_pos h4]; congr 1; simp; omega
          · rw [if_neg h4]
            by_cases h5 : (i : Int) > 0
            · rw [if_pos h5, if_pos (by omega), w64s (by omega) (by omega), if_pos (by omega)]
              congr 1
              have e : ix (eI .i64).d l1 ((i : Int) - 1) = p := by
                rw [hp1 (by omega), ixd]; congr 1; omega
              rw [e]
              by_cases h6 : l1[i] ≤ p
              · rw [decide_eq_true h6, decide_eq_false (by omega)]; rfl
              · rw [decide_eq_false h6, decide_eq_true (by omega)]; rfl
            · rw [if_neg h5]
              congr 1
              have := hp0 (by omega)
              simp; omega
    by_cases hc : p < l1[i] ∧ l1[i] < N ∧ l1[i] ≤ 65534
    · rw [loopO_next (s' := ((i + 1 : Nat) : Int)), ih l1[i] (i + 1) (by omega) (by omega) (by omega) (by omega) (fun _ => by simp [hlt])]
      · simp [hc]
      · rw [hb]
        simp only [rivetref08_Rise.j1, rivetref08_Rise.j2]
        rw [if_neg (by simp [hc]), w64s (by omega) (by omega)]
        rfl
    · rw [loopO_done (r := .ret false)]
      · simp [hc]
      · rw [hb]
        simp only [rivetref08_Rise.j1]
        rw [if_pos (by simp [hc])]
theorem rise_is (N : Int) (l1 : List Int) (h1 : l1.length ≤ 4611686018427387904) : rivetref08_Rise l1 N = some (rise N (-1) l1) := by
  have := rise_ref N l1 h1 l1.length (-1) 0 (by omega) (by omega) (by omega) (fun _ => rfl) (by omega)
  rw [show ((0 : Nat) : Int) = 0 from rfl, List.drop_zero] at this
  unfold rivetref08_Rise
  rw [this]
  by_cases h : rise N (-1) l1 = true
  · simp [h, rivetref08_Rise.j3]
  · simp [h]
theorem rise_all {N : Int} : ∀ {p : Int} {l : List Int}, rise N p l = true → -1 ≤ p → ∀ s ∈ l, p < s ∧ 0 ≤ s ∧ s < N ∧ s ≤ 65534
  | _, [], _, _, s, hs => by cases hs
  | p, x :: r, h, hp, s, hs => by
    simp only [rise, Bool.and_eq_true, decide_eq_true_eq] at h
    rcases List.mem_cons.1 hs with h1 | h1
    · subst h1; omega
    · have := rise_all h.2 (by omega) s h1; omega
/-! ### pack -/
def pk : List Int → List Int → Int → Option (List Int × Int)
  | [], out, h => some (out, h)
  | s :: r, out, h => if out.getD s.toNat 0 > 65535 then none else pk r (out.set s.toNat (out.getD s.toNat 0 * 65536 + h)) (s + 1)
structure Good (N : Nat) (out : List Int) (h : Int) : Prop where
  len : out.length = N
  all : ∀ n ∈ out, 0 ≤ n ∧ n ≤ 4294967295
  h0 : 0 ≤ h
  h1 : h ≤ 65535
theorem Good.next {N : Nat} {out : List Int} {h s : Int} (g : Good N out h) (h0 : 0 ≤ s) (h1 : s ≤ 65534) (hx : ¬ out.getD s.toNat 0 > 65535) : Good N (out.set s.toNat (out.getD s.toNat 0 * 65536 + h)) (s + 1) := by
  have := all_getD g.all (d := 0) (by omega) s.toNat
  have := g.h0
  have := g.h1
  exact ⟨by simpa using g.len, all_set g.all (by omega) _, by omega, by omega⟩
theorem pk_loop {ρ : Type} (b : List Int × Int × Int → Option ((List Int × Int × Int) ⊕ Ex ρ (List Int × Int))) (bad : ρ) (N : Nat) (sites : List Int) (hN : ∀ s ∈ sites, 0 ≤ s ∧ s < (N : Int) ∧ s ≤ 65534)
    (hend : ∀ out h, b (out, h, (sites.length : Int)) = some (.inr (.done (out, h))))
    (hstep : ∀ out h (v : Nat) (hv : v < sites.length), Good N out h → b (out, h, (v : Int)) = some (if out.getD sites[v].toNat 0 > 65535 then .inr (.ret bad) else .inl (out.set sites[v].toNat (out.getD sites[v].toNat 0 * 65536 + h), sites[v] + 1, ((v + 1 : Nat) : Int)))) :
    ∀ n (v : Nat) out h, sites.length - v = n → v ≤ sites.length → Good N out h → loopO b (out, h, (v : Int)) = some (match pk (sites.drop v) out h with | some p => .done p | none => .ret bad) := by
  intro n
  induction n with
  | zero =>
    intro v out h hn hv _
    have : v = sites.length := by omega
    subst this
    rw [loopO_done (hend out h), List.drop_of_length_le (Nat.le_refl _)]
    rfl
  | succ n ih =>
    intro v out h hn hv g
    have hlt : v < sites.length := by omega
    have hs := hN sites[v] (List.getElem_mem hlt)
    rw [drop_at hlt]
    simp only [pk]
    have hst := hstep out h v hlt g
    by_cases hx : out.getD sites[v].toNat 0 > 65535
    · rw [if_pos hx] at hst ⊢
      rw [loopO_done hst]
    · rw [if_neg hx] at hst ⊢
      rw [loopO_next hst]
      exact ih (v + 1) _ _ (by omega) (by omega) (g.next hs.1 hs.2.2 hx)
theorem pack_val {x h : Int} (hx0 : 0 ≤ x) (hx : x ≤ 65535) (h0 : 0 ≤ h) (h1 : h ≤ 65535) : bor .u32 (wu32 (x * 2 ^ 16)) (wu32 h) = x * 65536 + h := by
  rw [show (2 : Int) ^ 16 = 65536 by decide, wu32_id (by omega) (by omega), wu32_id h0 (by omega), bor_nat (by decide) (by omega) (by simp only [umax]; omega) h0 (by simp only [umax]; omega)]
  have e : (x * 65536).toNat = 2 ^ 16 * x.toNat := by omega
  rw [e, or_high (by omega)]
  omega
theorem setn {l : List Int} {s v : Int} : l.set (s : Int).toNat v = l.set s.toNat v := rfl
def packed (l sites : List Int) : List Int × Int × Int := if rise (l.length : Int) (-1) sites = true then (match pk sites l 0 with | some p => (p.1, p.2, 0) | none => ([], 0, 8)) else ([], 0, 7)
theorem pack_chain (l sites : List Int) (h1 : sites.length ≤ 4611686018427387904) (h0 : l.length ≤ 1000000000000) (hl : ∀ n ∈ l, 0 ≤ n ∧ n ≤ 4294967295) : chain_Pack l sites = some (packed l sites) := by
  unfold chain_Pack packed
  have hr := rise_chain l sites h1 sites.length (-1) 0 (by omega) (by omega)
  rw [show ((0 : Nat) : Int) = 0 from rfl, List.drop_zero] at hr
  rw [hr]
  by_cases h : rise (l.length : Int) (-1) sites = true
  · rw [if_pos h, if_pos h]
    have hs := rise_all h (by omega)
    simp only [chain_Pack.j4, slices_Clone_uint32_uint32, Option.bind_some]
    rw [if_pos (by simp; omega)]
    simp only [List.nil_append, Option.bind_some]
    have := pk_loop (fun σ : List Int × Int × Int => chain_Pack.b38 sites σ.1 σ.2.1 σ.2.2) ([], 0, 8) l.length sites (fun s hs' => (hs s hs').2) (fun out h => by simp only [chain_Pack.b38]; rw [if_neg (by omega)]) (fun out h v hv g => by
      have hs' := hs sites[v] (List.getElem_mem hv)
      have hg := all_getD g.all (d := 0) (by omega) sites[v].toNat
      have hg1 := g.len
      simp only [chain_Pack.b38]
      rw [if_pos (by omega), if_pos (by omega), ixn hv, if_pos (by omega), ixd]
      by_cases hx : out.getD sites[v].toNat 0 > 65535
      · rw [if_pos hx, if_pos hx]
      · rw [if_neg hx, if_neg hx, if_pos (by omega), if_pos (by omega), pack_val hg.1 (by omega) g.h0 g.h1, w64s (by omega) (by omega), w64s (by omega) (by omega)]
        rfl) sites.length 0 l 0 (by omega) (by omega) ⟨rfl, hl, by omega, by omega⟩
    rw [show ((0 : Nat) : Int) = 0 from rfl, List.drop_zero] at this
    rw [this]
    cases pk sites l 0 with
    | none => rfl
    | some p => rfl
  · rw [if_neg h, if_neg h]
    rfl
structure Ris (h : Int) (n : Nat) (s : List Int) : Prop where
  up : s.Pairwise (· < ·)
  lo : ∀ x ∈ s, h ≤ x
  hi : ∀ x ∈ s, x < (n : Int)
theorem Ris.tail {h : Int} {n : Nat} {x : Int} {r : List Int} (g : Ris h n (x :: r)) : Ris (x + 1) n r := by
  have := List.pairwise_cons.1 g.up
  exact ⟨this.2, fun y hy => by have := this.1 y hy; omega, fun y hy => g.hi y (List.mem_cons_of_mem _ hy)⟩
theorem rise_of {N : Int} : ∀ {p : Int} {s : List Int}, s.Pairwise (· < ·) → (∀ x ∈ s, p < x ∧ x < N ∧ x ≤ 65534) → rise N p s = true
  | _, [], _, _ => rfl
  | p, x :: r, h1, h2 => by
    have h3 := List.pairwise_cons.1 h1
    have h4 := h2 x (by simp)
    simp only [rise, Bool.and_eq_true, decide_eq_true_eq]
    exact ⟨h4, rise_of h3.2 fun y hy => ⟨h3.1 y hy, (h2 y (List.mem_cons_of_mem _ hy)).2⟩⟩
/-! ### what pack keeps -/
theorem getD_set {l : List Int} {i j : Nat} {v : Int} (hi : i < l.length) : (l.set i v).getD j 0 = if j = i then v else l.getD j 0 := by
  simp only [List.getD_eq_getElem?_getD, List.getElem?_set]
  by_cases h : i = j
  · subst h; simp [hi]
  · rw [if_neg h, if_neg (fun e => h e.symm)]
theorem fit_is (bits : List Int) (N : Nat) (hN : N ≤ 1000) : ∃ s, rivetref08_Fit bits (N : Int) = some s ∧ Ris 0 N s := by
  obtain ⟨r, h1, h2⟩ := loopO_inv (b := fun σ : List Int × Int => rivetref08_Fit.b10 (N : Int) bits σ.1 σ.2)
    (fun σ => ∃ i : Nat, σ.2 = (i : Int) ∧ i ≤ N ∧ Ris 0 i σ.1 ∧ σ.1.length ≤ i) (fun σ => ((N : Int) - σ.2).toNat) (fun r => Ris 0 N r) (by
      rintro ⟨s, j⟩ ⟨i, h1, h2, h3, h4⟩
      simp only at h1 h3 h4
      subst h1
      have done : ∃ r, some (Sum.inr s : (List Int × Int) ⊕ List Int) = some (Sum.inr r) ∧ Ris 0 N r := ⟨s, rfl, h3.up, h3.lo, fun x hx => by have := h3.hi x hx; omega⟩
      simp only [rivetref08_Fit.b10, rivetref08_Fit.j1, rivetref08_Fit.j2, rivetref08_Fit.j3]
      by_cases hc : (i : Int) < (N : Int)
      · rw [if_pos hc]
        by_cases hb : (i : Int) < (bits.length : Int)
        · left
          rw [if_pos (by simpa using hb), if_pos (by omega), w64s (by omega) (by omega)]
          have weak : Ris 0 (i + 1) s := ⟨h3.up, h3.lo, fun x hx => by have := h3.hi x hx; omega⟩
          split
          · rw [if_pos (by simp; omega)]
            refine ⟨_, rfl, ⟨i + 1, rfl, by omega, ⟨?_, ?_, ?_⟩, by simpa using h4⟩, by simp only; omega⟩
            · refine List.pairwise_append.2 ⟨h3.up, List.pairwise_singleton _ _, fun a ha b hb => ?_⟩
              rw [List.mem_singleton.1 hb]
              exact h3.hi a ha
            · intro y hy
              rcases List.mem_append.1 hy with h | h
              · exact h3.lo y h
              · rw [List.mem_singleton.1 h]; omega
            · intro y hy
              rcases List.mem_append.1 hy with h | h
              · exact weak.hi y h
              · rw [List.mem_singleton.1 h]; omega
          · exact ⟨_, rfl, ⟨i + 1, rfl, by omega, weak, by simp only; omega⟩, by simp only; omega⟩
        · right
          rw [if_neg (by simpa using hb)]
          exact done
      · right
        rw [if_neg hc, if_neg (by simp)]
        exact done) ([], 0) ⟨0, rfl, by omega, ⟨List.Pairwise.nil, by simp, by simp⟩, by simp⟩
  refine ⟨r, ?_, h2⟩
  unfold rivetref08_Fit
  rw [h1]
  rfl
end Go.Proofs.YtheccnbamcdpmaaDoor.C08
