/- Pack and Unpack undo each other; the plain laws of the statements ChainBack and ChainTaken. No condition. -/
import Derived.Test.YtpbfjcpndmmgoaaC08b
namespace Go.Proofs.Ytpbfjcpndmmgoaa.C08
open Go Go.RowKit Go.Proofs.Ytpbfjcpndmmgoaa.E Go.Proofs.Ytpbfjcpndmmgoaa.T08
theorem getD_lt {l : List Int} {i : Nat} (h : i < l.length) : l.getD i 0 = l[i] := by simp [h]
theorem set_same {l : List Int} {i : Nat} (h : i < l.length) {v : Int} (hv : v = l.getD i 0) : l.set i v = l := by
  rw [hv, getD_lt h]; exact List.set_getElem_self h
structure Ris (h : Int) (n : Nat) (s : List Int) : Prop where
  up : s.Pairwise (· < ·)
  lo : ∀ x ∈ s, h ≤ x
  hi : ∀ x ∈ s, x < (n : Int)
theorem Ris.tail {h : Int} {n : Nat} {x : Int} {r : List Int} (g : Ris h n (x :: r)) : Ris (x + 1) n r := by
  have := List.pairwise_cons.1 g.up
  exact ⟨this.2, fun y hy => by have := this.1 y hy; omega, fun y hy => g.hi y (List.mem_cons_of_mem _ hy)⟩
theorem rise_of {N : Int} : ∀ {p : Int} {s : List Int}, s.Pairwise (· < ·) → (∀ x ∈ s, p < x ∧ x < N ∧ x ≤ 65534) → rise N p s = true
  | _, [], _, _ => rfl
  | p, x :: r, h1, h2 => by
    have h3 := List.pairwise_cons.1 h1
    have h4 := h2 x (by simp)
    simp only [rise, Bool.and_eq_true, decide_eq_true_eq]
    exact ⟨h4, rise_of h3.2 fun y hy => ⟨h3.1 y hy, (h2 y (List.mem_cons_of_mem _ hy)).2⟩⟩
/-! ### what pack keeps -/
theorem pk_good {n : Nat} : ∀ {s out : List Int} {h : Int} {p : List Int × Int}, pk s out h = some p → (∀ x ∈ s, 0 ≤ x ∧ x ≤ 65534 ∧ x < (n : Int)) → Good n out h → h ≤ n → Good n p.1 p.2 ∧ p.2 ≤ n
  | [], out, h, p, hp, _, g, hn => by cases hp; exact ⟨g, hn⟩
  | x :: r, out, h, p, hp, hs, g, hn => by
    simp only [pk] at hp
    have hx := hs x (by simp)
    split at hp
    · cases hp
    · rename_i hc
      exact pk_good hp (fun y hy => hs y (List.mem_cons_of_mem _ hy)) (g.next hx.1 hx.2.1 hc) (by omega)
theorem pk_other {i : Nat} : ∀ {s out : List Int} {h : Int} {p : List Int × Int}, pk s out h = some p → (∀ x ∈ s, x.toNat ≠ i) → p.1.getD i 0 = out.getD i 0
  | [], out, h, p, hp, _ => by cases hp; rfl
  | x :: r, out, h, p, hp, hs => by
    simp only [pk] at hp
    have hx := hs x (by simp)
    split at hp
    · cases hp
    · rw [pk_other hp fun y hy => hs y (List.mem_cons_of_mem _ hy)]
      simp only [List.getD_eq_getElem?_getD, List.getElem?_set]
      rw [if_neg hx]
theorem pk_some : ∀ {s out : List Int} {h : Int}, s.Pairwise (· < ·) → (∀ x ∈ s, 0 ≤ x ∧ x.toNat < out.length ∧ out.getD x.toNat 0 ≤ 65535) → ∃ p, pk s out h = some p
  | [], out, h, _, _ => ⟨_, rfl⟩
  | x :: r, out, h, h1, h2 => by
    have h3 := List.pairwise_cons.1 h1
    have h4 := h2 x (by simp)
    simp only [pk]
    rw [if_neg (by omega)]
    refine pk_some h3.2 fun y hy => ?_
    have h5 := h3.1 y hy
    have h6 := h2 y (List.mem_cons_of_mem _ hy)
    refine ⟨h6.1, by rw [List.length_set]; exact h6.2.1, ?_⟩
    rw [getD_set h4.2.1, if_neg (by omega)]
    exact h6.2.2
theorem pk_none : ∀ {s out : List Int} {h : Int}, s.Pairwise (· < ·) → (∀ x ∈ s, 0 ≤ x ∧ x.toNat < out.length) → (∃ x ∈ s, 65535 < out.getD x.toNat 0) → pk s out h = none
  | [], out, h, _, _, ⟨x, hx, _⟩ => by cases hx
  | x :: r, out, h, h1, h2, h7 => by
    have h3 := List.pairwise_cons.1 h1
    have h4 := h2 x (by simp)
    simp only [pk]
    split
    · rfl
    · rename_i hc
      refine pk_none h3.2 (fun y hy => ⟨(h2 y (List.mem_cons_of_mem _ hy)).1, by rw [List.length_set]; exact (h2 y (List.mem_cons_of_mem _ hy)).2⟩) ?_
      obtain ⟨z, hz, hb⟩ := h7
      rcases List.mem_cons.1 hz with e | e
      · subst e; omega
      · have h5 := h3.1 z e
        have h6 := h2 z (List.mem_cons_of_mem _ e)
        exact ⟨z, e, by rw [getD_set h4.2, if_neg (by omega)]; exact hb⟩
theorem pk_append : ∀ (s t out : List Int) (h : Int), pk (s ++ t) out h = (pk s out h).bind fun p => pk t p.1 p.2
  | [], t, out, h => rfl
  | x :: r, t, out, h => by
    simp only [pk, List.cons_append]
    split
    · rfl
    · exact pk_append r t _ _
theorem pk_set {i : Nat} {v : Int} : ∀ {s out : List Int} {h : Int} {p : List Int × Int}, pk s out h = some p → (∀ x ∈ s, x.toNat ≠ i) → pk s (out.set i v) h = some (p.1.set i v, p.2)
  | [], out, h, p, hp, _ => by cases hp; rfl
  | x :: r, out, h, p, hp, hs => by
    have hx := hs x (by simp)
    have e : (out.set i v).getD x.toNat 0 = out.getD x.toNat 0 := by
      simp only [List.getD_eq_getElem?_getD, List.getElem?_set]
      rw [if_neg (fun e => hx e.symm)]
    simp only [pk] at hp ⊢
    rw [e]
    split at hp
    · cases hp
    · rename_i hc
      rw [if_neg hc, List.set_comm _ _ (fun e => hx e.symm)]
      exact pk_set hp fun y hy => hs y (List.mem_cons_of_mem _ hy)
/-- What was packed is unpacked. -/
theorem pk_up {n : Nat} (hn : n ≤ 65535) : ∀ {s out : List Int} {h : Int} {p : List Int × Int} (acc : List Int), pk s out h = some p → Ris h n s → Good n out h → up p.2.toNat p.1 acc = up h.toNat out (s ++ acc)
  | [], out, h, p, acc, hp, _, _ => by cases hp; rfl
  | x :: r, out, h, p, acc, hp, g, gd => by
    simp only [pk] at hp
    have h1 := g.lo x (by simp)
    have h2 := g.hi x (by simp)
    have h3 := gd.h0
    have h4 := gd.h1
    split at hp
    · cases hp
    · rename_i hc
      have hx := all_getD gd.all (d := 0) (by omega) x.toNat
      have hlt : x.toNat < out.length := by rw [gd.len]; omega
      rw [pk_up hn acc hp g.tail (gd.next (by omega) (by omega) hc)]
      have e : (x + 1).toNat = x.toNat + 1 := by omega
      have e2 : (out.set x.toNat (out.getD x.toNat 0 * 65536 + h)).getD x.toNat 0 = out.getD x.toNat 0 * 65536 + h := by rw [getD_set hlt, if_pos rfl]
      have e3 : ((out.getD x.toNat 0 * 65536 + h) % 65536).toNat = h.toNat := by omega
      have e4 : (out.getD x.toNat 0 * 65536 + h) / 65536 = out.getD x.toNat 0 := by omega
      rw [e, up_next (by rw [e2]; omega), e2, e3, e4, List.set_set, set_same hlt rfl, show ((x.toNat : Nat) : Int) = x by omega]
      rfl
/-- What is unpacked was packed so. -/
theorem up_pk : ∀ {h : Nat} {out acc : List Int} {p : List Int × List Int}, up h out acc = some p → (∀ n ∈ out, 0 ≤ n ∧ n ≤ 4294967295) → h ≤ out.length → ∃ pre, p.2 = pre ++ acc ∧ Ris 0 h pre ∧ pk pre p.1 0 = some (out, (h : Int)) := by
  intro h
  induction h using Nat.strongRecOn with
  | _ h ih =>
    intro out acc p hp ho hl
    cases h with
    | zero => rw [up_zero] at hp; cases hp; exact ⟨[], rfl, ⟨List.Pairwise.nil, by simp, by simp⟩, rfl⟩
    | succ h =>
      by_cases hc : (out.getD h 0 % 65536).toNat > h
      · rw [up_bad hc] at hp; cases hp
      · rw [up_next hc] at hp
        have hx := all_getD ho (d := 0) (by omega) h
        obtain ⟨pre, h1, h2, h3⟩ := ih _ (by omega) hp (all_set ho (by omega) _) (by rw [List.length_set]; omega)
        refine ⟨pre ++ [(h : Int)], by rw [h1]; simp, ⟨?_, ?_, ?_⟩, ?_⟩
        · refine List.pairwise_append.2 ⟨h2.up, List.pairwise_singleton _ _, fun a ha b hb => ?_⟩
          have := h2.hi a ha
          rw [List.mem_singleton.1 hb]
          omega
        · intro y hy
          rcases List.mem_append.1 hy with h | h
          · exact h2.lo y h
          · rw [List.mem_singleton.1 h]; omega
        · intro y hy
          rcases List.mem_append.1 hy with h | h
          · have := h2.hi y h; omega
          · rw [List.mem_singleton.1 h]; omega
        · have hlt : h < out.length := by omega
          rw [pk_append, h3]
          simp only [Option.bind_some, pk, Int.toNat_natCast]
          rw [getD_set hlt, if_pos rfl, if_neg (by omega), List.set_set, set_same hlt (by omega)]
          rfl
theorem packed_some {l s : List Int} {p : List Int × Int} (h : pk s l 0 = some p) (hs : s.Pairwise (· < ·)) (hb : ∀ x ∈ s, 0 ≤ x ∧ x < (l.length : Int) ∧ x ≤ 65534) : packed l s = (p.1, p.2, 0) := by
  unfold packed
  rw [if_pos (rise_of hs fun x hx => ⟨by have := hb x hx; omega, (hb x hx).2⟩), h]
theorem unpacked_some {l : List Int} {h : Nat} {p : List Int × List Int} (hl : h ≤ l.length) (hu : up h l [] = some p) : unpacked l (h : Int) = (p.1, p.2, 0) := by
  unfold unpacked
  rw [if_neg (by omega), Int.toNat_natCast, hu]
theorem unpacked_bad (l : List Int) (h : Int) : (unpacked l h).2.2 = 0 ∨ unpacked l h = ([], [], 10) := by
  unfold unpacked
  split
  · exact .inr rfl
  · split
    · exact .inl rfl
    · exact .inr rfl
/-! ### the made sites -/
theorem fit_is (bits : List Int) (N : Nat) (hN : N ≤ 30) : ∃ s, rivetref08_Fit bits (N : Int) = some s ∧ Ris 0 N s := by
  obtain ⟨r, h1, h2⟩ := loopO_inv (b := fun σ : List Int × Int => rivetref08_Fit.b10 (N : Int) bits σ.1 σ.2)
    (fun σ => ∃ i : Nat, σ.2 = (i : Int) ∧ i ≤ N ∧ Ris 0 i σ.1 ∧ σ.1.length ≤ i) (fun σ => ((N : Int) - σ.2).toNat) (fun r => Ris 0 N r) (by
      rintro ⟨s, j⟩ ⟨i, h1, h2, h3, h4⟩
      simp only at h1 h3 h4
      subst h1
      have done : ∃ r, some (Sum.inr s : (List Int × Int) ⊕ List Int) = some (Sum.inr r) ∧ Ris 0 N r := ⟨s, rfl, h3.up, h3.lo, fun x hx => by have := h3.hi x hx; omega⟩
      simp only [rivetref08_Fit.b10, rivetref08_Fit.j1, rivetref08_Fit.j2, rivetref08_Fit.j3]
      by_cases hc : (i : Int) < (N : Int)
      · rw [if_pos hc]
        by_cases hb : (i : Int) < (bits.length : Int)
        · left
          rw [if_pos (by simpa using hb), if_pos (by omega), w64s (by omega) (by omega)]
          have weak : Ris 0 (i + 1) s := ⟨h3.up, h3.lo, fun x hx => by have := h3.hi x hx; omega⟩
          split
          · rw [if_pos (by simp; omega)]
            refine ⟨_, rfl, ⟨i + 1, rfl, by omega, ⟨?_, ?_, ?_⟩, by simpa using h4⟩, by simp only; omega⟩
            · refine List.pairwise_append.2 ⟨h3.up, List.pairwise_singleton _ _, fun a ha b hb => ?_⟩
              rw [List.mem_singleton.1 hb]
              exact h3.hi a ha
            · intro y hy
              rcases List.mem_append.1 hy with h | h
              · exact h3.lo y h
              · rw [List.mem_singleton.1 h]; omega
            · intro y hy
              rcases List.mem_append.1 hy with h | h
              · exact weak.hi y h
              · rw [List.mem_singleton.1 h]; omega
          · exact ⟨_, rfl, ⟨i + 1, rfl, by omega, weak, by simp only; omega⟩, by simp only; omega⟩
        · right
          rw [if_neg (by simpa using hb)]
          exact done
      · right
        rw [if_neg hc, if_neg (by simp)]
        exact done) ([], 0) ⟨0, rfl, by omega, ⟨List.Pairwise.nil, by simp, by simp⟩, by simp⟩
  refine ⟨r, ?_, h2⟩
  unfold rivetref08_Fit
  rw [h1]
  rfl
end Go.Proofs.Ytpbfjcpndmmgoaa.C08
