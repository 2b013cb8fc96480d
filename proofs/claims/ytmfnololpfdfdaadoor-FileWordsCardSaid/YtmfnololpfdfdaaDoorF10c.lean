/- Chains, packed and unpacked. No condition. -/
import Derived.Test.YtmfnololpfdfdaaDoorO09a
import Derived.Test.YtmfnololpfdfdaaDoorT10
namespace Go.Proofs.YtmfnololpfdfdaaDoor.C08
set_option linter.unusedVariables false
set_option linter.unusedSimpArgs false
open Go Go.RowKit Go.Proofs.YtmfnololpfdfdaaDoor.E Go.Proofs.YtmfnololpfdfdaaDoor.T09
theorem pack_ref (l sites : List Int) (h1 : sites.length ≤ 4611686018427387904) (h0 : l.length ≤ 1000000000000) (hl : ∀ n ∈ l, 0 ≤ n ∧ n ≤ 4294967295) : rivetref08_Pack l sites = some (packed l sites) := by
  unfold rivetref08_Pack packed
  rw [rise_is _ _ h1]
  simp only [Option.bind_some]
  by_cases h : rise (l.length : Int) (-1) sites = true
  · rw [if_pos h, if_pos h]
    have hs := rise_all h (by omega)
    rw [if_pos (by simp; omega)]
    simp only [List.nil_append]
    have := pk_loop (fun σ : List Int × Int × Int => rivetref08_Pack.b28 sites σ.1 σ.2.1 σ.2.2) ([], 0, 8) l.length sites (fun s hs' => (hs s hs').2) (fun out h => by simp only [rivetref08_Pack.b28, nm]; rw [if_neg (by omega)]) (fun out h v hv g => by
      have hs' := hs sites[v] (List.getElem_mem hv)
      have hg := all_getD g.all (d := 0) (by omega) sites[v].toNat
      have hg1 := g.len
      have hg2 := g.h0
      have hg3 := g.h1
      simp only [rivetref08_Pack.b28, nm]
      rw [if_pos (by omega), if_pos (by omega), ixn hv, if_pos (by omega), ixd]
      by_cases hx : out.getD sites[v].toNat 0 > 65535
      · rw [if_pos hx, if_pos hx]
      · rw [if_neg hx, if_neg hx, if_pos (by omega), if_pos (by omega), if_pos (by omega), wu32_id (x := out.getD sites[v].toNat 0 * 65536) (by omega) (by omega), wu32_id (x := h) (by omega) (by omega), wu32_id (by omega) (by omega), w64s (by omega) (by omega), w64s (by omega) (by omega)]
        rfl) sites.length 0 l 0 (by omega) (by omega) ⟨rfl, hl, by omega, by omega⟩
    rw [show ((0 : Nat) : Int) = 0 from rfl, List.drop_zero] at this
    rw [this]
    cases pk sites l 0 with
    | none => rfl
    | some p => rfl
  · rw [if_neg h, if_neg h]
/-! ### reverse -/
theorem rev_is (l : List Int) (hl : l.length ≤ 1000000000000) : slices_Reverse_int_int l = some l.reverse := by
  unfold slices_Reverse_int_int
  obtain ⟨r, h1, h2⟩ := loopO_inv (b := fun σ : List Int × Int × Int => slices_Reverse_int_int.b3 σ.1 σ.2.1 σ.2.2)
    (fun σ => σ.1.length = l.length ∧ 0 ≤ σ.2.1 ∧ σ.2.1 ≤ (l.length : Int) ∧ σ.2.1 + σ.2.2 = (l.length : Int) - 1 ∧ ∀ k : Nat, k < l.length → σ.1.getD k 0 = if (k : Int) < σ.2.1 ∨ (k : Int) > σ.2.2 then l.getD (l.length - 1 - k) 0 else l.getD k 0)
    (fun σ => (σ.2.2 - σ.2.1 + 2).toNat) (fun r => r = l.reverse) (by
      rintro ⟨l', i, j⟩ ⟨e1, e2, e3, e4, e5⟩
      simp only at e1 e2 e3 e4 e5
      simp only [slices_Reverse_int_int.b3]
      by_cases hc : i < j
      · left
        rw [if_pos hc, if_pos (by omega), if_pos (by omega), if_pos (by omega), if_pos (by rw [List.length_set]; omega), w64s (by omega) (by omega), w64s (by omega) (by omega)]
        refine ⟨_, rfl, ⟨by simp [e1], by simp only; omega, by simp only; omega, by simp only; omega, fun k hk => ?_⟩, by simp only; omega⟩
        simp only
        have ei := e5 i.toNat (by omega)
        rw [if_neg (by omega)] at ei
        have ej := e5 j.toNat (by omega)
        rw [if_neg (by omega)] at ej
        rw [getD_set (by rw [List.length_set]; omega), getD_set (by omega), ixd, ixd, ei, ej]
        by_cases k1 : k = j.toNat
        · rw [if_pos k1, if_pos (by omega)]; congr 1; omega
        · rw [if_neg k1]
          by_cases k2 : k = i.toNat
          · rw [if_pos k2, if_pos (by omega)]; congr 1; omega
          · rw [if_neg k2, e5 k hk]
            by_cases k3 : (k : Int) < i ∨ (k : Int) > j
            · rw [if_pos k3, if_pos (by omega)]
            · rw [if_neg k3, if_neg (by omega)]
      · right
        rw [if_neg hc]
        refine ⟨_, rfl, ?_⟩
        apply List.ext_getElem
        · simp [e1]
        · intro k hk hk'
          have h3 := e5 k (by omega)
          rw [List.getElem_reverse]
          have h4 : l'.getD k 0 = l'[k] := by simp [hk]
          have h5 : l.getD (l.length - 1 - k) 0 = l[l.length - 1 - k] := by
            rw [List.getD_eq_getElem?_getD, List.getElem?_eq_getElem (by omega)]; rfl
          rw [← h4, h3, ← h5]
          split
          · rfl
          · congr 1; omega) (l, 0, (l.length : Int) - 1) ⟨rfl, Int.le_refl 0, by show (0 : Int) ≤ _; omega, by show (0 : Int) + ((l.length : Int) - 1) = (l.length : Int) - 1; omega, fun k hk => by
            show l.getD k 0 = if (k : Int) < 0 ∨ (k : Int) > (l.length : Int) - 1 then _ else _
            rw [if_neg (by omega)]⟩
  rw [w64s (by omega) (by omega)]
  rw [h1]
  simp only [Option.bind_some, slices_Reverse_int_int.j1]
  rw [h2]
/-! ### unpack -/
def up (h : Nat) (out s : List Int) : Option (List Int × List Int) := match h with
  | 0 => some (out, s)
  | h + 1 => if hc : (out.getD h 0 % 65536).toNat > h then none else up (out.getD h 0 % 65536).toNat (out.set h (out.getD h 0 / 65536)) ((h : Int) :: s)
  termination_by h
  decreasing_by omega
theorem up_zero (out s : List Int) : up 0 out s = some (out, s) := by unfold up; rfl
theorem up_bad {h : Nat} {out s : List Int} (hc : (out.getD h 0 % 65536).toNat > h) : up (h + 1) out s = none := by rw [up, dif_pos hc]
theorem up_next {h : Nat} {out s : List Int} (hc : ¬ (out.getD h 0 % 65536).toNat > h) : up (h + 1) out s = up (out.getD h 0 % 65536).toNat (out.set h (out.getD h 0 / 65536)) ((h : Int) :: s) := by rw [up, dif_neg hc]
theorem up_loop {ρ : Type} (b : List Int × List Int × Int → Option ((List Int × List Int × Int) ⊕ Ex ρ (List Int × List Int))) (bad : ρ) (f : List Int → List Int) (N : Nat)
    (hend : ∀ out s, b (out, s, 0) = some (.inr (.done (s, out))))
    (hstep : ∀ out s (h : Nat), out.length = N → (∀ n ∈ out, 0 ≤ n ∧ n ≤ 4294967295) → h < N → s.length + h < N → b (out, s, ((h + 1 : Nat) : Int)) = some (if (out.getD h 0 % 65536).toNat > h then .inr (.ret bad) else .inl (out.set h (out.getD h 0 / 65536), f ((h : Int) :: f s), ((out.getD h 0 % 65536).toNat : Int))))
    (hf : ∀ s, f (f s) = s) (hfl : ∀ s, (f s).length = s.length) :
    ∀ h out s, out.length = N → (∀ n ∈ out, 0 ≤ n ∧ n ≤ 4294967295) → s.length + h ≤ N → loopO b (out, s, (h : Int)) = some (match up h out (f s) with | some p => .done (f p.2, p.1) | none => .ret bad) := by
  intro h
  induction h using Nat.strongRecOn with
  | _ h ih =>
    intro out s h1 h2 h3
    cases h with
    | zero =>
      rw [show ((0 : Nat) : Int) = 0 from rfl, loopO_done (hend out s), up_zero]
      simp only [hf]
    | succ h =>
      have hst := hstep out s h h1 h2 (by omega) (by omega)
      by_cases hc : (out.getD h 0 % 65536).toNat > h
      · rw [if_pos hc] at hst
        rw [loopO_done hst, up_bad hc]
      · rw [if_neg hc] at hst
        have hx := all_getD h2 (d := 0) (by omega) h
        rw [loopO_next hst, up_next hc, ih _ (by omega) _ _ (by simpa using h1) (all_set h2 (by omega) _) (by rw [hfl, List.length_cons, hfl]; omega), hf]
def unpacked (l : List Int) (head : Int) : List Int × List Int × Int := if head < 0 ∨ head > (l.length : Int) then ([], [], 10) else match up head.toNat l [] with
  | some p => (p.1, p.2, 0)
  | none => ([], [], 10)
theorem low_val {x : Int} (h0 : 0 ≤ x) (h1 : x ≤ 4294967295) : band .u32 x 65535 = x % 65536 := by
  rw [band_nat h0 (by simp only [umax]; omega) (by omega) (by simp only [umax]; omega), show ((65535 : Int)).toNat = 2 ^ 16 - 1 by decide, and_low]
  omega
theorem up_len : ∀ {h : Nat} {out s : List Int} {p : List Int × List Int}, up h out s = some p → p.2.length ≤ s.length + h := by
  intro h
  induction h using Nat.strongRecOn with
  | _ h ih =>
    intro out s p hp
    cases h with
    | zero => rw [up_zero] at hp; cases hp; simp
    | succ h =>
      by_cases hc : (out.getD h 0 % 65536).toNat > h
      · rw [up_bad hc] at hp; cases hp
      · rw [up_next hc] at hp
        have := ih _ (by omega) hp
        simp only [List.length_cons] at this
        omega
theorem unpack_ref (l : List Int) (head : Int) (h0 : l.length ≤ 1000000000000) (hl : ∀ n ∈ l, 0 ≤ n ∧ n ≤ 4294967295) : rivetref08_Unpack l head = some (unpacked l head) := by
  unfold rivetref08_Unpack unpacked
  by_cases h1 : head < 0
  · rw [if_pos h1, if_pos (.inl h1)]; simp [rivetref08_Unpack.j1]
  · rw [if_neg h1]
    simp only [rivetref08_Unpack.j1]
    by_cases h2 : head > (l.length : Int)
    · rw [if_pos (by simpa using h2), if_pos (.inr h2)]
    · rw [if_neg (by simpa using h2), if_neg (by omega)]
      simp only [rivetref08_Unpack.j2]
      rw [if_pos (by simp; omega)]
      have := up_loop (fun σ : List Int × List Int × Int => rivetref08_Unpack.b30 σ.1 σ.2.1 σ.2.2) ([], [], 10) id l.length (fun out s => by simp only [rivetref08_Unpack.b30, nm]; rw [if_neg (by omega)]) (fun out s h e1 e2 e3 e4 => by
        have hx := all_getD e2 (d := 0) (by omega) h
        simp only [rivetref08_Unpack.b30, nm]
        rw [w64s (x := ((h + 1 : Nat) : Int) - 1) (by omega) (by omega), if_pos (by omega), if_pos (by omega), ixd, show (((h + 1 : Nat) : Int) - 1).toNat = h by omega]
        rw [Int.tmod_eq_emod_of_nonneg hx.1, Int.tdiv_eq_ediv_of_nonneg hx.1, w64s (by omega) (by omega)]
        by_cases hc : (out.getD h 0 % 65536).toNat > h
        · rw [if_pos hc, if_pos (by omega)]
        · rw [if_neg hc, if_neg (by omega), if_pos (by omega), if_pos (by simp; omega), wu32_id (by omega) (by omega)]
          simp only [id, List.singleton_append]
          rw [show (((h + 1 : Nat) : Int) - 1) = (h : Int) by omega, show ((out.getD h 0 % 65536).toNat : Int) = out.getD h 0 % 65536 by omega]) (fun _ => rfl) (fun _ => rfl) head.toNat l [] rfl hl (by simp; omega)
      rw [show ((head.toNat : Nat) : Int) = head by omega] at this
      simp only [List.nil_append]
      rw [this]
      cases h : up head.toNat l (id []) with
      | none => simp only [id] at h; simp [h]
      | some p => simp only [id] at h; simp [h, rivetref08_Unpack.j3]
theorem unpack_chain (l : List Int) (head : Int) (h0 : l.length ≤ 1000000000000) (hl : ∀ n ∈ l, 0 ≤ n ∧ n ≤ 4294967295) : chain_Unpack l head = some (unpacked l head) := by
  unfold chain_Unpack unpacked
  by_cases h1 : head < 0
  · rw [if_pos h1, if_pos (.inl h1)]; simp [chain_Unpack.j1]
  · rw [if_neg h1]
    simp only [chain_Unpack.j1]
    by_cases h2 : head > (l.length : Int)
    · rw [if_pos (by simpa using h2), if_pos (.inr h2)]
    · rw [if_neg (by simpa using h2), if_neg (by omega)]
      simp only [chain_Unpack.j2, slices_Clone_uint32_uint32]
      rw [if_pos (by simp; omega)]
      simp only [List.nil_append, Option.bind_some]
      have := up_loop (fun σ : List Int × List Int × Int => chain_Unpack.b24 σ.1 σ.2.1 σ.2.2) ([], [], 10) List.reverse l.length (fun out s => by simp only [chain_Unpack.b24, nm]; rw [w64s (by omega) (by omega), if_pos (by omega)]) (fun out s h e1 e2 e3 e4 => by
        have hx := all_getD e2 (d := 0) (by omega) h
        simp only [chain_Unpack.b24, nm]
        rw [w64s (x := ((h + 1 : Nat) : Int) - 1) (by omega) (by omega), if_neg (by omega), if_pos (by omega), ixd, show (((h + 1 : Nat) : Int) - 1).toNat = h by omega]
        rw [low_val hx.1 hx.2, w64s (by omega) (by omega), show (2 : Int) ^ 16 = 65536 by decide, Int.fdiv_eq_ediv_of_nonneg _ (by omega)]
        by_cases hc : (out.getD h 0 % 65536).toNat > h
        · rw [if_pos hc, if_pos (by omega)]
        · rw [if_neg hc, if_neg (by omega), if_pos (by omega), if_pos (by omega), if_pos (by omega), if_pos (by simp; omega)]
          rw [List.reverse_cons, List.reverse_reverse, show (((h + 1 : Nat) : Int) - 1) = (h : Int) by omega, show ((out.getD h 0 % 65536).toNat : Int) = out.getD h 0 % 65536 by omega]) List.reverse_reverse (fun _ => List.length_reverse) head.toNat l [] rfl hl (by simp; omega)
      rw [show ((head.toNat : Nat) : Int) = head by omega] at this
      rw [this, List.reverse_nil]
      cases h : up head.toNat l [] with
      | none => rfl
      | some p =>
        have hlen := up_len h
        simp only [Option.bind_some, chain_Unpack.j3]
        rw [rev_is _ (by simp at hlen ⊢; omega), List.reverse_reverse]
        rfl
theorem packed_len (l sites : List Int) : (packed l sites).1.length ≤ l.length := by
  have key : ∀ sites out h p, pk sites out h = some p → p.1.length = out.length := by
    intro sites
    induction sites with
    | nil => intro out h p hp; cases hp; rfl
    | cons s r ih =>
      intro out h p hp
      simp only [pk] at hp
      split at hp
      · cases hp
      · rw [ih _ _ _ hp, List.length_set]
  unfold packed
  split
  · cases h : pk sites l 0 with
    | none => simp
    | some p => simp [key _ _ _ _ h]
  · simp
theorem up_len1 : ∀ {h : Nat} {out s : List Int} {p : List Int × List Int}, up h out s = some p → p.1.length = out.length := by
  intro h
  induction h using Nat.strongRecOn with
  | _ h ih =>
    intro out s p hp
    cases h with
    | zero => rw [up_zero] at hp; cases hp; rfl
    | succ h =>
      by_cases hc : (out.getD h 0 % 65536).toNat > h
      · rw [up_bad hc] at hp; cases hp
      · rw [up_next hc] at hp
        rw [ih _ (by omega) hp, List.length_set]
theorem unpacked_len (l : List Int) (head : Int) : (unpacked l head).1.length ≤ l.length ∧ (unpacked l head).2.1.length ≤ l.length := by
  unfold unpacked
  split
  · simp
  · cases h : up head.toNat l [] with
    | none => simp
    | some p =>
      have h1 := up_len h
      have h2 := up_len1 h
      simp only [List.length_nil] at h1
      simp only
      omega
theorem getD_lt {l : List Int} {i : Nat} (h : i < l.length) : l.getD i 0 = l[i] := by simp [h]
theorem set_same {l : List Int} {i : Nat} (h : i < l.length) {v : Int} (hv : v = l.getD i 0) : l.set i v = l := by
  rw [hv, getD_lt h]; exact List.set_getElem_self h
theorem pk_good {n : Nat} : ∀ {s out : List Int} {h : Int} {p : List Int × Int}, pk s out h = some p → (∀ x ∈ s, 0 ≤ x ∧ x ≤ 65534 ∧ x < (n : Int)) → Good n out h → h ≤ n → Good n p.1 p.2 ∧ p.2 ≤ n
  | [], out, h, p, hp, _, g, hn => by cases hp; exact ⟨g, hn⟩
  | x :: r, out, h, p, hp, hs, g, hn => by
    simp only [pk] at hp
    have hx := hs x (by simp)
    split at hp
    · cases hp
    · rename_i hc
      exact pk_good hp (fun y hy => hs y (List.mem_cons_of_mem _ hy)) (g.next hx.1 hx.2.1 hc) (by omega)
theorem pk_other {i : Nat} : ∀ {s out : List Int} {h : Int} {p : List Int × Int}, pk s out h = some p → (∀ x ∈ s, x.toNat ≠ i) → p.1.getD i 0 = out.getD i 0
  | [], out, h, p, hp, _ => by cases hp; rfl
  | x :: r, out, h, p, hp, hs => by
    simp only [pk] at hp
    have hx := hs x (by simp)
    split at hp
    · cases hp
    · rw [pk_other hp fun y hy => hs y (List.mem_cons_of_mem _ hy)]
      simp only [List.getD_eq_getElem?_getD, List.getElem?_set]
      rw [if_neg hx]
theorem pk_some : ∀ {s out : List Int} {h : Int}, s.Pairwise (· < ·) → (∀ x ∈ s, 0 ≤ x ∧ x.toNat < out.length ∧ out.getD x.toNat 0 ≤ 65535) → ∃ p, pk s out h = some p
  | [], out, h, _, _ => ⟨_, rfl⟩
  | x :: r, out, h, h1, h2 => by
    have h3 := List.pairwise_cons.1 h1
    have h4 := h2 x (by simp)
    simp only [pk]
    rw [if_neg (by omega)]
    refine pk_some h3.2 fun y hy => ?_
    have h5 := h3.1 y hy
    have h6 := h2 y (List.mem_cons_of_mem _ hy)
    refine ⟨h6.1, by rw [List.length_set]; exact h6.2.1, ?_⟩
    rw [getD_set h4.2.1, if_neg (by omega)]
    exact h6.2.2
theorem pk_none : ∀ {s out : List Int} {h : Int}, s.Pairwise (· < ·) → (∀ x ∈ s, 0 ≤ x ∧ x.toNat < out.length) → (∃ x ∈ s, 65535 < out.getD x.toNat 0) → pk s out h = none
  | [], out, h, _, _, ⟨x, hx, _⟩ => by cases hx
  | x :: r, out, h, h1, h2, h7 => by
    have h3 := List.pairwise_cons.1 h1
    have h4 := h2 x (by simp)
    simp only [pk]
    split
    · rfl
    · rename_i hc
      refine pk_none h3.2 (fun y hy => ⟨(h2 y (List.mem_cons_of_mem _ hy)).1, by rw [List.length_set]; exact (h2 y (List.mem_cons_of_mem _ hy)).2⟩) ?_
      obtain ⟨z, hz, hb⟩ := h7
      rcases List.mem_cons.1 hz with e | e
      · subst e; omega
      · have h5 := h3.1 z e
        have h6 := h2 z (List.mem_cons_of_mem _ e)
        exact ⟨z, e, by rw [getD_set h4.2, if_neg (by omega)]; exact hb⟩
theorem pk_append : ∀ (s t out : List Int) (h : Int), pk (s ++ t) out h = (pk s out h).bind fun p => pk t p.1 p.2
  | [], t, out, h => rfl
  | x :: r, t, out, h => by
    simp only [pk, List.cons_append]
    split
    · rfl
    · exact pk_append r t _ _
theorem pk_set {i : Nat} {v : Int} : ∀ {s out : List Int} {h : Int} {p : List Int × Int}, pk s out h = some p → (∀ x ∈ s, x.toNat ≠ i) → pk s (out.set i v) h = some (p.1.set i v, p.2)
  | [], out, h, p, hp, _ => by cases hp; rfl
  | x :: r, out, h, p, hp, hs => by
    have hx := hs x (by simp)
    have e : (out.set i v).getD x.toNat 0 = out.getD x.toNat 0 := by
      simp only [List.getD_eq_getElem?_getD, List.getElem?_set]
      rw [if_neg (fun e => hx e.symm)]
    simp only [pk] at hp ⊢
    rw [e]
    split at hp
    · cases hp
    · rename_i hc
      rw [if_neg hc, List.set_comm _ _ (fun e => hx e.symm)]
      exact pk_set hp fun y hy => hs y (List.mem_cons_of_mem _ hy)
/-- What was packed is unpacked. -/
theorem pk_up {n : Nat} (hn : n ≤ 65535) : ∀ {s out : List Int} {h : Int} {p : List Int × Int} (acc : List Int), pk s out h = some p → Ris h n s → Good n out h → up p.2.toNat p.1 acc = up h.toNat out (s ++ acc)
  | [], out, h, p, acc, hp, _, _ => by cases hp; rfl
  | x :: r, out, h, p, acc, hp, g, gd => by
    simp only [pk] at hp
    have h1 := g.lo x (by simp)
    have h2 := g.hi x (by simp)
    have h3 := gd.h0
    have h4 := gd.h1
    split at hp
    · cases hp
    · rename_i hc
      have hx := all_getD gd.all (d := 0) (by omega) x.toNat
      have hlt : x.toNat < out.length := by rw [gd.len]; omega
      rw [pk_up hn acc hp g.tail (gd.next (by omega) (by omega) hc)]
      have e : (x + 1).toNat = x.toNat + 1 := by omega
      have e2 : (out.set x.toNat (out.getD x.toNat 0 * 65536 + h)).getD x.toNat 0 = out.getD x.toNat 0 * 65536 + h := by rw [getD_set hlt, if_pos rfl]
      have e3 : ((out.getD x.toNat 0 * 65536 + h) % 65536).toNat = h.toNat := by omega
      have e4 : (out.getD x.toNat 0 * 65536 + h) / 65536 = out.getD x.toNat 0 := by omega
      rw [e, up_next (by rw [e2]; omega), e2, e3, e4, List.set_set, set_same hlt rfl, show ((x.toNat : Nat) : Int) = x by omega]
      rfl
/-- What is unpacked was packed so. -/
theorem up_pk : ∀ {h : Nat} {out acc : List Int} {p : List Int × List Int}, up h out acc = some p → (∀ n ∈ out, 0 ≤ n ∧ n ≤ 4294967295) → h ≤ out.length → ∃ pre, p.2 = pre ++ acc ∧ Ris 0 h pre ∧ pk pre p.1 0 = some (out, (h : Int)) := by
  intro h
  induction h using Nat.strongRecOn with
  | _ h ih =>
    intro out acc p hp ho hl
    cases h with
    | zero => rw [up_zero] at hp; cases hp; exact ⟨[], rfl, ⟨List.Pairwise.nil, by simp, by simp⟩, rfl⟩
    | succ h =>
      by_cases hc : (out.getD h 0 % 65536).toNat > h
      · rw [up_bad hc] at hp; cases hp
      · rw [up_next hc] at hp
        have hx := all_getD ho (d := 0) (by omega) h
        obtain ⟨pre, h1, h2, h3⟩ := ih _ (by omega) hp (all_set ho (by omega) _) (by rw [List.length_set]; omega)
        refine ⟨pre ++ [(h : Int)], by rw [h1]; simp, ⟨?_, ?_, ?_⟩, ?_⟩
        · refine List.pairwise_append.2 ⟨h2.up, List.pairwise_singleton _ _, fun a ha b hb => ?_⟩
          have := h2.hi a ha
          rw [List.mem_singleton.1 hb]
          omega
        · intro y hy
          rcases List.mem_append.1 hy with h | h
          · exact h2.lo y h
          · rw [List.mem_singleton.1 h]; omega
        · intro y hy
          rcases List.mem_append.1 hy with h | h
          · have := h2.hi y h; omega
          · rw [List.mem_singleton.1 h]; omega
        · have hlt : h < out.length := by omega
          rw [pk_append, h3]
          simp only [Option.bind_some, pk, Int.toNat_natCast]
          rw [getD_set hlt, if_pos rfl, if_neg (by omega), List.set_set, set_same hlt (by omega)]
          rfl
theorem packed_some {l s : List Int} {p : List Int × Int} (h : pk s l 0 = some p) (hs : s.Pairwise (· < ·)) (hb : ∀ x ∈ s, 0 ≤ x ∧ x < (l.length : Int) ∧ x ≤ 65534) : packed l s = (p.1, p.2, 0) := by
  unfold packed
  rw [if_pos (rise_of hs fun x hx => ⟨by have := hb x hx; omega, (hb x hx).2⟩), h]
theorem unpacked_some {l : List Int} {h : Nat} {p : List Int × List Int} (hl : h ≤ l.length) (hu : up h l [] = some p) : unpacked l (h : Int) = (p.1, p.2, 0) := by
  unfold unpacked
  rw [if_neg (by omega), Int.toNat_natCast, hu]
theorem unpacked_bad (l : List Int) (h : Int) : (unpacked l h).2.2 = 0 ∨ unpacked l h = ([], [], 10) := by
  unfold unpacked
  split
  · exact .inr rfl
  · split
    · exact .inl rfl
    · exact .inr rfl
end Go.Proofs.YtmfnololpfdfdaaDoor.C08
