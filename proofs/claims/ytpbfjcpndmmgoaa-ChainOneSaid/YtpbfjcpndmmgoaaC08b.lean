/- What the two Unpack functions come to; and the statement ChainAll's plain law. No condition. -/
import Derived.Test.YtpbfjcpndmmgoaaC08a
namespace Go.Proofs.Ytpbfjcpndmmgoaa.C08
open Go Go.RowKit Go.Proofs.Ytpbfjcpndmmgoaa.E Go.Proofs.Ytpbfjcpndmmgoaa.T08
/-! ### reverse -/
theorem getD_set {l : List Int} {i j : Nat} {v : Int} (hi : i < l.length) : (l.set i v).getD j 0 = if j = i then v else l.getD j 0 := by
  simp only [List.getD_eq_getElem?_getD, List.getElem?_set]
  by_cases h : i = j
  · subst h; simp [hi]
  · rw [if_neg h, if_neg (fun e => h e.symm)]
theorem rev_is (l : List Int) (hl : l.length ≤ 1000000000000) : slices_Reverse_int_int l = some l.reverse := by
  unfold slices_Reverse_int_int
  obtain ⟨r, h1, h2⟩ := loopO_inv (b := fun σ : List Int × Int × Int => slices_Reverse_int_int.b3 σ.1 σ.2.1 σ.2.2)
    (fun σ => σ.1.length = l.length ∧ 0 ≤ σ.2.1 ∧ σ.2.1 ≤ (l.length : Int) ∧ σ.2.1 + σ.2.2 = (l.length : Int) - 1 ∧ ∀ k : Nat, k < l.length → σ.1.getD k 0 = if (k : Int) < σ.2.1 ∨ (k : Int) > σ.2.2 then l.getD (l.length - 1 - k) 0 else l.getD k 0)
    (fun σ => (σ.2.2 - σ.2.1 + 2).toNat) (fun r => r = l.reverse) (by
      rintro ⟨l', i, j⟩ ⟨e1, e2, e3, e4, e5⟩
      simp only at e1 e2 e3 e4 e5
      simp only [slices_Reverse_int_int.b3]
      by_cases hc : i < j
      · left
        rw [if_pos hc, if_pos (by omega), if_pos (by omega), if_pos (by omega), if_pos (by rw [List.length_set]; omega), w64s (by omega) (by omega), w64s (by omega) (by omega)]
        refine ⟨_, rfl, ⟨by simp [e1], by simp only; omega, by simp only; omega, by simp only; omega, fun k hk => ?_⟩, by simp only; omega⟩
        simp only
        have ei := e5 i.toNat (by omega)
        rw [if_neg (by omega)] at ei
        have ej := e5 j.toNat (by omega)
        rw [if_neg (by omega)] at ej
        rw [getD_set (by rw [List.length_set]; omega), getD_set (by omega), ixd, ixd, ei, ej]
        by_cases k1 : k = j.toNat
        · rw [if_pos k1, if_pos (by omega)]; congr 1; omega
        · rw [if_neg k1]
          by_cases k2 : k = i.toNat
          · rw [if_pos k2, if_pos (by omega)]; congr 1; omega
          · rw [if_neg k2, e5 k hk]
            by_cases k3 : (k : Int) < i ∨ (k : Int) > j
            · rw [if_pos k3, if_pos (by omega)]
            · rw [if_neg k3, if_neg (by omega)]
      · right
        rw [if_neg hc]
        refine ⟨_, rfl, ?_⟩
        apply List.ext_getElem
        · simp [e1]
        · intro k hk hk'
          have h3 := e5 k (by omega)
          rw [List.getElem_reverse]
          have h4 : l'.getD k 0 = l'[k] := by simp [hk]
          have h5 : l.getD (l.length - 1 - k) 0 = l[l.length - 1 - k] := by
            rw [List.getD_eq_getElem?_getD, List.getElem?_eq_getElem (by omega)]; rfl
          rw [← h4, h3, ← h5]
          split
          · rfl
          · congr 1; omega) (l, 0, (l.length : Int) - 1) ⟨rfl, Int.le_refl 0, by show (0 : Int) ≤ _; omega, by show (0 : Int) + ((l.length : Int) - 1) = (l.length : Int) - 1; omega, fun k hk => by
            show l.getD k 0 = if (k : Int) < 0 ∨ (k : Int) > (l.length : Int) - 1 then _ else _
            rw [if_neg (by omega)]⟩
  rw [w64s (by omega) (by omega)]
  rw [h1]
  simp only [Option.bind_some, slices_Reverse_int_int.j1]
  rw [h2]
/-! ### unpack -/
def up (h : Nat) (out s : List Int) : Option (List Int × List Int) := match h with
  | 0 => some (out, s)
  | h + 1 => if hc : (out.getD h 0 % 65536).toNat > h then none else up (out.getD h 0 % 65536).toNat (out.set h (out.getD h 0 / 65536)) ((h : Int) :: s)
  termination_by h
  decreasing_by omega
theorem up_zero (out s : List Int) : up 0 out s = some (out, s) := by unfold up; rfl
theorem up_bad {h : Nat} {out s : List Int} (hc : (out.getD h 0 % 65536).toNat > h) : up (h + 1) out s = none := by rw [up, dif_pos hc]
theorem up_next {h : Nat} {out s : List Int} (hc : ¬ (out.getD h 0 % 65536).toNat > h) : up (h + 1) out s = up (out.getD h 0 % 65536).toNat (out.set h (out.getD h 0 / 65536)) ((h : Int) :: s) := by rw [up, dif_neg hc]
theorem up_loop {ρ : Type} (b : List Int × List Int × Int → Option ((List Int × List Int × Int) ⊕ Ex ρ (List Int × List Int))) (bad : ρ) (f : List Int → List Int) (N : Nat)
    (hend : ∀ out s, b (out, s, 0) = some (.inr (.done (s, out))))
    (hstep : ∀ out s (h : Nat), out.length = N → (∀ n ∈ out, 0 ≤ n ∧ n ≤ 4294967295) → h < N → s.length + h < N → b (out, s, ((h + 1 : Nat) : Int)) = some (if (out.getD h 0 % 65536).toNat > h then .inr (.ret bad) else .inl (out.set h (out.getD h 0 / 65536), f ((h : Int) :: f s), ((out.getD h 0 % 65536).toNat : Int))))
    (hf : ∀ s, f (f s) = s) (hfl : ∀ s, (f s).length = s.length) :
    ∀ h out s, out.length = N → (∀ n ∈ out, 0 ≤ n ∧ n ≤ 4294967295) → s.length + h ≤ N → loopO b (out, s, (h : Int)) = some (match up h out (f s) with | some p => .done (f p.2, p.1) | none => .ret bad) := by
  intro h
  induction h using Nat.strongRecOn with
  | _ h ih =>
    intro out s h1 h2 h3
    cases h with
    | zero =>
      rw [show ((0 : Nat) : Int) = 0 from rfl, loopO_done (hend out s), up_zero]
      simp only [hf]
    | succ h =>
      have hst := hstep out s h h1 h2 (by omega) (by omega)
      by_cases hc : (out.getD h 0 % 65536).toNat > h
      · rw [if_pos hc] at hst
        rw [loopO_done hst, up_bad hc]
      · rw [if_neg hc] at hst
        have hx := all_getD h2 (d := 0) (by omega) h
        rw [loopO_next hst, up_next hc, ih _ (by omega) _ _ (by simpa using h1) (all_set h2 (by omega) _) (by rw [hfl, List.length_cons, hfl]; omega), hf]
def unpacked (l : List Int) (head : Int) : List Int × List Int × Int := if head < 0 ∨ head > (l.length : Int) then ([], [], 10) else match up head.toNat l [] with
  | some p => (p.1, p.2, 0)
  | none => ([], [], 10)
theorem low_val {x : Int} (h0 : 0 ≤ x) (h1 : x ≤ 4294967295) : band .u32 x 65535 = x % 65536 := by
  rw [band_nat h0 (by simp only [umax]; omega) (by omega) (by simp only [umax]; omega), show ((65535 : Int)).toNat = 2 ^ 16 - 1 by decide, and_low]
  omega
theorem up_len : ∀ {h : Nat} {out s : List Int} {p : List Int × List Int}, up h out s = some p → p.2.length ≤ s.length + h := by
  intro h
  induction h using Nat.strongRecOn with
  | _ h ih =>
    intro out s p hp
    cases h with
    | zero => rw [up_zero] at hp; cases hp; simp
    | succ h =>
      by_cases hc : (out.getD h 0 % 65536).toNat > h
      · rw [up_bad hc] at hp; cases hp
      · rw [up_next hc] at hp
        have := ih _ (by omega) hp
        simp only [List.length_cons] at this
        omega
theorem unpack_ref (l : List Int) (head : Int) (h0 : l.length ≤ 1000000000000) (hl : ∀ n ∈ l, 0 ≤ n ∧ n ≤ 4294967295) : rivetref08_Unpack l head = some (unpacked l head) := by
  unfold rivetref08_Unpack unpacked
  by_cases h1 : head < 0
  · rw [if_pos h1, if_pos (.inl h1)]; simp [rivetref08_Unpack.j1]
  · rw [if_neg h1]
    simp only [rivetref08_Unpack.j1]
    by_cases h2 : head > (l.length : Int)
    · rw [if_pos (by simpa using h2), if_pos (.inr h2)]
    · rw [if_neg (by simpa using h2), if_neg (by omega)]
      simp only [rivetref08_Unpack.j2]
      rw [if_pos (by simp; omega)]
      have := up_loop (fun σ : List Int × List Int × Int => rivetref08_Unpack.b30 σ.1 σ.2.1 σ.2.2) ([], [], 10) id l.length (fun out s => by simp only [rivetref08_Unpack.b30]; rw [if_neg (by omega)]) (fun out s h e1 e2 e3 e4 => by
        have hx := all_getD e2 (d := 0) (by omega) h
        simp only [rivetref08_Unpack.b30]
        rw [w64s (x := ((h + 1 : Nat) : Int) - 1) (by omega) (by omega), if_pos (by omega), if_pos (by omega), ixd, show (((h + 1 : Nat) : Int) - 1).toNat = h by omega]
        rw [Int.tmod_eq_emod_of_nonneg hx.1, Int.tdiv_eq_ediv_of_nonneg hx.1, w64s (by omega) (by omega)]
        by_cases hc : (out.getD h 0 % 65536).toNat > h
        · rw [if_pos hc, if_pos (by omega)]
        · rw [if_neg hc, if_neg (by omega), if_pos (by omega), if_pos (by simp; omega), wu32_id (by omega) (by omega)]
          simp only [id, List.singleton_append]
          rw [show (((h + 1 : Nat) : Int) - 1) = (h : Int) by omega, show ((out.getD h 0 % 65536).toNat : Int) = out.getD h 0 % 65536 by omega]) (fun _ => rfl) (fun _ => rfl) head.toNat l [] rfl hl (by simp; omega)
      rw [show ((head.toNat : Nat) : Int) = head by omega] at this
      simp only [List.nil_append]
      rw [this]
      cases h : up head.toNat l (id []) with
      | none => simp only [id] at h; simp [h]
      | some p => simp only [id] at h; simp [h, rivetref08_Unpack.j3]
theorem unpack_chain (l : List Int) (head : Int) (h0 : l.length ≤ 1000000000000) (hl : ∀ n ∈ l, 0 ≤ n ∧ n ≤ 4294967295) : chain_Unpack l head = some (unpacked l head) := by
  unfold chain_Unpack unpacked
  by_cases h1 : head < 0
  · rw [if_pos h1, if_pos (.inl h1)]; simp [chain_Unpack.j1]
  · rw [if_neg h1]
    simp only [chain_Unpack.j1]
    by_cases h2 : head > (l.length : Int)
    · rw [if_pos (by simpa using h2), if_pos (.inr h2)]
    · rw [if_neg (by simpa using h2), if_neg (by omega)]
      simp only [chain_Unpack.j2, slices_Clone_uint32_uint32]
      rw [if_pos (by simp; omega)]
      simp only [List.nil_append, Option.bind_some]
      have := up_loop (fun σ : List Int × List Int × Int => chain_Unpack.b24 σ.1 σ.2.1 σ.2.2) ([], [], 10) List.reverse l.length (fun out s => by simp only [chain_Unpack.b24]; rw [w64s (by omega) (by omega), if_pos (by omega)]) (fun out s h e1 e2 e3 e4 => by
        have hx := all_getD e2 (d := 0) (by omega) h
        simp only [chain_Unpack.b24]
        rw [w64s (x := ((h + 1 : Nat) : Int) - 1) (by omega) (by omega), if_neg (by omega), if_pos (by omega), ixd, show (((h + 1 : Nat) : Int) - 1).toNat = h by omega]
        rw [low_val hx.1 hx.2, w64s (by omega) (by omega), show (2 : Int) ^ 16 = 65536 by decide, Int.fdiv_eq_ediv_of_nonneg _ (by omega)]
        by_cases hc : (out.getD h 0 % 65536).toNat > h
        · rw [if_pos hc, if_pos (by omega)]
        · rw [if_neg hc, if_neg (by omega), if_pos (by omega), if_pos (by omega), if_pos (by omega), if_pos (by simp; omega)]
          rw [List.reverse_cons, List.reverse_reverse, show (((h + 1 : Nat) : Int) - 1) = (h : Int) by omega, show ((out.getD h 0 % 65536).toNat : Int) = out.getD h 0 % 65536 by omega]) List.reverse_reverse (fun _ => List.length_reverse) head.toNat l [] rfl hl (by simp; omega)
      rw [show ((head.toNat : Nat) : Int) = head by omega] at this
      rw [this, List.reverse_nil]
      cases h : up head.toNat l [] with
      | none => rfl
      | some p =>
        have hlen := up_len h
        simp only [Option.bind_some, chain_Unpack.j3]
        rw [rev_is _ (by simp at hlen ⊢; omega), List.reverse_reverse]
        rfl
theorem shown_is : rivetlaw08_shown = some true := by
  unfold rivetlaw08_shown
  rw [pack_chain _ _ (by decide) (by decide) (by decide)]
  have e : packed [8, 7, 4] [0, 2] = ([524288, 7, 262145], 3, 0) := by decide
  rw [e]
  simp only [Option.bind_some]
  rw [same32 (by decide)]
  simp [rivetlaw08_shown.j1]
theorem packed_len (l sites : List Int) : (packed l sites).1.length ≤ l.length := by
  have key : ∀ sites out h p, pk sites out h = some p → p.1.length = out.length := by
    intro sites
    induction sites with
    | nil => intro out h p hp; cases hp; rfl
    | cons s r ih =>
      intro out h p hp
      simp only [pk] at hp
      split at hp
      · cases hp
      · rw [ih _ _ _ hp, List.length_set]
  unfold packed
  split
  · cases h : pk sites l 0 with
    | none => simp
    | some p => simp [key _ _ _ _ h]
  · simp
theorem up_len1 : ∀ {h : Nat} {out s : List Int} {p : List Int × List Int}, up h out s = some p → p.1.length = out.length := by
  intro h
  induction h using Nat.strongRecOn with
  | _ h ih =>
    intro out s p hp
    cases h with
    | zero => rw [up_zero] at hp; cases hp; rfl
    | succ h =>
      by_cases hc : (out.getD h 0 % 65536).toNat > h
      · rw [up_bad hc] at hp; cases hp
      · rw [up_next hc] at hp
        rw [ih _ (by omega) hp, List.length_set]
theorem unpacked_len (l : List Int) (head : Int) : (unpacked l head).1.length ≤ l.length ∧ (unpacked l head).2.1.length ≤ l.length := by
  unfold unpacked
  split
  · simp
  · cases h : up head.toNat l [] with
    | none => simp
    | some p =>
      have h1 := up_len h
      have h2 := up_len1 h
      simp only [List.length_nil] at h1
      simp only
      omega
theorem take30 (l : List Int) : l.take (mnn (l.length : Int) 30).toNat = l.take 30 := take_min l 30 (by omega)
theorem len30 (l : List Int) : (l.take 30).length ≤ 30 := by simp; omega
theorem in32 {l : List Int} (h : ∀ n ∈ l, In .u32 n) : ∀ n ∈ l, 0 ≤ n ∧ n ≤ 4294967295 := fun n hn => (h n hn).u32
theorem in_take {l : List Int} {p : Int → Prop} (h : ∀ n ∈ l, p n) (k : Nat) : ∀ n ∈ l.take k, p n := fun n hn => h n (List.mem_of_mem_take hn)
theorem ok30 (l : List Int) : 0 ≤ mnn (l.length : Int) 30 ∧ mnn (l.length : Int) 30 ≤ (l.length : Int) := mnn_ok _ _ (by omega) (by omega)
end Go.Proofs.Ytpbfjcpndmmgoaa.C08
namespace Go.Proofs.Ytpbfjcpndmmgoaa.T08
open Go Go.RowKit Go.Proofs.Ytpbfjcpndmmgoaa.E Go.Proofs.Ytpbfjcpndmmgoaa.C08
theorem Pure.ChainAll (l0 : List Int) (l1 : List Int) (a2 : Int) : (∀ n ∈ l0, In .u32 n) → l0.length * 4 ≤ 140737488351232 → (∀ n ∈ l1, In .i64 n) → l1.length * 8 ≤ 140737488351232 → In .i64 a2 → rivetlaw08_ChainAll l0 l1 a2 = some true := by
  intro h0 _ h1 _ _
  have hl := in_take (in32 h0) 30
  have n0 := len30 l0
  have n1 := len30 l1
  have p0 := packed_len (l0.take 30) (l1.take 30)
  have u0 := unpacked_len (l0.take 30) a2
  have e1 := pack_chain (l0.take 30) (l1.take 30) (by omega) (by omega) hl
  have e2 := pack_ref (l0.take 30) (l1.take 30) (by omega) (by omega) hl
  have e3 := unpack_chain (l0.take 30) a2 (by omega) hl
  have e4 := unpack_ref (l0.take 30) a2 (by omega) hl
  generalize packed (l0.take 30) (l1.take 30) = p at *
  generalize unpacked (l0.take 30) a2 = u at *
  obtain ⟨p1, p2, p3⟩ := p
  obtain ⟨u1, u2, u3⟩ := u
  simp only at p0 u0
  unfold rivetlaw08_ChainAll
  rw [shown_is, take30, take30]
  simp only [Option.bind_some]
  rw [if_pos (ok30 _), if_pos (ok30 _), e1]
  simp only [Option.bind_some]
  rw [if_pos (ok30 _), if_pos (ok30 _), e2]
  simp only [Option.bind_some]
  rw [if_pos (ok30 _), e3]
  simp only [Option.bind_some]
  rw [if_pos (ok30 _), e4]
  simp only [Option.bind_some]
  rw [same32 (by omega), same32 (by omega), same64 (by omega)]
  simp [rivetlaw08_ChainAll.j1]
end Go.Proofs.Ytpbfjcpndmmgoaa.T08
