/- The plain laws of the statements ChainBack, ChainTaken, ChainEmpty. No condition. -/
import Derived.Test.YtpbfjcpndmmgoaaC08c
namespace Go.Proofs.Ytpbfjcpndmmgoaa.C08
open Go Go.RowKit Go.Proofs.Ytpbfjcpndmmgoaa.E Go.Proofs.Ytpbfjcpndmmgoaa.T08
/-! ### ChainBack -/
theorem back_mask (sites w : List Int) (hw : ∀ n ∈ w, 0 ≤ n ∧ n ≤ 4294967295) (hl : w.length ≤ 30) (hs : Ris 0 w.length sites) :
    ∃ w', loopO (fun σ : List Int × Int => rivetlaw08_ChainBack.b40 sites σ.1 σ.2) (w, 0) = some w' ∧ w'.length = w.length ∧ (∀ n ∈ w', 0 ≤ n ∧ n ≤ 4294967295) ∧ ∀ x ∈ sites, w'.getD x.toNat 0 ≤ 65535 := by
  obtain ⟨w', h1, h2⟩ := loopO_inv (b := fun σ : List Int × Int => rivetlaw08_ChainBack.b40 sites σ.1 σ.2)
    (fun σ => ∃ i : Nat, σ.2 = (i : Int) ∧ i ≤ sites.length ∧ σ.1.length = w.length ∧ (∀ n ∈ σ.1, 0 ≤ n ∧ n ≤ 4294967295) ∧ ∀ j : Nat, ∀ hj : j < sites.length, j < i → σ.1.getD sites[j].toNat 0 ≤ 65535)
    (fun σ => ((sites.length : Int) - σ.2).toNat) (fun w' => w'.length = w.length ∧ (∀ n ∈ w', 0 ≤ n ∧ n ≤ 4294967295) ∧ ∀ x ∈ sites, w'.getD x.toNat 0 ≤ 65535) (by
      rintro ⟨u, j⟩ ⟨i, h1, h2, h3, h4, h5⟩
      simp only at h1 h3 h4 h5
      subst h1
      simp only [rivetlaw08_ChainBack.b40]
      by_cases hc : (i : Int) < (sites.length : Int)
      · left
        have hi : i < sites.length := by omega
        have hx := hs.lo sites[i] (List.getElem_mem hi)
        have hx2 := hs.hi sites[i] (List.getElem_mem hi)
        have hg := all_getD h4 (d := 0) (by omega) sites[i].toNat
        have hlen : sites.length ≤ 4611686018427387904 := by
          rcases Nat.lt_or_ge sites.length 4611686018427387904 with h | h
          · omega
          · exfalso
            have key : ∀ (k : Nat) (hk : k < sites.length), (k : Int) ≤ sites[k] := by
              intro k
              induction k with
              | zero => intro hk; exact hs.lo _ (List.getElem_mem hk)
              | succ k ih =>
                intro hk
                have a := ih (by omega)
                have b := List.pairwise_iff_getElem.1 hs.up k (k + 1) (by omega) hk (by omega)
                omega
            have a := key 100 (by omega)
            have b := hs.hi sites[100] (List.getElem_mem (by omega))
            omega
        rw [if_pos hc, if_pos (by omega), if_pos (by omega), ixn hi, if_pos (by omega), if_pos (by omega), ixd, low_val hg.1 hg.2, w64s (by omega) (by omega)]
        refine ⟨_, rfl, ⟨i + 1, rfl, by omega, by simp [h3], all_set h4 (by omega) _, fun k hk hki => ?_⟩, by simp only; omega⟩
        simp only
        rw [getD_set (by omega)]
        split
        · omega
        · rename_i hne
          rcases Nat.lt_or_ge k i with h | h
          · exact h5 k hk h
          · have : k = i := by omega
            subst this
            exact absurd rfl hne
      · right
        rw [if_neg hc]
        refine ⟨_, rfl, h3, h4, fun x hx => ?_⟩
        obtain ⟨k, hk, rfl⟩ := List.getElem_of_mem hx
        exact h5 k hk (by omega)) (w, 0) ⟨0, rfl, by omega, rfl, hw, fun j _ h => by omega⟩
  exact ⟨w', h1, h2⟩
theorem ris_len {n : Nat} {s : List Int} (h : Ris 0 n s) : s.length ≤ n := by
  rcases Nat.lt_or_ge n s.length with hl | hl
  · exfalso
    have key : ∀ (k : Nat) (hk : k < s.length), (k : Int) ≤ s[k] := by
      intro k
      induction k with
      | zero => intro hk; exact h.lo _ (List.getElem_mem hk)
      | succ k ih =>
        intro hk
        have a := ih (by omega)
        have b := List.pairwise_iff_getElem.1 h.up k (k + 1) (by omega) hk (by omega)
        omega
    have a := key n hl
    have b := h.hi s[n] (List.getElem_mem hl)
    omega
  · exact hl
theorem odd_low {x : Int} {i : Nat} (h0 : 0 ≤ x) (h1 : x ≤ 4294967295) (hi : i < 60000) : ∃ v, bor .u32 (bandn .u32 x 65535) (wu32 (w64 ((i : Int) + 1))) = v ∧ 0 ≤ v ∧ v ≤ 4294967295 ∧ v % 65536 = (i : Int) + 1 := by
  refine ⟨_, rfl, ?_⟩
  rw [w64s (by omega) (by omega), wu32_id (by omega) (by omega), bandn_nat (by decide) h0 (by simp only [umax]; omega) (by omega) (by simp only [umax]; omega)]
  rw [show umax .u32 - 1 - (65535 : Int).toNat = (2 ^ 16 - 1) * 2 ^ 16 by decide, and_high x.toNat 16 16 (by omega)]
  rw [bor_nat (by decide) (by omega) (by simp only [umax]; omega) (by omega) (by simp only [umax]; omega)]
  have e : ((x.toNat / 2 ^ 16 * 2 ^ 16 : Nat) : Int).toNat = 2 ^ 16 * (x.toNat / 2 ^ 16) := by omega
  rw [e, or_high (by omega)]
  omega
theorem odd_bad {n : Nat} (hn : n ≤ 65535) {s w : List Int} {p : List Int × Int} {i : Nat} {v : Int} (hp : pk s w 0 = some p) (hs : Ris 0 n s) (hw : Good n w 0) (hi : (i : Int) ∈ s) (hv : v % 65536 = (i : Int) + 1) (h0 : 0 ≤ v) (h1 : v ≤ 4294967295) : up p.2.toNat (p.1.set i v) [] = none := by
  obtain ⟨pre, post, rfl⟩ := List.append_of_mem hi
  rw [pk_append] at hp
  obtain ⟨q, hq, hp⟩ := bind_some hp
  have a := List.pairwise_append.1 hs.up
  have b := List.pairwise_cons.1 a.2.1
  have hilt := hs.hi (i : Int) hi
  obtain ⟨gq, hqn⟩ := pk_good (n := n) hq (fun x hx => ⟨hs.lo x (by simp [hx]), by have := hs.hi x (by simp [hx]); omega, hs.hi x (by simp [hx])⟩) hw (by omega)
  simp only [pk, Int.toNat_natCast] at hp
  split at hp
  · cases hp
  · rename_i hc
    have hc : ¬ q.1.getD ((i : Int)).toNat 0 > 65535 := by simpa using hc
    have gn := gq.next (s := (i : Int)) (by omega) (by omega) hc
    simp only [Int.toNat_natCast] at gn
    have hset := pk_set (i := i) (v := v) hp fun x hx => by have := b.1 x hx; omega
    have gs : Good n ((q.1.set i (q.1.getD i 0 * 65536 + q.2)).set i v) ((i : Int) + 1) := ⟨by rw [List.length_set]; exact gn.len, all_set gn.all ⟨h0, h1⟩ _, gn.h0, gn.h1⟩
    have hr : Ris ((i : Int) + 1) n post := ⟨b.2, fun x hx => by have := b.1 x hx; omega, fun x hx => hs.hi x (by simp [hx])⟩
    have := pk_up hn [] hset hr gs
    simp only at this
    rw [this, show ((i : Int) + 1).toNat = i + 1 by omega]
    apply up_bad
    rw [getD_set (by rw [gn.len]; omega), if_pos rfl]
    omega
theorem back_round {n : Nat} (hn : n ≤ 30) {s w : List Int} {p : List Int × Int} (hp : pk s w 0 = some p) (hs : Ris 0 n s) (hw : Good n w 0) : loopO (fun σ : Int × Int => rivetlaw08_ChainBack.b106 w s p.1 p.2 σ.1 σ.2) (0, 0) = some (.done ()) := by
  have hsl := ris_len hs
  have hwl := hw.len
  obtain ⟨gp, hpn⟩ := pk_good (n := n) hp (fun x hx => ⟨hs.lo x hx, by have := hs.hi x hx; omega, hs.hi x hx⟩) hw (by omega)
  have hpl := gp.len
  obtain ⟨r, h1, h2⟩ := loopO_inv (b := fun σ : Int × Int => rivetlaw08_ChainBack.b106 w s p.1 p.2 σ.1 σ.2)
    (fun σ => ∃ a i : Nat, σ = ((a : Int), (i : Int)) ∧ a ≤ s.length ∧ i ≤ n ∧ (∀ x ∈ s.take a, x < (i : Int)) ∧ (∀ x ∈ s.drop a, (i : Int) ≤ x)) (fun σ => ((n : Int) - σ.2).toNat) (fun r => r = .done ()) (by
      rintro _ ⟨a, i, rfl, h2, h3, h4, h5⟩
      simp only [rivetlaw08_ChainBack.b106]
      by_cases hc : (i : Int) < (w.length : Int)
      · left
        rw [if_pos hc]
        have hil : i < p.1.length := by omega
        -- a word that is no site
        have other : (∀ x ∈ s.drop a, (i : Int) < x) → ∃ s', rivetlaw08_ChainBack.j4 p.1 (i : Int) p.2 (a : Int) w false = some (.inl s') ∧ (∃ a i : Nat, s' = ((a : Int), (i : Int)) ∧ a ≤ s.length ∧ i ≤ n ∧ (∀ x ∈ s.take a, x < (i : Int)) ∧ (∀ x ∈ s.drop a, (i : Int) ≤ x)) ∧ ((n : Int) - s'.2).toNat < ((n : Int) - (i : Int)).toNat := by
          intro h6
          simp only [rivetlaw08_ChainBack.j4]
          have e : p.1.getD i 0 = w.getD i 0 := pk_other hp fun x hx => by
            rw [← List.take_append_drop a s] at hx
            have hx0 : 0 ≤ x := hs.lo x (by rw [← List.take_append_drop a s]; exact hx)
            rcases List.mem_append.1 hx with h | h
            · have := h4 x h; omega
            · have := h6 x h; omega
          rw [if_neg (by simp), if_pos (by omega), if_pos (by omega), ixd, ixd, Int.toNat_natCast, e, if_pos rfl]
          simp only [rivetlaw08_ChainBack.j5]
          rw [w64s (by omega) (by omega)]
          exact ⟨_, rfl, ⟨a, i + 1, rfl, h2, by omega, fun x hx => by have := h4 x hx; omega, fun x hx => by have := h6 x hx; omega⟩, by simp only; omega⟩
        by_cases ha : a < s.length
        · rw [if_pos (by omega), if_pos (by omega), ixn ha]
          have hd : s.drop a = s[a] :: s.drop (a + 1) := drop_at ha
          have hpw : (s.drop a).Pairwise (· < ·) := List.Pairwise.sublist (List.drop_sublist a s) hs.up
          rw [hd] at hpw
          have hpw := List.pairwise_cons.1 hpw
          have hsa := h5 s[a] (by rw [hd]; exact List.mem_cons_self)
          by_cases he : s[a] = (i : Int)
          · rw [show (s[a] == (i : Int)) = true by simp [he]]
            simp only [rivetlaw08_ChainBack.j4, List.nil_append]
            have hx := all_getD gp.all (d := 0) (by omega) i
            obtain ⟨v, hv, v0, v1, v2⟩ := odd_low (i := i) hx.1 hx.2 (by omega)
            rw [if_pos (by simp), if_pos (by simp; omega), if_pos (by omega), if_pos (by omega), ixd, Int.toNat_natCast, hv]
            have hbad := odd_bad (i := i) (by omega) hp hs hw (by rw [← he]; exact List.getElem_mem ha) v2 v0 v1
            have hun : unpacked (p.1.set i v) p.2 = ([], [], 10) := by
              unfold unpacked
              rw [List.length_set, if_neg (by have := gp.h0; omega), hbad]
            rw [unpack_chain _ _ (by rw [List.length_set]; omega) (all_set gp.all ⟨v0, v1⟩ _), hun]
            simp only [Option.bind_some, rivetlaw08_ChainBack.j5]
            rw [if_pos trivial, w64s (by omega) (by omega), w64s (by omega) (by omega)]
            refine ⟨_, rfl, ⟨a + 1, i + 1, rfl, by omega, by omega, fun x hx => ?_, fun x hx => ?_⟩, by simp only; omega⟩
            · rw [List.take_succ_eq_append_getElem ha] at hx
              rcases List.mem_append.1 hx with h | h
              · have := h4 x h; omega
              · rw [List.mem_singleton.1 h]; omega
            · have := hpw.1 x hx; omega
          · rw [show (s[a] == (i : Int)) = false by simp [he]]
            exact other fun x hx => by
              rw [hd] at hx
              rcases List.mem_cons.1 hx with h | h
              · omega
              · have := hpw.1 x h; omega
        · rw [if_neg (by omega)]
          exact other fun x hx => by rw [List.drop_of_length_le (by omega)] at hx; cases hx
      · right
        rw [if_neg hc]
        exact ⟨_, rfl, rfl⟩) (0, 0) ⟨0, 0, rfl, by omega, by omega, by simp, fun x hx => hs.lo x (by simpa using hx)⟩
  rw [h1, h2]
/-! ### ChainTaken -/
theorem taken_mask (w : List Int) (hw : ∀ n ∈ w, 0 ≤ n ∧ n ≤ 4294967295) (hl : w.length ≤ 30) :
    ∃ w', loopO (fun σ : List Int × Int => rivetlaw08_ChainTaken.b31 σ.1 σ.2) (w, 0) = some w' ∧ w'.length = w.length ∧ (∀ n ∈ w', 0 ≤ n ∧ n ≤ 4294967295) := by
  obtain ⟨w', h1, h2⟩ := loopO_inv (b := fun σ : List Int × Int => rivetlaw08_ChainTaken.b31 σ.1 σ.2)
    (fun σ => ∃ i : Nat, σ.2 = (i : Int) ∧ i ≤ w.length ∧ σ.1.length = w.length ∧ (∀ n ∈ σ.1, 0 ≤ n ∧ n ≤ 4294967295))
    (fun σ => ((w.length : Int) - σ.2).toNat) (fun w' => w'.length = w.length ∧ (∀ n ∈ w', 0 ≤ n ∧ n ≤ 4294967295)) (by
      rintro ⟨u, j⟩ ⟨i, h1, h2, h3, h4⟩
      simp only at h1 h3 h4
      subst h1
      simp only [rivetlaw08_ChainTaken.b31]
      by_cases hc : (i : Int) < (u.length : Int)
      · left
        have hg := all_getD h4 (d := 0) (by omega) i
        rw [if_pos hc, if_pos (by omega), if_pos (by omega), ixd, Int.toNat_natCast, w64s (by omega) (by omega)]
        refine ⟨_, rfl, ⟨i + 1, rfl, by omega, by simp [h3], all_set h4 ?_ _⟩, by simp only; omega⟩
        rw [bandn_nat (by decide) hg.1 (by simp only [umax]; omega) (by omega) (by simp only [umax]; omega)]
        have := Nat.and_le_left (n := (u.getD i 0).toNat) (m := umax .u32 - 1 - (65504 : Int).toNat)
        omega
      · right
        rw [if_neg hc]
        exact ⟨_, rfl, h3, h4⟩) (w, 0) ⟨0, rfl, by omega, rfl, hw⟩
  exact ⟨w', h1, h2⟩
/-! ### ChainEmpty -/
def big (w sites : List Int) : Bool := sites.any fun x => decide (65535 < w.getD x.toNat 0)
theorem empty_big (w sites : List Int) (l0 : List Int) (hw : w = l0.take 30) (hs : Ris 0 w.length sites) (hl : w.length ≤ 30) :
    loopO (fun σ : Bool × Int => rivetlaw08_ChainEmpty.b55 sites l0 σ.1 σ.2) (false, 0) = some (big w sites) := by
  have hsl := ris_len hs
  obtain ⟨r, h1, h2⟩ := loopO_inv (b := fun σ : Bool × Int => rivetlaw08_ChainEmpty.b55 sites l0 σ.1 σ.2)
    (fun σ => ∃ i : Nat, σ.2 = (i : Int) ∧ i ≤ sites.length ∧ σ.1 = big w (sites.take i))
    (fun σ => ((sites.length : Int) - σ.2).toNat) (fun r => r = big w sites) (by
      rintro ⟨b, j⟩ ⟨i, h1, h2, h3⟩
      simp only at h1 h3
      subst h1
      simp only [rivetlaw08_ChainEmpty.b55, rivetlaw08_ChainEmpty.j1]
      by_cases hc : (i : Int) < (sites.length : Int)
      · left
        have hi : i < sites.length := by omega
        have e : big w (sites.take (i + 1)) = (b || decide (65535 < w.getD sites[i].toNat 0)) := by
          rw [List.take_succ_eq_append_getElem hi, h3]
          unfold big
          rw [List.any_append, List.any_cons, List.any_nil, Bool.or_false]
        rw [if_pos hc, w64s (by omega) (by omega)]
        by_cases hb : b = true
        · rw [if_pos hb]
          refine ⟨_, rfl, ⟨i + 1, rfl, by omega, ?_⟩, by simp only; omega⟩
          rw [e, hb]; rfl
        · have hx := hs.lo sites[i] (List.getElem_mem hi)
          have hx2 := hs.hi sites[i] (List.getElem_mem hi)
          rw [if_neg hb, if_pos (by omega), ixn hi, take30, ← hw, if_pos (by omega), ixd]
          refine ⟨_, rfl, ⟨i + 1, rfl, by omega, ?_⟩, by simp only; omega⟩
          rw [e, Bool.eq_false_iff.2 hb]; rfl
      · right
        rw [if_neg hc]
        refine ⟨_, rfl, ?_⟩
        rw [h3, List.take_of_length_le (by omega)]) (false, 0) ⟨0, rfl, by omega, rfl⟩
  rw [h1, h2]
theorem big_packed {w s : List Int} (hl : w.length ≤ 30) (hs : Ris 0 w.length s) : ∃ a b, packed w s = (a, b, if big w s = true then 8 else 0) := by
  have hb : ∀ x ∈ s, 0 ≤ x ∧ x < (w.length : Int) ∧ x ≤ 65534 := fun x hx => ⟨hs.lo x hx, hs.hi x hx, by have := hs.hi x hx; omega⟩
  by_cases h : big w s = true
  · have h' := h
    simp only [big, List.any_eq_true, decide_eq_true_eq] at h'
    have hn : pk s w 0 = none := pk_none hs.up (fun x hx => by have := hb x hx; omega) h'
    refine ⟨[], 0, ?_⟩
    unfold packed
    rw [if_pos (rise_of hs.up fun x hx => by have := hb x hx; omega), hn, if_pos h]
  · have h' := h
    simp only [big, List.any_eq_true, decide_eq_true_eq, not_exists, not_and] at h'
    obtain ⟨p, hp⟩ := pk_some (out := w) (h := 0) hs.up (fun x hx => by have := hb x hx; have := h' x hx; omega)
    refine ⟨p.1, p.2, ?_⟩
    rw [packed_some hp hs.up hb, if_neg h]
theorem packed_end (w s : List Int) (x : Int) (hx : x ∈ s) (h : x < 0 ∨ (w.length : Int) ≤ x) : packed w s = ([], 0, 7) := by
  unfold packed
  rw [if_neg]
  intro hr
  have := rise_all hr (by omega) x hx
  omega
end Go.Proofs.Ytpbfjcpndmmgoaa.C08
namespace Go.Proofs.Ytpbfjcpndmmgoaa.T08
open Go Go.RowKit Go.Proofs.Ytpbfjcpndmmgoaa.E Go.Proofs.Ytpbfjcpndmmgoaa.C08
theorem Pure.ChainBack (l0 : List Int) (l1 : List Int) : (∀ n ∈ l0, In .u32 n) → l0.length * 4 ≤ 140737488351232 → (∀ n ∈ l1, In .u8 n) → l1.length * 1 ≤ 140737488351232 → rivetlaw08_ChainBack l0 l1 = some true := by
  intro h0 _ h1 _
  have hl := in_take (in32 h0) 30
  have n0 := len30 l0
  obtain ⟨s, hfit, hs⟩ := fit_is l1 (l0.take 30).length n0
  obtain ⟨w, hmask, hw1, hw2, hw3⟩ := back_mask s (l0.take 30) hl n0 hs
  rw [← hw1] at hs
  have hsl := ris_len hs
  have gw : C08.Good w.length w 0 := ⟨rfl, hw2, by omega, by omega⟩
  obtain ⟨p, hp⟩ := pk_some (out := w) (h := 0) hs.up (fun x hx => ⟨hs.lo x hx, by have := hs.hi x hx; have := hs.lo x hx; omega, hw3 x hx⟩)
  have hb : ∀ x ∈ s, 0 ≤ x ∧ x ≤ 65534 ∧ x < (w.length : Int) := fun x hx => ⟨hs.lo x hx, by have := hs.hi x hx; omega, hs.hi x hx⟩
  obtain ⟨gp, hpn⟩ := pk_good (n := w.length) hp hb gw (by omega)
  have e1 := packed_some hp hs.up fun x hx => ⟨(hb x hx).1, (hb x hx).2.2, (hb x hx).2.1⟩
  have hup := pk_up (n := w.length) (by omega) [] hp hs gw
  rw [show (0 : Int).toNat = 0 from rfl, up_zero, List.append_nil] at hup
  have e2 := unpacked_some (l := p.1) (h := p.2.toNat) (by have := gp.len; omega) hup
  rw [show ((p.2.toNat : Nat) : Int) = p.2 by have := gp.h0; omega] at e2
  have hround := back_round (n := w.length) (by omega) hp hs gw
  obtain ⟨p1, p2⟩ := p
  simp only at e1 e2 hround
  have gl := gp.len
  simp only at gl
  unfold rivetlaw08_ChainBack
  rw [shown_is, take30]
  simp only [Option.bind_some, List.nil_append]
  rw [if_pos (ok30 _), if_pos (by simp; omega), hfit]
  simp only [Option.bind_some]
  rw [hmask]
  simp only [Option.bind_some, rivetlaw08_ChainBack.j1]
  rw [pack_chain _ _ (by omega) (by omega) hw2, e1]
  simp only [Option.bind_some]
  rw [unpack_chain p1 p2 (by omega) gp.all, e2]
  simp only [Option.bind_some]
  rw [if_pos trivial, if_pos trivial, if_pos trivial, if_pos (by omega), same32 (by omega), same64 (by omega)]
  simp only [Option.bind_some, rivetlaw08_ChainBack.j2, rivetlaw08_ChainBack.j3]
  rw [hround]
  simp [rivetlaw08_ChainBack.j6]
theorem Pure.ChainTaken (l0 : List Int) (a1 : Int) (a2 : Int) : (∀ n ∈ l0, In .u32 n) → l0.length * 4 ≤ 140737488351232 → In .u8 a1 → In .i64 a2 → rivetlaw08_ChainTaken l0 a1 a2 = some true := by
  intro h0 _ h1 _
  have hl := in_take (in32 h0) 30
  have n0 := len30 l0
  have ha := h1.u8
  obtain ⟨w, hmask, hw1, hw2⟩ := taken_mask (l0.take 30) hl n0
  have hd : w64 (a1.tmod 32) = a1 % 32 := by rw [Int.tmod_eq_emod_of_nonneg ha.1, w64s (by omega) (by omega)]
  have u1 := unpack_chain w (a1 % 32) (by omega) hw2
  have u2 := unpack_chain w a2 (by omega) hw2
  have b2 := unpacked_bad w a2
  have key : unpacked w (a1 % 32) = ([], [], 10) ∨ ∃ x s, unpacked w (a1 % 32) = (x, s, 0) ∧ chain_Pack x s = some (w, a1 % 32, 0) := by
    by_cases hh : a1 % 32 > (w.length : Int)
    · left; unfold unpacked; rw [if_pos (.inr hh)]
    · cases hu : up (a1 % 32).toNat w [] with
      | none => left; unfold unpacked; rw [if_neg (by omega), hu]
      | some p =>
        right
        obtain ⟨pre, q1, q2, q3⟩ := up_pk hu hw2 (by omega)
        rw [List.append_nil] at q1
        have plen := up_len1 hu
        refine ⟨p.1, p.2, ?_, ?_⟩
        · have := unpacked_some (by omega) hu
          rw [show (((a1 % 32).toNat : Nat) : Int) = a1 % 32 by omega] at this
          exact this
        · have hall : ∀ n ∈ p.1, 0 ≤ n ∧ n ≤ 4294967295 := by
            have : ∀ {h : Nat} {out s : List Int} {p : List Int × List Int}, up h out s = some p → (∀ n ∈ out, 0 ≤ n ∧ n ≤ 4294967295) → ∀ n ∈ p.1, 0 ≤ n ∧ n ≤ 4294967295 := by
              intro h
              induction h using Nat.strongRecOn with
              | _ h ih =>
                intro out s p hp ho
                cases h with
                | zero => rw [up_zero] at hp; cases hp; exact ho
                | succ h =>
                  by_cases hc : (out.getD h 0 % 65536).toNat > h
                  · rw [up_bad hc] at hp; cases hp
                  · rw [up_next hc] at hp
                    have hx := all_getD ho (d := 0) (by omega) h
                    exact ih _ (by omega) hp (all_set ho (by omega) _)
            exact this hu hw2
          have q4 := ris_len q2
          rw [q1, pack_chain _ _ (by omega) (by omega) hall, packed_some q3 q2.up fun x hx => by
            have := q2.lo x hx; have := q2.hi x hx; omega]
          simp only
          rw [show (((a1 % 32).toNat : Nat) : Int) = a1 % 32 by omega]
  unfold rivetlaw08_ChainTaken
  rw [shown_is, take30]
  simp only [Option.bind_some, List.nil_append]
  rw [if_pos (ok30 _), if_pos (by simp; omega), hmask]
  simp only [Option.bind_some, rivetlaw08_ChainTaken.j1]
  rw [hd, u1, u2]
  have last : ∀ t47 t48 t49, unpacked w (a1 % 32) = (t47, t48, t49) → rivetlaw08_ChainTaken.j2 t49 t47 t48 true a1 w false = some true := by
    intro t47 t48 t49 he
    simp only [rivetlaw08_ChainTaken.j2, rivetlaw08_ChainTaken.j3]
    rcases key with hk | ⟨x, s, hk, hpk⟩
    · rw [hk] at he
      simp only [Prod.mk.injEq] at he
      obtain ⟨rfl, rfl, rfl⟩ := he
      simp [rivetlaw08_ChainTaken.j4]
    · rw [hk] at he
      simp only [Prod.mk.injEq] at he
      obtain ⟨rfl, rfl, rfl⟩ := he
      rw [if_neg (by simp), if_pos trivial, hpk]
      simp only [Option.bind_some]
      rw [if_pos trivial, if_pos trivial, hd, if_pos trivial, same32 (by omega)]
      simp [rivetlaw08_ChainTaken.j5]
  generalize hq : unpacked w (a1 % 32) = q at *
  obtain ⟨q1, q2, q3⟩ := q
  have last := last q1 q2 q3 rfl
  simp only [Option.bind_some]
  rcases b2 with hb | hb
  · generalize unpacked w a2 = u at *
    obtain ⟨y1, y2, y3⟩ := u
    simp only at hb
    subst hb
    simp only
    rw [if_pos trivial]
    exact last
  · rw [hb]
    simp only
    rw [if_neg (by decide), if_pos (show (([] : List Int).length : Int) = 0 from rfl), if_pos (show (([] : List Int).length : Int) = 0 from rfl)]
    exact last
theorem Pure.ChainEmpty (l0 : List Int) (l1 : List Int) : (∀ n ∈ l0, In .u32 n) → l0.length * 4 ≤ 140737488351232 → (∀ n ∈ l1, In .u8 n) → l1.length * 1 ≤ 140737488351232 → rivetlaw08_ChainEmpty l0 l1 = some true := by
  intro h0 _ h1 _
  have hl := in_take (in32 h0) 30
  have n0 := len30 l0
  obtain ⟨s, hfit, hs⟩ := fit_is l1 (l0.take 30).length n0
  have hsl := ris_len hs
  have hbig := empty_big (l0.take 30) s l0 rfl hs n0
  have gw : C08.Good (l0.take 30).length (l0.take 30) 0 := ⟨rfl, hl, by omega, by omega⟩
  have e0 := pack_chain (l0.take 30) [] (by simp) (by omega) hl
  have e1 := unpack_chain (l0.take 30) 0 (by omega) hl
  have e2 := pack_chain (l0.take 30) s (by omega) (by omega) hl
  have e3 := pack_chain (l0.take 30) (s ++ [((l0.take 30).length : Int)]) (by simp; omega) (by omega) hl
  have e4 := pack_chain (l0.take 30) [-1] (by simp) (by omega) hl
  have e5 := unpack_chain (l0.take 30) (((l0.take 30).length : Int) + 1) (by omega) hl
  have e6 := unpack_chain (l0.take 30) (-1) (by omega) hl
  rw [show packed (l0.take 30) [] = (l0.take 30, 0, 0) from rfl] at e0
  rw [show unpacked (l0.take 30) 0 = (l0.take 30, [], 0) from unpacked_some (h := 0) (by omega) (up_zero _ _)] at e1
  obtain ⟨a, b, hab⟩ := big_packed n0 hs
  rw [hab] at e2
  rw [packed_end _ _ ((l0.take 30).length : Int) (by simp) (.inr (by omega))] at e3
  rw [packed_end _ _ (-1) (by simp) (.inl (by omega))] at e4
  have e5' : unpacked (l0.take 30) (((l0.take 30).length : Int) + 1) = ([], [], 10) := by unfold unpacked; rw [if_pos (.inr (by omega))]
  have e6' : unpacked (l0.take 30) (-1) = ([], [], 10) := by unfold unpacked; rw [if_pos (.inl (by omega))]
  rw [e5'] at e5
  rw [e6'] at e6
  have sm := same32 (a := l0.take 30) (b := l0.take 30) (by omega)
  unfold rivetlaw08_ChainEmpty
  rw [shown_is, take30]
  simp only [Option.bind_some]
  rw [if_pos (ok30 _), e0]
  simp only [Option.bind_some]
  rw [e1]
  simp only [Option.bind_some]
  rw [hfit]
  simp only [Option.bind_some]
  rw [hbig]
  simp only [Option.bind_some, rivetlaw08_ChainEmpty.j2, List.nil_append]
  rw [take30, e2]
  simp only [Option.bind_some]
  rw [if_pos (by simp; omega), if_pos (by simp; omega), e3]
  simp only [Option.bind_some]
  rw [e4]
  simp only [Option.bind_some]
  rw [w64s (by omega) (by omega), e5]
  simp only [Option.bind_some]
  rw [e6]
  simp only [Option.bind_some]
  rw [sm]
  simp only [Option.bind_some, decide_true, if_true, List.length_nil]
  cases big (l0.take 30) s <;> simp [rivetlaw08_ChainEmpty.j3]
end Go.Proofs.Ytpbfjcpndmmgoaa.T08
