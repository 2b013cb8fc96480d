/- What names are put as, and which name bytes begin with: le and its reference, told by one function; the document's example. No condition. -/
import Derived.Test.YtckefpenekolhaaDoorL07e
namespace Go.Proofs.YtckefpenekolhaaDoor.L07
set_option linter.unusedVariables false
set_option linter.unusedSimpArgs false
open Go Go.RowKit Go.Proofs.YtckefpenekolhaaDoor.E Go.Proofs.YtckefpenekolhaaDoor.T07
theorem padded_is {n : Nat} (h : n ≤ 1000000) : le_padded (n : Int) = some (((n + 4) / 4 * 4 : Nat) : Int) := by
  unfold le_padded nm
  rw [w64s (x := 1 + (n : Int)) (by omega) (by omega), w64s (x := 1 + (n : Int) + 4) (by omega) (by omega), w64s (x := 1 + (n : Int) + 4 - 1) (by omega) (by omega), Int.tdiv_eq_ediv_of_nonneg (by omega), w64s (x := (1 + (n : Int) + 4 - 1) / 4) (by omega) (by omega), w64s (by omega) (by omega)]
  congr 1
  omega
def padS (l : List Int) : List Int := ((l.length : Int) :: l) ++ List.replicate ((l.length + 4) / 4 * 4 - 1 - l.length) 0
theorem padS_length (l : List Int) : (padS l).length = (l.length + 4) / 4 * 4 := by
  unfold padS
  simp only [List.length_append, List.length_cons, List.length_replicate]
  omega
theorem padS_by {l : List Int} (h : By l) (hl : l.length ≤ 255) : By (padS l) := by
  intro x hx
  unfold padS at hx
  rw [List.mem_append, List.mem_cons] at hx
  rcases hx with (rfl | hx) | hx
  · omega
  · exact h x hx
  · rw [(List.mem_replicate.1 hx).2]; omega
def putN (l : List Int) : List Int × Int := if nameS l = true then (padS l, 0) else ([], 9)
theorem nameS_len {l : List Int} (h : nameS l = true) : 1 ≤ l.length ∧ l.length ≤ 12 := by
  unfold nameS at h
  simp only [Bool.and_eq_true, decide_eq_true_eq] at h
  exact h.1.1.1
theorem pad_lput {l : List Int} {p : Nat} (hp : p = (l.length + 4) / 4 * 4) : lput ((List.replicate p 0).set 0 (l.length : Int)) 1 l = padS l := by
  obtain ⟨m, hm⟩ : ∃ m, p = m + 1 := ⟨p - 1, by omega⟩
  subst hm
  unfold lput padS
  rw [List.replicate_succ, List.set_cons_zero, List.length_cons, List.length_replicate, List.take_of_length_le (l := l) (by omega), Nat.add_comm 1 l.length, List.drop_succ_cons, List.drop_replicate, ← hp]
  have h2 : ((l.length : Int) :: List.replicate m 0).take 1 = [(l.length : Int)] := rfl
  rw [h2, show m + 1 - 1 - l.length = m - l.length by omega]
  simp
theorem putname_is {s : ByteArray} : le_PutName s = some (putN (bytesL s)) := by
  have hL := bytesL_length s
  unfold le_PutName putN
  rw [name_is]
  simp only [Option.bind_some]
  cases hn : nameS (bytesL s) with
  | false => rw [if_neg (by decide), if_neg (by decide)]
  | true =>
    have hl := nameS_len hn
    rw [if_pos rfl, if_pos rfl, padded_is (by omega), Option.bind_some]
    have e8 : wu8 (s.size : Int) = ((bytesL s).length : Int) := by rw [wu8_eq]; omega
    have hd : (eI .u8).d = 0 := rfl
    rw [e8, hd, Int.toNat_natCast]
    generalize hp : (s.size + 4) / 4 * 4 = p
    have h0 : (0 : Int).toNat = 0 := rfl
    have h1 : (1 : Int).toNat = 1 := rfl
    have hp16 : (p : Int) ≤ 16 := by omega
    have hp0 : 0 ≤ (p : Int) := Int.natCast_nonneg p
    have hpl : (p : Int) ≤ 281474976710656 := Int.le_trans hp16 (by decide)
    rw [h0, h1, pad_lput (by rw [hL, hp]), if_pos ⟨hp0, hpl⟩, if_pos (by rw [List.length_replicate]; omega), if_pos (by rw [List.length_set, List.length_replicate]; omega)]
theorem refput_pad : ∀ (m : Nat) (l : List Int), (l.length + m) % 4 = 0 → m < 4 → l.length ≤ 1000 → loopO (fun σ : List Int => rivetref07_PutName.b26 σ) l = some (l ++ List.replicate m 0)
  | 0, l, h, hm, hl => by
    rw [List.replicate_zero, List.append_nil]
    exact loopO_done (by unfold rivetref07_PutName.b26; rw [Int.tmod_eq_emod_of_nonneg (by omega), if_pos (by omega)])
  | m + 1, l, h, hm, hl => by
    rw [loopO_next (s' := l ++ [0])]
    · rw [refput_pad m (l ++ [0]) (by rw [List.length_append, List.length_cons, List.length_nil]; omega) (by omega) (by rw [List.length_append, List.length_cons, List.length_nil]; omega), List.replicate_succ, List.append_assoc]
      rfl
    · unfold rivetref07_PutName.b26
      rw [Int.tmod_eq_emod_of_nonneg (by omega), if_neg (by omega), if_pos (by simp only [List.length_cons, List.length_nil]; omega)]
theorem refputname_is {s : ByteArray} : rivetref07_PutName s = some (putN (bytesL s)) := by
  have hL := bytesL_length s
  unfold rivetref07_PutName putN
  rw [refname_is]
  simp only [Option.bind_some]
  cases hn : nameS (bytesL s) with
  | false => rfl
  | true =>
    have hl := nameS_len hn
    have e8 : wu8 (s.size : Int) = (s.size : Int) := by rw [wu8_eq]; omega
    rw [if_pos rfl, if_pos rfl, e8, if_pos (by simp only [List.length_cons, List.length_nil]; omega)]
    rw [refput_pad ((s.size + 4) / 4 * 4 - 1 - s.size) _ (by simp only [List.length_append, List.length_cons, List.length_nil]; omega) (by omega) (by simp only [List.length_append, List.length_cons, List.length_nil]; omega)]
    simp only [Option.bind_some, rivetref07_PutName.j1]
    unfold padS
    rw [hL]
    rfl
def zeros (l : List Int) : Bool := l.all fun x => decide (x = 0)
def takeN (b : List Int) : List Int × Int × Int :=
  if b.length = 0 then ([], 0, 3)
  else if b.length < ((b.getD 0 0).toNat + 4) / 4 * 4 then ([], 0, 3)
  else if nameS ((b.take (1 + (b.getD 0 0).toNat)).drop 1) = false then ([], 0, 9)
  else if zeros ((b.take (((b.getD 0 0).toNat + 4) / 4 * 4)).drop (1 + (b.getD 0 0).toNat)) = true then ((b.take (1 + (b.getD 0 0).toNat)).drop 1, (((b.getD 0 0).toNat + 4) / 4 * 4 : Nat), 0)
  else ([], 0, 6)
theorem le_zeros {b : List Int} {p n : Nat} {y : ByteArray} (hn : n ≤ 255) (hp : p ≤ 1000) : ∀ (m i : Nat), i + m = ((b.take p).drop (1 + n)).length → loopO (fun σ : ByteArray × Int => le_TakeName.b48 b (p : Int) (n : Int) σ.1 σ.2) (y, (i : Int)) = some (if zeros (((b.take p).drop (1 + n)).drop i) = true then .done y else .ret ((⟨#[]⟩ : ByteArray), 0, 6)) := by
  intro m
  have hlen : ((b.take p).drop (1 + n)).length ≤ p := by rw [List.length_drop, List.length_take]; omega
  have e : (w64 (1 + (n : Int))).toNat = 1 + n := by rw [w64s (by omega) (by omega)]; omega
  have key : ∀ i : Nat, le_TakeName.b48 b (p : Int) (n : Int) y (i : Int) = (if (i : Int) < (((b.take p).drop (1 + n)).length : Int) then (if ((b.take p).drop (1 + n)).getD i 0 = 0 then some (.inl (y, w64 ((i : Int) + 1))) else some (.inr (.ret ((⟨#[]⟩ : ByteArray), 0, 6)))) else some (.inr (.done y))) := by
    intro i
    unfold le_TakeName.b48 nm
    rw [e, Int.toNat_natCast, ix8]
    by_cases h : (i : Int) < (((b.take p).drop (1 + n)).length : Int)
    · rw [if_pos h, if_pos h, if_pos ⟨by omega, h⟩]
    · rw [if_neg h, if_neg h]
  generalize (b.take p).drop (1 + n) = L at *
  induction m with
  | zero =>
    intro i h
    rw [List.drop_of_length_le (by omega)]
    refine loopO_done ?_
    rw [key, if_neg (by omega)]
    rfl
  | succ m ih =>
    intro i h
    rw [drop_at (show i < L.length by omega)]
    by_cases hz : L.getD i 0 = 0
    · rw [loopO_next (s' := (y, ((i + 1 : Nat) : Int)))]
      · rw [ih (i + 1) (by omega)]
        unfold zeros
        rw [List.all_cons, hz]
        rfl
      · rw [key, if_pos (by omega), if_pos hz, w64s (by omega) (by omega)]
        rfl
    · refine loopO_done ?_
      rw [key, if_pos (by omega), if_neg hz]
      unfold zeros
      rw [List.all_cons, decide_eq_false hz]
      rfl
theorem ref_zeros {b : List Int} {p : Nat} (hp : p ≤ 1000) (hb : p ≤ b.length) : ∀ (m i : Nat), i + m = p → loopO (fun σ : Int => rivetref07_TakeName.b38 (p : Int) b σ) (i : Int) = some (if zeros ((b.take p).drop i) = true then .done () else .ret ((⟨#[]⟩ : ByteArray), 0, 6)) := by
  intro m
  induction m with
  | zero =>
    intro i h
    rw [List.drop_of_length_le (by rw [List.length_take]; omega)]
    refine loopO_done ?_
    unfold rivetref07_TakeName.b38
    rw [if_neg (by omega)]
    rfl
  | succ m ih =>
    intro i h
    have hi : i < (b.take p).length := by rw [List.length_take]; omega
    rw [drop_at hi]
    have e : (b.take p).getD i 0 = b.getD i 0 := by rw [List.getD_eq_getElem?_getD, List.getD_eq_getElem?_getD, List.getElem?_take_of_lt (by omega)]
    rw [e]
    by_cases hz : b.getD i 0 = 0
    · rw [loopO_next (s' := ((i + 1 : Nat) : Int))]
      · rw [ih (i + 1) (by omega)]
        unfold zeros
        rw [List.all_cons, hz]
        rfl
      · unfold rivetref07_TakeName.b38
        rw [ix8, if_pos (by omega), if_pos (by omega), if_pos hz, w64s (by omega) (by omega)]
        rfl
    · refine loopO_done ?_
      unfold rivetref07_TakeName.b38
      rw [ix8, if_pos (by omega), if_pos (by omega), if_neg hz]
      unfold zeros
      rw [List.all_cons, decide_eq_false hz]
      rfl
theorem take_by {b : List Int} (hb : By b) (n : Nat) : By (b.take n) := fun x hx => hb x (List.mem_of_mem_take hx)
theorem drop_by {b : List Int} (hb : By b) (n : Nat) : By (b.drop n) := fun x hx => hb x (List.mem_of_mem_drop hx)
theorem takename_is {b : List Int} (hb : By b) (hl : b.length ≤ 1000000) : le_TakeName b = some (strOfNums (takeN b).1, (takeN b).2) := by
  unfold le_TakeName takeN
  by_cases h0 : b.length = 0
  · rw [if_pos (by omega), if_pos h0]; rfl
  · have hx := getD_in hb (show 0 < b.length by omega)
    have hi : ix (eI .u8).d b (0 : Int) = b.getD 0 0 := ix8 b 0
    rw [if_neg (by omega), if_neg h0, if_pos (by omega), hi]
    obtain ⟨n, hn⟩ := Int.eq_ofNat_of_zero_le hx.1
    rw [hn]
    have hn2 : n ≤ 255 := by omega
    simp only [nm]
    rw [w64s (x := (n : Int)) (by omega) (by omega), padded_is (by omega), Int.toNat_natCast]
    simp only [Option.bind_some]
    by_cases h1 : b.length < (n + 4) / 4 * 4
    · rw [if_pos (by omega), if_pos h1]; rfl
    · rw [if_neg (by omega), if_neg h1, w64s (x := 1 + (n : Int)) (by omega) (by omega), if_pos (by omega)]
      have e1 : (1 + (n : Int)).toNat = 1 + n := by omega
      have e2 : (1 : Int).toNat = 1 := rfl
      rw [e1, e2, name_is, bytesL_nums (drop_by (take_by hb _) _)]
      simp only [Option.bind_some]
      cases hs : nameS ((b.take (1 + n)).drop 1) with
      | false => rfl
      | true =>
        rw [if_pos rfl, if_pos (by omega), if_neg (by simp)]
        have := le_zeros (b := b) (p := (n + 4) / 4 * 4) (n := n) (y := strOfNums ((b.take (1 + n)).drop 1)) hn2 (by omega) _ 0 (Nat.zero_add _)
        rw [List.drop_zero] at this
        have e0 : ((0 : Nat) : Int) = 0 := rfl
        rw [e0] at this
        rw [this]
        simp only [Option.bind_some]
        cases zeros ((b.take ((n + 4) / 4 * 4)).drop (1 + n)) <;> rfl
theorem reftakename_is {b : List Int} (hb : By b) (hl : b.length ≤ 1000000) : rivetref07_TakeName b = some (strOfNums (takeN b).1, (takeN b).2) := by
  unfold rivetref07_TakeName takeN
  by_cases h0 : b.length = 0
  · rw [if_pos (by omega), if_pos h0]; rfl
  · have hx := getD_in hb (show 0 < b.length by omega)
    have hi : ix (eI .u8).d b (0 : Int) = b.getD 0 0 := ix8 b 0
    rw [if_neg (by omega), if_neg h0, if_pos (by omega), hi]
    obtain ⟨n, hn⟩ := Int.eq_ofNat_of_zero_le hx.1
    rw [hn]
    have hn2 : n ≤ 255 := by omega
    simp only [nm]
    have ep : w64 (w64 ((w64 ((n : Int) + 4)).tdiv 4) * 4) = (((n + 4) / 4 * 4 : Nat) : Int) := by
      rw [w64s (x := (n : Int) + 4) (by omega) (by omega), Int.tdiv_eq_ediv_of_nonneg (by omega), w64s (x := ((n : Int) + 4) / 4) (by omega) (by omega), w64s (by omega) (by omega)]
      omega
    rw [w64s (x := (n : Int)) (by omega) (by omega), ep, Int.toNat_natCast]
    by_cases h1 : b.length < (n + 4) / 4 * 4
    · rw [if_pos (by omega), if_pos h1]; rfl
    · rw [if_neg (by omega), if_neg h1, w64s (x := 1 + (n : Int)) (by omega) (by omega), if_pos (by omega)]
      have e1 : (1 + (n : Int)).toNat = 1 + n := by omega
      have e2 : (1 : Int).toNat = 1 := rfl
      rw [e1, e2, refname_is, bytesL_nums (drop_by (take_by hb _) _)]
      simp only [Option.bind_some]
      cases hs : nameS ((b.take (1 + n)).drop 1) with
      | false => rfl
      | true =>
        rw [if_pos rfl, if_neg (by simp)]
        have := ref_zeros (b := b) (p := (n + 4) / 4 * 4) (by omega) (by omega) ((n + 4) / 4 * 4 - (1 + n)) (1 + n) (by omega)
        have e0 : ((1 + n : Nat) : Int) = 1 + (n : Int) := by omega
        rw [e0] at this
        rw [this]
        simp only [Option.bind_some]
        cases zeros ((b.take ((n + 4) / 4 * 4)).drop (1 + n)) <;> rfl
theorem shown_is : rivetlaw07_shown = some true := by
  unfold rivetlaw07_shown
  have hb : By [2, 97, 98, 0, 9] := by
    intro x hx
    simp only [List.mem_cons, List.not_mem_nil, or_false] at hx
    omega
  have hw : Wd [67305985] := by
    intro x hx
    simp only [List.mem_cons, List.not_mem_nil, or_false] at hx
    omega
  rw [putname_is, takename_is hb (by decide), put_is (by decide) hw]
  decide +kernel
end Go.Proofs.YtckefpenekolhaaDoor.L07
