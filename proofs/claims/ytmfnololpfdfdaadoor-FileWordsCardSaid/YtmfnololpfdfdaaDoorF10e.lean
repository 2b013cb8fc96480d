/- Files: what Take of the program and of the reference come to, told by one function. No condition. -/
import Derived.Test.YtmfnololpfdfdaaDoorF10d
namespace Go.Proofs.YtmfnololpfdfdaaDoor.F10
set_option linter.unusedVariables false
set_option linter.unusedSimpArgs false
open Go Go.RowKit Go.Proofs.YtmfnololpfdfdaaDoor.E Go.Proofs.YtmfnololpfdfdaaDoor.T09 Go.Proofs.YtmfnololpfdfdaaDoor.L07 Go.Proofs.YtmfnololpfdfdaaDoor.O09
open Go.Proofs.YtmfnololpfdfdaaDoor.C08 (rise Ris packed pk unpacked unpack_chain unpack_ref unpacked_len up up_len up_len1)
noncomputable def takeY : Nat → List Int → List Sapi_Sym → (List Sapi_Sym × List Int) ⊕ Int
  | 0, b, acc => .inl (acc, b)
  | k + 1, b, acc => if (takeN b).2.2 = 0 then (if (takeS (b.drop (takeN b).2.1.toNat) 1).2 = 0 then takeY k (b.drop ((takeN b).2.1.toNat + 4)) (acc ++ [⟨strOfNums (takeN b).1, wd (b.drop (takeN b).2.1.toNat) 0⟩]) else .inr 3) else .inr (takeN b).2.2
def nob : Sapi_Obj := ⟨[], [], []⟩
noncomputable def takeF (b : List Int) : Sapi_Obj × Int :=
  if (takeS b 4).2 = 0 then
    if wd b 0 = 894847314 then
      if 1024 < wd b 1 ∨ 64 < wd b 3 then (nob, 2) else
      if (takeS (b.drop 16) (wd b 1)).2 = 0 then
        match takeY (wd b 3).toNat (b.drop (16 + 4 * (wd b 1).toNat)) [] with
        | .inr e => (nob, e)
        | .inl p => if 0 < p.2.length then (nob, 4) else
          if (unpacked (takeS (b.drop 16) (wd b 1)).1 (wd b 2)).2.2 = 0 then
            (if mayS ⟨(unpacked (takeS (b.drop 16) (wd b 1)).1 (wd b 2)).1, (unpacked (takeS (b.drop 16) (wd b 1)).1 (wd b 2)).2.1, p.1⟩ = 0 then (⟨(unpacked (takeS (b.drop 16) (wd b 1)).1 (wd b 2)).1, (unpacked (takeS (b.drop 16) (wd b 1)).1 (wd b 2)).2.1, p.1⟩, 0) else (nob, 6))
          else (nob, (unpacked (takeS (b.drop 16) (wd b 1)).1 (wd b 2)).2.2)
      else (nob, 3)
    else (nob, 5)
  else (nob, 3)
theorem takeS_ok {b : List Int} {n : Int} (h : (takeS b n).2 = 0) : 0 ≤ n ∧ n ≤ (b.length : Int) / 4 ∧ (takeS b n).1 = wds b n.toNat := by
  unfold takeS at h ⊢
  by_cases hc : n < 0 ∨ (b.length : Int) / 4 < n
  · rw [if_pos hc] at h; simp at h
  · rw [if_neg hc]; exact ⟨by omega, by omega, rfl⟩
theorem takeS_no {b : List Int} {n : Int} (h : ¬ (takeS b n).2 = 0) : takeS b n = ([], 3) ∧ (n < 0 ∨ (b.length : Int) / 4 < n) := by
  unfold takeS at h ⊢
  by_cases hc : n < 0 ∨ (b.length : Int) / 4 < n
  · rw [if_pos hc]; exact ⟨rfl, hc⟩
  · rw [if_neg hc] at h; simp at h
theorem wds_at {b : List Int} {n i : Nat} (h : i < n) : (wds b n).getD i 0 = wd b i := by
  unfold wds
  simp [List.getD_eq_getElem?_getD, h]
theorem take_one_is {b : List Int} (h : (takeS b 1).2 = 0) : (takeS b 1).1 = [wd b 0] := by
  rw [(takeS_ok h).2.2]; rfl
/-- The names, of the program. -/
theorem take_ys {t : List Int} {k : Nat} (hk : k ≤ 64) (ht : t.length = 4) (h3 : t.getD 3 0 = (k : Int)) : ∀ (m i : Nat) (b : List Int) (acc : List Sapi_Sym), i + m = k → acc.length = i → By b → b.length ≤ 1000000 →
    loopO (fun σ : List Sapi_Sym × List Int × Int => file_Take.b136 t σ.1 σ.2.1 σ.2.2) (acc, b, (i : Int)) = some (match takeY m b acc with | .inl p => .done (p.2, p.1) | .inr e => .ret (nob, e)) := by
  have e3 : ix (eI .u32).d t (3 : Int) = (k : Int) := h3
  intro m
  induction m with
  | zero =>
    intro i b acc hi _ _ _
    refine loopO_done ?_
    show file_Take.b136 t _ _ (i : Int) = _
    unfold file_Take.b136
    rw [e3, if_neg (by omega)]
    rfl
  | succ m ih =>
    intro i b acc hi ha hb hl
    have step : file_Take.b136 t acc b (i : Int) = some (if (takeN b).2.2 = 0 then (if (takeS (b.drop (takeN b).2.1.toNat) 1).2 = 0 then .inl (acc ++ [⟨strOfNums (takeN b).1, wd (b.drop (takeN b).2.1.toNat) 0⟩], b.drop ((takeN b).2.1.toNat + 4), ((i + 1 : Nat) : Int)) else .inr (.ret (nob, 3))) else .inr (.ret (nob, (takeN b).2.2))) := by
      unfold file_Take.b136
      rw [e3, if_pos (by omega), takename_is hb hl, Option.bind_some]
      simp only
      by_cases h0 : (takeN b).2.2 = 0
      · obtain ⟨q1, q2, p, q3, q4, q5, q6⟩ := taken_ok hb h0
        rw [if_pos h0, if_pos h0, q3, if_pos (by omega), Int.toNat_natCast, take_is (by rw [List.length_drop]; omega) (drop_by hb p), Option.bind_some]
        by_cases h1 : (takeS (b.drop p) 1).2 = 0
        · have h2 := takeS_ok h1
          have h5 : (b.drop p).length = b.length - p := List.length_drop
          have hw : Wd (wds (b.drop p) 1) := wds_wd (drop_by hb p) (by omega)
          have hw0 : 0 ≤ wd (b.drop p) 0 ∧ wd (b.drop p) 0 ≤ 4294967295 := hw _ (by simp [wds])
          have e4 : w64 (4 * 1) = 4 := rfl
          rw [if_pos h1, if_pos h1, e4, if_pos (by omega), take_one_is h1]
          unfold file_Take.j5
          have e5 : ix (eI .u32).d [wd (b.drop p) 0] (0 : Int) = wd (b.drop p) 0 := rfl
          rw [if_pos rfl, if_pos (by simp), if_pos (by simp; omega), e5, w64s (by omega) (by omega), wu32_id (by omega) (by omega), List.drop_drop]
          rfl
        · rw [if_neg h1, if_neg h1, (takeS_no h1).1]
          unfold file_Take.j5
          rw [if_neg (by simp)]
          rfl
      · rw [if_neg h0, if_neg h0]; rfl
    unfold takeY
    by_cases h0 : (takeN b).2.2 = 0
    · rw [if_pos h0] at step ⊢
      by_cases h1 : (takeS (b.drop (takeN b).2.1.toNat) 1).2 = 0
      · rw [if_pos h1] at step ⊢
        rw [loopO_next (s' := (acc ++ [⟨strOfNums (takeN b).1, wd (b.drop (takeN b).2.1.toNat) 0⟩], b.drop ((takeN b).2.1.toNat + 4), ((i + 1 : Nat) : Int))) step]
        exact ih (i + 1) _ _ (by omega) (by simp [ha]) (drop_by hb _) (by rw [List.length_drop]; omega)
      · rw [if_neg h1] at step ⊢
        rw [loopO_done (r := .ret (nob, 3)) step]
    · rw [if_neg h0] at step ⊢
      rw [loopO_done (r := .ret (nob, (takeN b).2.2)) step]
/-- The names, of the reference. -/
theorem reftake_ys {t : List Int} {k : Nat} (hk : k ≤ 64) (ht : t.length = 4) (h3 : t.getD 3 0 = (k : Int)) : ∀ (m i : Nat) (b : List Int) (acc : List Sapi_Sym), i + m = k → acc.length = i → By b → b.length ≤ 1000000 →
    loopO (fun σ : List Sapi_Sym × List Int × Int => rivetref10_Take.b108 t σ.1 σ.2.1 σ.2.2) (acc, b, (i : Int)) = some (match takeY m b acc with | .inl p => .done (p.2, p.1) | .inr e => .ret (nob, e)) := by
  have e3 : ix (eI .u32).d t (3 : Int) = (k : Int) := h3
  intro m
  induction m with
  | zero =>
    intro i b acc hi _ _ _
    refine loopO_done ?_
    show rivetref10_Take.b108 t _ _ (i : Int) = _
    unfold rivetref10_Take.b108
    rw [if_pos (by omega), e3, w64s (by omega) (by omega), if_neg (by omega)]
    rfl
  | succ m ih =>
    intro i b acc hi ha hb hl
    have step : rivetref10_Take.b108 t acc b (i : Int) = some (if (takeN b).2.2 = 0 then (if (takeS (b.drop (takeN b).2.1.toNat) 1).2 = 0 then .inl (acc ++ [⟨strOfNums (takeN b).1, wd (b.drop (takeN b).2.1.toNat) 0⟩], b.drop ((takeN b).2.1.toNat + 4), ((i + 1 : Nat) : Int)) else .inr (.ret (nob, 3))) else .inr (.ret (nob, (takeN b).2.2))) := by
      unfold rivetref10_Take.b108
      rw [if_pos (by omega), e3, w64s (x := (k : Int)) (by omega) (by omega), if_pos (by omega), reftakename_is hb hl, Option.bind_some]
      simp only
      by_cases h0 : (takeN b).2.2 = 0
      · obtain ⟨q1, q2, p, q3, q4, q5, q6⟩ := taken_ok hb h0
        rw [if_pos h0, if_pos h0, q3, if_pos (by omega), Int.toNat_natCast, reftake_is (by rw [List.length_drop]; omega) (drop_by hb p), Option.bind_some]
        by_cases h1 : (takeS (b.drop p) 1).2 = 0
        · have h2 := takeS_ok h1
          have h5 : (b.drop p).length = b.length - p := List.length_drop
          have hw : Wd (wds (b.drop p) 1) := wds_wd (drop_by hb p) (by omega)
          have hw0 : 0 ≤ wd (b.drop p) 0 ∧ wd (b.drop p) 0 ≤ 4294967295 := hw _ (by simp [wds])
          have e5 : ix (eI .u32).d [wd (b.drop p) 0] (0 : Int) = wd (b.drop p) 0 := rfl
          have e6 : w64 ((p : Int) + 4) = ((p + 4 : Nat) : Int) := by rw [w64s (by omega) (by omega)]; omega
          rw [if_pos h1, if_pos h1, take_one_is h1, if_pos (by simp), if_pos (by simp; omega), e6, if_pos (by omega), e5, w64s (by omega) (by omega), w64s (by omega) (by omega), Int.toNat_natCast]
          rfl
        · rw [if_neg h1, if_neg h1, (takeS_no h1).1]
          rfl
      · rw [if_neg h0, if_neg h0]; rfl
    unfold takeY
    by_cases h0 : (takeN b).2.2 = 0
    · rw [if_pos h0] at step ⊢
      by_cases h1 : (takeS (b.drop (takeN b).2.1.toNat) 1).2 = 0
      · rw [if_pos h1] at step ⊢
        rw [loopO_next (s' := (acc ++ [⟨strOfNums (takeN b).1, wd (b.drop (takeN b).2.1.toNat) 0⟩], b.drop ((takeN b).2.1.toNat + 4), ((i + 1 : Nat) : Int))) step]
        exact ih (i + 1) _ _ (by omega) (by simp [ha]) (drop_by hb _) (by rw [List.length_drop]; omega)
      · rw [if_neg h1] at step ⊢
        rw [loopO_done (r := .ret (nob, 3)) step]
    · rw [if_neg h0] at step ⊢
      rw [loopO_done (r := .ret (nob, (takeN b).2.2)) step]
theorem takeY_len : ∀ {m : Nat} {b : List Int} {acc : List Sapi_Sym} {p : List Sapi_Sym × List Int}, takeY m b acc = .inl p → p.1.length = acc.length + m
  | 0, b, acc, p, h => by cases h; simp
  | m + 1, b, acc, p, h => by
    unfold takeY at h
    split at h
    · split at h
      · have := takeY_len h
        simp at this
        omega
      · cases h
    · cases h
theorem up_all : ∀ {h : Nat} {out s : List Int} {p : List Int × List Int}, up h out s = some p → Wd out → Wd p.1 := by
  intro h
  induction h using Nat.strongRecOn with
  | _ h ih =>
    intro out s p hp hw
    cases h with
    | zero => rw [Go.Proofs.YtmfnololpfdfdaaDoor.C08.up_zero] at hp; cases hp; exact hw
    | succ h =>
      by_cases hc : (out.getD h 0 % 65536).toNat > h
      · rw [Go.Proofs.YtmfnololpfdfdaaDoor.C08.up_bad hc] at hp; cases hp
      · rw [Go.Proofs.YtmfnololpfdfdaaDoor.C08.up_next hc] at hp
        refine ih _ (by omega) hp ?_
        intro x hx
        rcases List.mem_or_eq_of_mem_set hx with hx | hx
        · exact hw x hx
        · have h1 : 0 ≤ out.getD h 0 ∧ out.getD h 0 ≤ 4294967295 := by
            rcases Nat.lt_or_ge h out.length with hl | hl
            · exact getD_in hw hl
            · rw [List.getD_eq_getElem?_getD, List.getElem?_eq_none hl]; simp
          rw [hx]; omega
theorem unpacked_ob {l : List Int} {h : Int} {y : List Sapi_Sym} (hw : Wd l) (hl : l.length ≤ 1000000) (hy : y.length ≤ 1000000) : Ob ⟨(unpacked l h).1, (unpacked l h).2.1, y⟩ := by
  have h1 := unpacked_len l h
  refine ⟨?_, by simp only; omega, by simp only; omega, by simp only; omega⟩
  unfold unpacked
  split
  · intro x hx; simp at hx
  · split
    · rename_i p hp
      exact up_all hp hw
    · intro x hx; simp at hx
theorem unpacked_no (l : List Int) (h : Int) : (unpacked l h).2.2 = 0 ∨ unpacked l h = ([], [], 10) := Go.Proofs.YtmfnololpfdfdaaDoor.C08.unpacked_bad l h
theorem take_isF {b : List Int} (hb : By b) (hl : b.length ≤ 1000000) : file_Take b = some (takeF b) := by
  unfold file_Take takeF
  rw [take_is hl hb, Option.bind_some]
  simp only
  have e16 : w64 (4 * 4) = 16 := rfl
  rw [e16]
  by_cases c1 : (takeS b 4).2 = 0
  · have k1 := takeS_ok c1
    rw [if_pos c1, if_pos c1, if_pos (by omega), k1.2.2, show (4 : Int).toNat = 4 from rfl, show (16 : Int).toNat = 16 from rfl]
    have hlen : (wds b 4).length = 4 := wds_length _ _
    have hw4 : Wd (wds b 4) := wds_wd hb (by omega)
    have g : ∀ i : Nat, i < 4 → ix (eI .u32).d (wds b 4) (i : Int) = wd b i := fun i hi => wds_at hi
    have gw : ∀ i : Nat, i < 4 → 0 ≤ wd b i ∧ wd b i ≤ 4294967295 := fun i hi => by rw [← wds_at (b := b) hi]; exact getD_in hw4 (by omega)
    have g0 := g 0 (by omega); have g1 := g 1 (by omega); have g2 := g 2 (by omega); have g3 := g 3 (by omega)
    simp only [Int.natCast_zero] at g0
    have g0 : ix (eI .u32).d (wds b 4) (0 : Int) = wd b 0 := g0
    have g1 : ix (eI .u32).d (wds b 4) (1 : Int) = wd b 1 := g1
    have g2 : ix (eI .u32).d (wds b 4) (2 : Int) = wd b 2 := g2
    have g3 : ix (eI .u32).d (wds b 4) (3 : Int) = wd b 3 := g3
    have w1 := gw 1 (by omega); have w2 := gw 2 (by omega); have w3 := gw 3 (by omega)
    unfold file_Take.j1
    rw [if_pos rfl, if_pos (by omega), g0]
    by_cases c2 : wd b 0 = 894847314
    · rw [if_pos c2, if_pos c2, if_pos (by omega), g1]
      by_cases c3 : 1024 < wd b 1 ∨ 64 < wd b 3
      · rw [if_pos c3]
        by_cases c4 : wd b 1 > 1024
        · rw [if_pos c4]; rfl
        · rw [if_neg c4, if_pos (by omega), g3, decide_eq_true (by omega)]; rfl
      · rw [if_neg c3, if_neg (by omega), if_pos (by omega), g3, decide_eq_false (by omega)]
        unfold file_Take.j2 file_Take.j3
        rw [if_neg (by simp), if_pos (by omega), g1, w64s (x := wd b 1) (by omega) (by omega), take_is (by rw [List.length_drop]; omega) (drop_by hb 16), Option.bind_some]
        simp only
        by_cases c5 : (takeS (b.drop 16) (wd b 1)).2 = 0
        · have k5 := takeS_ok c5
          have h5 : (b.drop 16).length = b.length - 16 := List.length_drop
          rw [if_pos c5, if_pos c5, w64s (by omega) (by omega), if_pos (by omega)]
          unfold file_Take.j4
          rw [if_pos rfl, if_pos (by omega), show (4 * wd b 1).toNat = 4 * (wd b 1).toNat by omega, List.drop_drop]
          have ys := take_ys (t := wds b 4) (k := (wd b 3).toNat) (by omega) hlen (by rw [wds_at (by omega)]; omega) (wd b 3).toNat 0 (b.drop (16 + 4 * (wd b 1).toNat)) [] (by omega) rfl (drop_by hb _) (by rw [List.length_drop]; omega)
          rw [show ((0 : Nat) : Int) = 0 from rfl] at ys
          rw [ys, Option.bind_some]
          cases hy : takeY (wd b 3).toNat (b.drop (16 + 4 * (wd b 1).toNat)) [] with
          | inr e => rfl
          | inl p =>
            have tl := takeY_len hy
            simp only [List.length_nil, Nat.zero_add] at tl
            simp only
            unfold file_Take.j6
            by_cases c6 : 0 < p.2.length
            · rw [if_pos (by omega), if_pos c6]; rfl
            · have hwl : Wd (takeS (b.drop 16) (wd b 1)).1 := by rw [k5.2.2]; exact wds_wd (drop_by hb 16) (by omega)
              have hll : (takeS (b.drop 16) (wd b 1)).1.length ≤ 1000000 := by rw [k5.2.2, wds_length]; omega
              rw [if_neg (by omega), if_neg c6, if_pos (by omega), g2, w64s (by omega) (by omega), unpack_chain _ _ (by omega) hwl, Option.bind_some]
              simp only
              rcases unpacked_no (takeS (b.drop 16) (wd b 1)).1 (wd b 2) with c7 | c7
              · rw [if_pos c7, if_pos c7, obmay_is (unpacked_ob hwl hll (by omega)), Option.bind_some]
                split <;> rfl
              · rw [c7]; rfl
        · rw [if_neg c5, if_neg c5, (takeS_no c5).1]
          unfold file_Take.j4
          rw [if_neg (by simp)]; rfl
    · rw [if_neg c2, if_neg c2]; rfl
  · rw [if_neg c1, if_neg c1, (takeS_no c1).1]
    unfold file_Take.j1
    rw [if_neg (by simp)]; rfl
theorem reftake_isF {b : List Int} (hb : By b) (hl : b.length ≤ 1000000) : rivetref10_Take b = some (takeF b) := by
  unfold rivetref10_Take takeF
  rw [reftake_is hl hb, Option.bind_some]
  simp only
  by_cases c1 : (takeS b 4).2 = 0
  · have k1 := takeS_ok c1
    rw [if_pos c1, if_pos c1, k1.2.2, show (4 : Int).toNat = 4 from rfl]
    have hlen : (wds b 4).length = 4 := wds_length _ _
    have hw4 : Wd (wds b 4) := wds_wd hb (by omega)
    have g : ∀ i : Nat, i < 4 → ix (eI .u32).d (wds b 4) (i : Int) = wd b i := fun i hi => wds_at hi
    have gw : ∀ i : Nat, i < 4 → 0 ≤ wd b i ∧ wd b i ≤ 4294967295 := fun i hi => by rw [← wds_at (b := b) hi]; exact getD_in hw4 (by omega)
    have g0 : ix (eI .u32).d (wds b 4) (0 : Int) = wd b 0 := g 0 (by omega)
    have g1 : ix (eI .u32).d (wds b 4) (1 : Int) = wd b 1 := g 1 (by omega)
    have g2 : ix (eI .u32).d (wds b 4) (2 : Int) = wd b 2 := g 2 (by omega)
    have g3 : ix (eI .u32).d (wds b 4) (3 : Int) = wd b 3 := g 3 (by omega)
    have w1 := gw 1 (by omega); have w2 := gw 2 (by omega); have w3 := gw 3 (by omega)
    rw [if_pos (by omega), g0]
    by_cases c2 : wd b 0 = 894847314
    · rw [if_pos c2, if_pos c2, if_pos (by omega), g1]
      by_cases c3 : 1024 < wd b 1 ∨ 64 < wd b 3
      · rw [if_pos c3]
        by_cases c4 : wd b 1 > 1024
        · rw [if_pos c4]; rfl
        · rw [if_neg c4, if_pos (by omega), g3, decide_eq_true (by omega)]; rfl
      · rw [if_neg c3, if_neg (by omega), if_pos (by omega), g3, decide_eq_false (by omega)]
        unfold rivetref10_Take.j1 rivetref10_Take.j2
        simp only [nm]
        rw [if_neg (by simp), if_pos (by omega), g1, w64s (x := wd b 1) (by omega) (by omega), if_pos (by omega), show (16 : Int).toNat = 16 from rfl, reftake_is (by rw [List.length_drop]; omega) (drop_by hb 16), Option.bind_some]
        by_cases c5 : (takeS (b.drop 16) (wd b 1)).2 = 0
        · have k5 := takeS_ok c5
          have h5 : (b.drop 16).length = b.length - 16 := List.length_drop
          rw [if_pos c5, if_pos c5, w64s (x := 4 * _) (by omega) (by omega), w64s (by omega) (by omega), if_pos (by omega)]
          rw [show (16 + 4 * wd b 1).toNat = 16 + 4 * (wd b 1).toNat by omega]
          have ys := reftake_ys (t := wds b 4) (k := (wd b 3).toNat) (by omega) hlen (by rw [wds_at (by omega)]; omega) (wd b 3).toNat 0 (b.drop (16 + 4 * (wd b 1).toNat)) [] (by omega) rfl (drop_by hb _) (by rw [List.length_drop]; omega)
          rw [show ((0 : Nat) : Int) = 0 from rfl] at ys
          rw [ys, Option.bind_some]
          cases hy : takeY (wd b 3).toNat (b.drop (16 + 4 * (wd b 1).toNat)) [] with
          | inr e => rfl
          | inl p =>
            have tl := takeY_len hy
            simp only [List.length_nil, Nat.zero_add] at tl
            simp only
            unfold rivetref10_Take.j3
            by_cases c6 : 0 < p.2.length
            · rw [if_pos (by omega), if_pos c6]; rfl
            · have hwl : Wd (takeS (b.drop 16) (wd b 1)).1 := by rw [k5.2.2]; exact wds_wd (drop_by hb 16) (by omega)
              have hll : (takeS (b.drop 16) (wd b 1)).1.length ≤ 1000000 := by rw [k5.2.2, wds_length]; omega
              rw [if_neg (by omega), if_neg c6, if_pos (by omega), g2, w64s (by omega) (by omega), unpack_ref _ _ (by omega) hwl, Option.bind_some]
              simp only
              rcases unpacked_no (takeS (b.drop 16) (wd b 1)).1 (wd b 2) with c7 | c7
              · rw [if_pos c7, if_pos c7, refmay_is (unpacked_ob hwl hll (by omega)), Option.bind_some]
                split <;> rfl
              · rw [c7]; rfl
        · rw [if_neg c5, if_neg c5, (takeS_no c5).1]; rfl
    · rw [if_neg c2, if_neg c2]; rfl
  · rw [if_neg c1, if_neg c1, (takeS_no c1).1]; rfl
end Go.Proofs.YtmfnololpfdfdaaDoor.F10
