/- Files: what was put is taken, and no beginning of it; what is taken was put. No condition. -/
import Derived.Test.YtmfnololpfdfdaaDoorF10e
namespace Go.Proofs.YtmfnololpfdfdaaDoor.F10
set_option linter.unusedVariables false
set_option linter.unusedSimpArgs false
open Go Go.RowKit Go.Proofs.YtmfnololpfdfdaaDoor.E Go.Proofs.YtmfnololpfdfdaaDoor.T09 Go.Proofs.YtmfnololpfdfdaaDoor.L07 Go.Proofs.YtmfnololpfdfdaaDoor.O09
open Go.Proofs.YtmfnololpfdfdaaDoor.C08 (rise Ris packed pk pk_up up_pk unpacked unpacked_some packed_some up)
/-- What comes of the words and the names behind the heads. -/
noncomputable def tailF (pw : List Int) (h : Int) (k : Nat) (Y : List Int) : Sapi_Obj × Int :=
  match takeY k Y [] with
  | .inr e => (nob, e)
  | .inl p => if 0 < p.2.length then (nob, 4) else
    if (unpacked pw h).2.2 = 0 then (if mayS ⟨(unpacked pw h).1, (unpacked pw h).2.1, p.1⟩ = 0 then (⟨(unpacked pw h).1, (unpacked pw h).2.1, p.1⟩, 0) else (nob, 6))
    else (nob, (unpacked pw h).2.2)
theorem put_wd {l r : List Int} (hl : Wd l) {i : Nat} (hi : i < l.length) : wd (putS l ++ r) i = l.getD i 0 := by
  rw [← wds_at (b := putS l ++ r) hi, wds_put l r hl]
theorem takeS_big {b : List Int} {n : Nat} (h : 4 * n ≤ b.length) : takeS b (n : Int) = (wds b n, 0) := by
  unfold takeS
  rw [if_neg (by omega)]
  rfl
theorem takeS_small {b : List Int} {n : Nat} (h : b.length < 4 * n) : takeS b (n : Int) = ([], 3) := by
  unfold takeS
  rw [if_pos (by omega)]
theorem takeF_gen {f h : Int} {n k : Nat} {b : List Int} (hf : 0 ≤ f ∧ f ≤ 4294967295) (hh : 0 ≤ h ∧ h ≤ 4294967295) (hn : n ≤ 4294967295) (hk : k ≤ 4294967295) :
    takeF (putS [f, (n : Int), h, (k : Int)] ++ b) = if f = 894847314 then (if 1024 < n ∨ 64 < k then (nob, 2) else if b.length < 4 * n then (nob, 3) else tailF (wds b n) h k (b.drop (4 * n))) else (nob, 5) := by
  have hw : Wd [f, (n : Int), h, (k : Int)] := fun x hx => by
    simp only [List.mem_cons, List.not_mem_nil, or_false] at hx
    omega
  have hl : (putS [f, (n : Int), h, (k : Int)]).length = 16 := by rw [putS_length]; rfl
  have w0 : wd (putS [f, (n : Int), h, (k : Int)] ++ b) 0 = f := put_wd hw (by simp)
  have w1 : wd (putS [f, (n : Int), h, (k : Int)] ++ b) 1 = n := put_wd hw (by simp)
  have w2 : wd (putS [f, (n : Int), h, (k : Int)] ++ b) 2 = h := put_wd hw (by simp)
  have w3 : wd (putS [f, (n : Int), h, (k : Int)] ++ b) 3 = k := put_wd hw (by simp)
  have d16 : (putS [f, (n : Int), h, (k : Int)] ++ b).drop 16 = b := by rw [← hl, List.drop_left]
  have dn : (putS [f, (n : Int), h, (k : Int)] ++ b).drop (16 + 4 * n) = b.drop (4 * n) := by rw [← List.drop_drop, d16]
  unfold takeF
  rw [show (4 : Int) = ((4 : Nat) : Int) from rfl, takeS_big (by rw [List.length_append, hl]; omega), if_pos rfl, w0, w1, w2, w3, d16, Int.toNat_natCast, Int.toNat_natCast, dn]
  by_cases c1 : f = 894847314
  · rw [if_pos c1, if_pos c1]
    by_cases c2 : 1024 < n ∨ 64 < k
    · rw [if_pos (by omega), if_pos c2]
    · rw [if_neg (by omega), if_neg c2]
      by_cases c3 : b.length < 4 * n
      · rw [takeS_small c3, if_neg (by simp), if_pos c3]
      · rw [takeS_big (by omega), if_pos rfl, if_neg c3]
        rfl
  · rw [if_neg c1, if_neg c1]
theorem takeF_short {b : List Int} (h : b.length < 16) : takeF b = (nob, 3) := by
  unfold takeF
  rw [show (4 : Int) = ((4 : Nat) : Int) from rfl, takeS_small (by omega), if_neg (by simp)]
/-! ### names -/
/-- What is known of a name with its place. -/
structure SyOk (s : Sapi_Sym) : Prop where
  nm : nameS (bytesL s.Name) = true
  at0 : 0 ≤ s.At
  at1 : s.At ≤ 4294967295
theorem SyOk.cut {s : Sapi_Sym} (h : SyOk s) (r : List Int) : takeN (symB s ++ r) = (bytesL s.Name, ((padS (bytesL s.Name)).length : Int), 0) ∧ (symB s ++ r).drop (padS (bytesL s.Name)).length = putS [s.At] ++ r ∧ (symB s ++ r).drop ((padS (bytesL s.Name)).length + 4) = r := by
  have e : wu32 s.At = s.At := wu32_id h.at0 h.at1
  have e2 : symB s ++ r = padS (bytesL s.Name) ++ (putS [s.At] ++ r) := by unfold symB; rw [e, List.append_assoc]
  refine ⟨by rw [e2, takeN_put h.nm], by rw [e2, List.drop_left], ?_⟩
  rw [← List.drop_drop, e2, List.drop_left]
  exact List.drop_left' (by rw [putS_length]; rfl)
theorem takeY_put : ∀ {l : List Sapi_Sym} {r : List Int} {acc : List Sapi_Sym}, (∀ s ∈ l, SyOk s) → takeY l.length (symsB l ++ r) acc = .inl (acc ++ l, r)
  | [], r, acc, _ => by simp [takeY, symsB]
  | s :: l, r, acc, h => by
    have hs := h s (by simp)
    have e : symsB (s :: l) ++ r = symB s ++ (symsB l ++ r) := by unfold symsB; rw [List.flatMap_cons, List.append_assoc]
    obtain ⟨h1, h2, h3⟩ := hs.cut (symsB l ++ r)
    have hw : Wd [s.At] := fun x hx => by rw [List.mem_singleton.1 hx]; exact ⟨hs.at0, hs.at1⟩
    rw [List.length_cons, takeY, e, h1]
    simp only
    rw [if_pos trivial, Int.toNat_natCast, h2, h3, show (1 : Int) = ((1 : Nat) : Int) from rfl, takeS_big (by rw [List.length_append, putS_length, List.length_singleton]; omega), if_pos rfl, put_wd hw (by simp), nums_bytesL, takeY_put (fun x hx => h x (List.mem_cons_of_mem _ hx)), List.append_assoc]
    rfl
theorem takeY_short : ∀ {l : List Sapi_Sym} {j : Nat} {acc : List Sapi_Sym}, (∀ s ∈ l, SyOk s) → j < (symsB l).length → takeY l.length ((symsB l).take j) acc = .inr 3
  | [], j, acc, _, hj => by simp [symsB] at hj
  | s :: l, j, acc, h, hj => by
    have hs := h s (by simp)
    have e : symsB (s :: l) = symB s ++ symsB l := by unfold symsB; rw [List.flatMap_cons]
    have eb : symB s = padS (bytesL s.Name) ++ putS [s.At] := by unfold symB; rw [wu32_id hs.at0 hs.at1]
    have el : (symB s).length = (padS (bytesL s.Name)).length + 4 := by rw [eb, List.length_append, putS_length]; rfl
    rw [e, List.length_append] at hj
    rw [List.length_cons, takeY, e]
    by_cases c1 : j < (padS (bytesL s.Name)).length
    · have : (symB s ++ symsB l).take j = (padS (bytesL s.Name)).take j := by rw [List.take_append_of_le_length (by omega), eb, List.take_append_of_le_length (by omega)]
      have k := takeN_short c1
      rw [this, k]
      rfl
    · by_cases c2 : j < (symB s).length
      · have : (symB s ++ symsB l).take j = padS (bytesL s.Name) ++ (putS [s.At]).take (j - (padS (bytesL s.Name)).length) := by rw [List.take_append_of_le_length (by omega), eb, List.take_append, List.take_of_length_le (l := padS _) (by omega)]
        rw [this, takeN_put hs.nm]
        simp only
        rw [if_pos trivial, Int.toNat_natCast, List.drop_left, show (1 : Int) = ((1 : Nat) : Int) from rfl, takeS_small (by rw [List.length_take]; omega), if_neg (by simp)]
      · have : (symB s ++ symsB l).take j = symB s ++ (symsB l).take (j - (symB s).length) := by rw [List.take_append, List.take_of_length_le (by omega)]
        obtain ⟨h1, h2, h3⟩ := hs.cut ((symsB l).take (j - (symB s).length))
        rw [this, h1]
        simp only
        rw [if_pos trivial, Int.toNat_natCast, h2, h3, show (1 : Int) = ((1 : Nat) : Int) from rfl, takeS_big (by rw [List.length_append, putS_length, List.length_singleton]; omega), if_pos rfl]
        exact takeY_short (fun x hx => h x (List.mem_cons_of_mem _ hx)) (by omega)
theorem takeY_was : ∀ {m : Nat} {b : List Int} {acc : List Sapi_Sym} {p : List Sapi_Sym × List Int}, By b → takeY m b acc = .inl p → ∃ l, p.1 = acc ++ l ∧ l.length = m ∧ b = symsB l ++ p.2 ∧ By p.2
  | 0, b, acc, p, hb, h => by cases h; exact ⟨[], by simp, rfl, by simp [symsB], hb⟩
  | m + 1, b, acc, p, hb, h => by
    unfold takeY at h
    by_cases h0 : (takeN b).2.2 = 0
    · rw [if_pos h0] at h
      obtain ⟨q1, q2, k, q3, q4, q5, q6⟩ := taken_ok hb h0
      rw [q3, Int.toNat_natCast] at h
      by_cases h1 : (takeS (b.drop k) 1).2 = 0
      · rw [if_pos h1] at h
        have h2 := takeS_ok h1
        have h5 : (b.drop k).length = b.length - k := List.length_drop
        obtain ⟨l, r1, r2, r3, r4⟩ := takeY_was (drop_by hb _) h
        have hw : Wd (wds (b.drop k) 1) := wds_wd (drop_by hb k) (by omega)
        have hw0 : 0 ≤ wd (b.drop k) 0 ∧ wd (b.drop k) 0 ≤ 4294967295 := hw _ (by simp [wds])
        refine ⟨⟨strOfNums (takeN b).1, wd (b.drop k) 0⟩ :: l, by rw [r1]; simp, by simp [r2], ?_, r4⟩
        have e : symsB (⟨strOfNums (takeN b).1, wd (b.drop k) 0⟩ :: l) = symB ⟨strOfNums (takeN b).1, wd (b.drop k) 0⟩ ++ symsB l := by unfold symsB; rw [List.flatMap_cons]
        have e2 : symB ⟨strOfNums (takeN b).1, wd (b.drop k) 0⟩ = b.take k ++ (b.drop k).take 4 := by
          unfold symB
          simp only
          rw [bytesL_nums q2, q6, wu32_id hw0.1 hw0.2]
          have := put_wds (drop_by hb k) 1 (by omega)
          rw [show wds (b.drop k) 1 = [wd (b.drop k) 0] from rfl] at this
          rw [this]
        rw [e, e2, List.append_assoc, List.append_assoc, ← r3, ← List.drop_drop, List.take_append_drop, List.take_append_drop]
      · rw [if_neg h1] at h; cases h
    · rw [if_neg h0] at h; cases h
theorem takeY_err : ∀ {m : Nat} {b : List Int} {acc : List Sapi_Sym} {e : Int}, takeY m b acc = .inr e → e = 3 ∨ e = 9 ∨ e = 6
  | 0, b, acc, e, h => by cases h
  | m + 1, b, acc, e, h => by
    unfold takeY at h
    by_cases h0 : (takeN b).2.2 = 0
    · rw [if_pos h0] at h
      by_cases h1 : (takeS (b.drop (takeN b).2.1.toNat) 1).2 = 0
      · rw [if_pos h1] at h; exact takeY_err h
      · rw [if_neg h1] at h; cases h; exact .inl rfl
    · rw [if_neg h0] at h
      have := (taken_no h0).2.2
      cases h
      omega
/-! ### whole files -/
theorem MayOk.syok {o : Sapi_Obj} (h : MayOk o) : ∀ s ∈ o.Syms, SyOk s := fun s hs => by
  have h1 := h.at' s hs
  have h2 := h.wl
  unfold atOk at h1
  rw [decide_eq_true_eq] at h1
  exact ⟨h.nm s hs, by omega, by omega⟩
theorem pk_unpacked {n : Nat} (hn : n ≤ 65535) {s w : List Int} {p : List Int × Int} (hp : pk s w 0 = some p) (hs : Ris 0 n s) (hw : Go.Proofs.YtmfnololpfdfdaaDoor.C08.Good n w 0) (hg : Go.Proofs.YtmfnololpfdfdaaDoor.C08.Good n p.1 p.2) (hle : p.2 ≤ n) : unpacked p.1 p.2 = (w, s, 0) := by
  have h1 := pk_up hn [] hp hs hw
  rw [List.append_nil, show (0 : Int).toNat = 0 from rfl, Go.Proofs.YtmfnololpfdfdaaDoor.C08.up_zero] at h1
  have h0 := hg.h0
  have hl := hg.len
  have := unpacked_some (l := p.1) (h := p.2.toNat) (p := (w, s)) (by omega) h1
  rwa [Int.toNat_of_nonneg h0] at this
/-- The heads of a file. -/
theorem bytesF_is {o : Sapi_Obj} (h : MayOk o) (hw : Wd o.Words) : ∃ p : List Int × Int, ∃ hd : Nat, p.2 = (hd : Int) ∧ hd ≤ o.Words.length ∧ p.1.length = o.Words.length ∧ Wd p.1 ∧ unpacked p.1 (hd : Int) = (o.Words, o.Sites, 0) ∧ packed o.Words o.Sites = (p.1, (hd : Int), 0) ∧ bytesF o = putS [894847314, (o.Words.length : Int), (hd : Int), (o.Syms.length : Int)] ++ (putS p.1 ++ symsB o.Syms) := by
  have hwl := h.wl
  have hyl := h.yl
  obtain ⟨p, hp, hpk⟩ := h.packed
  obtain ⟨g1, g2⟩ := h.good hw hp
  have h0 := g1.h0
  have e : p.2 = ((p.2.toNat : Nat) : Int) := by omega
  refine ⟨p, p.2.toNat, e, by omega, g1.len, g1.all, ?_, by rw [← e]; exact hpk, ?_⟩
  · rw [← e]
    exact pk_unpacked (n := o.Words.length) (by omega) hp h.ris ⟨rfl, hw, by omega, by omega⟩ g1 g2
  · unfold bytesF
    rw [hpk]
    simp only
    rw [wu32_id (x := (o.Words.length : Int)) (by omega) (by omega), wu32_id (x := p.2) (by omega) (by omega), wu32_id (x := (o.Syms.length : Int)) (by omega) (by omega), List.append_assoc, ← e]
    rfl
theorem take_put {o : Sapi_Obj} (h : MayOk o) (hw : Wd o.Words) (r : List Int) : takeF (bytesF o ++ r) = if r = [] then (o, 0) else (nob, 4) := by
  have hwl := h.wl
  have hyl := h.yl
  obtain ⟨p, hd, h1, h2, h3, h4, h5, h6, h7⟩ := bytesF_is h hw
  have hpl : (putS p.1).length = 4 * o.Words.length := by rw [putS_length, h3]
  rw [h7, List.append_assoc, takeF_gen (by omega) (by omega) (by omega) (by omega), if_pos rfl, if_neg (by omega), if_neg (by rw [List.length_append, List.length_append, hpl]; omega)]
  have e1 : wds (putS p.1 ++ symsB o.Syms ++ r) o.Words.length = p.1 := by rw [← h3, List.append_assoc, wds_put _ _ h4]
  have e2 : (putS p.1 ++ symsB o.Syms ++ r).drop (4 * o.Words.length) = symsB o.Syms ++ r := by rw [← hpl, List.append_assoc, List.drop_left]
  unfold tailF
  rw [e1, e2, takeY_put h.syok]
  simp only
  rw [h5]
  by_cases hr : r = []
  · subst hr
    rw [if_neg (by simp), if_pos rfl, if_pos rfl, List.nil_append]
    have : (⟨o.Words, o.Sites, o.Syms⟩ : Sapi_Obj) = o := rfl
    simp only [this]
    rw [if_pos h.may]
  · rw [if_neg hr, if_pos (by cases r with | nil => exact absurd rfl hr | cons a r => simp)]
theorem take_prefix {o : Sapi_Obj} (h : MayOk o) (hw : Wd o.Words) {i : Nat} (hi : i < (bytesF o).length) : takeF ((bytesF o).take i) = (nob, 3) := by
  have hwl := h.wl
  have hyl := h.yl
  obtain ⟨p, hd, h1, h2, h3, h4, h5, h6, h7⟩ := bytesF_is h hw
  have hpl : (putS p.1).length = 4 * o.Words.length := by rw [putS_length, h3]
  have h16 : (putS [894847314, (o.Words.length : Int), (hd : Int), (o.Syms.length : Int)]).length = 16 := by rw [putS_length]; rfl
  rw [h7] at hi ⊢
  rw [List.length_append, List.length_append, h16, hpl] at hi
  by_cases c1 : i < 16
  · exact takeF_short (by rw [List.length_take]; omega)
  · rw [List.take_append, List.take_of_length_le (by omega), h16, takeF_gen (by omega) (by omega) (by omega) (by omega), if_pos rfl, if_neg (by omega)]
    by_cases c2 : i - 16 < 4 * o.Words.length
    · rw [if_pos (by rw [List.length_take]; omega)]
    · rw [if_neg (by rw [List.length_take, List.length_append, hpl]; omega)]
      have e2 : ((putS p.1 ++ symsB o.Syms).take (i - 16)).drop (4 * o.Words.length) = (symsB o.Syms).take (i - 16 - 4 * o.Words.length) := by
        rw [List.take_append, List.take_of_length_le (by omega), ← hpl, List.drop_left]
      unfold tailF
      rw [e2, takeY_short h.syok (by omega)]
/-- What is taken was put. -/
theorem taken_put {b : List Int} (hb : By b) {o : Sapi_Obj} (h : takeF b = (o, 0)) : MayOk o ∧ Wd o.Words ∧ bytesF o = b := by
  unfold takeF at h
  by_cases c1 : (takeS b 4).2 = 0
  · have k1 := takeS_ok c1
    rw [if_pos c1] at h
    have gw : ∀ i : Nat, i < 4 → 0 ≤ wd b i ∧ wd b i ≤ 4294967295 := fun i hi => by rw [← wds_at (b := b) hi]; exact getD_in (wds_wd hb (n := 4) (by omega)) (by rw [wds_length]; exact hi)
    by_cases c2 : wd b 0 = 894847314
    · rw [if_pos c2] at h
      by_cases c3 : 1024 < wd b 1 ∨ 64 < wd b 3
      · rw [if_pos c3] at h
        have := congrArg Prod.snd h
        simp at this
      · rw [if_neg c3] at h
        have w1 := gw 1 (by omega); have w2 := gw 2 (by omega); have w3 := gw 3 (by omega)
        by_cases c5 : (takeS (b.drop 16) (wd b 1)).2 = 0
        · have k5 := takeS_ok c5
          have l16 : (b.drop 16).length = b.length - 16 := List.length_drop
          rw [if_pos c5] at h
          cases hy : takeY (wd b 3).toNat (b.drop (16 + 4 * (wd b 1).toNat)) [] with
          | inr e =>
            rw [hy] at h
            have := takeY_err hy
            have e1 := congrArg Prod.snd h
            simp only at e1
            omega
          | inl q =>
            rw [hy] at h
            simp only at h
            by_cases c6 : 0 < q.2.length
            · rw [if_pos c6] at h
              have := congrArg Prod.snd h
              simp at this
            · rw [if_neg c6] at h
              rcases unpacked_no (takeS (b.drop 16) (wd b 1)).1 (wd b 2) with c7 | c7
              · rw [if_pos c7] at h
                by_cases c8 : mayS ⟨(unpacked (takeS (b.drop 16) (wd b 1)).1 (wd b 2)).1, (unpacked (takeS (b.drop 16) (wd b 1)).1 (wd b 2)).2.1, q.1⟩ = 0
                · rw [if_pos c8] at h
                  have h := (Prod.mk.inj h).1
                  rw [h] at c8
                  have hm := may_elim c8
                  obtain ⟨l, r1, r2, r3, r4⟩ := takeY_was (drop_by hb _) hy
                  have hq : q.2 = [] := List.eq_nil_of_length_eq_zero (by omega)
                  rw [List.nil_append] at r1
                  rw [hq, List.append_nil, ← r1] at r3
                  have hwl : Wd (takeS (b.drop 16) (wd b 1)).1 := by rw [k5.2.2]; exact wds_wd (drop_by hb 16) (by omega)
                  have hll : (takeS (b.drop 16) (wd b 1)).1.length = (wd b 1).toNat := by rw [k5.2.2, wds_length]
                  generalize hP : (takeS (b.drop 16) (wd b 1)).1 = P at *
                  have hun : ¬ (wd b 2 < 0 ∨ wd b 2 > (P.length : Int)) := fun hc => by
                    unfold unpacked at c7
                    rw [if_pos hc] at c7
                    simp at c7
                  have hup : ∃ z, up (wd b 2).toNat P [] = some z ∧ unpacked P (wd b 2) = (z.1, z.2, 0) := by
                    cases hz : up (wd b 2).toNat P [] with
                    | none =>
                      unfold unpacked at c7
                      rw [if_neg hun, hz] at c7
                      simp at c7
                    | some z =>
                      refine ⟨z, rfl, ?_⟩
                      unfold unpacked
                      rw [if_neg hun, hz]
                  obtain ⟨z, hz, hz2⟩ := hup
                  obtain ⟨pre, p1, p2, p3⟩ := up_pk hz hwl (by omega)
                  rw [List.append_nil] at p1
                  rw [hz2] at h
                  have eW : o.Words = z.1 := by rw [← h]
                  have eS : o.Sites = pre := by rw [← h, ← p1]
                  have eY : o.Syms = q.1 := by rw [← h]
                  have hWd : Wd o.Words := by rw [eW]; exact up_all hz hwl
                  have hlen : o.Words.length = (wd b 1).toNat := by rw [eW, Go.Proofs.YtmfnololpfdfdaaDoor.C08.up_len1 hz, hll]
                  refine ⟨hm, hWd, ?_⟩
                  obtain ⟨p, hd, a1, a2, a3, a4, a5, a6, a7⟩ := bytesF_is hm hWd
                  have hpk2 : pk o.Sites o.Words 0 = some (P, ((wd b 2).toNat : Int)) := by rw [eW, eS]; exact p3
                  have hpp := packed_some hpk2 hm.ris.up fun x hx => by have := hm.ris.lo x hx; have := hm.ris.hi x hx; have := hm.wl; omega
                  rw [a6] at hpp
                  have hp1 : p.1 = P := (Prod.mk.inj hpp).1
                  have hp2 : (hd : Int) = wd b 2 := by
                    have := (Prod.mk.inj (Prod.mk.inj hpp).2).1
                    simp only at this
                    omega
                  have hyl2 : (o.Syms.length : Int) = wd b 3 := by rw [eY, r1, r2]; omega
                  rw [a7, hp1, hp2, hyl2, eY, ← r3, hlen, show (((wd b 1).toNat : Nat) : Int) = wd b 1 by omega]
                  have hh : putS [894847314, wd b 1, wd b 2, wd b 3] = b.take 16 := by
                    have := put_wds hb 4 (by omega)
                    rw [show wds b 4 = [wd b 0, wd b 1, wd b 2, wd b 3] from rfl, c2] at this
                    exact this
                  have hpw : putS P = (b.drop 16).take (4 * (wd b 1).toNat) := by
                    rw [k5.2.2]
                    exact put_wds (drop_by hb 16) _ (by omega)
                  rw [hh, hpw, ← List.drop_drop, List.take_append_drop, List.take_append_drop]
                · rw [if_neg c8] at h
                  have := congrArg Prod.snd h
                  simp at this
              · rw [c7] at h
                have := congrArg Prod.snd h
                simp at this
        · rw [if_neg c5] at h
          have := congrArg Prod.snd h
          simp at this
    · rw [if_neg c2] at h
      have := congrArg Prod.snd h
      simp at this
  · rw [if_neg c1] at h
    have := congrArg Prod.snd h
    simp at this
theorem taken_err {b : List Int} : (takeF b).2 = 0 ∨ (takeF b).1 = nob ∧ (takeF b).2 ≠ 7 ∧ (takeF b).2 ≠ 8 := by
  unfold takeF
  split
  · split
    · split
      · exact .inr ⟨rfl, by decide, by decide⟩
      · split
        · split
          · rename_i e he
            have := takeY_err he
            exact .inr ⟨rfl, by simp only; omega, by simp only; omega⟩
          · split
            · exact .inr ⟨rfl, by decide, by decide⟩
            · split
              · split
                · exact .inl rfl
                · exact .inr ⟨rfl, by decide, by decide⟩
              · rename_i hc
                rcases unpacked_no (takeS (b.drop 16) (wd b 1)).1 (wd b 2) with c7 | c7
                · exact absurd c7 hc
                · rw [c7]; exact .inr ⟨rfl, by decide, by decide⟩
        · exact .inr ⟨rfl, by decide, by decide⟩
    · exact .inr ⟨rfl, by decide, by decide⟩
  · exact .inr ⟨rfl, by decide, by decide⟩
theorem bytesF_len {o : Sapi_Obj} (h : MayOk o) (hw : Wd o.Words) : (bytesF o).length ≤ 5500 ∧ 16 ≤ (bytesF o).length ∧ (bytesF o).length % 4 = 0 := by
  have hwl := h.wl
  have hyl := h.yl
  obtain ⟨p, hd, h1, h2, h3, h4, h5, h6, h7⟩ := bytesF_is h hw
  have h8 := symsB_len h.nm
  have h9 : ∀ l : List Sapi_Sym, (symsB l).length % 4 = 0 := by
    intro l
    induction l with
    | nil => rfl
    | cons s l ih =>
      have e : symsB (s :: l) = symB s ++ symsB l := by unfold symsB; rw [List.flatMap_cons]
      have e2 : (symB s).length % 4 = 0 := by unfold symB; rw [List.length_append, padS_length, putS_length, List.length_singleton]; omega
      rw [e, List.length_append]; omega
  have h10 := h9 o.Syms
  rw [h7, List.length_append, List.length_append, putS_length, putS_length, h3]
  simp only [List.length_cons, List.length_nil]
  omega
theorem by_append {a b : List Int} (ha : By a) (hb : By b) : By (a ++ b) := fun x hx => (List.mem_append.1 hx).elim (ha x) (hb x)
theorem symB_by {s : Sapi_Sym} (h : nameS (bytesL s.Name) = true) : By (symB s) := by_append (padS_by (bytesL_by _) (by have := nameS_len h; omega)) (putS_by _)
theorem symsB_by : ∀ {l : List Sapi_Sym}, (∀ s ∈ l, nameS (bytesL s.Name) = true) → By (symsB l)
  | [], _ => by intro x hx; simp [symsB] at hx
  | s :: l, h => by
    have e : symsB (s :: l) = symB s ++ symsB l := by unfold symsB; rw [List.flatMap_cons]
    rw [e]
    exact by_append (symB_by (h s (by simp))) (symsB_by fun x hx => h x (List.mem_cons_of_mem _ hx))
theorem bytesF_by {o : Sapi_Obj} (h : MayOk o) : By (bytesF o) := by
  unfold bytesF
  exact by_append (by_append (putS_by _) (putS_by _)) (symsB_by h.nm)
/-! ### the document's example -/
theorem shown_is : rivetlaw10_shown = some true := by
  have hob : Ob ⟨[7], [], []⟩ := ⟨fun x hx => by rw [List.mem_singleton.1 hx]; omega, by simp, by simp, by simp⟩
  have hm : mayS ⟨[7], [], []⟩ = 0 := by decide +kernel
  have h := may_elim hm
  have e : bytesF ⟨[7], [], []⟩ = putS [894847314, 1, 0, 0, 7] := by decide +kernel
  have hb : By (bytesF ⟨[7], [], []⟩) := by rw [e]; exact putS_by _
  have ht := take_put h hob.w []
  rw [List.append_nil, if_pos rfl] at ht
  have hw5 : Wd [894847314, 1, 0, 0, 7] := fun x hx => by
    simp only [List.mem_cons, List.not_mem_nil, or_false] at hx
    omega
  unfold rivetlaw10_shown
  rw [put_isF hob, Option.bind_some]
  unfold putF
  rw [if_pos hm]
  simp only
  rw [take_isF hb (by rw [e, putS_length]; decide), Option.bind_some, ht]
  simp only
  rw [put_is (by decide) hw5, Option.bind_some, ← e, if_pos (by simp), if_pos (by rw [e, putS_length]; rfl)]
  rfl
end Go.Proofs.YtmfnololpfdfdaaDoor.F10
