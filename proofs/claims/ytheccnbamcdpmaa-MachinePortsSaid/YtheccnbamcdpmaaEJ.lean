/- The engine's words, nineteenth part: open orders of quiet operations, new variables and what is stored in them: the proof. No condition. -/
import Derived.Test.YtheccnbamcdpmaaEI
namespace Go.Proofs.Ytheccnbamcdpmaa.E
set_option linter.unusedVariables false
set_option linter.unusedSimpArgs false
open Go Go.RowKit Go.Proofs.YtheccnbamcdpmaaW.PrintLast
section
variable {P : Program} {ops : Array Oper} {Q : Exit → Act → World → Prop} {n : Nat} {w w' wR : World} {a0 a a' : Act} {hv : HV} {js : List AJ} {l : Array Bool} {ad : Nat → Addr} {L1 : SL} {o : Oper} {v : Value} {i : Nat}
theorem evD_of {L : SL} {x : Operand} {v : Value} (h : ev L x = some v) : evD L x = v := by unfold evD; rw [h]
theorem nodup_inj {α : Type} {β : Type 1} {f : β → α} : ∀ {l : List β}, (l.map f).Nodup → ∀ x ∈ l, ∀ y ∈ l, f x = f y → x = y
  | [], _, x, hx, _, _, _ => by cases hx
  | z :: r, h, x, hx, y, hy, e => by
    have hn := List.nodup_cons.1 (show (f z :: r.map f).Nodup from h)
    rcases List.mem_cons.1 hx with e1 | e1 <;> rcases List.mem_cons.1 hy with e2 | e2
    · rw [e1, e2]
    · subst e1; exact absurd (List.mem_map.2 ⟨y, e2, e.symm⟩) hn.1
    · subst e2; exact absurd (List.mem_map.2 ⟨x, e1, e⟩) hn.1
    · exact nodup_inj hn.2 x e1 y e2 e
theorem nodup_inj0 {α β : Type} {f : β → α} : ∀ {l : List β}, (l.map f).Nodup → ∀ x ∈ l, ∀ y ∈ l, f x = f y → x = y
  | [], _, x, hx, _, _, _ => by cases hx
  | z :: r, h, x, hx, y, hy, e => by
    have hn := List.nodup_cons.1 (show (f z :: r.map f).Nodup from h)
    rcases List.mem_cons.1 hx with e1 | e1 <;> rcases List.mem_cons.1 hy with e2 | e2
    · rw [e1, e2]
    · subst e1; exact absurd (List.mem_map.2 ⟨y, e2, e.symm⟩) hn.1
    · subst e2; exact absurd (List.mem_map.2 ⟨x, e1, e⟩) hn.1
    · exact nodup_inj0 hn.2 x e1 y e2 e
theorem getD_eq (hs : a.tmps.size = n) (hs' : a'.tmps.size = n) {t : Nat} (h : a.tmps.getD t undef = a'.tmps.getD t undef) : a.tmps[t]? = a'.tmps[t]? := by
  by_cases ht : t < n
  · simp only [Array.getD_eq_getD_getElem?] at h
    rw [Array.getElem?_eq_getElem (by omega), Array.getElem?_eq_getElem (by omega)] at h ⊢
    simpa using h
  · rw [Array.getElem?_eq_none (by omega), Array.getElem?_eq_none (by omega)]
theorem Yq.same (hy : Yq P ops wR o v a') (ho : ops[i]? = some o) (hsel : ∀ cs b, o.op ≠ .select cs b) (hs : a.tmps.size = n) (hs' : a'.tmps.size = n) (h : ∀ t ∈ lookOf ops i, a.tmps.getD t undef = a'.tmps.getD t undef) : Yq P ops wR o v a := by
  have hl : lookOf ops i = o.looksAt ops := by unfold lookOf; rw [ho]
  rw [hl] at h
  unfold Oper.looksAt at h
  have e1 : execOp a.eval o = execOp a'.eval o := by
    refine execOp_congr o hsel fun x hx => ?_
    cases x with
    | tmp t =>
      refine h t (List.mem_append_left _ ?_)
      rw [List.mem_filterMap]
      exact ⟨.tmp t, Array.mem_toList_iff.2 hx, rfl⟩
    | const u => rfl
    | global u => rfl
    | func u => rfl
  have e2 : Region.wanted o (yielded ops a.tmps) = Region.wanted o (yielded ops a'.tmps) := by
    unfold Region.wanted
    split
    · rfl
    · rename_i g b hg
      have : yielded ops a.tmps g = yielded ops a'.tmps g := by
        unfold yielded
        cases hd : (ops[g]?).bind (·.dst) with
        | none => rfl
        | some d =>
          have hm : a.tmps.getD d undef = a'.tmps.getD d undef := by
            refine h d (List.mem_append_right _ ?_)
            rw [hg]
            simp [hd]
          simp only [Option.bind_some]
          rw [getD_eq hs hs' hm]
      rw [this]
  unfold Yq Oper.quietAt at *
  rw [e1, e2]
  exact hy
theorem wpOp_yq (ho : ops[i]? = some o) (hy : Yq P ops wR o v a) (hb : Below wR.heap.size wR w') {K : Act → World → Prop} (hK : ∀ w'', Below w'.heap.size w' w'' → K (a.put o.dst v) w'') : wpOp P ops Q i K a w' := by
  unfold wpOp
  rw [ho]
  simp only
  rcases hy with ⟨hw, h1⟩ | ⟨hw, rfl⟩
  · rw [if_pos hw]
    refine .inl ?_
    have h3 := h1 w' hb
    unfold Oper.quietAt at h3
    unfold Oper.wp
    generalize (execOp a.eval o).run P w' = r at *
    cases r with
    | ok nx w1 =>
      cases nx <;> simp only [Oper.quietUpon] at h3 <;> simp only [Oper.upon]
      case value u =>
        obtain ⟨e1, e2⟩ := h3
        rw [e1, e2]
        exact hK _ (Below.refl _ _)
      case skip =>
        obtain ⟨e1, e2⟩ := h3
        rw [e1, ← e2]
        exact hK _ (Below.refl _ _)
      case enter f args =>
        obtain ⟨e1, hc⟩ := h3
        rw [e1]
        exact hc.mono fun e w'' ⟨he, hw''⟩ => by subst he; exact hK _ hw''
    | halt x w1 => simp only [Oper.quietUpon] at h3
  · rw [if_neg (by rw [hw]; simp)]
    exact hK _ (Below.refl _ _)
theorem St.emp {G : List Nat} {w0 : World} {As : List Asn} (h : St G w0 w ((fun L => L = []) :: As)) : St G w0 w As := by
  obtain ⟨L, ⟨L1, L2, rfl, ha, hr⟩, hs⟩ := h
  have ha : L1 = [] := ha
  subst ha
  exact ⟨_, hr, by simpa using hs⟩
/-- What was checked. -/
structure UOk (ops : Array Oper) (n : Nat) (hv : HV) (js : List AJ) : Prop where
  sel : Region.noSelect ops = true
  back : ∀ k o, ops[k]? = some o → ∀ e ∈ o.after, Region.binds .any e = true → e.on < k
  nd : (hv.map Prod.fst ++ (js.map AJ.i ++ js.map AJ.s)).Nodup
  all : ∀ k, k < ops.size → k ∈ hv.map Prod.fst ++ (js.map AJ.i ++ js.map AJ.s)
  lt : ∀ k ∈ hv.map Prod.fst ++ (js.map AJ.i ++ js.map AJ.s), k < ops.size
  sole : Sole ops hv
  dlt : ∀ p ∈ hv, ∀ d, dstOf ops p.1 = some d → d < n ∧ ∀ j ∈ js, j.d ≠ d
  dnd : (js.map AJ.d).Nodup
  rd : ∀ p q i v, hv = p ++ (i, v) :: q → ∀ t ∈ lookOf ops i, (∀ j ∈ js, j.d ≠ t) ∧ ∀ x ∈ hv, dstOf ops x.1 = some t → (x.1 ∈ p.map Prod.fst ∧ x.1 ∈ aftOf ops i) ∨ (x.1 ∉ p.map Prod.fst ∧ i ∈ aftOf ops x.1)
  sti : ∀ j ∈ js, j.i ∈ aftOf ops j.s
  sty : ∀ j ∈ js, ∀ t, j.y = .tmp t → (∀ j' ∈ js, j'.d ≠ t) ∧ ∀ x ∈ hv, dstOf ops x.1 = some t → x.1 ∈ aftOf ops j.s
theorem aft_mem {k m : Nat} (h : m ∈ aftOf ops k) : ∃ o, ops[k]? = some o ∧ ∃ e ∈ o.after, Region.binds .any e = true ∧ e.on = m := by
  unfold aftOf at h
  split at h
  · rename_i o ho
    obtain ⟨e, he, rfl⟩ := List.mem_map.1 h
    obtain ⟨h1, h2⟩ := List.mem_filter.1 he
    exact ⟨o, ho, e, Array.mem_toList_iff.1 h1, by simpa using h2, rfl⟩
  · cases h
theorem uok_of {hd : List Nat} (h : uRegB ops n hd (js.map AJ.q) = true) (he : hv.map Prod.fst = hd) : UOk ops n hv js := by
  subst he
  have m1 : (js.map AJ.q).map (·.1) = js.map AJ.i := by rw [List.map_map]; rfl
  have m2 : (js.map AJ.q).map (·.2.1) = js.map AJ.s := by rw [List.map_map]; rfl
  have m3 : (js.map AJ.q).map (·.2.2.1) = js.map AJ.d := by rw [List.map_map]; rfl
  simp only [uRegB, m1, m2, m3, Bool.and_eq_true] at h
  obtain ⟨⟨⟨⟨⟨⟨⟨⟨⟨h1, h2⟩, h3⟩, h4⟩, h5⟩, h6⟩, h7⟩, h8⟩, h9⟩, h10⟩ := h
  have hnd := ndB_ok h3
  have hlt : ∀ k ∈ hv.map Prod.fst ++ (js.map AJ.i ++ js.map AJ.s), k < ops.size := by
    intro k hk
    have := List.all_eq_true.1 h5 k hk
    simpa [Nat.blt_eq] using this
  have hsole := soleB_at h6
  refine ⟨h1, ?_, hnd, (fun k hk => by simpa using List.all_eq_true.1 h4 k (List.mem_range.2 hk)), hlt, ⟨(List.nodup_append.1 hnd).1, fun p hp q hq t => hsole p.1 (List.mem_map.2 ⟨p, hp, rfl⟩) q.1 (List.mem_map.2 ⟨q, hq, rfl⟩) t⟩, ?_, ndB_ok h8, ?_, ?_, ?_⟩
  · intro k o ho e hm hb
    have hk := (Array.getElem?_eq_some_iff.1 ho).1
    have := List.all_eq_true.1 h2 k (List.mem_range.2 hk)
    have hin : e.on ∈ aftOf ops k := by
      unfold aftOf
      rw [ho]
      exact List.mem_map.2 ⟨e, List.mem_filter.2 ⟨Array.mem_toList_iff.2 hm, by simpa using hb⟩, rfl⟩
    have := List.all_eq_true.1 this e.on hin
    simpa [Nat.blt_eq] using this
  · intro p hp d hd
    have := List.all_eq_true.1 h7 p.1 (List.mem_map.2 ⟨p, hp, rfl⟩)
    rw [hd] at this
    simp only [Bool.and_eq_true, Bool.not_eq_true', List.contains_eq_mem, decide_eq_false_iff_not] at this
    refine ⟨by simpa [Nat.blt_eq] using this.1, fun j hj e => this.2 (List.mem_map.2 ⟨j, hj, e⟩)⟩
  · intro p q i v e t ht
    subst e
    have h9' : rdB ops ((p ++ (i, v) :: q).map Prod.fst) (js.map AJ.d) [] (p.map Prod.fst ++ i :: q.map Prod.fst) = true := by
      have : (p ++ (i, v) :: q).map Prod.fst = p.map Prod.fst ++ i :: q.map Prod.fst := by simp
      rw [← this]; exact h9
    obtain ⟨r1, r2⟩ := rdB_at h9' t ht
    refine ⟨fun j hj e => r1 (List.mem_map.2 ⟨j, hj, e⟩), fun x hx hd => ?_⟩
    rcases r2 x.1 (List.mem_map.2 ⟨x, hx, rfl⟩) hd with ⟨h, h'⟩ | ⟨h, h'⟩
    · exact .inl ⟨by simpa using h, h'⟩
    · exact .inr ⟨h.2, h'⟩
  · intro j hj
    have := List.all_eq_true.1 h10 j.q (List.mem_map.2 ⟨j, hj, rfl⟩)
    simp only [stB, Bool.and_eq_true, List.contains_eq_mem, decide_eq_true_eq] at this
    exact this.1
  · intro j hj t hy
    have := List.all_eq_true.1 h10 j.q (List.mem_map.2 ⟨j, hj, rfl⟩)
    simp only [stB, Bool.and_eq_true] at this
    have h2 := this.2
    rw [hy] at h2
    simp only [Bool.and_eq_true, Bool.not_eq_true', List.contains_eq_mem, decide_eq_false_iff_not, List.all_eq_true, Bool.or_eq_true, decide_eq_true_eq] at h2
    refine ⟨fun j' hj' e => h2.1 (List.mem_map.2 ⟨j', hj', e⟩), fun x hx hd => ?_⟩
    rcases h2.2 x.1 (List.mem_map.2 ⟨x, hx, rfl⟩) with h | h
    · rw [hd] at h; simp at h
    · exact h
theorem listed_of {i k : Nat} (hr : i ∈ Region.ready .any ops l) (hk : k ∈ aftOf ops i) : l.getD k false = true := by
  obtain ⟨_, o, ho, hall⟩ := mem_ready.1 hr
  obtain ⟨o', ho', e, he, hb, rfl⟩ := aft_mem hk
  cases ho.symm.trans ho'
  exact hall e he hb
theorem unlisted_of (h : UInv w ops n a0 hv js l a w' ad) (hls : l.size = ops.size) {i k : Nat} (hr : i ∈ Region.ready .any ops l) (hk : i ∈ aftOf ops k) : l.getD k false = false := by
  obtain ⟨h1, o, ho, hall⟩ := mem_ready.1 hr
  obtain ⟨o', ho', e, he, hb, rfl⟩ := aft_mem hk
  cases hlk : l.getD k false with
  | false => rfl
  | true =>
    have := h.cl k o' ho' hlk e he hb
    have hi := (Array.getElem?_eq_some_iff.1 ho).1
    have := (lsize hls hi).1 h1
    simp_all
variable (ok : UOk ops n hv js) (hz : a0.tmps.size = n)
include ok hz
/-- What a slot holds that the variables' pointers don't. -/
theorem slot_at (h : UInv w ops n a0 hv js l a w' ad) {t : Nat} (hj : ∀ j ∈ js, j.d ≠ t) (p : HV) (hp : ∀ x ∈ p, x ∈ hv) (hpn : (p.map Prod.fst).Nodup) (hw : ∀ x ∈ hv, dstOf ops x.1 = some t → (x ∈ p ↔ l.getD x.1 false = true)) : a.tmps.getD t undef = (puts ops a0 p).tmps.getD t undef := by
  by_cases hx : ∃ x ∈ hv, dstOf ops x.1 = some t ∧ l.getD x.1 false = true
  · obtain ⟨x, hm, hd, hl⟩ := hx
    obtain ⟨i, v⟩ := x
    rw [h.s1 i v hm hl t hd]
    exact (puts_some ⟨hpn, fun y hy z hz => ok.sole.2 y (hp y hy) z (hp z hz)⟩ ((hw (i, v) hm hd).2 hl) hd (by rw [hz]; exact (ok.dlt (i, v) hm t hd).1)).symm
  · rw [h.s3 t (fun i v hm hl hd => hx ⟨(i, v), hm, hd, hl⟩) (fun j hm _ => hj j hm)]
    refine (puts_none fun y hy hd => hx ⟨y, hp y hy, hd, (hw y (hp y hy) hd).1 hy⟩).symm
/-- A quiet operation comes up. -/
theorem u_quiet (h : UInv w ops n a0 hv js l a w' ad) (hls : l.size = ops.size) {p q : HV} (he : hv = p ++ (i, v) :: q) (ho : ops[i]? = some o) (hy : Yq P ops w o v (puts ops a0 p)) (hr : i ∈ Region.ready .any ops l) :
    Yq P ops w o v a ∧ ∀ w'', Below w'.heap.size w' w'' → UInv w ops n a0 hv js (l.setIfInBounds i true) (a.put o.dst v) w'' ad := by
  have hm : (i, v) ∈ hv := by rw [he]; simp
  have hil := (mem_ready.1 hr).1
  have hi := (Array.getElem?_eq_some_iff.1 ho).1
  have hnd := ok.nd
  have hn1 := (List.nodup_append.1 hnd).1
  have hdis : ∀ j ∈ js, j.i ≠ i ∧ j.s ≠ i := by
    intro j hj
    have h3 := (List.nodup_append.1 hnd).2.2 i (List.mem_map.2 ⟨(i, v), hm, rfl⟩)
    exact ⟨fun e => h3 j.i (List.mem_append_left _ (List.mem_map.2 ⟨j, hj, rfl⟩)) e.symm, fun e => h3 j.s (List.mem_append_right _ (List.mem_map.2 ⟨j, hj, rfl⟩)) e.symm⟩
  have hdst : dstOf ops i = o.dst := by unfold dstOf; rw [ho]; rfl
  have hset : ∀ k, (l.setIfInBounds i true).getD k false = true ↔ k = i ∨ l.getD k false = true := fun k => set_iff (by rw [hls]; exact hi)
  refine ⟨hy.same (n := n) ho (fun cs b => Region.noSelect_spec ok.sel i o cs b ho) h.sz (puts_sz.1.trans hz) fun t ht => ?_, fun w'' hb => ?_⟩
  · obtain ⟨r1, r2⟩ := ok.rd p q i v he t ht
    refine slot_at ok hz h r1 p (fun x hx => by rw [he]; simp [hx]) (by rw [he, List.map_append] at hn1; exact (List.nodup_append.1 hn1).1) fun x hx hd => ?_
    have hinj : ∀ y ∈ p, y.1 = x.1 → x ∈ p := by
      intro y hy e
      have hy' : y ∈ hv := by rw [he]; simp [hy]
      have := nodup_inj0 hn1 y hy' x hx e
      exact this ▸ hy
    rcases r2 x hx hd with ⟨h1, h2⟩ | ⟨h1, h2⟩
    · obtain ⟨y, hy, e⟩ := List.mem_map.1 h1
      exact ⟨fun _ => listed_of hr h2, fun _ => hinj y hy e⟩
    · refine ⟨fun hp => absurd (List.mem_map.2 ⟨x, hp, rfl⟩) h1, fun hl => ?_⟩
      rw [unlisted_of h hls hr h2] at hl
      cases hl
  · refine ⟨?_, ?_, ?_, ?_, ?_, ?_, h.cl.set hr⟩
    · cases o.dst <;> simp [Act.put, h.sz]
    · cases o.dst <;> simp [Act.put, h.df]
    · intro k u hk hl d hd
      rcases (hset k).1 hl with e | e
      · subst e
        have : u = v := by
          have := nodup_inj0 hn1 (k, u) hk (k, v) hm rfl
          exact congrArg Prod.snd this
        rw [this, ← hdst, hd]
        exact getD_set_same (by rw [h.sz]; exact (ok.dlt (k, u) hk d hd).1)
      · by_cases hki : k = i
        · subst hki
          have := (lsize hls hi).1 hil
          rw [this] at e; cases e
        · rw [put_get (fun e2 => hki (ok.sole.2 (k, u) hk (i, v) hm d hd (hdst.trans e2)))]
          exact h.s1 k u hk e d hd
    · intro j hj hl
      rcases (hset j.i).1 hl with e | e
      · exact absurd e (hdis j hj).1
      · rw [put_get (fun e2 => (ok.dlt (i, v) hm j.d (hdst.trans e2)).2 j hj rfl)]
        exact h.s2 j hj e
    · intro t h1 h2
      rw [put_get (fun e2 => h1 i v hm ((hset i).2 (.inl rfl)) (hdst.trans e2))]
      exact h.s3 t (fun k u hk hl => h1 k u hk ((hset k).2 (.inr hl))) (fun j hj hl => h2 j hj ((hset j.i).2 (.inr hl)))
    · have e : (js.map fun j => if (l.setIfInBounds i true).getD j.s false = true then own j.T j.E (some (ad j.i)) 1 [j.x] else if (l.setIfInBounds i true).getD j.i false = true then own j.T j.E (some (ad j.i)) 1 [j.x0] else fun L => L = []) = js.map fun j => if l.getD j.s false = true then own j.T j.E (some (ad j.i)) 1 [j.x] else if l.getD j.i false = true then own j.T j.E (some (ad j.i)) 1 [j.x0] else fun L => L = [] := by
        refine List.map_congr_left fun j hj => ?_
        rw [getD_set_ne false (fun e => (hdis j hj).2 e.symm), getD_set_ne false (fun e => (hdis j hj).1 e.symm)]
      rw [e]
      exact h.st.behind hb
/-- What a variable's Asn is. -/
abbrev uAsn (l : Array Bool) (ad : Nat → Addr) (j : AJ) : Asn := if l.getD j.s false = true then own j.T j.E (some (ad j.i)) 1 [j.x] else if l.getD j.i false = true then own j.T j.E (some (ad j.i)) 1 [j.x0] else fun L => L = []
omit ok hz in
theorem far_js (hnd : (hv.map Prod.fst ++ (js.map AJ.i ++ js.map AJ.s)).Nodup) : (∀ j ∈ js, ∀ k ∈ js, j.i = k.i → j = k) ∧ (∀ j ∈ js, ∀ k ∈ js, j.s = k.s → j = k) ∧ (∀ j ∈ js, ∀ k ∈ js, j.i ≠ k.s) ∧ (∀ j ∈ js, ∀ x ∈ hv, x.1 ≠ j.i ∧ x.1 ≠ j.s) := by
  obtain ⟨_, h2, h3⟩ := List.nodup_append.1 hnd
  obtain ⟨h4, h5, h6⟩ := List.nodup_append.1 h2
  refine ⟨nodup_inj h4, nodup_inj h5, fun j hj k hk e => h6 j.i (List.mem_map.2 ⟨j, hj, rfl⟩) k.s (List.mem_map.2 ⟨k, hk, rfl⟩) e, fun j hj x hx => ⟨fun e => ?_, fun e => ?_⟩⟩
  · exact h3 x.1 (List.mem_map.2 ⟨x, hx, rfl⟩) j.i (List.mem_append_left _ (List.mem_map.2 ⟨j, hj, rfl⟩)) e
  · exact h3 x.1 (List.mem_map.2 ⟨x, hx, rfl⟩) j.s (List.mem_append_right _ (List.mem_map.2 ⟨j, hj, rfl⟩)) e
omit hz in
/-- A new variable comes up. -/
theorem u_alloc (h : UInv w ops n a0 hv js l a w' ad) (hls : l.size = ops.size) {j : AJ} (hj : j ∈ js) (hok : AJok P ops n L1 j) (hr : j.i ∈ Region.ready .any ops l) :
    wpOp P ops Q j.i (fun a' w'' => ∃ ad', UInv w ops n a0 hv js (l.setIfInBounds j.i true) a' w'' ad') a w' := by
  obtain ⟨f1, f2, f3, f4⟩ := far_js ok.nd
  have hil := (mem_ready.1 hr).1
  obtain ⟨o, ho, _⟩ := (mem_ready.1 hr).2
  have hi := (Array.getElem?_eq_some_iff.1 ho).1
  have hset : ∀ k, (l.setIfInBounds j.i true).getD k false = true ↔ k = j.i ∨ l.getD k false = true := fun k => set_iff (by rw [hls]; exact hi)
  have hif : l.getD j.i false = false := (lsize hls hi).1 hil
  have hsf : l.getD j.s false = false := unlisted_of h hls hr (ok.sti j hj)
  have hs0 : Slots a n [] := ⟨h.sz, h.df, fun p hp => by cases hp⟩
  have hd : j.d < n := by simpa [Nat.blt_eq] using hok.hd
  obtain ⟨ad2, w2, hrun, hst2⟩ := x_alloc1 (P := P) (ty := j.ty) hs0 h.st j.E j.x0 hok.hz hok.hc
  refine op_run hs0 hok.ha rfl hrun ⟨fun x => if x = j.i then ad2 else ad x, ?_⟩
  have hnoj : ∀ x ∈ hv, dstOf ops x.1 ≠ some j.d := fun x hx e => (ok.dlt x hx j.d e).2 j hj rfl
  refine ⟨by simp [Act.put, h.sz], h.df, ?_, ?_, ?_, ?_, h.cl.set hr⟩
  · intro k u hk hl d hdk
    rcases (hset k).1 hl with e | e
    · exact absurd e (f4 j hj (k, u) hk).1
    · rw [put_get (fun e2 => hnoj (k, u) hk (by rw [hdk, ← e2]))]
      exact h.s1 k u hk e d hdk
  · intro k hk hl
    by_cases e : k = j
    · subst e
      simp only [if_true]
      exact getD_set_same (by rw [h.sz]; exact hd)
    · have hik : k.i ≠ j.i := fun e2 => e (f1 k hk j hj e2)
      have hdk : k.d ≠ j.d := fun e2 => e (nodup_inj ok.dnd k hk j hj e2)
      rcases (hset k.i).1 hl with e2 | e2
      · exact absurd e2 hik
      · simp only [if_neg hik]
        rw [put_get (fun e3 => hdk (Option.some.inj e3).symm)]
        exact h.s2 k hk e2
  · intro t h1 h2
    rw [put_get (fun e2 => h2 j hj ((hset j.i).2 (.inl rfl)) (Option.some.inj e2))]
    exact h.s3 t (fun k u hk hl => h1 k u hk ((hset k).2 (.inr hl))) (fun k hk hl => h2 k hk ((hset k.i).2 (.inr hl)))
  · obtain ⟨s, t, rfl⟩ := List.append_of_mem hj
    have hnds : ∀ k, k ∈ s ∨ k ∈ t → k ≠ j := by
      have := ok.dnd
      rw [List.map_append, List.map_cons] at this
      have h4 := List.nodup_append.1 this
      have h5 := List.nodup_cons.1 h4.2.1
      rintro k (hk | hk) e
      · subst e; exact h4.2.2 k.d (List.mem_map.2 ⟨k, hk, rfl⟩) k.d (by simp) rfl
      · subst e; exact h5.1 (List.mem_map.2 ⟨k, hk, rfl⟩)
    have same : ∀ k, k ∈ s ∨ k ∈ t → uAsn (l.setIfInBounds j.i true) (fun x => if x = j.i then ad2 else ad x) k = uAsn l ad k := by
      intro k hk
      have hkm : k ∈ s ++ j :: t := by rcases hk with hk | hk <;> simp [hk]
      have hik : k.i ≠ j.i := fun e2 => hnds k hk (f1 k hkm j hj e2)
      have hsk : k.s ≠ j.i := fun e2 => f3 j hj k hkm e2.symm
      unfold uAsn
      rw [getD_set_ne false (fun e => hsk e.symm), getD_set_ne false (fun e => hik e.symm)]
      simp only [if_neg hik]
    have mine : uAsn (l.setIfInBounds j.i true) (fun x => if x = j.i then ad2 else ad x) j = own j.T j.E (some ad2) 1 [j.x0] := by
      unfold uAsn
      rw [getD_set_ne false (f3 j hj j hj), hsf, if_neg (by simp), if_pos ((hset j.i).2 (.inl rfl))]
      simp only [if_true]
    have was : uAsn l ad j = fun L => L = [] := by
      unfold uAsn
      rw [hsf, hif, if_neg (by simp), if_neg (by simp)]
    show St [] w w2 ((s ++ j :: t).map (uAsn (l.setIfInBounds j.i true) fun x => if x = j.i then ad2 else ad x))
    have hst3 : St [] w w2 (own j.T j.E (some ad2) 1 [j.x0] :: (s ++ j :: t).map (uAsn l ad)) := hst2
    rw [List.map_append, List.map_cons, was] at hst3
    rw [List.map_append, List.map_cons, mine, List.map_congr_left (fun k hk => same k (.inl hk)), List.map_congr_left (fun k hk => same k (.inr hk))]
    have hp : (own j.T j.E (some ad2) 1 [j.x0] :: (s.map (uAsn l ad) ++ (fun L => L = []) :: t.map (uAsn l ad))).Perm ((fun L => L = []) :: (s.map (uAsn l ad) ++ own j.T j.E (some ad2) 1 [j.x0] :: t.map (uAsn l ad))) := by
      refine (List.Perm.cons _ List.perm_middle).trans ?_
      refine (List.Perm.swap _ _ _).trans (List.Perm.cons _ ?_)
      exact List.perm_middle.symm
    exact (hst3.perm hp).emp
/-- What is stored in it. -/
theorem u_store (h : UInv w ops n a0 hv js l a w' ad) (hls : l.size = ops.size) (hL1 : Slots (puts ops a0 hv) n L1) {j : AJ} (hj : j ∈ js) (hok : AJok P ops n L1 j) (hr : j.s ∈ Region.ready .any ops l) :
    wpOp P ops Q j.s (fun a' w'' => UInv w ops n a0 hv js (l.setIfInBounds j.s true) a' w'' ad) a w' := by
  obtain ⟨f1, f2, f3, f4⟩ := far_js ok.nd
  have hil := (mem_ready.1 hr).1
  obtain ⟨o, ho, _⟩ := (mem_ready.1 hr).2
  have hi := (Array.getElem?_eq_some_iff.1 ho).1
  have hset : ∀ k, (l.setIfInBounds j.s true).getD k false = true ↔ k = j.s ∨ l.getD k false = true := fun k => set_iff (by rw [hls]; exact hi)
  have hsf : l.getD j.s false = false := (lsize hls hi).1 hil
  have hit : l.getD j.i false = true := listed_of hr (ok.sti j hj)
  have hptr := h.s2 j hj hit
  have hn1 := (List.nodup_append.1 ok.nd).1
  have hyv : a.eval j.y = evD L1 j.y := by
    have hk := hok.hy
    have hev : (puts ops a0 hv).eval j.y = evD L1 j.y := known_ok hL1 hk _ (by simp)
    rw [← hev]
    cases hy : j.y with
    | tmp t =>
      obtain ⟨g1, g2⟩ := ok.sty j hj t hy
      exact slot_at ok hz h g1 hv (fun x hx => hx) hn1 fun x hx hd => ⟨fun _ => listed_of hr (g2 x hx hd), fun _ => hx⟩
    | const u => rfl
    | global u => rfl
    | func u => rfl
  have hs1 : Slots a n ((j.d, .pointer (some (ad j.i))) :: (match j.y with | .tmp t => [(t, evD L1 j.y)] | _ => [])) := by
    refine ⟨h.sz, h.df, fun p hp => ?_⟩
    rcases List.mem_cons.1 hp with e | e
    · subst e; exact hptr
    · cases hy : j.y with
      | tmp t =>
        rw [hy] at e hyv
        simp only [List.mem_singleton] at e
        subst e
        exact hyv
      | const u => rw [hy] at e; simp at e
      | global u => rw [hy] at e; simp at e
      | func u => rw [hy] at e; simp at e
  have htd : ∀ t, j.y = .tmp t → t ≠ j.d := fun t hy e => by
    have hk := hok.hy
    rw [hy] at hk
    have hl := hok.hl
    subst e
    simp [known, ev, hl] at hk
  have hL : ∀ LL, LL = ((j.d, Value.pointer (some (ad j.i))) :: (match j.y with | .tmp t => [(t, evD L1 j.y)] | _ => [])) → evD LL (.tmp j.d) = .pointer (some (ad j.i)) ∧ evD LL j.y = evD L1 j.y ∧ known LL [.tmp j.d, j.y] = true := by
    rintro LL rfl
    have e1 : ev ((j.d, Value.pointer (some (ad j.i))) :: (match j.y with | .tmp t => [(t, evD L1 j.y)] | _ => [])) (.tmp j.d) = some (.pointer (some (ad j.i))) := by
      unfold ev lk
      simp [Nat.beq_refl]
    have e2 : ∃ u, ev ((j.d, Value.pointer (some (ad j.i))) :: (match j.y with | .tmp t => [(t, evD L1 j.y)] | _ => [])) j.y = some u ∧ u = evD L1 j.y := by
      cases hy : j.y with
      | tmp t =>
        have hb : Nat.beq t j.d = false := by
          cases hbt : Nat.beq t j.d with
          | false => rfl
          | true => exact absurd (Nat.eq_of_beq_eq_true hbt) (htd t hy)
        refine ⟨evD L1 (.tmp t), ?_, rfl⟩
        simp [ev, lk, hb, Nat.beq_refl]
      | const u => exact ⟨u, rfl, rfl⟩
      | global u => exact ⟨_, rfl, rfl⟩
      | func u => exact ⟨_, rfl, rfl⟩
    obtain ⟨u, e2, e3⟩ := e2
    refine ⟨evD_of e1, (evD_of e2).trans e3, ?_⟩
    unfold known
    rw [e1]
    simp only
    unfold known
    rw [e2]
    rfl
  generalize hLL : ((j.d, Value.pointer (some (ad j.i))) :: (match j.y with | .tmp t => [(t, evD L1 j.y)] | _ => [])) = LL at hs1
  obtain ⟨v1, v2, v3⟩ := hL LL hLL.symm
  obtain ⟨s, t, hst⟩ := List.append_of_mem hj
  have hnds : ∀ k, k ∈ s ∨ k ∈ t → k ≠ j := by
    have := ok.dnd
    rw [hst, List.map_append, List.map_cons] at this
    have h4 := List.nodup_append.1 this
    have h5 := List.nodup_cons.1 h4.2.1
    rintro k (hk | hk) e
    · subst e; exact h4.2.2 k.d (List.mem_map.2 ⟨k, hk, rfl⟩) k.d (by simp) rfl
    · subst e; exact h5.1 (List.mem_map.2 ⟨k, hk, rfl⟩)
  have was : uAsn l ad j = own j.T j.E (some (ad j.i)) 1 [j.x0] := by
    unfold uAsn
    rw [hsf, hit, if_neg (by simp), if_pos rfl]
  have mine : uAsn (l.setIfInBounds j.s true) ad j = own j.T j.E (some (ad j.i)) 1 [j.x] := by
    unfold uAsn
    rw [if_pos ((hset j.s).2 (.inl rfl))]
  have same : ∀ k, k ∈ s ∨ k ∈ t → uAsn (l.setIfInBounds j.s true) ad k = uAsn l ad k := by
    intro k hk
    have hkm : k ∈ js := by rw [hst]; rcases hk with hk | hk <;> simp [hk]
    have hsk : k.s ≠ j.s := fun e2 => hnds k hk (f2 k hkm j hj e2)
    have hik : k.i ≠ j.s := f3 k hkm j hj
    unfold uAsn
    rw [getD_set_ne false (fun e => hsk e.symm), getD_set_ne false (fun e => hik e.symm)]
  have hst1 : St [] w w' (own j.T j.E (some (ad j.i)) 1 [j.x0] :: (s.map (uAsn l ad) ++ t.map (uAsn l ad))) := by
    have h1 : St [] w w' (js.map (uAsn l ad)) := h.st
    rw [hst, List.map_append, List.map_cons, was] at h1
    exact h1.perm List.perm_middle
  obtain ⟨w2, hrun, hst2⟩ := x_put (P := P) (ty := j.ty2) (t := j.T) (x := .tmp j.d) (y := j.y) (off := 0) (a := ad j.i) (p := ad j.i) (i := 0) (v := evD L1 j.y) (vs := j.E.enc j.x) (e' := j.x) hs1 hst1 rfl (Int.le_refl 0) Int.one_pos v1 (one_at (ad j.i) _) v2 hok.hx (by rw [j.E.len]; exact hok.hi) (by rw [j.E.len]; exact Nat.le_of_eq (Nat.zero_add _)) (j.E.one j.x) (by
    have e1 := j.E.len j.x
    have e2 := j.E.len (ix j.E.d [j.x0] 0)
    show j.E.enc j.x = (j.E.enc (ix j.E.d [j.x0] 0)).take 0 ++ j.E.enc j.x ++ (j.E.enc (ix j.E.d [j.x0] 0)).drop (0 + (j.E.enc j.x).length)
    rw [List.take_zero, List.nil_append, Nat.zero_add, List.drop_of_length_le (by omega), List.append_nil])
  refine op_unit hs1 hok.hs (by unfold okOp; simp only [Bool.and_eq_true]; exact ⟨v3, rfl⟩) hrun ?_
  refine ⟨h.sz, h.df, ?_, ?_, ?_, ?_, h.cl.set hr⟩
  · intro k u hk hl d hdk
    rcases (hset k).1 hl with e | e
    · exact absurd e (f4 j hj (k, u) hk).2
    · exact h.s1 k u hk e d hdk
  · intro k hk hl
    rcases (hset k.i).1 hl with e | e
    · exact absurd e (f3 k hk j hj)
    · exact h.s2 k hk e
  · intro t h1 h2
    exact h.s3 t (fun k u hk hl => h1 k u hk ((hset k).2 (.inr hl))) (fun k hk hl => h2 k hk ((hset k.i).2 (.inr hl)))
  · show St [] w w2 (js.map (uAsn (l.setIfInBounds j.s true) ad))
    rw [hst, List.map_append, List.map_cons, mine, List.map_congr_left (fun k hk => same k (.inl hk)), List.map_congr_left (fun k hk => same k (.inr hk))]
    have hst3 : St [] w w2 (own j.T j.E (some (ad j.i)) 1 [j.x] :: (s.map (uAsn l ad) ++ t.map (uAsn l ad))) := hst2
    exact hst3.perm List.perm_middle.symm
omit ok hz in
theorem least_ready (hb : ∀ k o, ops[k]? = some o → ∀ e ∈ o.after, Region.binds .any e = true → e.on < k) (hls : l.size = ops.size) (hr : Region.ready .any ops l = []) : ∀ m k, k < m → k < ops.size → l.getD k false = true
  | 0, k, h, _ => by omega
  | m + 1, k, hk, hlt => by
    cases hl : l.getD k false with
    | true => rfl
    | false =>
      exfalso
      have ho : ops[k]? = some ops[k] := Array.getElem?_eq_getElem hlt
      have : k ∈ Region.ready .any ops l := mem_ready.2 ⟨(lsize hls hlt).2 hl, ops[k], ho, fun e he hbe => by
        have h1 := hb k _ ho e he hbe
        exact least_ready hb hls hr m e.on (by omega) (by omega)⟩
      rw [hr] at this
      cases this
def unl (m : Nat) (l : Array Bool) : Nat := (List.range m).countP fun k => !l.getD k false
omit ok hz in
theorem count_drop {p p' : Nat → Bool} {i : Nat} (hp : p i = true) (hp' : p' i = false) (hs : ∀ k, k ≠ i → p' k = p k) : ∀ (L : List Nat), L.Nodup → i ∈ L → L.countP p' + 1 = L.countP p
  | [], _, h => by cases h
  | x :: r, hn, h => by
    have hn := List.nodup_cons.1 hn
    by_cases e : x = i
    · subst e
      rw [List.countP_cons_of_neg (by simp [hp']), List.countP_cons_of_pos hp]
      congr 1
      refine List.countP_congr fun k hk => ?_
      rw [hs k (fun e => hn.1 (e ▸ hk))]
    · have hm : i ∈ r := by
        rcases List.mem_cons.1 h with h | h
        · exact absurd h.symm e
        · exact h
      have ih := count_drop hp hp' hs r hn.2 hm
      rw [List.countP_cons, List.countP_cons, hs x e]
      omega
theorem u_any (hok : ∀ j ∈ js, AJok P ops n L1 j) (hL1 : Slots (puts ops a0 hv) n L1) (hy : ∀ p q i v, hv = p ++ (i, v) :: q → ∃ o, ops[i]? = some o ∧ Yq P ops w o v (puts ops a0 p))
    (fin : ∀ a w' ad l, UInv w ops n a0 hv js l a w' ad → (∀ k, k < ops.size → l.getD k false = true) → Q .normal a w') :
    ∀ (f : Nat) (l : Array Bool) (a : Act) (w' : World) (ad : Nat → Addr), unl ops.size l = f → l.size = ops.size → UInv w ops n a0 hv js l a w' ad → wpAny P .any ops Q f l a w' := by
  intro f
  have hdone : ∀ (l : Array Bool) (a : Act) (w' : World) (ad : Nat → Addr), l.size = ops.size → UInv w ops n a0 hv js l a w' ad → Region.ready .any ops l = [] → Q .normal a w' := fun l a w' ad hls h hr => fin a w' ad l h fun k hk => least_ready ok.back hls hr (k + 1) k (by omega) hk
  induction f with
  | zero =>
    intro l a w' ad hc hls h
    have hall : ∀ k, k < ops.size → l.getD k false = true := by
      intro k hk
      have := List.countP_eq_zero.1 hc k (List.mem_range.2 hk)
      simpa using this
    refine ⟨?_, fin a w' ad l h hall⟩
    cases hr : Region.ready .any ops l with
    | nil => rfl
    | cons x r =>
      have hx : x ∈ Region.ready .any ops l := by rw [hr]; simp
      obtain ⟨h1, o, ho, _⟩ := mem_ready.1 hx
      have hlt := (Array.getElem?_eq_some_iff.1 ho).1
      have := hall x hlt
      have h2 := (lsize hls hlt).1 h1
      rw [h2] at this
      cases this
  | succ f ih =>
    intro l a w' ad hc hls h
    refine ⟨hdone l a w' ad hls h, fun i hr => ?_⟩
    have hil := (mem_ready.1 hr).1
    obtain ⟨o, ho, _⟩ := (mem_ready.1 hr).2
    have hi := (Array.getElem?_eq_some_iff.1 ho).1
    have hif : l.getD i false = false := (lsize hls hi).1 hil
    have hset : ∀ k, (l.setIfInBounds i true).getD k false = true ↔ k = i ∨ l.getD k false = true := fun k => set_iff (by rw [hls]; exact hi)
    have hcnt : unl ops.size (l.setIfInBounds i true) = f := by
      have := count_drop (p := fun k => !l.getD k false) (p' := fun k => !(l.setIfInBounds i true).getD k false) (i := i) (by simp [hif]) (by simp [(hset i).2 (.inl rfl)]) (fun k hk => by rw [getD_set_ne false (fun e => hk e.symm)]) (List.range ops.size) List.nodup_range (List.mem_range.2 hi)
      unfold unl at hc ⊢
      omega
    have hsz : (l.setIfInBounds i true).size = ops.size := by simp [hls]
    rcases List.mem_append.1 (ok.all i hi) with hm | hm
    · obtain ⟨⟨i', v⟩, hm2, rfl⟩ := List.mem_map.1 hm
      obtain ⟨p, q, he⟩ := List.append_of_mem hm2
      obtain ⟨o', ho', hyq⟩ := hy p q i' v he
      obtain ⟨h1, h2⟩ := u_quiet ok hz h hls he ho' hyq hr
      exact wpOp_yq ho' h1 h.st.below fun w'' hb => ih _ _ _ ad hcnt hsz (h2 w'' hb)
    · rcases List.mem_append.1 hm with hm | hm
      · obtain ⟨j, hj, rfl⟩ := List.mem_map.1 hm
        exact wpOp_mono (fun a' w'' ⟨ad', h'⟩ => ih _ _ _ ad' hcnt hsz h') (u_alloc (Q := Q) ok h hls hj (hok j hj) hr)
      · obtain ⟨j, hj, rfl⟩ := List.mem_map.1 hm
        exact wpOp_mono (fun a' w'' h' => ih _ _ _ ad hcnt hsz h') (u_store (Q := Q) ok hz h hls hL1 hj (hok j hj) hr)
end
section
variable {P : Program} {ops : Array Oper} {Q : Exit → Act → World → Prop} {Qa : Act → Prop} {n i : Nat} {w w0 : World} {a : Act} {L L' L1 : SL} {op : Op} {ty : TypeId} {dst : Option Tmp} {g : Option (Nat × Bool)}
/-- What is told at the end of the quiet ones: what the slots hold, the variables, and what comes behind. -/
def UEnd (P : Program) (ops : Array Oper) (Q : Exit → Act → World → Prop) (n : Nat) (G : List Nat) (w0 : World) (As : List Asn) (qs : List (Nat × Nat × Nat × Operand)) (a' : Act) : Prop :=
  ∃ (L1 : SL) (js : List AJ), js.map AJ.q = qs ∧ Slots a' n L1 ∧ (∀ j ∈ js, AJok P ops n L1 j) ∧ AP js fun D => ∀ a' w', Slots a' n (D.map AJ.sl ++ L1) → St G w0 w' (D.map AJ.o1 ++ As) → Q .normal a' w'
/-- A region of quiet operations, new variables, and what is stored in them, in whatever order. -/
theorem u_region {G : List Nat} {As : List Asn} {id : Nat} {L0 : SL} (hd : List Nat) (qs : List (Nat × Nat × Nat × Operand)) (hm : P.follows .mixedOrders = true) (hB : uRegB ops n hd qs = true) (hs0 : Slots a n L0) (hst : St G w0 w As)
    (h : wul P ops w (UEnd P ops Q n G w0 As qs) hd a) : (Code.region id ops true).wp P Q a w := by
  obtain ⟨hv, h1, h2, h3⟩ := wul_puts h
  obtain ⟨L1, js, rfl, h2, hok, k⟩ := h2
  have ok := uok_of hB h1
  refine wp_region_any hm ?_
  have hS : Below w.heap.size w w.drew := (Below.refl _ _).drew
  have f0 : ∀ k, (Array.replicate ops.size false).getD k false = false := by
    intro k
    by_cases hk : k < ops.size <;> simp [hk]
  have inv : UInv w ops n a hv js (Array.replicate ops.size false) a w.drew (fun _ => ⟨0, 0, none⟩) := by
    refine ⟨hs0.sz, hs0.df, fun i v _ hl => (by rw [f0] at hl; cases hl), fun j _ hl => (by rw [f0] at hl; cases hl), fun t _ _ => rfl, ?_, fun j oj _ hl => (by rw [f0] at hl; cases hl)⟩
    have e : (js.map fun j => if (Array.replicate ops.size false).getD j.s false = true then own j.T j.E (some (⟨0, 0, none⟩ : Addr)) 1 [j.x] else if (Array.replicate ops.size false).getD j.i false = true then own j.T j.E (some (⟨0, 0, none⟩ : Addr)) 1 [j.x0] else fun L => L = []) = js.map fun _ => (fun L => L = [] : Asn) := by
      refine List.map_congr_left fun j _ => ?_
      rw [f0, f0, if_neg (by simp), if_neg (by simp)]
    rw [e]
    have : ∀ js : List AJ, St [] w w.drew (js.map fun _ => (fun L => L = [] : Asn)) := by
      intro js
      induction js with
      | nil => exact (St.nil w).drew
      | cons j r ih =>
        obtain ⟨L, hc, hs⟩ := ih
        exact ⟨L, ⟨[], L, rfl, rfl, hc⟩, hs⟩
    exact this js
  have hunl : unl ops.size (Array.replicate ops.size false) = ops.size := by
    unfold unl
    rw [List.countP_eq_length.2 (fun k _ => by rw [f0]; rfl), List.length_range]
  refine u_any ok hs0.sz hok h2 h3 ?_ ops.size _ a w.drew _ hunl (by simp) inv
  intro a' w' ad l hi hall
  have hD := AP.at k (D := js.map fun j => (j, ad j.i)) (by rw [List.map_map]; exact List.map_id' js)
  have hn1 := (List.nodup_append.1 ok.nd).1
  refine hD a' w' ⟨hi.sz, hi.df, fun p hp => ?_⟩ ?_
  · rcases List.mem_append.1 hp with hp | hp
    · rw [List.map_map] at hp
      obtain ⟨j, hj, rfl⟩ := List.mem_map.1 hp
      exact hi.s2 j hj (hall j.i (ok.lt j.i (List.mem_append_right _ (List.mem_append_left _ (List.mem_map.2 ⟨j, hj, rfl⟩)))))
    · rw [← h2.hold p hp]
      refine slot_at ok hs0.sz hi (fun j hj e => lk_none (hok j hj).hl p hp e.symm) hv (fun x hx => hx) hn1 fun x hx _ => ⟨fun _ => hall x.1 (ok.lt x.1 (List.mem_append_left _ (List.mem_map.2 ⟨x, hx, rfl⟩))), fun _ => hx⟩
  · have e : (js.map fun j => (j, ad j.i)).map AJ.o1 = js.map (uAsn l ad) := by
      rw [List.map_map]
      refine List.map_congr_left fun j hj => ?_
      show own j.T j.E (some (ad j.i)) 1 [j.x] = _
      unfold uAsn
      rw [if_pos (hall j.s (ok.lt j.s (List.mem_append_right _ (List.mem_append_right _ (List.mem_map.2 ⟨j, hj, rfl⟩)))))]
    rw [e]
    exact hst.call hi.st
theorem u_end (h : Qa a) : wul P ops w Qa [] a := h
theorem u_pv1 (hs : Slots a n L) {o : Oper} {r : List Nat} (ho : ops[i]? = some o) (he : pv1 P ops n L o = some L') (h : ∀ a', Slots a' n L' → wul P ops w Qa r a') : wul P ops w Qa (i :: r) a := by
  unfold pv1 at he
  split at he
  · cases he
  · rename_i hw; exact ⟨o, undef, ho, .inr ⟨wantL_ok hs hw, rfl⟩, h _ (Option.some.inj he ▸ hs.put _ _)⟩
  · rename_i hw
    split at he
    · cases he
    · rename_i hk
      simp only [Bool.and_eq_true] at hk
      split at he
      · rename_i v hv
        refine ⟨o, v, ho, .inl ⟨wantL_ok hs hw, fun w' _ => ?_⟩, h _ (Option.some.inj he ▸ hs.put _ _)⟩
        unfold Oper.quietAt
        rw [exec_same hs hk.1 hk.2, pv_ok _ hv w']
        exact ⟨rfl, rfl⟩
      · cases he
theorem u_pvs' {ms : List Nat} {r : List Nat} : ∀ {L : SL} {a : Act}, inB ops ms = true → Slots a n L → pvs P ops n L (pk ops ms) = some L' → (∀ a', Slots a' n L' → wul P ops w Qa r a') → wul P ops w Qa (ms ++ r) a := by
  induction ms with
  | nil => intro L a _ hs he h; cases he; exact h a hs
  | cons i q ih =>
    intro L a hB hs he h
    simp only [inB, List.all_cons, Bool.and_eq_true] at hB
    have hlt : i < ops.toList.length := by simpa [Nat.blt_eq] using hB.1
    have ho : ops.toList[i]? = some ops.toList[i] := List.getElem?_eq_getElem hlt
    rw [pk_cons ho] at he
    unfold pvs at he
    split at he
    · cases he
    · rename_i L1 h1
      exact u_pv1 hs (by rw [← Array.getElem?_toList]; exact ho) h1 fun a' hs' => ih (by simpa [inB] using hB.2) hs' he h
theorem u_pvs (ms : List Nat) (r : List Nat) (ds : List Nat) (N : SL) (hs : Slots a n L) (h : ∀ a', Slots a' n (kd ds N L) → wul P ops w Qa r a') (he : (pvs P ops n L (pk ops ms)).map (kp (keysL (kd ds N L))) = some (kd ds N L) := by kernel_rfl) (hB : inB ops ms = true := by kernel_rfl) : wul P ops w Qa (ms ++ r) a := by
  obtain ⟨L1, h1, h2⟩ := Option.map_eq_some_iff.1 he
  exact u_pvs' hB hs h1 fun a' hs' => h a' (hs'.keep _ h2)
theorem u_run {r : List Nat} (hs : Slots a n L) (ho : opAt ops i = some (op, ty, dst, g)){v : Value}
    (hr : ∀ w', Below w.heap.size w w' → (execOp (evD L) (mkO op ty)).run P w' = .ok (.value v) w') (ds : List Nat) (h : ∀ a', Slots a' n (rms ds (putL n dst v L)) → wul P ops w Qa r a') (hw : wantG ops L g = some true := by kernel_rfl) (hk : okOp L op = true := by kernel_rfl) : wul P ops w Qa (i :: r) a := by
  obtain ⟨o, h1, h2⟩ := Option.map_eq_some_iff.1 ho
  simp only [Prod.mk.injEq] at h2
  obtain ⟨rfl, rfl, rfl, rfl⟩ := h2
  have hk : known L o.op.operands.toList = true ∧ noSel (mkO o.op 0) = true := by simpa [okOp] using hk
  refine ⟨o, v, by rw [← Array.getElem?_toList]; exact h1, .inl ⟨wantL_ok hs (by unfold wantL; exact hw), fun w' hb => ?_⟩, h _ ((hs.put _ _).rms ds)⟩
  unfold Oper.quietAt
  rw [exec_same hs hk.1 hk.2, exec_mk, hr w' hb]
  exact ⟨rfl, rfl⟩
theorem u_call {r : List Nat} (hs : Slots a n L) (ho : opAt ops i = some (op, ty, dst, g)) {f : FuncId} {args : Array Value} {v : Value}
     (hc : ∀ w', Below w.heap.size w w' → Calls P f args w' fun e w'' => e = .returned v ∧ Below w'.heap.size w' w'')
    (ds : List Nat) (h : ∀ a', Slots a' n (rms ds (putL n dst v L)) → wul P ops w Qa r a') (he : pv P (execOp (evD L) (mkO op ty)) = some (.enter f args) := by kernel_rfl) (hw : wantG ops L g = some true := by kernel_rfl) (hk : okOp L op = true := by kernel_rfl) : wul P ops w Qa (i :: r) a := by
  obtain ⟨o, h1, h2⟩ := Option.map_eq_some_iff.1 ho
  simp only [Prod.mk.injEq] at h2
  obtain ⟨rfl, rfl, rfl, rfl⟩ := h2
  have hk : known L o.op.operands.toList = true ∧ noSel (mkO o.op 0) = true := by simpa [okOp] using hk
  refine ⟨o, v, by rw [← Array.getElem?_toList]; exact h1, .inl ⟨wantL_ok hs (by unfold wantL; exact hw), fun w' hb => ?_⟩, h _ ((hs.put _ _).rms ds)⟩
  unfold Oper.quietAt
  rw [exec_same hs hk.1 hk.2, exec_mk, pv_ok _ he w']
  exact ⟨rfl, hc w' hb⟩
end
end Go.Proofs.Ytheccnbamcdpmaa.E
