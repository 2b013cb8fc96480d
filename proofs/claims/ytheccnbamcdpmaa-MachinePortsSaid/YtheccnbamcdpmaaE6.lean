/- The engine's words, sixth part: short forms for what the walks write. No condition. -/
import Derived.Test.YtheccnbamcdpmaaE5
namespace Go.Proofs.Ytheccnbamcdpmaa.E
open Go Go.RowKit
abbrev w64 (x : Int) : Int := IntKind.wrap .i64 x
abbrev w32 (x : Int) : Int := IntKind.wrap .i32 x
abbrev wi16 (x : Int) : Int := IntKind.wrap .i16 x
abbrev wi8 (x : Int) : Int := IntKind.wrap .i8 x
abbrev wu64 (x : Int) : Int := IntKind.wrap .u64 x
abbrev wu32 (x : Int) : Int := IntKind.wrap .u32 x
abbrev wu16 (x : Int) : Int := IntKind.wrap .u16 x
abbrev wu8 (x : Int) : Int := IntKind.wrap .u8 x
def band (k : IntKind) (x y : Int) : Int := k.wrap (BitVec.ofInt k.bits x &&& BitVec.ofInt k.bits y).toNat
def bor (k : IntKind) (x y : Int) : Int := k.wrap (BitVec.ofInt k.bits x ||| BitVec.ofInt k.bits y).toNat
def bxor (k : IntKind) (x y : Int) : Int := k.wrap (BitVec.ofInt k.bits x ^^^ BitVec.ofInt k.bits y).toNat
def bandn (k : IntKind) (x y : Int) : Int := k.wrap (BitVec.ofInt k.bits x &&& ~~~BitVec.ofInt k.bits y).toNat
def shl (k : IntKind) (x y : Int) : Int := k.wrap (x * 2 ^ min y.toNat k.bits)
def shr (k : IntKind) (x y : Int) : Int := x.fdiv (2 ^ min y.toNat k.bits)
def mnn (x y : Int) : Int := if y < x then y else x
def mxx (x y : Int) : Int := if y > x then y else x
theorem nt {b : Bool} (h : (!b) = true) : b = false := by cases b <;> simp_all
theorem nf {b : Bool} (h : (!b) = false) : b = true := by cases b <;> simp_all
theorem ff {b : Bool} (h : b = false) : ¬ b = true := by rw [h]; simp
section
variable {P : Program} {L : SL} {α : Type} {E : Enc α} {G : List Nat} {w0 w : World} {A : Option Addr} {cap : Nat} {l : List α} {As : List Asn} {T : TypeId}
theorem St.only (h : St G w0 w As) : ∀ (n : Nat), St G w0 w (As.take n) := by
  intro n
  obtain ⟨L, hc, hs⟩ := h
  have key : ∀ (n : Nat) {As : List Asn} {L : BL}, Cov As L → ∃ L', Cov (As.take n) L' ∧ L'.Sublist L := by
    intro n
    induction n with
    | zero => intro As L _; exact ⟨[], by simp [Cov], List.nil_sublist _⟩
    | succ n ih =>
      intro As L h
      cases As with
      | nil => exact ⟨L, by simpa using h, List.Sublist.refl _⟩
      | cons A As =>
        obtain ⟨L1, L2, rfl, ha, hr⟩ := h
        obtain ⟨L', h1, h2⟩ := ih hr
        exact ⟨L1 ++ L', ⟨L1, L', rfl, ha, h1⟩, List.Sublist.append_left h2 _⟩
  obtain ⟨L', h1, h2⟩ := key n hc
  exact ⟨L', h1, hs.sub h2⟩
theorem n_lit0 {t : TypeId} {ty : TypeId} {aS : Act} {nS : Nat} (_hs : Slots aS nS L) (hst : St G w0 w As) (E : Enc α) (ht : P.underlying t = some (.slice T)) (hs : ((P.info? T).map (·.size)).isSome = true) :
    ∃ A' cap' w', (execOp (evD L) (mkO (.buildSlice t 0 #[]) ty)).run P w = .ok (.value (.slice A' ([] : List α).length cap')) w' ∧ St G w0 w' (own T E A' cap' ([] : List α) :: As) := by
  obtain ⟨w', h⟩ := x_lit0 (P := P) (L := L) (ty := ty) hst E ht hs
  exact ⟨_, _, w', h⟩
theorem n_lit {t : TypeId} {len : Nat} {parts : Array (Nat × Operand)} {ty : TypeId} {z : Value} {bytes : Nat} {cells : Array Value} {aS : Act} {nS : Nat} (_hs : Slots aS nS L) (hst : St G w0 w As) (E : Enc α) (l : List α) (ht : P.underlying t = some (.slice T))
    (hinfo : (P.info? T).map (fun i => (i.zero, i.size, i.bytes)) = some (some z, E.sz, bytes)) (hlen : (Nat.ble (len * E.sz) 16777216 && Nat.blt 0 len && Nat.ble l.length 16777216) = true)
    (he : Instr.fill (fun i => some (i * E.sz, E.sz)) ((Array.range (len * E.sz)).map (z.cells[· % z.cells.size]!)) (parts.map fun (i, x) => (i, evD L x)).toList = some cells) (hcur : cells.toList = l.flatMap E.enc) (hl : l.length = len) (_ : 0 = 0) :
    ∃ A' cap' w', (execOp (evD L) (mkO (.buildSlice t len parts) ty)).run P w = .ok (.value (.slice A' l.length cap')) w' ∧ St G w0 w' (own T E A' cap' l :: As) := by
  simp only [Bool.and_eq_true] at hlen
  obtain ⟨w', h⟩ := x_lit (P := P) (L := L) (ty := ty) hst E l ht hinfo hlen.1.1 hlen.1.2 he hcur hl (by have := Nat.le_of_ble_eq_true hlen.2; simp only [maxLen]; omega)
  exact ⟨_, _, w', h⟩
theorem n_make {t : TypeId} {x y : Operand} {ty : TypeId} {z : Value} {bytes : Nat} {n : Int} {aS : Act} {nS : Nat} (_hs : Slots aS nS L) (hst : St G w0 w As) (ht : P.underlying t = some (.slice T))
    (hinfo : (P.info? T).map (fun i => (i.zero, i.size, i.bytes)) = some (some z, E.sz, bytes)) (hz : z.cells.toList = E.enc E.d)
    (hx : evD L x = .int .i64 n) (hy : evD L y = .int .i64 n) (h0 : 0 ≤ n) (hlim : (bytes : Int) * n ≤ 281474976710656) (hmax : n ≤ 4611686018427387904) :
    ∃ A' cap' w', (execOp (evD L) (mkO (.makeSlice t x y) ty)).run P w = .ok (.value (.slice A' (List.replicate n.toNat E.d).length cap')) w' ∧ St G w0 w' (own T E A' cap' (List.replicate n.toNat E.d) :: As) := by
  obtain ⟨w', h⟩ := x_make (P := P) (L := L) (ty := ty) hst ht hinfo hz hx hy h0 hlim hmax
  exact ⟨_, _, w', h⟩
/-- A string's bytes. -/
def bytesL (s : ByteArray) : List Int := s.data.toList.map fun b => (b.toNat : Int)
theorem src_str {tx : TypeId} (hk : P.underlying tx = some .string) (s : ByteArray) : Src P (eI .u8).sz tx (.string s) (bytesL s).length ((bytesL s).flatMap (eI .u8).enc) w := by
  have h := Src.ofString (P := P) w hk s
  have e1 : (bytesL s).length = s.size := by unfold bytesL; rw [List.length_map, Array.length_toList]; rfl
  have e2 : (bytesL s).flatMap (eI .u8).enc = byteCells s := by
    unfold bytesL byteCells
    induction s.data.toList with
    | nil => rfl
    | cons b r ih => simp only [List.map_cons, List.flatMap_cons, ih]; rfl
  rw [e1, e2]
  exact h
theorem x_shl {t u : TypeId} {x y : Operand} {ty : TypeId} {k k' : IntKind} {m n : Int} (hx : evD L x = .int k m) (hy : evD L y = .int k' n) (h : 0 ≤ n) : (execOp (evD L) (mkO (.binOp .shl t x y u) ty)).run P w = .ok (.value (.int k (shl k m n))) w := by
  refine run_v ?_
  show (do eqGuard .shl t x y (evD L x) (evD L y); binOp .shl t (evD L x) (evD L y)).run P w = _
  have : ¬ n < 0 := by omega
  rw [hx, hy]
  simp [eqGuard, binOp, Op.shift, this, shl]
theorem x_shr {t u : TypeId} {x y : Operand} {ty : TypeId} {k k' : IntKind} {m n : Int} (hx : evD L x = .int k m) (hy : evD L y = .int k' n) (h : 0 ≤ n) : (execOp (evD L) (mkO (.binOp .shr t x y u) ty)).run P w = .ok (.value (.int k (shr k m n))) w := by
  refine run_v ?_
  show (do eqGuard .shr t x y (evD L x) (evD L y); binOp .shr t (evD L x) (evD L y)).run P w = _
  have : ¬ n < 0 := by omega
  rw [hx, hy]
  simp [eqGuard, binOp, Op.shift, this, shr]
theorem x_quo {t u : TypeId} {x y : Operand} {ty : TypeId} {k : IntKind} {m n : Int} (hx : evD L x = .int k m) (hy : evD L y = .int k n) (h : n ≠ 0) : (execOp (evD L) (mkO (.binOp .quo t x y u) ty)).run P w = .ok (.value (.int k (k.wrap (m.tdiv n)))) w := by
  refine run_v ?_
  show (do eqGuard .quo t x y (evD L x) (evD L y); binOp .quo t (evD L x) (evD L y)).run P w = _
  rw [hx, hy]
  simp [eqGuard, binOp, Op.intDiv, h]
theorem x_rem {t u : TypeId} {x y : Operand} {ty : TypeId} {k : IntKind} {m n : Int} (hx : evD L x = .int k m) (hy : evD L y = .int k n) (h : n ≠ 0) : (execOp (evD L) (mkO (.binOp .rem t x y u) ty)).run P w = .ok (.value (.int k (m.tmod n))) w := by
  refine run_v ?_
  show (do eqGuard .rem t x y (evD L x) (evD L y); binOp .rem t (evD L x) (evD L y)).run P w = _
  rw [hx, hy]
  simp [eqGuard, binOp, Op.intDiv, h]
theorem x_cat {t u : TypeId} {x y : Operand} {ty : TypeId} {m n : ByteArray} (hx : evD L x = .string m) (hy : evD L y = .string n) (h : m.size + n.size ≤ 4611686018427387904) : (execOp (evD L) (mkO (.binOp .add t x y u) ty)).run P w = .ok (.value (.string (m ++ n))) w := by
  refine run_v ?_
  show (do eqGuard .add t x y (evD L x) (evD L y); binOp .add t (evD L x) (evD L y)).run P w = _
  rw [hx, hy]
  simp only [eqGuard, binOp, Op.stringOp]
  simp
  omega
end
end Go.Proofs.Ytheccnbamcdpmaa.E
