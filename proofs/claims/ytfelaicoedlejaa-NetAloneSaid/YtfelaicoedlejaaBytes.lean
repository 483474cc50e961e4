/-
  Arrays of bytes: as values, as keys, compared.
-/
import Derived.Test.YtfelaicoedlejaaMaps
namespace Go.Proofs.Ytfelaicoedlejaa
set_option linter.unusedVariables false

/-- n bytes. -/
abbrev BA (n : Nat) := { l : List UInt8 // l.length = n }
abbrev bv (u : UInt8) : Value := .int .u8 (u.toNat : Int)
def dc {n : Nat} (d : BA n) : List Value := d.1.map bv
@[reducible] def dv {n : Nat} (d : BA n) : Value := .agg (dc d).toArray
theorem dc_length {n : Nat} (d : BA n) : (dc d).length = n := by simp [dc, d.2]
theorem dc_one {n : Nat} (d : BA n) : allOne (dc d) = true := by simp [allOne, dc, oneB]
theorem bv_inj {a b : UInt8} (h : bv a = bv b) : a = b := by
  simp only [Value.int.injEq, true_and] at h
  exact UInt8.toNat_inj.1 (by omega)
theorem dc_inj {n : Nat} {a b : BA n} (h : dc a = dc b) : a = b := by
  apply Subtype.ext
  unfold dc at h
  exact (List.map_inj_right (fun x y hxy => bv_inj hxy)).1 h
theorem dv_inj {n : Nat} {a b : BA n} (h : dv a = dv b) : a = b := by
  simp only [Value.agg.injEq] at h
  exact dc_inj (List.toArray_inj h)

section
variable {P : Program} {k e : TypeId} {n : Nat}

theorem wf_byte (u : UInt8) : (Lit.int .u8 (u.toNat : Int)).wf = true := by
  have := u.toNat_lt
  simp [Lit.wf, IntKind.min, IntKind.max, IntKind.signed, IntKind.bits]
  omega

theorem lits_bytes (hu : P.underlying e = some (.int .u8)) (hc : P.cellsOf e = 1) (D : Nat) (l : List UInt8) : ∀ (m i : Nat), i + m = l.length →
    (List.range' i m).mapM (fun j => P.keyLits (D + 1) e (((l.map bv).drop (j * P.cellsOf e)).take (P.cellsOf e))) = some ((l.drop i).map (fun u => [Lit.int .u8 (u.toNat : Int)]))
  | 0, i, h => by
    have : l.drop i = [] := List.drop_eq_nil_of_le (by omega)
    simp [this]
  | m + 1, i, h => by
    have hi : i < l.length := by omega
    rw [List.range'_succ, List.mapM_cons, lits_bytes hu hc D l m (i + 1) (by omega)]
    have h1 : ((l.map bv).drop (i * P.cellsOf e)).take (P.cellsOf e) = [bv l[i]] := by
      rw [hc, Nat.mul_one, List.drop_eq_getElem_cons (by simpa using hi)]
      simp
    have h2 : P.keyLits (D + 1) e [bv l[i]] = some [Lit.int .u8 (l[i].toNat : Int)] := by
      simp only [Program.keyLits, hu, wf_byte, and_self, if_true]
    rw [h1, h2, List.drop_eq_getElem_cons hi]
    rfl

theorem ba_key (A : WideMaps.ArrKey P k e n) (hu : P.underlying e = some (.int .u8)) (hs : ∃ m, P.types.size = m + 1) : KeyEnc P k (dv (n := n)) := by
  refine ⟨Maps.Keyed.of_law A.law, fun d => ?_, fun a b h => dv_inj h⟩
  have hkt := A.keyType hs
  have hf : (dv d).formed P k = true := by
    simp [Value.formed, A.hu, A.size, dc_length]
  obtain ⟨m, hm⟩ := hs
  have hl : P.keyLits (P.types.size + 1) k (dv d).cells.toList = some ((d.1.map (fun u => [Lit.int .u8 (u.toNat : Int)])).flatten) := by
    rw [hm]
    have h1 : (dv d).cells.toList = d.1.map bv := by simp [Value.cells, dc]
    rw [h1]
    unfold Program.keyLits
    simp only [A.hu]
    rw [if_pos (by simp [A.size, d.2]), List.range_eq_range', lits_bytes hu A.one m d.1 n 0 (by simp [d.2])]
    simp
  refine ⟨.string (keyBytes ((d.1.map (fun u => [Lit.int .u8 (u.toNat : Int)])).flatten)), ?_⟩
  unfold keyOf
  simp only [A.hu, hkt, hf, Bool.and_self, if_true, hl, Option.map_some]

theorem equal_ba (A : WideMaps.ArrKey P k e n) (hu : P.underlying e = some (.int .u8)) (hs : ∃ m, P.types.size = m + 1) {w : World} (a b : BA n) : (Op.equal k (dv a) (dv b)).run P w = .ok (decide (a = b)) w :=
  equal_key (ba_key A hu hs) (fun hx hy => run_equal_deep w (m := 2) (by omega) (A.at 0) A.wide hx hy) a b

/-- What is asked of a type of arrays of bytes. -/
class BArr (P : Program) (k : TypeId) (n : outParam Nat) : Prop where
  key : KeyEnc P k (dv (n := n))
  eq : ∀ (w : World) (a b : BA n), (Op.equal k (dv a) (dv b)).run P w = .ok (decide (a = b)) w
  guard : P.eqGuardType P.depth k = false
theorem BArr.of (hk : P.underlying k = some (.array n e)) (hu : P.underlying e = some (.int .u8)) (hs : ∃ m, P.types.size = m + 1) (h1 : P.cellsOf e = 1) (h2 : P.cellsOf k = n) (hg : P.eqGuardType P.depth k = false) : BArr P k n := by
  have A : WideMaps.ArrKey P k e n := ⟨hk, by simp [Program.plainKey, hu], h1, h2⟩
  exact ⟨ba_key A hu hs, fun w a b => equal_ba A hu hs a b, hg⟩

section
variable {S : List Nat} {w0 : World} {F : World → Prop} {L : Env} {d : Option Nat} {ty : TypeId} {pos : String} {af : Array Edge} {g : Option (Nat × Bool)}
theorem vals_eqd [c : BArr P k n] {T' : TypeId} {x y : Operand} {a b : BA n} (hx : rho L x = dv a) (hy : rho L y = dv b) : Vals P S w0 F L ⟨d, .binOp .eql k x y T', ty, pos, af, g⟩ (.bool (decide (a = b))) := fun w _ _ => by
  simp [execOp, hx, hy, eqGuard, binOp, c.eq, c.guard]
theorem vals_ned [c : BArr P k n] {T' : TypeId} {x y : Operand} {a b : BA n} (hx : rho L x = dv a) (hy : rho L y = dv b) : Vals P S w0 F L ⟨d, .binOp .neq k x y T', ty, pos, af, g⟩ (.bool (!decide (a = b))) := fun w _ _ => by
  simp [execOp, hx, hy, eqGuard, binOp, c.eq, c.guard]
theorem vals_eqd_t [c : BArr P k n] {T' : TypeId} {x y : Operand} {a b : BA n} (hx : rho L x = dv a) (hy : rho L y = dv b) (h : a = b) : Vals P S w0 F L ⟨d, .binOp .eql k x y T', ty, pos, af, g⟩ (.bool true) := by
  have := vals_eqd (P := P) (S := S) (w0 := w0) (F := F) (d := d) (T' := T') (ty := ty) (pos := pos) (af := af) (g := g) (c := c) hx hy; rwa [decide_eq_true h] at this
theorem vals_eqd_f [c : BArr P k n] {T' : TypeId} {x y : Operand} {a b : BA n} (hx : rho L x = dv a) (hy : rho L y = dv b) (h : a ≠ b) : Vals P S w0 F L ⟨d, .binOp .eql k x y T', ty, pos, af, g⟩ (.bool false) := by
  have := vals_eqd (P := P) (S := S) (w0 := w0) (F := F) (d := d) (T' := T') (ty := ty) (pos := pos) (af := af) (g := g) (c := c) hx hy; rwa [decide_eq_false h] at this
theorem vals_ned_f [c : BArr P k n] {T' : TypeId} {x y : Operand} {a b : BA n} (hx : rho L x = dv a) (hy : rho L y = dv b) (h : a = b) : Vals P S w0 F L ⟨d, .binOp .neq k x y T', ty, pos, af, g⟩ (.bool false) := by
  have := vals_ned (P := P) (S := S) (w0 := w0) (F := F) (d := d) (T' := T') (ty := ty) (pos := pos) (af := af) (g := g) (c := c) hx hy; rwa [decide_eq_true h] at this
theorem vals_ned_t [c : BArr P k n] {T' : TypeId} {x y : Operand} {a b : BA n} (hx : rho L x = dv a) (hy : rho L y = dv b) (h : a ≠ b) : Vals P S w0 F L ⟨d, .binOp .neq k x y T', ty, pos, af, g⟩ (.bool true) := by
  have := vals_ned (P := P) (S := S) (w0 := w0) (F := F) (d := d) (T' := T') (ty := ty) (pos := pos) (af := af) (g := g) (c := c) hx hy; rwa [decide_eq_false h] at this
end
end
end Go.Proofs.Ytfelaicoedlejaa
