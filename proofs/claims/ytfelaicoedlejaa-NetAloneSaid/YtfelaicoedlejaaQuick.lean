/-
  The laws of single operations, laid so that each operation has one law, whose conditions close by the same few steps.
-/
import Derived.Test.YtfelaicoedlejaaSlices
namespace Go.Proofs.Ytfelaicoedlejaa
set_option linter.unusedVariables false

/-- What an operand is, as far as L knows. -/
def ro (L : Env) : Operand → Option Value
  | .tmp t => look L t
  | .const v => some v
  | .global g => some (.pointer (some ⟨g, 0, none⟩))
  | .func f => some (.func (.func f) #[] #[])
theorem rho_of {L : Env} {x : Operand} {v : Value} (h : ro L x = some v) : rho L x = v := by
  cases x with
  | tmp t => exact rho_tmp h
  | _ => simp only [ro, Option.some.injEq] at h; exact h

/-- A decided test. -/
structure Dc (p : Prop) (c : Bool) : Prop where
  t : c = true → p
  f : c = false → ¬ p
theorem dct {p : Prop} (h : p) : Dc p true := ⟨fun _ => h, fun e => absurd e (by simp)⟩
theorem dcf {p : Prop} (h : ¬ p) : Dc p false := ⟨fun e => absurd e (by simp), fun _ => h⟩
theorem dcu {p : Prop} [Decidable p] : Dc p (decide p) := ⟨fun h => of_decide_eq_true h, fun h => of_decide_eq_false h⟩
theorem Dc.eq {p : Prop} [d : Decidable p] {c : Bool} (h : Dc p c) : decide p = c := by
  cases c with
  | true => exact decide_eq_true (h.t rfl)
  | false => exact decide_eq_false (h.f rfl)

/-- A bound. -/
structure Ar (p : Prop) : Prop where
  h : p

/-- A type whose values are rows of cells; one whose values are one cell. -/
class AggT (P : Program) (T : TypeId) (sz : outParam Nat) : Prop where
  eq : ∃ d i, P.underlying T = some d ∧ aggB d = true ∧ P.info? T = some i ∧ i.size = sz
class CelT (P : Program) (T : TypeId) : Prop where
  eq : ∃ d, P.underlying T = some d ∧ aggB d = false
theorem AggT.of {P : Program} {T : TypeId} {d : TypeDesc} {i : TypeInfo} {sz : Nat} (h : P.underlying T = some d) (h1 : aggB d = true) (h2 : P.info? T = some i) (h3 : i.size = sz) : AggT P T sz := ⟨d, i, h, h1, h2, h3⟩
theorem CelT.of {P : Program} {T : TypeId} {d : TypeDesc} (h : P.underlying T = some d) (h1 : aggB d = false) : CelT P T := ⟨d, h, h1⟩

class Kenc (P : Program) (k : TypeId) {κ : outParam Type} (enc : outParam (κ → Value)) : Prop where
  key : KeyEnc P k enc
instance {P : Program} {k : TypeId} {n : Nat} [c : BArr P k n] : Kenc P k (dv (n := n)) := ⟨c.key⟩

/-- What a look into a map gives. -/
structure Lk {κ ν : Type} [DecidableEq κ] (V : ν → Value) (z : Value) (m : List (κ × ν)) (x : κ) (v : Value) (c : Bool) : Prop where
  eq : (∃ r, alook m x = some r ∧ v = V r ∧ c = true) ∨ (alook m x = none ∧ v = z ∧ c = false)
theorem lk1 {κ ν : Type} [DecidableEq κ] {V : ν → Value} {z : Value} {m : List (κ × ν)} {x : κ} {r : ν} (h : alook m x = some r) : Lk V z m x (V r) true := ⟨Or.inl ⟨r, h, rfl, rfl⟩⟩
theorem lk0 {κ ν : Type} [DecidableEq κ] {V : ν → Value} {z : Value} {m : List (κ × ν)} {x : κ} (h : alook m x = none) : Lk V z m x z false := ⟨Or.inr ⟨h, rfl, rfl⟩⟩

section
variable {P : Program} {S : List Nat} {w0 : World} {F : World → Prop} {L : Env} {d : Option Nat} {ty : TypeId} {pos : String} {af : Array Edge} {g : Option (Nat × Bool)}

theorem qmv {x : Operand} {v : Value} (hx : ro L x = some v) : Vals P S w0 F L ⟨d, .move x, ty, pos, af, g⟩ v := vals_move (rho_of hx)
theorem qas {x : Operand} {v : Value} (hx : ro L x = some v) : Vals P S w0 F L ⟨d, .assign x, ty, pos, af, g⟩ v := vals_assign (rho_of hx)
theorem qpk {c a b : Operand} {cb : Bool} {v : Value} (hc : ro L c = some (.bool cb)) (hx : ro L (bif cb then a else b) = some v) : Vals P S w0 F L ⟨d, .pick c a b, ty, pos, af, g⟩ v := by
  cases cb with
  | true => exact vals_pick_t (rho_of hc) (rho_of hx)
  | false => exact vals_pick_f (rho_of hc) (rho_of hx)
theorem qnc {x : Operand} {a : Addr} (hx : ro L x = some (.pointer (some a))) : Vals P S w0 F L ⟨d, .nilCheck x, ty, pos, af, g⟩ (.pointer (some a)) := vals_nilCheck (rho_of hx)
theorem qnt {T : TypeId} {x : Operand} {b : Bool} (hx : ro L x = some (.bool b)) : Vals P S w0 F L ⟨d, .unOp .not T x, ty, pos, af, g⟩ (.bool !b) := vals_not (rho_of hx)
theorem qxt {x : Operand} {k : Nat} {vs : List Value} {v : Value} (hx : ro L x = some (.tuple vs.toArray)) (hv : vs[k]? = some v) : Vals P S w0 F L ⟨d, .extract x k, ty, pos, af, g⟩ v := vals_extract (rho_of hx) (by simpa using hv)
theorem qfa {T ft : TypeId} {x : Operand} {k fo : Nat} [u : Fld P T k fo ft] {b off : Nat} (hx : ro L x = some (.pointer (some ⟨b, off, none⟩))) : Vals P S w0 F L ⟨d, .fieldAddr T x k, ty, pos, af, g⟩ (.pointer (some ⟨b, off + fo, none⟩)) := vals_fieldAddr (u := u) (rho_of hx)
theorem qlc {T : TypeId} {x : Operand} [c : CelT P T] {b off : Nat} {v : Value} (hx : ro L x = some (.pointer (some ⟨b, off, none⟩))) (hr : Row w0 b off [v]) (hb : b ∉ S) : Vals P S w0 F L ⟨d, .load T x, ty, pos, af, g⟩ v := by
  obtain ⟨dc, h1, h2⟩ := c.eq
  exact vals_load_cell (u := ⟨h1⟩) (rho_of hx) h2 hr hb
theorem qla {T : TypeId} {x : Operand} {sz : Nat} [c : AggT P T sz] {b off : Nat} {l : List Value} (hx : ro L x = some (.pointer (some ⟨b, off, none⟩))) (hr : Row w0 b off l) (hb : b ∉ S) (hl : l.length = sz) : Vals P S w0 F L ⟨d, .load T x, ty, pos, af, g⟩ (.agg l.toArray) := by
  obtain ⟨dc, i, h1, h2, h3, h4⟩ := c.eq
  exact vals_load_agg (u := ⟨h1⟩) (f := ⟨h3⟩) (rho_of hx) h2 hr hb (by rw [h4]; exact hl)
theorem qad {T T' : TypeId} [u : Ut P T (.int .i64)] {x y : Operand} {a b : Int} (hx : ro L x = some (.int .i64 a)) (hy : ro L y = some (.int .i64 b)) (h : Ar (-9223372036854775808 ≤ a + b ∧ a + b ≤ 9223372036854775807)) : Vals P S w0 F L ⟨d, .binOp .add T x y T', ty, pos, af, g⟩ (.int .i64 (a + b)) := vals_add (rho_of hx) (rho_of hy) h.h.1 h.h.2
theorem qsb {T T' : TypeId} [u : Ut P T (.int .i64)] {x y : Operand} {a b : Int} (hx : ro L x = some (.int .i64 a)) (hy : ro L y = some (.int .i64 b)) (h : Ar (-9223372036854775808 ≤ a - b ∧ a - b ≤ 9223372036854775807)) : Vals P S w0 F L ⟨d, .binOp .sub T x y T', ty, pos, af, g⟩ (.int .i64 (a - b)) := vals_sub (rho_of hx) (rho_of hy) h.h.1 h.h.2
theorem qls {T T' : TypeId} {k : IntKind} [u : Ut P T (.int k)] {x y : Operand} {a b : Int} {c : Bool} (hx : ro L x = some (.int k a)) (hy : ro L y = some (.int k b)) (h : Dc (a < b) c) : Vals P S w0 F L ⟨d, .binOp .lss T x y T', ty, pos, af, g⟩ (.bool c) := h.eq ▸ vals_lss (rho_of hx) (rho_of hy)
theorem qle {T T' : TypeId} {k : IntKind} [u : Ut P T (.int k)] {x y : Operand} {a b : Int} {c : Bool} (hx : ro L x = some (.int k a)) (hy : ro L y = some (.int k b)) (h : Dc (a ≤ b) c) : Vals P S w0 F L ⟨d, .binOp .leq T x y T', ty, pos, af, g⟩ (.bool c) := h.eq ▸ vals_leq (rho_of hx) (rho_of hy)
theorem qgt {T T' : TypeId} {k : IntKind} [u : Ut P T (.int k)] {x y : Operand} {a b : Int} {c : Bool} (hx : ro L x = some (.int k a)) (hy : ro L y = some (.int k b)) (h : Dc (b < a) c) : Vals P S w0 F L ⟨d, .binOp .gtr T x y T', ty, pos, af, g⟩ (.bool c) := h.eq ▸ vals_gtr (rho_of hx) (rho_of hy)
theorem qge {T T' : TypeId} {k : IntKind} [u : Ut P T (.int k)] {x y : Operand} {a b : Int} {c : Bool} (hx : ro L x = some (.int k a)) (hy : ro L y = some (.int k b)) (h : Dc (b ≤ a) c) : Vals P S w0 F L ⟨d, .binOp .geq T x y T', ty, pos, af, g⟩ (.bool c) := h.eq ▸ vals_geq (rho_of hx) (rho_of hy)
theorem qei {T T' : TypeId} {k : IntKind} [u : Ut P T (.int k)] {x y : Operand} {a b : Int} {c : Bool} (hx : ro L x = some (.int k a)) (hy : ro L y = some (.int k b)) (h : Dc (a = b) c) : Vals P S w0 F L ⟨d, .binOp .eql T x y T', ty, pos, af, g⟩ (.bool c) := h.eq ▸ vals_eqi (rho_of hx) (rho_of hy)
theorem qni {T T' : TypeId} {k : IntKind} [u : Ut P T (.int k)] {x y : Operand} {a b : Int} {c : Bool} (hx : ro L x = some (.int k a)) (hy : ro L y = some (.int k b)) (h : Dc (a = b) c) : Vals P S w0 F L ⟨d, .binOp .neq T x y T', ty, pos, af, g⟩ (.bool (!c)) := h.eq ▸ vals_nei (rho_of hx) (rho_of hy)
theorem qed {k T' : TypeId} {n : Nat} [u : BArr P k n] {x y : Operand} {a b : BA n} {c : Bool} (hx : ro L x = some (dv a)) (hy : ro L y = some (dv b)) (h : Dc (a = b) c) : Vals P S w0 F L ⟨d, .binOp .eql k x y T', ty, pos, af, g⟩ (.bool c) := h.eq ▸ vals_eqd (rho_of hx) (rho_of hy)
theorem qnd {k T' : TypeId} {n : Nat} [u : BArr P k n] {x y : Operand} {a b : BA n} {c : Bool} (hx : ro L x = some (dv a)) (hy : ro L y = some (dv b)) (h : Dc (a = b) c) : Vals P S w0 F L ⟨d, .binOp .neq k x y T', ty, pos, af, g⟩ (.bool (!c)) := h.eq ▸ vals_ned (rho_of hx) (rho_of hy)
theorem qeb {T T' : TypeId} [u : Ut P T .bool] {x y : Operand} {a b : Bool} (hx : ro L x = some (.bool a)) (hy : ro L y = some (.bool b)) : Vals P S w0 F L ⟨d, .binOp .eql T x y T', ty, pos, af, g⟩ (.bool (a == b)) := vals_eqb (u := u) (rho_of hx) (rho_of hy)
theorem qnb {T T' : TypeId} [u : Ut P T .bool] {x y : Operand} {a b : Bool} (hx : ro L x = some (.bool a)) (hy : ro L y = some (.bool b)) : Vals P S w0 F L ⟨d, .binOp .neq T x y T', ty, pos, af, g⟩ (.bool (!(a == b))) := vals_neb (u := u) (rho_of hx) (rho_of hy)
theorem qep {T T' E : TypeId} [u : Ut P T (.pointer E)] {x y : Operand} {a : Option Addr} (hx : ro L x = some (.pointer a)) (hy : ro L y = some (.pointer none)) : Vals P S w0 F L ⟨d, .binOp .eql T x y T', ty, pos, af, g⟩ (.bool a.isNone) := vals_eqp (u := u) (rho_of hx) (rho_of hy)
theorem qnp {T T' E : TypeId} [u : Ut P T (.pointer E)] {x y : Operand} {a : Option Addr} (hx : ro L x = some (.pointer a)) (hy : ro L y = some (.pointer none)) : Vals P S w0 F L ⟨d, .binOp .neq T x y T', ty, pos, af, g⟩ (.bool (!a.isNone)) := vals_nep (u := u) (rho_of hx) (rho_of hy)
theorem qcv {T T' : TypeId} {k k' : IntKind} [u : Ut P T (.int k)] [u' : Ut P T' (.int k')] {x : Operand} {a : Int} (hx : ro L x = some (.int k a)) : Vals P S w0 F L ⟨d, .convert T T' x, ty, pos, af, g⟩ (.int k' (k'.wrap a)) := vals_conv (u := u) (u' := u') (rho_of hx)
theorem qlk {κ ν : Type} [DecidableEq κ] {enc : κ → Value} {V : ν → Value} {m : List (κ × ν)} {b : Nat} {k T E : TypeId} {x y : Operand} [u : Ut P T (.map k E)] {i : TypeInfo} [f : Inf P E i] [K : Kenc P k enc] {z v : Value} {c : Bool} {kx : κ}
    (hx : ro L x = some (.map (some b))) (hy : ro L y = some (enc kx)) (hz : i.zero = some z) (h : MapIs w0 b enc V m) (hr : Lk V z m kx v c) (hb : b ∉ S) : Vals P S w0 F L ⟨d, .lookup T x y true, ty, pos, af, g⟩ (.tuple #[v, .bool c]) := by
  rcases hr.eq with ⟨r, h1, rfl, rfl⟩ | ⟨h1, rfl, rfl⟩
  · exact vals_look1 (u := u) (f := f) (rho_of hx) (rho_of hy) h hb K.key hz h1
  · exact vals_look0 (u := u) (f := f) (rho_of hx) (rho_of hy) h hb K.key hz h1
theorem qlv {κ ν : Type} [DecidableEq κ] {enc : κ → Value} {V : ν → Value} {m : List (κ × ν)} {b : Nat} {k T E : TypeId} {x y : Operand} [u : Ut P T (.map k E)] {i : TypeInfo} [f : Inf P E i] [K : Kenc P k enc] {z v : Value} {c : Bool} {kx : κ}
    (hx : ro L x = some (.map (some b))) (hy : ro L y = some (enc kx)) (hz : i.zero = some z) (h : MapIs w0 b enc V m) (hr : Lk V z m kx v c) (hb : b ∉ S) : Vals P S w0 F L ⟨d, .lookup T x y false, ty, pos, af, g⟩ v := by
  rcases hr.eq with ⟨r, h1, rfl, rfl⟩ | ⟨h1, rfl, rfl⟩
  · exact vals_lookv1 (u := u) (f := f) (rho_of hx) (rho_of hy) h hb K.key hz h1
  · exact vals_lookv0 (u := u) (f := f) (rho_of hx) (rho_of hy) h hb K.key hz h1
theorem qln {T E : TypeId} [u : Ut P T (.slice E)] {x : Operand} {a : Option Addr} {n c : Nat} (hx : ro L x = some (.slice a n c)) : Vals P S w0 F L ⟨d, .call { callee := .builtin .len, args := #[x], argTypes := #[T] }, ty, pos, af, g⟩ (.int .i64 n) := vals_len_slice (u := u) (rho_of hx)
theorem qlm {κ ν : Type} {enc : κ → Value} {V : ν → Value} {m : List (κ × ν)} {b : Nat} {k T E : TypeId} [u : Ut P T (.map k E)] {x : Operand} (hx : ro L x = some (.map (some b))) (h : MapIs w0 b enc V m) (hb : b ∉ S) : Vals P S w0 F L ⟨d, .call { callee := .builtin .len, args := #[x], argTypes := #[T] }, ty, pos, af, g⟩ (.int .i64 m.length) := vals_len_map (u := u) (rho_of hx) h hb
theorem qix {T E : TypeId} [u : Ut P T (.slice E)] {sz : Nat} [f : Sz P E sz] {x y : Operand} {b off n c : Nat} {k : IntKind} {z : Int} {j : Nat} (hx : ro L x = some (.slice (some ⟨b, off, none⟩) n c)) (hy : ro L y = some (.int k z)) (hz : z = (j : Int)) (h1 : Ar (j < n)) :
    Vals P S w0 F L ⟨d, .indexAddr T x y, ty, pos, af, g⟩ (.pointer (some ⟨b, off + j * sz, none⟩)) := vals_ix (u := u) (f := f) (rho_of hx) (by rw [rho_of hy, hz]) h1.h
theorem qic {T E : TypeId} [u : Ut P T (.slice E)] {sz : Nat} [f : Sz P E sz] {x : Operand} {b off n c : Nat} {k : IntKind} {z : Int} (hx : ro L x = some (.slice (some ⟨b, off, none⟩) n c)) (h1 : Ar (0 ≤ z ∧ z < n)) :
    Vals P S w0 F L ⟨d, .indexAddr T x (.const (.int k z)), ty, pos, af, g⟩ (.pointer (some ⟨b, off + z.toNat * sz, none⟩)) := vals_ix (u := u) (f := f) (j := z.toNat) (rho_of hx) (by rw [Int.toNat_of_nonneg h1.h.1]; exact rho_const) (by have := h1.h; omega)
theorem qfr {T E : TypeId} [u : Ut P T (.slice E)] {sz : Nat} [f : Sz P E sz] {x lo : Operand} {b off n c : Nat} {k : IntKind} {z : Int} {j : Nat} (hx : ro L x = some (.slice (some ⟨b, off, none⟩) n c)) (hlo : ro L lo = some (.int k z)) (hz : z = (j : Int)) (hj : Ar (j ≤ n)) :
    Vals P S w0 F L ⟨d, .slice T x (some lo) none none, ty, pos, af, g⟩ (.slice (some ⟨b, if c = j then off else off + j * sz, none⟩) (n - j) (c - j)) := vals_from (u := u) (f := f) (rho_of hx) (by rw [rho_of hlo, hz]) hj.h
/-- 's[:j]' -/
theorem qto {T E : TypeId} [u : Ut P T (.slice E)] {sz : Nat} [f : Sz P E sz] {x hi : Operand} {a : Option Addr} {n c : Nat} {k : IntKind} {z : Int} {j : Nat} (hx : ro L x = some (.slice a n c)) (hhi : ro L hi = some (.int k z)) (hz : z = (j : Int)) (hj : Ar (j ≤ c)) :
    Vals P S w0 F L ⟨d, .slice T x none (some hi) none, ty, pos, af, g⟩ (.slice a j c) := fun w _ _ => by
  obtain ⟨i, h2, h3⟩ := f.eq
  have h4 : (j : Int) ≤ c := by have := hj.h; omega
  subst h3
  subst hz
  simp only [execOp, rho_of hx, Option.map_some, Option.map_none, rho_of hhi, Instr.sliceAt, Sem.run_bind, run_underlying u.eq, Result.andThen, Instr.slice, Instr.sliceBounds, Instr.sliceBound, asIntOf, Sem.run_pure]
  have h5 : (0 : Int) ≤ (j : Int) ∧ (j : Int) ≤ (c : Int) := ⟨by omega, h4⟩
  simp only [h5, and_self, if_true, Sem.run_pure, sizeOf, typeInfo, Sem.run_bind, run_program, Result.andThen, h2]
  cases a with
  | none => simp
  | some a =>
    obtain ⟨b, off, s⟩ := a
    by_cases hc : c = 0
    · subst hc; simp
    · simp [hc, Addr.add]
theorem qmx {T T2 : TypeId} {x y : Operand} {a b : Int} (hx : ro L x = some (.int .i64 a)) (hy : ro L y = some (.int .i64 b)) :
    Vals P S w0 F L ⟨d, .call { callee := .builtin .max, args := #[x, y], argTypes := #[T, T2] }, ty, pos, af, g⟩ (.int .i64 (if a < b then b else a)) := fun w _ _ => by
  simp [execOp, rho_of hx, rho_of hy, resolve, invoke, builtin, Builtin.max_, Builtin.max2]
end
end Go.Proofs.Ytfelaicoedlejaa
