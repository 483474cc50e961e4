/-
  More of integers.
-/
import Derived.Test.YtfelaicoedlejaaRead
namespace Go.Proofs.Ytfelaicoedlejaa
set_option linter.unusedVariables false
section
variable {P : Program} {L : Env} {S : List Nat} {w0 : World} {F : World → Prop} {d : Option Nat} {ty : TypeId} {pos : String} {af : Array Edge} {g : Option (Nat × Bool)}
theorem vals_remu {T T' : TypeId} {x y : Operand} {a b : Int} (hx : rho L x = .int .u64 a) (hy : rho L y = .int .u64 b) (h0 : 0 ≤ a) (h1 : a < 18446744073709551616) (h2 : 0 < b) :
    Vals P S w0 F L ⟨d, .binOp .rem T x y T', ty, pos, af, g⟩ (.int .u64 (a % b)) := fun w _ _ => by
  have hb : b ≠ 0 := by omega
  simp [execOp, hx, hy, eqGuard, binOp, Op.intDiv, hb]
  exact Int.tmod_eq_emod_of_nonneg h0
/-- Of any int, as an unsigned number, the rest by m. -/
theorem conv_rem (depth : Int) (m : Nat) (hm : 0 < m) (hm2 : m < 4294967296) : ∃ k : Nat, k < m ∧ (IntKind.wrap .u64 depth) % (m : Int) = (k : Int) ∧ IntKind.wrap .i64 (k : Int) = (k : Int) ∧ 0 ≤ IntKind.wrap .u64 depth ∧ IntKind.wrap .u64 depth < 18446744073709551616 := by
  have h0 : 0 ≤ IntKind.wrap .u64 depth ∧ IntKind.wrap .u64 depth < 18446744073709551616 := by
    simp only [IntKind.wrap, IntKind.signed, IntKind.bits]
    simp
    omega
  have h1 := Int.emod_nonneg (IntKind.wrap .u64 depth) (b := (m : Int)) (by omega)
  have h2 := Int.emod_lt_of_pos (IntKind.wrap .u64 depth) (b := (m : Int)) (by omega)
  refine ⟨((IntKind.wrap .u64 depth) % (m : Int)).toNat, by omega, by omega, ?_, h0.1, h0.2⟩
  generalize hk : ((IntKind.wrap .u64 depth) % (m : Int)).toNat = k
  have : k < m := by omega
  simp only [IntKind.wrap, IntKind.signed, IntKind.bits]
  simp
  omega
end
end Go.Proofs.Ytfelaicoedlejaa
