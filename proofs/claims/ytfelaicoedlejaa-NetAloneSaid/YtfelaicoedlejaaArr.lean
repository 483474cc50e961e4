/-
  Addresses of an array's elements.
-/
import Derived.Test.YtfelaicoedlejaaApp
namespace Go.Proofs.Ytfelaicoedlejaa
set_option linter.unusedVariables false

section
variable {P : Program} {S : List Nat} {w0 : World} {F : World → Prop} {L : Env} {d : Option Nat} {ty : TypeId} {pos : String} {af : Array Edge} {g : Option (Nat × Bool)}
theorem vals_ia {T E : TypeId} {n : Nat} [u : Ut P T (.array n E)] {sz : Nat} [f : Sz P E sz] {x y : Operand} {b off : Nat} {k : IntKind} {j : Nat} (hx : rho L x = .pointer (some ⟨b, off, none⟩)) (hy : rho L y = .int k (j : Int)) (h1 : j < n) :
    Vals P S w0 F L ⟨d, .indexAddr T x y, ty, pos, af, g⟩ (.pointer (some ⟨b, off + j * sz, none⟩)) := fun w _ _ => by
  obtain ⟨i, h2, h3⟩ := f.eq
  have h4 : (j : Int) < n := by omega
  subst h3
  simp [execOp, hx, hy, Instr.indexAt, asIntOf, run_underlying u.eq, sizeOf, typeInfo, Instr.sureAddr, h2, h1, add_none]
theorem qia {T E : TypeId} {n : Nat} [u : Ut P T (.array n E)] {sz : Nat} [f : Sz P E sz] {x y : Operand} {b off : Nat} {k : IntKind} {z : Int} {j : Nat} (hx : ro L x = some (.pointer (some ⟨b, off, none⟩))) (hy : ro L y = some (.int k z)) (hz : z = (j : Int)) (h1 : Ar (j < n)) :
    Vals P S w0 F L ⟨d, .indexAddr T x y, ty, pos, af, g⟩ (.pointer (some ⟨b, off + j * sz, none⟩)) := vals_ia (u := u) (f := f) (rho_of hx) (by rw [rho_of hy, hz]) h1.h
end
end Go.Proofs.Ytfelaicoedlejaa
