/-
  Strings of bytes.
-/
import Derived.Test.YtfelaicoedlejaaApp
import Derived.Laws.IdiomStrings
import Derived.Laws.Strings
namespace Go.Proofs.Ytfelaicoedlejaa
set_option linter.unusedVariables false

/-- A string. -/
def sv (l : List UInt8) : Value := .string ⟨l.toArray⟩
section
variable {P : Program} {S : List Nat} {w0 : World} {F : World → Prop} {L : Env} {d : Option Nat} {ty : TypeId} {pos : String} {af : Array Edge} {g : Option (Nat × Bool)}
theorem vals_bs {T T' E : TypeId} [u : Ut P T (.slice E)] [e : Ut P E (.int .u8)] [t : Ut P T' .string] {x : Operand} {a : Option Addr} {c : Nat} {l : List UInt8} (hx : rho L x = .slice a l.length c) (hS : Sl (fun u : UInt8 => [bv u]) 1 w0 a l) (hb : ∀ b off, a = some ⟨b, off, none⟩ → b ∉ S) :
    Vals P S w0 F L ⟨d, .convert T T' x, ty, pos, af, g⟩ (sv l) := fun w hk _ => by
  have hS' := hS.kp hk (fun b off e hm => hb b off e hm)
  have hrun : (convert T T' (.slice a l.length c)).run P w = .ok (sv l) w := by
    cases a with
    | none =>
      have hl : l = [] := by
        cases l with
        | nil => rfl
        | cons y l =>
          obtain ⟨b, off, e, _⟩ := hS 0 y rfl
          cases e
      subst hl
      rw [run_convert_bytes_string w T T' E none _ c u.eq e.eq t.eq]
      rfl
    | some ad =>
      refine run_convert_bytes_back w T T' E ad c l u.eq e.eq t.eq (fun j hj => ?_)
      obtain ⟨b, off, e1, hr⟩ := hS' j l[j] (List.getElem?_eq_getElem hj)
      cases e1
      have := hr.cell (i := 0) (v := bv l[j]) rfl
      rw [add_none]
      simpa [Nat.mul_one] using this
  simp only [execOp, hx, Sem.run_bind, hrun, Result.andThen, Sem.run_pure]
theorem vals_eqs {T T' : TypeId} {x y : Operand} {a b : List UInt8} (hx : rho L x = sv a) (hy : rho L y = sv b) : Vals P S w0 F L ⟨d, .binOp .eql T x y T', ty, pos, af, g⟩ (.bool (decide (a = b))) := fun w _ _ => by
  simp only [sv] at hx hy
  simp [execOp, hx, hy, eqGuard, binOp_string_eql]
  by_cases h : a = b <;> simp [h]
theorem vals_nes {T T' : TypeId} {x y : Operand} {a b : List UInt8} (hx : rho L x = sv a) (hy : rho L y = sv b) : Vals P S w0 F L ⟨d, .binOp .neq T x y T', ty, pos, af, g⟩ (.bool (decide (a ≠ b))) := fun w _ _ => by
  simp only [sv] at hx hy
  simp [execOp, hx, hy, eqGuard, binOp_string_neq]
  by_cases h : a = b <;> simp [h]
theorem qbs {T T' E : TypeId} [u : Ut P T (.slice E)] [e : Ut P E (.int .u8)] [t : Ut P T' .string] {x : Operand} {a : Option Addr} {c n : Nat} {l : List UInt8} (hx : ro L x = some (.slice a n c)) (hS : Sl (fun u : UInt8 => [bv u]) 1 w0 a l) (hn : n = l.length) (hb : ∀ b off, a = some ⟨b, off, none⟩ → b ∉ S) :
    Vals P S w0 F L ⟨d, .convert T T' x, ty, pos, af, g⟩ (sv l) := by
  subst hn
  exact vals_bs (u := u) (e := e) (t := t) (rho_of hx) hS hb
theorem qes {T T' : TypeId} {x y : Operand} {a b : List UInt8} {c : Bool} (hx : ro L x = some (sv a)) (hy : ro L y = some (sv b)) (h : Dc (a = b) c) : Vals P S w0 F L ⟨d, .binOp .eql T x y T', ty, pos, af, g⟩ (.bool c) := h.eq ▸ vals_eqs (rho_of hx) (rho_of hy)
end
end Go.Proofs.Ytfelaicoedlejaa
