/-
  The blocks that come, in memory.
-/
import Derived.Test.YtpnenekgldggbaaTold
import Derived.Test.YtpnenekgldggbaaArith
namespace Go.Proofs.Ytpnenekgldggbaa
set_option linter.unusedVariables false
/-- The blocks that come, in memory: pairs of bytes. -/
def Coms (w : World) (a : Option Addr) (n : Nat) (c : Nat → UInt8 × UInt8) : Prop := ∀ i, i < n → ∃ b off, a = some ⟨b, off, none⟩ ∧ Row w b (off + i * 2) [bv (c i).1] ∧ Row w b (off + i * 2 + 1) [bv (c i).2]
theorem Coms.kp0 {w w' : World} {a : Option Addr} {n : Nat} {c : Nat → UInt8 × UInt8} (h : Coms w a n c) (hk : Kp [] w w') : Coms w' a n c := fun i hi => by
  obtain ⟨b, off, h1, h2, h3⟩ := h i hi
  exact ⟨b, off, h1, h2.kp0 hk, h3.kp0 hk⟩

theorem height_has {t : Tr} {x : Dg} (h : t.has x = true) : t.height x = (t.ht x : Int) := by rw [Tr.height, Tr.has_some h]; rfl

end Go.Proofs.Ytpnenekgldggbaa
