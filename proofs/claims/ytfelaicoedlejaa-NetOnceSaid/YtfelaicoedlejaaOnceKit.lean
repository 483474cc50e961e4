/-
  How arrays of four bytes are read.
-/
import Derived.Test.YtfelaicoedlejaaRowKit
import Derived.Test.YtfelaicoedlejaaOnce
namespace Go.Proofs.Ytfelaicoedlejaa
open Go.ChangeShapes Go.WideShapes Go.ChangeAt Go.RowKit
set_option linter.unusedVariables false
theorem cells28 : Try.prog.cellsOf 28 = 4 := by kernel_rfl
theorem q4s_of {H : Type} {enc : TypeId × Value → H} {w : World} {a : Option Addr} {n : Nat} (h : SlOf enc Try.prog w 28 a n) : ∃ l : List Q4, l.length = n ∧ Sl q4 4 w a l := by
  obtain ⟨l, h1, h2, _⟩ := elems_of q4 (fun _ => True) h (fun cs fuel y hy => by
    obtain ⟨d, hd⟩ := arr_bytes Try.underlying28 Try.underlying5 cells5 cells28 hy
    obtain ⟨d, hl⟩ := d
    match d, hl with
    | [x0, x1, x2, x3], _ => exact ⟨(x0, x1, x2, x3), hd, trivial⟩)
  rw [cells28] at h2
  exact ⟨l, h1, h2⟩
end Go.Proofs.Ytfelaicoedlejaa
