/-
  How arrays of two and of three bytes are read.
-/
import Derived.Test.YtfelaicoedlejaaRowKit
import Derived.Test.YtfelaicoedlejaaCuts
namespace Go.Proofs.Ytfelaicoedlejaa
open Go.ChangeShapes Go.WideShapes Go.ChangeAt Go.RowKit
set_option linter.unusedVariables false
theorem cells53 : Try.prog.cellsOf 53 = 3 := by kernel_rfl
theorem cells52 : Try.prog.cellsOf 52 = 2 := by kernel_rfl
theorem q3s_of {H : Type} {enc : TypeId × Value → H} {w : World} {a : Option Addr} {n : Nat} (h : SlOf enc Try.prog w 53 a n) : ∃ l : List Q3, l.length = n ∧ Sl q3 3 w a l := by
  obtain ⟨l, h1, h2, _⟩ := elems_of q3 (fun _ => True) h (fun cs fuel y hy => by
    obtain ⟨d, hd⟩ := arr_bytes Try.underlying53 Try.underlying5 cells5 cells53 hy
    obtain ⟨d, hl⟩ := d
    match d, hl with
    | [x0, x1, x2], _ => exact ⟨(x0, x1, x2), hd, trivial⟩)
  rw [cells53] at h2
  exact ⟨l, h1, h2⟩
set_option maxRecDepth 100000 in
theorem a2_of {H : Type} {enc : TypeId × Value → H} {w : World} {v : Value} {d : DataW H} {ps : List MemPlace} {b0 : Nat} (hval : Value.okWide Try.prog w .any b0 52 v) (h : DataW.Trod enc Try.prog w 0 (fun _ => true) true 52 v d ps) : ∃ p q : UInt8, v = .agg #[bv p, bv q] := by
  simp only [Value.okWide, Try.underlying52] at hval
  obtain ⟨xs, rfl, _⟩ := hval
  obtain ⟨fuel, hf⟩ := h
  obtain ⟨x, hx⟩ := arr_bytes Try.underlying52 Try.underlying5 cells5 cells52 hf
  obtain ⟨x, hl⟩ := x
  match x, hl with
  | [p, q], hl =>
    refine ⟨p, q, ?_⟩
    have hx : xs.toList = dc ⟨[p, q], hl⟩ := by simpa [Value.cells] using hx
    have : xs.toList = [bv p, bv q] := hx.trans rfl
    have e : xs = #[bv p, bv q] := Array.toList_inj.1 (by simpa using this)
    rw [e]
end Go.Proofs.Ytfelaicoedlejaa
