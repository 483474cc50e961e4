/-
  The rows' own: how what comes is read.
-/
import Derived.Test.YtfelaicoedlejaaRows
import Derived.Test.YtfelaicoedlejaaRead
import Derived.Test.YtfelaicoedlejaaNt
namespace Go.Proofs.Ytfelaicoedlejaa
open Go.ChangeShapes Go.WideShapes Go.ChangeAt Go.RowKit
set_option linter.unusedVariables false

theorem own : ownKnob Try.prog.godebug = none := by kernel_rfl
theorem laidOut : laidOutB Try.prog = true := by kernel_rfl
theorem cells5 : Try.prog.cellsOf 5 = 1 := by kernel_rfl
theorem cells3 : Try.prog.cellsOf 3 = 1 := by kernel_rfl

/-- The elements of a slice, by how one is read. -/
theorem elems_of {H α : Type} {en : TypeId × Value → H} {P : Program} {w : World} {e : TypeId} {a : Option Addr} {n : Nat} (enc : α → List Value) (p : α → Prop) (h : SlOf en P w e a n)
    (rd : ∀ cs fuel y, DataW.trod en P w 0 (fun _ => true) true fuel e cs = some y → ∃ x : α, cs = enc x ∧ p x) : ∃ l : List α, l.length = n ∧ Sl enc (P.cellsOf e) w a l ∧ ∀ x ∈ l, p x := by
  have key : ∀ i : _root_.Fin n, ∃ x : α, (∃ b off, a = some ⟨b, off, none⟩ ∧ Row w b (off + i.1 * P.cellsOf e) (enc x)) ∧ p x := by
    intro i
    obtain ⟨b, off, cs, fuel, y, h1, h2, h3, h4⟩ := h.row i.1 i.2
    obtain ⟨x, rfl, hp⟩ := rd cs fuel y h4
    exact ⟨x, ⟨b, off, h1, h2⟩, hp⟩
  refine ⟨List.ofFn (fun i => Classical.choose (key i)), by simp, fun i x hx => ?_, fun x hx => ?_⟩
  · rw [List.getElem?_ofFn] at hx
    split at hx
    · rename_i hi
      cases hx
      exact (Classical.choose_spec (key ⟨i, hi⟩)).1
    · cases hx
  · obtain ⟨i, rfl⟩ := List.mem_ofFn.1 hx
    exact (Classical.choose_spec (key i)).2
theorem bytes_of {H : Type} {enc : TypeId × Value → H} {w : World} {a : Option Addr} {n : Nat} (h : SlOf enc Try.prog w 5 a n) : ∃ l : List UInt8, l.length = n ∧ Sl (fun u => [bv u]) 1 w a l := by
  obtain ⟨l, h1, h2, _⟩ := elems_of (fun u : UInt8 => [bv u]) (fun _ => True) h (fun cs fuel y hy => by
    obtain ⟨u, hu⟩ := one_byte Try.underlying5 hy
    exact ⟨u, hu, trivial⟩)
  rw [cells5] at h2
  exact ⟨l, h1, h2⟩
theorem ints_of {H : Type} {enc : TypeId × Value → H} {w : World} {a : Option Addr} {n : Nat} (h : SlOf enc Try.prog w 3 a n) : ∃ l : List Int, l.length = n ∧ Sl inc 1 w a l ∧ ∀ x ∈ l, -9223372036854775808 ≤ x ∧ x ≤ 9223372036854775807 := by
  obtain ⟨l, h1, h2, h3⟩ := elems_of inc (fun x => -9223372036854775808 ≤ x ∧ x ≤ 9223372036854775807) h (fun cs fuel y hy => by
    obtain ⟨n0, e0, _, w0⟩ := DataW.trod_int Try.underlying3 hy
    exact ⟨n0, e0, i64_of w0⟩)
  rw [cells3] at h2
  exact ⟨l, h1, h2, h3⟩
end Go.Proofs.Ytfelaicoedlejaa
