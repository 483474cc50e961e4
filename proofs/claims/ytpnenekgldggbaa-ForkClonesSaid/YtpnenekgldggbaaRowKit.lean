/-
  The rows' own: how the blocks that come are read.
-/
import Derived.Test.YtpnenekgldggbaaRows
import Derived.Test.YtpnenekgldggbaaComs
import Derived.Test.YtpnenekgldggbaaRead
namespace Go.Proofs.Ytpnenekgldggbaa
open Go.ChangeShapes Go.WideShapes Go.ChangeAt Go.RowKit
set_option linter.unusedVariables false

theorem own : ownKnob Try.prog.godebug = none := by kernel_rfl
theorem laidOut : laidOutB Try.prog = true := by kernel_rfl
theorem cells35 : Try.prog.cellsOf 35 = 2 := by kernel_rfl
theorem cells5 : Try.prog.cellsOf 5 = 1 := by kernel_rfl

theorem coms_of {H : Type} {enc : TypeId × Value → H} {w : World} {a : Option Addr} {n : Nat} (h : SlOf enc Try.prog w 35 a n) : ∃ c : Nat → UInt8 × UInt8, Coms w a n c := by
  have : ∀ i, ∃ p : UInt8 × UInt8, i < n → ∃ b off, a = some ⟨b, off, none⟩ ∧ Row w b (off + i * 2) [bv p.1] ∧ Row w b (off + i * 2 + 1) [bv p.2] := by
    intro i
    by_cases hi : i < n
    · obtain ⟨b, off, cs, fuel, y, h1, h2, h3, h4⟩ := h.row i hi
      obtain ⟨x0, x1, rfl⟩ := two_bytes Try.underlying35 Try.underlying5 Try.underlying5 rfl rfl cells5 cells5 cells35 h4
      rw [cells35] at h2
      refine ⟨(x0, x1), fun _ => ⟨b, off, h1, ?_, ?_⟩⟩
      · obtain ⟨c, T, f, g1, g2⟩ := h2
        exact ⟨c, T, f, g1, fun j v hj => g2 j v (by
          have : j = 0 := by have := (List.getElem?_eq_some_iff.1 hj).1; simp at this; omega
          subst this; simpa using hj)⟩
      · obtain ⟨c, T, f, g1, g2⟩ := h2
        exact ⟨c, T, f, g1, fun j v hj => by
          have : j = 0 := by have := (List.getElem?_eq_some_iff.1 hj).1; simp at this; omega
          subst this
          have := g2 1 v (by simpa using hj)
          simpa [Nat.add_assoc] using this⟩
    · exact ⟨(0, 0), fun h' => absurd h' hi⟩
  exact ⟨fun i => Classical.choose (this i), fun i hi => Classical.choose_spec (this i) hi⟩
theorem com_of {H : Type} {enc : TypeId × Value → H} {w : World} {cs : Array Value} {d : DataW H} {ps : List MemPlace} (h : DataW.Trod enc Try.prog w 0 (fun _ => true) true 35 (.agg cs) d ps) : ∃ u v : UInt8, cs = #[bv u, bv v] := by
  obtain ⟨fuel, hf⟩ := h
  obtain ⟨u, v, e⟩ := two_bytes Try.underlying35 Try.underlying5 Try.underlying5 rfl rfl cells5 cells5 cells35 hf
  refine ⟨u, v, ?_⟩
  have : cs.toList = [bv u, bv v] := by simpa [Value.cells] using e
  exact Array.toList_inj.1 (by simpa using this)
theorem bytes_of {H : Type} {enc : TypeId × Value → H} {w : World} {a : Option Addr} {n : Nat} (h : SlOf enc Try.prog w 5 a n) : ∃ l : List UInt8, l.length = n ∧ Sl (fun u => [bv u]) 1 w a l := by
  have key : ∀ i, ∃ u : UInt8, i < n → ∃ b off, a = some ⟨b, off, none⟩ ∧ Row w b (off + i * 1) [bv u] := by
    intro i
    by_cases hi : i < n
    · obtain ⟨b, off, cs, fuel, y, h1, h2, h3, h4⟩ := h.row i hi
      obtain ⟨u, rfl⟩ := one_byte Try.underlying5 h4
      rw [cells5] at h2
      exact ⟨u, fun _ => ⟨b, off, h1, h2⟩⟩
    · exact ⟨0, fun h' => absurd h' hi⟩
  refine ⟨(List.range n).map (fun i => Classical.choose (key i)), by simp, fun i x hx => ?_⟩
  have hi : i < n := by have := (List.getElem?_eq_some_iff.1 hx).1; simpa using this
  rw [List.getElem?_map, List.getElem?_range hi] at hx
  simp only [Option.map_some, Option.some.injEq] at hx
  have := Classical.choose_spec (key i) hi
  rw [hx] at this
  exact this
theorem cells29 : Try.prog.cellsOf 29 = 8 := by kernel_rfl
theorem dg_of {H : Type} {enc : TypeId × Value → H} {w : World} {v : Value} {d : DataW H} {ps : List MemPlace} {b0 : Nat} (hval : Value.okWide Try.prog w .any b0 29 v) (h : DataW.Trod enc Try.prog w 0 (fun _ => true) true 29 v d ps) : ∃ x : Dg, v = dv x := by
  simp only [Value.okWide, Try.underlying29] at hval
  obtain ⟨xs, rfl, _⟩ := hval
  obtain ⟨fuel, hf⟩ := h
  obtain ⟨x, hx⟩ := arr_bytes Try.underlying29 Try.underlying5 cells5 cells29 hf
  refine ⟨x, ?_⟩
  have : xs.toList = dc x := by simpa [Value.cells] using hx
  rw [dv, ← this]
end Go.Proofs.Ytpnenekgldggbaa
