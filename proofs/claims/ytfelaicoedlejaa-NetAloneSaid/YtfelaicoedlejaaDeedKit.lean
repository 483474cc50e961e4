/-
  How deeds are read.
-/
import Derived.Test.YtfelaicoedlejaaRowKit
import Derived.Test.YtfelaicoedlejaaDeed
namespace Go.Proofs.Ytfelaicoedlejaa
open Go.ChangeShapes Go.WideShapes Go.ChangeAt Go.RowKit
set_option linter.unusedVariables false
theorem cells58 : Try.prog.cellsOf 58 = 5 := by kernel_rfl
theorem cells9 : Try.prog.cellsOf 9 = 1 := by kernel_rfl
theorem cells29 : Try.prog.cellsOf 29 = 1 := by kernel_rfl
theorem open_slc {H : Type} {enc : TypeId × Value → H} {P : Program} {w : World} {t e : TypeId} {cs : List Value} {fuel : Nat} {x : DataW H × List MemPlace} (ht : P.underlying t = some (.slice e)) (he : 0 < P.cellsOf e)
    (hf : DataW.trod enc P w 0 (fun _ => true) true fuel t cs = some x) : ∃ a n c, cs = [.slice a n c] ∧ n ≤ c ∧ c ≤ maxLen ∧ SlOf enc P w e a n := by
  rcases Go.Deep.open_slice ht hf with ⟨hc, _⟩ | ⟨a, len, cap, m, n, D, Pl, hc, _, hl, hm, hmm, _, hall⟩
  · exact ⟨none, 0, 0, hc, by omega, by omega, ⟨fun i hi => by omega⟩⟩
  · have hmc : m = cap := by rw [hmm]; simp
    refine ⟨some a, len, cap, hc, hl, hm, ⟨fun i hi => ?_⟩⟩
    obtain ⟨cs0, h10, _⟩ := hall 0 (by omega)
    obtain ⟨b, off, ha, _, _⟩ := row_of_cells h10 he
    have ha' : a = ⟨b, off, none⟩ := by simpa [Addr.add] using ha
    subst ha'
    obtain ⟨cs, h1, h2⟩ := hall i (by omega)
    rw [add_none] at h1
    obtain ⟨b2, off2, hb2, hr, hlen⟩ := row_of_cells h1 he
    simp only [Addr.mk.injEq] at hb2
    obtain ⟨rfl, rfl, _⟩ := hb2
    exact ⟨b, off, cs, _, _, rfl, hr, hlen, h2⟩
def DdOk (w : World) (d : Dd) : Prop := SlI w d.a d.later
set_option maxRecDepth 100000 in
theorem deed_of {H : Type} {enc : TypeId × Value → H} {w : World} {cs : List Value} {fuel : Nat} {y : DataW H × List MemPlace} (h : DataW.trod enc Try.prog w 0 (fun _ => true) true fuel 58 cs = some y) : ∃ d : Dd, cs = dcl d ∧ SlI w d.a d.later := by
  obtain ⟨xs, m, _, _, hl, hlen, hf⟩ := DataW.trod_struct Try.underlying58 h
  rw [cells58] at hl
  match cs, hl, xs, hlen with
  | [x0, x1, x2, x3, x4], _, [y0, y1, y2, y3, y4], _ =>
    have h0 : DataW.trod enc Try.prog w 0 (fun _ => true) true m 5 (([x0, x1, x2, x3, x4].drop 0).take (Try.prog.cellsOf 5)) = some y0 := hf 0 _ rfl
    rw [cells5] at h0
    have h1 : DataW.trod enc Try.prog w 0 (fun _ => true) true m 3 (([x0, x1, x2, x3, x4].drop 1).take (Try.prog.cellsOf 3)) = some y1 := hf 1 _ rfl
    rw [cells3] at h1
    have h2 : DataW.trod enc Try.prog w 0 (fun _ => true) true m 3 (([x0, x1, x2, x3, x4].drop 2).take (Try.prog.cellsOf 3)) = some y2 := hf 2 _ rfl
    rw [cells3] at h2
    have h3 : DataW.trod enc Try.prog w 0 (fun _ => true) true m 9 (([x0, x1, x2, x3, x4].drop 3).take (Try.prog.cellsOf 9)) = some y3 := hf 3 _ rfl
    rw [cells9] at h3
    have h4 : DataW.trod enc Try.prog w 0 (fun _ => true) true m 29 (([x0, x1, x2, x3, x4].drop 4).take (Try.prog.cellsOf 29)) = some y4 := hf 4 _ rfl
    rw [cells29] at h4
    obtain ⟨u, e0⟩ := one_byte Try.underlying5 h0
    obtain ⟨n1, e1, _, w1⟩ := DataW.trod_int Try.underlying3 h1
    obtain ⟨n2, e2, _, w2⟩ := DataW.trod_int Try.underlying3 h2
    obtain ⟨s, e3, _, w3⟩ := DataW.trod_string Try.underlying9 h3
    obtain ⟨a, n, c, e4, _, _, hsl⟩ := open_slc Try.underlying29 (by rw [cells3]; omega) h4
    obtain ⟨l, hl1, hl2, hl3⟩ := ints_of hsl
    subst hl1
    refine ⟨⟨u, n1, n2, s.data.toList, l, a, c⟩, ?_, hl2⟩
    have e0 : [x0] = [bv u] := e0
    have e1 : [x1] = [.int .i64 n1] := e1
    have e2 : [x2] = [.int .i64 n2] := e2
    have e3 : [x3] = [.string s] := e3
    have e4 : [x4] = [.slice a l.length c] := e4
    rw [List.cons.injEq] at e0 e1 e2 e3 e4
    rw [e0.1, e1.1, e2.1, e3.1, e4.1]
    show _ = [bv u, .int .i64 n1, .int .i64 n2, .string ⟨s.data.toList.toArray⟩, .slice a l.length c]
    rw [Array.toArray_toList]
theorem deeds_of {H : Type} {enc : TypeId × Value → H} {w : World} {a : Option Addr} {n : Nat} (h : SlOf enc Try.prog w 58 a n) : ∃ l : List Dd, l.length = n ∧ Sl dcl 5 w a l ∧ ∀ d ∈ l, SlI w d.a d.later := by
  obtain ⟨l, h1, h2, h3⟩ := elems_of dcl (fun d => SlI w d.a d.later) h (fun cs fuel y hy => deed_of hy)
  rw [cells58] at h2
  exact ⟨l, h1, h2, h3⟩
end Go.Proofs.Ytfelaicoedlejaa
