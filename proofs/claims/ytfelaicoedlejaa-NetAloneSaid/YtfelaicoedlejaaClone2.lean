/-
  'append([]T{}, s...)': a slice copied, also beside other effects.
-/
import Derived.Test.YtfelaicoedlejaaFree3
namespace Go.Proofs.Ytfelaicoedlejaa
set_option linter.unusedVariables false

theorem Row.append {w : World} {b off : Nat} {A B : List Value} (h : Row w b off A) (h' : Row w b (off + A.length) B) : Row w b off (A ++ B) := by
  obtain ⟨cs, T, f, h1, h2⟩ := h
  obtain ⟨cs', T', f', h3, h4⟩ := h'
  rw [h1] at h3
  cases h3
  refine ⟨cs, T, f, h1, fun i v hv => ?_⟩
  by_cases hi : i < A.length
  · rw [List.getElem?_append_left hi] at hv
    exact h2 i v hv
  · rw [List.getElem?_append_right (by omega)] at hv
    have := h4 _ v hv
    rw [show off + A.length + (i - A.length) = off + i by omega] at this
    exact this
theorem Row.nil_of {w : World} {b off off' : Nat} {A : List Value} (h : Row w b off A) : Row w b off' [] := by
  obtain ⟨cs, T, f, h1, _⟩ := h
  exact ⟨cs, T, f, h1, fun i v hv => by simp at hv⟩

section
variable {α : Type} {enc : α → List Value} {sz : Nat}
theorem Sl.tail {w : World} {b off : Nat} {x : α} {l : List α} (h : Sl enc sz w (some ⟨b, off, none⟩) (x :: l)) : Sl enc sz w (some ⟨b, off + sz, none⟩) l := fun i y hy => by
  have := h.row (i := i + 1) (x := y) (by simpa using hy)
  refine ⟨b, off + sz, rfl, ?_⟩
  rw [show off + sz + i * sz = off + (i + 1) * sz by rw [Nat.add_mul]; omega]
  exact this
theorem Sl.flat (hel : ∀ x, (enc x).length = sz) {w : World} {b : Nat} : ∀ {l : List α} {off : Nat}, l ≠ [] → Sl enc sz w (some ⟨b, off, none⟩) l → Row w b off (flt enc l)
  | [], _, h, _ => absurd rfl h
  | [x], off, _, h => by
    have := h.row (i := 0) (x := x) rfl
    simpa [flt] using this
  | x :: y :: l, off, _, h => by
    have h1 := h.row (i := 0) (x := x) rfl
    have h2 := Sl.flat hel (by simp) h.tail
    have : flt enc (x :: y :: l) = enc x ++ flt enc (y :: l) := by simp [flt]
    rw [this]
    refine Row.append (by simpa using h1) ?_
    rw [hel]
    exact h2

variable {P : Program} {w : World}
theorem run_cloneO {t ty e : TypeId} [u : Ut P t (.slice e)] {i : TypeInfo} [f : Inf P e i] {z : Value} (hz : i.zero = some z) (hzs : z.cells.size = i.size) (hsz : 0 < i.size) (hel : ∀ x, (enc x).length = i.size) (hone : ∀ x, allOne (enc x) = true)
    {a : Option Addr} {c : Nat} {l : List α} (hs : Sl enc i.size w a l) {b0 m : Nat} (hb0 : Blk w b0 (.cells #[] e)) (hm : m ≤ b0) (h63 : l.length ≤ maxLen) (hbytes : l.length * i.bytes ≤ 140737488355328) :
    ∃ v' w', (Builtin.append_ #[t, t] ty #[.slice (some ⟨b0, 0, none⟩) 0 0, .slice a l.length c]).run P w = .ok v' w' ∧ w'.ownsRow m e i.size v' l.length (flt enc l) ∧ Kp [] w w' := by
  have hown : w.ownsRow m e i.size (.slice (some ⟨b0, 0, none⟩) 0 0) 0 [] := by
    refine ⟨by simp, Or.inr ⟨b0, 0, #[], rfl, hm, hb0, Nat.le_refl _, by simp [maxLen], by simp, by simp⟩⟩
  by_cases hl : l = []
  · subst hl
    refine ⟨.slice (some ⟨b0, 0, none⟩) 0 0, w, ?_, hown, Kp.refl _ _⟩
    cases a <;> simp [Builtin.append_, run_underlying u.eq, sizeOf, typeInfo, f.eq, Builtin.lenOf, Builtin.firstCells, loadCells, loadCellsFrom, storeCells]
  · have hpos : 0 < l.length := List.length_pos_iff.2 hl
    obtain ⟨b, off, rfl, _⟩ := hs.at hpos
    have hr := hs.flat hel hl
    have hlen : (flt enc l).length = l.length * i.size := flt_length hel l
    obtain ⟨v', w', h1, h2, h3⟩ := run_append (P := P) (ty := ty) (d := .bool) (c := c) (u := u) (f := f) hz hzs hsz hown hlen hr (flt_all hone l) (by omega) (by simpa using hbytes) (by have := hb0.lt; omega)
    have hnews : ∀ j u', (flt enc l)[j]? = some u' → w.cell? ((⟨b, off, none⟩ : Addr).add j) = some u' := fun j u' hu => by rw [add_none]; exact hr.cell hu
    have hm' : l.length ≤ 9223372036854775807 := by simp only [maxLen] at h63; omega
    have hr2 := run_append_grow (P := P) w t ty e i z u.eq f.eq hz ⟨b0, 0, none⟩ 0 0 [] (by simp) (by simp) ⟨b, off, none⟩ l.length c (flt enc l) hlen hnews (by omega) (by omega) (growslice_fits (by omega) (by simpa using hbytes))
    have h1' := h1
    rw [hr2] at h1
    simp only [Result.ok.injEq] at h1
    obtain ⟨hv, hw⟩ := h1
    have hk : Kp [] w w' := by rw [← hw]; exact Kp.alloc_drew w _ rfl
    simp only [Nat.zero_add, List.nil_append] at h2
    exact ⟨v', w', h1', h2, hk⟩
theorem run_clone {t ty e : TypeId} [u : Ut P t (.slice e)] {i : TypeInfo} [f : Inf P e i] {z : Value} (hz : i.zero = some z) (hzs : z.cells.size = i.size) (hsz : 0 < i.size) (hel : ∀ x, (enc x).length = i.size) (hone : ∀ x, allOne (enc x) = true)
    {a : Option Addr} {c : Nat} {l : List α} (hs : Sl enc i.size w a l) {b0 m : Nat} (hb0 : Blk w b0 (.cells #[] e)) (hm : m ≤ b0) (h63 : l.length ≤ maxLen) (hbytes : l.length * i.bytes ≤ 140737488355328) :
    ∃ a' c' w', (Builtin.append_ #[t, t] ty #[.slice (some ⟨b0, 0, none⟩) 0 0, .slice a l.length c]).run P w = .ok (.slice a' l.length c') w' ∧ SlF m enc i.size w' a' c' l ∧ Kp [] w w' := by
  obtain ⟨v', w', h1, h2, h3⟩ := run_cloneO (P := P) (ty := ty) (c := c) (u := u) (f := f) hz hzs hsz hel hone hs hb0 hm h63 hbytes
  obtain ⟨a', c', e1, e2⟩ := SlF.own (l := l) hel h2 rfl
  subst e1
  exact ⟨a', c', w', h1, e2, h3⟩

/-- '[]T{}': a new slice of none. -/
def gE (m : Nat) (E : TypeId) : GD := ⟨Nat, 0, fun b => .slice (some ⟨b, 0, none⟩) 0 0, fun b w => m ≤ b ∧ Blk w b (.cells #[] E)⟩
theorem gE_stab {m : Nat} {E : TypeId} (x : (gE m E).X) : Stab [] ((gE m E).phi x) := fun w w' hk h => ⟨h.1, Blk.kp0 h.2 hk⟩
theorem run_empty {T E : TypeId} {i : TypeInfo} [u : Ut P T (.slice E)] [f : Inf P E i] : (Instr.buildSlice T 0 #[]).run P w = .ok (.slice (some ⟨w.heap.size, 0, none⟩) 0 0) { w with heap := w.heap.push (.cells #[] E) } := by
  simp [Instr.buildSlice, run_underlying u.eq, sizeOf, typeInfo, f.eq, Instr.fill, newRow, newObj, Sem.run, Result.andThen]
  congr 2
  exact Array.eq_empty_of_size_eq_zero (by simp)

variable {n : Nat} {ops : List Oper} {Q : Exit → Act → World → Prop} {w0 : World} {L : Env} {G : List (Nat × GD)} {K : Env → List Fact → Prop} {Γ : List Fact} {j : Nat} {ord : List Nat} {ty : TypeId} {pos : String} {af : Array Edge} {g : Option (Nat × Bool)}
theorem DerX.empty {m d : Nat} {T E : TypeId} {i : TypeInfo} [u : Ut P T (.slice E)] [f : Inf P E i] (hg : gdLook G j = some (gE m E)) (ho : ops[j]? = some ⟨some d, .buildSlice T 0 #[], ty, pos, af, g⟩) (hw : want ops L ⟨some d, .buildSlice T 0 #[], ty, pos, af, g⟩ = some true) (hm : m ≤ w0.heap.size)
    (h : ∀ b, DerX P w0 ops G K ord ((d, .slice (some ⟨b, 0, none⟩) 0 0) :: L) ((j, fun w => m ≤ b ∧ Blk w b (.cells #[] E)) :: Γ)) : DerX P w0 ops G K (j :: ord) L Γ := by
  refine DerX.eff (gE m E) hg ho hw (by simp [Op.operands]) (fun w h1 h2 => ?_) (fun x => h x)
  unfold OpRun
  have : (execOp (rho L) ⟨some d, .buildSlice T 0 #[], ty, pos, af, g⟩).run P w = .ok (.value (.slice (some ⟨w.heap.size, 0, none⟩) 0 0)) { w with heap := w.heap.push (.cells #[] E) } := by
    simp only [execOp, List.map_toArray, List.map_nil, Sem.run_bind, run_empty (u := u) (f := f), Result.andThen, Sem.run_pure]
  rw [this]
  exact ⟨w.heap.size, rfl, ⟨Nat.le_trans hm h1.size, Blk.push w _⟩, Kp.push w _ rfl⟩
theorem DerX.clone {m d : Nat} {t e : TypeId} {i : TypeInfo} [u : Ut P t (.slice e)] [f : Inf P e i] {z : Value} {s x : Operand} {b0 : Nat} {a : Option Addr} {c : Nat} (l : List α) (hel : ∀ x, (enc x).length = i.size) (hone : ∀ x, allOne (enc x) = true) (hg : gdLook G j = some (gS m enc i.size l))
    (ho : ops[j]? = some ⟨some d, .call { callee := .builtin .append, args := #[s, x], argTypes := #[t, t] }, ty, pos, af, g⟩) (hw : want ops L ⟨some d, .call { callee := .builtin .append, args := #[s, x], argTypes := #[t, t] }, ty, pos, af, g⟩ = some true) (hk : (known L s && known L x) = true)
    (hs : rho L s = .slice (some ⟨b0, 0, none⟩) 0 0) (hx : rho L x = .slice a l.length c) (hz : i.zero = some z) (hzs : Nat.beq z.cells.size i.size = true) (hsz : Nat.blt 0 i.size = true) (h63 : l.length ≤ maxLen) (hbytes : l.length * i.bytes ≤ 140737488355328)
    (hc : ∀ w, Kp [] w0 w → Facts ops j Γ w → Sl enc i.size w a l ∧ m ≤ b0 ∧ Blk w b0 (.cells #[] e))
    (h : ∀ (a : Option Addr) (c : Nat), DerX P w0 ops G K ord ((d, .slice a l.length c) :: L) ((j, fun w => SlF m enc i.size w a c l) :: Γ)) : DerX P w0 ops G K (j :: ord) L Γ := by
  refine DerX.eff (gS m enc i.size l) hg ho hw (by simpa [Op.operands, Call.operands] using hk) (fun w h1 h2 => ?_) (fun x => h x.1 x.2)
  obtain ⟨g1, g2, g3⟩ := hc w h1 h2
  obtain ⟨a', c', w', e1, e2, e3⟩ := run_clone (P := P) (ty := ty) (c := c) (u := u) (f := f) hz (Nat.eq_of_beq_eq_true hzs) (by simpa [Nat.blt_eq] using hsz) hel hone g1 g3 g2 h63 hbytes
  unfold OpRun
  have : (execOp (rho L) ⟨some d, .call { callee := .builtin .append, args := #[s, x], argTypes := #[t, t] }, ty, pos, af, g⟩).run P w = .ok (.value (.slice a' l.length c')) w' := by
    simp only [execOp, resolve, invoke, builtin, Sem.run_bind, Sem.run_pure, Result.andThen_ok, List.map_toArray, List.map_cons, List.map_nil, hs, hx, e1]
  rw [this]
  exact ⟨(a', c'), rfl, e2, e3⟩
end
end Go.Proofs.Ytfelaicoedlejaa
