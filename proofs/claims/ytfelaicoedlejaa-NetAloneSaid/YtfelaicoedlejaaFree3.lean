/-
  Effects beside one another: the rules that a walk uses.
-/
import Derived.Test.YtfelaicoedlejaaFree2
namespace Go.Proofs.Ytfelaicoedlejaa
set_option linter.unusedVariables false

section
variable {P : Program} {n : Nat} {ops : List Oper} {Q : Exit → Act → World → Prop} {w0 : World} {L : Env} {G : List (Nat × GD)} {K : Env → List Fact → Prop} {Γ : List Fact} {i : Nat} {ord : List Nat} {ty : TypeId} {pos : String} {af : Array Edge} {g : Option (Nat × Bool)}

theorem DerX.val {d : Nat} {op : Op} {v : Value} (hg : isGh G i = false) (ho : ops[i]? = some ⟨some d, op, ty, pos, af, g⟩) (hw : want ops L ⟨some d, op, ty, pos, af, g⟩ = some true) (hk : op.operands.toList.all (known L) = true)
    (hv : Vals P [] w0 (Facts ops i Γ) L ⟨some d, op, ty, pos, af, g⟩ v) (h : DerX P w0 ops G K ord ((d, v) :: L) Γ) : DerX P w0 ops G K (i :: ord) L Γ :=
  ⟨_, ho, Or.inl ⟨hg, Or.inr (Or.inr ⟨rfl, hw, v, hk, fun w hkp hF => by unfold OpRun; rw [hv w hkp hF]; exact ⟨rfl, Kp.refl _ _⟩, h⟩)⟩⟩
theorem DerX.skip {d : Nat} {op : Op} (hg : isGh G i = false) (ho : ops[i]? = some ⟨some d, op, ty, pos, af, g⟩) (hw : want ops L ⟨some d, op, ty, pos, af, g⟩ = some false)
    (h : DerX P w0 ops G K ord ((d, undef) :: L) Γ) : DerX P w0 ops G K (i :: ord) L Γ :=
  ⟨_, ho, Or.inl ⟨hg, Or.inr (Or.inl ⟨rfl, hw, h⟩)⟩⟩
/-- A call with a fixed answer. -/
theorem DerX.call {d : Nat} {f : FuncId} [Fnc P f] {args : List Operand} {vs : List Value} {tys : Array TypeId} {v : Value} (hg : isGh G i = false)
    (ho : ops[i]? = some ⟨some d, .call ⟨.value (.func f), args.toArray, tys⟩, ty, pos, af, g⟩) (hw : want ops L ⟨some d, .call ⟨.value (.func f), args.toArray, tys⟩, ty, pos, af, g⟩ = some true) (hk : (Op.call ⟨.value (.func f), args.toArray, tys⟩).operands.toList.all (known L) = true)
    (he : Evs L args vs) (hc : ∀ w, Kp [] w0 w → Facts ops i Γ w → Ret P f vs.toArray w v) (h : DerX P w0 ops G K ord ((d, v) :: L) Γ) : DerX P w0 ops G K (i :: ord) L Γ :=
  ⟨_, ho, Or.inl ⟨hg, Or.inr (Or.inr ⟨rfl, hw, v, hk, fun w h1 h2 => orun_call (by rw [he.arr]; exact (hc w h1 h2).mono (fun e w' ⟨g1, g2⟩ => ⟨v, g1, rfl, g2⟩)), h⟩)⟩⟩
/-- An effect. -/
theorem DerX.eff {o : Oper} (D : GD) (hg : gdLook G i = some D) (ho : ops[i]? = some o) (hw : want ops L o = some true) (hk : o.op.operands.toList.all (known L) = true)
    (hc : ∀ w, Kp [] w0 w → Facts ops i Γ w → OpRun P (rho L) o w (fun v w' => ∃ x, v = D.val x ∧ D.phi x w' ∧ Kp [] w w'))
    (h : ∀ x, DerX P w0 ops G K ord (addD o.dst (D.val x) L) ((i, D.phi x) :: Γ)) : DerX P w0 ops G K (i :: ord) L Γ := by
  have e : gdOf G i = D := by simp [gdOf, hg]
  refine ⟨o, ho, Or.inr ⟨by simp [isGh, hg], Or.inr ⟨rfl, hw, hk, ?_, ?_⟩⟩⟩
  · rw [e]; exact hc
  · rw [e]; exact h
/-- A call that is an effect. -/
theorem DerX.callE {d : Nat} {f : FuncId} [Fnc P f] {args : List Operand} {vs : List Value} {tys : Array TypeId} (D : GD) (hg : gdLook G i = some D)
    (ho : ops[i]? = some ⟨some d, .call ⟨.value (.func f), args.toArray, tys⟩, ty, pos, af, g⟩) (hw : want ops L ⟨some d, .call ⟨.value (.func f), args.toArray, tys⟩, ty, pos, af, g⟩ = some true) (hk : (Op.call ⟨.value (.func f), args.toArray, tys⟩).operands.toList.all (known L) = true)
    (he : Evs L args vs) (hc : ∀ w, Kp [] w0 w → Facts ops i Γ w → Calls P f vs.toArray w (fun e w' => ∃ x, e = .returned (D.val x) ∧ D.phi x w' ∧ Kp [] w w'))
    (h : ∀ x, DerX P w0 ops G K ord ((d, D.val x) :: L) ((i, D.phi x) :: Γ)) : DerX P w0 ops G K (i :: ord) L Γ :=
  DerX.eff D hg ho hw hk (fun w h1 h2 => orun_call (by rw [he.arr]; exact (hc w h1 h2).mono (fun e w' ⟨x, g1, g2, g3⟩ => ⟨D.val x, g1, x, rfl, g2, g3⟩))) h

/-- What is promised of a slice of l. -/
def gS {α : Type} (m : Nat) (enc : α → List Value) (sz : Nat) (l : List α) : GD := ⟨Option Addr × Nat, (none, 0), fun q => .slice q.1 l.length q.2, fun q w => SlF m enc sz w q.1 q.2 l⟩
theorem gS_stab {α : Type} {m : Nat} {enc : α → List Value} {sz : Nat} {l : List α} (x : (gS m enc sz l).X) : Stab [] ((gS m enc sz l).phi x) := fun w w' hk h => SlF.kp0 h hk
theorem DerX.callS {α : Type} {enc : α → List Value} {sz : Nat} {m d : Nat} {f : FuncId} [Fnc P f] {args : List Operand} {vs : List Value} {tys : Array TypeId} (l : List α) (hg : gdLook G i = some (gS m enc sz l))
    (ho : ops[i]? = some ⟨some d, .call ⟨.value (.func f), args.toArray, tys⟩, ty, pos, af, g⟩) (hw : want ops L ⟨some d, .call ⟨.value (.func f), args.toArray, tys⟩, ty, pos, af, g⟩ = some true) (hk : (Op.call ⟨.value (.func f), args.toArray, tys⟩).operands.toList.all (known L) = true)
    (he : Evs L args vs) (hm : m ≤ w0.heap.size) (hc : ∀ w, Kp [] w0 w → Facts ops i Γ w → RetS P enc sz f vs.toArray w l)
    (h : ∀ (a : Option Addr) (c : Nat), DerX P w0 ops G K ord ((d, .slice a l.length c) :: L) ((i, fun w => SlF m enc sz w a c l) :: Γ)) : DerX P w0 ops G K (i :: ord) L Γ :=
  DerX.callE (gS m enc sz l) hg ho hw hk he (fun w h1 h2 => (hc w h1 h2).mono (fun e w' ⟨a, c, g1, g2, g3⟩ => ⟨(a, c), g1, g2.mono (Nat.le_trans hm h1.size), g3⟩)) (fun x => h x.1 x.2)
/-- A slice written out. -/
theorem DerX.buildSlice {α : Type} {enc : α → List Value} {sz m d : Nat} {T E : TypeId} {parts : List (Nat × Operand)} {vs : List (Nat × Value)} {b : Nat} (l : List α) (hel : ∀ x, (enc x).length = sz) (hg : gdLook G i = some (gS m enc sz l)) (hb : Nat.beq l.length b = true)
    (ho : ops[i]? = some ⟨some d, .buildSlice T b parts.toArray, ty, pos, af, g⟩) (hw : want ops L ⟨some d, .buildSlice T b parts.toArray, ty, pos, af, g⟩ = some true) (hk : (Op.buildSlice T b parts.toArray).operands.toList.all (known L) = true)
    (he : (parts.map fun p => (p.1, rho L p.2)) = vs) (hm : m ≤ w0.heap.size) (hrun : ∀ w : World, (Instr.buildSlice T b vs.toArray).run P w = .ok (.slice (some ⟨w.heap.size, 0, none⟩) b b) { w with heap := w.heap.push (.cells (flt enc l).toArray E) })
    (h : ∀ (a : Option Addr) (c : Nat), DerX P w0 ops G K ord ((d, .slice a l.length c) :: L) ((i, fun w => SlF m enc sz w a c l) :: Γ)) : DerX P w0 ops G K (i :: ord) L Γ := by
  have hb' := Nat.eq_of_beq_eq_true hb
  subst hb'
  refine DerX.eff (gS m enc sz l) hg ho hw hk (fun w h1 h2 => ?_) (fun x => h x.1 x.2)
  unfold OpRun
  have e : (parts.toArray.map fun (p : Nat × Operand) => (p.1, rho L p.2)) = vs.toArray := by simp [he]
  have : (execOp (rho L) ⟨some d, .buildSlice T l.length parts.toArray, ty, pos, af, g⟩).run P w = .ok (.value (.slice (some ⟨w.heap.size, 0, none⟩) l.length l.length)) { w with heap := w.heap.push (.cells (flt enc l).toArray E) } := by
    simp only [execOp, e, Sem.run_bind, hrun w, Result.andThen, Sem.run_pure]
  rw [this]
  refine ⟨(some ⟨w.heap.size, 0, none⟩, l.length), rfl, ⟨Nat.le_refl _, fun b off e => ?_, ?_⟩, Kp.push w _ rfl⟩
  · simp only [Option.some.injEq, Addr.mk.injEq] at e
    have := h1.size
    omega
  · refine Sl.of_blk hel (pre := []) (post := []) (T := E) ?_
    have := Blk.push w (.cells (flt enc l).toArray E)
    simpa using this
theorem DerX.tl {k : Nat} (h : ∀ w', Kp [] w0 w' → (∀ p ∈ Γ, p.2 w') → SG P n ops Q (ops.drop k) L w') : DerX P w0 ops G (KX n w0 P ops Q k) [] L Γ := h
end
end Go.Proofs.Ytfelaicoedlejaa
