/-
  Calls that answer a slice of which the caller may dispose.
-/
import Derived.Test.YtfelaicoedlejaaClone2
namespace Go.Proofs.Ytfelaicoedlejaa
set_option linter.unusedVariables false

section
variable {α : Type} {enc : α → List Value} {sz : Nat} {P : Program}
def RetO (P : Program) (E : TypeId) (enc : α → List Value) (sz : Nat) (f : FuncId) (args : Array Value) (w : World) (l : List α) : Prop := Calls P f args w (fun e w' => ∃ v, e = .returned v ∧ w'.ownsRow w.heap.size E sz v l.length (flt enc l) ∧ Kp [] w w')
theorem own_mono {w : World} {base base' : Nat} {E : TypeId} {v : Value} {n : Nat} {xs : List Value} (h : w.ownsRow base E sz v n xs) (hb : base' ≤ base) : w.ownsRow base' E sz v n xs := by
  obtain ⟨h1, h2⟩ := h
  refine ⟨h1, ?_⟩
  rcases h2 with h2 | ⟨g, cap, cur, h3, h4, h5⟩
  · exact Or.inl h2
  · exact Or.inr ⟨g, cap, cur, h3, Nat.le_trans hb h4, h5⟩
theorem RetO.toS {E : TypeId} {f : FuncId} {args : Array Value} {w : World} {l : List α} (hel : ∀ x, (enc x).length = sz) (h : RetO P E enc sz f args w l) : RetS P enc sz f args w l :=
  h.mono (fun e w' ⟨v, h1, h2, h3⟩ => by
    obtain ⟨a, c, e1, e2⟩ := SlF.own hel h2 rfl
    exact ⟨a, c, by rw [h1, e1], e2, h3⟩)
/-- What is promised of a slice that is owned. -/
def gO (m : Nat) (E : TypeId) (enc : α → List Value) (sz : Nat) (l : List α) : GD := ⟨Value, undef, fun v => v, fun v w => w.ownsRow m E sz v l.length (flt enc l)⟩
theorem gO_stab {m : Nat} {E : TypeId} {l : List α} (x : (gO m E enc sz l).X) : Stab [] ((gO m E enc sz l).phi x) := fun w w' hk h => own_kp0 h hk
variable {n : Nat} {ops : List Oper} {Q : Exit → Act → World → Prop} {w0 : World} {L : Env} {G : List (Nat × GD)} {K : Env → List Fact → Prop} {Γ : List Fact} {i : Nat} {ord : List Nat} {ty : TypeId} {pos : String} {af : Array Edge} {g : Option (Nat × Bool)}
theorem DerX.callO {E : TypeId} {m d : Nat} {f : FuncId} [Fnc P f] {args : List Operand} {vs : List Value} {tys : Array TypeId} (l : List α) (hg : gdLook G i = some (gO m E enc sz l))
    (ho : ops[i]? = some ⟨some d, .call ⟨.value (.func f), args.toArray, tys⟩, ty, pos, af, g⟩) (hw : want ops L ⟨some d, .call ⟨.value (.func f), args.toArray, tys⟩, ty, pos, af, g⟩ = some true) (hk : (Op.call ⟨.value (.func f), args.toArray, tys⟩).operands.toList.all (known L) = true)
    (he : Evs L args vs) (hm : m ≤ w0.heap.size) (hc : ∀ w, Kp [] w0 w → Facts ops i Γ w → RetO P E enc sz f vs.toArray w l)
    (h : ∀ v, DerX P w0 ops G K ord ((d, v) :: L) ((i, fun w => w.ownsRow m E sz v l.length (flt enc l)) :: Γ)) : DerX P w0 ops G K (i :: ord) L Γ :=
  DerX.callE (gO m E enc sz l) hg ho hw hk he (fun w h1 h2 => (hc w h1 h2).mono (fun e w' ⟨v, g1, g2, g3⟩ => ⟨v, g1, own_mono g2 (Nat.le_trans hm h1.size), g3⟩)) h
theorem DerX.cloneO {m d : Nat} {t e : TypeId} {inf : TypeInfo} [u : Ut P t (.slice e)] [f : Inf P e inf] {z : Value} {s x : Operand} {b0 : Nat} {a : Option Addr} {c : Nat} (l : List α) (hel : ∀ x, (enc x).length = inf.size) (hone : ∀ x, allOne (enc x) = true) (hg : gdLook G i = some (gO m e enc inf.size l))
    (ho : ops[i]? = some ⟨some d, .call { callee := .builtin .append, args := #[s, x], argTypes := #[t, t] }, ty, pos, af, g⟩) (hw : want ops L ⟨some d, .call { callee := .builtin .append, args := #[s, x], argTypes := #[t, t] }, ty, pos, af, g⟩ = some true) (hk : (known L s && known L x) = true)
    (hs : rho L s = .slice (some ⟨b0, 0, none⟩) 0 0) (hx : rho L x = .slice a l.length c) (hz : inf.zero = some z) (hzs : Nat.beq z.cells.size inf.size = true) (hsz : Nat.blt 0 inf.size = true) (h63 : l.length ≤ maxLen) (hbytes : l.length * inf.bytes ≤ 140737488355328)
    (hc : ∀ w, Kp [] w0 w → Facts ops i Γ w → Sl enc inf.size w a l ∧ m ≤ b0 ∧ Blk w b0 (.cells #[] e))
    (h : ∀ v, DerX P w0 ops G K ord ((d, v) :: L) ((i, fun w => w.ownsRow m e inf.size v l.length (flt enc l)) :: Γ)) : DerX P w0 ops G K (i :: ord) L Γ := by
  refine DerX.eff (gO m e enc inf.size l) hg ho hw (by simpa [Op.operands, Call.operands] using hk) (fun w h1 h2 => ?_) h
  obtain ⟨g1, g2, g3⟩ := hc w h1 h2
  obtain ⟨v', w', e1, e2, e3⟩ := run_cloneO (P := P) (ty := ty) (c := c) (u := u) (f := f) hz (Nat.eq_of_beq_eq_true hzs) (by simpa [Nat.blt_eq] using hsz) hel hone g1 g3 g2 h63 hbytes
  unfold OpRun
  have : (execOp (rho L) ⟨some d, .call { callee := .builtin .append, args := #[s, x], argTypes := #[t, t] }, ty, pos, af, g⟩).run P w = .ok (.value v') w' := by
    simp only [execOp, resolve, invoke, builtin, Sem.run_bind, Sem.run_pure, Result.andThen_ok, List.map_toArray, List.map_cons, List.map_nil, hs, hx, e1]
  rw [this]
  exact ⟨v', rfl, e2, e3⟩
end
end Go.Proofs.Ytfelaicoedlejaa
