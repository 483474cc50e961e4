/-
  A region that draws, with one block that is read and written over.
-/
import Derived.Test.YtfelaicoedlejaaOwned
namespace Go.Proofs.Ytfelaicoedlejaa
set_option linter.unusedVariables false
section
variable {P : Program} {L : Env} {ty : TypeId} {pos : String} {af : Array Edge} {g : Option (Nat × Bool)} {S : List Nat} {w0 : World} {ops : List Oper} {gh : List Nat} {K : Env → (World → Prop) → (World → Prop) → Prop} {i : Nat} {ord : List Nat} {F R : World → Prop}
/-- a call whose answer is told by facts that stay, beside the resource -/
theorem Der.callGR {X : Type} {d : Nat} {f : FuncId} [Fnc P f] {args : List Operand} {vs : List Value} {tys : Array TypeId} (val : X → Value) (F' R' : X → World → Prop)
    (ho : ops[i]? = some ⟨some d, .call ⟨.value (.func f), args.toArray, tys⟩, ty, pos, af, g⟩) (hw : want ops L ⟨some d, .call ⟨.value (.func f), args.toArray, tys⟩, ty, pos, af, g⟩ = some true) (hg : gh.elem i = true) (hk : (Op.call ⟨.value (.func f), args.toArray, tys⟩).operands.toList.all (known L) = true)
    (he : Evs L args vs) (hF : ∀ x, Stab S (F' x)) (hR : ∀ x, Stab [] (R' x)) (hFs : Stab S F) (hc : ∀ w, Kp S w0 w → F w → R w → Calls P f vs.toArray w (fun e w' => ∃ x, e = .returned (val x) ∧ F' x w' ∧ R' x w' ∧ Kp S w w'))
    (hd : ∀ x, Der P S w0 ops gh K ord ((d, val x) :: L) (fun w => F w ∧ F' x w) (R' x)) : Der P S w0 ops gh K (i :: ord) L F R :=
  Der.ghost val F' R' ho hw hg hk hF hR hFs (fun w h1 h2 h3 => orun_call (by rw [he.arr]; exact (hc w h1 h2 h3).mono (fun e w' ⟨x, g1, g2, g3, g4⟩ => ⟨val x, g1, x, rfl, g2, g3, g4⟩))) hd
/-- the whole block written over -/
theorem Der.storeAll {T T' : TypeId} {inf : TypeInfo} [f : Inf P T inf] {a x : Operand} {b : Nat} {old : List Value} {v : Value}
    (ho : ops[i]? = some ⟨none, .store T a x, ty, pos, af, g⟩) (hw : want ops L ⟨none, .store T a x, ty, pos, af, g⟩ = some true) (hg : gh.elem i = true) (hk : (known L a && known L x) = true) (ha : rho L a = .pointer (some ⟨b, 0, none⟩)) (hx : rho L x = v)
    (hn : v.cells.toList.length = inf.size) (hold : old.length = inf.size) (hone : allOne v.cells.toList = true) (hb : b ∈ S) (hFs : Stab S F)
    (hd : Der P S w0 ops gh K ord L (fun w => F w ∧ True) (fun w => Blk w b (.cells v.cells.toList.toArray T'))) : Der P S w0 ops gh K (i :: ord) L F (fun w => Blk w b (.cells old.toArray T')) := by
  refine Der.storeR (fun w => Blk w b (.cells v.cells.toList.toArray T')) ho hw hg hk ha hx hFs (fun w w' hk h => h.kp0 hk) (fun w h => ?_) hd
  have hlen : old.length = v.cells.toList.length := hold.trans hn.symm
  have hrun := run_storeAt (P := P) (f := f) (off := 0) (v := v) h hn (by simp only [List.size_toArray]; omega) hone
  refine ⟨_, hrun, ?_, (Kp.set w h rfl rfl).mono (by intro z hz; simp at hz; subst hz; exact hb)⟩
  have := h.set (.cells (spl old 0 v.cells.toList).toArray T')
  rw [spl_all hlen] at this
  simpa [spl_all hlen] using this
end
end Go.Proofs.Ytfelaicoedlejaa
