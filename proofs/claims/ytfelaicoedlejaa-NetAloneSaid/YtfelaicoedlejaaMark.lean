/-
  A slice of bytes written as a string: its block is marked.
-/
import Derived.Test.YtfelaicoedlejaaStr
namespace Go.Proofs.Ytfelaicoedlejaa
set_option linter.unusedVariables false

section
variable {P : Program} {n : Nat} {ops : List Oper} {Q : Exit → Act → World → Prop} {w w0 : World} {L : Env} {ty : TypeId} {pos : String} {af : Array Edge} {g : Option (Nat × Bool)} {rest : List Oper}
theorem SG.mark {T E : TypeId} [u : Ut P T (.slice E)] [e : Ut P E (.int .u8)] {d : Nat} {x : Operand} {b m c : Nat} {cs : Array Value} {E' : TypeId} (hd : Nat.blt d n = true) (hw : want ops L ⟨some d, .convert T T x, ty, pos, af, g⟩ = some true) (hk : known L x = true)
    (hx : rho L x = .slice (some ⟨b, 0, none⟩) m c) (hB : Blk w b (.cells cs E')) (hk0 : Kp [] w0 w) (hb : w0.heap.size ≤ b)
    (h : ∀ w', Kp [] w0 w' → (∀ z o, z ≠ b → Blk w z o → Blk w' z o) → Blk w' b (.cells cs E' (cs.size, cs.size + 1)) → SG P n ops Q rest ((d, .slice (some ⟨b, 0, none⟩) m c) :: L) w') : SG P n ops Q (⟨some d, .convert T T x, ty, pos, af, g⟩ :: rest) L w := by
  refine SG.op (by simpa using hd) rfl hw (by simpa [Op.operands] using hk) ?_
  unfold OpRun
  have hrun : (convert T T (.slice (some ⟨b, 0, none⟩) m c)).run P w = .ok (.slice (some ⟨b, 0, none⟩) m c) (w.freeze ⟨b, cs.size, none⟩ 1) := by
    unfold Blk at hB
    have hs : w.shape? b = some (E', cs.size) := by simp [World.shape?, hB]
    simp [convert, run_underlying u.eq, run_underlying e.eq, markStringish, shape, freeze, Sem.run, hs, Result.andThen]
  have hexec : (execOp (rho L) ⟨some d, .convert T T x, ty, pos, af, g⟩).run P w = .ok (.value (.slice (some ⟨b, 0, none⟩) m c)) (w.freeze ⟨b, cs.size, none⟩ 1) := by
    simp only [execOp, hx, Sem.run_bind, hrun, Result.andThen, Sem.run_pure]
  rw [hexec]
  have hoth : ∀ z, z ≠ b → (w.freeze ⟨b, cs.size, none⟩ 1).heap[z]? = w.heap[z]? := fun z hz => by
    simp [World.freeze, Array.getElem?_modify, Ne.symm hz]
  refine h _ ⟨?_, fun z hz _ => ?_, ?_, ?_, ?_, fun a ha => ?_⟩ (fun z o hz hB' => (hoth z hz).trans hB') ?_
  · simpa [World.freeze] using hk0.size
  · rw [hoth z (by omega)]
    exact hk0.blk z hz (by simp)
  · simpa [World.freeze] using hk0.os
  · simpa [World.freeze] using hk0.tape
  · simpa [World.freeze] using hk0.output
  · rw [← hk0.fz a ha]
    unfold World.frozen?
    rw [hoth a.block (by omega)]
  · unfold Blk at hB ⊢
    simp [World.freeze, Array.getElem?_modify, hB]
end
end Go.Proofs.Ytfelaicoedlejaa
