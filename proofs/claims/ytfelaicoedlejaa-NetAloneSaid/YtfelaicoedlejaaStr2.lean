/-
  More of strings: their lengths, and their bytes.
-/
import Derived.Test.YtfelaicoedlejaaStr
namespace Go.Proofs.Ytfelaicoedlejaa
set_option linter.unusedVariables false

theorem Kp.alloc_any (w : World) (o : Obj) : Kp [] w (w.drew.alloc o) := by
  refine ⟨by show w.heap.size ≤ (w.heap.push o).size; simp, fun b hb _ => ?_, rfl, rfl, rfl, fun a ha => ?_⟩
  · show (w.heap.push o)[b]? = _
    rw [Array.getElem?_push, if_neg (by omega)]
  · refine frozen_same ?_
    show (w.heap.push o)[a.block]? = _
    rw [Array.getElem?_push, if_neg (by omega)]
theorem run_strB {P : Program} {T T' E : TypeId} [u : Ut P T .string] [u' : Ut P T' (.slice E)] [e : Ut P E (.int .u8)] (w : World) (l : List UInt8) :
    ∃ c o, (convert T T' (sv l)).run P w = .ok (.slice (some ⟨w.heap.size, 0, none⟩) l.length c) (w.drew.alloc o) ∧ Sl (fun u : UInt8 => [bv u]) 1 (w.drew.alloc o) (some ⟨w.heap.size, 0, none⟩) l := by
  have h := run_bytes_of_string (P := P) w T T' E ⟨l.toArray⟩ u.eq u'.eq e.eq
  generalize hc : grownCap w (ByteArray.mk l.toArray).size 0 E = c at h
  refine ⟨c, _, h, fun i x hx => ⟨w.heap.size, 0, rfl, bytesRow ⟨l.toArray⟩ c, E, ((bytesRow ⟨l.toArray⟩ c).size, (bytesRow ⟨l.toArray⟩ c).size + 1), ?_, ?_⟩⟩
  · show (w.heap.push _)[w.heap.size]? = _
    rw [Array.getElem?_push, if_pos rfl]
  · intro j v hv
    have hj : j = 0 := by have := (List.getElem?_eq_some_iff.1 hv).1; simp at this; omega
    subst hj
    simp only [List.getElem?_cons_zero, Option.some.injEq] at hv
    subst hv
    have hi : i < l.length := (List.getElem?_eq_some_iff.1 hx).1
    rw [List.getElem?_eq_getElem hi, Option.some.injEq] at hx
    subst hx
    simp only [bytesRow, Nat.mul_one, Nat.zero_add, Nat.add_zero]
    rw [Array.getElem?_append_left (by simpa using hi)]
    simp [hi]
section
variable {P : Program} {n : Nat} {ops : List Oper} {Q : Exit → Act → World → Prop} {w : World} {L : Env} {ty : TypeId} {pos : String} {af : Array Edge} {g : Option (Nat × Bool)} {rest : List Oper}
/-- '[]byte(s)' in text order. -/
theorem SG.strB {T T' E : TypeId} [u : Ut P T .string] [u' : Ut P T' (.slice E)] [e : Ut P E (.int .u8)] {d : Nat} {x : Operand} {l : List UInt8} (hd : Nat.blt d n = true) (hw : want ops L ⟨some d, .convert T T' x, ty, pos, af, g⟩ = some true) (hk : known L x = true) (hx : ro L x = some (sv l))
    (h : ∀ b c w', Kp [] w w' → w.heap.size ≤ b → Sl (fun u : UInt8 => [bv u]) 1 w' (some ⟨b, 0, none⟩) l → SG P n ops Q rest ((d, .slice (some ⟨b, 0, none⟩) l.length c) :: L) w') : SG P n ops Q (⟨some d, .convert T T' x, ty, pos, af, g⟩ :: rest) L w := by
  refine SG.op (by simpa using hd) rfl hw (by simpa [Op.operands] using hk) ?_
  unfold OpRun
  obtain ⟨c, o, h1, h2⟩ := run_strB (P := P) (T := T) (T' := T') (u := u) (u' := u') (e := e) w l
  have : (execOp (rho L) ⟨some d, .convert T T' x, ty, pos, af, g⟩).run P w = .ok (.value (.slice (some ⟨w.heap.size, 0, none⟩) l.length c)) (w.drew.alloc o) := by
    simp only [execOp, rho_of hx, Sem.run_bind, h1, Result.andThen, Sem.run_pure]
  rw [this]
  exact h _ _ _ (Kp.alloc_any w o) (Nat.le_refl _) h2
end
section
variable {P : Program} {S : List Nat} {w0 : World} {F : World → Prop} {L : Env} {d : Option Nat} {ty : TypeId} {pos : String} {af : Array Edge} {g : Option (Nat × Bool)}
theorem vals_lens {T : TypeId} [u : Ut P T .string] {x : Operand} {l : List UInt8} (hx : ro L x = some (sv l)) : Vals P S w0 F L ⟨d, .call { callee := .builtin .len, args := #[x], argTypes := #[T] }, ty, pos, af, g⟩ (.int .i64 l.length) := fun w _ _ => by
  have hx' : rho L x = .string ⟨l.toArray⟩ := rho_of hx
  have hs : (ByteArray.mk l.toArray).size = l.length := by
    show l.toArray.size = _
    simp
  generalize ByteArray.mk l.toArray = s at hx' hs
  simp [execOp, hx', resolve, invoke, builtin, Builtin.len_, run_underlying u.eq, goInt, hs]
end
end Go.Proofs.Ytfelaicoedlejaa
