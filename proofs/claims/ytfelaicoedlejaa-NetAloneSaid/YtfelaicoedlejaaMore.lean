/-
  Keys that are ints; calls of function values; slices against nil; delete; a slice copied in text order.
-/
import Derived.Test.YtfelaicoedlejaaRes
import Derived.Maps.Keyed
namespace Go.Proofs.Ytfelaicoedlejaa
set_option linter.unusedVariables false

/-- An int that Go can have. -/
abbrev I64 := { z : Int // -9223372036854775808 ≤ z ∧ z ≤ 9223372036854775807 }
@[reducible] def iv (z : I64) : Value := .int .i64 z.1
theorem iv_inj {a b : I64} (h : iv a = iv b) : a = b := by
  apply Subtype.ext
  simpa using h
theorem wf_i64 (z : I64) : (Lit.int .i64 z.1).wf = true := by
  have := z.2
  simp [Lit.wf, IntKind.min, IntKind.max, IntKind.signed, IntKind.bits]
  omega
theorem i64_key {P : Program} {k : TypeId} (hu : P.underlying k = some (.int .i64)) : KeyEnc P k iv :=
  ⟨Maps.int_keyed hu, fun z => ⟨.int .i64 z.1, by simp [keyOf, hu, mapKey, wf_i64]⟩, fun a b h => iv_inj h⟩
instance {P : Program} {k : TypeId} [u : Ut P k (.int .i64)] : Kenc P k iv := ⟨i64_key u.eq⟩

section
variable {κ ν : Type} {enc : κ → Value} {V : ν → Value} {m : List (κ × ν)} {w w' : World} {b : Nat} {P : Program} {k T E : TypeId}
theorem run_delete [DecidableEq κ] [u : Ut P T (.map k E)] (h : MapIs w b enc V m) (K : KeyEnc P k enc) (x : κ) (ty : TypeId) :
    ∃ o', (Builtin.delete_ #[T, k] ty #[.map (some b), enc x]).run P w = .ok (.tuple #[]) { w with heap := w.heap.setIfInBounds b o' } ∧ MapIs { w with heap := w.heap.setIfInBounds b o' } b enc V (m.filter (fun p => decide (p.1 ≠ x))) ∧ Kp [b] w { w with heap := w.heap.setIfInBounds b o' } := by
  obtain ⟨es, c, hb, hst, hm, hks⟩ := h.keys K
  obtain ⟨l, hl⟩ := K.key x
  have hb' : w.heap[b]? = some (.map es c) := hb
  have hkeys : es.toList.map (·.key) = m.map (fun p => enc p.1) := by
    have := congrArg (List.map Prod.fst) hm
    simpa [Function.comp_def] using this
  rcases K.law.find w hl es.toList hks with ⟨h1, h2⟩ | ⟨j, e0, h1, h2, h3⟩
  · refine ⟨.map es c, ?_, ⟨es, c, hb.set _, hst, ?_⟩, Kp.set w hb rfl rfl⟩
    · simp [Builtin.delete_, run_underlying u.eq, MapKept.run_getObj_map hb', K.law.check w _ hl, h1, MapKept.run_setObj_map _ hb', Result.andThen]
    · rw [List.filter_eq_self.2]
      · exact hm
      · intro p hp
        simp only [decide_eq_true_eq]
        intro e
        have : enc p.1 ∈ es.toList.map (·.key) := by rw [hkeys]; exact List.mem_map.2 ⟨p, hp, rfl⟩
        obtain ⟨q, hq, hqe⟩ := List.mem_map.1 this
        exact h2 q hq (by rw [hqe, e])
  · have hj : j < es.toList.length := (List.getElem?_eq_some_iff.1 h2).1
    have hs := (MapKept.stamped_iff es c).1 hst
    have hml : m.length = es.toList.length := by
      have := congrArg List.length hm
      simpa using this.symm
    have hjm : j < m.length := by omega
    have hmj : enc m[j].1 = enc x := by
      have := congrArg (fun l => l[j]?) hkeys
      simp only [List.getElem?_map, h2, Option.map_some, List.getElem?_eq_getElem hjm, Option.some.injEq] at this
      rw [← this, h3]
    have hmx : m[j].1 = x := K.inj _ _ hmj
    have herase : m.filter (fun p => decide (p.1 ≠ x)) = m.eraseIdx j := by
      have hnd := h.nodup
      have hsplit : m = m.take j ++ (m[j] :: m.drop (j + 1)) := by rw [← List.drop_eq_getElem_cons hjm, List.take_append_drop]
      rw [List.eraseIdx_eq_take_drop_succ]
      conv => lhs; rw [hsplit]
      rw [hsplit, List.map_append, List.map_cons] at hnd
      have hd := List.nodup_append.1 hnd
      have hc := List.nodup_cons.1 hd.2.1
      rw [List.filter_append, List.filter_cons]
      rw [if_neg (by simp [hmx])]
      congr 1
      · rw [List.filter_eq_self]
        intro p hp
        simp only [decide_eq_true_eq]
        intro e
        exact hd.2.2 p.1 (List.mem_map.2 ⟨p, hp, rfl⟩) m[j].1 (by simp) (by rw [e, hmx])
      · rw [List.filter_eq_self]
        intro p hp
        simp only [decide_eq_true_eq]
        intro e
        exact hc.1 (by rw [hmx, ← e]; exact List.mem_map.2 ⟨p, hp, rfl⟩)
    refine ⟨.map (es.eraseIdxIfInBounds j) c, ?_, ⟨es.eraseIdxIfInBounds j, c, hb.set _, ?_, ?_⟩, Kp.set w hb rfl rfl⟩
    · simp [Builtin.delete_, run_underlying u.eq, MapKept.run_getObj_map hb', K.law.check w _ hl, h1, MapKept.run_setObj_map _ hb', Result.andThen]
    · rw [MapKept.stamped_iff]
      have hsub : (es.eraseIdxIfInBounds j).toList.Sublist es.toList := by
        simp only [Array.toList_eraseIdxIfInBounds]
        exact List.eraseIdx_sublist _ _
      exact ⟨fun x hx => hs.1 x (hsub.subset hx), hs.2.1.sublist (hsub.map _), hs.2.2.sublist hsub⟩
    · rw [herase, Array.toList_eraseIdxIfInBounds, ChangeMaps.map_eraseIdx, hm, ← ChangeMaps.map_eraseIdx]
end

section
variable {P : Program} {n : Nat} {Q : Exit → Act → World → Prop} {L : Env} {w : World} {ops : List Oper} {rest : List Oper} {ty : TypeId} {pos : String} {af : Array Edge} {g : Option (Nat × Bool)}
theorem SG.delete {κ ν : Type} [DecidableEq κ] {enc : κ → Value} {V : ν → Value} {m : List (κ × ν)} {b : Nat} {k T E : TypeId} [u : Ut P T (.map k E)] [K : Kenc P k enc] {a x : Operand} {kx : κ}
    (hw : want ops L ⟨none, .call { callee := .builtin .delete, args := #[a, x], argTypes := #[T, k] }, ty, pos, af, g⟩ = some true) (hk : (known L a && known L x) = true) (ha : rho L a = .map (some b)) (hx : rho L x = enc kx) (hm : MapIs w b enc V m)
    (h : ∀ w', Kp [b] w w' → MapIs w' b enc V (m.filter (fun p => decide (p.1 ≠ kx))) → SG P n ops Q rest L w') : SG P n ops Q (⟨none, .call { callee := .builtin .delete, args := #[a, x], argTypes := #[T, k] }, ty, pos, af, g⟩ :: rest) L w := by
  refine SG.op rfl rfl hw (by simpa [Op.operands, Call.operands] using hk) ?_
  unfold OpRun
  obtain ⟨o', h1, h2, h3⟩ := run_delete (P := P) (u := u) hm K.key kx ty
  have : (execOp (rho L) ⟨none, .call { callee := .builtin .delete, args := #[a, x], argTypes := #[T, k] }, ty, pos, af, g⟩).run P w = .ok (.value (.tuple #[])) { w with heap := w.heap.setIfInBounds b o' } := by
    simp only [execOp, resolve, invoke, builtin, Sem.run_bind, Sem.run_pure, Result.andThen_ok, List.map_toArray, List.map_cons, List.map_nil, ha, hx, h1]
  rw [this]
  exact h _ h3 h2
/-- A call of a function value. -/
theorem SG.retV {d : Nat} {f : FuncId} [F : Fnc P f] {x : Operand} {args : List Operand} {vs : List Value} {tys : Array TypeId} {v : Value} (hd : Nat.blt d n = true) (hw : want ops L ⟨some d, .call ⟨.value x, args.toArray, tys⟩, ty, pos, af, g⟩ = some true) (hk : (Op.call ⟨.value x, args.toArray, tys⟩).operands.toList.all (known L) = true)
    (hf : rho L x = .func (.func f) #[] #[]) (he : Evs L args vs) (hc : Ret P f vs.toArray w v) (h : ∀ w', Kp [] w w' → SG P n ops Q rest ((d, v) :: L) w') : SG P n ops Q (⟨some d, .call ⟨.value x, args.toArray, tys⟩, ty, pos, af, g⟩ :: rest) L w := by
  refine SG.op (by simpa using hd) rfl hw hk ?_
  unfold OpRun
  have : (execOp (rho L) ⟨some d, .call ⟨.value x, args.toArray, tys⟩, ty, pos, af, g⟩).run P w = .ok (.enter f vs.toArray) w := by
    simp only [execOp, resolve, hf, Deferred.ofValue, he.arr]
    simp [invoke, F.run]
  rw [this]
  exact hc.mono (fun e w' ⟨h1, h2⟩ => ⟨v, h1, h w' h2⟩)
theorem equal_slnil {T E : TypeId} [u : Ut P T (.slice E)] {a : Option Addr} {m c : Nat} : (Op.equal T (.slice a m c) (.slice none 0 0)).run P w = .ok a.isNone w := equal_of (fun d => by
  cases a <;> simp only [Op.equalIn, Sem.run_bind, run_underlying u.eq, Result.andThen, Sem.run_pure, Option.isNone])
theorem qsn {S : List Nat} {w0 : World} {F : World → Prop} {d : Option Nat} {T T' E : TypeId} [u : Ut P T (.slice E)] {x : Operand} {a : Option Addr} {m c : Nat} (hx : ro L x = some (.slice a m c)) : Vals P S w0 F L ⟨d, .binOp .eql T x (.const (.slice none 0 0)) T', ty, pos, af, g⟩ (.bool a.isNone) := fun w _ _ => by
  have hc : rho L (.const (.slice none 0 0)) = .slice none 0 0 := rfl
  simp [execOp, rho_of hx, hc, eqGuard, binOp, equal_slnil (u := u)]
/-- 'append([]T{}, s...)', in text order: the slice is owned. -/
theorem SG.cloneO {α : Type} {enc : α → List Value} {m d : Nat} {t e : TypeId} {inf : TypeInfo} [u : Ut P t (.slice e)] [f : Inf P e inf] {z : Value} {s x : Operand} {b0 : Nat} {a : Option Addr} {c : Nat} {l : List α} (hd : Nat.blt d n = true)
    (hw : want ops L ⟨some d, .call { callee := .builtin .append, args := #[s, x], argTypes := #[t, t] }, ty, pos, af, g⟩ = some true) (hk : (known L s && known L x) = true) (hel : ∀ x, (enc x).length = inf.size) (hone : ∀ x, allOne (enc x) = true)
    (hs : rho L s = .slice (some ⟨b0, 0, none⟩) 0 0) (hx : rho L x = .slice a l.length c) (hz : inf.zero = some z) (hzs : Nat.beq z.cells.size inf.size = true) (hsz : Nat.blt 0 inf.size = true) (h63 : l.length ≤ maxLen) (hbytes : l.length * inf.bytes ≤ 140737488355328) (hm : m ≤ b0)
    (hc : Sl enc inf.size w a l) (hb0 : Blk w b0 (.cells #[] e))
    (h : ∀ v w', Kp [] w w' → w'.ownsRow m e inf.size v l.length (flt enc l) → SG P n ops Q rest ((d, v) :: L) w') : SG P n ops Q (⟨some d, .call { callee := .builtin .append, args := #[s, x], argTypes := #[t, t] }, ty, pos, af, g⟩ :: rest) L w := by
  refine SG.op (by simpa using hd) rfl hw (by simpa [Op.operands, Call.operands] using hk) ?_
  obtain ⟨v', w', e1, e2, e3⟩ := run_cloneO (P := P) (ty := ty) (c := c) (u := u) (f := f) hz (Nat.eq_of_beq_eq_true hzs) (by simpa [Nat.blt_eq] using hsz) hel hone hc hb0 hm h63 hbytes
  unfold OpRun
  have : (execOp (rho L) ⟨some d, .call { callee := .builtin .append, args := #[s, x], argTypes := #[t, t] }, ty, pos, af, g⟩).run P w = .ok (.value v') w' := by
    simp only [execOp, resolve, invoke, builtin, Sem.run_bind, Sem.run_pure, Result.andThen_ok, List.map_toArray, List.map_cons, List.map_nil, hs, hx, e1]
  rw [this]
  exact h v' w' e3 e2
theorem SG.empty {d : Nat} {T E : TypeId} {i : TypeInfo} [u : Ut P T (.slice E)] [f : Inf P E i] (hd : Nat.blt d n = true) (hw : want ops L ⟨some d, .buildSlice T 0 #[], ty, pos, af, g⟩ = some true)
    (h : ∀ b w', Kp [] w w' → w.heap.size ≤ b → Blk w' b (.cells #[] E) → SG P n ops Q rest ((d, .slice (some ⟨b, 0, none⟩) 0 0) :: L) w') : SG P n ops Q (⟨some d, .buildSlice T 0 #[], ty, pos, af, g⟩ :: rest) L w := by
  refine SG.op (by simpa using hd) rfl hw (by simp [Op.operands]) ?_
  unfold OpRun
  have : (execOp (rho L) ⟨some d, .buildSlice T 0 #[], ty, pos, af, g⟩).run P w = .ok (.value (.slice (some ⟨w.heap.size, 0, none⟩) 0 0)) { w with heap := w.heap.push (.cells #[] E) } := by
    simp only [execOp, List.map_toArray, List.map_nil, Sem.run_bind, run_empty (u := u) (f := f), Result.andThen, Sem.run_pure]
  rw [this]
  exact h _ _ (Kp.push w _ rfl) (Nat.le_refl _) (Blk.push w _)
end
end Go.Proofs.Ytfelaicoedlejaa
