/-
  A map gone through, in whatever order; structs compared.
-/
import Derived.Test.YtfelaicoedlejaaSl
import Derived.Maps.RangeRun
namespace Go.Proofs.Ytfelaicoedlejaa
open Go.ChangeMaps (setBlock)
set_option linter.unusedVariables false

section
variable {κ ν : Type} {enc : κ → Value} {V : ν → Value} {m left : List (κ × ν)} {cur : Option (κ × ν)} {w w' : World} {b r : Nat} {P : Program} {k T E : TypeId}

def kv (e : MapEntry) : Value × Value := (e.key, e.val)
/-- In block r: how far the map in block b is gone through; left: what is still to come; cur: what came last. -/
def IterAt (w : World) (r b : Nat) (enc : κ → Value) (V : ν → Value) (m left : List (κ × ν)) (cur : Option (κ × ν)) : Prop :=
  ∃ es clock seen, Blk w b (.map es clock) ∧ MapKept.Stamped es clock ∧ es.toList.map kv = m.map (fun p => (enc p.1, V p.2)) ∧ Blk w r (.mapIter (some b) clock seen clock) ∧
    (es.toList.filter (fun e => !seen.contains e.born)).map kv = left.map (fun p => (enc p.1, V p.2)) ∧
    ∀ p, cur = some p → ∃ (e : MapEntry) (seen' : Array Nat), e ∈ es.toList ∧ seen = seen'.push e.born ∧ kv e = (enc p.1, V p.2)
theorem IterAt.kp {S : List Nat} (h : IterAt w r b enc V m left cur) (hk : Kp S w w') (hr : r ∉ S) (hb : b ∉ S) : IterAt w' r b enc V m left cur := by
  obtain ⟨es, c, seen, h1, h2, h3, h4, h5, h6⟩ := h
  exact ⟨es, c, seen, h1.kp hk hb, h2, h3, h4.kp hk hr, h5, h6⟩
theorem IterAt.kp0 (h : IterAt w r b enc V m left cur) (hk : Kp [] w w') : IterAt w' r b enc V m left cur := h.kp hk (by simp) (by simp)
theorem IterAt.map (h : IterAt w r b enc V m left cur) : MapIs w b enc V m := by
  obtain ⟨es, c, seen, h1, h2, h3, _⟩ := h
  exact ⟨es, c, h1, h2, h3⟩
theorem IterAt.ltr (h : IterAt w r b enc V m left cur) : r < w.heap.size := by
  obtain ⟨es, c, seen, h1, h2, h3, h4, _⟩ := h
  exact h4.lt
theorem IterAt.ltb (h : IterAt w r b enc V m left cur) : b < w.heap.size := h.map.lt

theorem split_map {α β γ : Type} {f : α → β} {g : γ → β} : ∀ {l1 : List α} {x : α} {l2 : List α} {l : List γ}, (l1 ++ x :: l2).map f = l.map g → ∃ pre p post, l = pre ++ p :: post ∧ l1.map f = pre.map g ∧ f x = g p ∧ l2.map f = post.map g
  | [], x, l2, l, h => by
    cases l with
    | nil => simp at h
    | cons p l =>
      simp only [List.nil_append, List.map_cons, List.cons.injEq] at h
      exact ⟨[], p, l, rfl, rfl, h.1, h.2⟩
  | y :: l1, x, l2, l, h => by
    cases l with
    | nil => simp at h
    | cons p l =>
      simp only [List.cons_append, List.map_cons, List.cons.injEq] at h
      obtain ⟨pre, q, post, h1, h2, h3, h4⟩ := split_map h.2
      exact ⟨p :: pre, q, post, by simp [h1], by simp [h.1, h2], h3, h4⟩

theorem filter_push {seen : Array Nat} {e : MapEntry} : ∀ {l : List MapEntry}, (l.map (·.born)).Nodup → ∀ {pre post : List MapEntry}, l.filter (fun x => !seen.contains x.born) = pre ++ e :: post → l.filter (fun x => !(seen.push e.born).contains x.born) = pre ++ post := by
  intro l hn pre post h
  have h1 : l.filter (fun x => !(seen.push e.born).contains x.born) = (l.filter (fun x => !seen.contains x.born)).filter (fun x => x.born != e.born) := by
    rw [List.filter_filter]
    congr 1
    funext x
    rw [Array.contains_push]
    cases seen.contains x.born <;> by_cases hb : x.born = e.born <;> simp [hb, bne]
  rw [h1, h, List.filter_append, List.filter_cons]
  have hn2 : ((pre ++ e :: post).map (·.born)).Nodup := by
    rw [← h]
    exact hn.sublist (List.filter_sublist.map _)
  rw [List.map_append, List.map_cons] at hn2
  have hd := List.nodup_append.1 hn2
  have hc := List.nodup_cons.1 hd.2.1
  have e1 : pre.filter (fun x => x.born != e.born) = pre := by
    rw [List.filter_eq_self]
    intro x hx
    have := hd.2.2 x.born (List.mem_map.2 ⟨x, hx, rfl⟩) e.born (by simp)
    simpa [bne] using this
  have e2 : post.filter (fun x => x.born != e.born) = post := by
    rw [List.filter_eq_self]
    intro x hx
    have : e.born ≠ x.born := fun he => hc.1 (he ▸ List.mem_map.2 ⟨x, hx, rfl⟩)
    simpa [bne] using fun he => this he.symm
  rw [e1, e2]
  simp

theorem run_range [u : Ut P T (.map k E)] (h : MapIs w b enc V m) : ∃ o', (Instr.range T (.map (some b))).run P w = .ok (.pointer (some ⟨w.heap.size, 0, none⟩)) { w with heap := w.heap.push o' } ∧ Obj.soft o' = true ∧ IterAt { w with heap := w.heap.push o' } w.heap.size b enc V m m none := by
  obtain ⟨es, c, h1, h2, h3⟩ := h
  have h1' : w.heap[b]? = some (.map es c) := h1
  refine ⟨.mapIter (some b) c #[] c, ?_, rfl, es, c, #[], ?_, h2, h3, Blk.push w _, ?_, fun p hp => by cases hp⟩
  · simp [Instr.range, run_underlying u.eq, MapKept.run_getObj_map h1', newObj, Sem.run, Result.andThen]
  · exact Blk.kp0 h1 (Kp.push w _ rfl)
  · rw [List.filter_eq_self.2 (by simp)]
    exact h3

theorem run_next (ty : TypeId) (h : IterAt w r b enc V m left cur) :
    (left = [] ∧ (Instr.next (.pointer (some ⟨r, 0, none⟩)) false ty).run P w = .ok (.tuple #[.bool false]) w) ∨
    ∃ pre p post w', left = pre ++ p :: post ∧ (Instr.next (.pointer (some ⟨r, 0, none⟩)) false ty).run P w = .ok (.tuple #[.bool true, enc p.1, V p.2]) w' ∧ Kp [r] w w' ∧ IterAt w' r b enc V m (pre ++ post) (some p) := by
  obtain ⟨es, c, seen, h1, h2, h3, h4, h5, h6⟩ := h
  have hs := (MapKept.stamped_iff es c).1 h2
  rcases run_next_at (P := P) w ty r b c c seen es c h4 h1 hs.1 (Nat.le_refl _) with ⟨g1, g2⟩ | ⟨e, g1, w1, g2, g3⟩
  · refine Or.inl ⟨?_, g2⟩
    have : es.toList.filter (fun e => !seen.contains e.born) = [] := by
      have : (leftOf es seen).toList = [] := by
        rw [← List.length_eq_zero_iff]; simpa using g1
      simpa [leftOf] using this
    rw [this] at h5
    simpa using h5.symm
  · have hm : e ∈ es.toList.filter (fun e => !seen.contains e.born) := by simpa [leftOf] using g1
    obtain ⟨l1, l2, hl⟩ := List.append_of_mem hm
    rw [hl] at h5
    obtain ⟨pre, p, post, k1, k2, k3, k4⟩ := split_map h5
    have hbr : b ≠ r := fun e' => by
      subst e'
      have := h1.uniq h4
      cases this
    have hw1 : w1.heap = w.heap := by rcases g2 with rfl | rfl <;> rfl
    have hk1 : Kp [r] w (setBlock w1 r (.mapIter (some b) c (seen.push e.born) c)) := by
      have a1 : Kp [r] w w1 := by
        rcases g2 with rfl | rfl
        · exact Kp.refl _ _
        · exact (Kp.refl [r] w).drew
      exact a1.trans (Kp.set w1 (b := r) (o := .mapIter (some b) c seen c) (by unfold Blk; rw [hw1]; exact h4) rfl rfl)
    have hB : Blk (setBlock w1 r (.mapIter (some b) c (seen.push e.born) c)) r (.mapIter (some b) c (seen.push e.born) c) := Blk.set (w := w1) (o := .mapIter (some b) c seen c) (by unfold Blk; rw [hw1]; exact h4) _
    have hkv : kv e = (enc p.1, V p.2) := k3
    have hkv' : e.key = enc p.1 ∧ e.val = V p.2 := by
      have := Prod.mk.inj hkv
      exact this
    refine Or.inr ⟨pre, p, post, _, k1, ?_, hk1, es, c, seen.push e.born, h1.kp hk1 (nm1 hbr), h2, h3, hB, ?_, fun q hq => ?_⟩
    · rw [g3, hkv'.1, hkv'.2]
    · rw [filter_push hs.2.1 hl, List.map_append, List.map_append, k2, k4]
    · cases hq
      exact ⟨e, seen, (List.mem_filter.1 hm).1, rfl, k3⟩

theorem run_entry {p : κ × ν} (h : IterAt w r b enc V m left (some p)) : (Instr.entry (.pointer (some ⟨r, 0, none⟩))).run P w = .ok (.tuple #[enc p.1, V p.2]) w := by
  obtain ⟨es, c, seen, h1, h2, h3, h4, h5, h6⟩ := h
  obtain ⟨e, seen', g1, rfl, g3⟩ := h6 p rfl
  have hs := (MapKept.stamped_iff es c).1 h2
  rw [run_entry_at (P := P) w r b c seen' es c e h4 h1 g1 hs.2.1]
  have := Prod.mk.inj g3
  rw [this.1, this.2]
end

section
variable {κ ν : Type} {enc : κ → Value} {V : ν → Value} {m left : List (κ × ν)} {cur : Option (κ × ν)} {b r : Nat} {P : Program} {k T E : TypeId}
  {n : Nat} {Q : Exit → Act → World → Prop} {L : Env} {w : World} {ops rest : List Oper} {d : Nat} {ty : TypeId} {pos : String} {af : Array Edge} {g : Option (Nat × Bool)} {x : Operand}
theorem SG.range [u : Ut P T (.map k E)] (hd : Nat.blt d n = true) (hw : want ops L ⟨some d, .range T x, ty, pos, af, g⟩ = some true) (hk : known L x = true) (hx : rho L x = .map (some b)) (hm : MapIs w b enc V m)
    (h : ∀ r w', Kp [] w w' → w.heap.size ≤ r → IterAt w' r b enc V m m none → SG P n ops Q rest ((d, .pointer (some ⟨r, 0, none⟩)) :: L) w') : SG P n ops Q (⟨some d, .range T x, ty, pos, af, g⟩ :: rest) L w := by
  refine SG.op (by simpa using hd) rfl hw (by simpa [Op.operands] using hk) ?_
  unfold OpRun
  obtain ⟨o', h1, h2, h3⟩ := run_range (P := P) (u := u) hm
  have : (execOp (rho L) ⟨some d, .range T x, ty, pos, af, g⟩).run P w = .ok (.value (.pointer (some ⟨w.heap.size, 0, none⟩))) { w with heap := w.heap.push o' } := by
    simp only [execOp, hx, Sem.run_bind, h1, Result.andThen, Sem.run_pure]
  rw [this]
  exact h _ _ (Kp.push w _ h2) (Nat.le_refl _) h3
theorem SG.next (hd : Nat.blt d n = true) (hw : want ops L ⟨some d, .next x false, ty, pos, af, g⟩ = some true) (hk : known L x = true) (hx : rho L x = .pointer (some ⟨r, 0, none⟩)) (hi : IterAt w r b enc V m left cur)
    (h0 : left = [] → SG P n ops Q rest ((d, .tuple #[.bool false]) :: L) w)
    (h1 : ∀ pre p post w', left = pre ++ p :: post → Kp [r] w w' → IterAt w' r b enc V m (pre ++ post) (some p) → SG P n ops Q rest ((d, .tuple #[.bool true, enc p.1, V p.2]) :: L) w') : SG P n ops Q (⟨some d, .next x false, ty, pos, af, g⟩ :: rest) L w := by
  refine SG.op (by simpa using hd) rfl hw (by simpa [Op.operands] using hk) ?_
  unfold OpRun
  rcases run_next (P := P) ty hi with ⟨g1, g2⟩ | ⟨pre, p, post, w', g1, g2, g3, g4⟩
  · have : (execOp (rho L) ⟨some d, .next x false, ty, pos, af, g⟩).run P w = .ok (.value (.tuple #[.bool false])) w := by
      simp only [execOp, hx, Sem.run_bind, g2, Result.andThen, Sem.run_pure]
    rw [this]
    exact h0 g1
  · have : (execOp (rho L) ⟨some d, .next x false, ty, pos, af, g⟩).run P w = .ok (.value (.tuple #[.bool true, enc p.1, V p.2])) w' := by
      simp only [execOp, hx, Sem.run_bind, g2, Result.andThen, Sem.run_pure]
    rw [this]
    exact h1 pre p post w' g1 g3 g4
theorem qen {S : List Nat} {w0 : World} {F : World → Prop} {d : Option Nat} {p : κ × ν} (hx : ro L x = some (.pointer (some ⟨r, 0, none⟩))) (hi : IterAt w0 r b enc V m left (some p)) (hr : r ∉ S) (hb : b ∉ S) : Vals P S w0 F L ⟨d, .entry x, ty, pos, af, g⟩ (.tuple #[enc p.1, V p.2]) := fun w hk _ => by
  simp only [execOp, rho_of hx, Sem.run_bind, run_entry (hi.kp hk hr hb), Result.andThen, Sem.run_pure]
end


section
variable {P : Program} {n : Nat} {Q : Exit → Act → World → Prop} {L : Env} {w : World} {ops : List Oper} {rest : List Oper} {ty : TypeId} {pos : String} {af : Array Edge} {g : Option (Nat × Bool)}
theorem run_makeMap1 {T k E : TypeId} [u : Ut P T (.map k E)] {q : IntKind} {z : Int} : (Instr.makeMap T (some (.int q z))).run P w = .ok (.map (some w.heap.size)) { w with heap := w.heap.push (.map #[] 0) } := by
  simp [Instr.makeMap, run_underlying u.eq, asInt, asIntOf, newObj, Sem.run, Result.andThen]
/-- a map made, room asked for -/
theorem Der.makeMap1 {κ ν : Type} (enc : κ → Value) (V : ν → Value) {w0 : World} {gh : List Nat} {K : Env → (World → Prop) → (World → Prop) → Prop} {i : Nat} {ord : List Nat} {d : Nat} {T k E : TypeId} [u : Ut P T (.map k E)] {R : World → Prop} {x : Operand} {q : IntKind} {z : Int}
    (ho : ops[i]? = some ⟨some d, .makeMap T (some x), ty, pos, af, g⟩) (hw : want ops L ⟨some d, .makeMap T (some x), ty, pos, af, g⟩ = some true) (hg : gh.elem i = true) (hk : known L x = true) (hx : rho L x = .int q z)
    (hd : ∀ b, Der P [] w0 ops gh K ord ((d, .map (some b)) :: L) (fun _ => True ∧ True) (fun w => w0.heap.size ≤ b ∧ MapIs w b enc V [])) : Der P [] w0 ops gh K (i :: ord) L (fun _ => True) R := by
  refine Der.ghostN (X := Nat) (fun b => .map (some b)) (fun _ _ => True) (fun b w => w0.heap.size ≤ b ∧ MapIs w b enc V []) ho hw hg (by simpa [Op.operands] using hk) (fun _ _ _ _ _ => trivial) (fun b w w' hk h => ⟨h.1, h.2.kp0 hk⟩) ?_ hd
  intro w hk _ _
  unfold OpRun
  have : (execOp (rho L) ⟨some d, .makeMap T (some x), ty, pos, af, g⟩).run P w = .ok (.value (.map (some w.heap.size))) { w with heap := w.heap.push (.map #[] 0) } := by
    simp only [execOp, Option.map_some, hx, Sem.run_bind, run_makeMap1 (u := u), Result.andThen, Sem.run_pure]
  rw [this]
  exact ⟨w.heap.size, rfl, ⟨trivial, trivial⟩, ⟨hk.size, MapIs.made w enc V⟩, hk.trans (Kp.push w _ rfl)⟩
theorem SG.makeMap {κ ν : Type} (enc : κ → Value) (V : ν → Value) {d : Nat} {T : TypeId} (hd : Nat.blt d n = true) (hw : want ops L ⟨some d, .makeMap T none, ty, pos, af, g⟩ = some true)
    (h : ∀ b w', Kp [] w w' → w.heap.size ≤ b → MapIs w' b enc V [] → SG P n ops Q rest ((d, .map (some b)) :: L) w') : SG P n ops Q (⟨some d, .makeMap T none, ty, pos, af, g⟩ :: rest) L w := by
  refine SG.op (by simpa using hd) rfl hw (by simp [Op.operands]) ?_
  unfold OpRun
  have : (execOp (rho L) ⟨some d, .makeMap T none, ty, pos, af, g⟩).run P w = .ok (.value (.map (some w.heap.size))) { w with heap := w.heap.push (.map #[] 0) } := by
    simp [execOp, Instr.makeMap, newObj, Sem.run, Result.andThen]
  rw [this]
  exact h w.heap.size _ (Kp.push w _ rfl) (Nat.le_refl _) (MapIs.made w enc V)
end

/-- Structs and arrays of plain things, compared. -/
theorem equal_agg {P : Program} {T : TypeId} (m : Nat) (hm : m ≤ 10000) (hk : P.keyTypeAt m T = true) (ht : P.tiled m T = true) (hwide : (match P.underlying T with | some (.array _ _) | some (.struct _) => true | _ => false) = true) (hkt : P.keyType T = true) {l l' : List Value}
    (hf : (Value.agg l.toArray).formed P T = true) (hf' : (Value.agg l'.toArray).formed P T = true) (hx : (P.keyLits (P.types.size + 1) T l).isSome = true) (hy : (P.keyLits (P.types.size + 1) T l').isSome = true) (w : World) :
    ∃ r : Bool, (Op.equal T (.agg l.toArray) (.agg l'.toArray)).run P w = .ok r w ∧ (r = true ↔ l = l') := by
  have key : ∀ {l : List Value}, (Value.agg l.toArray).formed P T = true → (P.keyLits (P.types.size + 1) T l).isSome = true → ∃ q, keyOf P T (.agg l.toArray) = some q := by
    intro l hf hx
    obtain ⟨L, hL⟩ := Option.isSome_iff_exists.1 hx
    refine ⟨.string (keyBytes L), ?_⟩
    have hc : (Value.agg l.toArray).cells.toList = l := by simp [Value.cells]
    unfold keyOf
    cases hu : P.underlying T with
    | none => rw [hu] at hwide; simp at hwide
    | some d =>
      rw [hu] at hwide
      cases d <;> simp at hwide <;> simp only [hkt, hf, Bool.and_self, if_true, hc, hL, Option.map_some]
  obtain ⟨q, hq⟩ := key hf hx
  obtain ⟨q', hq'⟩ := key hf' hy
  obtain ⟨r, h1, h2⟩ := run_equal_deep w hm hk hwide hq hq'
  refine ⟨r, h1, h2.trans ⟨fun e => ?_, fun e => ?_⟩⟩
  · subst e
    have := keyOf_inj_deep ht hwide hq hq'
    simpa using this
  · subst e
    rw [hq] at hq'
    cases hq'
    rfl
end Go.Proofs.Ytfelaicoedlejaa
