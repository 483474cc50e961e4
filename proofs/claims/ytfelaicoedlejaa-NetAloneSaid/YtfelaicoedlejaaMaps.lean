/-
  Calls; maps as lists of pairs; keys that are arrays of bytes.
-/
import Derived.Test.YtfelaicoedlejaaOps
import Derived.Maps.Keyed
namespace Go.Proofs.Ytfelaicoedlejaa
set_option linter.unusedVariables false

/-! ### calls -/
class Fnc (P : Program) (f : FuncId) : Prop where
  run : ∀ (w : World) (args : Array Value), (callFunc f args).run P w = .ok (.enter f args) w

section
variable {P : Program} {L : Env} {d : Option Nat} {ty : TypeId} {pos : String} {af : Array Edge} {g : Option (Nat × Bool)} {w : World} {R : Value → World → Prop}

theorem run_call {f : FuncId} [h : Fnc P f] {args : Array Operand} {tys : Array TypeId} : (execOp (rho L) ⟨d, .call ⟨.value (.func f), args, tys⟩, ty, pos, af, g⟩).run P w = .ok (.enter f (args.map (rho L))) w := by
  simp [execOp, resolve, rho, Deferred.ofValue, invoke, h.run]
theorem orun_call {f : FuncId} [Fnc P f] {args : Array Operand} {tys : Array TypeId} (h : Calls P f (args.map (rho L)) w (fun e w' => ∃ v, e = .returned v ∧ R v w')) :
    OpRun P (rho L) ⟨d, .call ⟨.value (.func f), args, tys⟩, ty, pos, af, g⟩ w R := by
  unfold OpRun
  rw [run_call]
  exact h

/-- f, at these arguments, in w, answers v, and turns no block. -/
def Ret (P : Program) (f : FuncId) (args : Array Value) (w : World) (v : Value) : Prop := Calls P f args w (fun e w' => e = .returned v ∧ Kp [] w w')

/-- The operands' values. -/
def Evs (L : Env) : List Operand → List Value → Prop
  | [], [] => True
  | x :: xs, v :: vs => rho L x = v ∧ Evs L xs vs
  | _, _ => False
theorem Evs.map {L : Env} : ∀ {xs : List Operand} {vs : List Value}, Evs L xs vs → xs.map (rho L) = vs
  | [], [], _ => rfl
  | x :: xs, v :: vs, h => by simp [h.1, Evs.map h.2]
  | [], _ :: _, h => h.elim
  | _ :: _, [], h => h.elim
theorem Evs.arr {L : Env} {xs : List Operand} {vs : List Value} (h : Evs L xs vs) : xs.toArray.map (rho L) = vs.toArray := by simp [h.map]

theorem Der.call {S : List Nat} {w0 : World} {ops : List Oper} {gh : List Nat} {K : Env → (World → Prop) → (World → Prop) → Prop} {i : Nat} {ord : List Nat} {F R : World → Prop} {d : Nat} {f : FuncId} [Fnc P f] {args : List Operand} {vs : List Value} {tys : Array TypeId} {v : Value}
    (ho : ops[i]? = some ⟨some d, .call ⟨.value (.func f), args.toArray, tys⟩, ty, pos, af, g⟩) (hw : want ops L ⟨some d, .call ⟨.value (.func f), args.toArray, tys⟩, ty, pos, af, g⟩ = some true) (hk : (Op.call ⟨.value (.func f), args.toArray, tys⟩).operands.toList.all (known L) = true)
    (he : Evs L args vs) (hc : ∀ w, Kp S w0 w → F w → Ret P f vs.toArray w v)
    (hd : Der P S w0 ops gh K ord ((d, v) :: L) F R) : Der P S w0 ops gh K (i :: ord) L F R :=
  Der.run v ho hw hk (fun w hkp hF => orun_call (by rw [he.arr]; exact (hc w hkp hF).mono (fun e w' ⟨h1, h2⟩ => ⟨v, h1, rfl, h2⟩))) hd

/-- A call in text order. -/
theorem SG.call {n : Nat} {Q : Exit → Act → World → Prop} {ops : List Oper} {rest : List Oper} {d : Nat} {f : FuncId} [Fnc P f] {args : List Operand} {vs : List Value} {tys : Array TypeId}
    (hd : Nat.blt d n = true) (hw : want ops L ⟨some d, .call ⟨.value (.func f), args.toArray, tys⟩, ty, pos, af, g⟩ = some true) (hk : (Op.call ⟨.value (.func f), args.toArray, tys⟩).operands.toList.all (known L) = true) (he : Evs L args vs)
    (hc : Calls P f vs.toArray w (fun e w' => ∃ v, e = .returned v ∧ SG P n ops Q rest ((d, v) :: L) w')) : SG P n ops Q (⟨some d, .call ⟨.value (.func f), args.toArray, tys⟩, ty, pos, af, g⟩ :: rest) L w :=
  SG.op (by simpa using hd) rfl hw hk (orun_call (by rw [he.arr]; exact hc))
theorem SG.ret {n : Nat} {Q : Exit → Act → World → Prop} {ops : List Oper} {rest : List Oper} {d : Nat} {f : FuncId} [Fnc P f] {args : List Operand} {vs : List Value} {tys : Array TypeId} {v : Value}
    (hd : Nat.blt d n = true) (hw : want ops L ⟨some d, .call ⟨.value (.func f), args.toArray, tys⟩, ty, pos, af, g⟩ = some true) (hk : (Op.call ⟨.value (.func f), args.toArray, tys⟩).operands.toList.all (known L) = true) (he : Evs L args vs)
    (hc : Ret P f vs.toArray w v) (h : ∀ w', Kp [] w w' → SG P n ops Q rest ((d, v) :: L) w') : SG P n ops Q (⟨some d, .call ⟨.value (.func f), args.toArray, tys⟩, ty, pos, af, g⟩ :: rest) L w :=
  SG.call hd hw hk he (hc.mono (fun e w' ⟨h1, h2⟩ => ⟨v, h1, h w' h2⟩))

/-! new blocks and stores in text order -/
theorem SG.box {n : Nat} {Q : Exit → Act → World → Prop} {ops : List Oper} {rest : List Oper} {d : Nat} {T : TypeId} {x : Operand} {v : Value}
    (hd : Nat.blt d n = true) (hw : want ops L ⟨some d, .box T x, ty, pos, af, g⟩ = some true) (hk : known L x = true) (hx : rho L x = v)
    (h : ∀ b w', Kp [] w w' → w.heap.size ≤ b → Blk w' b (.cells v.cells T) → SG P n ops Q rest ((d, .pointer (some ⟨b, 0, none⟩)) :: L) w') : SG P n ops Q (⟨some d, .box T x, ty, pos, af, g⟩ :: rest) L w := by
  refine SG.op (by simpa using hd) rfl hw (by simp [Op.operands, hk]) ?_
  unfold OpRun
  have : (execOp (rho L) ⟨some d, .box T x, ty, pos, af, g⟩).run P w = .ok (.value (.pointer (some ⟨w.heap.size, 0, none⟩))) { w with heap := w.heap.push (.cells v.cells T) } := by
    simp [execOp, hx, run_box, Result.andThen]
  rw [this]
  exact h w.heap.size _ (Kp.push w _ rfl) (Nat.le_refl _) (Blk.push w _)
theorem SG.alloc {n : Nat} {Q : Exit → Act → World → Prop} {ops : List Oper} {rest : List Oper} {d : Nat} {T : TypeId} {i : TypeInfo} [f : Inf P T i] {z : Value} (hz : i.zero = some z)
    (hd : Nat.blt d n = true) (hw : want ops L ⟨some d, .alloc T, ty, pos, af, g⟩ = some true)
    (h : ∀ b w', Kp [] w w' → w.heap.size ≤ b → Blk w' b (.cells z.cells T) → SG P n ops Q rest ((d, .pointer (some ⟨b, 0, none⟩)) :: L) w') : SG P n ops Q (⟨some d, .alloc T, ty, pos, af, g⟩ :: rest) L w := by
  refine SG.op (by simpa using hd) rfl hw (by simp [Op.operands]) ?_
  unfold OpRun
  have : (execOp (rho L) ⟨some d, .alloc T, ty, pos, af, g⟩).run P w = .ok (.value (.pointer (some ⟨w.heap.size, 0, none⟩))) { w with heap := w.heap.push (.cells z.cells T) } := by
    simp [execOp, run_alloc hz, Result.andThen]
  rw [this]
  exact h w.heap.size _ (Kp.push w _ rfl) (Nat.le_refl _) (Blk.push w _)
theorem SG.store {n : Nat} {Q : Exit → Act → World → Prop} {ops : List Oper} {rest : List Oper} {T T' : TypeId} {i : TypeInfo} [f : Inf P T i] {a x : Operand} {b off : Nat} {cs : Array Value} {v : Value}
    (hw : want ops L ⟨none, .store T a x, ty, pos, af, g⟩ = some true) (hk : (known L a && known L x) = true) (ha : rho L a = .pointer (some ⟨b, off, none⟩)) (hx : rho L x = v) (hb : Blk w b (.cells cs T'))
    (hn : v.cells.toList.length = i.size) (ho : off + v.cells.toList.length ≤ cs.size) (hone : allOne v.cells.toList = true)
    (h : ∀ w', Kp [b] w w' → Blk w' b (.cells (spl cs.toList off v.cells.toList).toArray T') → SG P n ops Q rest L w') : SG P n ops Q (⟨none, .store T a x, ty, pos, af, g⟩ :: rest) L w := by
  refine SG.op rfl rfl hw (by simpa [Op.operands] using hk) ?_
  unfold OpRun
  have : (execOp (rho L) ⟨none, .store T a x, ty, pos, af, g⟩).run P w = .ok .skip { w with heap := w.heap.setIfInBounds b (.cells (spl cs.toList off v.cells.toList).toArray T') } := by
    simp only [execOp, hx, ha, Sem.run_bind, run_storeAt (f := f) hb hn ho hone, Result.andThen, Sem.run_pure]
  rw [this]
  exact h _ (Kp.set w hb rfl rfl) (hb.set _)
/-- a whole variable -/
theorem SG.setAll {n : Nat} {Q : Exit → Act → World → Prop} {ops : List Oper} {rest : List Oper} {T T' : TypeId} {i : TypeInfo} [f : Inf P T i] {a x : Operand} {b : Nat} {old l : List Value}
    (hw : want ops L ⟨none, .store T a x, ty, pos, af, g⟩ = some true) (hk : (known L a && known L x) = true) (ha : rho L a = .pointer (some ⟨b, 0, none⟩)) (hx : rho L x = .agg l.toArray) (hb : Blk w b (.cells old.toArray T'))
    (hn : l.length = i.size) (ho : old.length = i.size) (hone : allOne l = true)
    (h : ∀ w', Kp [b] w w' → Blk w' b (.cells l.toArray T') → SG P n ops Q rest L w') : SG P n ops Q (⟨none, .store T a x, ty, pos, af, g⟩ :: rest) L w := by
  refine SG.store (f := f) hw hk ha hx hb (by simpa [Value.cells] using hn) (by simp [Value.cells]; omega) (by simpa [Value.cells] using hone) (fun w' h1 h2 => h w' h1 ?_)
  have e : spl old.toArray.toList 0 (Value.agg l.toArray).cells.toList = l := by
    simp only [Value.cells]
    exact spl_all (by omega)
  rw [e] at h2
  exact h2
theorem SG.setAll1 {n : Nat} {Q : Exit → Act → World → Prop} {ops : List Oper} {rest : List Oper} {T T' : TypeId} {i : TypeInfo} [f : Inf P T i] {a x : Operand} {b : Nat} {u v : Value}
    (hw : want ops L ⟨none, .store T a x, ty, pos, af, g⟩ = some true) (hk : (known L a && known L x) = true) (ha : rho L a = .pointer (some ⟨b, 0, none⟩)) (hx : rho L x = v) (hb : Blk w b (.cells #[u] T'))
    (hn : Nat.beq i.size 1 = true) (hone : oneB v = true)
    (h : ∀ w', Kp [b] w w' → Blk w' b (.cells #[v] T') → SG P n ops Q rest L w') : SG P n ops Q (⟨none, .store T a x, ty, pos, af, g⟩ :: rest) L w := by
  have hc : v.cells.toList = [v] := by cases v <;> simp [oneB] at hone <;> rfl
  refine SG.store (f := f) hw hk ha hx hb (by rw [hc, Nat.eq_of_beq_eq_true hn]; rfl) (by rw [hc]; simp) (by rw [hc]; simp [allOne, hone]) (fun w' h1 h2 => h w' h1 ?_)
  rw [hc] at h2
  exact h2
/-- a part of one -/
theorem SG.setMid {n : Nat} {Q : Exit → Act → World → Prop} {ops : List Oper} {rest : List Oper} {T T' : TypeId} {i : TypeInfo} [f : Inf P T i] {a x : Operand} {b off : Nat} {cs : Array Value} {v : Value} (pre old post : List Value)
    (hw : want ops L ⟨none, .store T a x, ty, pos, af, g⟩ = some true) (hk : (known L a && known L x) = true) (ha : rho L a = .pointer (some ⟨b, off, none⟩)) (hx : rho L x = v) (hb : Blk w b (.cells cs T')) (hcs : cs.toList = pre ++ (old ++ post))
    (hn : v.cells.toList.length = i.size) (ho : old.length = i.size) (hp : pre.length = off) (hone : allOne v.cells.toList = true)
    (h : ∀ w', Kp [b] w w' → Blk w' b (.cells (pre ++ (v.cells.toList ++ post)).toArray T') → SG P n ops Q rest L w') : SG P n ops Q (⟨none, .store T a x, ty, pos, af, g⟩ :: rest) L w := by
  have hlen : cs.size = (pre ++ (old ++ post)).length := by rw [← hcs]; simp
  refine SG.store (f := f) hw hk ha hx hb hn (by rw [hlen]; simp only [List.length_append]; omega) hone (fun w' h1 h2 => h w' h1 ?_)
  rw [hcs, ← hp, spl_mid (by omega)] at h2
  exact h2
end

/-! ### lists of pairs -/
section
variable {κ ν : Type} [DecidableEq κ]
def alook : List (κ × ν) → κ → Option ν
  | [], _ => none
  | (k, v) :: m, x => if k = x then some v else alook m x
def aput : List (κ × ν) → κ → ν → List (κ × ν)
  | [], x, y => [(x, y)]
  | (k, v) :: m, x, y => if k = x then (k, y) :: m else (k, v) :: aput m x y
def adel : List (κ × ν) → κ → List (κ × ν)
  | [], _ => []
  | (k, v) :: m, x => if k = x then m else (k, v) :: adel m x
theorem alook_none {m : List (κ × ν)} {x : κ} : alook m x = none ↔ ∀ p ∈ m, p.1 ≠ x := by
  induction m with
  | nil => simp [alook]
  | cons p m ih =>
    obtain ⟨k, v⟩ := p
    by_cases h : k = x <;> simp [alook, h, ih]
theorem alook_of_mem {m : List (κ × ν)} (hn : (m.map (·.1)).Nodup) {p : κ × ν} (hp : p ∈ m) : alook m p.1 = some p.2 := by
  induction m with
  | nil => cases hp
  | cons q m ih =>
    obtain ⟨k, v⟩ := q
    rw [List.map_cons, List.nodup_cons] at hn
    rcases List.mem_cons.1 hp with rfl | h
    · simp [alook]
    · have : k ≠ p.1 := fun e => hn.1 (e ▸ List.mem_map.2 ⟨p, h, rfl⟩)
      simp [alook, this, ih hn.2 h]
theorem alook_put (m : List (κ × ν)) (x z : κ) (y : ν) : alook (aput m x y) z = if x = z then some y else alook m z := by
  induction m with
  | nil => simp [aput, alook]
  | cons p m ih =>
    obtain ⟨k, v⟩ := p
    by_cases h : k = x
    · subst h
      by_cases hz : k = z <;> simp [aput, alook, hz]
    · by_cases hz : k = z
      · subst hz
        have : x ≠ k := fun e => h e.symm
        simp [aput, alook, h, this]
      · simp [aput, alook, h, hz, ih]
theorem aput_new {m : List (κ × ν)} {x : κ} (y : ν) (h : alook m x = none) : aput m x y = m ++ [(x, y)] := by
  induction m with
  | nil => rfl
  | cons p m ih =>
    obtain ⟨k, v⟩ := p
    rw [alook_none] at h
    have h1 : k ≠ x := h (k, v) (by simp)
    have h2 : alook m x = none := alook_none.2 (fun p hp => h p (by simp [hp]))
    simp [aput, h1, ih h2]
end

/-! ### keys -/
/-- A key's value of type k. -/
structure KeyEnc (P : Program) (k : TypeId) {κ : Type} (enc : κ → Value) : Prop where
  law : Maps.Keyed P k
  key : ∀ x, ∃ l, keyOf P k (enc x) = some l
  inj : ∀ x y, enc x = enc y → x = y

/-- Block b is a map that holds m. -/
def MapIs {κ ν : Type} (w : World) (b : Nat) (enc : κ → Value) (V : ν → Value) (m : List (κ × ν)) : Prop :=
  ∃ es clock, Blk w b (.map es clock) ∧ MapKept.Stamped es clock ∧ es.toList.map (fun e => (e.key, e.val)) = m.map (fun p => (enc p.1, V p.2))

section
variable {κ ν : Type} {enc : κ → Value} {V : ν → Value} {m : List (κ × ν)} {w w' : World} {b : Nat} {P : Program} {k T E : TypeId}

theorem MapIs.lt (h : MapIs w b enc V m) : b < w.heap.size := by obtain ⟨es, c, hb, _⟩ := h; exact hb.lt
theorem MapIs.kp {S : List Nat} (h : MapIs w b enc V m) (hk : Kp S w w') (hb : b ∉ S) : MapIs w' b enc V m := by
  obtain ⟨es, c, h1, h2, h3⟩ := h
  exact ⟨es, c, h1.kp hk hb, h2, h3⟩
theorem MapIs.kp0 (h : MapIs w b enc V m) (hk : Kp [] w w') : MapIs w' b enc V m := h.kp hk (by simp)
theorem MapIs.nodup (h : MapIs w b enc V m) : (m.map (·.1)).Nodup := by
  obtain ⟨es, c, h1, h2, h3⟩ := h
  have h4 : es.toList.map (·.key) = m.map (fun p => enc p.1) := by
    have := congrArg (List.map Prod.fst) h3
    simpa [Function.comp_def] using this
  have h5 := h2.2.2
  rw [h4] at h5
  rw [List.Nodup, List.pairwise_map] at h5 ⊢
  exact h5.imp (fun hne e => hne (by rw [e]))

theorem find_pairs [DecidableEq κ] (hi : ∀ x y, enc x = enc y → x = y) {x : κ} : ∀ {es : List MapEntry} {m : List (κ × ν)}, es.map (fun e => (e.key, e.val)) = m.map (fun p => (enc p.1, V p.2)) →
    ((∀ e ∈ es, e.key ≠ enc x) → alook m x = none) ∧ (∀ (j : Nat) (e : MapEntry), es[j]? = some e → e.key = enc x → (es.map (·.key)).Nodup → ∃ y, alook m x = some y ∧ e.val = V y ∧ (es.set j { e with key := enc x }).map (·.key) = es.map (·.key) ∧
      ∀ z, (es.set j { e with key := enc x, val := V z }).map (fun e => (e.key, e.val)) = (aput m x z).map (fun p => (enc p.1, V p.2)))
  | [], m, h => by
    have : m = [] := by simpa using h.symm
    subst this
    exact ⟨fun _ => rfl, fun j e he => by simp at he⟩
  | e0 :: es, m, h => by
    cases m with
    | nil => simp at h
    | cons p m =>
      obtain ⟨k0, v0⟩ := p
      simp only [List.map_cons, List.cons.injEq, Prod.mk.injEq] at h
      obtain ⟨⟨hk, hv⟩, hr⟩ := h
      obtain ⟨ih1, ih2⟩ := find_pairs hi (x := x) hr
      constructor
      · intro hne
        have hk0 : k0 ≠ x := fun e => hne e0 (by simp) (by rw [hk, e])
        simp only [alook, hk0, if_false]
        exact ih1 (fun e he => hne e (by simp [he]))
      · intro j e he hek hnd
        cases j with
        | zero =>
          simp at he
          subst he
          have hk0 : k0 = x := hi _ _ (by rw [← hk, hek])
          subst hk0
          exact ⟨v0, by simp [alook], hv, by simp [hk], fun z => by simp [aput, hr]⟩
        | succ j =>
          simp only [List.getElem?_cons_succ] at he
          rw [List.map_cons, List.nodup_cons] at hnd
          have hk0 : k0 ≠ x := fun e1 => hnd.1 (by
            rw [hk, e1, ← hek]
            exact List.mem_map.2 ⟨e, List.mem_of_getElem? he, rfl⟩)
          obtain ⟨y, h1, h2, h3, h4⟩ := ih2 j e he hek hnd.2
          refine ⟨y, by simp [alook, hk0, h1], h2, by simpa using h3, fun z => ?_⟩
          simp only [List.set_cons_succ, List.map_cons, aput, hk0, if_false, hk, hv, h4 z]

theorem MapIs.keys (h : MapIs w b enc V m) (K : KeyEnc P k enc) : ∃ es clock, Blk w b (.map es clock) ∧ MapKept.Stamped es clock ∧ es.toList.map (fun e => (e.key, e.val)) = m.map (fun p => (enc p.1, V p.2)) ∧ ∀ e ∈ es.toList, ∃ l, keyOf P k e.key = some l := by
  obtain ⟨es, c, h1, h2, h3⟩ := h
  refine ⟨es, c, h1, h2, h3, fun e he => ?_⟩
  have : (e.key, e.val) ∈ m.map (fun p => (enc p.1, V p.2)) := by rw [← h3]; exact List.mem_map.2 ⟨e, he, rfl⟩
  obtain ⟨p, _, hp⟩ := List.mem_map.1 this
  simp only [Prod.mk.injEq] at hp
  rw [← hp.1]
  exact K.key p.1

theorem run_lookup [DecidableEq κ] [u : Ut P T (.map k E)] {i : TypeInfo} [f : Inf P E i] {z : Value} (hz : i.zero = some z) (h : MapIs w b enc V m) (K : KeyEnc P k enc) (x : κ) (ok : Bool) :
    (Instr.lookup T (.map (some b)) (enc x) ok).run P w = .ok (match alook m x with
      | some y => if ok then .tuple #[V y, .bool true] else V y
      | none => if ok then .tuple #[z, .bool false] else z) w := by
  obtain ⟨es, c, hb, hst, hm, hks⟩ := h.keys K
  obtain ⟨l, hl⟩ := K.key x
  have hb' : w.heap[b]? = some (.map es c) := hb
  rcases K.law.find w hl es.toList hks with ⟨h1, h2⟩ | ⟨j, e0, h1, h2, h3⟩
  · have := (find_pairs K.inj hm (x := x)).1 h2
    rw [this]
    simp [Instr.lookup, run_underlying u.eq, MapKept.run_getObj_map hb', K.law.check w _ hl, h1, run_zero (f := f) hz, Result.andThen]
  · obtain ⟨y, hy, hv, _⟩ := (find_pairs K.inj hm (x := x)).2 j e0 h2 h3 hst.2.2
    rw [hy]
    simp [Instr.lookup, run_underlying u.eq, MapKept.run_getObj_map hb', K.law.check w _ hl, h1, hv, Result.andThen]

theorem run_mapUpdate [DecidableEq κ] [u : Ut P T (.map k E)] (h : MapIs w b enc V m) (K : KeyEnc P k enc) (x : κ) (y : ν) :
    ∃ o', (Instr.mapUpdate T (.map (some b)) (enc x) (V y)).run P w = .ok () { w with heap := w.heap.setIfInBounds b o' } ∧ MapIs { w with heap := w.heap.setIfInBounds b o' } b enc V (aput m x y) ∧ Kp [b] w { w with heap := w.heap.setIfInBounds b o' } := by
  obtain ⟨es, c, hb, hst, hm, hks⟩ := h.keys K
  obtain ⟨l, hl⟩ := K.key x
  have hb' : w.heap[b]? = some (.map es c) := hb
  rcases K.law.find w hl es.toList hks with ⟨h1, h2⟩ | ⟨j, e0, h1, h2, h3⟩
  · have hn := (find_pairs K.inj hm (x := x)).1 h2
    refine ⟨.map (es.push ⟨enc x, V y, c⟩) (c + 1), ?_, ⟨_, _, hb.set _, MapKept.stamped_push hst h2, ?_⟩, Kp.set w hb rfl rfl⟩
    · simp [Instr.mapUpdate, run_underlying u.eq, MapKept.run_getObj_map hb', K.law.check w _ hl, h1, MapKept.run_setObj_map _ hb', Result.andThen]
    · rw [aput_new y hn]
      simp [hm]
  · obtain ⟨y0, hy, hv, _, h4⟩ := (find_pairs K.inj hm (x := x)).2 j e0 h2 h3 hst.2.2
    have hj : es[j]? = some e0 := by simpa using h2
    refine ⟨.map (es.modify j fun e => { e with key := enc x, val := V y }) c, ?_, ⟨_, _, hb.set _, MapKept.stamped_modify hst _ _ (fun _ _ => rfl) (fun e' _ he' => ?_), ?_⟩, Kp.set w hb rfl rfl⟩
    · simp [Instr.mapUpdate, run_underlying u.eq, MapKept.run_getObj_map hb', K.law.check w _ hl, h1, hj, h3, K.law.stays w hl, MapKept.run_setObj_map _ hb', Result.andThen]
    · rw [hj] at he'
      cases he'
      exact h3.symm
    · rw [Array.toList_modify, ChangeMaps.modify_eq_set _ _ _ _ h2]
      exact h4 y

theorem vals_lookup [DecidableEq κ] {S : List Nat} {w0 : World} {F : World → Prop} {L : Env} {d : Option Nat} {ty : TypeId} {pos : String} {af : Array Edge} {g : Option (Nat × Bool)} {x y : Operand} [u : Ut P T (.map k E)] {i : TypeInfo} [f : Inf P E i] {z : Value} {kx : κ} {ok : Bool}
    (hx : rho L x = .map (some b)) (hy : rho L y = enc kx) (h : MapIs w0 b enc V m) (hb : b ∉ S) (K : KeyEnc P k enc) (hz : i.zero = some z) :
    Vals P S w0 F L ⟨d, .lookup T x y ok, ty, pos, af, g⟩ (match alook m kx with
      | some y => if ok then .tuple #[V y, .bool true] else V y
      | none => if ok then .tuple #[z, .bool false] else z) := fun w hk _ => by
  simp only [execOp, hx, hy, Sem.run_bind, run_lookup (u := u) (f := f) hz (h.kp hk hb) K kx ok, Result.andThen, Sem.run_pure]
theorem vals_lookup_ok [DecidableEq κ] {S : List Nat} {w0 : World} {F : World → Prop} {L : Env} {d : Option Nat} {ty : TypeId} {pos : String} {af : Array Edge} {g : Option (Nat × Bool)} {x y : Operand} [u : Ut P T (.map k E)] {i : TypeInfo} [f : Inf P E i] {z : Value} {kx : κ} (r : Option ν)
    (hx : rho L x = .map (some b)) (hy : rho L y = enc kx) (h : MapIs w0 b enc V m) (hb : b ∉ S) (K : KeyEnc P k enc) (hz : i.zero = some z) (hr : alook m kx = r) :
    Vals P S w0 F L ⟨d, .lookup T x y true, ty, pos, af, g⟩ (.tuple #[(r.map V).getD z, .bool r.isSome]) := by
  have := vals_lookup (P := P) (S := S) (F := F) (L := L) (d := d) (ty := ty) (pos := pos) (af := af) (g := g) (ok := true) (u := u) (f := f) hx hy h hb K hz
  rw [hr] at this
  cases r <;> exact this
theorem vals_lookup_v [DecidableEq κ] {S : List Nat} {w0 : World} {F : World → Prop} {L : Env} {d : Option Nat} {ty : TypeId} {pos : String} {af : Array Edge} {g : Option (Nat × Bool)} {x y : Operand} [u : Ut P T (.map k E)] {i : TypeInfo} [f : Inf P E i] {z : Value} {kx : κ} (r : Option ν)
    (hx : rho L x = .map (some b)) (hy : rho L y = enc kx) (h : MapIs w0 b enc V m) (hb : b ∉ S) (K : KeyEnc P k enc) (hz : i.zero = some z) (hr : alook m kx = r) :
    Vals P S w0 F L ⟨d, .lookup T x y false, ty, pos, af, g⟩ ((r.map V).getD z) := by
  have := vals_lookup (P := P) (S := S) (F := F) (L := L) (d := d) (ty := ty) (pos := pos) (af := af) (g := g) (ok := false) (u := u) (f := f) hx hy h hb K hz
  rw [hr] at this
  cases r <;> exact this
theorem vals_look1 [DecidableEq κ] {S : List Nat} {w0 : World} {F : World → Prop} {L : Env} {d : Option Nat} {ty : TypeId} {pos : String} {af : Array Edge} {g : Option (Nat × Bool)} {x y : Operand} [u : Ut P T (.map k E)] {i : TypeInfo} [f : Inf P E i] {z : Value} {kx : κ} {r : ν} (hx : rho L x = .map (some b)) (hy : rho L y = enc kx) (h : MapIs w0 b enc V m) (hb : b ∉ S) (K : KeyEnc P k enc) (hz : i.zero = some z) (hr : alook m kx = some r) :
    Vals P S w0 F L ⟨d, .lookup T x y true, ty, pos, af, g⟩ (.tuple #[V r, .bool true]) := vals_lookup_ok (u := u) (f := f) (some r) hx hy h hb K hz hr
theorem vals_look0 [DecidableEq κ] {S : List Nat} {w0 : World} {F : World → Prop} {L : Env} {d : Option Nat} {ty : TypeId} {pos : String} {af : Array Edge} {g : Option (Nat × Bool)} {x y : Operand} [u : Ut P T (.map k E)] {i : TypeInfo} [f : Inf P E i] {z : Value} {kx : κ} (hx : rho L x = .map (some b)) (hy : rho L y = enc kx) (h : MapIs w0 b enc V m) (hb : b ∉ S) (K : KeyEnc P k enc) (hz : i.zero = some z) (hr : alook m kx = none) :
    Vals P S w0 F L ⟨d, .lookup T x y true, ty, pos, af, g⟩ (.tuple #[z, .bool false]) := vals_lookup_ok (u := u) (f := f) none hx hy h hb K hz hr
theorem vals_lookv1 [DecidableEq κ] {S : List Nat} {w0 : World} {F : World → Prop} {L : Env} {d : Option Nat} {ty : TypeId} {pos : String} {af : Array Edge} {g : Option (Nat × Bool)} {x y : Operand} [u : Ut P T (.map k E)] {i : TypeInfo} [f : Inf P E i] {z : Value} {kx : κ} {r : ν} (hx : rho L x = .map (some b)) (hy : rho L y = enc kx) (h : MapIs w0 b enc V m) (hb : b ∉ S) (K : KeyEnc P k enc) (hz : i.zero = some z) (hr : alook m kx = some r) :
    Vals P S w0 F L ⟨d, .lookup T x y false, ty, pos, af, g⟩ (V r) := vals_lookup_v (u := u) (f := f) (some r) hx hy h hb K hz hr
theorem vals_lookv0 [DecidableEq κ] {S : List Nat} {w0 : World} {F : World → Prop} {L : Env} {d : Option Nat} {ty : TypeId} {pos : String} {af : Array Edge} {g : Option (Nat × Bool)} {x y : Operand} [u : Ut P T (.map k E)] {i : TypeInfo} [f : Inf P E i] {z : Value} {kx : κ} (hx : rho L x = .map (some b)) (hy : rho L y = enc kx) (h : MapIs w0 b enc V m) (hb : b ∉ S) (K : KeyEnc P k enc) (hz : i.zero = some z) (hr : alook m kx = none) :
    Vals P S w0 F L ⟨d, .lookup T x y false, ty, pos, af, g⟩ z := vals_lookup_v (u := u) (f := f) none hx hy h hb K hz hr
/-- len(m). -/
theorem vals_len_map {S : List Nat} {w0 : World} {F : World → Prop} {L : Env} {d : Option Nat} {ty : TypeId} {pos : String} {af : Array Edge} {g : Option (Nat × Bool)} {x : Operand} [u : Ut P T (.map k E)]
    (hx : rho L x = .map (some b)) (h : MapIs w0 b enc V m) (hb : b ∉ S) : Vals P S w0 F L ⟨d, .call { callee := .builtin .len, args := #[x], argTypes := #[T] }, ty, pos, af, g⟩ (.int .i64 m.length) := fun w hk _ => by
  obtain ⟨es, c, h1, h2, h3⟩ := h.kp hk hb
  have h1' : w.heap[b]? = some (.map es c) := h1
  have : es.size = m.length := by
    have := congrArg List.length h3
    simpa using this
  simp [execOp, hx, resolve, invoke, builtin, Builtin.len_, run_underlying u.eq, goInt, MapKept.run_getObj_map h1', this, Result.andThen]
/-- '==' on keys. -/
theorem equal_key [DecidableEq κ] {P : Program} {w : World} {k : TypeId} {enc : κ → Value} (K : KeyEnc P k enc) (heq : ∀ {x y : Value} {lx ly : Lit}, keyOf P k x = some lx → keyOf P k y = some ly → ∃ r : Bool, (Op.equal k x y).run P w = .ok r w ∧ (r = true ↔ lx = ly)) (x y : κ) :
    (Op.equal k (enc x) (enc y)).run P w = .ok (decide (x = y)) w := by
  obtain ⟨lx, hx⟩ := K.key x
  obtain ⟨ly, hy⟩ := K.key y
  obtain ⟨r, hr, hi⟩ := heq hx hy
  rw [hr]
  congr 1
  by_cases e : x = y
  · subst e
    rw [hx] at hy
    cases hy
    simp [hi.2 rfl]
  · cases r with
    | false => simp [e]
    | true =>
      have h1 := hi.1 rfl
      subst h1
      exact absurd (K.inj _ _ (K.law.inj hx hy)) e

theorem MapIs.made (w : World) (enc : κ → Value) (V : ν → Value) : MapIs { w with heap := w.heap.push (.map #[] 0) } w.heap.size enc V [] :=
  ⟨#[], 0, Blk.push w _, MapKept.stamped_empty 0, rfl⟩
end
end Go.Proofs.Ytfelaicoedlejaa
