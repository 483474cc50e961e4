/-
  The program logic of this seat's proofs: environments of slots, worlds that keep old blocks, one operation's run, and a rule for regions whatever order they draw.
  Nothing here is about one program.
-/
import Derived.Test.YtfelaicoedlejaaProg
import Derived.Tactics
import Derived.Orders
import Derived.Scope
import Derived.KernelRfl
namespace Go.Proofs.Ytfelaicoedlejaa
set_option linter.unusedVariables false

/-! ### worlds -/

/-- From w to w' no block of w has turned but those in S; new ones may have come; the streams and what is frozen are as they were. -/
structure Kp (S : List Nat) (w w' : World) : Prop where
  size : w.heap.size ≤ w'.heap.size
  blk : ∀ b, b < w.heap.size → b ∉ S → w'.heap[b]? = w.heap[b]?
  os : w'.os = w.os
  tape : w'.tape = w.tape
  output : w'.output = w.output
  fz : ∀ a, a.block < w.heap.size → w'.frozen? a = w.frozen? a

theorem Kp.refl (S : List Nat) (w : World) : Kp S w w := ⟨Nat.le_refl _, fun _ _ _ => rfl, rfl, rfl, rfl, fun _ _ => rfl⟩
theorem Kp.trans {S : List Nat} {a b c : World} (h : Kp S a b) (k : Kp S b c) : Kp S a c :=
  ⟨Nat.le_trans h.size k.size, fun i hi hs => (k.blk i (Nat.lt_of_lt_of_le hi h.size) hs).trans (h.blk i hi hs), k.os.trans h.os, k.tape.trans h.tape, k.output.trans h.output, fun a ha => (k.fz a (Nat.lt_of_lt_of_le ha h.size)).trans (h.fz a ha)⟩
theorem Kp.mono {S T : List Nat} {w w' : World} (h : Kp S w w') (hs : ∀ x ∈ S, x ∈ T) : Kp T w w' :=
  ⟨h.size, fun b hb hn => h.blk b hb (fun hm => hn (hs b hm)), h.os, h.tape, h.output, h.fz⟩
theorem Kp.any {S : List Nat} {w w' : World} (h : Kp [] w w') : Kp S w w' := h.mono (fun _ h => by cases h)
/-- What is written behind w's end does not count from w on. -/
theorem Kp.trans_new {S T : List Nat} {a b c : World} (h : Kp S a b) (k : Kp T b c) (hT : ∀ x ∈ T, x ∈ S ∨ a.heap.size ≤ x) : Kp S a c :=
  ⟨Nat.le_trans h.size k.size, fun i hi hs => (k.blk i (Nat.lt_of_lt_of_le hi h.size) (fun hm => (hT i hm).elim hs (fun hh => by omega))).trans (h.blk i hi hs), k.os.trans h.os, k.tape.trans h.tape, k.output.trans h.output, fun a ha => (k.fz a (Nat.lt_of_lt_of_le ha h.size)).trans (h.fz a ha)⟩
theorem Kp.drew {S : List Nat} {a w : World} (h : Kp S a w) : Kp S a { w with drawn := w.drawn + 1 } := ⟨h.size, h.blk, h.os, h.tape, h.output, h.fz⟩

/-- Block b is o. -/
def Blk (w : World) (b : Nat) (o : Obj) : Prop := w.heap[b]? = some o
theorem Blk.lt {w : World} {b : Nat} {o : Obj} (h : Blk w b o) : b < w.heap.size := (Array.getElem?_eq_some_iff.1 h).1
theorem Blk.kp {S : List Nat} {w w' : World} {b : Nat} {o : Obj} (h : Blk w b o) (k : Kp S w w') (hb : b ∉ S) : Blk w' b o := (k.blk b h.lt hb).trans h
theorem Blk.kp0 {w w' : World} {b : Nat} {o : Obj} (h : Blk w b o) (k : Kp [] w w') : Blk w' b o := h.kp k (by simp)
theorem Blk.uniq {w : World} {b : Nat} {o o' : Obj} (h : Blk w b o) (h' : Blk w b o') : o = o' := Option.some.inj (h.symm.trans h')

/-- A new block that nothing has frozen. -/
def Obj.soft : Obj → Bool
  | .cells _ _ (lo, hi) => Nat.ble hi lo
  | _ => true
theorem frozen_soft {w : World} {a : Addr} {o : Obj} (h : w.heap[a.block]? = some o) (hs : Obj.soft o = true) : w.frozen? a = false := by
  unfold World.frozen?
  rw [h]
  cases o <;> try rfl
  rename_i c e f
  obtain ⟨lo, hi⟩ := f
  simp only [Obj.soft, Nat.ble_eq] at hs
  simp
  omega
theorem frozen_none {w : World} {a : Addr} (h : w.heap[a.block]? = none) : w.frozen? a = false := by
  unfold World.frozen?
  rw [h]
theorem frozen_same {w w' : World} {a : Addr} (h : w'.heap[a.block]? = w.heap[a.block]?) : w'.frozen? a = w.frozen? a := by
  unfold World.frozen?
  rw [h]
theorem Kp.push (w : World) (o : Obj) (hs : Obj.soft o = true) : Kp [] w { w with heap := w.heap.push o } := by
  refine ⟨by simp, fun b hb _ => ?_, rfl, rfl, rfl, fun a _ => ?_⟩
  · show (w.heap.push o)[b]? = _
    rw [Array.getElem?_push, if_neg (by omega)]
  · by_cases h : a.block = w.heap.size
    · rw [frozen_soft (o := o) (by show (w.heap.push o)[a.block]? = _; rw [h]; simp) hs, frozen_none (by rw [h]; simp)]
    · refine frozen_same ?_
      show (w.heap.push o)[a.block]? = _
      rw [Array.getElem?_push, if_neg h]
theorem Blk.push (w : World) (o : Obj) : Blk { w with heap := w.heap.push o } w.heap.size o := by simp [Blk]
/-- One block is written anew. -/
theorem Kp.set (w : World) {b : Nat} {o o' : Obj} (h : Blk w b o) (hs : Obj.soft o = true) (hs' : Obj.soft o' = true) : Kp [b] w { w with heap := w.heap.setIfInBounds b o' } := by
  refine ⟨by simp, fun i hi hn => ?_, rfl, rfl, rfl, fun a _ => ?_⟩
  · show (w.heap.setIfInBounds b o')[i]? = _
    rw [Array.getElem?_setIfInBounds_ne (fun e => hn (by simp [e]))]
  · by_cases e : a.block = b
    · rw [frozen_soft (o := o') (by show (w.heap.setIfInBounds b o')[a.block]? = _; rw [e]; simp [h.lt]) hs', frozen_soft (o := o) (by rw [e]; exact h) hs]
    · refine frozen_same ?_
      show (w.heap.setIfInBounds b o')[a.block]? = _
      rw [Array.getElem?_setIfInBounds_ne (fun e1 => e e1.symm)]
theorem Blk.set {w : World} {b : Nat} {o : Obj} (h : Blk w b o) (o' : Obj) : Blk { w with heap := w.heap.setIfInBounds b o' } b o' := by simp [Blk, h.lt]

theorem nm1 {x a : Nat} (h : x ≠ a) : x ∉ [a] := by simp [h]
theorem nm2 {x a b : Nat} (h : x ≠ a) (h2 : x ≠ b) : x ∉ [a, b] := by simp [h, h2]
theorem nm3 {x a b c : Nat} (h : x ≠ a) (h2 : x ≠ b) (h3 : x ≠ c) : x ∉ [a, b, c] := by simp [h, h2, h3]
theorem new1 {S : List Nat} {n a : Nat} (h : n ≤ a) : ∀ x ∈ [a], x ∈ S ∨ n ≤ x := by intro x hx; simp at hx; right; omega
theorem new2 {S : List Nat} {n a b : Nat} (h : n ≤ a) (h2 : n ≤ b) : ∀ x ∈ [a, b], x ∈ S ∨ n ≤ x := by intro x hx; simp at hx; right; omega

/-! ### environments -/

abbrev Env := List (Nat × Value)
def look : Env → Nat → Option Value
  | [], _ => none
  | (s, v) :: L, t => bif Nat.beq s t then some v else look L t
theorem look_here (t : Nat) (v : Value) (L : Env) : look ((t, v) :: L) t = some v := by simp [look]
theorem look_there {s t : Nat} {u v : Value} {L : Env} (h : Nat.beq s t = false) (hl : look L t = some v) : look ((s, u) :: L) t = some v := by simp [look, h, hl]
theorem look_ne {s t : Nat} {u : Value} {L : Env} (h : s ≠ t) : look ((s, u) :: L) t = look L t := by
  have : Nat.beq s t = false := by rw [← Bool.not_eq_true, Nat.beq_eq]; exact h
  simp [look, this]

theorem look_skip1 {s0 t : Nat} {u0 v : Value} {L : Env} (h : (Nat.beq s0 t) = false) (hl : look L t = some v) : look ((s0, u0) :: L) t = some v := look_there h hl
theorem look_skip2 {s0 s1 t : Nat} {u0 u1 v : Value} {L : Env} (h : (Nat.beq s0 t || Nat.beq s1 t) = false) (hl : look L t = some v) : look ((s0, u0) :: (s1, u1) :: L) t = some v := by
  simp only [Bool.or_eq_false_iff] at h
  simp [look, h, hl]
theorem look_skip4 {s0 s1 s2 s3 t : Nat} {u0 u1 u2 u3 v : Value} {L : Env} (h : (Nat.beq s0 t || Nat.beq s1 t || Nat.beq s2 t || Nat.beq s3 t) = false) (hl : look L t = some v) : look ((s0, u0) :: (s1, u1) :: (s2, u2) :: (s3, u3) :: L) t = some v := by
  simp only [Bool.or_eq_false_iff] at h
  simp [look, h, hl]
theorem look_skip8 {s0 s1 s2 s3 s4 s5 s6 s7 t : Nat} {u0 u1 u2 u3 u4 u5 u6 u7 v : Value} {L : Env} (h : (Nat.beq s0 t || Nat.beq s1 t || Nat.beq s2 t || Nat.beq s3 t || Nat.beq s4 t || Nat.beq s5 t || Nat.beq s6 t || Nat.beq s7 t) = false) (hl : look L t = some v) : look ((s0, u0) :: (s1, u1) :: (s2, u2) :: (s3, u3) :: (s4, u4) :: (s5, u5) :: (s6, u6) :: (s7, u7) :: L) t = some v := by
  simp only [Bool.or_eq_false_iff] at h
  simp [look, h, hl]

structure Fits (n : Nat) (a : Act) (L : Env) : Prop where
  slot : ∀ t v, look L t = some v → a.tmps[t]? = some v
  size : a.tmps.size = n
  defers : a.defers = []

def rho (L : Env) : Operand → Value
  | .tmp t => (look L t).getD undef
  | .const v => v
  | .global g => .pointer (some ⟨g, 0, none⟩)
  | .func f => .func (.func f) #[] #[]

theorem rho_tmp {L : Env} {t : Nat} {v : Value} (h : look L t = some v) : rho L (.tmp t) = v := by simp [rho, h]

theorem rho_const {L : Env} {v : Value} : rho L (.const v) = v := rfl
theorem rho_func {L : Env} {f : FuncId} : rho L (.func f) = .func (.func f) #[] #[] := rfl

def known (L : Env) : Operand → Bool
  | .tmp t => (look L t).isSome
  | _ => true

theorem Fits.eval {n : Nat} {a : Act} {L : Env} (h : Fits n a L) {x : Operand} (hx : known L x = true) : a.eval x = rho L x := by
  cases x with
  | tmp t =>
    simp only [known, Option.isSome_iff_exists] at hx
    obtain ⟨v, hv⟩ := hx
    have := h.slot t v hv
    simp [Act.eval, rho, hv, Array.getD_eq_getD_getElem?, this]
  | _ => rfl

theorem Fits.sub {n : Nat} {a : Act} {L L' : Env} (h : Fits n a L) (hs : ∀ t v, look L' t = some v → look L t = some v) : Fits n a L' :=
  ⟨fun t v hv => h.slot t v (hs t v hv), h.size, h.defers⟩

/-- Only the slots in ks are kept. -/
def kept (ks : List Nat) : Env → Env
  | [] => []
  | (s, v) :: L => bif ks.elem s then (s, v) :: kept ks L else kept ks L
theorem look_keep (ks : List Nat) : ∀ (L : Env) (t : Nat) (v : Value), look (kept ks L) t = some v → look L t = some v
  | [], _, _, h => by simp [kept, look] at h
  | (s, u) :: L, t, v, h => by
    by_cases hst : s = t
    · subst hst
      by_cases hk : ks.elem s = true
      · simp only [kept, hk, cond_true] at h
        rw [look_here] at h ⊢
        exact h
      · exfalso
        have hk' : ks.elem s = false := by simpa using hk
        simp only [kept, hk', cond_false] at h
        have : ∀ (M : Env), look (kept ks M) s = none := by
          intro M
          induction M with
          | nil => rfl
          | cons p M ih =>
            obtain ⟨q, x⟩ := p
            by_cases hq : ks.elem q = true
            · have hqs : q ≠ s := fun e => by rw [e, hk'] at hq; cases hq
              simp only [kept, hq, cond_true]
              rw [look_ne hqs, ih]
            · have hq' : ks.elem q = false := by simpa using hq
              simp only [kept, hq', cond_false, ih]
        rw [this] at h
        cases h
    · rw [look_ne hst]
      cases hk : ks.elem s
      · simp only [kept, hk, cond_false] at h
        exact look_keep ks L t v h
      · simp only [kept, hk, cond_true] at h
        rw [look_ne hst] at h
        exact look_keep ks L t v h
theorem Fits.keep {n : Nat} {a : Act} {L : Env} (ks : List Nat) (h : Fits n a L) : Fits n a (kept ks L) := h.sub (look_keep ks L)

theorem Fits.put {n : Nat} {a : Act} {L : Env} (h : Fits n a L) (d : Nat) (v : Value) (hd : d < n) : Fits n (a.put (some d) v) ((d, v) :: L) := by
  refine ⟨fun t u hu => ?_, by simp [Act.put, h.size], h.defers⟩
  by_cases e : d = t
  · subst e
    rw [look_here] at hu
    cases hu
    simp [Act.put, h.size, hd]
  · rw [look_ne e] at hu
    simp only [Act.put]
    rw [Array.getElem?_setIfInBounds_ne e]
    exact h.slot t u hu
theorem Fits.put_none {n : Nat} {a : Act} {L : Env} (h : Fits n a L) (v : Value) : Fits n (a.put none v) L := h

/-! ### one operation -/

/-- The operation, at these operands, in w: it goes through (no panic), and what comes of it is R's. -/
def OpRun (P : Program) (ρ : Operand → Value) (o : Oper) (w : World) (R : Value → World → Prop) : Prop :=
  match (execOp ρ o).run P w with
  | .ok (.value v) w' => R v w'
  | .ok .skip w' => R undef w'
  | .ok (.enter f args) w' => Calls P f args w' fun e w'' => ∃ v, e = .returned v ∧ R v w''
  | _ => False

theorem OpRun.mono {P : Program} {ρ : Operand → Value} {o : Oper} {w : World} {R R' : Value → World → Prop} (h : OpRun P ρ o w R) (hr : ∀ v w', R v w' → R' v w') : OpRun P ρ o w R' := by
  unfold OpRun at *
  generalize (execOp ρ o).run P w = r at *
  cases r with
  | ok n w' =>
    cases n <;> simp only at h ⊢
    case value v => exact hr _ _ h
    case skip => exact hr _ _ h
    case enter f args => exact Calls.mono h (fun e w'' ⟨v, he, hR⟩ => ⟨v, he, hr _ _ hR⟩)
  | halt x w' => exact h

theorem OpRun.wp {P : Program} {o : Oper} {a : Act} {w : World} {K : Act → World → Prop} {Q : Exit → Act → World → Prop} {R : Value → World → Prop}
    (h : OpRun P a.eval o w R) (hK : ∀ v w', R v w' → K (a.put o.dst v) w') : o.wp P a w K Q := by
  unfold OpRun at h
  unfold Oper.wp
  generalize (execOp a.eval o).run P w = r at *
  cases r with
  | ok n w' =>
    cases n <;> simp only [Oper.upon] at h ⊢
    case value v => exact hK _ _ h
    case skip => exact hK _ _ h
    case enter f args => exact Calls.mono h (fun e w'' ⟨v, he, hR⟩ => by subst he; exact hK _ _ hR)
  | halt x w' => exact h.elim

def isSelect : Op → Bool
  | .select .. => true
  | _ => false

theorem OpRun.congr {P : Program} {ρ ρ' : Operand → Value} {o : Oper} {w : World} {R : Value → World → Prop} (hs : isSelect o.op = false)
    (h : ∀ x ∈ o.op.operands, ρ x = ρ' x) (hr : OpRun P ρ o w R) : OpRun P ρ' o w R := by
  unfold OpRun at *
  rw [← execOp_congr o (fun cs b e => by rw [e] at hs; cases hs) h]
  exact hr

end Go.Proofs.Ytfelaicoedlejaa
