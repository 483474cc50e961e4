/-
  A region, whatever order it draws: a proof that walks its operations one behind the other serves for every order that the edges allow.
-/
import Derived.Test.YtfelaicoedlejaaCore
namespace Go.Proofs.Ytfelaicoedlejaa
set_option linter.unusedVariables false

/-! ### who stands behind whom -/
def edges (o : Oper) : List Nat := (o.after.toList.filter (Region.binds .any)).map (·.on)
def befOf (acc : List Nat) (l : List Nat) : Nat := l.foldl (fun s j => s ||| 2 ^ j ||| acc.getD j 0) 0
def befs : List Oper → List Nat → List Nat
  | [], acc => acc
  | o :: r, acc => befs r (acc ++ [befOf acc (edges o)])
def anc (ops : List Oper) (i j : Nat) : Bool := ((befs ops []).getD i 0).testBit j

theorem fold_bit (acc : List Nat) (j : Nat) : ∀ (l : List Nat) (s : Nat), (l.foldl (fun s j => s ||| 2 ^ j ||| acc.getD j 0) s).testBit j = true → s.testBit j = true ∨ ∃ e ∈ l, e = j ∨ (acc.getD e 0).testBit j = true
  | [], s, h => Or.inl h
  | e :: l, s, h => by
    rcases fold_bit acc j l _ h with h | ⟨e', he', h'⟩
    · simp only [Nat.testBit_or, Bool.or_eq_true, Nat.testBit_two_pow, decide_eq_true_eq] at h
      rcases h with (h | h) | h
      · exact Or.inl h
      · exact Or.inr ⟨e, by simp, Or.inl h⟩
      · exact Or.inr ⟨e, by simp, Or.inr h⟩
    · exact Or.inr ⟨e', by simp [he'], h'⟩

theorem befs_old : ∀ (r : List Oper) (acc : List Nat) (i : Nat), i < acc.length → (befs r acc).getD i 0 = acc.getD i 0
  | [], _, _, _ => rfl
  | o :: r, acc, i, h => by
    simp only [befs]
    rw [befs_old r _ i (by simp; omega)]
    simp [List.getD_eq_getElem?_getD, List.getElem?_append_left h]

theorem befs_new : ∀ (r : List Oper) (acc : List Nat) (k : Nat) (o : Oper), r[k]? = some o → ∃ acc' : List Nat, acc'.length = acc.length + k ∧ (∀ i, i < acc'.length → acc'.getD i 0 = (befs r acc).getD i 0) ∧ (befs r acc).getD (acc.length + k) 0 = befOf acc' (edges o)
  | [], _, _, _, h => by simp at h
  | o' :: r, acc, 0, o, h => by
    simp at h
    subst h
    refine ⟨acc, rfl, fun i hi => (befs_old _ _ i hi).symm, ?_⟩
    simp only [befs, Nat.add_zero]
    rw [befs_old r _ acc.length (by simp)]
    simp [List.getD_eq_getElem?_getD]
  | o' :: r, acc, k + 1, o, h => by
    simp only [List.getElem?_cons_succ] at h
    obtain ⟨acc', h1, h2, h3⟩ := befs_new r (acc ++ [befOf acc (edges o')]) k o h
    simp only [List.length_append, List.length_singleton] at h1 h3
    refine ⟨acc', by omega, fun i hi => ?_, ?_⟩
    · simp only [befs]; exact h2 i hi
    · simp only [befs]
      rw [show acc.length + (k + 1) = acc.length + 1 + k from by omega]
      exact h3

/-- What is done is closed under 'stands behind'. -/
theorem anc_closed {ops : List Oper} {D : Nat → Bool} (hc : ∀ i o, ops[i]? = some o → D i = true → ∀ e ∈ edges o, D e = true) :
    ∀ (i : Nat) (o : Oper), ops[i]? = some o → (∀ e ∈ edges o, D e = true) → ∀ j, anc ops i j = true → D j = true := by
  intro i
  induction i using Nat.strongRecOn with
  | _ i ih =>
    intro o ho he j hj
    obtain ⟨acc', h1, h2, h3⟩ := befs_new ops [] i o ho
    simp only [List.length_nil, Nat.zero_add] at h1 h3
    unfold anc at hj
    rw [h3] at hj
    rcases fold_bit acc' j _ 0 hj with h | ⟨e, hem, h⟩
    · simp at h
    · rcases h with rfl | h
      · exact he _ hem
      · by_cases hlt : e < i
        · have hio : i < ops.length := (List.getElem?_eq_some_iff.1 ho).1
          have heo : ops[e]? = some ops[e] := by simp
          refine ih e hlt _ heo (hc e _ heo (he e hem)) j ?_
          unfold anc
          rw [← h2 e (by omega)]
          exact h
        · rw [List.getD_eq_getElem?_getD, List.getElem?_eq_none (by omega)] at h
          simp at h

/-! ### the derivation -/

def addD (d : Option Nat) (v : Value) (L : Env) : Env :=
  match d with
  | some d => (d, v) :: L
  | none => L

/-- Is the operation wanted, as far as L knows? -/
def want (ops : List Oper) (L : Env) (o : Oper) : Option Bool :=
  match o.guard with
  | none => some true
  | some (j, b) => match (ops[j]?).bind (·.dst) with
    | none => none
    | some d => match look L d with
      | some (.bool c) => some (c == b)
      | some _ => some false
      | none => none

/-- An operation whose value is v in every world that keeps w0's blocks (but S) and in which F holds; it turns no block. -/
def Plain (P : Program) (S : List Nat) (w0 : World) (F : World → Prop) (L : Env) (o : Oper) (v : Value) : Prop :=
  o.op.operands.toList.all (known L) = true ∧ ∀ w, Kp S w0 w → F w → OpRun P (rho L) o w (fun v' w' => v' = v ∧ Kp [] w w')

/-- .. that looks at the resource R. -/
def RPlain (P : Program) (S : List Nat) (w0 : World) (F R : World → Prop) (L : Env) (o : Oper) (v : Value) : Prop :=
  o.op.operands.toList.all (known L) = true ∧ ∀ w, Kp S w0 w → F w → R w → OpRun P (rho L) o w (fun v' w' => v' = v ∧ Kp [] w w')

def Stab (S : List Nat) (F : World → Prop) : Prop := ∀ w w', Kp S w w' → F w → F w'

def Ghost (P : Program) (S : List Nat) (w0 : World) (F R : World → Prop) (L : Env) (o : Oper) (X : Type) (val : X → Value) (F' R' : X → World → Prop) : Prop :=
  o.op.operands.toList.all (known L) = true ∧ (∀ x, Stab S (F' x)) ∧ (∀ x, Stab [] (R' x)) ∧
    ∀ w, Kp S w0 w → F w → R w → OpRun P (rho L) o w (fun v w' => ∃ x, v = val x ∧ (F w' ∧ F' x w') ∧ R' x w' ∧ Kp S w0 w')

def Der (P : Program) (S : List Nat) (w0 : World) (ops : List Oper) (gh : List Nat) (K : Env → (World → Prop) → (World → Prop) → Prop) : List Nat → Env → (World → Prop) → (World → Prop) → Prop
  | [], L, F, R => K L F R
  | i :: ord, L, F, R => ∃ o, ops[i]? = some o ∧
      ((want ops L o = some false ∧ Der P S w0 ops gh K ord (addD o.dst undef L) F R) ∨
       (want ops L o = some true ∧ ∃ v, Plain P S w0 F L o v ∧ Der P S w0 ops gh K ord (addD o.dst v L) F R) ∨
       (want ops L o = some true ∧ (i + 1000) ∈ gh ∧ ∃ v, RPlain P S w0 F R L o v ∧ Der P S w0 ops gh K ord (addD o.dst v L) F R) ∨
       (want ops L o = some true ∧ i ∈ gh ∧ ∃ (X : Type) (val : X → Value) (F' R' : X → World → Prop), Ghost P S w0 F R L o X val F' R' ∧
          ∀ x, Der P S w0 ops gh K ord (addD o.dst (val x) L) (fun w => F w ∧ F' x w) (R' x)))

structure Ent where
  i : Nat
  o : Oper
  v : Value

def env (L0 : Env) : List Ent → Env
  | [] => L0
  | e :: r => addD e.o.dst e.v (env L0 r)

def curv (L0 : Env) (D : Nat → Bool) : List Ent → Nat → Option Value
  | [], t => look L0 t
  | e :: r, t => if e.o.dst = some t then (if D e.i = true then some e.v else look L0 t) else curv L0 D r t

theorem look_addD {d : Option Nat} {v : Value} {L : Env} {t : Nat} : look (addD d v L) t = if d = some t then some v else look L t := by
  cases d with
  | none => simp [addD]
  | some d =>
    by_cases h : d = t
    · subst h; simp [addD, look_here]
    · simp [addD, look_ne h, h]

/-- No entry writes t: the old value. -/
theorem env_none {L0 : Env} {t : Nat} : ∀ (l : List Ent), (∀ e ∈ l, e.o.dst ≠ some t) → look (env L0 l) t = look L0 t
  | [], _ => rfl
  | e :: r, h => by
    simp only [env]
    rw [look_addD, if_neg (h e (by simp)), env_none r (fun e he => h e (by simp [he]))]
theorem curv_none {L0 : Env} {D : Nat → Bool} {t : Nat} : ∀ (l : List Ent), (∀ e ∈ l, e.o.dst ≠ some t) → curv L0 D l t = look L0 t
  | [], _ => rfl
  | e :: r, h => by
    simp only [curv]
    rw [if_neg (h e (by simp)), curv_none r (fun e he => h e (by simp [he]))]

theorem curv_env {L0 : Env} {D : Nat → Bool} {t : Nat} : ∀ (l : List Ent), (∀ e ∈ l, e.o.dst = some t → D e.i = true) → curv L0 D l t = look (env L0 l) t
  | [], _ => rfl
  | e :: r, h => by
    simp only [curv, env]
    rw [look_addD]
    by_cases hd : e.o.dst = some t
    · rw [if_pos hd, if_pos hd, if_pos (h e (by simp) hd)]
    · rw [if_neg hd, if_neg hd, curv_env r (fun e he => h e (by simp [he]))]

/-- Each slot has one writer. -/
def OneWriter (l : List Ent) : Prop := l.Pairwise (fun a b => ∀ t, a.o.dst = some t → b.o.dst ≠ some t)

theorem curv_at {L0 : Env} {D : Nat → Bool} {t : Nat} {x : Ent} : ∀ (pre post : List Ent), OneWriter (pre ++ x :: post) →
    (∀ e ∈ post, e.o.dst = some t → D e.i = true) → (∀ e ∈ pre, e.o.dst = some t → D e.i = false) → (x.o.dst = some t → D x.i = false) →
    curv L0 D (pre ++ x :: post) t = look (env L0 post) t
  | [], post, hu, h1, h2, h3 => by
    simp only [List.nil_append, curv]
    by_cases hd : x.o.dst = some t
    · rw [if_pos hd, if_neg (by simp [h3 hd])]
      rw [env_none post (fun e he => (List.pairwise_cons.1 hu).1 e he t hd)]
    · rw [if_neg hd]
      exact curv_env post h1
  | p :: pre, post, hu, h1, h2, h3 => by
    simp only [List.cons_append, curv]
    have hu' := List.pairwise_cons.1 hu
    by_cases hd : p.o.dst = some t
    · rw [if_pos hd, if_neg (by simp [h2 p (by simp) hd])]
      rw [env_none post (fun e he => hu'.1 e (by simp [he]) t hd)]
    · rw [if_neg hd]
      exact curv_at pre post hu'.2 h1 (fun e he => h2 e (by simp [he])) h3

def setD (D : Nat → Bool) (i : Nat) (j : Nat) : Bool := if j = i then true else D j
theorem setD_ne {D : Nat → Bool} {i j : Nat} (h : j ≠ i) : setD D i j = D j := by simp [setD, h]
theorem setD_same {D : Nat → Bool} {i : Nat} : setD D i i = true := by simp [setD]
theorem setD_of {D : Nat → Bool} {i j : Nat} (h : D j = true) : setD D i j = true := by unfold setD; split <;> simp [h]
theorem curv_setD {L0 : Env} {D : Nat → Bool} {t i : Nat} : ∀ (m : List Ent), (∀ e' ∈ m, e'.i ≠ i) → curv L0 (setD D i) m t = curv L0 D m t
  | [], _ => rfl
  | q :: m, hq => by simp only [curv, setD_ne (hq q (by simp)), curv_setD m (fun e' he' => hq e' (by simp [he']))]

theorem curv_upd {L0 : Env} {D : Nat → Bool} {t : Nat} {x : Ent} : ∀ (l : List Ent), OneWriter l → x ∈ l → (∀ e ∈ l, e.i = x.i → e = x) →
    curv L0 (setD D x.i) l t = if x.o.dst = some t then some x.v else curv L0 D l t
  | [], _, hm, _ => by cases hm
  | e :: r, hu, hm, hi => by
    have hu' := List.pairwise_cons.1 hu
    simp only [curv]
    by_cases hex : e = x
    · subst hex
      by_cases hd : e.o.dst = some t
      · simp [hd, setD_same]
      · simp only [hd, if_false]
        by_cases hin : e ∈ r
        · have := curv_upd (L0 := L0) (D := D) (t := t) r hu'.2 hin (fun e' he' => hi e' (by simp [he']))
          rw [this, if_neg hd]
        · exact curv_setD r (fun e' he' hh => hin ((hi e' (by simp [he']) hh) ▸ he'))
    · have hne : e.i ≠ x.i := fun h => hex (hi e (by simp) h)
      have hm' : x ∈ r := by
        rcases List.mem_cons.1 hm with h | h
        · exact absurd h.symm hex
        · exact h
      by_cases hd : e.o.dst = some t
      · have hxd : x.o.dst ≠ some t := hu'.1 x hm' t hd
        simp [hd, hxd, setD_ne hne]
      · simp only [hd, if_false]
        exact curv_upd r hu'.2 hm' (fun e' he' => hi e' (by simp [he']))

end Go.Proofs.Ytfelaicoedlejaa
