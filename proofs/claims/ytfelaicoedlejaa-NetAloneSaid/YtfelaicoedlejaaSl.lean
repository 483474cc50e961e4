/-
  Slices of anything: rows of cells, one behind the other.
-/
import Derived.Test.YtfelaicoedlejaaQuick
namespace Go.Proofs.Ytfelaicoedlejaa
set_option linter.unusedVariables false

section
variable {α : Type} {enc : α → List Value} {sz : Nat}

/-- From a on, in memory: what l says, each in sz cells. -/
def Sl (enc : α → List Value) (sz : Nat) (w : World) (a : Option Addr) (l : List α) : Prop := ∀ i x, l[i]? = some x → ∃ b off, a = some ⟨b, off, none⟩ ∧ Row w b (off + i * sz) (enc x)
theorem Sl.kp {S : List Nat} {w w' : World} {a : Option Addr} {l : List α} (h : Sl enc sz w a l) (hk : Kp S w w') (hb : ∀ b off, a = some ⟨b, off, none⟩ → b ∉ S) : Sl enc sz w' a l := fun i x hx => by
  obtain ⟨b, off, h1, h2⟩ := h i x hx
  exact ⟨b, off, h1, h2.kp hk (hb b off h1)⟩
theorem Sl.kp0 {w w' : World} {a : Option Addr} {l : List α} (h : Sl enc sz w a l) (hk : Kp [] w w') : Sl enc sz w' a l := h.kp hk (by simp)
theorem Sl.take {w : World} {a : Option Addr} {l : List α} (h : Sl enc sz w a l) (n : Nat) : Sl enc sz w a (l.take n) := fun i x hx => by
  rw [List.getElem?_take] at hx
  split at hx
  · exact h i x hx
  · cases hx
theorem Sl.nil {w : World} {a : Option Addr} : Sl enc sz w a [] := fun i x hx => by simp at hx
theorem Sl.at {w : World} {a : Option Addr} {l : List α} (h : Sl enc sz w a l) {i : Nat} (hi : i < l.length) : ∃ b off, a = some ⟨b, off, none⟩ ∧ Row w b (off + i * sz) (enc l[i]) := h i l[i] (List.getElem?_eq_getElem hi)

theorem Sl.row {w : World} {b off : Nat} {l : List α} (h : Sl enc sz w (some ⟨b, off, none⟩) l) {i : Nat} {x : α} (hx : l[i]? = some x) : Row w b (off + i * sz) (enc x) := by
  obtain ⟨b', off', h1, h2⟩ := h i x hx
  simp only [Option.some.injEq, Addr.mk.injEq, and_true] at h1
  obtain ⟨rfl, rfl⟩ := h1
  exact h2

def flt (enc : α → List Value) (l : List α) : List Value := l.flatMap enc
theorem flt_length (he : ∀ x, (enc x).length = sz) (l : List α) : (flt enc l).length = l.length * sz := by
  induction l with
  | nil => simp [flt]
  | cons x l ih =>
    simp only [flt, List.flatMap_cons, List.length_append, he, List.length_cons, Nat.add_mul] at *
    omega
theorem flt_append (a b : List α) : flt enc (a ++ b) = flt enc a ++ flt enc b := by simp [flt]
theorem flt_one (x : α) : flt enc [x] = enc x := by simp [flt]
theorem flt_all (he : ∀ x, allOne (enc x) = true) (l : List α) : allOne (flt enc l) = true := by
  induction l with
  | nil => rfl
  | cons x l ih =>
    have := he x
    unfold allOne at *
    simp only [flt, List.flatMap_cons, List.all_append, this, Bool.true_and] at *
    exact ih
theorem flt_split (l : List α) (k : Nat) (hk : k < l.length) : flt enc l = flt enc (l.take k) ++ (enc l[k] ++ flt enc (l.drop (k + 1))) := by
  have e : l = l.take k ++ (l[k] :: l.drop (k + 1)) := by rw [← List.drop_eq_getElem_cons hk, List.take_append_drop]
  have h2 : flt enc (l.take k ++ (l[k] :: l.drop (k + 1))) = flt enc (l.take k) ++ (enc l[k] ++ flt enc (l.drop (k + 1))) := by simp only [flt, List.flatMap_append, List.flatMap_cons]
  rw [← e] at h2
  exact h2
theorem flt_row (he : ∀ x, (enc x).length = sz) {w : World} {b : Nat} {l : List α} {pre post : List Value} {T : TypeId} (h : Blk w b (.cells (pre ++ (flt enc l ++ post)).toArray T)) {k : Nat} (hk : k < l.length) : Row w b (pre.length + k * sz) (enc l[k]) := by
  refine Row.of h (pre ++ flt enc (l.take k)) (flt enc (l.drop (k + 1)) ++ post) ?_ ?_
  · rw [flt_split l k hk]; simp
  · simp [flt_length he, Nat.min_eq_left (Nat.le_of_lt hk)]
theorem Sl.of_blk (he : ∀ x, (enc x).length = sz) {w : World} {b : Nat} {l : List α} {pre post : List Value} {T : TypeId} (h : Blk w b (.cells (pre ++ (flt enc l ++ post)).toArray T)) : Sl enc sz w (some ⟨b, pre.length, none⟩) l := fun i x hx => by
  have hi : i < l.length := (List.getElem?_eq_some_iff.1 hx).1
  have := flt_row he h hi
  rw [List.getElem?_eq_getElem hi] at hx
  cases hx
  exact ⟨b, _, rfl, this⟩
theorem Sl.own {w : World} {base n : Nat} {T : TypeId} {v : Value} {l : List α} (he : ∀ x, (enc x).length = sz) (h : w.ownsRow base T sz v n (flt enc l)) (hn : l.length = n) : ∃ a c, v = .slice a n c ∧ n ≤ c ∧ Sl enc sz w a l := by
  obtain ⟨h1, h2⟩ := h
  rcases h2 with ⟨rfl, rfl⟩ | ⟨g, cap, cur, rfl, hg, hh, hnc, hcm, hcs, ht⟩
  · have : l = [] := List.eq_nil_of_length_eq_zero hn
    subst this
    exact ⟨none, 0, rfl, by omega, Sl.nil⟩
  · refine ⟨some ⟨g, 0, none⟩, cap, rfl, hnc, ?_⟩
    have : cur = ([] ++ (flt enc l ++ cur.toList.drop (n * sz))).toArray := by
      rw [← ht, List.nil_append, List.take_append_drop]
    rw [this] at hh
    exact Sl.of_blk he (pre := []) hh
/-- A slice just made, as one that is owned. -/
theorem own_made {w : World} {b base n : Nat} {T : TypeId} {l : List α} (he : ∀ x, (enc x).length = sz) (h : Blk w b (.cells (flt enc l).toArray T)) (hb : base ≤ b) (hn : l.length = n) (hl : n ≤ maxLen) : w.ownsRow base T sz (.slice (some ⟨b, 0, none⟩) n n) n (flt enc l) := by
  subst hn
  refine ⟨flt_length he l, Or.inr ⟨b, l.length, (flt enc l).toArray, rfl, hb, h, Nat.le_refl _, hl, by simp [flt_length he], ?_⟩⟩
  rw [← flt_length he l]
  simp
theorem own_nil {w : World} {base : Nat} {T : TypeId} : w.ownsRow base T sz (.slice none 0 0) 0 (flt enc ([] : List α)) := ⟨by simp [flt], Or.inl ⟨rfl, rfl⟩⟩
theorem own_nb {w : World} {base n sz : Nat} {T : TypeId} {v : Value} {xs : List Value} (h : w.ownsRow base T sz v n xs) : ∀ z, z < base → z ∉ ownB v := by
  intro z hz hm
  unfold ownB at hm
  cases hv : v.ownBlock with
  | none => rw [hv] at hm; simp at hm
  | some g => rw [hv] at hm; simp at hm; have := (h.lt g hv).1; omega
theorem own_new {w w0 : World} {base n sz : Nat} {T : TypeId} {v : Value} {xs : List Value} {S : List Nat} (h : w.ownsRow base T sz v n xs) (hb : w0.heap.size ≤ base) : ∀ z ∈ ownB v, z ∈ S ∨ w0.heap.size ≤ z := by
  intro z hz
  by_cases hlt : z < base
  · exact absurd hz (own_nb h z hlt)
  · exact Or.inr (by omega)

/-- A slice that came behind n: its cells, its room. -/
structure SlF (n : Nat) (enc : α → List Value) (sz : Nat) (w : World) (a : Option Addr) (c : Nat) (l : List α) : Prop where
  len : l.length ≤ c
  fr : ∀ b off, a = some ⟨b, off, none⟩ → n ≤ b
  sl : Sl enc sz w a l
theorem SlF.kp0 {n : Nat} {w w' : World} {a : Option Addr} {c : Nat} {l : List α} (h : SlF n enc sz w a c l) (hk : Kp [] w w') : SlF n enc sz w' a c l := ⟨h.len, h.fr, h.sl.kp0 hk⟩
theorem SlF.kp {n : Nat} {S : List Nat} {w w' : World} {a : Option Addr} {c : Nat} {l : List α} (h : SlF n enc sz w a c l) (hk : Kp S w w') (hS : ∀ b ∈ S, b < n) : SlF n enc sz w' a c l := ⟨h.len, h.fr, h.sl.kp hk (fun b off e hb => by have := h.fr b off e; have := hS b hb; omega)⟩
theorem SlF.mono {n m : Nat} {w : World} {a : Option Addr} {c : Nat} {l : List α} (h : SlF n enc sz w a c l) (hm : m ≤ n) : SlF m enc sz w a c l := ⟨h.len, fun b off e => Nat.le_trans hm (h.fr b off e), h.sl⟩
theorem SlF.take {n : Nat} {w : World} {a : Option Addr} {c : Nat} {l : List α} (h : SlF n enc sz w a c l) (k : Nat) : SlF n enc sz w a c (l.take k) := ⟨Nat.le_trans (by simp; omega) h.len, h.fr, h.sl.take k⟩
theorem SlF.nil {n : Nat} {w : World} {c : Nat} : SlF n enc sz w none c ([] : List α) := ⟨by simp, fun b off e => absurd e (by simp), Sl.nil⟩
theorem SlF.own {w : World} {base n : Nat} {T : TypeId} {v : Value} {l : List α} (he : ∀ x, (enc x).length = sz) (h : w.ownsRow base T sz v n (flt enc l)) (hn : l.length = n) : ∃ a c, v = .slice a n c ∧ SlF base enc sz w a c l := by
  obtain ⟨a, c, h1, h2, h3⟩ := Sl.own he h hn
  refine ⟨a, c, h1, by omega, fun b off e => ?_, h3⟩
  subst e
  subst h1
  obtain ⟨_, h2⟩ := h
  rcases h2 with ⟨h2, _⟩ | ⟨g, cap, cur, h2, hg, _⟩
  · cases h2
  · simp only [Value.slice.injEq, Option.some.injEq, Addr.mk.injEq] at h2
    omega
theorem stabT : Stab [] (fun _ => True) := fun _ _ _ h => h
theorem stabS {F : World → Prop} {n : Nat} {a : Option Addr} {c : Nat} {l : List α} (h : Stab [] F) : Stab [] (fun w => F w ∧ SlF n enc sz w a c l) := fun w w' hk hF => ⟨h w w' hk hF.1, hF.2.kp0 hk⟩

/-- It answers a slice of these. -/
def RetS (P : Program) (enc : α → List Value) (sz : Nat) (f : FuncId) (args : Array Value) (w : World) (l : List α) : Prop := Calls P f args w (fun e w' => ∃ a c, e = .returned (.slice a l.length c) ∧ SlF w.heap.size enc sz w' a c l ∧ Kp [] w w')
/-- A call in a region that answers a slice. -/
theorem Der.callS {P : Program} {L : Env} {ty : TypeId} {pos : String} {af : Array Edge} {g : Option (Nat × Bool)} {w0 : World} {ops : List Oper} {gh : List Nat} {K : Env → (World → Prop) → (World → Prop) → Prop} {i : Nat} {ord : List Nat} {F : World → Prop} {d : Nat} {f : FuncId} [Fnc P f] {args : List Operand} {vs : List Value} {tys : Array TypeId} (l : List α)
    (ho : ops[i]? = some ⟨some d, .call ⟨.value (.func f), args.toArray, tys⟩, ty, pos, af, g⟩) (hw : want ops L ⟨some d, .call ⟨.value (.func f), args.toArray, tys⟩, ty, pos, af, g⟩ = some true) (hg : gh.elem i = true) (hk : (Op.call ⟨.value (.func f), args.toArray, tys⟩).operands.toList.all (known L) = true)
    (he : Evs L args vs) (hFs : Stab [] F) (hc : ∀ w, Kp [] w0 w → F w → RetS P enc sz f vs.toArray w l)
    (hd : ∀ (a : Option Addr) (c : Nat), Der P [] w0 ops gh K ord ((d, .slice a l.length c) :: L) (fun w => F w ∧ SlF w0.heap.size enc sz w a c l) (fun _ => True)) : Der P [] w0 ops gh K (i :: ord) L F (fun _ => True) :=
  Der.callG (X := Option Addr × Nat) (fun q => .slice q.1 l.length q.2) (fun q w => SlF w0.heap.size enc sz w q.1 q.2 l) ho hw hg hk he (fun q w w' hk h => h.kp0 hk) hFs (fun w h1 h2 => (hc w h1 h2).mono (fun e w' ⟨a, c, g1, g2, g4⟩ => ⟨(a, c), g1, g2.mono h1.size, g4⟩)) (fun q => hd q.1 q.2)
/-- .. in text order. -/
theorem SG.callS {P : Program} {m : Nat} {Q : Exit → Act → World → Prop} {L : Env} {w : World} {ty : TypeId} {pos : String} {af : Array Edge} {g : Option (Nat × Bool)} {ops rest : List Oper} {d : Nat} {f : FuncId} [Fnc P f] {args : List Operand} {vs : List Value} {tys : Array TypeId} {l : List α}
    (hd : Nat.blt d m = true) (hw : want ops L ⟨some d, .call ⟨.value (.func f), args.toArray, tys⟩, ty, pos, af, g⟩ = some true) (hk : (Op.call ⟨.value (.func f), args.toArray, tys⟩).operands.toList.all (known L) = true)
    (he : Evs L args vs) (hc : RetS P enc sz f vs.toArray w l)
    (h : ∀ a c w', SlF w.heap.size enc sz w' a c l → Kp [] w w' → SG P m ops Q rest ((d, .slice a l.length c) :: L) w') : SG P m ops Q (⟨some d, .call ⟨.value (.func f), args.toArray, tys⟩, ty, pos, af, g⟩ :: rest) L w :=
  SG.call hd hw hk he (hc.mono (fun e w' ⟨a, c, h1, h2, h3⟩ => ⟨_, h1, h a c w' h2 h3⟩))
end
end Go.Proofs.Ytfelaicoedlejaa
