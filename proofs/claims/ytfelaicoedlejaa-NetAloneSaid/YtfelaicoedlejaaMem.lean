/-
  Loads, stores and new blocks.
-/
import Derived.Test.YtfelaicoedlejaaCode
import Derived.Laws.Entries
import Derived.ChangeKeysEq
namespace Go.Proofs.Ytfelaicoedlejaa
set_option linter.unusedVariables false

class Ut (P : Program) (T : TypeId) (d : outParam TypeDesc) : Type where
  eq : P.underlying T = some d
class Inf (P : Program) (T : TypeId) (i : outParam TypeInfo) : Prop where
  eq : P.info? T = some i

/-- Field k of the struct T: where it begins, of which type. -/
class Fld (P : Program) (T : TypeId) (k : Nat) (off : outParam Nat) (ft : outParam TypeId) : Prop where
  mk' :: (eq : ∃ fs fd i, P.underlying T = some (.struct fs) ∧ fs[k]? = some fd ∧ fd.offset = off ∧ fd.type = ft ∧ P.info? ft = some i ∧ i.size ≠ 0)
theorem Fld.mk {P : Program} {T : TypeId} {k off : Nat} {ft : TypeId} (fs : Array Field) (fd : Field) (i : TypeInfo) (h : P.underlying T = some (.struct fs)) (h1 : fs[k]? = some fd) (h2 : fd.offset = off) (h3 : fd.type = ft) (h4 : P.info? ft = some i) (h5 : i.size ≠ 0) : Fld P T k off ft := ⟨⟨fs, fd, i, h, h1, h2, h3, h4, h5⟩⟩

/-- How many cells a value of type T takes. -/
class Sz (P : Program) (T : TypeId) (n : outParam Nat) : Prop where
  mk' :: (eq : ∃ i, P.info? T = some i ∧ i.size = n)

def aggB : TypeDesc → Bool
  | .struct _ | .array _ _ => true
  | _ => false

/-- From off on, block b's cells are l. -/
def Row (w : World) (b off : Nat) (l : List Value) : Prop := ∃ cs T f, w.heap[b]? = some (.cells cs T f) ∧ ∀ i v, l[i]? = some v → cs[off + i]? = some v

theorem Row.lt {w : World} {b off : Nat} {l : List Value} (h : Row w b off l) : b < w.heap.size := by
  obtain ⟨cs, T, f, hb, _⟩ := h
  exact (Array.getElem?_eq_some_iff.1 hb).1
theorem Row.kp {S : List Nat} {w w' : World} {b off : Nat} {l : List Value} (h : Row w b off l) (k : Kp S w w') (hb : b ∉ S) : Row w' b off l := by
  have hl := h.lt
  obtain ⟨cs, T, f, hh, hc⟩ := h
  exact ⟨cs, T, f, (k.blk b hl hb).trans hh, hc⟩
theorem Row.kp0 {w w' : World} {b off : Nat} {l : List Value} (h : Row w b off l) (k : Kp [] w w') : Row w' b off l := h.kp k (by simp)
theorem Row.of {w : World} {b off : Nat} {l : List Value} {cs : Array Value} {T : TypeId} {f : Nat × Nat} (h : Blk w b (.cells cs T f)) (pre post : List Value) (he : cs.toList = pre ++ (l ++ post)) (ho : pre.length = off) : Row w b off l := by
  refine ⟨cs, T, f, h, fun i v hv => ?_⟩
  have hi : i < l.length := (List.getElem?_eq_some_iff.1 hv).1
  rw [← Array.getElem?_toList, he, List.getElem?_append_right (by omega), List.getElem?_append_left (by omega)]
  rw [← hv]
  congr 1
  omega
theorem Row.all {w : World} {b : Nat} {l : List Value} {cs : Array Value} {T : TypeId} {f : Nat × Nat} (h : Blk w b (.cells cs T f)) (he : cs.toList = l) : Row w b 0 l := Row.of h [] [] (by simp [he]) rfl
theorem Row.cell {w : World} {b off : Nat} {l : List Value} (h : Row w b off l) {i : Nat} {v : Value} (hv : l[i]? = some v) : w.cell? ⟨b, off + i, none⟩ = some v := by
  obtain ⟨cs, T, f, hb, hc⟩ := h
  simp [World.cell?, hb, hc i v hv]

section
variable {P : Program} {w : World}

theorem run_isAgg {T : TypeId} {d : TypeDesc} [u : Ut P T d] : (isAgg T).run P w = .ok (aggB d) w := by
  simp only [isAgg, Sem.run_bind, run_underlying u.eq, Result.andThen]
  cases d <;> rfl
theorem run_sizeOf' {T : TypeId} {i : TypeInfo} [f : Inf P T i] : (sizeOf T).run P w = .ok i.size w := by
  simp [sizeOf, typeInfo, f.eq]
theorem run_zero {T : TypeId} {i : TypeInfo} [f : Inf P T i] {z : Value} (hz : i.zero = some z) : (zeroValue T).run P w = .ok z w := by
  simp [zeroValue, typeInfo, f.eq, hz]

theorem add_none (b o n : Nat) : (⟨b, o, none⟩ : Addr).add n = ⟨b, o + n, none⟩ := by
  unfold Addr.add
  split
  · subst_vars; rfl
  · rfl

theorem run_load_cell {b o : Nat} {v : Value} (h : w.cell? ⟨b, o, none⟩ = some v) : (load ⟨b, o, none⟩).run P w = .ok v w := by
  simp [load, Sem.run, h]

theorem run_loadCellsFrom {b off : Nat} {l : List Value} (h : Row w b off l) : ∀ (m i : Nat) (acc : Array Value), i + m = l.length → (loadCellsFrom ⟨b, off, none⟩ i m acc).run P w = .ok (acc ++ (l.drop i).toArray) w
  | 0, i, acc, hi => by
    have : l.drop i = [] := List.drop_eq_nil_of_le (by omega)
    simp [loadCellsFrom, this]
  | m + 1, i, acc, hi => by
    have hlt : i < l.length := by omega
    simp only [loadCellsFrom, Sem.run_bind, add_none]
    rw [run_load_cell (h.cell (List.getElem?_eq_getElem hlt))]
    simp only [Result.andThen]
    rw [run_loadCellsFrom h m (i + 1) _ (by omega)]
    congr 1
    rw [List.drop_eq_getElem_cons hlt]
    simp

theorem run_loadAt_agg {T : TypeId} {d : TypeDesc} {i : TypeInfo} [u : Ut P T d] [f : Inf P T i] (ha : aggB d = true) {b off : Nat} {l : List Value} (h : Row w b off l) (hl : l.length = i.size) :
    (Instr.loadAt T (.pointer (some ⟨b, off, none⟩))).run P w = .ok (.agg l.toArray) w := by
  simp only [Instr.loadAt, Instr.sureAddr, loadVar, loadCells, Sem.run_bind, Sem.run_pure, Result.andThen, run_isAgg (u := u), ha, if_true, run_sizeOf' (f := f)]
  rw [run_loadCellsFrom h i.size 0 _ (by omega)]
  simp
theorem run_loadAt_cell {T : TypeId} {d : TypeDesc} [u : Ut P T d] (ha : aggB d = false) {b off : Nat} {v : Value} (h : Row w b off [v]) :
    (Instr.loadAt T (.pointer (some ⟨b, off, none⟩))).run P w = .ok v w := by
  simp only [Instr.loadAt, Instr.sureAddr, loadVar, Sem.run_bind, Sem.run_pure, Result.andThen, run_isAgg (u := u), ha]
  exact run_load_cell (h.cell (i := 0) rfl)

/-! stores -/
def spl (cs : List Value) (off : Nat) (l : List Value) : List Value := cs.take off ++ (l ++ cs.drop (off + l.length))

theorem spl_length {cs : List Value} {off : Nat} {l : List Value} (h : off + l.length ≤ cs.length) : (spl cs off l).length = cs.length := by
  simp [spl]; omega

theorem spl_all {cs l : List Value} (h : cs.length = l.length) : spl cs 0 l = l := by
  simp [spl, List.drop_eq_nil_of_le (Nat.le_of_eq h)]
theorem spl_mid {pre old post l : List Value} (h : old.length = l.length) : spl (pre ++ (old ++ post)) pre.length l = pre ++ (l ++ post) := by
  simp only [spl, List.take_left']
  congr 2
  rw [← h, ← List.append_assoc, List.drop_left' (by simp)]
def oneB : Value → Bool
  | .agg _ | .tuple _ => false
  | _ => true
def allOne (l : List Value) : Bool := l.all oneB

theorem spl_cons {cs l : List Value} {k : Nat} {v : Value} (h : k + (l.length + 1) ≤ cs.length) : spl (cs.set k v) (k + 1) l = spl cs k (v :: l) := by
  have hk : k < cs.length := by omega
  have e1 : (cs.set k v).take (k + 1) = cs.take k ++ [v] := by
    rw [List.set_eq_take_append_cons_drop, if_pos hk, List.take_append]
    have : (cs.take k).length = k := by simp; omega
    rw [this]
    have h2 : k + 1 - k = 1 := by omega
    rw [h2, List.take_of_length_le (by omega)]
    simp
  have e2 : (cs.set k v).drop (k + 1 + l.length) = cs.drop (k + (l.length + 1)) := by
    rw [List.drop_set_of_lt (by omega)]
    congr 1
    omega
  unfold spl
  rw [e1, e2]
  simp

theorem run_store_one {b o : Nat} {cs : Array Value} {T : TypeId} (h : Blk w b (.cells cs T)) (ho : o < cs.size) {v : Value} (hv : oneB v = true) :
    (store ⟨b, o, none⟩ v).run P w = .ok () { w with heap := w.heap.setIfInBounds b (.cells (cs.setIfInBounds o v) T) } := by
  have hc : w.cell? ⟨b, o, none⟩ = some cs[o] := by
    have : w.heap[b]? = some (.cells cs T) := h
    simp [World.cell?, this, ho]
  have hf : w.frozen? ⟨b, o, none⟩ = false := frozen_soft (o := .cells cs T) h rfl
  have hset : w.setCell ⟨b, o, none⟩ v = { w with heap := w.heap.setIfInBounds b (.cells (cs.setIfInBounds o v) T) } := by
    unfold World.setCell
    congr 1
    apply Array.ext_getElem?
    intro j
    rw [Array.getElem?_modify]
    by_cases e : b = j
    · subst e
      have hb : w.heap[b]? = some (.cells cs T) := h
      rw [if_pos rfl, hb, Array.getElem?_setIfInBounds_self_of_lt h.lt]
      simp
    · rw [if_neg e, Array.getElem?_setIfInBounds_ne e]
  have : (store ⟨b, o, none⟩ v).run P w = .ok () (w.setCell ⟨b, o, none⟩ v) := by
    cases v <;> simp [oneB] at hv <;> simp [store, Sem.run, hc, hf]
  rw [this, hset]

theorem run_storeCells {b off : Nat} {T : TypeId} : ∀ (l : List Value) (i : Nat) (w : World) (cs : Array Value), Blk w b (.cells cs T) → off + i + l.length ≤ cs.size → allOne l = true →
    (storeCells ⟨b, off, none⟩ l i).run P w = .ok () { w with heap := w.heap.setIfInBounds b (.cells (spl cs.toList (off + i) l).toArray T) }
  | [], i, w, cs, h, ho, _ => by
    have hb : w.heap[b]? = some (.cells cs T) := h
    have e : w.heap.setIfInBounds b (.cells (spl cs.toList (off + i) []).toArray T) = w.heap := by
      apply Array.ext_getElem?
      intro j
      by_cases e : b = j
      · subst e
        rw [Array.getElem?_setIfInBounds_self_of_lt h.lt, hb]
        simp [spl]
      · rw [Array.getElem?_setIfInBounds_ne e]
    rw [e]
    simp [storeCells]
  | v :: l, i, w, cs, h, ho, ha => by
    simp only [List.length_cons] at ho
    simp only [allOne, List.all_cons, Bool.and_eq_true] at ha
    simp only [storeCells, Sem.run_bind, add_none]
    rw [run_store_one h (by omega) ha.1]
    simp only [Result.andThen]
    rw [run_storeCells l (i + 1) _ (cs.setIfInBounds (off + i) v) (h.set _) (by simp; omega) ha.2]
    have e : off + (i + 1) = off + i + 1 := by omega
    rw [e, Array.toList_setIfInBounds, spl_cons (by simpa using ho)]
    simp

end
end Go.Proofs.Ytfelaicoedlejaa
