import Derived.Test.YtgbgnlboogalgaaGreatZy1
namespace Go.Proofs.YtgbgnlboogalgaaGreat
set_option linter.unusedVariables false
def dig7 : List UInt8 → Nat
  | [] => 0
  | b :: r => b.toNat % 128 + 128 * dig7 r
/-- How many bytes at the beginning, of at most so many, have more behind them. -/
def runL : Nat → List UInt8 → Nat
  | 0, _ => 0
  | _ + 1, [] => 0
  | f + 1, b :: r => if b.toNat < 128 then 0 else runL f r + 1
theorem runL_le : ∀ (f : Nat) (l : List UInt8), runL f l ≤ f ∧ runL f l ≤ l.length
  | 0, l => by simp [runL]
  | f + 1, [] => by simp [runL]
  | f + 1, b :: r => by
    have := runL_le f r
    simp only [runL, List.length_cons]
    split <;> omega
theorem runL_eq : ∀ {f : Nat} {l : List UInt8} {k : Nat}, k ≤ f → (h : k ≤ l.length) → (∀ j (hj : j < k), 128 ≤ (l[j]'(by omega)).toNat) → (k = f ∨ k = l.length ∨ ∃ h : k < l.length, l[k].toNat < 128) → runL f l = k
  | 0, l, k, h1, _, _, _ => by simp [runL]; omega
  | f + 1, [], k, _, h2, _, _ => by simp [runL] at h2 ⊢; omega
  | f + 1, b :: r, k, h1, h2, h3, h4 => by
    simp only [runL]
    cases k with
    | zero =>
      rcases h4 with h | h | ⟨_, h⟩
      · cases h
      · simp at h
      · rw [if_pos (by simpa using h)]
    | succ k =>
      have hb := h3 0 (by omega)
      simp only [List.getElem_cons_zero] at hb
      rw [if_neg (by omega)]
      have := runL_eq (f := f) (l := r) (k := k) (by omega) (by simpa using h2) (fun j hj => by have := h3 (j + 1) (by omega); simpa using this) (by
        rcases h4 with h | h | ⟨h, h'⟩
        · left; omega
        · right; left; simpa using h
        · right; right; exact ⟨by simpa using h, by simpa using h'⟩)
      omega
theorem dig7_snoc : ∀ {l : List UInt8} {i : Nat} (h : i < l.length), dig7 (l.take (i + 1)) = dig7 (l.take i) + (l[i].toNat % 128) * 2 ^ (7 * i)
  | [], i, h => by simp at h
  | b :: r, 0, h => by simp [dig7]
  | b :: r, i + 1, h => by
    have hi : i < r.length := by simpa using h
    have ih := dig7_snoc (l := r) (i := i) hi
    simp only [List.take_succ_cons, dig7, List.getElem_cons_succ, ih]
    rw [Nat.mul_add, show 7 * (i + 1) = 7 * i + 7 from by omega, Nat.pow_add]
    have : 128 * (r[i].toNat % 128 * 2 ^ (7 * i)) = r[i].toNat % 128 * (2 ^ (7 * i) * 2 ^ 7) := by
      rw [Nat.mul_comm 128, Nat.mul_assoc]
    omega
theorem dig7_lt : ∀ l : List UInt8, dig7 l < 2 ^ (7 * l.length)
  | [] => by simp [dig7]
  | b :: r => by
    have h1 := dig7_lt r
    have h2 : b.toNat % 128 < 128 := Nat.mod_lt _ (by omega)
    simp only [dig7, List.length_cons]
    rw [show 7 * (r.length + 1) = 7 * r.length + 7 from by omega, Nat.pow_add]
    have : (dig7 r + 1) * 128 ≤ 2 ^ (7 * r.length) * 2 ^ 7 := Nat.mul_le_mul_right _ h1
    omega
/-- The number that bytes begin with: what is wrong, what it is, how long it is. -/
def lookE (l : List UInt8) : Int := if runL 10 l = l.length ∧ runL 10 l < 10 then 4 else if runL 10 l = 10 ∨ (0 < runL 10 l ∧ l.getD (runL 10 l) 0 = 0) ∨ (runL 10 l = 9 ∧ 1 < (l.getD 9 0).toNat) then 3 else 0
def lookN (l : List UInt8) : Nat := dig7 (l.take (runL 10 l + 1))
def lookK (l : List UInt8) : Nat := runL 10 l + 1
theorem look_ok {l : List UInt8} (h : lookE l = 0) : runL 10 l < 10 ∧ runL 10 l < l.length ∧ (runL 10 l = 9 → (l.getD 9 0).toNat ≤ 1) := by
  have h1 := runL_le 10 l
  unfold lookE at h
  split at h
  · cases h
  · split at h
    · cases h
    · rename_i h2 h3
      refine ⟨?_, ?_, ?_⟩
      · have : runL 10 l ≠ 10 := fun e => h3 (Or.inl e)
        omega
      · have : runL 10 l ≠ 10 := fun e => h3 (Or.inl e)
        have : runL 10 l ≠ l.length := fun e => h2 ⟨e, by omega⟩
        omega
      · intro e
        have := fun h => h3 (Or.inr (Or.inr ⟨e, h⟩))
        omega
theorem lookN_lt {l : List UInt8} (h : lookE l = 0) : lookN l < 18446744073709551616 := by
  obtain ⟨h1, h2, h3⟩ := look_ok h
  unfold lookN
  generalize runL 10 l = k at h1 h2 h3 ⊢
  by_cases h9 : k = 9
  · subst h9
    rw [dig7_snoc h2]
    have h4 := dig7_lt (l.take 9)
    rw [List.length_take, Nat.min_eq_left (by omega)] at h4
    have h5 := h3 rfl
    have e : l.getD 9 0 = l[9] := by
      rw [List.getD_eq_getElem?_getD, List.getElem?_eq_getElem h2]
      rfl
    rw [e] at h5
    have h7 : l[9].toNat % 128 ≤ 1 := Nat.le_trans (Nat.mod_le _ _) h5
    simp only [Nat.reduceMul, Nat.reducePow] at h4 ⊢
    omega
  · have h4 := dig7_lt (l.take (k + 1))
    rw [List.length_take, Nat.min_eq_left (by omega)] at h4
    have : (2 : Nat) ^ (7 * (k + 1)) ≤ 2 ^ 63 := Nat.pow_le_pow_right (by omega) (by omega)
    have e : (2 : Nat) ^ 63 = 9223372036854775808 := by decide
    omega
/-- A transaction. -/
structure Tx where
  frm : Dg
  non : Int
  fee : Int
  kind : Int
  body : List UInt8
  sig : List UInt8
def u64N (z : Int) : Nat := (IntKind.wrap .u64 z).toNat
theorem u64N_lt (z : Int) : u64N z < 18446744073709551616 := by
  have := wrap64_bd z
  unfold u64N
  omega
theorem u64N_eq (z : Int) : IntKind.wrap .u64 z = (u64N z : Int) := by
  have := wrap64_bd z
  unfold u64N
  omega
def putB (l : List UInt8) : List UInt8 := putU l.length ++ l
def headT (t : Tx) : List UInt8 := putU (u64N t.kind) ++ putU (num t.frm) ++ putU (u64N t.non) ++ putU (u64N t.fee) ++ putB t.body
def bytesT (t : Tx) : List UInt8 := headT t ++ putB t.sig
def nameT (t : Tx) : Dg := ofI (bytesT t)
/-- What is wrong with the bytes of money for somebody. -/
def paidZ (l : List UInt8) : Int := if lookE l ≠ 0 then lookE l else
  if lookE (l.drop (lookK l)) ≠ 0 then lookE (l.drop (lookK l)) else
  if 1125899906842624 < lookN (l.drop (lookK l)) then 2 else
  if lookK l + lookK (l.drop (lookK l)) < l.length then 5 else 0
structure TxR (t : Tx) : Prop where
  n0 : 0 ≤ t.non
  n1 : t.non ≤ 1099511627776
  f0 : 0 ≤ t.fee
  f1 : t.fee ≤ 1125899906842624
  k0 : 0 ≤ t.kind
  k1 : t.kind ≤ 2
  b : t.body.length ≤ 32768
  s : t.sig.length ≤ 1024
open Classical in
noncomputable def wrongT (t : Tx) : Int := if TxR t then (if t.kind = 0 then paidZ t.body else 0) else 2
/-- One that waits. -/
structure En where
  t : Tx
  since : Int
def En.key (e : En) : Dg := e.t.frm
def En.non (e : En) : Int := e.t.non
def En.fee (e : En) : Int := e.t.fee
def isK (k : Dg) (n : Int) (e : En) : Bool := decide (e.t.frm = k ∧ e.t.non = n)
def likeN (l : List En) (k : Dg) (n : Int) : Nat := l.findIdx (isK k n)
open Classical in
/-- One comes: what is wrong. -/
noncomputable def addZ (room : Int) (l : List En) (h : Int) (t : Tx) : Int :=
  if h < 0 ∨ 1099511627776 < h then 2 else if wrongT t ≠ 0 then wrongT t else
  match l.find? (isK t.frm t.non) with
  | some o => if o.t = t then 7 else if t.fee ≤ o.t.fee then 18 else 0
  | none => if room ≤ l.length then 8 else 0
/-- One has come. -/
def addL (l : List En) (h : Int) (t : Tx) : List En := l.eraseIdx (likeN l t.frm t.non) ++ [⟨t, h⟩]
open Classical in
noncomputable def addE (room : Int) (l : List En) (h : Int) (t : Tx) : List En := if addZ room l h t = 0 then addL l h t else l
theorem find_idx {l : List En} {k : Dg} {n : Int} : l.find? (isK k n) = l[likeN l k n]? := by
  unfold likeN
  induction l with
  | nil => rfl
  | cons x l ih =>
    by_cases h : isK k n x = true
    · simp [List.findIdx_cons, h]
    · simp [List.findIdx_cons, h, ih]
/-- What is so of a pool. -/
structure PInv (room : Int) (l : List En) : Prop where
  dst : Dst En.key En.non l
  len : (l.length : Int) ≤ room
  ok : ∀ e ∈ l, wrongT e.t = 0
  sc : ∀ e ∈ l, 0 ≤ e.since ∧ e.since ≤ 1099511627776
theorem inv_nil {room : Int} (h : 0 ≤ room) : PInv room [] := ⟨List.Pairwise.nil, by simpa using h, fun e h => (by cases h), fun e h => (by cases h)⟩
theorem isK_iff {k : Dg} {n : Int} {e : En} : isK k n e = true ↔ (e.t.frm = k ∧ e.t.non = n) := by
  unfold isK
  rw [decide_eq_true_iff]
theorem erase_none {l : List En} {k : Dg} {n : Int} (h : l.find? (isK k n) = none) : l.eraseIdx (likeN l k n) = l := by
  refine List.eraseIdx_of_length_le ?_
  rw [find_idx] at h
  exact List.getElem?_eq_none_iff.1 h
theorem erase_some {l : List En} {k : Dg} {n : Int} (hd : Dst En.key En.non l) : l.eraseIdx (likeN l k n) = l.filter (fun e => !isK k n e) := by
  unfold likeN
  induction l with
  | nil => rfl
  | cons x l ih =>
    have hd' := List.pairwise_cons.1 hd
    by_cases h : isK k n x = true
    · have e1 : List.findIdx (isK k n) (x :: l) = 0 := by simp [List.findIdx_cons, h]
      have e2 : l.filter (fun e => !isK k n e) = l := List.filter_eq_self.2 (fun e he => by
        cases hh : isK k n e with
        | false => rfl
        | true =>
          have h1 := isK_iff.1 h
          have h2 := isK_iff.1 hh
          exact absurd ⟨h1.1.trans h2.1.symm, h1.2.trans h2.2.symm⟩ (hd'.1 e he))
      rw [e1, List.filter_cons_of_neg (by simp [h]), e2]
      rfl
    · have e1 : List.findIdx (isK k n) (x :: l) = List.findIdx (isK k n) l + 1 := by simp [List.findIdx_cons, h]
      rw [e1, List.filter_cons_of_pos (by simp [h]), List.eraseIdx_cons_succ, ih hd'.2]
theorem addL_inv {room : Int} {l : List En} {h : Int} {t : Tx} (hi : PInv room l) (hz : addZ room l h t = 0) : PInv room (addL l h t) := by
  have hz' := hz
  unfold addZ at hz
  by_cases h1 : h < 0 ∨ 1099511627776 < h
  · rw [if_pos h1] at hz; cases hz
  rw [if_neg h1] at hz
  by_cases h2 : wrongT t = 0
  rotate_left
  · rw [if_pos h2] at hz; exact absurd hz h2
  rw [if_neg (fun h => h h2)] at hz
  unfold addL
  have hmem : ∀ e ∈ l.eraseIdx (likeN l t.frm t.non), e ∈ l := fun e he => List.mem_of_mem_eraseIdx he
  have hok : ∀ e ∈ l.eraseIdx (likeN l t.frm t.non) ++ [⟨t, h⟩], wrongT e.t = 0 := fun e he => by
    rcases List.mem_append.1 he with he | he
    · exact hi.ok e (hmem e he)
    · rw [List.mem_singleton] at he; rw [he]; exact h2
  have hsc : ∀ e ∈ l.eraseIdx (likeN l t.frm t.non) ++ [⟨t, h⟩], 0 ≤ e.since ∧ e.since ≤ 1099511627776 := fun e he => by
    rcases List.mem_append.1 he with he | he
    · exact hi.sc e (hmem e he)
    · rw [List.mem_singleton] at he; rw [he]; show 0 ≤ h ∧ h ≤ _; omega
  have hds : Dst En.key En.non (l.eraseIdx (likeN l t.frm t.non) ++ [⟨t, h⟩]) := by
    rw [erase_some hi.dst]
    refine List.pairwise_append.2 ⟨List.Pairwise.sublist List.filter_sublist hi.dst, List.pairwise_singleton _ _, fun a ha b hb hh => ?_⟩
    rw [List.mem_singleton] at hb
    subst hb
    have h3 := (List.mem_filter.1 ha).2
    have h4 : isK t.frm t.non a = true := isK_iff.2 hh
    rw [h4] at h3
    cases h3
  refine ⟨hds, ?_, hok, hsc⟩
  cases hf : l.find? (isK t.frm t.non) with
  | none =>
    rw [hf] at hz
    simp only at hz
    rw [erase_none hf, List.length_append]
    by_cases h5 : room ≤ l.length
    · rw [if_pos h5] at hz; cases hz
    · simp only [List.length_cons, List.length_nil]; omega
  | some o =>
    have h5 : likeN l t.frm t.non < l.length := by
      rw [find_idx] at hf
      exact (List.getElem?_eq_some_iff.1 hf).1
    have := hi.len
    rw [List.length_append, List.length_eraseIdx, if_pos h5]
    simp only [List.length_cons, List.length_nil]
    omega
theorem addE_inv {room : Int} {l : List En} {h : Int} {t : Tx} (hi : PInv room l) : PInv room (addE room l h t) := by
  unfold addE
  split
  · rename_i hz; exact addL_inv hi hz
  · exact hi
end Go.Proofs.YtgbgnlboogalgaaGreat
namespace Go.Proofs.YtgbgnlboogalgaaGreat
open Go.ChangeMaps (setBlock)
set_option linter.unusedVariables false
section
variable {κ ν : Type} {enc : κ → Value} {V : ν → Value} {m left : List (κ × ν)} {cur : Option (κ × ν)} {w w' : World} {b r : Nat} {P : Program} {k T E : TypeId}
def kv (e : MapEntry) : Value × Value := (e.key, e.val)
/-- In block r: how far the map in block b is gone through; left: what is still to come; cur: what came last. -/
def IterAt (w : World) (r b : Nat) (enc : κ → Value) (V : ν → Value) (m left : List (κ × ν)) (cur : Option (κ × ν)) : Prop :=
  ∃ es clock seen, Blk w b (.map es clock) ∧ MapKept.Stamped es clock ∧ es.toList.map kv = m.map (fun p => (enc p.1, V p.2)) ∧ Blk w r (.mapIter (some b) clock seen clock) ∧
    (es.toList.filter (fun e => !seen.contains e.born)).map kv = left.map (fun p => (enc p.1, V p.2)) ∧
    ∀ p, cur = some p → ∃ (e : MapEntry) (seen' : Array Nat), e ∈ es.toList ∧ seen = seen'.push e.born ∧ kv e = (enc p.1, V p.2)
theorem IterAt.kp {S : List Nat} (h : IterAt w r b enc V m left cur) (hk : Kp S w w') (hr : r ∉ S) (hb : b ∉ S) : IterAt w' r b enc V m left cur := by
  obtain ⟨es, c, seen, h1, h2, h3, h4, h5, h6⟩ := h
  exact ⟨es, c, seen, h1.kp hk hb, h2, h3, h4.kp hk hr, h5, h6⟩
theorem IterAt.kp0 (h : IterAt w r b enc V m left cur) (hk : Kp [] w w') : IterAt w' r b enc V m left cur := h.kp hk (by simp) (by simp)
theorem IterAt.map (h : IterAt w r b enc V m left cur) : MapIs w b enc V m := by
  obtain ⟨es, c, seen, h1, h2, h3, _⟩ := h
  exact ⟨es, c, h1, h2, h3⟩
theorem IterAt.ltr (h : IterAt w r b enc V m left cur) : r < w.heap.size := by
  obtain ⟨es, c, seen, h1, h2, h3, h4, _⟩ := h
  exact h4.lt
theorem split_map {α β γ : Type} {f : α → β} {g : γ → β} : ∀ {l1 : List α} {x : α} {l2 : List α} {l : List γ}, (l1 ++ x :: l2).map f = l.map g → ∃ pre p post, l = pre ++ p :: post ∧ l1.map f = pre.map g ∧ f x = g p ∧ l2.map f = post.map g
  | [], x, l2, l, h => by
    cases l with
    | nil => simp at h
    | cons p l =>
      simp only [List.nil_append, List.map_cons, List.cons.injEq] at h
      exact ⟨[], p, l, rfl, rfl, h.1, h.2⟩
  | y :: l1, x, l2, l, h => by
    cases l with
    | nil => simp at h
    | cons p l =>
      simp only [List.cons_append, List.map_cons, List.cons.injEq] at h
      obtain ⟨pre, q, post, h1, h2, h3, h4⟩ := split_map h.2
      exact ⟨p :: pre, q, post, by simp [h1], by simp [h.1, h2], h3, h4⟩
theorem filter_push {seen : Array Nat} {e : MapEntry} : ∀ {l : List MapEntry}, (l.map (·.born)).Nodup → ∀ {pre post : List MapEntry}, l.filter (fun x => !seen.contains x.born) = pre ++ e :: post → l.filter (fun x => !(seen.push e.born).contains x.born) = pre ++ post := by
  intro l hn pre post h
  have h1 : l.filter (fun x => !(seen.push e.born).contains x.born) = (l.filter (fun x => !seen.contains x.born)).filter (fun x => x.born != e.born) := by
    rw [List.filter_filter]
    congr 1
    funext x
    rw [Array.contains_push]
    cases seen.contains x.born <;> by_cases hb : x.born = e.born <;> simp [hb, bne]
  rw [h1, h, List.filter_append, List.filter_cons]
  have hn2 : ((pre ++ e :: post).map (·.born)).Nodup := by
    rw [← h]
    exact hn.sublist (List.filter_sublist.map _)
  rw [List.map_append, List.map_cons] at hn2
  have hd := List.nodup_append.1 hn2
  have hc := List.nodup_cons.1 hd.2.1
  have e1 : pre.filter (fun x => x.born != e.born) = pre := by
    rw [List.filter_eq_self]
    intro x hx
    have := hd.2.2 x.born (List.mem_map.2 ⟨x, hx, rfl⟩) e.born (by simp)
    simpa [bne] using this
  have e2 : post.filter (fun x => x.born != e.born) = post := by
    rw [List.filter_eq_self]
    intro x hx
    have : e.born ≠ x.born := fun he => hc.1 (he ▸ List.mem_map.2 ⟨x, hx, rfl⟩)
    simpa [bne] using fun he => this he.symm
  rw [e1, e2]
  simp
theorem run_range [u : Ut P T (.map k E)] (h : MapIs w b enc V m) : ∃ o', (Instr.range T (.map (some b))).run P w = .ok (.pointer (some ⟨w.heap.size, 0, none⟩)) { w with heap := w.heap.push o' } ∧ Obj.soft o' = true ∧ IterAt { w with heap := w.heap.push o' } w.heap.size b enc V m m none := by
  obtain ⟨es, c, h1, h2, h3⟩ := h
  have h1' : w.heap[b]? = some (.map es c) := h1
  refine ⟨.mapIter (some b) c #[] c, ?_, rfl, es, c, #[], ?_, h2, h3, Blk.push w _, ?_, fun p hp => by cases hp⟩
  · simp [Instr.range, run_underlying u.eq, MapKept.run_getObj_map h1', newObj, Sem.run, Result.andThen]
  · exact Blk.kp0 h1 (Kp.push w _ rfl)
  · rw [List.filter_eq_self.2 (by simp)]
    exact h3
theorem run_next (ty : TypeId) (h : IterAt w r b enc V m left cur) :
    (left = [] ∧ (Instr.next (.pointer (some ⟨r, 0, none⟩)) false ty).run P w = .ok (.tuple #[.bool false]) w) ∨
    ∃ pre p post w', left = pre ++ p :: post ∧ (Instr.next (.pointer (some ⟨r, 0, none⟩)) false ty).run P w = .ok (.tuple #[.bool true, enc p.1, V p.2]) w' ∧ Kp [r] w w' ∧ IterAt w' r b enc V m (pre ++ post) (some p) := by
  obtain ⟨es, c, seen, h1, h2, h3, h4, h5, h6⟩ := h
  have hs := (MapKept.stamped_iff es c).1 h2
  rcases run_next_at (P := P) w ty r b c c seen es c h4 h1 hs.1 (Nat.le_refl _) with ⟨g1, g2⟩ | ⟨e, g1, w1, g2, g3⟩
  · refine Or.inl ⟨?_, g2⟩
    have : es.toList.filter (fun e => !seen.contains e.born) = [] := by
      have : (leftOf es seen).toList = [] := by
        rw [← List.length_eq_zero_iff]; simpa using g1
      simpa [leftOf] using this
    rw [this] at h5
    simpa using h5.symm
  · have hm : e ∈ es.toList.filter (fun e => !seen.contains e.born) := by simpa [leftOf] using g1
    obtain ⟨l1, l2, hl⟩ := List.append_of_mem hm
    rw [hl] at h5
    obtain ⟨pre, p, post, k1, k2, k3, k4⟩ := split_map h5
    have hbr : b ≠ r := fun e' => by
      subst e'
      have := h1.uniq h4
      cases this
    have hw1 : w1.heap = w.heap := by rcases g2 with rfl | rfl <;> rfl
    have hk1 : Kp [r] w (setBlock w1 r (.mapIter (some b) c (seen.push e.born) c)) := by
      have a1 : Kp [r] w w1 := by
        rcases g2 with rfl | rfl
        · exact Kp.refl _ _
        · exact (Kp.refl [r] w).drew
      exact a1.trans (Kp.set w1 (b := r) (o := .mapIter (some b) c seen c) (by unfold Blk; rw [hw1]; exact h4) rfl rfl)
    have hB : Blk (setBlock w1 r (.mapIter (some b) c (seen.push e.born) c)) r (.mapIter (some b) c (seen.push e.born) c) := Blk.set (w := w1) (o := .mapIter (some b) c seen c) (by unfold Blk; rw [hw1]; exact h4) _
    have hkv : kv e = (enc p.1, V p.2) := k3
    have hkv' : e.key = enc p.1 ∧ e.val = V p.2 := by
      have := Prod.mk.inj hkv
      exact this
    refine Or.inr ⟨pre, p, post, _, k1, ?_, hk1, es, c, seen.push e.born, h1.kp hk1 (nm1 hbr), h2, h3, hB, ?_, fun q hq => ?_⟩
    · rw [g3, hkv'.1, hkv'.2]
    · rw [filter_push hs.2.1 hl, List.map_append, List.map_append, k2, k4]
    · cases hq
      exact ⟨e, seen, (List.mem_filter.1 hm).1, rfl, k3⟩
theorem run_entry {p : κ × ν} (h : IterAt w r b enc V m left (some p)) : (Instr.entry (.pointer (some ⟨r, 0, none⟩))).run P w = .ok (.tuple #[enc p.1, V p.2]) w := by
  obtain ⟨es, c, seen, h1, h2, h3, h4, h5, h6⟩ := h
  obtain ⟨e, seen', g1, rfl, g3⟩ := h6 p rfl
  have hs := (MapKept.stamped_iff es c).1 h2
  rw [run_entry_at (P := P) w r b c seen' es c e h4 h1 g1 hs.2.1]
  have := Prod.mk.inj g3
  rw [this.1, this.2]
end
section
variable {κ ν : Type} {enc : κ → Value} {V : ν → Value} {m left : List (κ × ν)} {cur : Option (κ × ν)} {b r : Nat} {P : Program} {k T E : TypeId}
  {n : Nat} {Q : Exit → Act → World → Prop} {L : Env} {w : World} {ops rest : List Oper} {d : Nat} {ty : TypeId} {pos : String} {af : Array Edge} {g : Option (Nat × Bool)} {x : Operand}
theorem SG.range [u : Ut P T (.map k E)] (hd : Nat.blt d n = true) (hw : want ops L ⟨some d, .range T x, ty, pos, af, g⟩ = some true) (hk : known L x = true) (hx : rho L x = .map (some b)) (hm : MapIs w b enc V m)
    (h : ∀ r w', Kp [] w w' → w.heap.size ≤ r → IterAt w' r b enc V m m none → SG P n ops Q rest ((d, .pointer (some ⟨r, 0, none⟩)) :: L) w') : SG P n ops Q (⟨some d, .range T x, ty, pos, af, g⟩ :: rest) L w := by
  refine SG.op (by simpa using hd) rfl hw (by simpa [Op.operands] using hk) ?_
  unfold OpRun
  obtain ⟨o', h1, h2, h3⟩ := run_range (P := P) (u := u) hm
  have : (execOp (rho L) ⟨some d, .range T x, ty, pos, af, g⟩).run P w = .ok (.value (.pointer (some ⟨w.heap.size, 0, none⟩))) { w with heap := w.heap.push o' } := by
    simp only [execOp, hx, Sem.run_bind, h1, Result.andThen, Sem.run_pure]
  rw [this]
  exact h _ _ (Kp.push w _ h2) (Nat.le_refl _) h3
theorem SG.next (hd : Nat.blt d n = true) (hw : want ops L ⟨some d, .next x false, ty, pos, af, g⟩ = some true) (hk : known L x = true) (hx : rho L x = .pointer (some ⟨r, 0, none⟩)) (hi : IterAt w r b enc V m left cur)
    (h0 : left = [] → SG P n ops Q rest ((d, .tuple #[.bool false]) :: L) w)
    (h1 : ∀ pre p post w', left = pre ++ p :: post → Kp [r] w w' → IterAt w' r b enc V m (pre ++ post) (some p) → SG P n ops Q rest ((d, .tuple #[.bool true, enc p.1, V p.2]) :: L) w') : SG P n ops Q (⟨some d, .next x false, ty, pos, af, g⟩ :: rest) L w := by
  refine SG.op (by simpa using hd) rfl hw (by simpa [Op.operands] using hk) ?_
  unfold OpRun
  rcases run_next (P := P) ty hi with ⟨g1, g2⟩ | ⟨pre, p, post, w', g1, g2, g3, g4⟩
  · have : (execOp (rho L) ⟨some d, .next x false, ty, pos, af, g⟩).run P w = .ok (.value (.tuple #[.bool false])) w := by
      simp only [execOp, hx, Sem.run_bind, g2, Result.andThen, Sem.run_pure]
    rw [this]
    exact h0 g1
  · have : (execOp (rho L) ⟨some d, .next x false, ty, pos, af, g⟩).run P w = .ok (.value (.tuple #[.bool true, enc p.1, V p.2])) w' := by
      simp only [execOp, hx, Sem.run_bind, g2, Result.andThen, Sem.run_pure]
    rw [this]
    exact h1 pre p post w' g1 g3 g4
theorem qen {S : List Nat} {w0 : World} {F : World → Prop} {d : Option Nat} {p : κ × ν} (hx : ro L x = some (.pointer (some ⟨r, 0, none⟩))) (hi : IterAt w0 r b enc V m left (some p)) (hr : r ∉ S) (hb : b ∉ S) : Vals P S w0 F L ⟨d, .entry x, ty, pos, af, g⟩ (.tuple #[enc p.1, V p.2]) := fun w hk _ => by
  simp only [execOp, rho_of hx, Sem.run_bind, run_entry (hi.kp hk hr hb), Result.andThen, Sem.run_pure]
end
section
variable {P : Program} {n : Nat} {Q : Exit → Act → World → Prop} {L : Env} {w : World} {ops : List Oper} {rest : List Oper} {ty : TypeId} {pos : String} {af : Array Edge} {g : Option (Nat × Bool)}
theorem SG.makeMap {κ ν : Type} (enc : κ → Value) (V : ν → Value) {d : Nat} {T : TypeId} (hd : Nat.blt d n = true) (hw : want ops L ⟨some d, .makeMap T none, ty, pos, af, g⟩ = some true)
    (h : ∀ b w', Kp [] w w' → w.heap.size ≤ b → MapIs w' b enc V [] → SG P n ops Q rest ((d, .map (some b)) :: L) w') : SG P n ops Q (⟨some d, .makeMap T none, ty, pos, af, g⟩ :: rest) L w := by
  refine SG.op (by simpa using hd) rfl hw (by simp [Op.operands]) ?_
  unfold OpRun
  have : (execOp (rho L) ⟨some d, .makeMap T none, ty, pos, af, g⟩).run P w = .ok (.value (.map (some w.heap.size))) { w with heap := w.heap.push (.map #[] 0) } := by
    simp [execOp, Instr.makeMap, newObj, Sem.run, Result.andThen]
  rw [this]
  exact h w.heap.size _ (Kp.push w _ rfl) (Nat.le_refl _) (MapIs.made w enc V)
end
end Go.Proofs.YtgbgnlboogalgaaGreat
namespace Go.Proofs.YtgbgnlboogalgaaGreat
set_option linter.unusedVariables false
/-- What an effect promises: its answer by x, and what holds from then on. -/
structure GD where
  X : Type
  x0 : X
  val : X → Value
  phi : X → World → Prop
def GD.none : GD := ⟨Unit, (), fun _ => undef, fun _ _ => True⟩
def gdLook : List (Nat × GD) → Nat → Option GD
  | [], _ => Option.none
  | (j, d) :: G, i => bif Nat.beq j i then some d else gdLook G i
def gdOf (G : List (Nat × GD)) (i : Nat) : GD := (gdLook G i).getD GD.none
def isGh (G : List (Nat × GD)) (i : Nat) : Bool := (gdLook G i).isSome
abbrev Fact := Nat × (World → Prop)
def Facts (ops : List Oper) (i : Nat) (Γ : List Fact) (w : World) : Prop := ∀ p ∈ Γ, anc ops i p.1 = true → p.2 w
/-- How the world goes on by the effect i: it only makes new blocks; or it turns such as the region has made, and keeps what all others promise. -/
def Goes (w0 : World) (G : List (Nat × GD)) (i : Nat) (w w' : World) : Prop := Kp [] w w' ∨ (Kp [] w0 w' ∧ ∀ j x, j ≠ i → (gdOf G j).phi x w → (gdOf G j).phi x w')
section
variable (P : Program) (w0 : World) (ops : List Oper) (G : List (Nat × GD)) (K : Env → List Fact → Prop)
def Live (D : Nat → Bool) (V : Nat → Value) (ξ : (i : Nat) → (gdOf G i).X) : List Nat → Env → List Fact → Prop
  | [], L, Γ => K L Γ
  | i :: ord, L, Γ => ∃ o, ops[i]? = some o ∧
      ((isGh G i = false ∧ ((D i = true ∧ Live D V ξ ord (addD o.dst (V i) L) Γ) ∨
          (D i = false ∧ want ops L o = some false ∧ Live D V ξ ord (addD o.dst undef L) Γ) ∨
          (D i = false ∧ want ops L o = some true ∧ ∃ v, o.op.operands.toList.all (known L) = true ∧ (∀ w, Kp [] w0 w → Facts ops i Γ w → OpRun P (rho L) o w (fun v' w' => v' = v ∧ Kp [] w w')) ∧ Live D V ξ ord (addD o.dst v L) Γ))) ∨
       (isGh G i = true ∧ ((D i = true ∧ Live D V ξ ord (addD o.dst ((gdOf G i).val (ξ i)) L) ((i, (gdOf G i).phi (ξ i)) :: Γ)) ∨
          (D i = false ∧ want ops L o = some true ∧ o.op.operands.toList.all (known L) = true ∧
            (∀ w, Kp [] w0 w → Facts ops i Γ w → OpRun P (rho L) o w (fun v w' => ∃ x, v = (gdOf G i).val x ∧ (gdOf G i).phi x w' ∧ Goes w0 G i w w')) ∧
            ∀ x, Live D V ξ ord (addD o.dst ((gdOf G i).val x) L) ((i, (gdOf G i).phi x) :: Γ)) ∨
          (D i = false ∧ want ops L o = some true ∧ o.op.operands.toList.all (known L) = true ∧ (∀ p ∈ Γ, anc ops i p.1 = true) ∧ ∃ x,
            (∀ w, Kp [] w0 w → Facts ops i Γ w → OpRun P (rho L) o w (fun v w' => v = (gdOf G i).val x ∧ (gdOf G i).phi x w' ∧ Goes w0 G i w w')) ∧
            Live D V ξ ord (addD o.dst ((gdOf G i).val x) L) ((i, (gdOf G i).phi x) :: Γ)))))
/-- The derivation: nothing is done yet. -/
def DerX : List Nat → Env → List Fact → Prop := Live P w0 ops G K (fun _ => false) (fun _ => undef) (fun i => (gdOf G i).x0)
end
section
variable {P : Program} {n : Nat} {ops : List Oper} {Q : Exit → Act → World → Prop} {w0 : World} {L0 : Env} {G : List (Nat × GD)} {K : Env → List Fact → Prop}
/-- Only what is still to come counts. -/
theorem Live.congr {D D' : Nat → Bool} {V V' : Nat → Value} {ξ ξ' : (i : Nat) → (gdOf G i).X} : ∀ {ord : List Nat} {L : Env} {Γ : List Fact}, (∀ i ∈ ord, D i = D' i ∧ V i = V' i ∧ ξ i = ξ' i) → Live P w0 ops G K D V ξ ord L Γ → Live P w0 ops G K D' V' ξ' ord L Γ
  | [], _, _, _, h => h
  | i :: ord, L, Γ, he, ⟨o, ho, h⟩ => by
    obtain ⟨e1, e2, e3⟩ := he i (by simp)
    have he' : ∀ j ∈ ord, D j = D' j ∧ V j = V' j ∧ ξ j = ξ' j := fun j hj => he j (by simp [hj])
    refine ⟨o, ho, ?_⟩
    rcases h with ⟨hg, h⟩ | ⟨hg, h⟩
    · refine Or.inl ⟨hg, ?_⟩
      rcases h with ⟨hd, h⟩ | ⟨hd, hw, h⟩ | ⟨hd, hw, v, hk, hc, h⟩
      · exact Or.inl ⟨by rw [← e1]; exact hd, by rw [← e2]; exact Live.congr he' h⟩
      · exact Or.inr (Or.inl ⟨by rw [← e1]; exact hd, hw, Live.congr he' h⟩)
      · exact Or.inr (Or.inr ⟨by rw [← e1]; exact hd, hw, v, hk, hc, Live.congr he' h⟩)
    · refine Or.inr ⟨hg, ?_⟩
      rcases h with ⟨hd, h⟩ | ⟨hd, hw, hk, hc, h⟩ | ⟨hd, hw, hk, ha, x, hc, h⟩
      · exact Or.inl ⟨by rw [← e1]; exact hd, by rw [← e3]; exact Live.congr he' h⟩
      · exact Or.inr (Or.inl ⟨by rw [← e1]; exact hd, hw, hk, hc, fun x => Live.congr he' (h x)⟩)
      · exact Or.inr (Or.inr ⟨by rw [← e1]; exact hd, hw, hk, ha, x, hc, Live.congr he' h⟩)
/-- The value that a done operation gave. -/
def gave (G : List (Nat × GD)) (V : Nat → Value) (ξ : (i : Nat) → (gdOf G i).X) (i : Nat) : Value := bif isGh G i then (gdOf G i).val (ξ i) else V i
/-- How an environment on the way comes about. -/
def Way (ops : List Oper) (G : List (Nat × GD)) (L0 : Env) (D : Nat → Bool) (V : Nat → Value) (ξ : (i : Nat) → (gdOf G i).X) (pre : List Nat) (L : Env) : Prop :=
  ∀ t v, look L t = some v → (∃ j ∈ pre, dstOf ops j = some t ∧ (D j = true → v = gave G V ξ j)) ∨ ((∀ j ∈ pre, dstOf ops j ≠ some t) ∧ look L0 t = some v)
theorem Way.nil {D : Nat → Bool} {V : Nat → Value} {ξ : (i : Nat) → (gdOf G i).X} : Way ops G L0 D V ξ [] L0 := fun t v h => Or.inr ⟨by simp, h⟩
theorem Way.cons {D : Nat → Bool} {V : Nat → Value} {ξ : (i : Nat) → (gdOf G i).X} {pre : List Nat} {L : Env} {i : Nat} {o : Oper} {u : Value} (h : Way ops G L0 D V ξ pre L) (ho : ops[i]? = some o) (hu : D i = true → u = gave G V ξ i) : Way ops G L0 D V ξ (i :: pre) (addD o.dst u L) := by
  intro t v hv
  rw [look_addD] at hv
  have hdi : dstOf ops i = o.dst := by simp [dstOf, ho]
  by_cases e : o.dst = some t
  · rw [if_pos e] at hv
    cases hv
    exact Or.inl ⟨i, by simp, by rw [hdi, e], hu⟩
  · rw [if_neg e] at hv
    rcases h t v hv with ⟨j, hj, h1, h2⟩ | ⟨h1, h2⟩
    · exact Or.inl ⟨j, by simp [hj], h1, h2⟩
    · refine Or.inr ⟨fun j hj => ?_, h2⟩
      rcases List.mem_cons.1 hj with rfl | hj
      · rw [hdi]; exact e
      · exact h1 j hj
def updV (V : Nat → Value) (i : Nat) (v : Value) : Nat → Value := fun j => if j = i then v else V j
def updX (ξ : (i : Nat) → (gdOf G i).X) (i : Nat) (x : (gdOf G i).X) : (j : Nat) → (gdOf G j).X := fun j => if h : j = i then h ▸ x else ξ j
theorem updX_same {ξ : (i : Nat) → (gdOf G i).X} {i : Nat} {x : (gdOf G i).X} : updX ξ i x i = x := by simp [updX]
theorem updX_ne {ξ : (i : Nat) → (gdOf G i).X} {i j : Nat} {x : (gdOf G i).X} (h : j ≠ i) : updX ξ i x j = ξ j := by simp [updX, h]
/-- The way to an operation that has no effect: all effects ahead of it are done. -/
theorem Live.plain {D : Nat → Bool} {V : Nat → Value} {ξ : (i : Nat) → (gdOf G i).X} {r : Nat} (hgr : isGh G r = false) (hdr : D r = false) {w : World} : ∀ {ord pre : List Nat} {L : Env} {Γ : List Fact}, ord.Nodup → r ∈ ord →
    (∀ g A B, ord = A ++ g :: B → r ∈ B → isGh G g = true → D g = true) → Way ops G L0 D V ξ pre L → (∀ p ∈ Γ, D p.1 = true → p.2 w) → (∀ i, isGh G i = true → D i = true → (gdOf G i).phi (ξ i) w) → Live P w0 ops G K D V ξ ord L Γ →
    ∃ o L' Γ' A B, ord = A ++ r :: B ∧ ops[r]? = some o ∧ Way ops G L0 D V ξ (A.reverse ++ pre) L' ∧ (∀ p ∈ Γ', D p.1 = true → p.2 w) ∧
      ((want ops L' o = some false ∧ Live P w0 ops G K (setD D r) (updV V r undef) ξ ord L Γ) ∨
       (want ops L' o = some true ∧ ∃ v, o.op.operands.toList.all (known L') = true ∧ (∀ w, Kp [] w0 w → Facts ops r Γ' w → OpRun P (rho L') o w (fun v' w' => v' = v ∧ Kp [] w w')) ∧ Live P w0 ops G K (setD D r) (updV V r v) ξ ord L Γ))
  | [], _, _, _, _, hm, _, _, _, _, _ => by cases hm
  | i :: ord, pre, L, Γ, hn, hm, hgd, hway, hfa, hph, ⟨o, ho, h⟩ => by
    have hn' := List.nodup_cons.1 hn
    by_cases hir : i = r
    · subst hir
      have hsame : ∀ j ∈ ord, D j = setD D i j ∧ ∀ v, V j = updV V i v j := fun j hj => by
        have hne : j ≠ i := fun e => hn'.1 (e ▸ hj)
        exact ⟨(setD_ne hne).symm, fun v => by simp [updV, hne]⟩
      refine ⟨o, L, Γ, [], ord, rfl, ho, by simpa using hway, hfa, ?_⟩
      rcases h with ⟨hg, h⟩ | ⟨hg, h⟩
      · rcases h with ⟨hd, h⟩ | ⟨hd, hw, h⟩ | ⟨hd, hw, v, hk, hc, h⟩
        · rw [hdr] at hd; cases hd
        · refine Or.inl ⟨hw, o, ho, Or.inl ⟨hg, Or.inl ⟨setD_same, ?_⟩⟩⟩
          have e : updV V i undef i = undef := by simp [updV]
          rw [e]
          exact Live.congr (fun j hj => ⟨(hsame j hj).1, (hsame j hj).2 _, rfl⟩) h
        · refine Or.inr ⟨hw, v, hk, hc, o, ho, Or.inl ⟨hg, Or.inl ⟨setD_same, ?_⟩⟩⟩
          have e : updV V i v i = v := by simp [updV]
          rw [e]
          exact Live.congr (fun j hj => ⟨(hsame j hj).1, (hsame j hj).2 _, rfl⟩) h
      · rw [hgr] at hg; cases hg
    · have hm' : r ∈ ord := by
        rcases List.mem_cons.1 hm with h | h
        · exact absurd h.symm hir
        · exact h
      have hgd' : ∀ g A B, ord = A ++ g :: B → r ∈ B → isGh G g = true → D g = true := fun g A B e hb => hgd g (i :: A) B (by rw [e]; rfl) hb
      have key : ∀ {L1 : Env} {Γ1 : List Fact}, Way ops G L0 D V ξ (i :: pre) L1 → (∀ p ∈ Γ1, D p.1 = true → p.2 w) → Live P w0 ops G K D V ξ ord L1 Γ1 →
          ∃ o' L' Γ' A B, i :: ord = A ++ r :: B ∧ ops[r]? = some o' ∧ Way ops G L0 D V ξ (A.reverse ++ pre) L' ∧ (∀ p ∈ Γ', D p.1 = true → p.2 w) ∧
            ((want ops L' o' = some false ∧ Live P w0 ops G K (setD D r) (updV V r undef) ξ ord L1 Γ1) ∨
             (want ops L' o' = some true ∧ ∃ v, o'.op.operands.toList.all (known L') = true ∧ (∀ w, Kp [] w0 w → Facts ops r Γ' w → OpRun P (rho L') o' w (fun v' w' => v' = v ∧ Kp [] w w')) ∧ Live P w0 ops G K (setD D r) (updV V r v) ξ ord L1 Γ1)) := by
        intro L1 Γ1 hw1 hf1 h1
        obtain ⟨o', L', Γ', A, B, e1, e2, e3, e4, e5⟩ := Live.plain hgr hdr hn'.2 hm' hgd' hw1 hf1 hph h1
        exact ⟨o', L', Γ', i :: A, B, by rw [e1]; rfl, e2, by simpa using e3, e4, e5⟩
      have eD : setD D r i = D i := setD_ne hir
      have eV : ∀ v, updV V r v i = V i := fun v => by simp [updV, hir]
      rcases h with ⟨hg, h⟩ | ⟨hg, h⟩
      · rcases h with ⟨hd, h⟩ | ⟨hd, hw, h⟩ | ⟨hd, hw, v, hk, hc, h⟩
        · obtain ⟨o', L', Γ', A, B, e1, e2, e3, e4, e5⟩ := key (hway.cons ho (fun _ => by simp [gave, hg])) hfa h
          refine ⟨o', L', Γ', A, B, e1, e2, e3, e4, ?_⟩
          rcases e5 with ⟨f1, f2⟩ | ⟨f1, v, f2, f3, f4⟩
          · exact Or.inl ⟨f1, o, ho, Or.inl ⟨hg, Or.inl ⟨by rw [eD]; exact hd, by rw [eV]; exact f2⟩⟩⟩
          · exact Or.inr ⟨f1, v, f2, f3, o, ho, Or.inl ⟨hg, Or.inl ⟨by rw [eD]; exact hd, by rw [eV]; exact f4⟩⟩⟩
        · obtain ⟨o', L', Γ', A, B, e1, e2, e3, e4, e5⟩ := key (hway.cons ho (fun hd' => by rw [hd] at hd'; cases hd')) hfa h
          refine ⟨o', L', Γ', A, B, e1, e2, e3, e4, ?_⟩
          rcases e5 with ⟨f1, f2⟩ | ⟨f1, v, f2, f3, f4⟩
          · exact Or.inl ⟨f1, o, ho, Or.inl ⟨hg, Or.inr (Or.inl ⟨by rw [eD]; exact hd, hw, f2⟩)⟩⟩
          · exact Or.inr ⟨f1, v, f2, f3, o, ho, Or.inl ⟨hg, Or.inr (Or.inl ⟨by rw [eD]; exact hd, hw, f4⟩)⟩⟩
        · obtain ⟨o', L', Γ', A, B, e1, e2, e3, e4, e5⟩ := key (hway.cons ho (fun hd' => by rw [hd] at hd'; cases hd')) hfa h
          refine ⟨o', L', Γ', A, B, e1, e2, e3, e4, ?_⟩
          rcases e5 with ⟨f1, f2⟩ | ⟨f1, v', f2, f3, f4⟩
          · exact Or.inl ⟨f1, o, ho, Or.inl ⟨hg, Or.inr (Or.inr ⟨by rw [eD]; exact hd, hw, v, hk, hc, f2⟩)⟩⟩
          · exact Or.inr ⟨f1, v', f2, f3, o, ho, Or.inl ⟨hg, Or.inr (Or.inr ⟨by rw [eD]; exact hd, hw, v, hk, hc, f4⟩)⟩⟩
      · have hdi : D i = true := hgd i [] ord rfl hm' hg
        rcases h with ⟨hd, h⟩ | ⟨hd, _⟩ | ⟨hd, _⟩
        · obtain ⟨o', L', Γ', A, B, e1, e2, e3, e4, e5⟩ := key (hway.cons ho (fun _ => by simp [gave, hg])) (fun p hp hpd => by
            rcases List.mem_cons.1 hp with rfl | hp
            · exact hph i hg hd
            · exact hfa p hp hpd) h
          refine ⟨o', L', Γ', A, B, e1, e2, e3, e4, ?_⟩
          rcases e5 with ⟨f1, f2⟩ | ⟨f1, v, f2, f3, f4⟩
          · exact Or.inl ⟨f1, o, ho, Or.inr ⟨hg, Or.inl ⟨by rw [eD]; exact hd, f2⟩⟩⟩
          · exact Or.inr ⟨f1, v, f2, f3, o, ho, Or.inr ⟨hg, Or.inl ⟨by rw [eD]; exact hd, f4⟩⟩⟩
        · rw [hdi] at hd; cases hd
        · rw [hdi] at hd; cases hd
/-- What is so at an effect: it may be done, by whatever x; or by one x, where all effects ahead of it are done. -/
def EffAt (P : Program) (w0 : World) (ops : List Oper) (G : List (Nat × GD)) (K : Env → List Fact → Prop) (D : Nat → Bool) (V : Nat → Value) (ξ : (i : Nat) → (gdOf G i).X) (r : Nat) (o : Oper) (L' : Env) (Γ' : List Fact) (ord : List Nat) (L : Env) (Γ : List Fact) : Prop :=
  ((∀ w, Kp [] w0 w → Facts ops r Γ' w → OpRun P (rho L') o w (fun v w' => ∃ x, v = (gdOf G r).val x ∧ (gdOf G r).phi x w' ∧ Goes w0 G r w w')) ∧ ∀ x, Live P w0 ops G K (setD D r) V (updX ξ r x) ord L Γ) ∨
  ((∀ p ∈ Γ, D p.1 = true) ∧ ∃ x, (∀ w, Kp [] w0 w → Facts ops r Γ' w → OpRun P (rho L') o w (fun v w' => v = (gdOf G r).val x ∧ (gdOf G r).phi x w' ∧ Goes w0 G r w w')) ∧ Live P w0 ops G K (setD D r) V (updX ξ r x) ord L Γ)
/-- The way to an effect: others may stand beside it, undone. -/
theorem Live.effect {D : Nat → Bool} {V : Nat → Value} {ξ : (i : Nat) → (gdOf G i).X} {r : Nat} (hgr : isGh G r = true) (hdr : D r = false) (hanc : ∀ j, anc ops r j = true → D j = true) {w : World} (hph : ∀ i, isGh G i = true → D i = true → (gdOf G i).phi (ξ i) w) : ∀ {ord pre : List Nat} {L : Env} {Γ : List Fact}, ord.Nodup → r ∈ ord →
    Way ops G L0 D V ξ pre L → (∀ p ∈ Γ, D p.1 = true → p.2 w) → Live P w0 ops G K D V ξ ord L Γ →
    ∃ o L' Γ' A B, ord = A ++ r :: B ∧ ops[r]? = some o ∧ Way ops G L0 D V ξ (A.reverse ++ pre) L' ∧ (∀ p ∈ Γ', D p.1 = true → p.2 w) ∧ want ops L' o = some true ∧ o.op.operands.toList.all (known L') = true ∧ EffAt P w0 ops G K D V ξ r o L' Γ' ord L Γ
  | [], _, _, _, _, hm, _, _, _ => by cases hm
  | i :: ord, pre, L, Γ, hn, hm, hway, hfa, ⟨o, ho, h⟩ => by
    have hn' := List.nodup_cons.1 hn
    by_cases hir : i = r
    · subst hir
      have hcg : ∀ (x : (gdOf G i).X) {L1 : Env} {Γ1 : List Fact}, Live P w0 ops G K D V ξ ord L1 Γ1 → Live P w0 ops G K (setD D i) V (updX ξ i x) ord L1 Γ1 := fun x {L1 Γ1} h1 => Live.congr (fun j hj => by
        have hne : j ≠ i := fun e => hn'.1 (e ▸ hj)
        exact ⟨(setD_ne hne).symm, rfl, (updX_ne hne).symm⟩) h1
      rcases h with ⟨hg, h⟩ | ⟨hg, h⟩
      · rw [hgr] at hg; cases hg
      · rcases h with ⟨hd, h⟩ | ⟨hd, hw, hk, hc, h⟩ | ⟨hd, hw, hk, ha, x, hc, h⟩
        · rw [hdr] at hd; cases hd
        · refine ⟨o, L, Γ, [], ord, rfl, ho, by simpa using hway, hfa, hw, hk, Or.inl ⟨hc, fun x => ⟨o, ho, Or.inr ⟨hg, Or.inl ⟨setD_same, ?_⟩⟩⟩⟩⟩
          rw [updX_same]
          exact hcg x (h x)
        · refine ⟨o, L, Γ, [], ord, rfl, ho, by simpa using hway, hfa, hw, hk, Or.inr ⟨fun p hp => hanc p.1 (ha p hp), x, hc, ⟨o, ho, Or.inr ⟨hg, Or.inl ⟨setD_same, ?_⟩⟩⟩⟩⟩
          rw [updX_same]
          exact hcg x h
    · have hm' : r ∈ ord := by
        rcases List.mem_cons.1 hm with h | h
        · exact absurd h.symm hir
        · exact h
      have eD : setD D r i = D i := setD_ne hir
      have eX : ∀ x, updX ξ r x i = ξ i := fun x => updX_ne hir
      have key : ∀ {L1 : Env} {Γ1 : List Fact}, Way ops G L0 D V ξ (i :: pre) L1 → (∀ p ∈ Γ1, D p.1 = true → p.2 w) → Live P w0 ops G K D V ξ ord L1 Γ1 →
          ∃ o L' Γ' A B, i :: ord = A ++ r :: B ∧ ops[r]? = some o ∧ Way ops G L0 D V ξ (A.reverse ++ pre) L' ∧ (∀ p ∈ Γ', D p.1 = true → p.2 w) ∧ want ops L' o = some true ∧ o.op.operands.toList.all (known L') = true ∧ EffAt P w0 ops G K D V ξ r o L' Γ' ord L1 Γ1 := by
        intro L1 Γ1 hw1 hf1 h1
        obtain ⟨o', L', Γ', A, B, e1, e2, e3, e4, e5, e6, e7⟩ := Live.effect hgr hdr hanc hph hn'.2 hm' hw1 hf1 h1
        exact ⟨o', L', Γ', i :: A, B, by rw [e1]; rfl, e2, by simpa using e3, e4, e5, e6, e7⟩
      -- one step on, where the tail is known
      have up : ∀ {L1 : Env} {Γ1 : List Fact} {o' : Oper} {L' : Env} {Γ' : List Fact}, (∀ p ∈ Γ, p ∈ Γ1) → (∀ x, Live P w0 ops G K (setD D r) V (updX ξ r x) ord L1 Γ1 → Live P w0 ops G K (setD D r) V (updX ξ r x) (i :: ord) L Γ) → EffAt P w0 ops G K D V ξ r o' L' Γ' ord L1 Γ1 → EffAt P w0 ops G K D V ξ r o' L' Γ' (i :: ord) L Γ := by
        intro L1 Γ1 o' L' Γ' hs hl he
        rcases he with ⟨h1, h2⟩ | ⟨h1, x, h2, h3⟩
        · exact Or.inl ⟨h1, fun x => hl x (h2 x)⟩
        · exact Or.inr ⟨fun p hp => h1 p (hs p hp), x, h2, hl x h3⟩
      rcases h with ⟨hg, h⟩ | ⟨hg, h⟩
      · rcases h with ⟨hd, h⟩ | ⟨hd, hw, h⟩ | ⟨hd, hw, v, hk, hc, h⟩
        · obtain ⟨o', L', Γ', A, B, e1, e2, e3, e4, e5, e6, e7⟩ := key (hway.cons ho (fun _ => by simp [gave, hg])) hfa h
          exact ⟨o', L', Γ', A, B, e1, e2, e3, e4, e5, e6, up (fun p hp => hp) (fun x hx => ⟨o, ho, Or.inl ⟨hg, Or.inl ⟨by rw [eD]; exact hd, hx⟩⟩⟩) e7⟩
        · obtain ⟨o', L', Γ', A, B, e1, e2, e3, e4, e5, e6, e7⟩ := key (hway.cons ho (fun hd' => by rw [hd] at hd'; cases hd')) hfa h
          exact ⟨o', L', Γ', A, B, e1, e2, e3, e4, e5, e6, up (fun p hp => hp) (fun x hx => ⟨o, ho, Or.inl ⟨hg, Or.inr (Or.inl ⟨by rw [eD]; exact hd, hw, hx⟩)⟩⟩) e7⟩
        · obtain ⟨o', L', Γ', A, B, e1, e2, e3, e4, e5, e6, e7⟩ := key (hway.cons ho (fun hd' => by rw [hd] at hd'; cases hd')) hfa h
          exact ⟨o', L', Γ', A, B, e1, e2, e3, e4, e5, e6, up (fun p hp => hp) (fun x hx => ⟨o, ho, Or.inl ⟨hg, Or.inr (Or.inr ⟨by rw [eD]; exact hd, hw, v, hk, hc, hx⟩)⟩⟩) e7⟩
      · rcases h with ⟨hd, h⟩ | ⟨hd, hw, hk, hc, h⟩ | ⟨hd, hw, hk, ha, y, hc, h⟩
        · obtain ⟨o', L', Γ', A, B, e1, e2, e3, e4, e5, e6, e7⟩ := key (hway.cons ho (fun _ => by simp [gave, hg])) (fun p hp hpd => by
            rcases List.mem_cons.1 hp with rfl | hp
            · exact hph i hg hd
            · exact hfa p hp hpd) h
          exact ⟨o', L', Γ', A, B, e1, e2, e3, e4, e5, e6, up (fun p hp => List.mem_cons_of_mem _ hp) (fun x hx => ⟨o, ho, Or.inr ⟨hg, Or.inl ⟨by rw [eD]; exact hd, by rw [eX]; exact hx⟩⟩⟩) e7⟩
        · have hf : ∀ (y : (gdOf G i).X), ∀ p ∈ ((i, (gdOf G i).phi y) :: Γ : List Fact), D p.1 = true → p.2 w := fun y p hp hpd => by
            rcases List.mem_cons.1 hp with rfl | hp
            · simp only at hpd; rw [hd] at hpd; cases hpd
            · exact hfa p hp hpd
          have all : ∀ y, ∀ x, Live P w0 ops G K (setD D r) V (updX ξ r x) ord (addD o.dst ((gdOf G i).val y) L) ((i, (gdOf G i).phi y) :: Γ) := fun y => by
            obtain ⟨o', L', Γ', A, B, e1, e2, e3, e4, e5, e6, e7⟩ := key (hway.cons ho (fun hd' => by rw [hd] at hd'; cases hd')) (hf y) (h y)
            rcases e7 with ⟨_, h2⟩ | ⟨h1, _⟩
            · exact h2
            · have := h1 _ List.mem_cons_self
              simp only at this
              rw [hd] at this
              cases this
          obtain ⟨o', L', Γ', A, B, e1, e2, e3, e4, e5, e6, e7⟩ := key (hway.cons ho (fun hd' => by rw [hd] at hd'; cases hd')) (hf (gdOf G i).x0) (h (gdOf G i).x0)
          exact ⟨o', L', Γ', A, B, e1, e2, e3, e4, e5, e6, up (fun p hp => List.mem_cons_of_mem _ hp) (fun x _ => ⟨o, ho, Or.inr ⟨hg, Or.inr (Or.inl ⟨by rw [eD]; exact hd, hw, hk, hc, fun y => all y x⟩)⟩⟩) e7⟩
        · obtain ⟨o', L', Γ', A, B, e1, e2, e3, e4, e5, e6, e7⟩ := key (hway.cons ho (fun hd' => by rw [hd] at hd'; cases hd')) (fun p hp hpd => by
            rcases List.mem_cons.1 hp with rfl | hp
            · simp only at hpd; rw [hd] at hpd; cases hpd
            · exact hfa p hp hpd) h
          exact ⟨o', L', Γ', A, B, e1, e2, e3, e4, e5, e6, up (fun p hp => List.mem_cons_of_mem _ hp) (fun x hx => ⟨o, ho, Or.inr ⟨hg, Or.inr (Or.inr ⟨by rw [eD]; exact hd, hw, hk, ha, y, hc, hx⟩)⟩⟩) e7⟩
/-- All is done. -/
theorem Live.done {D : Nat → Bool} {V : Nat → Value} {ξ : (i : Nat) → (gdOf G i).X} {w : World} (hph : ∀ i, isGh G i = true → D i = true → (gdOf G i).phi (ξ i) w) : ∀ {ord pre : List Nat} {L : Env} {Γ : List Fact}, (∀ i ∈ ord, D i = true) → Way ops G L0 D V ξ pre L → (∀ p ∈ Γ, p.2 w) → Live P w0 ops G K D V ξ ord L Γ →
    ∃ L' Γ', Way ops G L0 D V ξ (ord.reverse ++ pre) L' ∧ (∀ p ∈ Γ', p.2 w) ∧ K L' Γ'
  | [], pre, L, Γ, _, hway, hfa, h => ⟨L, Γ, by simpa using hway, hfa, h⟩
  | i :: ord, pre, L, Γ, hall, hway, hfa, ⟨o, ho, h⟩ => by
    have hdi := hall i (by simp)
    have hall' : ∀ j ∈ ord, D j = true := fun j hj => hall j (by simp [hj])
    rcases h with ⟨hg, h⟩ | ⟨hg, h⟩
    · rcases h with ⟨hd, h⟩ | ⟨hd, _⟩ | ⟨hd, _⟩
      · obtain ⟨L', Γ', e1, e2, e3⟩ := Live.done hph hall' (hway.cons ho (fun _ => by simp [gave, hg])) hfa h
        exact ⟨L', Γ', by simpa using e1, e2, e3⟩
      · rw [hdi] at hd; cases hd
      · rw [hdi] at hd; cases hd
    · rcases h with ⟨hd, h⟩ | ⟨hd, _⟩ | ⟨hd, _⟩
      · obtain ⟨L', Γ', e1, e2, e3⟩ := Live.done hph hall' (hway.cons ho (fun _ => by simp [gave, hg])) (fun p hp => by
          rcases List.mem_cons.1 hp with rfl | hp
          · exact hph i hg hd
          · exact hfa p hp) h
        exact ⟨L', Γ', by simpa using e1, e2, e3⟩
      · rw [hdi] at hd; cases hd
      · rw [hdi] at hd; cases hd
end
end Go.Proofs.YtgbgnlboogalgaaGreat
namespace Go.Proofs.YtgbgnlboogalgaaGreat
set_option linter.unusedVariables false
def ordX (ops : List Oper) (gi : List Nat) : List Nat → List Nat → Bool
  | _, [] => true
  | pre, i :: rest =>
    ((ops[i]?).map fun o => (lks ops o).all fun t => pre.all (fun j => !(dstOf ops j == some t) || anc ops i j) && rest.all (fun j => !(dstOf ops j == some t) || anc ops j i)).getD false &&
    (!gi.elem i || rest.all (fun j => gi.elem j || anc ops j i)) && ordX ops gi (i :: pre) rest
def chkX (n : Nat) (ops : List Oper) (ord gi : List Nat) (k : Nat) : Bool :=
  ops.all (fun o => !isSelect o.op) && ops.all (fun o => o.dst.all (fun d => Nat.blt d n)) && nodupB (ops.filterMap (·.dst)) &&
  (List.range k).all (fun i => ord.elem i) && nodupB ord && ordX ops gi [] ord && ord.all (fun i => Nat.blt i k) && Nat.ble k ops.length &&
  ((List.range ops.length).all fun i => ((ops[i]?).map fun o => (edges o).all (fun e => Nat.blt e i)).getD false) &&
  ((List.range ops.length).all fun i => Nat.blt i k || (List.range i).all (fun j => anc ops i j)) && gi.all (fun i => ord.elem i)
section
variable {P : Program} {n : Nat} {ops : List Oper} {Q : Exit → Act → World → Prop} {w0 : World} {L0 : Env} {G : List (Nat × GD)} {ord gi : List Nat} {k : Nat}
theorem ordX_spec : ∀ (rest pre : List Nat), ordX ops gi pre rest = true → ∀ A r B, rest = A ++ r :: B → ∀ o, ops[r]? = some o →
    (∀ t ∈ lks ops o, (∀ j, j ∈ A ∨ j ∈ pre → dstOf ops j = some t → anc ops r j = true) ∧ (∀ j ∈ B, dstOf ops j = some t → anc ops j r = true)) ∧ (gi.elem r = true → ∀ j ∈ B, gi.elem j = true ∨ anc ops j r = true)
  | [], _, _, A, r, B, h, _, _ => by cases A <;> simp at h
  | i :: rest, pre, h, A, r, B, he, o, ho => by
    simp only [ordX, Bool.and_eq_true] at h
    obtain ⟨⟨h1, h2⟩, h3⟩ := h
    cases A with
    | nil =>
      simp only [List.nil_append, List.cons.injEq] at he
      obtain ⟨rfl, rfl⟩ := he
      rw [ho] at h1
      simp only [Option.map_some, Option.getD_some] at h1
      refine ⟨fun t ht => ?_, fun hg j hj => ?_⟩
      · have := List.all_eq_true.1 h1 t ht
        simp only [Bool.and_eq_true] at this
        refine ⟨fun j hj hd => ?_, fun j hj hd => ?_⟩
        · rcases hj with hj | hj
          · cases hj
          · have := List.all_eq_true.1 this.1 j hj
            simpa [hd] using this
        · have := List.all_eq_true.1 this.2 j hj
          simpa [hd] using this
      · rw [hg] at h2
        simp only [Bool.not_true, Bool.false_or] at h2
        have := List.all_eq_true.1 h2 j hj
        simpa using this
    | cons a A =>
      simp only [List.cons_append, List.cons.injEq] at he
      obtain ⟨rfl, rfl⟩ := he
      obtain ⟨g1, g2⟩ := ordX_spec _ (i :: pre) h3 A r B rfl o ho
      refine ⟨fun t ht => ⟨fun j hj hd => (g1 t ht).1 j ?_ hd, (g1 t ht).2⟩, g2⟩
      rcases hj with hj | hj
      · rcases List.mem_cons.1 hj with rfl | hj
        · exact Or.inr (by simp)
        · exact Or.inl hj
      · exact Or.inr (by simp [hj])
structure ChkX (n : Nat) (ops : List Oper) (ord gi : List Nat) (k : Nat) : Prop where
  sel : ∀ o ∈ ops, isSelect o.op = false
  dlt : ∀ o ∈ ops, ∀ d, o.dst = some d → d < n
  one : ∀ (i j : Nat) (oi oj : Oper) (t : Nat), ops[i]? = some oi → ops[j]? = some oj → oi.dst = some t → oj.dst = some t → i = j
  cover : ∀ i, i < k → i ∈ ord
  nodup : ord.Nodup
  ok : ordX ops gi [] ord = true
  lt : ∀ i ∈ ord, i < k
  le : k ≤ ops.length
  ed : ∀ (i : Nat) (o : Oper), ops[i]? = some o → ∀ e ∈ edges o, e < i
  tl : ∀ i, i < ops.length → k ≤ i → ∀ j, j < i → anc ops i j = true
  gi : ∀ i ∈ gi, i ∈ ord
theorem ChkX.of (h : chkX n ops ord gi k = true) : ChkX n ops ord gi k := by
  simp only [chkX, Bool.and_eq_true] at h
  obtain ⟨⟨⟨⟨⟨⟨⟨⟨⟨⟨h1, h2⟩, h3⟩, h4⟩, h5⟩, h6⟩, h7⟩, h8⟩, h9⟩, h10⟩, h11⟩ := h
  refine ⟨fun o ho => ?_, fun o ho d hd => ?_, nodup_filterMap_inj ops (nodup_of_B _ h3), fun i hi => ?_, nodup_of_B _ h5, h6, fun i hi => ?_, by simpa [Nat.ble_eq] using h8, fun i o ho e he => ?_, fun i hi hk j hj => ?_, fun i hi => ?_⟩
  · simpa using List.all_eq_true.1 h1 o ho
  · have := List.all_eq_true.1 h2 o ho
    rw [hd] at this
    simpa [Nat.blt_eq] using this
  · have := List.all_eq_true.1 h4 i (by simpa using hi)
    rw [List.elem_eq_mem] at this
    exact of_decide_eq_true this
  · simpa [Nat.blt_eq] using List.all_eq_true.1 h7 i hi
  · have := List.all_eq_true.1 h9 i (by simpa using (List.getElem?_eq_some_iff.1 ho).1)
    rw [ho] at this
    simp only [Option.map_some, Option.getD_some] at this
    simpa [Nat.blt_eq] using List.all_eq_true.1 this e he
  · have := List.all_eq_true.1 h10 i (by simpa using hi)
    simp only [Bool.or_eq_true, Nat.blt_eq] at this
    rcases this with h | h
    · omega
    · exact List.all_eq_true.1 h j (by simpa using hj)
  · have := List.all_eq_true.1 h11 i hi
    rw [List.elem_eq_mem] at this
    exact of_decide_eq_true this
theorem isGh_iff : ∀ {G : List (Nat × GD)} {i : Nat}, isGh G i = (G.map (·.1)).elem i
  | [], i => rfl
  | (j, d) :: G, i => by
    have ih := isGh_iff (G := G) (i := i)
    unfold isGh at *
    simp only [gdLook, List.map_cons, List.elem_cons]
    by_cases e : j = i
    · subst e; simp
    · have h1 : Nat.beq j i = false := by rw [← Bool.not_eq_true, Nat.beq_eq]; exact e
      have h2 : (i == j) = false := by simp; exact fun h => e h.symm
      rw [h1, h2]
      simpa using ih
/-- What is so on the way. -/
structure StX (P : Program) (n : Nat) (ops : List Oper) (w0 : World) (L0 : Env) (G : List (Nat × GD)) (K : Env → List Fact → Prop) (ord : List Nat) (D : Nat → Bool) (V : Nat → Value) (ξ : (i : Nat) → (gdOf G i).X) (a : Act) (w : World) : Prop where
  closed : ∀ (i : Nat) (o : Oper), ops[i]? = some o → D i = true → ∀ e ∈ edges o, D e = true
  size : a.tmps.size = n
  defers : a.defers = []
  slot : ∀ (i : Nat) (o : Oper) (d : Nat), ops[i]? = some o → D i = true → o.dst = some d → a.tmps[d]? = some (gave G V ξ i)
  old : ∀ t v, look L0 t = some v → (∀ (i : Nat) (o : Oper), ops[i]? = some o → D i = true → o.dst ≠ some t) → a.tmps[t]? = some v
  kp : Kp [] w0 w
  ph : ∀ i, isGh G i = true → D i = true → (gdOf G i).phi (ξ i) w
  live : Live P w0 ops G K D V ξ ord L0 []
theorem StX.looks {K : Env → List Fact → Prop} {D : Nat → Bool} {V : Nat → Value} {ξ : (i : Nat) → (gdOf G i).X} {a : Act} {w : World} (c : ChkX n ops ord gi k) (hst : StX P n ops w0 L0 G K ord D V ξ a w) (htl : ∀ i, i < ops.length → k ≤ i → D i = false)
    {r : Nat} {o : Oper} {A B : List Nat} {L' : Env} (he : ord = A ++ r :: B) (ho : ops[r]? = some o) (hdr : D r = false) (hanc : ∀ j, anc ops r j = true → D j = true) (hway : Way ops G L0 D V ξ (A.reverse ++ []) L') :
    ∀ t ∈ lks ops o, ∀ v, look L' t = some v → a.tmps[t]? = some v := by
  intro t ht v hv
  obtain ⟨g1, _⟩ := ordX_spec ord [] c.ok A r B he o ho
  rcases hway t v hv with ⟨j, hj, h1, h2⟩ | ⟨h1, h2⟩
  · have hjA : j ∈ A := by simpa using hj
    have hdj := hanc j ((g1 t ht).1 j (Or.inl hjA) h1)
    unfold dstOf at h1
    cases hoj : ops[j]? with
    | none => rw [hoj] at h1; simp at h1
    | some oj =>
      rw [hoj] at h1
      simp only [Option.bind_some] at h1
      rw [hst.slot j oj t hoj hdj h1, h2 hdj]
  · refine hst.old t v h2 (fun i oi hoi hdi e => ?_)
    have hil := (List.getElem?_eq_some_iff.1 hoi).1
    have hik : i < k := by
      by_cases h : i < k
      · exact h
      · rw [htl i hil (by omega)] at hdi; cases hdi
    have hio := c.cover i hik
    have hdi' : dstOf ops i = some t := by simp [dstOf, hoi, e]
    rw [he] at hio
    rcases List.mem_append.1 hio with hA | hB
    · exact h1 i (by simpa using hA) hdi'
    · rcases List.mem_cons.1 hB with rfl | hB
      · rw [hdr] at hdi; cases hdi
      · have h3 := (g1 t ht).2 i hB hdi'
        have := anc_closed hst.closed i oi hoi (hst.closed i oi hoi hdi) r h3
        rw [hdr] at this
        cases this
theorem gave_updV {V : Nat → Value} {ξ : (i : Nat) → (gdOf G i).X} {r i : Nat} {v : Value} (h : i ≠ r) : gave G (updV V r v) ξ i = gave G V ξ i := by simp [gave, updV, h]
theorem gave_updX {V : Nat → Value} {ξ : (i : Nat) → (gdOf G i).X} {r i : Nat} {x : (gdOf G r).X} (h : i ≠ r) : gave G V (updX ξ r x) i = gave G V ξ i := by simp [gave, updX_ne h]
theorem put_slot {a : Act} {n : Nat} {dst : Option Nat} {v : Value} (hs : a.tmps.size = n) (t : Nat) (u : Value) (h : a.tmps[t]? = some u) (hne : dst ≠ some t) : (a.put dst v).tmps[t]? = some u := by
  cases dst with
  | none => exact h
  | some d =>
    have : d ≠ t := fun e => hne (by rw [e])
    simp only [Act.put]
    rw [Array.getElem?_setIfInBounds_ne this]
    exact h
theorem put_here {a : Act} {n d : Nat} {v : Value} (hs : a.tmps.size = n) (hd : d < n) : (a.put (some d) v).tmps[d]? = some v := by simp [Act.put, hs, hd]
/-- One is done. -/
theorem StX.did {K : Env → List Fact → Prop} {D : Nat → Bool} {V V' : Nat → Value} {ξ ξ' : (i : Nat) → (gdOf G i).X} {a : Act} {w w' : World} (c : ChkX n ops ord gi k) (hst : StX P n ops w0 L0 G K ord D V ξ a w) {r : Nat} {o : Oper} {v : Value} (ho : ops[r]? = some o) (hed : ∀ e ∈ edges o, D e = true)
    (hk : Goes w0 G r w w') (hstab : ∀ i x, Stab [] ((gdOf G i).phi x)) (hv : gave G V' ξ' r = v) (hoth : ∀ i, i ≠ r → gave G V' ξ' i = gave G V ξ i) (hx : ∀ i, i ≠ r → ξ' i = ξ i) (hr : isGh G r = true → (gdOf G r).phi (ξ' r) w') (hlive : Live P w0 ops G K (setD D r) V' ξ' ord L0 []) :
    StX P n ops w0 L0 G K ord (setD D r) V' ξ' (a.put o.dst v) w' := by
  refine ⟨fun i oi hoi hdi e he => ?_, ?_, ?_, fun i oi d hoi hdi hd => ?_, fun t u hu hno => ?_, (hk.elim (fun h => hst.kp.trans h) (fun h => h.1)), fun i hg hdi => ?_, hlive⟩
  · by_cases hir : i = r
    · subst hir
      rw [ho] at hoi
      cases hoi
      exact setD_of (hed e he)
    · rw [setD_ne hir] at hdi
      exact setD_of (hst.closed i oi hoi hdi e he)
  · cases hdd : o.dst with
    | none => exact hst.size
    | some d => simp [Act.put, hst.size]
  · cases hdd : o.dst <;> exact hst.defers
  · by_cases hir : i = r
    · subst hir
      rw [ho] at hoi
      cases hoi
      rw [hd, hv]
      exact put_here hst.size (c.dlt o (List.mem_of_getElem? ho) d hd)
    · rw [setD_ne hir] at hdi
      rw [hoth i hir]
      exact put_slot hst.size d _ (hst.slot i oi d hoi hdi hd) (fun e => hir (c.one i r oi o d hoi ho hd e))
  · refine put_slot hst.size t u (hst.old t u hu (fun i oi hoi hdi => hno i oi hoi (setD_of hdi))) (hno r o ho setD_same)
  · by_cases hir : i = r
    · subst hir
      exact hr hg
    · rw [setD_ne hir] at hdi
      rw [hx i hir]
      exact hk.elim (fun h => hstab i _ w w' h (hst.ph i hg hdi)) (fun h => h.2 i _ hir (hst.ph i hg hdi))
def KX (n : Nat) (w0 : World) (P : Program) (ops : List Oper) (Q : Exit → Act → World → Prop) (k : Nat) (L : Env) (Γ : List Fact) : Prop :=
  ∀ w', Kp [] w0 w' → (∀ p ∈ Γ, p.2 w') → ∀ a, Fits n a L → wpList P ops.toArray Q (ops.drop k) a w'
theorem StX.wpAny (c : ChkX n ops ord (G.map (·.1)) k) (hstab : ∀ i x, Stab [] ((gdOf G i).phi x)) : ∀ (fuel : Nat) (listed : Array Bool) (V : Nat → Value) (ξ : (i : Nat) → (gdOf G i).X) (a : Act) (w : World),
    listed.size = ops.length → StX P n ops w0 L0 G (KX n w0 P ops Q k) ord (fun j => listed.getD j true) V ξ a w → (∀ i, i < ops.length → k ≤ i → listed.getD i true = false) →
    (List.range ops.length).countP (fun i => !listed.getD i true) = fuel → Go.wpAny P .any ops.toArray Q fuel listed a w := by
  have hfin : ∀ (listed : Array Bool) (V : Nat → Value) (ξ : (i : Nat) → (gdOf G i).X) (a : Act) (w : World), StX P n ops w0 L0 G (KX n w0 P ops Q k) ord (fun j => listed.getD j true) V ξ a w → (∀ i, i < ops.length → k ≤ i → listed.getD i true = false) → (∀ i, i < k → listed.getD i true = true) → wpList P ops.toArray Q (ops.drop k) a w := by
    intro listed V ξ a w hst htl hpre
    obtain ⟨L', Γ', h1, h2, h3⟩ := Live.done (L0 := L0) (pre := []) hst.ph (fun i hi => hpre i (c.lt i hi)) Way.nil (by simp) hst.live
    refine h3 w hst.kp h2 a ⟨fun t v hv => ?_, hst.size, hst.defers⟩
    rcases h1 t v hv with ⟨j, hj, g1, g2⟩ | ⟨g1, g2⟩
    · have hjo : j ∈ ord := by simpa using hj
      have hdj := hpre j (c.lt j hjo)
      unfold dstOf at g1
      cases hoj : ops[j]? with
      | none => rw [hoj] at g1; simp at g1
      | some oj =>
        rw [hoj] at g1
        simp only [Option.bind_some] at g1
        rw [hst.slot j oj t hoj hdj g1, g2 hdj]
    · refine hst.old t v g2 (fun i oi hoi hdi e => ?_)
      have hil := (List.getElem?_eq_some_iff.1 hoi).1
      have hik : i < k := by
        by_cases h : i < k
        · exact h
        · simp only [htl i hil (by omega)] at hdi; cases hdi
      exact g1 i (by simpa using c.cover i hik) (by simp [dstOf, hoi, e])
  intro fuel
  induction fuel with
  | zero =>
    intro listed V ξ a w hsz hst htl hcnt
    rw [List.countP_eq_zero] at hcnt
    have hall : ∀ i, i < ops.length → listed.getD i true = true := fun i hi => by simpa using hcnt i (by simpa using hi)
    have hle := c.le
    have hk : k = ops.length := by
      by_cases h : k < ops.length
      · have := htl k h (Nat.le_refl _)
        rw [hall k h] at this
        cases this
      · omega
    exact wpAny_tail c.ed 0 k listed a w (by omega) hsz c.tl hst.closed (fun i hi => by rw [hall i hi]; simp; omega) (hfin listed V ξ a w hst htl (fun i hi => hall i (by omega)))
  | succ fuel ih =>
    intro listed V ξ a w hsz hst htl hcnt
    have hle := c.le
    by_cases hpre : ∀ i, i < k → listed.getD i true = true
    · have hdec : ∀ i, i < ops.length → listed.getD i true = decide (i < k) := by
        intro i hi
        by_cases hik : i < k
        · rw [hpre i hik]; simp [hik]
        · rw [htl i hi (by omega)]; simp [hik]
      have hm : k + (fuel + 1) = ops.length := by
        have : (List.range ops.length).countP (fun i => !listed.getD i true) = ops.length - k := by
          have e1 : (List.range ops.length).countP (fun i => !listed.getD i true) = (List.range ops.length).countP (fun i => !decide (i < k)) := by
            apply List.countP_congr
            intro i hi
            rw [hdec i (by simpa using hi)]
          rw [e1]
          have : ops.length = k + (ops.length - k) := by omega
          rw [this, List.range_add, List.countP_append, List.countP_map]
          have h1 : (List.range k).countP (fun i => !decide (i < k)) = 0 := by
            rw [List.countP_eq_zero]; intro i hi; simp at hi; simp [hi]
          have h2 : (List.range (ops.length - k)).countP ((fun i => !decide (i < k)) ∘ fun x => k + x) = (List.range (ops.length - k)).length := by
            rw [List.countP_eq_length]; intro i hi; simp
          rw [h1, h2]
          simp
        omega
      exact wpAny_tail c.ed (fuel + 1) k listed a w hm hsz c.tl hst.closed hdec (hfin listed V ξ a w hst htl hpre)
    · constructor
      · intro hr
        exfalso
        apply hpre
        intro i
        induction i using Nat.strongRecOn with
        | _ i ihi =>
          intro hik
          cases hd : listed.getD i true with
          | true => rfl
          | false =>
            exfalso
            have : i ∈ Region.ready .any ops.toArray listed := by
              refine (ready_iff hsz).2 ⟨ops[i], by simp, hd, fun e he => ?_⟩
              have hei := c.ed i ops[i] (by simp) e he
              have := ihi e hei (by omega)
              simp only [Array.getD_eq_getD_getElem?] at this ⊢
              rw [Array.getElem?_eq_getElem (by omega)] at this ⊢
              exact this
            rw [hr] at this
            cases this
      · intro i hi
        obtain ⟨o, ho, hnd, hed'⟩ := (ready_iff hsz).1 hi
        have hil : i < ops.length := (List.getElem?_eq_some_iff.1 ho).1
        have hed : ∀ e ∈ edges o, listed.getD e true = true := by
          intro e he
          have := hed' e he
          simp only [Array.getD_eq_getD_getElem?] at this ⊢
          cases h : listed[e]? with
          | none => rfl
          | some b => rw [h] at this; exact this
        have hanc : ∀ j, anc ops i j = true → listed.getD j true = true := anc_closed hst.closed i o ho hed
        have hsz' : (listed.setIfInBounds i true).size = ops.length := by simp [hsz]
        have hset : (fun j => (listed.setIfInBounds i true).getD j true) = setD (fun j => listed.getD j true) i := funext fun j => getD_set (by omega)
        by_cases hik : i < k
        · have htl' : ∀ j, j < ops.length → k ≤ j → (listed.setIfInBounds i true).getD j true = false := by
            intro j hj hkj
            rw [getD_set (by omega), setD_ne (by omega)]
            exact htl j hj hkj
          have hcnt' : (List.range ops.length).countP (fun j => !(listed.setIfInBounds i true).getD j true) = fuel := by
            have key : ∀ (l : List Nat), l.Nodup → i ∈ l → l.countP (fun j => !listed.getD j true) = l.countP (fun j => !(listed.setIfInBounds i true).getD j true) + 1 := by
              intro l
              induction l with
              | nil => intro _ h; cases h
              | cons y l ihl =>
                intro hnl hm
                rw [List.nodup_cons] at hnl
                rw [List.countP_cons, List.countP_cons]
                by_cases e : y = i
                · subst e
                  have hsame : l.countP (fun j => !listed.getD j true) = l.countP (fun j => !(listed.setIfInBounds y true).getD j true) := by
                    apply List.countP_congr
                    intro j hj
                    rw [getD_set (by omega), setD_ne (show j ≠ y from fun e1 => hnl.1 (e1 ▸ hj))]
                  rw [hsame, getD_set (by omega), setD_same, hnd]
                  simp
                · have hm' : i ∈ l := by
                    rcases List.mem_cons.1 hm with h | h
                    · exact absurd h.symm e
                    · exact h
                  rw [ihl hnl.2 hm', getD_set (by omega), setD_ne e]
                  omega
            have := key (List.range ops.length) List.nodup_range (by simpa using hil)
            omega
          have hio := c.cover i hik
          cases hg : isGh G i with
          | false =>
            have hgd : ∀ g A B, ord = A ++ g :: B → i ∈ B → isGh G g = true → listed.getD g true = true := by
              intro g A B he hb hgg
              have hgo : g ∈ ord := by rw [he]; simp
              have hgl : g < ops.length := Nat.lt_of_lt_of_le (c.lt g hgo) hle
              obtain ⟨_, g2⟩ := ordX_spec ord [] c.ok A g B he ops[g] (by simp [hgl])
              rcases g2 (by rw [← isGh_iff]; exact hgg) i hb with h | h
              · rw [← isGh_iff, hg] at h; cases h
              · exact hanc g h
            obtain ⟨o', L', Γ', A, B, e1, e2, e3, e4, e5⟩ := Live.plain (D := fun j => listed.getD j true) hg hnd c.nodup hio hgd Way.nil (by simp) hst.ph hst.live
            have heo : o = o' := Option.some.inj (ho.symm.trans e2)
            subst heo
            have hlk := hst.looks c htl e1 ho hnd hanc e3
            rcases e5 with ⟨hw, hl⟩ | ⟨hw, v, hkn, hrun, hl⟩
            · refine wpOp_of ho (wanted_of hlk hw) (fun h => by cases h) (fun _ => ?_)
              refine ih _ (updV V i undef) ξ _ w hsz' ?_ htl' hcnt'
              rw [hset]
              exact hst.did c ho hed (Or.inl (Kp.refl _ _)) hstab (by simp [gave, hg, updV]) (fun j hj => gave_updV hj) (fun j hj => rfl) (fun h => by rw [hg] at h; cases h) hl
            · refine wpOp_of ho (wanted_of hlk hw) (fun _ => ?_) (fun h => by cases h)
              have hr := hrun w hst.kp (fun p hp ha => e4 p hp (hanc p.1 ha))
              have hr' := OpRun.congr (c.sel o (List.mem_of_getElem? ho)) (eval_of hlk hkn) hr
              refine hr'.wp (fun v' w' ⟨h1, h2⟩ => ?_)
              subst h1
              refine ih _ (updV V i v') ξ _ w' hsz' ?_ htl' hcnt'
              rw [hset]
              exact hst.did c ho hed (Or.inl h2) hstab (by simp [gave, hg, updV]) (fun j hj => gave_updV hj) (fun j hj => rfl) (fun h => by rw [hg] at h; cases h) hl
          | true =>
            obtain ⟨o', L', Γ', A, B, e1, e2, e3, e4, hw, hkn, hea⟩ := Live.effect (D := fun j => listed.getD j true) hg hnd hanc hst.ph c.nodup hio Way.nil (by simp) hst.live
            have heo : o = o' := Option.some.inj (ho.symm.trans e2)
            subst heo
            have hlk := hst.looks c htl e1 ho hnd hanc e3
            refine wpOp_of ho (wanted_of hlk hw) (fun _ => ?_) (fun h => by cases h)
            rcases hea with ⟨hrun, hl⟩ | ⟨_, x, hrun, hl⟩
            · have hr := hrun w hst.kp (fun p hp ha => e4 p hp (hanc p.1 ha))
              have hr' := OpRun.congr (c.sel o (List.mem_of_getElem? ho)) (eval_of hlk hkn) hr
              refine hr'.wp (fun v' w' ⟨x, h1, h2, h3⟩ => ?_)
              subst h1
              refine ih _ V (updX ξ i x) _ w' hsz' ?_ htl' hcnt'
              rw [hset]
              exact hst.did c ho hed h3 hstab (by simp [gave, hg, updX_same]) (fun j hj => gave_updX hj) (fun j hj => updX_ne hj) (fun _ => by rw [updX_same]; exact h2) (hl x)
            · have hr := hrun w hst.kp (fun p hp ha => e4 p hp (hanc p.1 ha))
              have hr' := OpRun.congr (c.sel o (List.mem_of_getElem? ho)) (eval_of hlk hkn) hr
              refine hr'.wp (fun v' w' ⟨h1, h2, h3⟩ => ?_)
              subst h1
              refine ih _ V (updX ξ i x) _ w' hsz' ?_ htl' hcnt'
              rw [hset]
              exact hst.did c ho hed h3 hstab (by simp [gave, hg, updX_same]) (fun j hj => gave_updX hj) (fun j hj => updX_ne hj) (fun _ => by rw [updX_same]; exact h2) hl
        · exfalso
          apply hpre
          intro j hj
          exact hanc j (c.tl i hil (by omega) j (by omega))
theorem CG.free {id : Nat} (hm : P.follows .mixedOrders = true) (k : Nat) (ord : List Nat) (G : List (Nat × GD)) (hc : chkX n ops ord (G.map (·.1)) k = true) (hstab : ∀ p ∈ G, ∀ x, Stab [] (p.2.phi x))
    (h : DerX P w0 ops G (KX n w0 P ops Q k) ord L0 []) : CG P n (.region id ops.toArray true) Q L0 w0 := by
  intro a ha
  have c := ChkX.of hc
  refine wp_region_any hm ?_
  have hget : ∀ j, (Array.replicate ops.toArray.size false).getD j true = !decide (j < ops.length) := by
    intro j
    simp [Array.getD_eq_getD_getElem?, Array.getElem?_replicate]
    split <;> simp_all
  have hstab' : ∀ i x, Stab [] ((gdOf G i).phi x) := by
    have : ∀ (G : List (Nat × GD)), (∀ p ∈ G, ∀ x, Stab [] (p.2.phi x)) → ∀ i, ∀ x, Stab [] ((gdOf G i).phi x) := by
      intro G
      induction G with
      | nil => intro _ i x w w' _ _; exact trivial
      | cons p G ih =>
        intro h i
        obtain ⟨j, d⟩ := p
        have e : gdOf ((j, d) :: G) i = (if Nat.beq j i = true then d else gdOf G i) := by
          unfold gdOf
          simp only [gdLook]
          cases Nat.beq j i <;> rfl
        by_cases hb : Nat.beq j i = true
        · rw [e, if_pos hb]
          exact h (j, d) (by simp)
        · rw [e, if_neg hb]
          exact ih (fun q hq => h q (by simp [hq])) i
    exact this G hstab
  refine StX.wpAny (w0 := w0) (L0 := L0) (G := G) c hstab' _ _ (fun _ => undef) (fun i => (gdOf G i).x0) a _ (by simp) ?_ ?_ ?_
  · have hD : (fun j => (Array.replicate ops.toArray.size false).getD j true) = fun j => !decide (j < ops.length) := funext hget
    rw [hD]
    refine ⟨fun i o ho hd => ?_, ha.size, ha.defers, fun i o d ho hd => ?_, fun t v hv _ => ha.slot t v hv, (Kp.refl [] w0).drew, fun i hg hd => ?_, ?_⟩
    · simp [(List.getElem?_eq_some_iff.1 ho).1] at hd
    · simp [(List.getElem?_eq_some_iff.1 ho).1] at hd
    · rw [isGh_iff, List.elem_eq_mem] at hg
      have := c.lt i (c.gi i (of_decide_eq_true hg))
      have hle := c.le
      have hil : i < ops.length := by omega
      simp [hil] at hd
    · refine Live.congr (fun i hi => ⟨?_, rfl, rfl⟩) h
      have h1 := c.lt i hi
      have hle := c.le
      have hil : i < ops.length := by omega
      simp [hil]
  · intro i hi _
    rw [hget]; simp [hi]
  · have : (List.range ops.length).countP (fun i => !(Array.replicate ops.toArray.size false).getD i true) = (List.range ops.length).length := by
      rw [List.countP_eq_length]
      intro i hi
      rw [hget]
      simp at hi
      simp [hi]
    rw [this]
    simp
end
end Go.Proofs.YtgbgnlboogalgaaGreat
namespace Go.Proofs.YtgbgnlboogalgaaGreat
set_option linter.unusedVariables false
section
variable {P : Program} {n : Nat} {ops : List Oper} {Q : Exit → Act → World → Prop} {w0 : World} {L : Env} {G : List (Nat × GD)} {K : Env → List Fact → Prop} {Γ : List Fact} {i : Nat} {ord : List Nat} {ty : TypeId} {pos : String} {af : Array Edge} {g : Option (Nat × Bool)}
theorem DerX.val {d : Nat} {op : Op} {v : Value} (hg : isGh G i = false) (ho : ops[i]? = some ⟨some d, op, ty, pos, af, g⟩) (hw : want ops L ⟨some d, op, ty, pos, af, g⟩ = some true) (hk : op.operands.toList.all (known L) = true)
    (hv : Vals P [] w0 (Facts ops i Γ) L ⟨some d, op, ty, pos, af, g⟩ v) (h : DerX P w0 ops G K ord ((d, v) :: L) Γ) : DerX P w0 ops G K (i :: ord) L Γ :=
  ⟨_, ho, Or.inl ⟨hg, Or.inr (Or.inr ⟨rfl, hw, v, hk, fun w hkp hF => by unfold OpRun; rw [hv w hkp hF]; exact ⟨rfl, Kp.refl _ _⟩, h⟩)⟩⟩
/-- A call with a fixed answer. -/
theorem DerX.call {d : Nat} {f : FuncId} [Fnc P f] {args : List Operand} {vs : List Value} {tys : Array TypeId} {v : Value} (hg : isGh G i = false)
    (ho : ops[i]? = some ⟨some d, .call ⟨.value (.func f), args.toArray, tys⟩, ty, pos, af, g⟩) (hw : want ops L ⟨some d, .call ⟨.value (.func f), args.toArray, tys⟩, ty, pos, af, g⟩ = some true) (hk : (Op.call ⟨.value (.func f), args.toArray, tys⟩).operands.toList.all (known L) = true)
    (he : Evs L args vs) (hc : ∀ w, Kp [] w0 w → Facts ops i Γ w → Ret P f vs.toArray w v) (h : DerX P w0 ops G K ord ((d, v) :: L) Γ) : DerX P w0 ops G K (i :: ord) L Γ :=
  ⟨_, ho, Or.inl ⟨hg, Or.inr (Or.inr ⟨rfl, hw, v, hk, fun w h1 h2 => orun_call (by rw [he.arr]; exact (hc w h1 h2).mono (fun e w' ⟨g1, g2⟩ => ⟨v, g1, rfl, g2⟩)), h⟩)⟩⟩
/-- An effect. -/
theorem DerX.eff {o : Oper} (D : GD) (hg : gdLook G i = some D) (ho : ops[i]? = some o) (hw : want ops L o = some true) (hk : o.op.operands.toList.all (known L) = true)
    (hc : ∀ w, Kp [] w0 w → Facts ops i Γ w → OpRun P (rho L) o w (fun v w' => ∃ x, v = D.val x ∧ D.phi x w' ∧ Kp [] w w'))
    (h : ∀ x, DerX P w0 ops G K ord (addD o.dst (D.val x) L) ((i, D.phi x) :: Γ)) : DerX P w0 ops G K (i :: ord) L Γ := by
  have e : gdOf G i = D := by simp [gdOf, hg]
  refine ⟨o, ho, Or.inr ⟨by simp [isGh, hg], Or.inr (Or.inl ⟨rfl, hw, hk, ?_, ?_⟩)⟩⟩
  · rw [e]; exact fun w h1 h2 => (hc w h1 h2).mono (fun v w' ⟨x, g1, g2, g3⟩ => ⟨x, g1, g2, Or.inl g3⟩)
  · rw [e]; exact h
/-- An effect whose x is known: all effects ahead of it in the order stand ahead of it. -/
theorem DerX.effD {o : Oper} (D : GD) (x : D.X) (hg : gdLook G i = some D) (ho : ops[i]? = some o) (hw : want ops L o = some true) (hk : o.op.operands.toList.all (known L) = true) (ha : Γ.all (fun p => anc ops i p.1) = true)
    (hc : ∀ w, Kp [] w0 w → Facts ops i Γ w → OpRun P (rho L) o w (fun v w' => v = D.val x ∧ D.phi x w' ∧ Kp [] w0 w' ∧ ∀ j y, j ≠ i → (gdOf G j).phi y w → (gdOf G j).phi y w'))
    (h : DerX P w0 ops G K ord (addD o.dst (D.val x) L) ((i, D.phi x) :: Γ)) : DerX P w0 ops G K (i :: ord) L Γ := by
  have e : gdOf G i = D := by simp [gdOf, hg]
  subst e
  refine ⟨o, ho, Or.inr ⟨by simp [isGh, hg], Or.inr (Or.inr ⟨rfl, hw, hk, fun p hp => List.all_eq_true.1 ha p hp, x, ?_, h⟩)⟩⟩
  exact fun w h1 h2 => (hc w h1 h2).mono (fun v w' ⟨g1, g2, g3⟩ => ⟨g1, g2, Or.inr g3⟩)
/-- A call that is an effect. -/
theorem DerX.callE {d : Nat} {f : FuncId} [Fnc P f] {args : List Operand} {vs : List Value} {tys : Array TypeId} (D : GD) (hg : gdLook G i = some D)
    (ho : ops[i]? = some ⟨some d, .call ⟨.value (.func f), args.toArray, tys⟩, ty, pos, af, g⟩) (hw : want ops L ⟨some d, .call ⟨.value (.func f), args.toArray, tys⟩, ty, pos, af, g⟩ = some true) (hk : (Op.call ⟨.value (.func f), args.toArray, tys⟩).operands.toList.all (known L) = true)
    (he : Evs L args vs) (hc : ∀ w, Kp [] w0 w → Facts ops i Γ w → Calls P f vs.toArray w (fun e w' => ∃ x, e = .returned (D.val x) ∧ D.phi x w' ∧ Kp [] w w'))
    (h : ∀ x, DerX P w0 ops G K ord ((d, D.val x) :: L) ((i, D.phi x) :: Γ)) : DerX P w0 ops G K (i :: ord) L Γ :=
  DerX.eff D hg ho hw hk (fun w h1 h2 => orun_call (by rw [he.arr]; exact (hc w h1 h2).mono (fun e w' ⟨x, g1, g2, g3⟩ => ⟨D.val x, g1, x, rfl, g2, g3⟩))) h
/-- What is promised of a slice of l. -/
def gS {α : Type} (m : Nat) (enc : α → List Value) (sz : Nat) (l : List α) : GD := ⟨Option Addr × Nat, (none, 0), fun q => .slice q.1 l.length q.2, fun q w => SlF m enc sz w q.1 q.2 l⟩
theorem DerX.tl {k : Nat} (h : ∀ w', Kp [] w0 w' → (∀ p ∈ Γ, p.2 w') → SG P n ops Q (ops.drop k) L w') : DerX P w0 ops G (KX n w0 P ops Q k) [] L Γ := h
end
end Go.Proofs.YtgbgnlboogalgaaGreat
namespace Go.Proofs.YtgbgnlboogalgaaGreat
set_option linter.unusedVariables false
theorem Row.append {w : World} {b off : Nat} {A B : List Value} (h : Row w b off A) (h' : Row w b (off + A.length) B) : Row w b off (A ++ B) := by
  obtain ⟨cs, T, f, h1, h2⟩ := h
  obtain ⟨cs', T', f', h3, h4⟩ := h'
  rw [h1] at h3
  cases h3
  refine ⟨cs, T, f, h1, fun i v hv => ?_⟩
  by_cases hi : i < A.length
  · rw [List.getElem?_append_left hi] at hv
    exact h2 i v hv
  · rw [List.getElem?_append_right (by omega)] at hv
    have := h4 _ v hv
    rw [show off + A.length + (i - A.length) = off + i by omega] at this
    exact this
section
variable {α : Type} {enc : α → List Value} {sz : Nat}
theorem Sl.tail {w : World} {b off : Nat} {x : α} {l : List α} (h : Sl enc sz w (some ⟨b, off, none⟩) (x :: l)) : Sl enc sz w (some ⟨b, off + sz, none⟩) l := fun i y hy => by
  have := h.row (i := i + 1) (x := y) (by simpa using hy)
  refine ⟨b, off + sz, rfl, ?_⟩
  rw [show off + sz + i * sz = off + (i + 1) * sz by rw [Nat.add_mul]; omega]
  exact this
theorem Sl.flat (hel : ∀ x, (enc x).length = sz) {w : World} {b : Nat} : ∀ {l : List α} {off : Nat}, l ≠ [] → Sl enc sz w (some ⟨b, off, none⟩) l → Row w b off (flt enc l)
  | [], _, h, _ => absurd rfl h
  | [x], off, _, h => by
    have := h.row (i := 0) (x := x) rfl
    simpa [flt] using this
  | x :: y :: l, off, _, h => by
    have h1 := h.row (i := 0) (x := x) rfl
    have h2 := Sl.flat hel (by simp) h.tail
    have : flt enc (x :: y :: l) = enc x ++ flt enc (y :: l) := by simp [flt]
    rw [this]
    refine Row.append (by simpa using h1) ?_
    rw [hel]
    exact h2
variable {P : Program} {w : World}
theorem run_cloneO {t ty e : TypeId} [u : Ut P t (.slice e)] {i : TypeInfo} [f : Inf P e i] {z : Value} (hz : i.zero = some z) (hzs : z.cells.size = i.size) (hsz : 0 < i.size) (hel : ∀ x, (enc x).length = i.size) (hone : ∀ x, allOne (enc x) = true)
    {a : Option Addr} {c : Nat} {l : List α} (hs : Sl enc i.size w a l) {b0 m : Nat} (hb0 : Blk w b0 (.cells #[] e)) (hm : m ≤ b0) (h63 : l.length ≤ maxLen) (hbytes : l.length * i.bytes ≤ 140737488355328) :
    ∃ v' w', (Builtin.append_ #[t, t] ty #[.slice (some ⟨b0, 0, none⟩) 0 0, .slice a l.length c]).run P w = .ok v' w' ∧ w'.ownsRow m e i.size v' l.length (flt enc l) ∧ Kp [] w w' := by
  have hown : w.ownsRow m e i.size (.slice (some ⟨b0, 0, none⟩) 0 0) 0 [] := by
    refine ⟨by simp, Or.inr ⟨b0, 0, #[], rfl, hm, hb0, Nat.le_refl _, by simp [maxLen], by simp, by simp⟩⟩
  by_cases hl : l = []
  · subst hl
    refine ⟨.slice (some ⟨b0, 0, none⟩) 0 0, w, ?_, hown, Kp.refl _ _⟩
    cases a <;> simp [Builtin.append_, run_underlying u.eq, sizeOf, typeInfo, f.eq, Builtin.lenOf, Builtin.firstCells, loadCells, loadCellsFrom, storeCells]
  · have hpos : 0 < l.length := List.length_pos_iff.2 hl
    obtain ⟨b, off, rfl, _⟩ := hs.at hpos
    have hr := hs.flat hel hl
    have hlen : (flt enc l).length = l.length * i.size := flt_length hel l
    obtain ⟨v', w', h1, h2, h3⟩ := run_append (P := P) (ty := ty) (d := .bool) (c := c) (u := u) (f := f) hz hzs hsz hown hlen hr (flt_all hone l) (by omega) (by simpa using hbytes) (by have := hb0.lt; omega)
    have hnews : ∀ j u', (flt enc l)[j]? = some u' → w.cell? ((⟨b, off, none⟩ : Addr).add j) = some u' := fun j u' hu => by rw [add_none]; exact hr.cell hu
    have hm' : l.length ≤ 9223372036854775807 := by simp only [maxLen] at h63; omega
    have hr2 := run_append_grow (P := P) w t ty e i z u.eq f.eq hz ⟨b0, 0, none⟩ 0 0 [] (by simp) (by simp) ⟨b, off, none⟩ l.length c (flt enc l) hlen hnews (by omega) (by omega) (growslice_fits (by omega) (by simpa using hbytes))
    have h1' := h1
    rw [hr2] at h1
    simp only [Result.ok.injEq] at h1
    obtain ⟨hv, hw⟩ := h1
    have hk : Kp [] w w' := by rw [← hw]; exact Kp.alloc_drew w _ rfl
    simp only [Nat.zero_add, List.nil_append] at h2
    exact ⟨v', w', h1', h2, hk⟩
/-- '[]T{}': a new slice of none. -/
def gE (m : Nat) (E : TypeId) : GD := ⟨Nat, 0, fun b => .slice (some ⟨b, 0, none⟩) 0 0, fun b w => m ≤ b ∧ Blk w b (.cells #[] E)⟩
theorem run_empty {T E : TypeId} {i : TypeInfo} [u : Ut P T (.slice E)] [f : Inf P E i] : (Instr.buildSlice T 0 #[]).run P w = .ok (.slice (some ⟨w.heap.size, 0, none⟩) 0 0) { w with heap := w.heap.push (.cells #[] E) } := by
  simp [Instr.buildSlice, run_underlying u.eq, sizeOf, typeInfo, f.eq, Instr.fill, newRow, newObj, Sem.run, Result.andThen]
  congr 2
  exact Array.eq_empty_of_size_eq_zero (by simp)
variable {n : Nat} {ops : List Oper} {Q : Exit → Act → World → Prop} {w0 : World} {L : Env} {G : List (Nat × GD)} {K : Env → List Fact → Prop} {Γ : List Fact} {j : Nat} {ord : List Nat} {ty : TypeId} {pos : String} {af : Array Edge} {g : Option (Nat × Bool)}
end
end Go.Proofs.YtgbgnlboogalgaaGreat
namespace Go.Proofs.YtgbgnlboogalgaaGreat
set_option linter.unusedVariables false
section
variable {α : Type} {enc : α → List Value} {sz : Nat} {P : Program}
def RetO (P : Program) (E : TypeId) (enc : α → List Value) (sz : Nat) (f : FuncId) (args : Array Value) (w : World) (l : List α) : Prop := Calls P f args w (fun e w' => ∃ v, e = .returned v ∧ w'.ownsRow w.heap.size E sz v l.length (flt enc l) ∧ Kp [] w w')
theorem own_mono {w : World} {base base' : Nat} {E : TypeId} {v : Value} {n : Nat} {xs : List Value} (h : w.ownsRow base E sz v n xs) (hb : base' ≤ base) : w.ownsRow base' E sz v n xs := by
  obtain ⟨h1, h2⟩ := h
  refine ⟨h1, ?_⟩
  rcases h2 with h2 | ⟨g, cap, cur, h3, h4, h5⟩
  · exact Or.inl h2
  · exact Or.inr ⟨g, cap, cur, h3, Nat.le_trans hb h4, h5⟩
/-- What is promised of a slice that is owned. -/
def gO (m : Nat) (E : TypeId) (enc : α → List Value) (sz : Nat) (l : List α) : GD := ⟨Value, undef, fun v => v, fun v w => w.ownsRow m E sz v l.length (flt enc l)⟩
variable {n : Nat} {ops : List Oper} {Q : Exit → Act → World → Prop} {w0 : World} {L : Env} {G : List (Nat × GD)} {K : Env → List Fact → Prop} {Γ : List Fact} {i : Nat} {ord : List Nat} {ty : TypeId} {pos : String} {af : Array Edge} {g : Option (Nat × Bool)}
end
end Go.Proofs.YtgbgnlboogalgaaGreat
namespace Go.Proofs.YtgbgnlboogalgaaGreat
set_option linter.unusedVariables false
section
variable {P : Program} {L : Env} {ty : TypeId} {pos : String} {af : Array Edge} {g : Option (Nat × Bool)} {S : List Nat} {w0 : World} {ops : List Oper} {gh : List Nat} {K : Env → (World → Prop) → (World → Prop) → Prop} {i : Nat} {ord : List Nat} {F R : World → Prop}
/-- a call whose answer is told by facts that stay, beside the resource -/
theorem Der.callGR {X : Type} {d : Nat} {f : FuncId} [Fnc P f] {args : List Operand} {vs : List Value} {tys : Array TypeId} (val : X → Value) (F' R' : X → World → Prop)
    (ho : ops[i]? = some ⟨some d, .call ⟨.value (.func f), args.toArray, tys⟩, ty, pos, af, g⟩) (hw : want ops L ⟨some d, .call ⟨.value (.func f), args.toArray, tys⟩, ty, pos, af, g⟩ = some true) (hg : gh.elem i = true) (hk : (Op.call ⟨.value (.func f), args.toArray, tys⟩).operands.toList.all (known L) = true)
    (he : Evs L args vs) (hF : ∀ x, Stab S (F' x)) (hR : ∀ x, Stab [] (R' x)) (hFs : Stab S F) (hc : ∀ w, Kp S w0 w → F w → R w → Calls P f vs.toArray w (fun e w' => ∃ x, e = .returned (val x) ∧ F' x w' ∧ R' x w' ∧ Kp S w w'))
    (hd : ∀ x, Der P S w0 ops gh K ord ((d, val x) :: L) (fun w => F w ∧ F' x w) (R' x)) : Der P S w0 ops gh K (i :: ord) L F R :=
  Der.ghost val F' R' ho hw hg hk hF hR hFs (fun w h1 h2 h3 => orun_call (by rw [he.arr]; exact (hc w h1 h2 h3).mono (fun e w' ⟨x, g1, g2, g3, g4⟩ => ⟨val x, g1, x, rfl, g2, g3, g4⟩))) hd
/-- the whole block written over -/
theorem Der.storeAll {T T' : TypeId} {inf : TypeInfo} [f : Inf P T inf] {a x : Operand} {b : Nat} {old : List Value} {v : Value}
    (ho : ops[i]? = some ⟨none, .store T a x, ty, pos, af, g⟩) (hw : want ops L ⟨none, .store T a x, ty, pos, af, g⟩ = some true) (hg : gh.elem i = true) (hk : (known L a && known L x) = true) (ha : rho L a = .pointer (some ⟨b, 0, none⟩)) (hx : rho L x = v)
    (hn : v.cells.toList.length = inf.size) (hold : old.length = inf.size) (hone : allOne v.cells.toList = true) (hb : b ∈ S) (hFs : Stab S F)
    (hd : Der P S w0 ops gh K ord L (fun w => F w ∧ True) (fun w => Blk w b (.cells v.cells.toList.toArray T'))) : Der P S w0 ops gh K (i :: ord) L F (fun w => Blk w b (.cells old.toArray T')) := by
  refine Der.storeR (fun w => Blk w b (.cells v.cells.toList.toArray T')) ho hw hg hk ha hx hFs (fun w w' hk h => h.kp0 hk) (fun w h => ?_) hd
  have hlen : old.length = v.cells.toList.length := hold.trans hn.symm
  have hrun := run_storeAt (P := P) (f := f) (off := 0) (v := v) h hn (by simp only [List.size_toArray]; omega) hone
  refine ⟨_, hrun, ?_, (Kp.set w h rfl rfl).mono (by intro z hz; simp at hz; subst hz; exact hb)⟩
  have := h.set (.cells (spl old 0 v.cells.toList).toArray T')
  rw [spl_all hlen] at this
  simpa [spl_all hlen] using this
end
end Go.Proofs.YtgbgnlboogalgaaGreat
namespace Go.Proofs.YtgbgnlboogalgaaGreat
set_option linter.unusedVariables false
/-- An int that Go can have. -/
abbrev I64 := { z : Int // -9223372036854775808 ≤ z ∧ z ≤ 9223372036854775807 }
@[reducible] def iv (z : I64) : Value := .int .i64 z.1
theorem iv_inj {a b : I64} (h : iv a = iv b) : a = b := by
  apply Subtype.ext
  simpa using h
theorem wf_i64 (z : I64) : (Lit.int .i64 z.1).wf = true := by
  have := z.2
  simp [Lit.wf, IntKind.min, IntKind.max, IntKind.signed, IntKind.bits]
  omega
theorem i64_key {P : Program} {k : TypeId} (hu : P.underlying k = some (.int .i64)) : KeyEnc P k iv :=
  ⟨Maps.int_keyed hu, fun z => ⟨.int .i64 z.1, by simp [keyOf, hu, mapKey, wf_i64]⟩, fun a b h => iv_inj h⟩
instance {P : Program} {k : TypeId} [u : Ut P k (.int .i64)] : Kenc P k iv := ⟨i64_key u.eq⟩
section
variable {κ ν : Type} {enc : κ → Value} {V : ν → Value} {m : List (κ × ν)} {w w' : World} {b : Nat} {P : Program} {k T E : TypeId}
end
section
variable {P : Program} {n : Nat} {Q : Exit → Act → World → Prop} {L : Env} {w : World} {ops : List Oper} {rest : List Oper} {ty : TypeId} {pos : String} {af : Array Edge} {g : Option (Nat × Bool)}
theorem equal_slnil {T E : TypeId} [u : Ut P T (.slice E)] {a : Option Addr} {m c : Nat} : (Op.equal T (.slice a m c) (.slice none 0 0)).run P w = .ok a.isNone w := equal_of (fun d => by
  cases a <;> simp only [Op.equalIn, Sem.run_bind, run_underlying u.eq, Result.andThen, Sem.run_pure, Option.isNone])
theorem qsn {S : List Nat} {w0 : World} {F : World → Prop} {d : Option Nat} {T T' E : TypeId} [u : Ut P T (.slice E)] {x : Operand} {a : Option Addr} {m c : Nat} (hx : ro L x = some (.slice a m c)) : Vals P S w0 F L ⟨d, .binOp .eql T x (.const (.slice none 0 0)) T', ty, pos, af, g⟩ (.bool a.isNone) := fun w _ _ => by
  have hc : rho L (.const (.slice none 0 0)) = .slice none 0 0 := rfl
  simp [execOp, rho_of hx, hc, eqGuard, binOp, equal_slnil (u := u)]
/-- 'append([]T{}, s...)', in text order: the slice is owned. -/
theorem SG.cloneO {α : Type} {enc : α → List Value} {m d : Nat} {t e : TypeId} {inf : TypeInfo} [u : Ut P t (.slice e)] [f : Inf P e inf] {z : Value} {s x : Operand} {b0 : Nat} {a : Option Addr} {c : Nat} {l : List α} (hd : Nat.blt d n = true)
    (hw : want ops L ⟨some d, .call { callee := .builtin .append, args := #[s, x], argTypes := #[t, t] }, ty, pos, af, g⟩ = some true) (hk : (known L s && known L x) = true) (hel : ∀ x, (enc x).length = inf.size) (hone : ∀ x, allOne (enc x) = true)
    (hs : rho L s = .slice (some ⟨b0, 0, none⟩) 0 0) (hx : rho L x = .slice a l.length c) (hz : inf.zero = some z) (hzs : Nat.beq z.cells.size inf.size = true) (hsz : Nat.blt 0 inf.size = true) (h63 : l.length ≤ maxLen) (hbytes : l.length * inf.bytes ≤ 140737488355328) (hm : m ≤ b0)
    (hc : Sl enc inf.size w a l) (hb0 : Blk w b0 (.cells #[] e))
    (h : ∀ v w', Kp [] w w' → w'.ownsRow m e inf.size v l.length (flt enc l) → SG P n ops Q rest ((d, v) :: L) w') : SG P n ops Q (⟨some d, .call { callee := .builtin .append, args := #[s, x], argTypes := #[t, t] }, ty, pos, af, g⟩ :: rest) L w := by
  refine SG.op (by simpa using hd) rfl hw (by simpa [Op.operands, Call.operands] using hk) ?_
  obtain ⟨v', w', e1, e2, e3⟩ := run_cloneO (P := P) (ty := ty) (c := c) (u := u) (f := f) hz (Nat.eq_of_beq_eq_true hzs) (by simpa [Nat.blt_eq] using hsz) hel hone hc hb0 hm h63 hbytes
  unfold OpRun
  have : (execOp (rho L) ⟨some d, .call { callee := .builtin .append, args := #[s, x], argTypes := #[t, t] }, ty, pos, af, g⟩).run P w = .ok (.value v') w' := by
    simp only [execOp, resolve, invoke, builtin, Sem.run_bind, Sem.run_pure, Result.andThen_ok, List.map_toArray, List.map_cons, List.map_nil, hs, hx, e1]
  rw [this]
  exact h v' w' e3 e2
theorem SG.empty {d : Nat} {T E : TypeId} {i : TypeInfo} [u : Ut P T (.slice E)] [f : Inf P E i] (hd : Nat.blt d n = true) (hw : want ops L ⟨some d, .buildSlice T 0 #[], ty, pos, af, g⟩ = some true)
    (h : ∀ b w', Kp [] w w' → w.heap.size ≤ b → Blk w' b (.cells #[] E) → SG P n ops Q rest ((d, .slice (some ⟨b, 0, none⟩) 0 0) :: L) w') : SG P n ops Q (⟨some d, .buildSlice T 0 #[], ty, pos, af, g⟩ :: rest) L w := by
  refine SG.op (by simpa using hd) rfl hw (by simp [Op.operands]) ?_
  unfold OpRun
  have : (execOp (rho L) ⟨some d, .buildSlice T 0 #[], ty, pos, af, g⟩).run P w = .ok (.value (.slice (some ⟨w.heap.size, 0, none⟩) 0 0)) { w with heap := w.heap.push (.cells #[] E) } := by
    simp only [execOp, List.map_toArray, List.map_nil, Sem.run_bind, run_empty (u := u) (f := f), Result.andThen, Sem.run_pure]
  rw [this]
  exact h _ _ (Kp.push w _ rfl) (Nat.le_refl _) (Blk.push w _)
end
end Go.Proofs.YtgbgnlboogalgaaGreat
namespace Go.Proofs.YtgbgnlboogalgaaGreat
set_option linter.unusedVariables false
section
variable {P : Program} {w w' : World}
/-- The row lies where it lay, or in a new block. -/
theorem append_where {base : Nat} {t ty e : TypeId} {i : TypeInfo} [u : Ut P t (.slice e)] [f : Inf P e i] {z : Value} (hz : i.zero = some z)
    {v v' : Value} {n : Nat} {xs : List Value} (hown : w.ownsRow base e i.size v n xs) {b off m c : Nat} {news : List Value} (hl : news.length = m * i.size) (hr : Row w b off news) (h1 : allOne news = true)
    (h63 : n + m ≤ maxLen) (hbytes : (n + m) * i.bytes ≤ 140737488355328) (hrun : (Builtin.append_ #[t, t] ty #[v, .slice (some ⟨b, off, none⟩) m c]).run P w = .ok v' w') :
    ∀ g, v'.ownBlock = some g → v.ownBlock = some g ∨ g = w.heap.size := by
  have hnews : ∀ j u, news[j]? = some u → w.cell? ((⟨b, off, none⟩ : Addr).add j) = some u := fun j u hu => by rw [add_none]; exact hr.cell hu
  have h1' : ∀ u ∈ news, u.oneCell' = true := fun u hu => by rw [one_iff]; exact List.all_eq_true.1 h1 u hu
  have hsmall : n + m ≤ 9223372036854775807 := by simp only [maxLen] at h63; omega
  rcases hown.2 with ⟨rfl, rfl⟩ | ⟨g, cap, cur, rfl, hbg, hg, hnc, hcm, hcs, htake⟩
  · by_cases hm : m = 0
    · subst hm
      have hn : news = [] := List.eq_nil_of_length_eq_zero (by simpa using hl)
      subst hn
      have : (Builtin.append_ #[t, t] ty #[.slice none 0 0, .slice (some ⟨b, off, none⟩) 0 c]).run P w = .ok (.slice none 0 0) w := by
        simp [Builtin.append_, run_underlying u.eq, sizeOf, typeInfo, f.eq, Builtin.lenOf, Builtin.firstCells, loadCells, loadCellsFrom]
      rw [this] at hrun
      cases hrun
      intro g hg
      exact Or.inl hg
    · have hr2 := run_append_nil (P := P) w t ty e i z u.eq f.eq hz ⟨b, off, none⟩ m c news hl hnews (by omega) (by omega) (by have hb := hbytes; simp only [Nat.zero_add] at hb; omega)
      rw [hr2] at hrun
      cases hrun
      intro g hg
      simp only [Value.ownBlock, Option.some.injEq] at hg
      exact Or.inr hg.symm
  · by_cases hroom : n + m ≤ cap
    · have hfit : n * i.size + news.length ≤ cur.size := by rw [hl, hcs, ← Nat.add_mul]; exact Nat.mul_le_mul_right _ hroom
      have hr2 := run_append_room (P := P) w t ty e i u.eq f.eq g n cap cur hg ⟨b, off, none⟩ m c news hl hnews h1' hroom hfit
      rw [hr2] at hrun
      cases hrun
      intro g' hg'
      exact Or.inl hg'
    · have holds : ∀ j u, xs[j]? = some u → w.cell? ((⟨g, 0, none⟩ : Addr).add j) = some u := hown.cells (g := g) rfl
      have hr2 := run_append_grow (P := P) w t ty e i z u.eq f.eq hz ⟨g, 0, none⟩ n cap xs hown.1 holds ⟨b, off, none⟩ m c news hl hnews (by omega) (by omega) (growslice_fits (by omega) hbytes)
      rw [hr2] at hrun
      cases hrun
      intro g' hg'
      simp only [Value.ownBlock, Option.some.injEq] at hg'
      exact Or.inr hg'.symm
variable {L : Env} {ty : TypeId} {pos : String} {af : Array Edge} {g : Option (Nat × Bool)} {S : List Nat} {w0 : World} {ops : List Oper} {gh : List Nat} {K : Env → (World → Prop) → (World → Prop) → Prop} {j : Nat} {ord : List Nat} {F : World → Prop}
/-- append to the row that is the resource. -/
theorem Der.appendR {base : Nat} {t e : TypeId} {i : TypeInfo} [u : Ut P t (.slice e)] [f : Inf P e i] {z : Value} {d : Nat} {s x : Operand} {v : Value} {nn : Nat} {xs : List Value} {b off m c : Nat} {news : List Value}
    (ho : ops[j]? = some ⟨some d, .call { callee := .builtin .append, args := #[s, x], argTypes := #[t, t] }, ty, pos, af, g⟩) (hw : want ops L ⟨some d, .call { callee := .builtin .append, args := #[s, x], argTypes := #[t, t] }, ty, pos, af, g⟩ = some true) (hg : gh.elem j = true) (hk : (known L s && known L x) = true)
    (hs : rho L s = v) (hx : rho L x = .slice (some ⟨b, off, none⟩) m c) (hz : i.zero = some z) (hzs : Nat.beq z.cells.size i.size = true) (hsz : Nat.blt 0 i.size = true) (hr : ∀ w, Kp S w0 w → F w → Row w b off news) (hl : news.length = m * i.size) (h1 : allOne news = true)
    (h63 : nn + m ≤ maxLen) (hbytes : (nn + m) * i.bytes ≤ 140737488355328) (hbase : base ≤ w0.heap.size) (hS : ∀ b ∈ ownB v, b ∈ S) (hFs : Stab S F)
    (h : ∀ v', Der P S w0 ops gh K ord ((d, v') :: L) (fun w => F w ∧ ∀ g, v'.ownBlock = some g → v.ownBlock = some g ∨ w0.heap.size ≤ g) (fun w => w.ownsRow base e i.size v' (nn + m) (xs ++ news))) :
    Der P S w0 ops gh K (j :: ord) L F (fun w => w.ownsRow base e i.size v nn xs) := by
  refine Der.ghost (X := Value) (fun v' => v') (fun v' _ => ∀ g, v'.ownBlock = some g → v.ownBlock = some g ∨ w0.heap.size ≤ g) (fun v' w => w.ownsRow base e i.size v' (nn + m) (xs ++ news)) ho hw hg (by simpa [Op.operands, Call.operands] using hk) (fun _ _ _ _ h => h) (fun v' w w' hk h => own_kp0 h hk) hFs (fun w hk1 hF hown => ?_) h
  have hrow := hr w hk1 hF
  have hb : base ≤ w.heap.size := Nat.le_trans hbase hk1.size
  obtain ⟨v', w', h2, h3, h4⟩ := run_append (P := P) (ty := ty) (d := .bool) (c := c) (u := u) (f := f) hz (Nat.eq_of_beq_eq_true hzs) (by simpa [Nat.blt_eq] using hsz) hown hl hrow h1 h63 hbytes hb
  have hwh := append_where (P := P) (ty := ty) (c := c) (u := u) (f := f) hz hown hl hrow h1 h63 hbytes h2
  unfold OpRun
  have : (execOp (rho L) ⟨some d, .call { callee := .builtin .append, args := #[s, x], argTypes := #[t, t] }, ty, pos, af, g⟩).run P w = .ok (.value v') w' := by
    simp only [execOp, resolve, invoke, builtin, Sem.run_bind, Sem.run_pure, Result.andThen_ok, List.map_toArray, List.map_cons, List.map_nil, hs, hx, h2]
  rw [this]
  refine ⟨v', rfl, fun g hg => ?_, h3, h4.mono hS⟩
  rcases hwh g hg with h | h
  · exact Or.inl h
  · exact Or.inr (by rw [h]; exact hk1.size)
/-- A slice written out, beside a resource. -/
theorem Der.buildR {R : World → Prop} {d : Nat} {T E : TypeId} {b : Nat} {parts : List (Nat × Operand)} {vs : List (Nat × Value)} {cs : Array Value}
    (ho : ops[j]? = some ⟨some d, .buildSlice T b parts.toArray, ty, pos, af, g⟩) (hw : want ops L ⟨some d, .buildSlice T b parts.toArray, ty, pos, af, g⟩ = some true) (hg : gh.elem j = true) (hk : (Op.buildSlice T b parts.toArray).operands.toList.all (known L) = true)
    (he : (parts.map fun p => (p.1, rho L p.2)) = vs) (hrun : ∀ w : World, (Instr.buildSlice T b vs.toArray).run P w = .ok (.slice (some ⟨w.heap.size, 0, none⟩) b b) { w with heap := w.heap.push (.cells cs E) }) (hS : ∀ z ∈ S, z < w0.heap.size) (hFs : Stab S F) (hRs : Stab [] R)
    (h : ∀ bn, Der P S w0 ops gh K ord ((d, .slice (some ⟨bn, 0, none⟩) b b) :: L) (fun w => F w ∧ (w0.heap.size ≤ bn ∧ Blk w bn (.cells cs E))) R) : Der P S w0 ops gh K (j :: ord) L F R := by
  refine Der.ghost (X := Nat) (fun bn => .slice (some ⟨bn, 0, none⟩) b b) (fun bn w => w0.heap.size ≤ bn ∧ Blk w bn (.cells cs E)) (fun _ => R) ho hw hg hk (fun bn w w' hk h => ⟨h.1, h.2.kp hk (fun hm => by have := hS _ hm; omega)⟩) (fun _ => hRs) hFs (fun w hk1 hF hR => ?_) h
  unfold OpRun
  have e : (parts.toArray.map fun (p : Nat × Operand) => (p.1, rho L p.2)) = vs.toArray := by simp [he]
  have : (execOp (rho L) ⟨some d, .buildSlice T b parts.toArray, ty, pos, af, g⟩).run P w = .ok (.value (.slice (some ⟨w.heap.size, 0, none⟩) b b)) { w with heap := w.heap.push (.cells cs E) } := by
    simp only [execOp, e, Sem.run_bind, hrun w, Result.andThen, Sem.run_pure]
  rw [this]
  exact ⟨w.heap.size, rfl, ⟨hk1.size, Blk.push w _⟩, hRs _ _ (Kp.push w _ rfl) hR, (Kp.push w _ rfl).any⟩
end
end Go.Proofs.YtgbgnlboogalgaaGreat
namespace Go.Proofs.YtgbgnlboogalgaaGreat
set_option linter.unusedVariables false
section
variable {P : Program} {S : List Nat} {w0 : World} {F : World → Prop} {L : Env} {d : Option Nat} {ty : TypeId} {pos : String} {af : Array Edge} {g : Option (Nat × Bool)}
theorem vals_ia {T E : TypeId} {n : Nat} [u : Ut P T (.array n E)] {sz : Nat} [f : Sz P E sz] {x y : Operand} {b off : Nat} {k : IntKind} {j : Nat} (hx : rho L x = .pointer (some ⟨b, off, none⟩)) (hy : rho L y = .int k (j : Int)) (h1 : j < n) :
    Vals P S w0 F L ⟨d, .indexAddr T x y, ty, pos, af, g⟩ (.pointer (some ⟨b, off + j * sz, none⟩)) := fun w _ _ => by
  obtain ⟨i, h2, h3⟩ := f.eq
  have h4 : (j : Int) < n := by omega
  subst h3
  simp [execOp, hx, hy, Instr.indexAt, asIntOf, run_underlying u.eq, sizeOf, typeInfo, Instr.sureAddr, h2, h1, add_none]
theorem qia {T E : TypeId} {n : Nat} [u : Ut P T (.array n E)] {sz : Nat} [f : Sz P E sz] {x y : Operand} {b off : Nat} {k : IntKind} {z : Int} {j : Nat} (hx : ro L x = some (.pointer (some ⟨b, off, none⟩))) (hy : ro L y = some (.int k z)) (hz : z = (j : Int)) (h1 : Ar (j < n)) :
    Vals P S w0 F L ⟨d, .indexAddr T x y, ty, pos, af, g⟩ (.pointer (some ⟨b, off + j * sz, none⟩)) := vals_ia (u := u) (f := f) (rho_of hx) (by rw [rho_of hy, hz]) h1.h
end
end Go.Proofs.YtgbgnlboogalgaaGreat
namespace Go.Proofs.YtgbgnlboogalgaaGreat
open Go.Proofs
set_option linter.unusedVariables false
theorem qia0 {P : Program} {S : List Nat} {w0 : World} {F : World → Prop} {L : Env} {d : Option Nat} {ty : TypeId} {pos : String} {af : Array Edge} {g : Option (Nat × Bool)} {T E : TypeId} {n : Nat} [u : Ut P T (.array n E)] {sz : Nat} [f : Sz P E sz] {x : Operand} {b off : Nat} {k : IntKind} {z : Int} (hx : ro L x = some (.pointer (some ⟨b, off, none⟩))) (h1 : Ar (0 ≤ z ∧ z < n)) :
    Vals P S w0 F L ⟨d, .indexAddr T x (.const (.int k z)), ty, pos, af, g⟩ (.pointer (some ⟨b, off + z.toNat * sz, none⟩)) := qia (u := u) (f := f) (k := k) (z := z) hx rfl (Int.toNat_of_nonneg h1.h.1).symm ⟨by have := h1.h; omega⟩
def hsl (s : Hs) : List Value := [.int .u64 s.a, .int .u64 s.b, .int .u64 s.c, .int .u64 s.d]
theorem hs_rows {w : World} {b : Nat} {T : TypeId} {s : Hs} (h : Blk w b (.cells (hsl s).toArray T)) : Row w b 0 [.int .u64 s.a] ∧ Row w b 1 [.int .u64 s.b] ∧ Row w b 2 [.int .u64 s.c] ∧ Row w b 3 [.int .u64 s.d] ∧ Row w b 0 (hsl s) :=
  ⟨Row.of h [] [.int .u64 s.b, .int .u64 s.c, .int .u64 s.d] rfl rfl, Row.of h [.int .u64 s.a] [.int .u64 s.c, .int .u64 s.d] rfl rfl, Row.of h [.int .u64 s.a, .int .u64 s.b] [.int .u64 s.d] rfl rfl, Row.of h [.int .u64 s.a, .int .u64 s.b, .int .u64 s.c] [] rfl rfl, Row.all h rfl⟩
theorem bst (w : World) (a b c e : Int) : (Instr.build 136 #[(0, .int .u64 a), (1, .int .u64 b), (2, .int .u64 c), (3, .int .u64 e)]).run Tryz.prog w = .ok (.agg (hsl ⟨a, b, c, e⟩).toArray) w := by kernel_rfl
attribute [local irreducible] CG NG SG Vals Der Row Blk MapIs IterAt addI xorI orI andI shlI shrI
set_option maxHeartbeats 8000000 in
theorem rot_spec (w : World) (x k : Int) (h : andI (IntKind.wrap .u64 k) 63 = k) (h0 : 0 ≤ k ∧ k ≤ 64) : Ret Tryz.prog 130 #[.int .u64 x, .int .i64 k] w (.int .u64 (rotI x k)) := by
  refine enter2 Tryz.func130 rfl Tryz.ntmps130 rfl ?_
  repeat (first|apply cA|apply cB|apply cD|apply cE|apply cF|apply cG|apply cH|apply cJ|apply cM|refine cQ rfl ?_|apply cU|refine cV rfl rfl rfl rfl (by first|((first|apply quad|apply quxo|apply quor|apply quan|apply qush|apply qusr|apply qusb|apply qia0|apply qia|apply qmv|apply qas|apply qlc|apply qnc|apply qls|apply qcv)<;>(first|exact rfl|assumption|exact Ar.mk (by omega)|exact dct (by first|assumption|omega)|exact dcf (by first|assumption|omega)|exact List.not_mem_nil|exact (Int.toNat_of_nonneg (by omega)).symm|fail))|fail) ?_)
  rw [h]
  repeat (first|apply cA|apply cB|apply cD|apply cE|apply cF|apply cG|apply cH|apply cJ|apply cM|refine cQ rfl ?_|apply cU|refine cV rfl rfl rfl rfl (by first|((first|apply quad|apply quxo|apply quor|apply quan|apply qush|apply qusr|apply qusb|apply qia0|apply qia|apply qmv|apply qas|apply qlc|apply qnc|apply qls|apply qcv)<;>(first|exact rfl|assumption|exact Ar.mk (by omega)|exact dct (by first|assumption|omega)|exact dcf (by first|assumption|omega)|exact List.not_mem_nil|exact (Int.toNat_of_nonneg (by omega)).symm|fail))|fail) ?_)
  refine ret1 (Or.inl rfl) Tryz.results130 (by first | exact ResV.tmp rfl | exact ResV.agg rfl rfl (by assumption) (by first | exact dc_length _ | exact nc_length _ | exact rc_length _ _ _ | exact ec_length _ | exact dl_length _ _ _ _ | rfl) | exact ResV.cell rfl rfl (by assumption)) ?_
  exact ⟨rfl, Kp.refl _ _⟩
theorem rot32 (w : World) (x : Int) : Ret Tryz.prog 130 #[.int .u64 x, .int .i64 32] w (.int .u64 (rotI x 32)) := rot_spec w x 32 (by decide +kernel) (by omega)
theorem rot24 (w : World) (x : Int) : Ret Tryz.prog 130 #[.int .u64 x, .int .i64 24] w (.int .u64 (rotI x 24)) := rot_spec w x 24 (by decide +kernel) (by omega)
theorem rot16 (w : World) (x : Int) : Ret Tryz.prog 130 #[.int .u64 x, .int .i64 16] w (.int .u64 (rotI x 16)) := rot_spec w x 16 (by decide +kernel) (by omega)
theorem rot63 (w : World) (x : Int) : Ret Tryz.prog 130 #[.int .u64 x, .int .i64 63] w (.int .u64 (rotI x 63)) := rot_spec w x 63 (by decide +kernel) (by omega)
theorem addI_small {k : Nat} (h : k < 1000) : addI (k : Int) 1 = ((k + 1 : Nat) : Int) := by
  unfold addI
  have e : (k : Int) + 1 = ((k + 1 : Nat) : Int) := by omega
  rw [e]
  exact wrap64_nat (by omega)
set_option maxHeartbeats 16000000 in
theorem stir_spec {w : World} {b : Nat} {s : Hs} (hB : Blk w b (.cells (hsl s).toArray 136)) : Calls Tryz.prog 124 #[.pointer (some ⟨b, 0, none⟩)] w (fun e w' => e = .returned (.tuple #[]) ∧ Kp [b] w w' ∧ Blk w' b (.cells (hsl (stirI s)).toArray 136)) := by
  refine enter1 Tryz.func124 rfl Tryz.ntmps124 rfl ?_
  obtain ⟨r0, r1, r2, r3, _⟩ := hs_rows hB
  apply cA
  refine CG.draw0 mixed [0, 1, 2, 3, 4, 5, 6, 7, 8, 9, 10, 11, 12, 13, 14, 15, 16, 17, 18, 19] [] (by kernel_rfl) ?_
  repeat (refine cY rfl rfl rfl (by first|((first|apply quad|apply quxo|apply quor|apply quan|apply qush|apply qusr|apply qusb|apply qia0|apply qia|apply qmv|apply qas|apply qlc|apply qnc|apply qls|apply qcv)<;>(first|exact rfl|assumption|exact Ar.mk (by omega)|exact dct (by first|assumption|omega)|exact dcf (by first|assumption|omega)|exact List.not_mem_nil|exact (Int.toNat_of_nonneg (by omega)).symm|fail))|fail) ?_)
  refine Der.fin (fun w1 hk1 _ _ => ?_)
  repeat (first|apply cA|apply cB|apply cD|apply cE|apply cF|apply cG|apply cH|apply cJ|apply cM|refine cQ rfl ?_|apply cU|refine cV rfl rfl rfl rfl (by first|((first|apply quad|apply quxo|apply quor|apply quan|apply qush|apply qusr|apply qusb|apply qia0|apply qia|apply qmv|apply qas|apply qlc|apply qnc|apply qls|apply qcv)<;>(first|exact rfl|assumption|exact Ar.mk (by omega)|exact dct (by first|assumption|omega)|exact dcf (by first|assumption|omega)|exact List.not_mem_nil|exact (Int.toNat_of_nonneg (by omega)).symm|fail))|fail) ?_)
  refine CG.loop (X := Nat) (fun i => [(0, .pointer (some ⟨b, 0, none⟩)), (2, .int .u64 (roundsI s i).a), (3, .int .u64 (roundsI s i).b), (4, .int .u64 (roundsI s i).c), (5, .int .u64 (roundsI s i).d), (23, .int .u64 (i : Int))])
    (fun i w' => i ≤ 6 ∧ Kp [] w1 w') (fun i => 6 - i) 0 ⟨by omega, Kp.refl _ _⟩ (by (repeat' (first | exact True.intro | exact rfl | refine And.intro ?_ ?_))) ?_
  rintro i w2 ⟨hi, hk2⟩
  by_cases hlt : i < 6
  · have g1 : (i : Int) < 6 := by omega
    have e1 := addI_small (k := i) (by omega)
    repeat (first|apply cA|apply cB|apply cD|apply cE|apply cF|apply cG|apply cH|apply cJ|apply cM|refine cQ rfl ?_|apply cU|refine cV rfl rfl rfl rfl (by first|((first|apply quad|apply quxo|apply quor|apply quan|apply qush|apply qusr|apply qusb|apply qia0|apply qia|apply qmv|apply qas|apply qlc|apply qnc|apply qls|apply qcv)<;>(first|exact rfl|assumption|exact Ar.mk (by omega)|exact dct (by first|assumption|omega)|exact dcf (by first|assumption|omega)|exact List.not_mem_nil|exact (Int.toNat_of_nonneg (by omega)).symm|fail))|fail) ?_)
    refine cZ rfl (by exact rho_of rfl) rfl ?_
    repeat (first|apply cA|apply cB|apply cD|apply cE|apply cF|apply cG|apply cH|apply cJ|apply cM|refine cQ rfl ?_|apply cU|refine cV rfl rfl rfl rfl (by first|((first|apply quad|apply quxo|apply quor|apply quan|apply qush|apply qusr|apply qusb|apply qia0|apply qia|apply qmv|apply qas|apply qlc|apply qnc|apply qls|apply qcv)<;>(first|exact rfl|assumption|exact Ar.mk (by omega)|exact dct (by first|assumption|omega)|exact dcf (by first|assumption|omega)|exact List.not_mem_nil|exact (Int.toNat_of_nonneg (by omega)).symm|fail))|fail) ?_)
    refine SG.ret rfl rfl rfl (by repeat' (first | exact True.intro | exact rho_of rfl | refine And.intro ?_ ?_)) (rot32 w2 _) (fun w3 hk3 => ?_)
    repeat (first|apply cA|apply cB|apply cD|apply cE|apply cF|apply cG|apply cH|apply cJ|apply cM|refine cQ rfl ?_|apply cU|refine cV rfl rfl rfl rfl (by first|((first|apply quad|apply quxo|apply quor|apply quan|apply qush|apply qusr|apply qusb|apply qia0|apply qia|apply qmv|apply qas|apply qlc|apply qnc|apply qls|apply qcv)<;>(first|exact rfl|assumption|exact Ar.mk (by omega)|exact dct (by first|assumption|omega)|exact dcf (by first|assumption|omega)|exact List.not_mem_nil|exact (Int.toNat_of_nonneg (by omega)).symm|fail))|fail) ?_)
    refine SG.ret rfl rfl rfl (by repeat' (first | exact True.intro | exact rho_of rfl | refine And.intro ?_ ?_)) (rot24 w3 _) (fun w4 hk4 => ?_)
    repeat (first|apply cA|apply cB|apply cD|apply cE|apply cF|apply cG|apply cH|apply cJ|apply cM|refine cQ rfl ?_|apply cU|refine cV rfl rfl rfl rfl (by first|((first|apply quad|apply quxo|apply quor|apply quan|apply qush|apply qusr|apply qusb|apply qia0|apply qia|apply qmv|apply qas|apply qlc|apply qnc|apply qls|apply qcv)<;>(first|exact rfl|assumption|exact Ar.mk (by omega)|exact dct (by first|assumption|omega)|exact dcf (by first|assumption|omega)|exact List.not_mem_nil|exact (Int.toNat_of_nonneg (by omega)).symm|fail))|fail) ?_)
    refine SG.ret rfl rfl rfl (by repeat' (first | exact True.intro | exact rho_of rfl | refine And.intro ?_ ?_)) (rot16 w4 _) (fun w5 hk5 => ?_)
    repeat (first|apply cA|apply cB|apply cD|apply cE|apply cF|apply cG|apply cH|apply cJ|apply cM|refine cQ rfl ?_|apply cU|refine cV rfl rfl rfl rfl (by first|((first|apply quad|apply quxo|apply quor|apply quan|apply qush|apply qusr|apply qusb|apply qia0|apply qia|apply qmv|apply qas|apply qlc|apply qnc|apply qls|apply qcv)<;>(first|exact rfl|assumption|exact Ar.mk (by omega)|exact dct (by first|assumption|omega)|exact dcf (by first|assumption|omega)|exact List.not_mem_nil|exact (Int.toNat_of_nonneg (by omega)).symm|fail))|fail) ?_)
    refine SG.ret rfl rfl rfl (by repeat' (first | exact True.intro | exact rho_of rfl | refine And.intro ?_ ?_)) (rot63 w5 _) (fun w6 hk6 => ?_)
    repeat (first|apply cA|apply cB|apply cD|apply cE|apply cF|apply cG|apply cH|apply cJ|apply cM|refine cQ rfl ?_|apply cU|refine cV rfl rfl rfl rfl (by first|((first|apply quad|apply quxo|apply quor|apply quan|apply qush|apply qusr|apply qusb|apply qia0|apply qia|apply qmv|apply qas|apply qlc|apply qnc|apply qls|apply qcv)<;>(first|exact rfl|assumption|exact Ar.mk (by omega)|exact dct (by first|assumption|omega)|exact dcf (by first|assumption|omega)|exact List.not_mem_nil|exact (Int.toNat_of_nonneg (by omega)).symm|fail))|fail) ?_)
    rw [e1]
    refine NG.round (i + 1) (by (repeat' (first | exact True.intro | exact rfl | refine And.intro ?_ ?_))) ⟨by omega, hk2.trans (hk3.trans (hk4.trans (hk5.trans hk6)))⟩ (by omega)
  · have g1 : ¬ (i : Int) < 6 := by omega
    have e6 : i = 6 := by omega
    subst e6
    repeat (first|apply cA|apply cB|apply cD|apply cE|apply cF|apply cG|apply cH|apply cJ|apply cM|refine cQ rfl ?_|apply cU|refine cV rfl rfl rfl rfl (by first|((first|apply quad|apply quxo|apply quor|apply quan|apply qush|apply qusr|apply qusb|apply qia0|apply qia|apply qmv|apply qas|apply qlc|apply qnc|apply qls|apply qcv)<;>(first|exact rfl|assumption|exact Ar.mk (by omega)|exact dct (by first|assumption|omega)|exact dcf (by first|assumption|omega)|exact List.not_mem_nil|exact (Int.toNat_of_nonneg (by omega)).symm|fail))|fail) ?_)
    refine dA rfl (by exact rho_of rfl) rfl ?_
    repeat (first|apply cA|apply cB|apply cD|apply cE|apply cF|apply cG|apply cH|apply cJ|apply cM|refine cQ rfl ?_|apply cU|refine cV rfl rfl rfl rfl (by first|((first|apply quad|apply quxo|apply quor|apply quan|apply qush|apply qusr|apply qusb|apply qia0|apply qia|apply qmv|apply qas|apply qlc|apply qnc|apply qls|apply qcv)<;>(first|exact rfl|assumption|exact Ar.mk (by omega)|exact dct (by first|assumption|omega)|exact dcf (by first|assumption|omega)|exact List.not_mem_nil|exact (Int.toNat_of_nonneg (by omega)).symm|fail))|fail) ?_)
    refine cV rfl rfl rfl rfl (vals_build rfl (fun w => bst w _ _ _ _)) ?_
    repeat (first|apply cA|apply cB|apply cD|apply cE|apply cF|apply cG|apply cH|apply cJ|apply cM|refine cQ rfl ?_|apply cU|refine cV rfl rfl rfl rfl (by first|((first|apply quad|apply quxo|apply quor|apply quan|apply qush|apply qusr|apply qusb|apply qia0|apply qia|apply qmv|apply qas|apply qlc|apply qnc|apply qls|apply qcv)<;>(first|exact rfl|assumption|exact Ar.mk (by omega)|exact dct (by first|assumption|omega)|exact dcf (by first|assumption|omega)|exact List.not_mem_nil|exact (Int.toNat_of_nonneg (by omega)).symm|fail))|fail) ?_)
    have hB2 := hB.kp0 (hk1.trans hk2)
    refine SG.setAll (old := hsl s) (l := hsl (roundsI s 6)) rfl rfl (by exact rho_of rfl) (by exact rho_of rfl) hB2 rfl rfl rfl (fun w3 hk3 hB3 => ?_)
    repeat (first|apply cA|apply cB|apply cD|apply cE|apply cF|apply cG|apply cH|apply cJ|apply cM|refine cQ rfl ?_|apply cU|refine cV rfl rfl rfl rfl (by first|((first|apply quad|apply quxo|apply quor|apply quan|apply qush|apply qusr|apply qusb|apply qia0|apply qia|apply qmv|apply qas|apply qlc|apply qnc|apply qls|apply qcv)<;>(first|exact rfl|assumption|exact Ar.mk (by omega)|exact dct (by first|assumption|omega)|exact dcf (by first|assumption|omega)|exact List.not_mem_nil|exact (Int.toNat_of_nonneg (by omega)).symm|fail))|fail) ?_)
    refine ret0 (Or.inr rfl) Tryz.results124 ?_
    exact ⟨rfl, (hk1.trans hk2).any.trans hk3, hB3⟩
end Go.Proofs.YtgbgnlboogalgaaGreat
namespace Go.Proofs.YtgbgnlboogalgaaGreat
open Go.Proofs
set_option linter.unusedVariables false
theorem dc_at {n : Nat} (d : BA n) {i : Nat} (h : i < n) : (dc d)[i]? = some (bv (d.1[i]'(by rw [d.2]; exact h))) := by
  simp only [dc, List.getElem?_map]
  rw [List.getElem?_eq_getElem (by rw [d.2]; exact h)]
  rfl
theorem num_step {d : Dg} {i : Nat} (h : i < 8) : orI (val (d.1.take i) : Int) (shlI (((d.1[i]'(by rw [d.2]; exact h)).toNat : Nat) : Int) (8 * (i : Int))) = (val (d.1.take (i + 1)) : Int) := by
  have hl : i < d.1.length := by rw [d.2]; exact h
  have h8 : (8 * (i : Int)) = ((8 * i : Nat) : Int) := by omega
  have h1 := val_snoc hl
  have h2 : val (d.1.take (i + 1)) < 256 ^ (i + 1) := by
    have := val_lt (d.1.take (i + 1))
    have e : (d.1.take (i + 1)).length = i + 1 := by simp; omega
    rwa [e] at this
  have h3 : (256 : Nat) ^ (i + 1) ≤ 256 ^ 8 := Nat.pow_le_pow_right (by omega) (by omega)
  have h4 : val (d.1.take (i + 1)) < 18446744073709551616 := Nat.lt_of_lt_of_le h2 h3
  have h5 : val (d.1.take i) < 2 ^ (8 * i) := by
    have := val_lt (d.1.take i)
    have e : (d.1.take i).length = i := by simp; omega
    rw [e] at this
    rwa [Nat.pow_mul]
  rw [h1] at h4
  rw [h8, shlI_nat (Nat.lt_of_le_of_lt (Nat.le_add_left _ _) h4) (by omega), orI_nat h5 h4, h1]
def zd : Dg := ⟨[0, 0, 0, 0, 0, 0, 0, 0], rfl⟩
/-- The first i bytes of a number, then nothing. -/
def part (n i : Nat) : List Value := (byL n i).map bv ++ List.replicate (8 - i) (bv 0)
theorem part_all (n : Nat) : part n 8 = dc (frm n) := by simp [part, dc, frm]
theorem part_length {n i : Nat} (h : i ≤ 8) : (part n i).length = 8 := by simp [part, byL_length]; omega
theorem byL_snoc (k : Nat) : ∀ n, byL n (k + 1) = byL n k ++ [UInt8.ofNat (n / 2 ^ (8 * k))] := by
  induction k with
  | zero => intro n; simp [byL]
  | succ k ih =>
    intro n
    rw [byL, ih (n / 256)]
    simp only [byL, List.cons_append]
    congr 3
    have : (2 : Nat) ^ (8 * (k + 1)) = 256 * 2 ^ (8 * k) := by
      rw [show 8 * (k + 1) = 8 + 8 * k from by omega, Nat.pow_add]
    rw [this, Nat.div_div_eq_div_mul]
theorem part_step {n i : Nat} (h : i < 8) : spl (part n i) i [bv (UInt8.ofNat (n / 2 ^ (8 * i)))] = part n (i + 1) := by
  have hr : List.replicate (8 - i) (bv 0) = [bv 0] ++ List.replicate (8 - (i + 1)) (bv 0) := by
    rw [show 8 - i = (8 - (i + 1)) + 1 from by omega, List.replicate_succ]
    rfl
  have := spl_mid (pre := (byL n i).map bv) (old := [bv 0]) (post := List.replicate (8 - (i + 1)) (bv 0)) (l := [bv (UInt8.ofNat (n / 2 ^ (8 * i)))]) rfl
  rw [← hr] at this
  simp only [List.length_map, byL_length] at this
  unfold part
  rw [this, byL_snoc]
  simp
attribute [local irreducible] CG NG SG Vals Der Row Blk MapIs IterAt addI xorI orI andI shlI shrI
set_option maxHeartbeats 8000000 in
theorem num_spec (d : Dg) (w : World) : Ret Tryz.prog 102 #[dv d] w (.int .u64 (num d : Int)) := by
  refine enter1 Tryz.func102 rfl Tryz.ntmps102 rfl ?_
  repeat (first|apply cA|apply cB|apply cD|apply cE|apply cF|apply cG|apply cH|apply cJ|apply cM|refine cQ rfl ?_|apply cU|refine cV rfl rfl rfl rfl (by first|(apply qb64<;>(first|exact rfl|assumption|exact Ar.mk (by omega)|exact dct (by first|assumption|omega)|exact dcf (by first|assumption|omega)|exact List.not_mem_nil|apply dc_length|exact nm1 (by omega)|fail))|(apply q64b<;>(first|exact rfl|assumption|exact Ar.mk (by omega)|exact dct (by first|assumption|omega)|exact dcf (by first|assumption|omega)|exact List.not_mem_nil|apply dc_length|exact nm1 (by omega)|fail))|((first|apply quxo|apply quor|apply qush|apply qusr|apply qmi|apply qid|apply qia0|apply qia|apply qmv|apply qas|apply qlc|apply qla|apply qnc|apply qls|apply qad)<;>(first|exact rfl|assumption|exact Ar.mk (by omega)|exact dct (by first|assumption|omega)|exact dcf (by first|assumption|omega)|exact List.not_mem_nil|apply dc_length|exact nm1 (by omega)|fail))|fail) ?_)
  refine SG.box rfl rfl rfl (by exact rho_of rfl) (fun b w1 hk1 hb hB => ?_)
  have hB : Blk w1 b (.cells (dc d).toArray 38) := hB
  have hr : Row w1 b 0 (dc d) := Row.all hB rfl
  repeat (first|apply cA|apply cB|apply cD|apply cE|apply cF|apply cG|apply cH|apply cJ|apply cM|refine cQ rfl ?_|apply cU|refine cV rfl rfl rfl rfl (by first|(apply qb64<;>(first|exact rfl|assumption|exact Ar.mk (by omega)|exact dct (by first|assumption|omega)|exact dcf (by first|assumption|omega)|exact List.not_mem_nil|apply dc_length|exact nm1 (by omega)|fail))|(apply q64b<;>(first|exact rfl|assumption|exact Ar.mk (by omega)|exact dct (by first|assumption|omega)|exact dcf (by first|assumption|omega)|exact List.not_mem_nil|apply dc_length|exact nm1 (by omega)|fail))|((first|apply quxo|apply quor|apply qush|apply qusr|apply qmi|apply qid|apply qia0|apply qia|apply qmv|apply qas|apply qlc|apply qla|apply qnc|apply qls|apply qad)<;>(first|exact rfl|assumption|exact Ar.mk (by omega)|exact dct (by first|assumption|omega)|exact dcf (by first|assumption|omega)|exact List.not_mem_nil|apply dc_length|exact nm1 (by omega)|fail))|fail) ?_)
  refine CG.loop (X := Nat) (fun i => [(3, .int .u64 (val (d.1.take i) : Int)), (6, dv d), (7, .int .i64 (i : Int))])
    (fun i w' => i ≤ 8 ∧ w' = w1) (fun i => 8 - i) 0 ⟨by omega, rfl⟩ (by (repeat' (first | exact True.intro | exact rfl | refine And.intro ?_ ?_))) ?_
  rintro i w2 ⟨hi, rfl⟩
  by_cases hlt : i < 8
  · have g1 : (i : Int) < 8 := by omega
    have hv := dc_at d hlt
    have e1 := num_step (d := d) hlt
    repeat (first|apply cA|apply cB|apply cD|apply cE|apply cF|apply cG|apply cH|apply cJ|apply cM|refine cQ rfl ?_|apply cU|refine cV rfl rfl rfl rfl (by first|(apply qb64<;>(first|exact rfl|assumption|exact Ar.mk (by omega)|exact dct (by first|assumption|omega)|exact dcf (by first|assumption|omega)|exact List.not_mem_nil|apply dc_length|exact nm1 (by omega)|fail))|(apply q64b<;>(first|exact rfl|assumption|exact Ar.mk (by omega)|exact dct (by first|assumption|omega)|exact dcf (by first|assumption|omega)|exact List.not_mem_nil|apply dc_length|exact nm1 (by omega)|fail))|((first|apply quxo|apply quor|apply qush|apply qusr|apply qmi|apply qid|apply qia0|apply qia|apply qmv|apply qas|apply qlc|apply qla|apply qnc|apply qls|apply qad)<;>(first|exact rfl|assumption|exact Ar.mk (by omega)|exact dct (by first|assumption|omega)|exact dcf (by first|assumption|omega)|exact List.not_mem_nil|apply dc_length|exact nm1 (by omega)|fail))|fail) ?_)
    refine cZ rfl (by exact rho_of rfl) rfl ?_
    repeat (first|apply cA|apply cB|apply cD|apply cE|apply cF|apply cG|apply cH|apply cJ|apply cM|refine cQ rfl ?_|apply cU|refine cV rfl rfl rfl rfl (by first|(apply qb64<;>(first|exact rfl|assumption|exact Ar.mk (by omega)|exact dct (by first|assumption|omega)|exact dcf (by first|assumption|omega)|exact List.not_mem_nil|apply dc_length|exact nm1 (by omega)|fail))|(apply q64b<;>(first|exact rfl|assumption|exact Ar.mk (by omega)|exact dct (by first|assumption|omega)|exact dcf (by first|assumption|omega)|exact List.not_mem_nil|apply dc_length|exact nm1 (by omega)|fail))|((first|apply quxo|apply quor|apply qush|apply qusr|apply qmi|apply qid|apply qia0|apply qia|apply qmv|apply qas|apply qlc|apply qla|apply qnc|apply qls|apply qad)<;>(first|exact rfl|assumption|exact Ar.mk (by omega)|exact dct (by first|assumption|omega)|exact dcf (by first|assumption|omega)|exact List.not_mem_nil|apply dc_length|exact nm1 (by omega)|fail))|fail) ?_)
    rw [e1]
    refine NG.round (i + 1) (by (repeat' (first | exact True.intro | exact rfl | refine And.intro ?_ ?_))) ⟨by omega, rfl⟩ (by omega)
  · have g1 : ¬ (i : Int) < 8 := by omega
    have e8 : i = 8 := by omega
    subst e8
    have hnum : (val (d.1.take 8) : Int) = (num d : Int) := by
      unfold num
      rw [List.take_of_length_le (by rw [d.2]; omega)]
    rw [hnum]
    repeat (first|apply cA|apply cB|apply cD|apply cE|apply cF|apply cG|apply cH|apply cJ|apply cM|refine cQ rfl ?_|apply cU|refine cV rfl rfl rfl rfl (by first|(apply qb64<;>(first|exact rfl|assumption|exact Ar.mk (by omega)|exact dct (by first|assumption|omega)|exact dcf (by first|assumption|omega)|exact List.not_mem_nil|apply dc_length|exact nm1 (by omega)|fail))|(apply q64b<;>(first|exact rfl|assumption|exact Ar.mk (by omega)|exact dct (by first|assumption|omega)|exact dcf (by first|assumption|omega)|exact List.not_mem_nil|apply dc_length|exact nm1 (by omega)|fail))|((first|apply quxo|apply quor|apply qush|apply qusr|apply qmi|apply qid|apply qia0|apply qia|apply qmv|apply qas|apply qlc|apply qla|apply qnc|apply qls|apply qad)<;>(first|exact rfl|assumption|exact Ar.mk (by omega)|exact dct (by first|assumption|omega)|exact dcf (by first|assumption|omega)|exact List.not_mem_nil|apply dc_length|exact nm1 (by omega)|fail))|fail) ?_)
    refine dA rfl (by exact rho_of rfl) rfl ?_
    repeat (first|apply cA|apply cB|apply cD|apply cE|apply cF|apply cG|apply cH|apply cJ|apply cM|refine cQ rfl ?_|apply cU|refine cV rfl rfl rfl rfl (by first|(apply qb64<;>(first|exact rfl|assumption|exact Ar.mk (by omega)|exact dct (by first|assumption|omega)|exact dcf (by first|assumption|omega)|exact List.not_mem_nil|apply dc_length|exact nm1 (by omega)|fail))|(apply q64b<;>(first|exact rfl|assumption|exact Ar.mk (by omega)|exact dct (by first|assumption|omega)|exact dcf (by first|assumption|omega)|exact List.not_mem_nil|apply dc_length|exact nm1 (by omega)|fail))|((first|apply quxo|apply quor|apply qush|apply qusr|apply qmi|apply qid|apply qia0|apply qia|apply qmv|apply qas|apply qlc|apply qla|apply qnc|apply qls|apply qad)<;>(first|exact rfl|assumption|exact Ar.mk (by omega)|exact dct (by first|assumption|omega)|exact dcf (by first|assumption|omega)|exact List.not_mem_nil|apply dc_length|exact nm1 (by omega)|fail))|fail) ?_)
    refine ret1 (Or.inl rfl) Tryz.results102 (by first | exact ResV.tmp rfl | exact ResV.agg rfl rfl (by assumption) (by first | exact dc_length _ | exact nc_length _ | exact rc_length _ _ _ | exact ec_length _ | exact dl_length _ _ _ _ | rfl) | exact ResV.cell rfl rfl (by assumption)) ?_
    exact ⟨rfl, hk1⟩
set_option maxHeartbeats 8000000 in
theorem from_spec (n : Nat) (w : World) : Ret Tryz.prog 90 #[.int .u64 (n : Int)] w (dv (frm n)) := by
  refine enter1 Tryz.func90 rfl Tryz.ntmps90 rfl ?_
  repeat (first|apply cA|apply cB|apply cD|apply cE|apply cF|apply cG|apply cH|apply cJ|apply cM|refine cQ rfl ?_|apply cU|refine cV rfl rfl rfl rfl (by first|(apply qb64<;>(first|exact rfl|assumption|exact Ar.mk (by omega)|exact dct (by first|assumption|omega)|exact dcf (by first|assumption|omega)|exact List.not_mem_nil|apply dc_length|exact nm1 (by omega)|fail))|(apply q64b<;>(first|exact rfl|assumption|exact Ar.mk (by omega)|exact dct (by first|assumption|omega)|exact dcf (by first|assumption|omega)|exact List.not_mem_nil|apply dc_length|exact nm1 (by omega)|fail))|((first|apply quxo|apply quor|apply qush|apply qusr|apply qmi|apply qid|apply qia0|apply qia|apply qmv|apply qas|apply qlc|apply qla|apply qnc|apply qls|apply qad)<;>(first|exact rfl|assumption|exact Ar.mk (by omega)|exact dct (by first|assumption|omega)|exact dcf (by first|assumption|omega)|exact List.not_mem_nil|apply dc_length|exact nm1 (by omega)|fail))|fail) ?_)
  refine SG.alloc rfl rfl rfl (fun b2 w1 hk1 hb2 hB2 => ?_)
  repeat (first|apply cA|apply cB|apply cD|apply cE|apply cF|apply cG|apply cH|apply cJ|apply cM|refine cQ rfl ?_|apply cU|refine cV rfl rfl rfl rfl (by first|(apply qb64<;>(first|exact rfl|assumption|exact Ar.mk (by omega)|exact dct (by first|assumption|omega)|exact dcf (by first|assumption|omega)|exact List.not_mem_nil|apply dc_length|exact nm1 (by omega)|fail))|(apply q64b<;>(first|exact rfl|assumption|exact Ar.mk (by omega)|exact dct (by first|assumption|omega)|exact dcf (by first|assumption|omega)|exact List.not_mem_nil|apply dc_length|exact nm1 (by omega)|fail))|((first|apply quxo|apply quor|apply qush|apply qusr|apply qmi|apply qid|apply qia0|apply qia|apply qmv|apply qas|apply qlc|apply qla|apply qnc|apply qls|apply qad)<;>(first|exact rfl|assumption|exact Ar.mk (by omega)|exact dct (by first|assumption|omega)|exact dcf (by first|assumption|omega)|exact List.not_mem_nil|apply dc_length|exact nm1 (by omega)|fail))|fail) ?_)
  refine SG.alloc rfl rfl rfl (fun b3 w2 hk2 hb3 hB3 => ?_)
  have hB2 : Blk w1 b2 (.cells (dc zd).toArray 38) := hB2
  have hB3 : Blk w2 b3 (.cells (dc zd).toArray 38) := hB3
  have hl2 := hB2.lt
  repeat (first|apply cA|apply cB|apply cD|apply cE|apply cF|apply cG|apply cH|apply cJ|apply cM|refine cQ rfl ?_|apply cU|refine cV rfl rfl rfl rfl (by first|(apply qb64<;>(first|exact rfl|assumption|exact Ar.mk (by omega)|exact dct (by first|assumption|omega)|exact dcf (by first|assumption|omega)|exact List.not_mem_nil|apply dc_length|exact nm1 (by omega)|fail))|(apply q64b<;>(first|exact rfl|assumption|exact Ar.mk (by omega)|exact dct (by first|assumption|omega)|exact dcf (by first|assumption|omega)|exact List.not_mem_nil|apply dc_length|exact nm1 (by omega)|fail))|((first|apply quxo|apply quor|apply qush|apply qusr|apply qmi|apply qid|apply qia0|apply qia|apply qmv|apply qas|apply qlc|apply qla|apply qnc|apply qls|apply qad)<;>(first|exact rfl|assumption|exact Ar.mk (by omega)|exact dct (by first|assumption|omega)|exact dcf (by first|assumption|omega)|exact List.not_mem_nil|apply dc_length|exact nm1 (by omega)|fail))|fail) ?_)
  refine CG.loop (X := Nat) (fun i => [(0, .int .u64 (n : Int)), (2, .pointer (some ⟨b2, 0, none⟩)), (3, .pointer (some ⟨b3, 0, none⟩)), (5, .int .i64 (i : Int))])
    (fun i w' => i ≤ 8 ∧ Kp [b3] w2 w' ∧ Blk w' b3 (.cells (part n i).toArray 38)) (fun i => 8 - i) 0 ⟨by omega, Kp.refl _ _, hB3⟩ (by (repeat' (first | exact True.intro | exact rfl | refine And.intro ?_ ?_))) ?_
  rintro i w3 ⟨hi, hk3, hB⟩
  by_cases hlt : i < 8
  · have g1 : (i : Int) < 8 := by omega
    have e1 : shrI (n : Int) (8 * (i : Int)) = ((n / 2 ^ (8 * i) : Nat) : Int) := by
      have h8 : (8 * (i : Int)) = ((8 * i : Nat) : Int) := by omega
      rw [h8, shrI_nat (by omega)]
    repeat (first|apply cA|apply cB|apply cD|apply cE|apply cF|apply cG|apply cH|apply cJ|apply cM|refine cQ rfl ?_|apply cU|refine cV rfl rfl rfl rfl (by first|(apply qb64<;>(first|exact rfl|assumption|exact Ar.mk (by omega)|exact dct (by first|assumption|omega)|exact dcf (by first|assumption|omega)|exact List.not_mem_nil|apply dc_length|exact nm1 (by omega)|fail))|(apply q64b<;>(first|exact rfl|assumption|exact Ar.mk (by omega)|exact dct (by first|assumption|omega)|exact dcf (by first|assumption|omega)|exact List.not_mem_nil|apply dc_length|exact nm1 (by omega)|fail))|((first|apply quxo|apply quor|apply qush|apply qusr|apply qmi|apply qid|apply qia0|apply qia|apply qmv|apply qas|apply qlc|apply qla|apply qnc|apply qls|apply qad)<;>(first|exact rfl|assumption|exact Ar.mk (by omega)|exact dct (by first|assumption|omega)|exact dcf (by first|assumption|omega)|exact List.not_mem_nil|apply dc_length|exact nm1 (by omega)|fail))|fail) ?_)
    refine cZ rfl (by exact rho_of rfl) rfl ?_
    repeat (first|apply cA|apply cB|apply cD|apply cE|apply cF|apply cG|apply cH|apply cJ|apply cM|refine cQ rfl ?_|apply cU|refine cV rfl rfl rfl rfl (by first|(apply qb64<;>(first|exact rfl|assumption|exact Ar.mk (by omega)|exact dct (by first|assumption|omega)|exact dcf (by first|assumption|omega)|exact List.not_mem_nil|apply dc_length|exact nm1 (by omega)|fail))|(apply q64b<;>(first|exact rfl|assumption|exact Ar.mk (by omega)|exact dct (by first|assumption|omega)|exact dcf (by first|assumption|omega)|exact List.not_mem_nil|apply dc_length|exact nm1 (by omega)|fail))|((first|apply quxo|apply quor|apply qush|apply qusr|apply qmi|apply qid|apply qia0|apply qia|apply qmv|apply qas|apply qlc|apply qla|apply qnc|apply qls|apply qad)<;>(first|exact rfl|assumption|exact Ar.mk (by omega)|exact dct (by first|assumption|omega)|exact dcf (by first|assumption|omega)|exact List.not_mem_nil|apply dc_length|exact nm1 (by omega)|fail))|fail) ?_)
    rw [e1]
    repeat (first|apply cA|apply cB|apply cD|apply cE|apply cF|apply cG|apply cH|apply cJ|apply cM|refine cQ rfl ?_|apply cU|refine cV rfl rfl rfl rfl (by first|(apply qb64<;>(first|exact rfl|assumption|exact Ar.mk (by omega)|exact dct (by first|assumption|omega)|exact dcf (by first|assumption|omega)|exact List.not_mem_nil|apply dc_length|exact nm1 (by omega)|fail))|(apply q64b<;>(first|exact rfl|assumption|exact Ar.mk (by omega)|exact dct (by first|assumption|omega)|exact dcf (by first|assumption|omega)|exact List.not_mem_nil|apply dc_length|exact nm1 (by omega)|fail))|((first|apply quxo|apply quor|apply qush|apply qusr|apply qmi|apply qid|apply qia0|apply qia|apply qmv|apply qas|apply qlc|apply qla|apply qnc|apply qls|apply qad)<;>(first|exact rfl|assumption|exact Ar.mk (by omega)|exact dct (by first|assumption|omega)|exact dcf (by first|assumption|omega)|exact List.not_mem_nil|apply dc_length|exact nm1 (by omega)|fail))|fail) ?_)
    rw [toB_nat]
    refine SG.store rfl rfl (by exact rho_of rfl) (by exact rho_of rfl) hB rfl (by show 0 + i * 1 + 1 ≤ (part n i).toArray.size; simp [part_length hi]; omega) rfl (fun w4 hk4 hB4 => ?_)
    have hB4 : Blk w4 b3 (.cells (spl (part n i) (0 + i * 1) [bv (UInt8.ofNat (n / 2 ^ (8 * i)))]).toArray 38) := hB4
    rw [show 0 + i * 1 = i from by omega, part_step hlt] at hB4
    repeat (first|apply cA|apply cB|apply cD|apply cE|apply cF|apply cG|apply cH|apply cJ|apply cM|refine cQ rfl ?_|apply cU|refine cV rfl rfl rfl rfl (by first|(apply qb64<;>(first|exact rfl|assumption|exact Ar.mk (by omega)|exact dct (by first|assumption|omega)|exact dcf (by first|assumption|omega)|exact List.not_mem_nil|apply dc_length|exact nm1 (by omega)|fail))|(apply q64b<;>(first|exact rfl|assumption|exact Ar.mk (by omega)|exact dct (by first|assumption|omega)|exact dcf (by first|assumption|omega)|exact List.not_mem_nil|apply dc_length|exact nm1 (by omega)|fail))|((first|apply quxo|apply quor|apply qush|apply qusr|apply qmi|apply qid|apply qia0|apply qia|apply qmv|apply qas|apply qlc|apply qla|apply qnc|apply qls|apply qad)<;>(first|exact rfl|assumption|exact Ar.mk (by omega)|exact dct (by first|assumption|omega)|exact dcf (by first|assumption|omega)|exact List.not_mem_nil|apply dc_length|exact nm1 (by omega)|fail))|fail) ?_)
    refine NG.round (i + 1) (by (repeat' (first | exact True.intro | exact rfl | refine And.intro ?_ ?_))) ⟨by omega, hk3.trans hk4, hB4⟩ (by omega)
  · have g1 : ¬ (i : Int) < 8 := by omega
    have e8 : i = 8 := by omega
    subst e8
    rw [part_all] at hB
    have hr : Row w3 b3 0 (dc (frm n)) := Row.all hB rfl
    repeat (first|apply cA|apply cB|apply cD|apply cE|apply cF|apply cG|apply cH|apply cJ|apply cM|refine cQ rfl ?_|apply cU|refine cV rfl rfl rfl rfl (by first|(apply qb64<;>(first|exact rfl|assumption|exact Ar.mk (by omega)|exact dct (by first|assumption|omega)|exact dcf (by first|assumption|omega)|exact List.not_mem_nil|apply dc_length|exact nm1 (by omega)|fail))|(apply q64b<;>(first|exact rfl|assumption|exact Ar.mk (by omega)|exact dct (by first|assumption|omega)|exact dcf (by first|assumption|omega)|exact List.not_mem_nil|apply dc_length|exact nm1 (by omega)|fail))|((first|apply quxo|apply quor|apply qush|apply qusr|apply qmi|apply qid|apply qia0|apply qia|apply qmv|apply qas|apply qlc|apply qla|apply qnc|apply qls|apply qad)<;>(first|exact rfl|assumption|exact Ar.mk (by omega)|exact dct (by first|assumption|omega)|exact dcf (by first|assumption|omega)|exact List.not_mem_nil|apply dc_length|exact nm1 (by omega)|fail))|fail) ?_)
    refine dA rfl (by exact rho_of rfl) rfl ?_
    repeat (first|apply cA|apply cB|apply cD|apply cE|apply cF|apply cG|apply cH|apply cJ|apply cM|refine cQ rfl ?_|apply cU|refine cV rfl rfl rfl rfl (by first|(apply qb64<;>(first|exact rfl|assumption|exact Ar.mk (by omega)|exact dct (by first|assumption|omega)|exact dcf (by first|assumption|omega)|exact List.not_mem_nil|apply dc_length|exact nm1 (by omega)|fail))|(apply q64b<;>(first|exact rfl|assumption|exact Ar.mk (by omega)|exact dct (by first|assumption|omega)|exact dcf (by first|assumption|omega)|exact List.not_mem_nil|apply dc_length|exact nm1 (by omega)|fail))|((first|apply quxo|apply quor|apply qush|apply qusr|apply qmi|apply qid|apply qia0|apply qia|apply qmv|apply qas|apply qlc|apply qla|apply qnc|apply qls|apply qad)<;>(first|exact rfl|assumption|exact Ar.mk (by omega)|exact dct (by first|assumption|omega)|exact dcf (by first|assumption|omega)|exact List.not_mem_nil|apply dc_length|exact nm1 (by omega)|fail))|fail) ?_)
    refine SG.setAll (old := dc zd) (l := dc (frm n)) rfl rfl (by exact rho_of rfl) (by exact rho_of rfl) ((hB2.kp0 hk2).kp hk3 (nm1 (by omega))) (dc_length _) (dc_length _) (dc_one _) (fun w4 hk4 hB4 => ?_)
    have hr4 : Row w4 b2 0 (dc (frm n)) := Row.all hB4 rfl
    repeat (first|apply cA|apply cB|apply cD|apply cE|apply cF|apply cG|apply cH|apply cJ|apply cM|refine cQ rfl ?_|apply cU|refine cV rfl rfl rfl rfl (by first|(apply qb64<;>(first|exact rfl|assumption|exact Ar.mk (by omega)|exact dct (by first|assumption|omega)|exact dcf (by first|assumption|omega)|exact List.not_mem_nil|apply dc_length|exact nm1 (by omega)|fail))|(apply q64b<;>(first|exact rfl|assumption|exact Ar.mk (by omega)|exact dct (by first|assumption|omega)|exact dcf (by first|assumption|omega)|exact List.not_mem_nil|apply dc_length|exact nm1 (by omega)|fail))|((first|apply quxo|apply quor|apply qush|apply qusr|apply qmi|apply qid|apply qia0|apply qia|apply qmv|apply qas|apply qlc|apply qla|apply qnc|apply qls|apply qad)<;>(first|exact rfl|assumption|exact Ar.mk (by omega)|exact dct (by first|assumption|omega)|exact dcf (by first|assumption|omega)|exact List.not_mem_nil|apply dc_length|exact nm1 (by omega)|fail))|fail) ?_)
    refine ret1 (Or.inl rfl) Tryz.results90 (by first | exact ResV.tmp rfl | exact ResV.agg rfl rfl (by assumption) (by first | exact dc_length _ | exact nc_length _ | exact rc_length _ _ _ | exact ec_length _ | exact dl_length _ _ _ _ | rfl) | exact ResV.cell rfl rfl (by assumption)) ?_
    have s1 := hk1.size
    have s2 := hk2.size
    exact ⟨rfl, ((hk1.trans hk2).trans_new hk3 (new1 (by omega))).trans_new hk4 (new1 hb2)⟩
set_option maxHeartbeats 8000000 in
theorem take_spec {w : World} {b : Nat} {s : Hs} (hB : Blk w b (.cells (hsl s).toArray 136)) (z : Int) : Calls Tryz.prog 113 #[.pointer (some ⟨b, 0, none⟩), .int .u64 z] w (fun e w' => e = .returned (.tuple #[]) ∧ Kp [b] w w' ∧ Blk w' b (.cells (hsl (takeI s z)).toArray 136)) := by
  refine enter2 Tryz.func113 rfl Tryz.ntmps113 rfl ?_
  obtain ⟨r0, r1, r2, r3, _⟩ := hs_rows hB
  apply cA
  refine CG.tail mixed 8 [0, 1, 2, 3, 4, 5, 6, 7] (by kernel_rfl) ?_
  repeat (refine cY rfl rfl rfl (by first|(apply qb64<;>(first|exact rfl|assumption|exact Ar.mk (by omega)|exact dct (by first|assumption|omega)|exact dcf (by first|assumption|omega)|exact List.not_mem_nil|apply dc_length|exact nm1 (by omega)|fail))|(apply q64b<;>(first|exact rfl|assumption|exact Ar.mk (by omega)|exact dct (by first|assumption|omega)|exact dcf (by first|assumption|omega)|exact List.not_mem_nil|apply dc_length|exact nm1 (by omega)|fail))|((first|apply quxo|apply quor|apply qush|apply qusr|apply qmi|apply qid|apply qia0|apply qia|apply qmv|apply qas|apply qlc|apply qla|apply qnc|apply qls|apply qad)<;>(first|exact rfl|assumption|exact Ar.mk (by omega)|exact dct (by first|assumption|omega)|exact dcf (by first|assumption|omega)|exact List.not_mem_nil|apply dc_length|exact nm1 (by omega)|fail))|fail) ?_)
  refine Der.tl (fun w1 hk1 _ _ => ?_)
  refine SG.store rfl rfl (by exact rho_of rfl) (by exact rho_of rfl) (hB.kp0 hk1) rfl (by show 0 + 0 * 1 + 1 ≤ 4; omega) rfl (fun w2 hk2 hB2 => ?_)
  have hB2 : Blk w2 b (.cells (hsl ⟨xorI s.a z, s.b, s.c, s.d⟩).toArray 136) := hB2
  repeat (first|apply cA|apply cB|apply cD|apply cE|apply cF|apply cG|apply cH|apply cJ|apply cM|refine cQ rfl ?_|apply cU|refine cV rfl rfl rfl rfl (by first|(apply qb64<;>(first|exact rfl|assumption|exact Ar.mk (by omega)|exact dct (by first|assumption|omega)|exact dcf (by first|assumption|omega)|exact List.not_mem_nil|apply dc_length|exact nm1 (by omega)|fail))|(apply q64b<;>(first|exact rfl|assumption|exact Ar.mk (by omega)|exact dct (by first|assumption|omega)|exact dcf (by first|assumption|omega)|exact List.not_mem_nil|apply dc_length|exact nm1 (by omega)|fail))|((first|apply quxo|apply quor|apply qush|apply qusr|apply qmi|apply qid|apply qia0|apply qia|apply qmv|apply qas|apply qlc|apply qla|apply qnc|apply qls|apply qad)<;>(first|exact rfl|assumption|exact Ar.mk (by omega)|exact dct (by first|assumption|omega)|exact dcf (by first|assumption|omega)|exact List.not_mem_nil|apply dc_length|exact nm1 (by omega)|fail))|fail) ?_)
  refine SG.call rfl rfl rfl (by repeat' (first | exact True.intro | exact rho_of rfl | refine And.intro ?_ ?_)) ((stir_spec hB2).mono (fun e w3 hh => ?_))
  obtain ⟨he, hk3, hB3⟩ := hh
  refine ⟨_, he, ?_⟩
  repeat (first|apply cA|apply cB|apply cD|apply cE|apply cF|apply cG|apply cH|apply cJ|apply cM|refine cQ rfl ?_|apply cU|refine cV rfl rfl rfl rfl (by first|(apply qb64<;>(first|exact rfl|assumption|exact Ar.mk (by omega)|exact dct (by first|assumption|omega)|exact dcf (by first|assumption|omega)|exact List.not_mem_nil|apply dc_length|exact nm1 (by omega)|fail))|(apply q64b<;>(first|exact rfl|assumption|exact Ar.mk (by omega)|exact dct (by first|assumption|omega)|exact dcf (by first|assumption|omega)|exact List.not_mem_nil|apply dc_length|exact nm1 (by omega)|fail))|((first|apply quxo|apply quor|apply qush|apply qusr|apply qmi|apply qid|apply qia0|apply qia|apply qmv|apply qas|apply qlc|apply qla|apply qnc|apply qls|apply qad)<;>(first|exact rfl|assumption|exact Ar.mk (by omega)|exact dct (by first|assumption|omega)|exact dcf (by first|assumption|omega)|exact List.not_mem_nil|apply dc_length|exact nm1 (by omega)|fail))|fail) ?_)
  refine ret0 (Or.inr rfl) Tryz.results113 ?_
  exact ⟨rfl, (hk1.any.trans hk2).trans hk3, hB3⟩
set_option maxHeartbeats 8000000 in
theorem gives_spec {w : World} {b : Nat} {s : Hs} (hB : Blk w b (.cells (hsl s).toArray 136)) : Ret Tryz.prog 85 #[.pointer (some ⟨b, 0, none⟩)] w (dv (givesI s)) := by
  refine enter1 Tryz.func85 rfl Tryz.ntmps85 rfl ?_
  obtain ⟨n, hn, _⟩ := xorI_nat s.a s.c
  have hg : givesI s = frm n := by unfold givesI; rw [hn]; rfl
  rw [hg]
  repeat (first|apply cA|apply cB|apply cD|apply cE|apply cF|apply cG|apply cH|apply cJ|apply cM|refine cQ rfl ?_|apply cU|refine cV rfl rfl rfl rfl (by first|(apply qb64<;>(first|exact rfl|assumption|exact Ar.mk (by omega)|exact dct (by first|assumption|omega)|exact dcf (by first|assumption|omega)|exact List.not_mem_nil|apply dc_length|exact nm1 (by omega)|fail))|(apply q64b<;>(first|exact rfl|assumption|exact Ar.mk (by omega)|exact dct (by first|assumption|omega)|exact dcf (by first|assumption|omega)|exact List.not_mem_nil|apply dc_length|exact nm1 (by omega)|fail))|((first|apply quxo|apply quor|apply qush|apply qusr|apply qmi|apply qid|apply qia0|apply qia|apply qmv|apply qas|apply qlc|apply qla|apply qnc|apply qls|apply qad)<;>(first|exact rfl|assumption|exact Ar.mk (by omega)|exact dct (by first|assumption|omega)|exact dcf (by first|assumption|omega)|exact List.not_mem_nil|apply dc_length|exact nm1 (by omega)|fail))|fail) ?_)
  refine SG.alloc rfl rfl rfl (fun b2 w1 hk1 hb2 hB2 => ?_)
  have hB2 : Blk w1 b2 (.cells (dc zd).toArray 38) := hB2
  obtain ⟨r0, r1, r2, r3, _⟩ := hs_rows (hB.kp0 hk1)
  repeat (first|apply cA|apply cB|apply cD|apply cE|apply cF|apply cG|apply cH|apply cJ|apply cM|refine cQ rfl ?_|apply cU|refine cV rfl rfl rfl rfl (by first|(apply qb64<;>(first|exact rfl|assumption|exact Ar.mk (by omega)|exact dct (by first|assumption|omega)|exact dcf (by first|assumption|omega)|exact List.not_mem_nil|apply dc_length|exact nm1 (by omega)|fail))|(apply q64b<;>(first|exact rfl|assumption|exact Ar.mk (by omega)|exact dct (by first|assumption|omega)|exact dcf (by first|assumption|omega)|exact List.not_mem_nil|apply dc_length|exact nm1 (by omega)|fail))|((first|apply quxo|apply quor|apply qush|apply qusr|apply qmi|apply qid|apply qia0|apply qia|apply qmv|apply qas|apply qlc|apply qla|apply qnc|apply qls|apply qad)<;>(first|exact rfl|assumption|exact Ar.mk (by omega)|exact dct (by first|assumption|omega)|exact dcf (by first|assumption|omega)|exact List.not_mem_nil|apply dc_length|exact nm1 (by omega)|fail))|fail) ?_)
  refine CG.tail mixed 9 [0, 1, 2, 3, 4, 5, 6, 7, 8] (by kernel_rfl) ?_
  repeat (refine cY rfl rfl rfl (by first|(apply qb64<;>(first|exact rfl|assumption|exact Ar.mk (by omega)|exact dct (by first|assumption|omega)|exact dcf (by first|assumption|omega)|exact List.not_mem_nil|apply dc_length|exact nm1 (by omega)|fail))|(apply q64b<;>(first|exact rfl|assumption|exact Ar.mk (by omega)|exact dct (by first|assumption|omega)|exact dcf (by first|assumption|omega)|exact List.not_mem_nil|apply dc_length|exact nm1 (by omega)|fail))|((first|apply quxo|apply quor|apply qush|apply qusr|apply qmi|apply qid|apply qia0|apply qia|apply qmv|apply qas|apply qlc|apply qla|apply qnc|apply qls|apply qad)<;>(first|exact rfl|assumption|exact Ar.mk (by omega)|exact dct (by first|assumption|omega)|exact dcf (by first|assumption|omega)|exact List.not_mem_nil|apply dc_length|exact nm1 (by omega)|fail))|fail) ?_)
  rw [hn]
  refine Der.tl (fun w2 hk2 _ _ => ?_)
  refine SG.ret rfl rfl rfl (by repeat' (first | exact True.intro | exact rho_of rfl | refine And.intro ?_ ?_)) (from_spec n w2) (fun w3 hk3 => ?_)
  refine SG.setAll (old := dc zd) (l := dc (frm n)) rfl rfl (by exact rho_of rfl) (by exact rho_of rfl) ((hB2.kp0 hk2).kp0 hk3) (dc_length _) (dc_length _) (dc_one _) (fun w4 hk4 hB4 => ?_)
  have hr4 : Row w4 b2 0 (dc (frm n)) := Row.all hB4 rfl
  repeat (first|apply cA|apply cB|apply cD|apply cE|apply cF|apply cG|apply cH|apply cJ|apply cM|refine cQ rfl ?_|apply cU|refine cV rfl rfl rfl rfl (by first|(apply qb64<;>(first|exact rfl|assumption|exact Ar.mk (by omega)|exact dct (by first|assumption|omega)|exact dcf (by first|assumption|omega)|exact List.not_mem_nil|apply dc_length|exact nm1 (by omega)|fail))|(apply q64b<;>(first|exact rfl|assumption|exact Ar.mk (by omega)|exact dct (by first|assumption|omega)|exact dcf (by first|assumption|omega)|exact List.not_mem_nil|apply dc_length|exact nm1 (by omega)|fail))|((first|apply quxo|apply quor|apply qush|apply qusr|apply qmi|apply qid|apply qia0|apply qia|apply qmv|apply qas|apply qlc|apply qla|apply qnc|apply qls|apply qad)<;>(first|exact rfl|assumption|exact Ar.mk (by omega)|exact dct (by first|assumption|omega)|exact dcf (by first|assumption|omega)|exact List.not_mem_nil|apply dc_length|exact nm1 (by omega)|fail))|fail) ?_)
  refine ret1 (Or.inl rfl) Tryz.results85 (by first | exact ResV.tmp rfl | exact ResV.agg rfl rfl (by assumption) (by first | exact dc_length _ | exact nc_length _ | exact rc_length _ _ _ | exact ec_length _ | exact dl_length _ _ _ _ | rfl) | exact ResV.cell rfl rfl (by assumption)) ?_
  exact ⟨rfl, ((hk1.trans hk2).trans hk3).trans_new hk4 (new1 hb2)⟩
set_option maxHeartbeats 8000000 in
theorem begin_spec (z : Int) (w : World) : Ret Tryz.prog 83 #[.int .u64 z] w (.agg (hsl (beginI z)).toArray) := by
  refine enter1 Tryz.func83 rfl Tryz.ntmps83 rfl ?_
  repeat (first|apply cA|apply cB|apply cD|apply cE|apply cF|apply cG|apply cH|apply cJ|apply cM|refine cQ rfl ?_|apply cU|refine cV rfl rfl rfl rfl (by first|(apply qb64<;>(first|exact rfl|assumption|exact Ar.mk (by omega)|exact dct (by first|assumption|omega)|exact dcf (by first|assumption|omega)|exact List.not_mem_nil|apply dc_length|exact nm1 (by omega)|fail))|(apply q64b<;>(first|exact rfl|assumption|exact Ar.mk (by omega)|exact dct (by first|assumption|omega)|exact dcf (by first|assumption|omega)|exact List.not_mem_nil|apply dc_length|exact nm1 (by omega)|fail))|((first|apply quxo|apply quor|apply qush|apply qusr|apply qmi|apply qid|apply qia0|apply qia|apply qmv|apply qas|apply qlc|apply qla|apply qnc|apply qls|apply qad)<;>(first|exact rfl|assumption|exact Ar.mk (by omega)|exact dct (by first|assumption|omega)|exact dcf (by first|assumption|omega)|exact List.not_mem_nil|apply dc_length|exact nm1 (by omega)|fail))|fail) ?_)
  refine SG.alloc rfl rfl rfl (fun b2 w1 hk1 hb2 hB2 => ?_)
  have hB2 : Blk w1 b2 (.cells (hsl ⟨0, 0, 0, 0⟩).toArray 136) := hB2
  repeat (first|apply cA|apply cB|apply cD|apply cE|apply cF|apply cG|apply cH|apply cJ|apply cM|refine cQ rfl ?_|apply cU|refine cV rfl rfl rfl rfl (by first|(apply qb64<;>(first|exact rfl|assumption|exact Ar.mk (by omega)|exact dct (by first|assumption|omega)|exact dcf (by first|assumption|omega)|exact List.not_mem_nil|apply dc_length|exact nm1 (by omega)|fail))|(apply q64b<;>(first|exact rfl|assumption|exact Ar.mk (by omega)|exact dct (by first|assumption|omega)|exact dcf (by first|assumption|omega)|exact List.not_mem_nil|apply dc_length|exact nm1 (by omega)|fail))|((first|apply quxo|apply quor|apply qush|apply qusr|apply qmi|apply qid|apply qia0|apply qia|apply qmv|apply qas|apply qlc|apply qla|apply qnc|apply qls|apply qad)<;>(first|exact rfl|assumption|exact Ar.mk (by omega)|exact dct (by first|assumption|omega)|exact dcf (by first|assumption|omega)|exact List.not_mem_nil|apply dc_length|exact nm1 (by omega)|fail))|fail) ?_)
  refine cV rfl rfl rfl rfl (vals_build rfl (fun w => bst w _ _ _ _)) ?_
  refine SG.setAll (old := hsl ⟨0, 0, 0, 0⟩) (l := hsl (beginI z)) rfl rfl (by exact rho_of rfl) (by exact rho_of rfl) hB2 rfl rfl rfl (fun w2 hk2 hB3 => ?_)
  have hr : Row w2 b2 0 (hsl (beginI z)) := Row.all hB3 rfl
  repeat (first|apply cA|apply cB|apply cD|apply cE|apply cF|apply cG|apply cH|apply cJ|apply cM|refine cQ rfl ?_|apply cU|refine cV rfl rfl rfl rfl (by first|(apply qb64<;>(first|exact rfl|assumption|exact Ar.mk (by omega)|exact dct (by first|assumption|omega)|exact dcf (by first|assumption|omega)|exact List.not_mem_nil|apply dc_length|exact nm1 (by omega)|fail))|(apply q64b<;>(first|exact rfl|assumption|exact Ar.mk (by omega)|exact dct (by first|assumption|omega)|exact dcf (by first|assumption|omega)|exact List.not_mem_nil|apply dc_length|exact nm1 (by omega)|fail))|((first|apply quxo|apply quor|apply qush|apply qusr|apply qmi|apply qid|apply qia0|apply qia|apply qmv|apply qas|apply qlc|apply qla|apply qnc|apply qls|apply qad)<;>(first|exact rfl|assumption|exact Ar.mk (by omega)|exact dct (by first|assumption|omega)|exact dcf (by first|assumption|omega)|exact List.not_mem_nil|apply dc_length|exact nm1 (by omega)|fail))|fail) ?_)
  refine ret1 (Or.inl rfl) Tryz.results83 (by first | exact ResV.tmp rfl | exact ResV.agg rfl rfl (by assumption) (by first | exact dc_length _ | exact nc_length _ | exact rc_length _ _ _ | exact ec_length _ | exact dl_length _ _ _ _ | rfl) | exact ResV.cell rfl rfl (by assumption)) ?_
  exact ⟨rfl, hk1.trans_new hk2 (new1 hb2)⟩
end Go.Proofs.YtgbgnlboogalgaaGreat
namespace Go.Proofs.YtgbgnlboogalgaaGreat
set_option linter.unusedVariables false
section
variable {P : Program} {S : List Nat} {w0 : World} {F : World → Prop} {L : Env} {d : Option Nat} {ty : TypeId} {pos : String} {af : Array Edge} {g : Option (Nat × Bool)}
/-- 's[j:m]', where j stands before the end of what there is room for. -/
theorem qfh {T E : TypeId} [u : Ut P T (.slice E)] {sz : Nat} [f : Sz P E sz] {x lo hi : Operand} {b off n c : Nat} {k k' : IntKind} {z z' : Int} {j m : Nat} (hx : ro L x = some (.slice (some ⟨b, off, none⟩) n c)) (hlo : ro L lo = some (.int k z)) (hhi : ro L hi = some (.int k' z')) (hz : z = (j : Int)) (hz' : z' = (m : Int)) (hj : Ar (j ≤ m ∧ m ≤ c ∧ j < c)) :
    Vals P S w0 F L ⟨d, .slice T x (some lo) (some hi) none, ty, pos, af, g⟩ (.slice (some ⟨b, off + j * sz, none⟩) (m - j) (c - j)) := fun w _ _ => by
  obtain ⟨i, h2, h3⟩ := f.eq
  obtain ⟨q1, q2, q3⟩ := hj.h
  subst h3
  subst hz
  subst hz'
  simp only [execOp, rho_of hx, Option.map_some, Option.map_none, rho_of hlo, rho_of hhi, Instr.sliceAt, Sem.run_bind, run_underlying u.eq, Result.andThen, Instr.slice, Instr.sliceBounds, Instr.sliceBound, asIntOf, Sem.run_pure]
  have h5 : (0 : Int) ≤ (m : Int) ∧ (m : Int) ≤ (c : Int) := ⟨by omega, by omega⟩
  simp only [h5, and_self, if_true, Sem.run_pure, Int.toNat_natCast]
  have h6 : (0 : Int) ≤ (j : Int) ∧ (j : Int) ≤ (m : Int) := ⟨by omega, by omega⟩
  simp only [h6, and_self, if_true, Sem.run_pure, sizeOf, typeInfo, Sem.run_bind, run_program, Result.andThen, h2]
  have hc : c ≠ j := by omega
  simp [hc, add_none]
/-- 's[j:]' of nothing. -/
theorem vals_fromN {T E : TypeId} [u : Ut P T (.slice E)] {sz : Nat} [f : Sz P E sz] {x lo : Operand} {n c : Nat} {k : IntKind} {j : Nat} (hx : ro L x = some (.slice none n c)) (hlo : ro L lo = some (.int k (j : Int))) (hj : j ≤ n) :
    Vals P S w0 F L ⟨d, .slice T x (some lo) none none, ty, pos, af, g⟩ (.slice none (n - j) (c - j)) := fun w _ _ => by
  obtain ⟨i, h2, h3⟩ := f.eq
  have h4 : (j : Int) ≤ n := by omega
  subst h3
  simp only [execOp, rho_of hx, Option.map_some, Option.map_none, rho_of hlo, Instr.sliceAt, Sem.run_bind, run_underlying u.eq, Result.andThen, Instr.slice, Instr.sliceBounds, Instr.sliceBound, asIntOf, Sem.run_pure]
  have h5 : (0 : Int) ≤ (j : Int) ∧ (j : Int) ≤ (n : Int) := ⟨by omega, h4⟩
  simp only [h5, and_self, if_true, Sem.run_pure, sizeOf, typeInfo, Sem.run_bind, run_program, Result.andThen, h2]
  simp
/-- An array where a slice begins. -/
theorem qsa {T E : TypeId} {n : Nat} [u : Ut P T (.array n E)] {x : Operand} {a : Addr} {m c : Nat} (hx : ro L x = some (.slice (some a) m c)) (h : Ar (n ≤ m)) :
    Vals P S w0 F L ⟨d, .sliceToArrayPointer T x, ty, pos, af, g⟩ (.pointer (some a)) := fun w _ _ => by
  have h1 := h.h
  simp [execOp, rho_of hx, Instr.arrayAt, run_underlying u.eq]
  intro h2
  omega
/-- All of an array. -/
theorem qaa {T E : TypeId} {n sz : Nat} [u : Ut P T (.array n E)] [f : Sz P E sz] {x : Operand} {b off : Nat} (hx : ro L x = some (.pointer (some ⟨b, off, none⟩))) :
    Vals P S w0 F L ⟨d, .slice T x none none none, ty, pos, af, g⟩ (.slice (some ⟨b, off, none⟩) n n) := fun w _ _ => by
  obtain ⟨i, h2, h3⟩ := f.eq
  subst h3
  simp only [execOp, rho_of hx, Option.map_none, Instr.sliceAt, Sem.run_bind, run_underlying u.eq, Result.andThen, Instr.sureAddr, Instr.sliceBounds, Sem.run_pure, sizeOf, typeInfo, run_program, h2]
  simp [Addr.add]
end
section
variable {P : Program} {n : Nat} {Q : Exit → Act → World → Prop} {L : Env} {w : World} {ops : List Oper} {rest : List Oper} {ty : TypeId} {pos : String} {af : Array Edge} {g : Option (Nat × Bool)}
/-- 'copy(a, s)' of cells into the front of a block; s is short enough. -/
theorem SG.copy {d : Nat} {t t2 e T' : TypeId} [u : Ut P t (.slice e)] [z : Sz P e 1] {s x : Operand} {b m c2 c0 : Nat} {a2 : Option Addr} {cs : Array Value} {news : List Value}
    (hd : Nat.blt d n = true) (hw : want ops L ⟨some d, .call { callee := .builtin .copy, args := #[s, x], argTypes := #[t, t2] }, ty, pos, af, g⟩ = some true) (hk : (known L s && known L x) = true)
    (hs : rho L s = .slice (some ⟨b, 0, none⟩) m c0) (hx : rho L x = .slice a2 news.length c2) (hB : Blk w b (.cells cs T')) (hm : news.length ≤ m) (hc : m ≤ cs.size) (hone : allOne news = true) (hS : ∀ b2 off, a2 = some ⟨b2, off, none⟩ → news ≠ [] → Row w b2 off news) (ha2 : news ≠ [] → ∃ b2 off, a2 = some ⟨b2, off, none⟩)
    (hno : a2 = none ∨ ∃ b2 off, a2 = some ⟨b2, off, none⟩)
    (h : ∀ w', Kp [b] w w' → Blk w' b (.cells (spl cs.toList 0 news).toArray T') → SG P n ops Q rest ((d, .int .i64 (news.length : Int)) :: L) w') : SG P n ops Q (⟨some d, .call { callee := .builtin .copy, args := #[s, x], argTypes := #[t, t2] }, ty, pos, af, g⟩ :: rest) L w := by
  refine SG.op (by simpa using hd) rfl hw (by simpa [Op.operands, Call.operands] using hk) ?_
  unfold OpRun
  obtain ⟨i, h2, h3⟩ := z.eq
  have hmin : Nat.min news.length m = news.length := Nat.min_eq_left hm
  have hload : (Builtin.firstCells i.size (Nat.min news.length m) (.slice a2 news.length c2)).run P w = .ok news.toArray w := by
    rw [hmin, h3]
    rcases hno with rfl | ⟨b2, off, rfl⟩
    · have : news = [] := by
        cases news with
        | nil => rfl
        | cons y l => obtain ⟨b2, off, e⟩ := ha2 (by simp); cases e
      subst this
      simp [Builtin.firstCells]
    · simp only [Builtin.firstCells, loadCells, Nat.mul_one]
      by_cases he : news = []
      · subst he
        simp [loadCellsFrom]
      · rw [run_loadCellsFrom (hS b2 off rfl he) news.length 0 _ (by omega)]
        simp
  have hst := run_storeCells (P := P) (b := b) (off := 0) (T := T') news 0 w cs hB (by simp; omega) hone
  have : (execOp (rho L) ⟨some d, .call { callee := .builtin .copy, args := #[s, x], argTypes := #[t, t2] }, ty, pos, af, g⟩).run P w = .ok (.value (.int .i64 (news.length : Int))) { w with heap := w.heap.setIfInBounds b (.cells (spl cs.toList 0 news).toArray T') } := by
    have hcopy : (Builtin.copy_ #[t, t2] ty #[.slice (some ⟨b, 0, none⟩) m c0, .slice a2 news.length c2]).run P w = .ok (.int .i64 (news.length : Int)) { w with heap := w.heap.setIfInBounds b (.cells (spl cs.toList 0 news).toArray T') } := by
      rw [hmin] at hload
      simp only [Nat.add_zero] at hst
      simp only [Builtin.copy_, List.getElem?_toArray, List.getElem?_cons_zero, List.getElem?_cons_succ, Sem.run_bind, run_underlying u.eq, Result.andThen_ok, sizeOf, typeInfo, run_program, h2, Builtin.lenOf, Sem.run_pure, hmin, hload, hst, goInt]
    simp only [execOp, resolve, invoke, builtin, Sem.run_bind, Sem.run_pure, Result.andThen_ok, List.map_toArray, List.map_cons, List.map_nil, hs, hx, hcopy]
  rw [this]
  exact h _ (Kp.set w hB rfl rfl) (hB.set _)
end
end Go.Proofs.YtgbgnlboogalgaaGreat
namespace Go.Proofs.YtgbgnlboogalgaaGreat
open Go.Proofs
set_option linter.unusedVariables false
/-- Bytes in memory. -/
abbrev by1 : UInt8 → List Value := fun u => [bv u]
theorem flt_by1 (l : List UInt8) : flt by1 l = l.map bv := by
  induction l with
  | nil => rfl
  | cons x l ih => simp [flt, by1] at ih ⊢; exact ih
theorem sl_row {w : World} {b off : Nat} {l : List UInt8} (h : Sl by1 1 w (some ⟨b, off, none⟩) l) (i m : Nat) (him : i + m ≤ l.length) (hm : 0 < m) : Row w b (off + i * 1) (((l.drop i).take m).map bv) := by
  have hS : Sl by1 1 w (some ⟨b, off + i * 1, none⟩) ((l.drop i).take m) := fun k x hx => by
    have hk : k < ((l.drop i).take m).length := (List.getElem?_eq_some_iff.1 hx).1
    have hk2 : k < m := by simp at hk; omega
    rw [List.getElem?_take_of_lt hk2, List.getElem?_drop] at hx
    refine ⟨b, off + i * 1, rfl, ?_⟩
    have := h.row hx
    rwa [show off + (i + k) * 1 = off + i * 1 + k * 1 from by omega] at this
  have hne : (l.drop i).take m ≠ [] := by
    intro e
    have : ((l.drop i).take m).length = 0 := by rw [e]; rfl
    simp at this
    omega
  have := Sl.flat (enc := by1) (fun _ => rfl) hne hS
  rwa [flt_by1] at this
theorem eights_step (s : Hs) : ∀ (i : Nat) (l : List UInt8), eightsI s l (i + 1) = takeI (eightsI s l i) (val ((l.drop (i * 8)).take 8) : Int) := by
  intro i
  induction i generalizing s with
  | zero => intro l; simp [eightsI]
  | succ i ih =>
    intro l
    rw [eightsI, ih, eightsI, List.drop_drop, show 8 + i * 8 = (i + 1) * 8 from by omega]
def d8 (l : List UInt8) (h : l.length = 8) : Dg := ⟨l, h⟩
attribute [local irreducible] CG NG SG Vals Der Row Blk MapIs IterAt addI xorI orI andI shlI shrI
set_option maxHeartbeats 8000000 in
theorem whole_spec {w : World} {b : Nat} {s : Hs} {a : Option Addr} {c : Nat} {l : List UInt8} (hB : Blk w b (.cells (hsl s).toArray 136)) (hS : Sl by1 1 w a l) (hab : ∀ b2 off, a = some ⟨b2, off, none⟩ → b2 ≠ b) (hl : l.length ≤ 1000000000) (hc : l.length ≤ c) :
    Calls Tryz.prog 97 #[.pointer (some ⟨b, 0, none⟩), .slice a l.length c] w (fun e w' => e = .returned (.tuple #[]) ∧ Kp [b] w w' ∧ Blk w' b (.cells (hsl (eightsI s l (l.length / 8))).toArray 136)) := by
  refine enter2 Tryz.func97 rfl Tryz.ntmps97 rfl ?_
  have ediv : (l.length : Int) / 8 = ((l.length / 8 : Nat) : Int) := by omega
  repeat (first|apply cA|apply cB|apply cD|apply cE|apply cF|apply cG|apply cH|apply cJ|apply cM|refine cQ rfl ?_|apply cU|refine cV rfl rfl rfl rfl (by first|(apply qi64<;>(first|exact rfl|assumption|exact Ar.mk (by omega)|exact dct (by first|assumption|omega)|exact dcf (by first|assumption|omega)|exact List.not_mem_nil|apply dc_length|exact nm1 (by omega)|fail))|((first|apply qmi|apply qqi|apply qia|apply qfh|apply qsa|apply qaa|apply qmv|apply qas|apply qla|apply qix|apply qls|apply qad|apply qln)<;>(first|exact rfl|assumption|exact Ar.mk (by omega)|exact dct (by first|assumption|omega)|exact dcf (by first|assumption|omega)|exact List.not_mem_nil|apply dc_length|exact nm1 (by omega)|fail))|fail) ?_)
  rw [ediv]
  refine CG.loop (X := Nat) (fun i => [(0, .pointer (some ⟨b, 0, none⟩)), (1, .slice a l.length c), (7, .int .i64 ((l.length / 8 : Nat) : Int)), (8, .int .i64 (i : Int))])
    (fun i w' => i ≤ l.length / 8 ∧ Kp [b] w w' ∧ Blk w' b (.cells (hsl (eightsI s l i)).toArray 136)) (fun i => l.length / 8 - i) 0 ⟨by omega, Kp.refl _ _, hB⟩ (by (repeat' (first | exact True.intro | exact rfl | refine And.intro ?_ ?_))) ?_
  rintro i w1 ⟨hi, hk1, hB1⟩
  by_cases hlt : i < l.length / 8
  · have g1 : (i : Int) < ((l.length / 8 : Nat) : Int) := by omega
    obtain ⟨b2, off, rfl, _⟩ := hS.at (i := i) (by omega)
    have hne := hab b2 off rfl
    have hr := sl_row (hS.kp hk1 (fun b3 off3 e => by cases e; exact nm1 hne)) (i * 8) 8 (by omega) (by omega)
    have h8 : ((l.drop (i * 8)).take 8).length = 8 := by simp; omega
    have hr : Row w1 b2 (off + i * 8 * 1) (dc (d8 _ h8)) := hr
    have ez : (i : Int) * 8 = ((i * 8 : Nat) : Int) := by omega
    have ez2 : ((i * 8 : Nat) : Int) + 8 = ((i * 8 + 8 : Nat) : Int) := by omega
    repeat (first|apply cA|apply cB|apply cD|apply cE|apply cF|apply cG|apply cH|apply cJ|apply cM|refine cQ rfl ?_|apply cU|refine cV rfl rfl rfl rfl (by first|(apply qi64<;>(first|exact rfl|assumption|exact Ar.mk (by omega)|exact dct (by first|assumption|omega)|exact dcf (by first|assumption|omega)|exact List.not_mem_nil|apply dc_length|exact nm1 (by omega)|fail))|((first|apply qmi|apply qqi|apply qia|apply qfh|apply qsa|apply qaa|apply qmv|apply qas|apply qla|apply qix|apply qls|apply qad|apply qln)<;>(first|exact rfl|assumption|exact Ar.mk (by omega)|exact dct (by first|assumption|omega)|exact dcf (by first|assumption|omega)|exact List.not_mem_nil|apply dc_length|exact nm1 (by omega)|fail))|fail) ?_)
    refine cZ rfl (by exact rho_of rfl) rfl ?_
    repeat (first|apply cA|apply cB|apply cD|apply cE|apply cF|apply cG|apply cH|apply cJ|apply cM|refine cQ rfl ?_|apply cU|refine cV rfl rfl rfl rfl (by first|(apply qi64<;>(first|exact rfl|assumption|exact Ar.mk (by omega)|exact dct (by first|assumption|omega)|exact dcf (by first|assumption|omega)|exact List.not_mem_nil|apply dc_length|exact nm1 (by omega)|fail))|((first|apply qmi|apply qqi|apply qia|apply qfh|apply qsa|apply qaa|apply qmv|apply qas|apply qla|apply qix|apply qls|apply qad|apply qln)<;>(first|exact rfl|assumption|exact Ar.mk (by omega)|exact dct (by first|assumption|omega)|exact dcf (by first|assumption|omega)|exact List.not_mem_nil|apply dc_length|exact nm1 (by omega)|fail))|fail) ?_)
    rw [ez]
    repeat (first|apply cA|apply cB|apply cD|apply cE|apply cF|apply cG|apply cH|apply cJ|apply cM|refine cQ rfl ?_|apply cU|refine cV rfl rfl rfl rfl (by first|(apply qi64<;>(first|exact rfl|assumption|exact Ar.mk (by omega)|exact dct (by first|assumption|omega)|exact dcf (by first|assumption|omega)|exact List.not_mem_nil|apply dc_length|exact nm1 (by omega)|fail))|((first|apply qmi|apply qqi|apply qia|apply qfh|apply qsa|apply qaa|apply qmv|apply qas|apply qla|apply qix|apply qls|apply qad|apply qln)<;>(first|exact rfl|assumption|exact Ar.mk (by omega)|exact dct (by first|assumption|omega)|exact dcf (by first|assumption|omega)|exact List.not_mem_nil|apply dc_length|exact nm1 (by omega)|fail))|fail) ?_)
    rw [ez2]
    repeat (first|apply cA|apply cB|apply cD|apply cE|apply cF|apply cG|apply cH|apply cJ|apply cM|refine cQ rfl ?_|apply cU|refine cV rfl rfl rfl rfl (by first|(apply qi64<;>(first|exact rfl|assumption|exact Ar.mk (by omega)|exact dct (by first|assumption|omega)|exact dcf (by first|assumption|omega)|exact List.not_mem_nil|apply dc_length|exact nm1 (by omega)|fail))|((first|apply qmi|apply qqi|apply qia|apply qfh|apply qsa|apply qaa|apply qmv|apply qas|apply qla|apply qix|apply qls|apply qad|apply qln)<;>(first|exact rfl|assumption|exact Ar.mk (by omega)|exact dct (by first|assumption|omega)|exact dcf (by first|assumption|omega)|exact List.not_mem_nil|apply dc_length|exact nm1 (by omega)|fail))|fail) ?_)
    refine SG.ret rfl rfl rfl (by repeat' (first | exact True.intro | exact rho_of rfl | refine And.intro ?_ ?_)) (num_spec (d8 _ h8) w1) (fun w2 hk2 => ?_)
    refine SG.call rfl rfl rfl (by repeat' (first | exact True.intro | exact rho_of rfl | refine And.intro ?_ ?_)) ((take_spec (hB1.kp0 hk2) _).mono (fun e w3 hh => ?_))
    obtain ⟨he, hk3, hB3⟩ := hh
    refine ⟨_, he, ?_⟩
    repeat (first|apply cA|apply cB|apply cD|apply cE|apply cF|apply cG|apply cH|apply cJ|apply cM|refine cQ rfl ?_|apply cU|refine cV rfl rfl rfl rfl (by first|(apply qi64<;>(first|exact rfl|assumption|exact Ar.mk (by omega)|exact dct (by first|assumption|omega)|exact dcf (by first|assumption|omega)|exact List.not_mem_nil|apply dc_length|exact nm1 (by omega)|fail))|((first|apply qmi|apply qqi|apply qia|apply qfh|apply qsa|apply qaa|apply qmv|apply qas|apply qla|apply qix|apply qls|apply qad|apply qln)<;>(first|exact rfl|assumption|exact Ar.mk (by omega)|exact dct (by first|assumption|omega)|exact dcf (by first|assumption|omega)|exact List.not_mem_nil|apply dc_length|exact nm1 (by omega)|fail))|fail) ?_)
    refine NG.round (i + 1) (by (repeat' (first | exact True.intro | exact rfl | refine And.intro ?_ ?_))) ⟨by omega, (hk1.trans hk2.any).trans hk3, ?_⟩ (by omega)
    rw [eights_step]
    exact hB3
  · have g1 : ¬ (i : Int) < ((l.length / 8 : Nat) : Int) := by omega
    have e8 : i = l.length / 8 := by omega
    subst e8
    repeat (first|apply cA|apply cB|apply cD|apply cE|apply cF|apply cG|apply cH|apply cJ|apply cM|refine cQ rfl ?_|apply cU|refine cV rfl rfl rfl rfl (by first|(apply qi64<;>(first|exact rfl|assumption|exact Ar.mk (by omega)|exact dct (by first|assumption|omega)|exact dcf (by first|assumption|omega)|exact List.not_mem_nil|apply dc_length|exact nm1 (by omega)|fail))|((first|apply qmi|apply qqi|apply qia|apply qfh|apply qsa|apply qaa|apply qmv|apply qas|apply qla|apply qix|apply qls|apply qad|apply qln)<;>(first|exact rfl|assumption|exact Ar.mk (by omega)|exact dct (by first|assumption|omega)|exact dcf (by first|assumption|omega)|exact List.not_mem_nil|apply dc_length|exact nm1 (by omega)|fail))|fail) ?_)
    refine dA rfl (by exact rho_of rfl) rfl ?_
    repeat (first|apply cA|apply cB|apply cD|apply cE|apply cF|apply cG|apply cH|apply cJ|apply cM|refine cQ rfl ?_|apply cU|refine cV rfl rfl rfl rfl (by first|(apply qi64<;>(first|exact rfl|assumption|exact Ar.mk (by omega)|exact dct (by first|assumption|omega)|exact dcf (by first|assumption|omega)|exact List.not_mem_nil|apply dc_length|exact nm1 (by omega)|fail))|((first|apply qmi|apply qqi|apply qia|apply qfh|apply qsa|apply qaa|apply qmv|apply qas|apply qla|apply qix|apply qls|apply qad|apply qln)<;>(first|exact rfl|assumption|exact Ar.mk (by omega)|exact dct (by first|assumption|omega)|exact dcf (by first|assumption|omega)|exact List.not_mem_nil|apply dc_length|exact nm1 (by omega)|fail))|fail) ?_)
    refine ret0 (Or.inr rfl) Tryz.results97 ?_
    exact ⟨rfl, hk1, hB1⟩
/-- What is left, a one, nothing. -/
def padL (r : List UInt8) : List UInt8 := r ++ (1 :: List.replicate (7 - r.length) 0)
theorem pad_length {r : List UInt8} (h : r.length < 8) : (padL r).length = 8 := by simp [padL]; omega
theorem val_zeros : ∀ k, val (List.replicate k (0 : UInt8)) = 0
  | 0 => rfl
  | k + 1 => by rw [List.replicate_succ]; simp [val, val_zeros k]
theorem pad_val (r : List UInt8) : val (padL r) = val (r ++ [1]) := by
  unfold padL
  rw [show (1 : UInt8) :: List.replicate (7 - r.length) 0 = [1] ++ List.replicate (7 - r.length) 0 from rfl, ← List.append_assoc, val_append, val_zeros]
  simp
theorem cpy_eq {r : List UInt8} (h : r.length < 8) : spl (dc zd) 0 (r.map bv) = r.map bv ++ (bv 0 :: List.replicate (7 - r.length) (bv 0)) := by
  have e : dc zd = List.replicate 8 (bv 0) := rfl
  rw [e]
  simp only [spl, List.take_zero, List.nil_append, Nat.zero_add, List.length_map, List.drop_replicate]
  rw [show 8 - r.length = (7 - r.length) + 1 from by omega, List.replicate_succ]
theorem one_eq {r : List UInt8} : spl (r.map bv ++ (bv 0 :: List.replicate (7 - r.length) (bv 0))) r.length [bv 1] = (padL r).map bv := by
  have := spl_mid (pre := r.map bv) (old := [bv 0]) (post := List.replicate (7 - r.length) (bv 0)) (l := [bv 1]) rfl
  simp only [List.length_map] at this
  rw [show bv 0 :: List.replicate (7 - r.length) (bv 0) = [bv 0] ++ List.replicate (7 - r.length) (bv 0) from rfl, this]
  simp [padL]
def dpad (r : List UInt8) (h : r.length < 8) : Dg := ⟨padL r, pad_length h⟩
theorem allOne_bv (r : List UInt8) : allOne (r.map bv) = true := by simp [allOne, oneB]
set_option maxHeartbeats 8000000 in
theorem end_spec {w : World} {b : Nat} {s : Hs} {a : Option Addr} {c : Nat} {l : List UInt8} (hB : Blk w b (.cells (hsl s).toArray 136)) (hS : Sl by1 1 w a l) (ha : l = [] ∧ a = none ∨ ∃ b2 off, a = some ⟨b2, off, none⟩) (hab : ∀ b2 off, a = some ⟨b2, off, none⟩ → b2 ≠ b) (hl : l.length ≤ 1000000000) (hc : l.length ≤ c) :
    Calls Tryz.prog 98 #[.pointer (some ⟨b, 0, none⟩), .slice a l.length c] w (fun e w' => e = .returned (.tuple #[]) ∧ Kp [b] w w' ∧ Blk w' b (.cells (hsl (takeI (takeI s (val (l.drop (l.length / 8 * 8) ++ [1]) : Int)) (l.length : Int))).toArray 136)) := by
  refine enter2 Tryz.func98 rfl Tryz.ntmps98 rfl ?_
  have ediv : (l.length : Int) / 8 * 8 = ((l.length / 8 * 8 : Nat) : Int) := by omega
  generalize hr0 : l.drop (l.length / 8 * 8) = r
  have hrl : r.length = l.length - l.length / 8 * 8 := by rw [← hr0]; simp
  have hr8 : r.length < 8 := by omega
  have hlb := hB.lt
  repeat (first|apply cA|apply cB|apply cD|apply cE|apply cF|apply cG|apply cH|apply cJ|apply cM|refine cQ rfl ?_|apply cU|refine cV rfl rfl rfl rfl (by first|(apply qi64<;>(first|exact rfl|assumption|exact Ar.mk (by omega)|exact dct (by first|assumption|omega)|exact dcf (by first|assumption|omega)|exact List.not_mem_nil|apply dc_length|exact nm1 (by omega)|fail))|((first|apply qmi|apply qqi|apply qia|apply qfh|apply qsa|apply qaa|apply qmv|apply qas|apply qla|apply qix|apply qls|apply qad|apply qln)<;>(first|exact rfl|assumption|exact Ar.mk (by omega)|exact dct (by first|assumption|omega)|exact dcf (by first|assumption|omega)|exact List.not_mem_nil|apply dc_length|exact nm1 (by omega)|fail))|fail) ?_)
  refine SG.alloc rfl rfl rfl (fun b4 w1 hk1 hb4 hB4 => ?_)
  have hB4 : Blk w1 b4 (.cells (dc zd).toArray 38) := hB4
  repeat (first|apply cA|apply cB|apply cD|apply cE|apply cF|apply cG|apply cH|apply cJ|apply cM|refine cQ rfl ?_|apply cU|refine cV rfl rfl rfl rfl (by first|(apply qi64<;>(first|exact rfl|assumption|exact Ar.mk (by omega)|exact dct (by first|assumption|omega)|exact dcf (by first|assumption|omega)|exact List.not_mem_nil|apply dc_length|exact nm1 (by omega)|fail))|((first|apply qmi|apply qqi|apply qia|apply qfh|apply qsa|apply qaa|apply qmv|apply qas|apply qla|apply qix|apply qls|apply qad|apply qln)<;>(first|exact rfl|assumption|exact Ar.mk (by omega)|exact dct (by first|assumption|omega)|exact dcf (by first|assumption|omega)|exact List.not_mem_nil|apply dc_length|exact nm1 (by omega)|fail))|fail) ?_)
  refine CG.tail mixed 7 [0, 1, 2, 3, 4, 5, 6] (by kernel_rfl) ?_
  repeat (refine cY rfl rfl rfl (by first|(apply qi64<;>(first|exact rfl|assumption|exact Ar.mk (by omega)|exact dct (by first|assumption|omega)|exact dcf (by first|assumption|omega)|exact List.not_mem_nil|apply dc_length|exact nm1 (by omega)|fail))|((first|apply qmi|apply qqi|apply qia|apply qfh|apply qsa|apply qaa|apply qmv|apply qas|apply qla|apply qix|apply qls|apply qad|apply qln)<;>(first|exact rfl|assumption|exact Ar.mk (by omega)|exact dct (by first|assumption|omega)|exact dcf (by first|assumption|omega)|exact List.not_mem_nil|apply dc_length|exact nm1 (by omega)|fail))|fail) ?_)
  rw [ediv]
  have hA : ∃ a2 c2, (∀ w', Kp [] w w' → ∀ b2 off, a2 = some ⟨b2, off, none⟩ → r.map bv ≠ [] → Row w' b2 off (r.map bv)) ∧ (r ≠ [] → ∃ b2 off, a2 = some ⟨b2, off, none⟩) ∧ (a2 = none ∨ ∃ b2 off, a2 = some (⟨b2, off, none⟩ : Addr)) ∧
      (∀ (S : List Nat) (w0 : World) (F : World → Prop) (L : Env) (pos : String) (af : Array Edge), ro L (.tmp 7) = some (.slice a l.length c) → ro L (.tmp 11) = some (.int .i64 ((l.length / 8 * 8 : Nat) : Int)) → Vals Tryz.prog S w0 F L ⟨some 12, .slice 23 (.tmp 7) (some (.tmp 11)) none none, 23, pos, af, none⟩ (.slice a2 r.length c2)) := by
    rcases ha with ⟨rfl, rfl⟩ | ⟨b2, off, rfl⟩
    · have hrn : r = [] := by rw [← hr0]; rfl
      subst hrn
      exact ⟨none, c, fun _ _ _ _ e => absurd e (by simp), fun h => absurd rfl h, Or.inl rfl, fun S w0 F L pos af h1 h2 => vals_fromN (j := 0) h1 h2 (Nat.le_refl _)⟩
    · refine ⟨some ⟨b2, if c = l.length / 8 * 8 then off else off + l.length / 8 * 8 * 1, none⟩, c - l.length / 8 * 8, fun w' hk b3 off3 e hne => ?_, fun _ => ⟨_, _, rfl⟩, Or.inr ⟨_, _, rfl⟩, fun S w0 F L pos af h1 h2 => ?_⟩
      · simp only [Option.some.injEq, Addr.mk.injEq, and_true] at e
        obtain ⟨rfl, rfl⟩ := e
        have hpos : 0 < r.length := by
          cases r with
          | nil => exact absurd rfl hne
          | cons x r => simp
        rw [if_neg (by omega)]
        have := sl_row (hS.kp0 hk) (l.length / 8 * 8) r.length (by omega) hpos
        rwa [hr0, List.take_of_length_le (Nat.le_refl _)] at this
      · rw [hrl]
        exact vals_from (j := l.length / 8 * 8) (rho_of h1) (rho_of h2) (by omega)
  obtain ⟨a2, c2, hA1, hA2, hA3, hA4⟩ := hA
  refine cY rfl rfl rfl (hA4 _ _ _ _ _ _ rfl rfl) ?_
  refine Der.tl (fun w2 hk2 _ _ => ?_)
  refine SG.copy (m := 8) (news := r.map bv) rfl rfl rfl (by exact rho_of rfl) (by rw [List.length_map]; exact rho_of rfl) (hB4.kp0 hk2) (by rw [List.length_map]; omega) (by simp [dc_length]) (allOne_bv r) (hA1 w2 (hk1.trans hk2)) (fun h => hA2 (fun e => h (by rw [e]; rfl))) hA3 (fun w3 hk3 hB3 => ?_)
  have hB3 : Blk w3 b4 (.cells (spl (dc zd) 0 (r.map bv)).toArray 38) := hB3
  rw [cpy_eq hr8] at hB3
  rw [List.length_map]
  repeat (first|apply cA|apply cB|apply cD|apply cE|apply cF|apply cG|apply cH|apply cJ|apply cM|refine cQ rfl ?_|apply cU|refine cV rfl rfl rfl rfl (by first|(apply qi64<;>(first|exact rfl|assumption|exact Ar.mk (by omega)|exact dct (by first|assumption|omega)|exact dcf (by first|assumption|omega)|exact List.not_mem_nil|apply dc_length|exact nm1 (by omega)|fail))|((first|apply qmi|apply qqi|apply qia|apply qfh|apply qsa|apply qaa|apply qmv|apply qas|apply qla|apply qix|apply qls|apply qad|apply qln)<;>(first|exact rfl|assumption|exact Ar.mk (by omega)|exact dct (by first|assumption|omega)|exact dcf (by first|assumption|omega)|exact List.not_mem_nil|apply dc_length|exact nm1 (by omega)|fail))|fail) ?_)
  refine SG.store rfl rfl (by exact rho_of rfl) (by exact rho_of rfl) hB3 rfl (by show 0 + r.length * 1 + 1 ≤ _; simp) rfl (fun w4 hk4 hB5 => ?_)
  have hB5 : Blk w4 b4 (.cells (spl (r.map bv ++ (bv 0 :: List.replicate (7 - r.length) (bv 0))) (0 + r.length * 1) [bv 1]).toArray 38) := hB5
  rw [show 0 + r.length * 1 = r.length from by omega, one_eq] at hB5
  have hrow : Row w4 b4 0 (dc (dpad r hr8)) := Row.all hB5 rfl
  repeat (first|apply cA|apply cB|apply cD|apply cE|apply cF|apply cG|apply cH|apply cJ|apply cM|refine cQ rfl ?_|apply cU|refine cV rfl rfl rfl rfl (by first|(apply qi64<;>(first|exact rfl|assumption|exact Ar.mk (by omega)|exact dct (by first|assumption|omega)|exact dcf (by first|assumption|omega)|exact List.not_mem_nil|apply dc_length|exact nm1 (by omega)|fail))|((first|apply qmi|apply qqi|apply qia|apply qfh|apply qsa|apply qaa|apply qmv|apply qas|apply qla|apply qix|apply qls|apply qad|apply qln)<;>(first|exact rfl|assumption|exact Ar.mk (by omega)|exact dct (by first|assumption|omega)|exact dcf (by first|assumption|omega)|exact List.not_mem_nil|apply dc_length|exact nm1 (by omega)|fail))|fail) ?_)
  refine SG.ret rfl rfl rfl (by repeat' (first | exact True.intro | exact rho_of rfl | refine And.intro ?_ ?_)) (num_spec (dpad r hr8) w4) (fun w5 hk5 => ?_)
  have hBb : Blk w5 b (.cells (hsl s).toArray 136) := ((((hB.kp0 hk1).kp0 hk2).kp hk3 (nm1 (by omega))).kp hk4 (nm1 (by omega))).kp0 hk5
  refine SG.call rfl rfl rfl (by repeat' (first | exact True.intro | exact rho_of rfl | refine And.intro ?_ ?_)) ((take_spec hBb _).mono (fun e w6 hh => ?_))
  obtain ⟨he, hk6, hB6⟩ := hh
  refine ⟨_, he, ?_⟩
  repeat (first|apply cA|apply cB|apply cD|apply cE|apply cF|apply cG|apply cH|apply cJ|apply cM|refine cQ rfl ?_|apply cU|refine cV rfl rfl rfl rfl (by first|(apply qi64<;>(first|exact rfl|assumption|exact Ar.mk (by omega)|exact dct (by first|assumption|omega)|exact dcf (by first|assumption|omega)|exact List.not_mem_nil|apply dc_length|exact nm1 (by omega)|fail))|((first|apply qmi|apply qqi|apply qia|apply qfh|apply qsa|apply qaa|apply qmv|apply qas|apply qla|apply qix|apply qls|apply qad|apply qln)<;>(first|exact rfl|assumption|exact Ar.mk (by omega)|exact dct (by first|assumption|omega)|exact dcf (by first|assumption|omega)|exact List.not_mem_nil|apply dc_length|exact nm1 (by omega)|fail))|fail) ?_)
  refine SG.call rfl rfl rfl (by repeat' (first | exact True.intro | exact rho_of rfl | refine And.intro ?_ ?_)) ((take_spec hB6 _).mono (fun e w7 hh => ?_))
  obtain ⟨he, hk7, hB7⟩ := hh
  refine ⟨_, he, ?_⟩
  repeat (first|apply cA|apply cB|apply cD|apply cE|apply cF|apply cG|apply cH|apply cJ|apply cM|refine cQ rfl ?_|apply cU|refine cV rfl rfl rfl rfl (by first|(apply qi64<;>(first|exact rfl|assumption|exact Ar.mk (by omega)|exact dct (by first|assumption|omega)|exact dcf (by first|assumption|omega)|exact List.not_mem_nil|apply dc_length|exact nm1 (by omega)|fail))|((first|apply qmi|apply qqi|apply qia|apply qfh|apply qsa|apply qaa|apply qmv|apply qas|apply qla|apply qix|apply qls|apply qad|apply qln)<;>(first|exact rfl|assumption|exact Ar.mk (by omega)|exact dct (by first|assumption|omega)|exact dcf (by first|assumption|omega)|exact List.not_mem_nil|apply dc_length|exact nm1 (by omega)|fail))|fail) ?_)
  refine ret0 (Or.inr rfl) Tryz.results98 ?_
  have hnum : num (dpad r hr8) = val (r ++ [1]) := pad_val r
  rw [hnum] at hB7
  have k4 : Kp [] w w4 := ((hk1.trans hk2).trans_new hk3 (new1 hb4)).trans_new hk4 (new1 hb4)
  exact ⟨rfl, ((k4.trans hk5).any.trans hk6).trans hk7, hB7⟩
set_option maxHeartbeats 8000000 in
theorem bytes_spec {w : World} {b : Nat} {s : Hs} {a : Option Addr} {c : Nat} {l : List UInt8} (hB : Blk w b (.cells (hsl s).toArray 136)) (hS : Sl by1 1 w a l) (ha : l = [] ∧ a = none ∨ ∃ b2 off, a = some ⟨b2, off, none⟩) (hab : ∀ b2 off, a = some ⟨b2, off, none⟩ → b2 ≠ b) (hl : l.length ≤ 1000000000) (hc : l.length ≤ c) :
    Calls Tryz.prog 84 #[.pointer (some ⟨b, 0, none⟩), .slice a l.length c] w (fun e w' => e = .returned (.tuple #[]) ∧ Kp [b] w w' ∧ Blk w' b (.cells (hsl (bytesI s l)).toArray 136)) := by
  refine enter2 Tryz.func84 rfl Tryz.ntmps84 rfl ?_
  repeat (first|apply cA|apply cB|apply cD|apply cE|apply cF|apply cG|apply cH|apply cJ|apply cM|refine cQ rfl ?_|apply cU|refine cV rfl rfl rfl rfl (by first|(apply qi64<;>(first|exact rfl|assumption|exact Ar.mk (by omega)|exact dct (by first|assumption|omega)|exact dcf (by first|assumption|omega)|exact List.not_mem_nil|apply dc_length|exact nm1 (by omega)|fail))|((first|apply qmi|apply qqi|apply qia|apply qfh|apply qsa|apply qaa|apply qmv|apply qas|apply qla|apply qix|apply qls|apply qad|apply qln)<;>(first|exact rfl|assumption|exact Ar.mk (by omega)|exact dct (by first|assumption|omega)|exact dcf (by first|assumption|omega)|exact List.not_mem_nil|apply dc_length|exact nm1 (by omega)|fail))|fail) ?_)
  refine SG.call rfl rfl rfl (by repeat' (first | exact True.intro | exact rho_of rfl | refine And.intro ?_ ?_)) ((whole_spec hB hS hab hl hc).mono (fun e w1 hh => ?_))
  obtain ⟨he, hk1, hB1⟩ := hh
  refine ⟨_, he, ?_⟩
  repeat (first|apply cA|apply cB|apply cD|apply cE|apply cF|apply cG|apply cH|apply cJ|apply cM|refine cQ rfl ?_|apply cU|refine cV rfl rfl rfl rfl (by first|(apply qi64<;>(first|exact rfl|assumption|exact Ar.mk (by omega)|exact dct (by first|assumption|omega)|exact dcf (by first|assumption|omega)|exact List.not_mem_nil|apply dc_length|exact nm1 (by omega)|fail))|((first|apply qmi|apply qqi|apply qia|apply qfh|apply qsa|apply qaa|apply qmv|apply qas|apply qla|apply qix|apply qls|apply qad|apply qln)<;>(first|exact rfl|assumption|exact Ar.mk (by omega)|exact dct (by first|assumption|omega)|exact dcf (by first|assumption|omega)|exact List.not_mem_nil|apply dc_length|exact nm1 (by omega)|fail))|fail) ?_)
  refine SG.call rfl rfl rfl (by repeat' (first | exact True.intro | exact rho_of rfl | refine And.intro ?_ ?_)) ((end_spec hB1 (hS.kp hk1 (fun b2 off e => nm1 (hab b2 off e))) ha hab hl hc).mono (fun e w2 hh => ?_))
  obtain ⟨he, hk2, hB2⟩ := hh
  refine ⟨_, he, ?_⟩
  repeat (first|apply cA|apply cB|apply cD|apply cE|apply cF|apply cG|apply cH|apply cJ|apply cM|refine cQ rfl ?_|apply cU|refine cV rfl rfl rfl rfl (by first|(apply qi64<;>(first|exact rfl|assumption|exact Ar.mk (by omega)|exact dct (by first|assumption|omega)|exact dcf (by first|assumption|omega)|exact List.not_mem_nil|apply dc_length|exact nm1 (by omega)|fail))|((first|apply qmi|apply qqi|apply qia|apply qfh|apply qsa|apply qaa|apply qmv|apply qas|apply qla|apply qix|apply qls|apply qad|apply qln)<;>(first|exact rfl|assumption|exact Ar.mk (by omega)|exact dct (by first|assumption|omega)|exact dcf (by first|assumption|omega)|exact List.not_mem_nil|apply dc_length|exact nm1 (by omega)|fail))|fail) ?_)
  refine ret0 (Or.inr rfl) Tryz.results84 ?_
  exact ⟨rfl, hk1.trans hk2, hB2⟩
set_option maxHeartbeats 8000000 in
theorem of_spec {w : World} {a : Option Addr} {c : Nat} {l : List UInt8} (hS : Sl by1 1 w a l) (ha : l = [] ∧ a = none ∨ ∃ b2 off, a = some ⟨b2, off, none⟩) (hab : ∀ b2 off, a = some ⟨b2, off, none⟩ → b2 < w.heap.size) (hl : l.length ≤ 1000000000) (hc : l.length ≤ c) :
    Ret Tryz.prog 63 #[.slice a l.length c] w (dv (ofI l)) := by
  refine enter1 Tryz.func63 rfl Tryz.ntmps63 rfl ?_
  repeat (first|apply cA|apply cB|apply cD|apply cE|apply cF|apply cG|apply cH|apply cJ|apply cM|refine cQ rfl ?_|apply cU|refine cV rfl rfl rfl rfl (by first|(apply qi64<;>(first|exact rfl|assumption|exact Ar.mk (by omega)|exact dct (by first|assumption|omega)|exact dcf (by first|assumption|omega)|exact List.not_mem_nil|apply dc_length|exact nm1 (by omega)|fail))|((first|apply qmi|apply qqi|apply qia|apply qfh|apply qsa|apply qaa|apply qmv|apply qas|apply qla|apply qix|apply qls|apply qad|apply qln)<;>(first|exact rfl|assumption|exact Ar.mk (by omega)|exact dct (by first|assumption|omega)|exact dcf (by first|assumption|omega)|exact List.not_mem_nil|apply dc_length|exact nm1 (by omega)|fail))|fail) ?_)
  refine SG.alloc rfl rfl rfl (fun b2 w1 hk1 hb2 hB2 => ?_)
  have hB2 : Blk w1 b2 (.cells (dc zd).toArray 38) := hB2
  have hl2 := hB2.lt
  repeat (first|apply cA|apply cB|apply cD|apply cE|apply cF|apply cG|apply cH|apply cJ|apply cM|refine cQ rfl ?_|apply cU|refine cV rfl rfl rfl rfl (by first|(apply qi64<;>(first|exact rfl|assumption|exact Ar.mk (by omega)|exact dct (by first|assumption|omega)|exact dcf (by first|assumption|omega)|exact List.not_mem_nil|apply dc_length|exact nm1 (by omega)|fail))|((first|apply qmi|apply qqi|apply qia|apply qfh|apply qsa|apply qaa|apply qmv|apply qas|apply qla|apply qix|apply qls|apply qad|apply qln)<;>(first|exact rfl|assumption|exact Ar.mk (by omega)|exact dct (by first|assumption|omega)|exact dcf (by first|assumption|omega)|exact List.not_mem_nil|apply dc_length|exact nm1 (by omega)|fail))|fail) ?_)
  refine SG.ret rfl rfl rfl (by repeat' (first | exact True.intro | exact rho_of rfl | refine And.intro ?_ ?_)) (begin_spec 1 w1) (fun w2 hk2 => ?_)
  refine SG.alloc rfl rfl rfl (fun b3 w3 hk3 hb3 hB3 => ?_)
  have hB3 : Blk w3 b3 (.cells (hsl ⟨0, 0, 0, 0⟩).toArray 136) := hB3
  refine SG.setAll (old := hsl ⟨0, 0, 0, 0⟩) (l := hsl (beginI 1)) rfl rfl (by exact rho_of rfl) (by exact rho_of rfl) hB3 rfl rfl rfl (fun w4 hk4 hB4 => ?_)
  have s1 := hk1.size
  have s2 := hk2.size
  have s3 := hk3.size
  have k3 : Kp [] w w3 := (hk1.trans hk2).trans hk3
  have k4 : Kp [] w w4 := k3.trans_new hk4 (new1 (by omega))
  repeat (first|apply cA|apply cB|apply cD|apply cE|apply cF|apply cG|apply cH|apply cJ|apply cM|refine cQ rfl ?_|apply cU|refine cV rfl rfl rfl rfl (by first|(apply qi64<;>(first|exact rfl|assumption|exact Ar.mk (by omega)|exact dct (by first|assumption|omega)|exact dcf (by first|assumption|omega)|exact List.not_mem_nil|apply dc_length|exact nm1 (by omega)|fail))|((first|apply qmi|apply qqi|apply qia|apply qfh|apply qsa|apply qaa|apply qmv|apply qas|apply qla|apply qix|apply qls|apply qad|apply qln)<;>(first|exact rfl|assumption|exact Ar.mk (by omega)|exact dct (by first|assumption|omega)|exact dcf (by first|assumption|omega)|exact List.not_mem_nil|apply dc_length|exact nm1 (by omega)|fail))|fail) ?_)
  refine SG.call rfl rfl rfl (by repeat' (first | exact True.intro | exact rho_of rfl | refine And.intro ?_ ?_)) ((bytes_spec hB4 (hS.kp0 k4) ha (fun b5 off e => by have := hab b5 off e; omega) hl hc).mono (fun e w5 hh => ?_))
  obtain ⟨he, hk5, hB5⟩ := hh
  refine ⟨_, he, ?_⟩
  repeat (first|apply cA|apply cB|apply cD|apply cE|apply cF|apply cG|apply cH|apply cJ|apply cM|refine cQ rfl ?_|apply cU|refine cV rfl rfl rfl rfl (by first|(apply qi64<;>(first|exact rfl|assumption|exact Ar.mk (by omega)|exact dct (by first|assumption|omega)|exact dcf (by first|assumption|omega)|exact List.not_mem_nil|apply dc_length|exact nm1 (by omega)|fail))|((first|apply qmi|apply qqi|apply qia|apply qfh|apply qsa|apply qaa|apply qmv|apply qas|apply qla|apply qix|apply qls|apply qad|apply qln)<;>(first|exact rfl|assumption|exact Ar.mk (by omega)|exact dct (by first|assumption|omega)|exact dcf (by first|assumption|omega)|exact List.not_mem_nil|apply dc_length|exact nm1 (by omega)|fail))|fail) ?_)
  refine SG.ret rfl rfl rfl (by repeat' (first | exact True.intro | exact rho_of rfl | refine And.intro ?_ ?_)) (gives_spec hB5) (fun w6 hk6 => ?_)
  refine SG.setAll (old := dc zd) (l := dc (ofI l)) rfl rfl (by exact rho_of rfl) (by exact rho_of rfl) (((((hB2.kp0 hk2).kp0 hk3).kp hk4 (nm1 (by omega))).kp hk5 (nm1 (by omega))).kp0 hk6) (dc_length _) (dc_length _) (dc_one _) (fun w7 hk7 hB7 => ?_)
  have hr4 : Row w7 b2 0 (dc (ofI l)) := Row.all hB7 rfl
  repeat (first|apply cA|apply cB|apply cD|apply cE|apply cF|apply cG|apply cH|apply cJ|apply cM|refine cQ rfl ?_|apply cU|refine cV rfl rfl rfl rfl (by first|(apply qi64<;>(first|exact rfl|assumption|exact Ar.mk (by omega)|exact dct (by first|assumption|omega)|exact dcf (by first|assumption|omega)|exact List.not_mem_nil|apply dc_length|exact nm1 (by omega)|fail))|((first|apply qmi|apply qqi|apply qia|apply qfh|apply qsa|apply qaa|apply qmv|apply qas|apply qla|apply qix|apply qls|apply qad|apply qln)<;>(first|exact rfl|assumption|exact Ar.mk (by omega)|exact dct (by first|assumption|omega)|exact dcf (by first|assumption|omega)|exact List.not_mem_nil|apply dc_length|exact nm1 (by omega)|fail))|fail) ?_)
  refine ret1 (Or.inl rfl) Tryz.results63 (by first | exact ResV.tmp rfl | exact ResV.agg rfl rfl (by assumption) (by first | exact dc_length _ | exact nc_length _ | exact rc_length _ _ _ | exact ec_length _ | exact dl_length _ _ _ _ | rfl) | exact ResV.cell rfl rfl (by assumption)) ?_
  exact ⟨rfl, ((k4.trans_new hk5 (new1 (by omega))).trans hk6).trans_new hk7 (new1 hb2)⟩
end Go.Proofs.YtgbgnlboogalgaaGreat
namespace Go.Proofs.YtgbgnlboogalgaaGreat
set_option linter.unusedVariables false
section
variable {P : Program} {n : Nat} {ops : List Oper} {Q : Exit → Act → World → Prop} {w : World} {L : Env} {ty : TypeId} {pos : String} {af : Array Edge} {g : Option (Nat × Bool)} {rest : List Oper}
theorem SG.appendW {base : Nat} {t e : TypeId} {i : TypeInfo} [u : Ut P t (.slice e)] [f : Inf P e i] {z : Value} {d : Nat} {s x : Operand} {v : Value} {nn : Nat} {xs : List Value} {b off m c : Nat} {news : List Value}
    (hd : Nat.blt d n = true) (hw : want ops L ⟨some d, .call { callee := .builtin .append, args := #[s, x], argTypes := #[t, t] }, ty, pos, af, g⟩ = some true) (hk : (known L s && known L x) = true)
    (hs : rho L s = v) (hx : rho L x = .slice (some ⟨b, off, none⟩) m c) (hz : i.zero = some z) (hzs : Nat.beq z.cells.size i.size = true) (hsz : Nat.blt 0 i.size = true) (hown : w.ownsRow base e i.size v nn xs) (hr : Row w b off news) (hl : news.length = m * i.size) (h1 : allOne news = true)
    (h63 : nn + m ≤ maxLen) (hbytes : (nn + m) * i.bytes ≤ 140737488355328) (hbase : base ≤ w.heap.size)
    (h : ∀ v' w', Kp (ownB v) w w' → w'.ownsRow base e i.size v' (nn + m) (xs ++ news) → (∀ g, v'.ownBlock = some g → v.ownBlock = some g ∨ g = w.heap.size) → SG P n ops Q rest ((d, v') :: L) w') : SG P n ops Q (⟨some d, .call { callee := .builtin .append, args := #[s, x], argTypes := #[t, t] }, ty, pos, af, g⟩ :: rest) L w := by
  refine SG.op (by simpa using hd) rfl hw (by simpa [Op.operands, Call.operands] using hk) ?_
  unfold OpRun
  obtain ⟨v', w', h2, h3, h4⟩ := run_append (P := P) (ty := ty) (d := .bool) (c := c) (u := u) (f := f) hz (Nat.eq_of_beq_eq_true hzs) (by simpa [Nat.blt_eq] using hsz) hown hl hr h1 h63 hbytes hbase
  have : (execOp (rho L) ⟨some d, .call { callee := .builtin .append, args := #[s, x], argTypes := #[t, t] }, ty, pos, af, g⟩).run P w = .ok (.value v') w' := by
    simp only [execOp, resolve, invoke, builtin, Sem.run_bind, Sem.run_pure, Result.andThen_ok, List.map_toArray, List.map_cons, List.map_nil, hs, hx, h2]
  rw [this]
  exact h v' w' h4 h3 (append_where (u := u) (f := f) hz hown hl hr h1 h63 hbytes h2)
end
/-- Two owned rows lie apart. -/
def Apart (v o : Value) : Prop := ∀ b, v.ownBlock = some b → o.ownBlock ≠ some b
theorem own_apart {w w' : World} {base n sz : Nat} {T : TypeId} {v o : Value} {xs : List Value} (h : Apart v o) (ho : w.ownsRow base T sz o n xs) (hk : Kp (ownB v) w w') : w'.ownsRow base T sz o n xs := own_kp ho hk (fun b hb hm => by
  unfold ownB at hm
  cases hv : v.ownBlock with
  | none => rw [hv] at hm; cases hm
  | some z =>
    rw [hv, List.mem_singleton] at hm
    subst hm
    exact h _ hv hb)
end Go.Proofs.YtgbgnlboogalgaaGreat
namespace Go.Proofs.YtgbgnlboogalgaaGreat
set_option linter.unusedVariables false
/-- A string. -/
def sv (l : List UInt8) : Value := .string ⟨l.toArray⟩
section
variable {P : Program} {S : List Nat} {w0 : World} {F : World → Prop} {L : Env} {d : Option Nat} {ty : TypeId} {pos : String} {af : Array Edge} {g : Option (Nat × Bool)}
theorem vals_bs {T T' E : TypeId} [u : Ut P T (.slice E)] [e : Ut P E (.int .u8)] [t : Ut P T' .string] {x : Operand} {a : Option Addr} {c : Nat} {l : List UInt8} (hx : rho L x = .slice a l.length c) (hS : Sl (fun u : UInt8 => [bv u]) 1 w0 a l) (hb : ∀ b off, a = some ⟨b, off, none⟩ → b ∉ S) :
    Vals P S w0 F L ⟨d, .convert T T' x, ty, pos, af, g⟩ (sv l) := fun w hk _ => by
  have hS' := hS.kp hk (fun b off e hm => hb b off e hm)
  have hrun : (convert T T' (.slice a l.length c)).run P w = .ok (sv l) w := by
    cases a with
    | none =>
      have hl : l = [] := by
        cases l with
        | nil => rfl
        | cons y l =>
          obtain ⟨b, off, e, _⟩ := hS 0 y rfl
          cases e
      subst hl
      rw [run_convert_bytes_string w T T' E none _ c u.eq e.eq t.eq]
      rfl
    | some ad =>
      refine run_convert_bytes_back w T T' E ad c l u.eq e.eq t.eq (fun j hj => ?_)
      obtain ⟨b, off, e1, hr⟩ := hS' j l[j] (List.getElem?_eq_getElem hj)
      cases e1
      have := hr.cell (i := 0) (v := bv l[j]) rfl
      rw [add_none]
      simpa [Nat.mul_one] using this
  simp only [execOp, hx, Sem.run_bind, hrun, Result.andThen, Sem.run_pure]
theorem vals_eqs {T T' : TypeId} {x y : Operand} {a b : List UInt8} (hx : rho L x = sv a) (hy : rho L y = sv b) : Vals P S w0 F L ⟨d, .binOp .eql T x y T', ty, pos, af, g⟩ (.bool (decide (a = b))) := fun w _ _ => by
  simp only [sv] at hx hy
  simp [execOp, hx, hy, eqGuard, binOp_string_eql]
  by_cases h : a = b <;> simp [h]
theorem qbs {T T' E : TypeId} [u : Ut P T (.slice E)] [e : Ut P E (.int .u8)] [t : Ut P T' .string] {x : Operand} {a : Option Addr} {c n : Nat} {l : List UInt8} (hx : ro L x = some (.slice a n c)) (hS : Sl (fun u : UInt8 => [bv u]) 1 w0 a l) (hn : n = l.length) (hb : ∀ b off, a = some ⟨b, off, none⟩ → b ∉ S) :
    Vals P S w0 F L ⟨d, .convert T T' x, ty, pos, af, g⟩ (sv l) := by
  subst hn
  exact vals_bs (u := u) (e := e) (t := t) (rho_of hx) hS hb
theorem qes {T T' : TypeId} {x y : Operand} {a b : List UInt8} {c : Bool} (hx : ro L x = some (sv a)) (hy : ro L y = some (sv b)) (h : Dc (a = b) c) : Vals P S w0 F L ⟨d, .binOp .eql T x y T', ty, pos, af, g⟩ (.bool c) := h.eq ▸ vals_eqs (rho_of hx) (rho_of hy)
end
end Go.Proofs.YtgbgnlboogalgaaGreat
namespace Go.Proofs.YtgbgnlboogalgaaGreat
set_option linter.unusedVariables false
section
variable {P : Program} {n : Nat} {Q : Exit → Act → World → Prop} {L : Env} {w : World} {ops : List Oper} {rest : List Oper} {ty : TypeId} {pos : String} {af : Array Edge} {g : Option (Nat × Bool)}
/-- Nothing is appended. -/
theorem run_app0 {base sz : Nat} {t ty e : TypeId} {i : TypeInfo} [u : Ut P t (.slice e)] [f : Inf P e i] {v : Value} {nn : Nat} {xs : List Value} (hown : w.ownsRow base e sz v nn xs) (a2 : Option Addr) (c2 : Nat) : (Builtin.append_ #[t, t] ty #[v, .slice a2 0 c2]).run P w = .ok v w := by
  rcases hown.2 with ⟨rfl, rfl⟩ | ⟨g, cap, cur, rfl, hbg, hg, hnc, hcm, hcs, htake⟩
  · cases a2 <;> simp [Builtin.append_, run_underlying u.eq, sizeOf, typeInfo, f.eq, Builtin.lenOf, Builtin.firstCells, loadCells, loadCellsFrom]
  · cases a2 <;> simp [Builtin.append_, run_underlying u.eq, sizeOf, typeInfo, f.eq, Builtin.lenOf, Builtin.firstCells, loadCells, loadCellsFrom, hnc, storeCells]
/-- Any slice is appended to an owned row. -/
theorem SG.appO {α : Type} {enc : α → List Value} {base : Nat} {t e : TypeId} {i : TypeInfo} [u : Ut P t (.slice e)] [f : Inf P e i] {z : Value} {d : Nat} {s x : Operand} {v : Value} {xs ys : List α} {a2 : Option Addr} {m c2 : Nat}
    (hd : Nat.blt d n = true) (hw : want ops L ⟨some d, .call { callee := .builtin .append, args := #[s, x], argTypes := #[t, t] }, ty, pos, af, g⟩ = some true) (hk : (known L s && known L x) = true)
    (hs : rho L s = v) (hx : rho L x = .slice a2 m c2) (hm : m = ys.length) (hz : i.zero = some z) (hzs : Nat.beq z.cells.size i.size = true) (hsz : Nat.blt 0 i.size = true) (hel : ∀ x, (enc x).length = i.size) (hone : ∀ x, allOne (enc x) = true) (hown : w.ownsRow base e i.size v xs.length (flt enc xs)) (hS : Sl enc i.size w a2 ys)
    (h63 : xs.length + ys.length ≤ maxLen) (hbytes : (xs.length + ys.length) * i.bytes ≤ 140737488355328) (hbase : base ≤ w.heap.size)
    (h : ∀ v' w', Kp (ownB v) w w' → w'.ownsRow base e i.size v' (xs ++ ys).length (flt enc (xs ++ ys)) → (∀ g, v'.ownBlock = some g → v.ownBlock = some g ∨ g = w.heap.size) → SG P n ops Q rest ((d, v') :: L) w') : SG P n ops Q (⟨some d, .call { callee := .builtin .append, args := #[s, x], argTypes := #[t, t] }, ty, pos, af, g⟩ :: rest) L w := by
  subst hm
  cases ys with
  | nil =>
    refine SG.op (by simpa using hd) rfl hw (by simpa [Op.operands, Call.operands] using hk) ?_
    unfold OpRun
    have : (execOp (rho L) ⟨some d, .call { callee := .builtin .append, args := #[s, x], argTypes := #[t, t] }, ty, pos, af, g⟩).run P w = .ok (.value v) w := by
      simp only [execOp, resolve, invoke, builtin, Sem.run_bind, Sem.run_pure, Result.andThen_ok, List.map_toArray, List.map_cons, List.map_nil, hs, hx]
      have := run_app0 (P := P) (ty := ty) (u := u) (f := f) hown a2 c2
      simp only [List.length_nil]
      rw [this]
      rfl
    rw [this]
    exact h v w (Kp.refl _ _) (by rw [List.append_nil]; exact hown) (fun g hg => Or.inl hg)
  | cons y ys =>
    obtain ⟨b, off, rfl, _⟩ := hS.at (i := 0) (by simp)
    have hr := Sl.flat hel (by simp) hS
    refine SG.appendW hd hw hk hs hx hz hzs hsz hown hr (by rw [flt_length hel]) (flt_all hone _) h63 hbytes hbase (fun v' w' h1 h2 h3 => h v' w' h1 ?_ h3)
    rw [flt_append, List.length_append]
    exact h2
/-- 'make([]T, 0, c)'. -/
theorem SG.makeRow {d c : Nat} {t e : TypeId} {i : TypeInfo} [u : Ut P t (.slice e)] [f : Inf P e i] {z : Value} {x y : Operand} {zc : Int} (hd : Nat.blt d n = true)
    (hw : want ops L ⟨some d, .makeSlice t x y, ty, pos, af, g⟩ = some true) (hk : (known L x && known L y) = true) (hx : rho L x = .int .i64 0) (hy : rho L y = .int .i64 zc) (hc : zc = (c : Int)) (hz : i.zero = some z) (hbytes : i.bytes * c ≤ 281474976710656) (h63 : c ≤ maxLen)
    (h : ∀ b w', Kp [] w w' → w.heap.size ≤ b → w'.ownsRow w.heap.size e i.size (.slice (some ⟨b, 0, none⟩) 0 c) 0 [] → SG P n ops Q rest ((d, .slice (some ⟨b, 0, none⟩) 0 c) :: L) w') : SG P n ops Q (⟨some d, .makeSlice t x y, ty, pos, af, g⟩ :: rest) L w := by
  subst hc
  refine SG.op (by simpa using hd) rfl hw (by simpa [Op.operands] using hk) ?_
  unfold OpRun
  have h63' : (c : Int) ≤ 9223372036854775807 := by have h := h63; simp [maxLen] at h; omega
  have hb' : (i.bytes : Int) * (c : Int) ≤ 281474976710656 := by
    have h : ((i.bytes * c : Nat) : Int) ≤ 281474976710656 := by omega
    rwa [Int.natCast_mul] at h
  have hr := run_make (P := P) w t e i z u.eq f.eq hz .i64 .i64 0 c (Int.le_refl _) (by omega) hb' h63'
  simp only [Int.toNat_zero, Int.toNat_natCast] at hr
  have : (execOp (rho L) ⟨some d, .makeSlice t x y, ty, pos, af, g⟩).run P w = .ok (.value (.slice (some ⟨w.heap.size, 0, none⟩) 0 c)) (w.alloc (.cells (madeCells z.cells (c * i.size)) e)) := by
    simp only [execOp, hx, hy, Sem.run_bind, hr, Result.andThen, Sem.run_pure]
  rw [this]
  exact h _ _ (Kp.push w _ rfl) (Nat.le_refl _) (World.ownsRow_made w _ c (Nat.le_refl _) h63 (size_madeCells _ _))
end
end Go.Proofs.YtgbgnlboogalgaaGreat
namespace Go.Proofs.YtgbgnlboogalgaaGreat
set_option linter.unusedVariables false
section
variable {P : Program} {n : Nat} {ops : List Oper} {Q : Exit → Act → World → Prop} {w : World} {L : Env} {ty : TypeId} {pos : String} {af : Array Edge} {g : Option (Nat × Bool)} {rest : List Oper}
end
section
variable {P : Program} {S : List Nat} {w0 : World} {F : World → Prop} {L : Env} {d : Option Nat} {ty : TypeId} {pos : String} {af : Array Edge} {g : Option (Nat × Bool)}
end
end Go.Proofs.YtgbgnlboogalgaaGreat
namespace Go.Proofs.YtgbgnlboogalgaaGreat
open Go.Proofs
set_option linter.unusedVariables false
theorem by1_len (x : UInt8) : (by1 x).length = 1 := rfl
theorem by1_one (x : UInt8) : allOne (by1 x) = true := rfl
theorem bs1 (x : UInt8) (w : World) : (Instr.buildSlice 23 1 #[(0, bv x)]).run Tryz.prog w = .ok (.slice (some ⟨w.heap.size, 0, none⟩) 1 1) { w with heap := w.heap.push (.cells (by1 x).toArray 5) } := by kernel_rfl
theorem shr7 (n : Nat) : shrI (n : Int) 7 = ((n / 128 : Nat) : Int) := shrI_nat (i := 7) (by omega)
/-- A slice of bytes, as functions take it. -/
structure Bs (w : World) (a : Option Addr) (c : Nat) (l : List UInt8) : Prop where
  sl : Sl by1 1 w a l
  len : l.length ≤ c
  some : l = [] ∧ a = none ∨ (∃ b2 off, a = Option.some ⟨b2, off, none⟩) ∨ (l = [] ∧ c = 0)
  lt : l ≠ [] → ∀ b2 off, a = Option.some ⟨b2, off, none⟩ → b2 < w.heap.size
theorem Bs.own {w : World} {base : Nat} {v : Value} {l : List UInt8} (h : w.ownsRow base 5 1 v l.length (flt by1 l)) : ∃ a c, v = .slice a l.length c ∧ Bs w a c l := by
  obtain ⟨a, c, rfl, hc, hS⟩ := Sl.own by1_len h rfl
  refine ⟨a, c, rfl, hS, hc, ?_, ?_⟩
  · rcases h.2 with ⟨hv, h0⟩ | ⟨g, cap, cur, hv, _⟩
    · simp only [Value.slice.injEq] at hv
      exact Or.inl ⟨List.eq_nil_of_length_eq_zero h0, hv.1⟩
    · cases hv
      exact Or.inr (Or.inl ⟨_, _, rfl⟩)
  · rcases h.2 with ⟨hv, h0⟩ | ⟨g, cap, cur, hv, _, hg, _⟩
    · simp only [Value.slice.injEq] at hv
      intro _ b2 off e
      rw [hv.1] at e
      cases e
    · cases hv
      intro _ b2 off e
      cases e
      exact (Array.getElem?_eq_some_iff.1 hg).1
theorem Bs.kp {S : List Nat} {w w' : World} {a : Option Addr} {c : Nat} {l : List UInt8} (h : Bs w a c l) (hk : Kp S w w') (hb : ∀ b off, a = Option.some ⟨b, off, none⟩ → b ∉ S) : Bs w' a c l :=
  ⟨h.sl.kp hk hb, h.len, h.some, fun hn b2 off e => Nat.lt_of_lt_of_le (h.lt hn b2 off e) hk.size⟩
theorem Bs.kpn {S : List Nat} {w w' : World} {a : Option Addr} {c : Nat} {l : List UInt8} (h : Bs w a c l) (hk : Kp S w w') (hb : l ≠ [] → ∀ b off, a = Option.some ⟨b, off, none⟩ → b ∉ S) : Bs w' a c l := by
  refine ⟨?_, h.len, h.some, fun hn b2 off e => Nat.lt_of_lt_of_le (h.lt hn b2 off e) hk.size⟩
  by_cases hn : l = []
  · subst hn; exact Sl.nil
  · exact h.sl.kp hk (hb hn)
theorem Bs.nil {w : World} : Bs w none 0 [] := ⟨Sl.nil, Nat.le_refl _, Or.inl ⟨rfl, rfl⟩, fun _ _ _ e => by cases e⟩
attribute [local irreducible] CG NG SG Vals Der Row Blk MapIs IterAt addI xorI orI andI shlI shrI or8
set_option maxHeartbeats 8000000 in
theorem fresh_spec {w : World} {a : Option Addr} {c : Nat} {l : List UInt8} (hS : Sl by1 1 w a l) (m : Nat) (hl : l.length + m ≤ 1000000000) : RetO Tryz.prog 5 by1 1 100 #[.slice a l.length c, .int .i64 (m : Int)] w l := by
  refine enter2 Tryz.func100 rfl Tryz.ntmps100 rfl ?_
  have e1 : (l.length : Int) + (m : Int) = ((l.length + m : Nat) : Int) := by omega
  repeat (first|apply cA|apply cB|apply cD|apply cE|refine cV rfl rfl rfl rfl (by first|((first|apply qmv|apply qas|apply qad|apply qln)<;>(first|exact rfl|exact Ar.mk (by omega)|fail))|fail) ?_)
  rw [e1]
  refine SG.makeRow (c := l.length + m) rfl rfl rfl (by exact rho_of rfl) (by exact rho_of rfl) rfl rfl (by show 1 * (l.length + m) ≤ _; omega) (by simp only [maxLen]; omega) (fun b9 w1 hk1 hb9 ho1 => ?_)
  repeat (first|refine cV rfl rfl rfl rfl (by first|(apply qmv<;>(exact rfl))|fail) ?_)
  refine SG.appO (enc := by1) (xs := []) (ys := l) (base := w.heap.size) rfl rfl rfl (by exact rho_of rfl) (by exact rho_of rfl) rfl rfl rfl rfl by1_len by1_one ho1 (hS.kp0 hk1) (by simp only [maxLen, List.length_nil]; omega) (by show (0 + l.length) * 1 ≤ _; omega) hk1.size (fun v w2 hk2 ho2 _ => ?_)
  repeat (first|apply cD|apply cE|apply cH|refine cV rfl rfl rfl rfl (by first|(apply qas<;>(exact rfl))|fail) ?_)
  refine ret1 (Or.inl rfl) Tryz.results100 (by first | exact ResV.tmp rfl | exact ResV.agg rfl rfl (by assumption) (by first | exact dc_length _ | exact nc_length _ | exact rc_length _ _ _ | exact ec_length _ | exact dl_length _ _ _ _ | rfl) | exact ResV.cell rfl rfl (by assumption)) ?_
  exact ⟨_, rfl, ho2, hk1.trans_new hk2 (own_new ho1 (Nat.le_refl _))⟩
set_option maxHeartbeats 8000000 in
theorem number_spec {w : World} {v : Value} {l : List UInt8} {base : Nat} (ho : w.ownsRow base 5 1 v l.length (flt by1 l)) (hbase : base ≤ w.heap.size) (n : Nat) (hn : n < 18446744073709551616) (hl : l.length ≤ 1000000000) : Calls Tryz.prog 99 #[v, .int .u64 (n : Int)] w (fun e w' => ∃ v', e = .returned v' ∧ w'.ownsRow base 5 1 v' (l ++ putU n).length (flt by1 (l ++ putU n)) ∧ Kp (ownB v) w w' ∧ (∀ g, v'.ownBlock = some g → v.ownBlock = some g ∨ w.heap.size ≤ g)) := by
  refine enter2 Tryz.func99 rfl Tryz.ntmps99 rfl ?_
  repeat (first|apply cA|apply cB|apply cD|apply cE|apply cG|refine cV rfl rfl rfl rfl (by first|(apply qas<;>(exact rfl))|fail) ?_)
  refine CG.loop (X := Value × Nat × List UInt8 × Nat) (fun x => [(0, x.1), (1, .int .u64 (x.2.2.2 : Int))])
    (fun x w' => w'.ownsRow base 5 1 x.1 (l ++ x.2.2.1).length (flt by1 (l ++ x.2.2.1)) ∧ x.2.1 ≤ 10 ∧ x.2.2.1.length = 10 - x.2.1 ∧ x.2.2.2 < 128 ^ (x.2.1 + 1) ∧ x.2.2.1 ++ putN x.2.1 x.2.2.2 = putU n ∧ Kp (ownB v) w w' ∧ (∀ g, x.1.ownBlock = some g → v.ownBlock = some g ∨ w.heap.size ≤ g)) (fun x => x.2.1) (v, 10, [], n) ⟨by simpa using ho, Nat.le_refl _, rfl, Nat.lt_of_lt_of_le hn (show 18446744073709551616 ≤ 128 ^ 11 by decide), rfl, Kp.refl _ _, fun g hg => Or.inl hg⟩ (by (repeat' (first | exact True.intro | exact rfl | refine And.intro ?_ ?_))) ?_
  rintro ⟨v1, f, done, m⟩ w1 ⟨ho1, hf, hd, hm, hp, hk1, hw1⟩
  simp only at ho1 hf hd hm hp hw1
  refine CG.to [(0, v1), (1, .int .u64 (m : Int))] (by (repeat' (first | exact True.intro | exact rfl | refine And.intro ?_ ?_))) ?_
  have hbase1 : base ≤ w1.heap.size := Nat.le_trans hbase hk1.size
  have hs1 := hk1.size
  by_cases hlt : m < 128
  · have g1 : ¬ (128 : Int) ≤ (m : Int) := by omega
    have hput : putN f m = [UInt8.ofNat m] := by
      cases f with
      | zero => rfl
      | succ f => simp [putN, hlt]
    rw [hput] at hp
    repeat (first|apply cA|apply cB|apply cD|apply cE|refine cV rfl rfl rfl rfl (by first|((first|apply qmv|apply qge)<;>(first|exact rfl|exact dcf (by first|assumption|omega)|fail))|fail) ?_)
    refine dA rfl (by exact rho_of rfl) rfl ?_
    repeat (first|apply cA|apply cB|apply cE|apply cJ|apply cM|refine cQ rfl ?_|refine cV rfl rfl rfl rfl (by first|(apply q64b<;>(exact rfl))|(apply qmv<;>(exact rfl))|fail) ?_)
    rw [toB_nat]
    refine SG.buildSlice rfl rfl rfl rfl (bs1 (UInt8.ofNat m)) (fun b2 w2 hk2 hb2 hB2 => ?_)
    have hS2 : Sl by1 1 w2 (some ⟨b2, 0, none⟩) [UInt8.ofNat m] := Sl.of_blk (pre := []) (post := []) by1_len (l := [UInt8.ofNat m]) (T := 5) hB2
    refine SG.appO (enc := by1) (xs := l ++ done) (ys := [UInt8.ofNat m]) (base := base) rfl rfl rfl (by exact rho_of rfl) (by exact rho_of rfl) rfl rfl rfl rfl by1_len by1_one (own_kp0 ho1 hk2) hS2 (by simp only [maxLen, List.length_append, List.length_cons, List.length_nil]; omega) (by show ((l ++ done).length + 1) * 1 ≤ _; simp only [List.length_append]; omega) (Nat.le_trans hbase1 hk2.size) (fun v3 w3 hk3 ho3 hw3 => ?_)
    rw [List.append_assoc, hp] at ho3
    repeat (first|apply cD|apply cE|apply cH|refine cV rfl rfl rfl rfl (by first|(apply qas<;>(exact rfl))|fail) ?_)
    refine ret1 (Or.inl rfl) Tryz.results99 (by first | exact ResV.tmp rfl | exact ResV.agg rfl rfl (by assumption) (by first | exact dc_length _ | exact nc_length _ | exact rc_length _ _ _ | exact ec_length _ | exact dl_length _ _ _ _ | rfl) | exact ResV.cell rfl rfl (by assumption)) ?_
    refine ⟨_, rfl, ho3, (hk1.trans hk2.any).trans_new hk3 (fun z hz => ?_), fun g hg => ?_⟩
    · have hz' : v1.ownBlock = some z := by
        unfold ownB at hz
        split at hz
        · rename_i b hb
          rw [List.mem_singleton] at hz
          rw [hb, hz]
        · cases hz
      rcases hw1 z hz' with h | h
      · left
        unfold ownB
        rw [h]
        simp
      · exact Or.inr h
    · have s2 := hk2.size
      rcases hw3 g hg with h | h
      · exact hw1 g h
      · exact Or.inr (by omega)
  · have g1 : (128 : Int) ≤ (m : Int) := by omega
    cases f with
    | zero => simp at hm; omega
    | succ f =>
      have hput : putN (f + 1) m = UInt8.ofNat (128 + m % 128) :: putN f (m / 128) := by simp [putN, hlt]
      rw [hput] at hp
      have e8 := or8_nat (n := m)
      repeat (first|apply cA|apply cB|apply cD|apply cE|refine cV rfl rfl rfl rfl (by first|((first|apply qmv|apply qge)<;>(first|exact rfl|exact dct (by first|assumption|omega)|fail))|fail) ?_)
      refine cZ rfl (by exact rho_of rfl) rfl ?_
      repeat (first|apply cA|apply cB|apply cE|apply cF|apply cG|refine cV rfl rfl rfl rfl (by first|(apply q64b<;>(exact rfl))|((first|apply quo8|apply qmv)<;>(exact rfl))|fail) ?_)
      rw [e8]
      refine SG.buildSlice rfl rfl rfl rfl (bs1 (UInt8.ofNat (128 + m % 128))) (fun b2 w2 hk2 hb2 hB2 => ?_)
      have hS2 : Sl by1 1 w2 (some ⟨b2, 0, none⟩) [UInt8.ofNat (128 + m % 128)] := Sl.of_blk (pre := []) (post := []) by1_len (l := [UInt8.ofNat (128 + m % 128)]) (T := 5) hB2
      refine SG.appO (enc := by1) (xs := l ++ done) (ys := [UInt8.ofNat (128 + m % 128)]) (base := base) rfl rfl rfl (by exact rho_of rfl) (by exact rho_of rfl) rfl rfl rfl rfl by1_len by1_one (own_kp0 ho1 hk2) hS2 (by simp only [maxLen, List.length_append, List.length_cons, List.length_nil]; omega) (by show ((l ++ done).length + 1) * 1 ≤ _; simp only [List.length_append]; omega) (Nat.le_trans hbase1 hk2.size) (fun v3 w3 hk3 ho3 hw3 => ?_)
      repeat (first|apply cB|apply cD|apply cE|apply cU|refine cV rfl rfl rfl rfl (by first|((first|apply qusr|apply qmv|apply qas)<;>(first|exact rfl|exact Ar.mk (by omega)|fail))|fail) ?_)
      rw [shr7]
      refine NG.round (v3, f, done ++ [UInt8.ofNat (128 + m % 128)], m / 128) (by (repeat' (first | exact True.intro | exact rfl | refine And.intro ?_ ?_))) ⟨by simp only; rw [← List.append_assoc]; exact ho3, by simp only; omega, by simp; omega, ?_, by simp only [List.append_assoc, List.singleton_append]; exact hp, (hk1.trans hk2.any).trans_new hk3 (fun z hz => ?_), fun g hg => ?_⟩ (by simp only; omega)
      · simp only
        rw [Nat.pow_succ] at hm
        exact Nat.div_lt_of_lt_mul (by rw [Nat.mul_comm]; exact hm)
      · have hz' : v1.ownBlock = some z := by
          unfold ownB at hz
          split at hz
          · rename_i b hb
            rw [List.mem_singleton] at hz
            rw [hb, hz]
          · cases hz
        rcases hw1 z hz' with h | h
        · left
          unfold ownB
          rw [h]
          simp
        · exact Or.inr h
      · have s2 := hk2.size
        rcases hw3 g hg with h | h
        · exact hw1 g h
        · exact Or.inr (by omega)
set_option maxHeartbeats 8000000 in
theorem putnum_spec {w : World} {a : Option Addr} {c : Nat} {l : List UInt8} (hS : Bs w a c l) (n : Nat) (hn : n < 18446744073709551616) (hl : l.length ≤ 100000000) : RetO Tryz.prog 5 by1 1 101 #[.slice a l.length c, .int .u64 (n : Int)] w (l ++ putU n) := by
  refine enter2 Tryz.func101 rfl Tryz.ntmps101 rfl ?_
  repeat (first|apply cA|apply cB|apply cD|apply cE|refine cV rfl rfl rfl rfl (by first|((first|apply qmv|apply qas)<;>(exact rfl))|fail) ?_)
  refine SG.call rfl rfl rfl (by repeat' (first | exact True.intro | exact rho_of rfl | refine And.intro ?_ ?_)) ((fresh_spec (c := c) hS.sl 10 (by omega)).mono (fun e w1 hh => ?_))
  obtain ⟨v1, he, ho1, hk1⟩ := hh
  refine ⟨_, he, ?_⟩
  repeat (first|refine cV rfl rfl rfl rfl (by first|(apply qmv<;>(exact rfl))|fail) ?_)
  refine SG.call rfl rfl rfl (by repeat' (first | exact True.intro | exact rho_of rfl | refine And.intro ?_ ?_)) ((number_spec ho1 hk1.size n hn (by omega)).mono (fun e w2 hh => ?_))
  obtain ⟨v2, he, ho2, hk2, _⟩ := hh
  refine ⟨_, he, ?_⟩
  repeat (first|apply cD|apply cE|apply cH|refine cV rfl rfl rfl rfl (by first|(apply qas<;>(exact rfl))|fail) ?_)
  refine ret1 (Or.inl rfl) Tryz.results101 (by first | exact ResV.tmp rfl | exact ResV.agg rfl rfl (by assumption) (by first | exact dc_length _ | exact nc_length _ | exact rc_length _ _ _ | exact ec_length _ | exact dl_length _ _ _ _ | rfl) | exact ResV.cell rfl rfl (by assumption)) ?_
  exact ⟨_, rfl, ho2, hk1.trans_new hk2 (own_new ho1 (Nat.le_refl _))⟩
end Go.Proofs.YtgbgnlboogalgaaGreat
namespace Go.Proofs.YtgbgnlboogalgaaGreat
set_option linter.unusedVariables false
section
variable {P : Program} {S : List Nat} {w0 : World} {F : World → Prop} {L : Env} {d : Option Nat} {ty : TypeId} {pos : String} {af : Array Edge} {g : Option (Nat × Bool)}
theorem qmn {T T2 : TypeId} {x y : Operand} {a b : Int} (hx : ro L x = some (.int .i64 a)) (hy : ro L y = some (.int .i64 b)) :
    Vals P S w0 F L ⟨d, .call { callee := .builtin .min, args := #[x, y], argTypes := #[T, T2] }, ty, pos, af, g⟩ (.int .i64 (if b < a then b else a)) := fun w _ _ => by
  simp [execOp, rho_of hx, rho_of hy, resolve, invoke, builtin, Builtin.min_, Builtin.min2]
end
section
variable {P : Program} {S : List Nat} {w0 : World} {F : World → Prop} {L : Env} {d : Option Nat} {ty : TypeId} {pos : String} {af : Array Edge} {g : Option (Nat × Bool)}
end
end Go.Proofs.YtgbgnlboogalgaaGreat
namespace Go.Proofs.YtgbgnlboogalgaaGreat
open Go.Proofs
set_option linter.unusedVariables false
def lo7 (u : UInt8) : UInt8 := UInt8.ofNat (u.toNat % 128)
theorem lo7_nat (u : UInt8) : (lo7 u).toNat = u.toNat % 128 := by
  unfold lo7
  rw [UInt8.toNat_ofNat']
  omega
def and8 (a b : Int) : Int := IntKind.wrap .u8 ((BitVec.ofInt 8 a &&& BitVec.ofInt 8 b).toNat : Int)
theorem qua8 {P : Program} {S : List Nat} {w0 : World} {F : World → Prop} {L : Env} {d : Option Nat} {ty : TypeId} {pos : String} {af : Array Edge} {g : Option (Nat × Bool)} {T T' : TypeId} [u : Ut P T (.int .u8)] {x y : Operand} {a b : Int} (hx : ro L x = some (.int .u8 a)) (hy : ro L y = some (.int .u8 b)) : Vals P S w0 F L ⟨d, .binOp .and T x y T', ty, pos, af, g⟩ (.int .u8 (and8 a b)) := fun w _ _ => by
  simp only [execOp, rho_of hx, rho_of hy, eqGuard, binOp, Op.intBits, Sem.run_bind, Sem.run_pure, Result.andThen, and8]; rfl
theorem and8_127 (b : UInt8) : and8 (b.toNat : Int) 127 = ((lo7 b).toNat : Int) := by
  rw [lo7_nat]
  have key : ∀ m : _root_.Fin 256, and8 (m.val : Int) 127 = ((m.val % 128 : Nat) : Int) := by decide +kernel
  exact key ⟨b.toNat, b.toNat_lt⟩
theorem qn127 {P : Program} {S : List Nat} {w0 : World} {F : World → Prop} {L : Env} {d : Option Nat} {ty : TypeId} {pos : String} {af : Array Edge} {g : Option (Nat × Bool)} {T T' : TypeId} [u : Ut P T (.int .u8)] {x y : Operand} {b : UInt8} (hx : ro L x = some (bv b)) (hy : ro L y = some (.int .u8 127)) : Vals P S w0 F L ⟨d, .binOp .and T x y T', ty, pos, af, g⟩ (bv (lo7 b)) := by
  have := qua8 (P := P) (S := S) (w0 := w0) (F := F) (d := d) (ty := ty) (pos := pos) (af := af) (g := g) (T' := T') (u := u) hx hy
  rwa [and8_127] at this
theorem dig7_0 (l : List UInt8) : (0 : Int) = (dig7 (l.take 0) : Int) := rfl
theorem bs_at {w : World} {a : Option Addr} {c : Nat} {l : List UInt8} (h : Bs w a c l) {i : Nat} (hi : i < l.length) : ∃ b off, a = some ⟨b, off, none⟩ ∧ Row w b (off + i * 1) [bv l[i]] := h.sl.at hi
attribute [local irreducible] CG NG SG Vals Der Row Blk MapIs IterAt addI xorI orI andI shlI shrI or8 lo7 dig7 runL lookE lookN
set_option maxHeartbeats 16000000 in
theorem look_spec {w : World} {a : Option Addr} {c : Nat} {l : List UInt8} (hS : Bs w a c l) (hl : l.length ≤ 1000000000) : Ret Tryz.prog 105 #[.slice a l.length c] w (.tuple #[.int .u64 (if lookE l = 0 then (lookN l : Int) else 0), .int .i64 (if lookE l = 0 then (lookK l : Int) else 0), .int .i64 (lookE l)]) := by
  refine enter1 Tryz.func105 rfl Tryz.ntmps105 rfl ?_
  have bad : ∀ {z : Int} {w' : World}, Kp [] w w' → lookE l = z → z ≠ 0 → (Ending.returned (.tuple #[.int .u64 0, .int .i64 0, .int .i64 z]) = .returned (.tuple #[.int .u64 (if lookE l = 0 then (lookN l : Int) else 0), .int .i64 (if lookE l = 0 then (lookK l : Int) else 0), .int .i64 (lookE l)]) ∧ Kp [] w w') := fun hk e hz => ⟨by rw [e, if_neg hz, if_neg hz], hk⟩
  obtain ⟨m, hm, hm1, hm2⟩ : ∃ m : Nat, (if (10 : Int) < (l.length : Int) then (10 : Int) else (l.length : Int)) = (m : Int) ∧ m ≤ l.length ∧ (m = 10 ∨ (m = l.length ∧ m < 10)) := by
    by_cases h : (10 : Int) < (l.length : Int)
    · exact ⟨10, by rw [if_pos h]; rfl, by omega, Or.inl rfl⟩
    · exact ⟨l.length, by rw [if_neg h], Nat.le_refl _, by omega⟩
  repeat (first|apply cA|apply cB|apply cD|apply cE|apply CG.scope|refine cV rfl rfl rfl rfl (by first|(apply qas<;>(exact rfl))|fail) ?_)
  refine CG.label ?_
  repeat (first|apply cA|apply cB|apply cD|apply cE|apply cG|refine cV rfl rfl rfl rfl (by first|((first|apply qmn|apply qmv|apply qln)<;>(exact rfl))|fail) ?_)
  rw [hm]
  refine CG.loop (X := Nat × Int) (fun x => [(0, .slice a l.length c), (5, .int .u64 x.2), (6, .int .i64 (-1)), (10, .int .i64 (m : Int)), (11, .int .i64 (x.1 : Int))])
    (fun x w' => w' = w ∧ x.1 ≤ m ∧ (∀ j (hj : j < x.1) (h : j < l.length), 128 ≤ l[j].toNat) ∧ (x.1 ≤ 9 → x.2 = (dig7 (l.take x.1) : Int))) (fun x => m - x.1) (0, 0) ⟨rfl, Nat.zero_le _, fun j hj => absurd hj (Nat.not_lt_zero _), fun _ => dig7_0 l⟩ (by (repeat' (first | exact True.intro | exact rfl | refine And.intro ?_ ?_))) ?_
  rintro ⟨i, n⟩ w1 ⟨rfl, him, hbig, hn⟩
  simp only at him hbig hn
  refine CG.to [(0, .slice a l.length c), (5, .int .u64 n), (6, .int .i64 (-1)), (10, .int .i64 (m : Int)), (11, .int .i64 (i : Int))] (by (repeat' (first | exact True.intro | exact rfl | refine And.intro ?_ ?_))) ?_
  by_cases hlt : i < m
  rotate_left
  · have g1 : ¬ (i : Int) < (m : Int) := by omega
    have ei : i = m := by omega
    subst ei
    have hr : runL 10 l = i := runL_eq (by omega) hm1 (fun j hj => hbig j hj (by omega)) (by omega)
    have g2 : (-1 : Int) < 0 := by decide
    repeat (first|apply cA|apply cB|apply cD|apply cE|refine cV rfl rfl rfl rfl (by first|(apply qls<;>(first|exact rfl|exact dcf (by first|assumption|omega)|fail))|fail) ?_)
    refine dA rfl (by exact rho_of rfl) rfl ?_
    by_cases h10 : i < 10
    · have g3 : (l.length : Int) < 10 := by omega
      have e : lookE l = 4 := by
        unfold lookE
        exact if_pos ⟨by omega, by omega⟩
      repeat (first|apply cA|apply cB|apply cD|apply cE|apply cG|apply cJ|apply cM|refine cQ rfl ?_|refine cV rfl rfl rfl rfl (by first|((first|apply qmv|apply qas|apply qpk|apply qls|apply qln)<;>(first|exact rfl|exact dct (by first|assumption|omega)|fail))|fail) ?_)
      refine cZ rfl (by exact rho_of rfl) rfl ?_
      repeat (first|apply cA|apply cB|apply cD|apply cE|apply cH|apply cK|apply NG.ret_block|apply NG.ret_scope|refine cV rfl rfl rfl rfl (by first|(apply qas<;>(exact rfl))|fail) ?_)
      refine ret3 (Or.inl rfl) Tryz.results105 (by first | exact ResV.tmp rfl | exact ResV.agg rfl rfl (by assumption) (by first | exact dc_length _ | exact nc_length _ | exact rc_length _ _ _ | exact ec_length _ | exact dl_length _ _ _ _ | rfl) | exact ResV.cell rfl rfl (by assumption)) (by first | exact ResV.tmp rfl | exact ResV.agg rfl rfl (by assumption) (by first | exact dc_length _ | exact nc_length _ | exact rc_length _ _ _ | exact ec_length _ | exact dl_length _ _ _ _ | rfl) | exact ResV.cell rfl rfl (by assumption)) (by first | exact ResV.tmp rfl | exact ResV.agg rfl rfl (by assumption) (by first | exact dc_length _ | exact nc_length _ | exact rc_length _ _ _ | exact ec_length _ | exact dl_length _ _ _ _ | rfl) | exact ResV.cell rfl rfl (by assumption)) ?_
      exact bad (Kp.refl _ _) e (by decide)
    · have g3 : ¬ (l.length : Int) < 10 := by omega
      have e : lookE l = 3 := by
        unfold lookE
        rw [if_neg (by omega), if_pos (Or.inl (by omega))]
      repeat (first|apply cA|apply cB|apply cD|apply cE|apply cG|apply cJ|apply cM|refine cQ rfl ?_|refine cV rfl rfl rfl rfl (by first|((first|apply qmv|apply qas|apply qpk|apply qls|apply qln)<;>(first|exact rfl|exact dct (by first|assumption|omega)|exact dcf (by first|assumption|omega)|fail))|fail) ?_)
      refine dA rfl (by exact rho_of rfl) rfl ?_
      repeat (first|apply cA|apply cB|apply cD|apply cE|refine cV rfl rfl rfl rfl (by first|((first|apply qmv|apply qas|apply qls)<;>(first|exact rfl|exact dct (by first|assumption|omega)|fail))|fail) ?_)
      refine cZ rfl (by exact rho_of rfl) rfl ?_
      repeat (first|apply cE|apply cF)
      refine cZ rfl (by exact rho_of rfl) rfl ?_
      repeat (first|apply cA|apply cB|apply cD|apply cE|apply cH|apply cK|apply NG.ret_block|apply NG.ret_scope|refine cV rfl rfl rfl rfl (by first|(apply qas<;>(exact rfl))|fail) ?_)
      refine ret3 (Or.inl rfl) Tryz.results105 (by first | exact ResV.tmp rfl | exact ResV.agg rfl rfl (by assumption) (by first | exact dc_length _ | exact nc_length _ | exact rc_length _ _ _ | exact ec_length _ | exact dl_length _ _ _ _ | rfl) | exact ResV.cell rfl rfl (by assumption)) (by first | exact ResV.tmp rfl | exact ResV.agg rfl rfl (by assumption) (by first | exact dc_length _ | exact nc_length _ | exact rc_length _ _ _ | exact ec_length _ | exact dl_length _ _ _ _ | rfl) | exact ResV.cell rfl rfl (by assumption)) (by first | exact ResV.tmp rfl | exact ResV.agg rfl rfl (by assumption) (by first | exact dc_length _ | exact nc_length _ | exact rc_length _ _ _ | exact ec_length _ | exact dl_length _ _ _ _ | rfl) | exact ResV.cell rfl rfl (by assumption)) ?_
      exact bad (Kp.refl _ _) e (by decide)
  have g1 : (i : Int) < (m : Int) := by omega
  have hil : i < l.length := by omega
  obtain ⟨ba, oa, rfl, hri⟩ := bs_at hS hil
  have hgd : l.getD i 0 = l[i] := by
    rw [List.getD_eq_getElem?_getD, List.getElem?_eq_getElem hil]
    rfl
  have hsn := dig7_snoc hil
  have hb0 := l[i].toNat_lt
  generalize hu : l[i] = u at hri hgd hsn hb0
  have hnew : i ≤ 8 ∨ u.toNat ≤ 1 → orI n (shlI ((lo7 u).toNat : Int) (7 * (i : Int))) = (dig7 (l.take (i + 1)) : Int) := fun h => by
    rw [lo7_nat, hn (by omega), hsn]
    have h1 := dig7_lt (l.take i)
    rw [List.length_take, Nat.min_eq_left (by omega)] at h1
    have h2 : u.toNat % 128 < 128 := Nat.mod_lt _ (by omega)
    have h3 : dig7 (l.take i) + u.toNat % 128 * 2 ^ (7 * i) < 18446744073709551616 := by
      by_cases h9 : i = 9
      · subst h9
        have h4 : u.toNat ≤ 1 := by omega
        have h5 : u.toNat % 128 ≤ 1 := Nat.le_trans (Nat.mod_le _ _) h4
        simp only [Nat.reduceMul, Nat.reducePow] at h1 ⊢
        omega
      · have h4 : (2 : Nat) ^ (7 * i) ≤ 2 ^ 56 := Nat.pow_le_pow_right (by omega) (by omega)
        have h5 : u.toNat % 128 * 2 ^ (7 * i) ≤ 127 * 2 ^ 56 := Nat.mul_le_mul (by omega) h4
        simp only [Nat.reducePow] at h4 h5
        omega
    have e7 : (7 * (i : Int)) = ((7 * i : Nat) : Int) := by omega
    rw [e7, shlI_nat (by omega) (by omega), orI_nat h1 h3]
  have hb7 : 0 ≤ 7 * (i : Int) ∧ 7 * (i : Int) ≤ 63 := by omega
  repeat (first|apply cA|apply cB|apply cD|apply cE|refine cV rfl rfl rfl rfl (by first|(apply qls<;>(first|exact rfl|exact dct (by first|assumption|omega)|fail))|fail) ?_)
  refine cZ rfl (by exact rho_of rfl) rfl ?_
  generalize hN : orI n (shlI ((lo7 u).toNat : Int) (7 * (i : Int))) = n2 at hnew
  have hi9 : i ≤ 9 := by omega
  clear hb0 g1
  by_cases hs : u.toNat < 128
  rotate_left
  · have g2 : ¬ (u.toNat : Int) < 128 := by omega
    repeat (first|apply cA|apply cB|apply cD|apply cE|apply cF|apply cG|refine cV rfl rfl rfl rfl (by first|(apply qb64<;>(first|exact rfl|exact Ar.mk (by omega)|assumption|exact dcf (by first|assumption|omega)|exact List.not_mem_nil|fail))|((first|apply qn127|apply quor|apply qush|apply qmi|apply qmv|apply qas|apply qlc|apply qix|apply qls)<;>(first|exact rfl|exact Ar.mk (by omega)|assumption|exact dcf (by first|assumption|omega)|exact List.not_mem_nil|fail))|fail) ?_)
    rw [hN]
    skip
    refine dA rfl (by exact rho_of rfl) rfl ?_
    repeat (first|apply cB|apply cD|apply cE|apply cF|apply cU|refine cV rfl rfl rfl rfl (by first|((first|apply qmv|apply qad)<;>(first|exact rfl|exact Ar.mk (by omega)|fail))|fail) ?_)
    refine NG.round (i + 1, n2) (by (repeat' (first | exact True.intro | exact rfl | refine And.intro ?_ ?_))) ⟨rfl, hlt, fun j hj h => ?_, fun h => ?_⟩ (by show m - (i + 1) < m - i; omega)
    · by_cases e : j = i
      · subst e; rw [hu]; omega
      · exact hbig j (by have : j < i + 1 := hj; omega) h
    · exact hnew (Or.inl (by have : i + 1 ≤ 9 := h; omega))
  have g2 : Dc ((u.toNat : Int) < 128) true := dct (by omega)
  have hr : runL 10 l = i := runL_eq (by omega) (by omega) (fun j hj => hbig j hj (by omega)) (Or.inr (Or.inr ⟨hil, by rw [hu]; exact hs⟩))
  repeat (first|apply cA|apply cB|apply cD|apply cE|apply cF|apply cG|refine cV rfl rfl rfl rfl (by first|(apply qb64<;>(first|exact rfl|exact Ar.mk (by omega)|assumption|exact List.not_mem_nil|fail))|((first|apply qn127|apply quor|apply qush|apply qmi|apply qmv|apply qas|apply qlc|apply qix|apply qls)<;>(first|exact rfl|exact Ar.mk (by omega)|assumption|exact List.not_mem_nil|fail))|fail) ?_)
  rw [hN]
  skip
  refine cZ rfl (by exact rho_of rfl) rfl ?_
  clear g2
  have g3 : ¬ (i : Int) < 0 := by omega
  repeat (first | first|apply cA|apply cB|apply cD|apply cE|apply cG|apply cJ|apply cM|refine cQ rfl ?_|refine NG.exit_other rfl ?_|refine cV rfl rfl rfl rfl (by first|((first|apply qmv|apply qas|apply qpk|apply qls)<;>(first|exact rfl|exact dcf (by first|assumption|omega)|fail))|fail) ?_ | refine cX rfl rfl ?_)
  refine dA rfl (by exact rho_of rfl) rfl ?_
  by_cases hz : 0 < i ∧ u = 0
  · obtain ⟨h0, h0'⟩ := hz
    subst h0'
    have g4 : (0 : Int) < (i : Int) := by omega
    have e : lookE l = 3 := by
      unfold lookE
      rw [if_neg (by omega), if_pos (Or.inr (Or.inl ⟨by omega, by rw [hr]; exact hgd⟩))]
    have g5 : (((0 : UInt8).toNat : Nat) : Int) = 0 := rfl
    repeat (first|apply cA|apply cB|apply cD|apply cE|refine cV rfl rfl rfl rfl (by first|((first|apply qmv|apply qas|apply qls)<;>(first|exact rfl|exact dcf (by first|assumption|omega)|fail))|fail) ?_)
    refine dA rfl (by exact rho_of rfl) rfl ?_
    repeat (first|apply cA|apply cB|apply cD|apply cE|refine cV rfl rfl rfl rfl (by first|((first|apply qmv|apply qas|apply qlc|apply qix|apply qpk|apply qei|apply qgt)<;>(first|exact rfl|exact Ar.mk (by omega)|assumption|exact dct (by first|assumption|omega)|exact List.not_mem_nil|fail))|fail) ?_)
    refine cZ rfl (by exact rho_of rfl) rfl ?_
    repeat (first|apply cE|apply cF)
    refine cZ rfl (by exact rho_of rfl) rfl ?_
    repeat (first|apply cA|apply cB|apply cD|apply cE|apply cH|apply cK|apply NG.ret_block|apply NG.ret_scope|refine cV rfl rfl rfl rfl (by first|(apply qas<;>(exact rfl))|fail) ?_)
    refine ret3 (Or.inl rfl) Tryz.results105 (by first | exact ResV.tmp rfl | exact ResV.agg rfl rfl (by assumption) (by first | exact dc_length _ | exact nc_length _ | exact rc_length _ _ _ | exact ec_length _ | exact dl_length _ _ _ _ | rfl) | exact ResV.cell rfl rfl (by assumption)) (by first | exact ResV.tmp rfl | exact ResV.agg rfl rfl (by assumption) (by first | exact dc_length _ | exact nc_length _ | exact rc_length _ _ _ | exact ec_length _ | exact dl_length _ _ _ _ | rfl) | exact ResV.cell rfl rfl (by assumption)) (by first | exact ResV.tmp rfl | exact ResV.agg rfl rfl (by assumption) (by first | exact dc_length _ | exact nc_length _ | exact rc_length _ _ _ | exact ec_length _ | exact dl_length _ _ _ _ | rfl) | exact ResV.cell rfl rfl (by assumption)) ?_
    exact bad (Kp.refl _ _) e (by decide)
  have hzz : i = 0 ∨ (0 < i ∧ u.toNat ≠ 0) := by
    by_cases h0 : 0 < i
    · exact Or.inr ⟨h0, fun e => hz ⟨h0, UInt8.toNat.inj e⟩⟩
    · exact Or.inl (by omega)
  by_cases h9 : i = 9 ∧ 1 < u.toNat
  · obtain ⟨rfl, h9'⟩ := h9
    have e : lookE l = 3 := by
      unfold lookE
      rw [if_neg (by omega), if_pos (Or.inr (Or.inr ⟨hr, by rw [hgd]; exact h9'⟩))]
    have g4 : ¬ (u.toNat : Int) = 0 := by omega
    have g5 : (1 : Int) < (u.toNat : Int) := by omega
    repeat (first|apply cA|apply cB|apply cD|apply cE|refine cV rfl rfl rfl rfl (by first|((first|apply qmv|apply qas|apply qls)<;>(first|exact rfl|exact dcf (by first|assumption|omega)|fail))|fail) ?_)
    refine dA rfl (by exact rho_of rfl) rfl ?_
    repeat (first|apply cA|apply cB|apply cD|apply cE|refine cV rfl rfl rfl rfl (by first|((first|apply qmv|apply qas|apply qlc|apply qix|apply qpk|apply qei|apply qgt)<;>(first|exact rfl|exact Ar.mk (by omega)|assumption|exact dct (by first|assumption|omega)|exact dcf (by first|assumption|omega)|exact List.not_mem_nil|fail))|fail) ?_)
    refine dA rfl (by exact rho_of rfl) rfl ?_
    repeat (first|apply cB|apply cD|apply cE|refine cV rfl rfl rfl rfl (by first|((first|apply qmv|apply qas|apply qlc|apply qix|apply qpk|apply qei|apply qgt)<;>(first|exact rfl|exact Ar.mk (by omega)|assumption|exact dct (by first|assumption|omega)|exact List.not_mem_nil|fail))|fail) ?_)
    refine cZ rfl (by exact rho_of rfl) rfl ?_
    repeat (first|apply cA|apply cB|apply cD|apply cE|apply cH|apply cK|apply NG.ret_block|apply NG.ret_scope|refine cV rfl rfl rfl rfl (by first|(apply qas<;>(exact rfl))|fail) ?_)
    refine ret3 (Or.inl rfl) Tryz.results105 (by first | exact ResV.tmp rfl | exact ResV.agg rfl rfl (by assumption) (by first | exact dc_length _ | exact nc_length _ | exact rc_length _ _ _ | exact ec_length _ | exact dl_length _ _ _ _ | rfl) | exact ResV.cell rfl rfl (by assumption)) (by first | exact ResV.tmp rfl | exact ResV.agg rfl rfl (by assumption) (by first | exact dc_length _ | exact nc_length _ | exact rc_length _ _ _ | exact ec_length _ | exact dl_length _ _ _ _ | rfl) | exact ResV.cell rfl rfl (by assumption)) (by first | exact ResV.tmp rfl | exact ResV.agg rfl rfl (by assumption) (by first | exact dc_length _ | exact nc_length _ | exact rc_length _ _ _ | exact ec_length _ | exact dl_length _ _ _ _ | rfl) | exact ResV.cell rfl rfl (by assumption)) ?_
    exact bad (Kp.refl _ _) e (by decide)
  have e : lookE l = 0 := by
    unfold lookE
    rw [if_neg (by omega), if_neg]
    rintro (h | ⟨h1, h2⟩ | ⟨h1, h2⟩)
    · omega
    · rw [hr, hgd] at h2
      exact hz ⟨by omega, h2⟩
    · rw [hr] at h1
      subst h1
      rw [hgd] at h2
      exact h9 ⟨rfl, h2⟩
  have ev := hnew (by omega)
  have good : ∀ {w' : World}, Kp [] w1 w' → (Ending.returned (.tuple #[.int .u64 n2, .int .i64 ((i : Int) + 1), .int .i64 0]) = .returned (.tuple #[.int .u64 (if lookE l = 0 then (lookN l : Int) else 0), .int .i64 (if lookE l = 0 then (lookK l : Int) else 0), .int .i64 (lookE l)]) ∧ Kp [] w1 w') := fun hk => by
    refine ⟨?_, hk⟩
    rw [e, if_pos rfl, if_pos rfl, ev]
    unfold lookN lookK
    rw [hr]
    rfl
  clear ev hnew hsn hN bad
  rcases hzz with h0 | ⟨h0, hu0⟩
  · have g4 : ¬ (0 : Int) < (i : Int) := by omega
    have g5 : ¬ (i : Int) = 9 := by omega
    repeat (first|apply cA|apply cB|apply cD|apply cE|refine cV rfl rfl rfl rfl (by first|((first|apply qmv|apply qas|apply qls)<;>(first|exact rfl|exact dcf (by first|assumption|omega)|fail))|fail) ?_)
    refine dA rfl (by exact rho_of rfl) rfl ?_
    repeat (first | first|apply cA|apply cB|apply cD|apply cE|refine cV rfl rfl rfl rfl (by first|((first|apply qmv|apply qas|apply qpk|apply qgt)<;>(first|exact rfl|exact dcf (by first|assumption|omega)|fail))|fail) ?_ | refine cX rfl rfl ?_)
    refine dA rfl (by exact rho_of rfl) rfl ?_
    repeat (first | first|apply cB|apply cD|apply cE|refine cV rfl rfl rfl rfl (by first|((first|apply qmv|apply qas|apply qpk|apply qei)<;>(first|exact rfl|exact dcf (by first|assumption|omega)|fail))|fail) ?_ | refine cX rfl rfl ?_)
    refine dA rfl (by exact rho_of rfl) rfl ?_
    repeat (first|apply cA|apply cB|apply cD|apply cE|apply cF|apply cH|apply NG.ret_scope|apply cU|refine cV rfl rfl rfl rfl (by first|((first|apply qmv|apply qas|apply qad)<;>(first|exact rfl|exact Ar.mk (by omega)|fail))|fail) ?_)
    refine ret3 (Or.inl rfl) Tryz.results105 (by first | exact ResV.tmp rfl | exact ResV.agg rfl rfl (by assumption) (by first | exact dc_length _ | exact nc_length _ | exact rc_length _ _ _ | exact ec_length _ | exact dl_length _ _ _ _ | rfl) | exact ResV.cell rfl rfl (by assumption)) (by first | exact ResV.tmp rfl | exact ResV.agg rfl rfl (by assumption) (by first | exact dc_length _ | exact nc_length _ | exact rc_length _ _ _ | exact ec_length _ | exact dl_length _ _ _ _ | rfl) | exact ResV.cell rfl rfl (by assumption)) (by first | exact ResV.tmp rfl | exact ResV.agg rfl rfl (by assumption) (by first | exact dc_length _ | exact nc_length _ | exact rc_length _ _ _ | exact ec_length _ | exact dl_length _ _ _ _ | rfl) | exact ResV.cell rfl rfl (by assumption)) ?_
    exact good (Kp.refl _ _)
  · have g4 : (0 : Int) < (i : Int) := by omega
    have g6 : ¬ (u.toNat : Int) = 0 := by omega
    by_cases h9' : i = 9
    · have g5 : (i : Int) = 9 := by omega
      have g7 : ¬ (1 : Int) < (u.toNat : Int) := by omega
      repeat (first|apply cA|apply cB|apply cD|apply cE|refine cV rfl rfl rfl rfl (by first|((first|apply qmv|apply qas|apply qls)<;>(first|exact rfl|exact dcf (by first|assumption|omega)|fail))|fail) ?_)
      refine dA rfl (by exact rho_of rfl) rfl ?_
      repeat (first|apply cA|apply cB|apply cD|apply cE|refine cV rfl rfl rfl rfl (by first|((first|apply qmv|apply qas|apply qlc|apply qix|apply qpk|apply qei|apply qgt)<;>(first|exact rfl|exact Ar.mk (by omega)|assumption|exact dct (by first|assumption|omega)|exact dcf (by first|assumption|omega)|exact List.not_mem_nil|fail))|fail) ?_)
      refine dA rfl (by exact rho_of rfl) rfl ?_
      repeat (first|apply cB|apply cD|apply cE|refine cV rfl rfl rfl rfl (by first|((first|apply qmv|apply qas|apply qlc|apply qix|apply qpk|apply qei|apply qgt)<;>(first|exact rfl|exact Ar.mk (by omega)|assumption|exact dct (by first|assumption|omega)|exact dcf (by first|assumption|omega)|exact List.not_mem_nil|fail))|fail) ?_)
      refine dA rfl (by exact rho_of rfl) rfl ?_
      repeat (first|apply cA|apply cB|apply cD|apply cE|apply cF|apply cH|apply NG.ret_scope|apply cU|refine cV rfl rfl rfl rfl (by first|((first|apply qmv|apply qas|apply qad)<;>(first|exact rfl|exact Ar.mk (by omega)|fail))|fail) ?_)
      refine ret3 (Or.inl rfl) Tryz.results105 (by first | exact ResV.tmp rfl | exact ResV.agg rfl rfl (by assumption) (by first | exact dc_length _ | exact nc_length _ | exact rc_length _ _ _ | exact ec_length _ | exact dl_length _ _ _ _ | rfl) | exact ResV.cell rfl rfl (by assumption)) (by first | exact ResV.tmp rfl | exact ResV.agg rfl rfl (by assumption) (by first | exact dc_length _ | exact nc_length _ | exact rc_length _ _ _ | exact ec_length _ | exact dl_length _ _ _ _ | rfl) | exact ResV.cell rfl rfl (by assumption)) (by first | exact ResV.tmp rfl | exact ResV.agg rfl rfl (by assumption) (by first | exact dc_length _ | exact nc_length _ | exact rc_length _ _ _ | exact ec_length _ | exact dl_length _ _ _ _ | rfl) | exact ResV.cell rfl rfl (by assumption)) ?_
      exact good (Kp.refl _ _)
    · have g5 : ¬ (i : Int) = 9 := by omega
      repeat (first|apply cA|apply cB|apply cD|apply cE|refine cV rfl rfl rfl rfl (by first|((first|apply qmv|apply qas|apply qls)<;>(first|exact rfl|exact dcf (by first|assumption|omega)|fail))|fail) ?_)
      refine dA rfl (by exact rho_of rfl) rfl ?_
      repeat (first|apply cA|apply cB|apply cD|apply cE|refine cV rfl rfl rfl rfl (by first|((first|apply qmv|apply qas|apply qlc|apply qix|apply qpk|apply qei|apply qgt)<;>(first|exact rfl|exact Ar.mk (by omega)|assumption|exact dct (by first|assumption|omega)|exact dcf (by first|assumption|omega)|exact List.not_mem_nil|fail))|fail) ?_)
      refine dA rfl (by exact rho_of rfl) rfl ?_
      repeat (first | first|apply cB|apply cD|apply cE|refine cV rfl rfl rfl rfl (by first|((first|apply qmv|apply qas|apply qpk|apply qei)<;>(first|exact rfl|exact dcf (by first|assumption|omega)|fail))|fail) ?_ | refine cX rfl rfl ?_)
      refine dA rfl (by exact rho_of rfl) rfl ?_
      repeat (first|apply cA|apply cB|apply cD|apply cE|apply cF|apply cH|apply NG.ret_scope|apply cU|refine cV rfl rfl rfl rfl (by first|((first|apply qmv|apply qas|apply qad)<;>(first|exact rfl|exact Ar.mk (by omega)|fail))|fail) ?_)
      refine ret3 (Or.inl rfl) Tryz.results105 (by first | exact ResV.tmp rfl | exact ResV.agg rfl rfl (by assumption) (by first | exact dc_length _ | exact nc_length _ | exact rc_length _ _ _ | exact ec_length _ | exact dl_length _ _ _ _ | rfl) | exact ResV.cell rfl rfl (by assumption)) (by first | exact ResV.tmp rfl | exact ResV.agg rfl rfl (by assumption) (by first | exact dc_length _ | exact nc_length _ | exact rc_length _ _ _ | exact ec_length _ | exact dl_length _ _ _ _ | rfl) | exact ResV.cell rfl rfl (by assumption)) (by first | exact ResV.tmp rfl | exact ResV.agg rfl rfl (by assumption) (by first | exact dc_length _ | exact nc_length _ | exact rc_length _ _ _ | exact ec_length _ | exact dl_length _ _ _ _ | rfl) | exact ResV.cell rfl rfl (by assumption)) ?_
      exact good (Kp.refl _ _)
end Go.Proofs.YtgbgnlboogalgaaGreat
namespace Go.Proofs.YtgbgnlboogalgaaGreat
set_option linter.unusedVariables false
theorem drop_sl {α : Type} {enc : α → List Value} {sz : Nat} {w : World} {b off c j : Nat} {l : List α} (hS : Sl enc sz w (some ⟨b, off, none⟩) l) (hc : l.length ≤ c) : Sl enc sz w (some ⟨b, if c = j then off else off + j * sz, none⟩) (l.drop j) := fun i x hx => by
  rw [List.getElem?_drop] at hx
  have hlt := (List.getElem?_eq_some_iff.1 hx).1
  obtain ⟨b', off', h, hr⟩ := hS _ x hx
  cases h
  rw [if_neg (by omega)]
  refine ⟨_, _, rfl, ?_⟩
  rw [Nat.add_mul, ← Nat.add_assoc] at hr
  exact hr
end Go.Proofs.YtgbgnlboogalgaaGreat
namespace Go.Proofs.YtgbgnlboogalgaaGreat
set_option linter.unusedVariables false
section
variable {P : Program} {n : Nat} {Q : Exit → Act → World → Prop} {L : Env} {w w0 : World} {ops rest : List Oper} {ty : TypeId} {pos : String} {af : Array Edge} {g : Option (Nat × Bool)} {S : List Nat} {F : World → Prop}
/-- A function value. -/
def fnv (f : FuncId) (caps : List Value) : Value := .func (.func f) #[] caps.toArray
theorem ro_map : ∀ {cs : List Operand} {vs : List Value}, cs.map (ro L) = vs.map some → cs.map (rho L) = vs
  | [], vs, h => by cases vs <;> simp at h ⊢
  | x :: cs, [], h => by simp at h
  | x :: cs, v :: vs, h => by
    simp only [List.map_cons, List.cons.injEq] at h ⊢
    exact ⟨rho_of h.1, ro_map h.2⟩
theorem qmf {d : Option Nat} {f : FuncId} {cs : List Operand} {vs : List Value} (h : cs.map (ro L) = vs.map some) : Vals P S w0 F L ⟨d, .makeFunc (.func f) #[] cs.toArray, ty, pos, af, g⟩ (fnv f vs) := fun w _ _ => by
  have e : cs.map (rho L) = vs := ro_map h
  simp [execOp, Instr.makeFunc, fnv, e]
theorem run_callV {f : FuncId} [Fn : Fnc P f] {x : Operand} {args : List Operand} {vs caps : List Value} {tys : Array TypeId} {d : Option Nat} (hf : rho L x = fnv f caps) (he : Evs L args vs) :
    (execOp (rho L) ⟨d, .call ⟨.value x, args.toArray, tys⟩, ty, pos, af, g⟩).run P w = .ok (.enter f (vs ++ caps).toArray) w := by
  simp only [execOp, resolve, hf, fnv, Deferred.ofValue, he.arr]
  simp [invoke, Fn.run]
/-- A call of a function value in text order. -/
theorem SG.callV {d : Nat} {f : FuncId} [Fn : Fnc P f] {x : Operand} {args : List Operand} {vs caps : List Value} {tys : Array TypeId} (hd : Nat.blt d n = true) (hw : want ops L ⟨some d, .call ⟨.value x, args.toArray, tys⟩, ty, pos, af, g⟩ = some true) (hk : (Op.call ⟨.value x, args.toArray, tys⟩).operands.toList.all (known L) = true)
    (hf : rho L x = fnv f caps) (he : Evs L args vs) (hc : Calls P f (vs ++ caps).toArray w (fun e w' => ∃ v, e = .returned v ∧ SG P n ops Q rest ((d, v) :: L) w')) : SG P n ops Q (⟨some d, .call ⟨.value x, args.toArray, tys⟩, ty, pos, af, g⟩ :: rest) L w := by
  refine SG.op (by simpa using hd) rfl hw hk ?_
  unfold OpRun
  rw [run_callV (Fn := Fn) hf he]
  exact hc
theorem SG.retVC {d : Nat} {f : FuncId} [Fn : Fnc P f] {x : Operand} {args : List Operand} {vs caps : List Value} {tys : Array TypeId} {v : Value} (hd : Nat.blt d n = true) (hw : want ops L ⟨some d, .call ⟨.value x, args.toArray, tys⟩, ty, pos, af, g⟩ = some true) (hk : (Op.call ⟨.value x, args.toArray, tys⟩).operands.toList.all (known L) = true)
    (hf : rho L x = fnv f caps) (he : Evs L args vs) (hc : Ret P f (vs ++ caps).toArray w v) (h : ∀ w', Kp [] w w' → SG P n ops Q rest ((d, v) :: L) w') : SG P n ops Q (⟨some d, .call ⟨.value x, args.toArray, tys⟩, ty, pos, af, g⟩ :: rest) L w :=
  SG.callV (Fn := Fn) hd hw hk hf he (hc.mono (fun e w' ⟨h1, h2⟩ => ⟨v, h1, h w' h2⟩))
end
end Go.Proofs.YtgbgnlboogalgaaGreat
namespace Go.Proofs.YtgbgnlboogalgaaGreat
set_option linter.unusedVariables false
section
variable {P : Program} {L : Env} {ty : TypeId} {pos : String} {af : Array Edge} {g : Option (Nat × Bool)} {S : List Nat} {w0 w : World} {ops : List Oper} {gh : List Nat} {K : Env → (World → Prop) → (World → Prop) → Prop} {i : Nat} {ord : List Nat} {F R : World → Prop}
theorem orun_callV {f : FuncId} [Fn : Fnc P f] {x : Operand} {args : List Operand} {vs caps : List Value} {tys : Array TypeId} {d : Option Nat} {R : Value → World → Prop} (hf : rho L x = fnv f caps) (he : Evs L args vs) (h : Calls P f (vs ++ caps).toArray w (fun e w' => ∃ v, e = .returned v ∧ R v w')) :
    OpRun P (rho L) ⟨d, .call ⟨.value x, args.toArray, tys⟩, ty, pos, af, g⟩ w R := by
  unfold OpRun
  rw [run_callV (Fn := Fn) hf he]
  exact h
theorem Der.callGV {X : Type} {d : Nat} {f : FuncId} [Fn : Fnc P f] {x : Operand} {args : List Operand} {vs caps : List Value} {tys : Array TypeId} (val : X → Value) (F' R' : X → World → Prop)
    (ho : ops[i]? = some ⟨some d, .call ⟨.value x, args.toArray, tys⟩, ty, pos, af, g⟩) (hw : want ops L ⟨some d, .call ⟨.value x, args.toArray, tys⟩, ty, pos, af, g⟩ = some true) (hg : gh.elem i = true) (hk : (Op.call ⟨.value x, args.toArray, tys⟩).operands.toList.all (known L) = true)
    (hf : rho L x = fnv f caps) (he : Evs L args vs) (hF : ∀ x, Stab S (F' x)) (hR : ∀ x, Stab [] (R' x)) (hFs : Stab S F) (hc : ∀ w, Kp S w0 w → F w → R w → Calls P f (vs ++ caps).toArray w (fun e w' => ∃ x, e = .returned (val x) ∧ F' x w' ∧ R' x w' ∧ Kp S w w'))
    (hd : ∀ x, Der P S w0 ops gh K ord ((d, val x) :: L) (fun w => F w ∧ F' x w) (R' x)) : Der P S w0 ops gh K (i :: ord) L F R :=
  Der.ghost val F' R' ho hw hg hk hF hR hFs (fun w h1 h2 h3 => orun_callV (Fn := Fn) hf he ((hc w h1 h2 h3).mono (fun e w' ⟨x, g1, g2, g3, g4⟩ => ⟨val x, g1, x, rfl, g2, g3, g4⟩))) hd
end
end Go.Proofs.YtgbgnlboogalgaaGreat
namespace Go.Proofs.YtgbgnlboogalgaaGreat
open Go.Proofs
set_option linter.unusedVariables false
/-- What one number read leaves: what is wrong, the number, where it ends. -/
def rdE (l : List UInt8) (most : Nat) : Int := if lookE l ≠ 0 then lookE l else if most < lookN l then 2 else 0
theorem rdE_look {l : List UInt8} {most : Nat} (h : rdE l most = 0) : lookE l = 0 ∧ lookN l ≤ most := by
  unfold rdE at h
  by_cases h1 : lookE l = 0
  · rw [if_neg (fun h => h h1)] at h
    by_cases h2 : most < lookN l
    · rw [if_pos h2] at h; cases h
    · exact ⟨h1, by omega⟩
  · rw [if_pos h1] at h
    exact absurd h h1
theorem lookK_le {l : List UInt8} (h : lookE l = 0) : lookK l ≤ l.length ∧ 1 ≤ lookK l := by
  have := (look_ok h).2.1
  unfold lookK
  omega
def rdc (v : Value) (at' : Nat) (e : Int) : List Value := [v, .int .i64 (at' : Int), .int .i64 e]
theorem rdc_rows {w : World} {b : Nat} {T : TypeId} {v : Value} {p : Nat} {e : Int} (h : Blk w b (.cells (rdc v p e).toArray T)) : Row w b 0 [v] ∧ Row w b 1 [.int .i64 (p : Int)] ∧ Row w b 2 [.int .i64 e] :=
  ⟨Row.of h [] [.int .i64 (p : Int), .int .i64 e] rfl rfl, Row.of h [v] [.int .i64 e] rfl rfl, Row.of h [v, .int .i64 (p : Int)] [] rfl rfl⟩
theorem own_lt' {w : World} {base n sz : Nat} {v : Value} {T : TypeId} {xs : List Value} (ho : w.ownsRow base T sz v n xs) : ∀ b, v.ownBlock = some b → b < w.heap.size := by
  intro b hb
  rcases ho.2 with ⟨rfl, _⟩ | ⟨g, cap, cur, rfl, _, hg, _⟩
  · cases hb
  · cases hb
    exact (Array.getElem?_eq_some_iff.1 hg).1
theorem vals_fromA {P : Program} {S : List Nat} {w0 : World} {F : World → Prop} {L : Env} {d : Option Nat} {ty : TypeId} {pos : String} {af : Array Edge} {g : Option (Nat × Bool)} {T E : TypeId} [u : Ut P T (.slice E)] {sz : Nat} [f : Sz P E sz] {x lo : Operand} {a : Option Addr} {k : IntKind} (hx : ro L x = some (.slice a 0 0)) (hlo : ro L lo = some (.int k ((0 : Nat) : Int))) :
    Vals P S w0 F L ⟨d, .slice T x (some lo) none none, ty, pos, af, g⟩ (.slice a 0 0) := fun w _ _ => by
  obtain ⟨i, h2, h3⟩ := f.eq
  simp only [execOp, rho_of hx, Option.map_some, Option.map_none, rho_of hlo, Instr.sliceAt, Sem.run_bind, run_underlying u.eq, Result.andThen, Instr.slice, Instr.sliceBounds, Instr.sliceBound, asIntOf, Sem.run_pure]
  have h5 : (0 : Int) ≤ ((0 : Nat) : Int) ∧ ((0 : Nat) : Int) ≤ ((0 : Nat) : Int) := ⟨by omega, by omega⟩
  simp only [h5, and_self, if_true, Sem.run_pure, sizeOf, typeInfo, Sem.run_bind, run_program, Result.andThen, h2]
  cases a <;> simp
theorem bs_drop {w : World} {a : Option Addr} {c : Nat} {l : List UInt8} (h : Bs w a c l) {j : Nat} (hj : j ≤ l.length) : ∃ a', Bs w a' (c - j) (l.drop j) ∧ (∀ b off, a' = some ⟨b, off, none⟩ → ∃ off', a = some ⟨b, off', none⟩) ∧ ∀ {P : Program} {E T : TypeId} [f : Sz P E 1] [u : Ut P T (.slice E)] {S : List Nat} {w0 : World} {F : World → Prop} {L : Env} {d : Option Nat} {ty : TypeId} {pos : String} {af : Array Edge} {g : Option (Nat × Bool)} {x lo : Operand} {k : IntKind}, ro L x = some (.slice a l.length c) → ro L lo = some (.int k (j : Int)) →
    Vals P S w0 F L ⟨d, .slice T x (some lo) none none, ty, pos, af, g⟩ (.slice a' (l.drop j).length (c - j)) := by
  rcases h.some with ⟨rfl, rfl⟩ | ⟨b, off, rfl⟩ | ⟨rfl, rfl⟩
  rotate_right
  · have : j = 0 := by simpa using hj
    subst this
    refine ⟨a, ⟨Sl.nil, Nat.zero_le _, Or.inr (Or.inr ⟨rfl, rfl⟩), fun hn => absurd rfl hn⟩, fun b off e => ⟨off, e⟩, fun hx hlo => ?_⟩
    exact vals_fromA hx hlo
  · have : j = 0 := by simpa using hj
    subst this
    refine ⟨none, ⟨Sl.nil, Nat.zero_le _, Or.inl ⟨rfl, rfl⟩, fun _ _ _ e => (by cases e)⟩, fun b off e => (by cases e), fun hx hlo => ?_⟩
    exact vals_fromN (j := 0) hx hlo (Nat.le_refl _)
  · refine ⟨some ⟨b, if c = j then off else off + j * 1, none⟩, ⟨drop_sl h.sl h.len, ?_, Or.inr (Or.inl ⟨_, _, rfl⟩), fun hne b2 off2 e => ?_⟩, fun b2 off2 e => ?_, fun hx hlo => ?_⟩
    · rw [List.length_drop]
      have := h.len
      omega
    · cases e
      exact h.lt (fun h0 => hne (by rw [h0, List.drop_nil])) b off rfl
    · cases e
      exact ⟨off, rfl⟩
    · rw [List.length_drop]
      exact qfr hx hlo rfl ⟨hj⟩
attribute [local irreducible] CG NG SG Vals Der Row Blk MapIs IterAt addI xorI orI andI shlI shrI or8 lo7 dig7 runL lookE lookN lookK DerX
set_option maxHeartbeats 16000000 in
theorem num1_spec {w : World} {a : Option Addr} {c bm bn : Nat} {l : List UInt8} {most v : Nat} (hS : Bs w a c l) (hl : l.length ≤ 1000000000) (hm : Blk w bm (.cells #[.int .u64 (most : Int)] 107)) (hn : Blk w bn (.cells #[.int .u64 (v : Int)] 107)) :
    Calls Tryz.prog 104 #[.slice a l.length c, .pointer (some ⟨bm, 0, none⟩), .pointer (some ⟨bn, 0, none⟩)] w (fun e w' => e = .returned (.tuple #[.int .i64 (if rdE l most = 0 then (lookK l : Int) else 0), .int .i64 (rdE l most)]) ∧ Kp [bn] w w' ∧ Blk w' bn (.cells #[.int .u64 ((if rdE l most = 0 then lookN l else v : Nat) : Int)] 107)) := by
  refine enterL (args := [.slice a l.length c, .pointer (some ⟨bm, 0, none⟩), .pointer (some ⟨bn, 0, none⟩)]) Tryz.func104 rfl Tryz.ntmps104 rfl ?_
  have hfin : ∀ {z : Int} {w' : World}, Kp [] w w' → rdE l most = z → z ≠ 0 → (Ending.returned (.tuple #[.int .i64 0, .int .i64 z]) = .returned (.tuple #[.int .i64 (if rdE l most = 0 then (lookK l : Int) else 0), .int .i64 (rdE l most)]) ∧ Kp [bn] w w' ∧ Blk w' bn (.cells #[.int .u64 ((if rdE l most = 0 then lookN l else v : Nat) : Int)] 107)) := fun hk e hz => ⟨by rw [e, if_neg hz], hk.any, by rw [e, if_neg hz]; exact hn.kp0 hk⟩
  have hlk := look_spec hS hl
  repeat (first|apply cA|apply cB|apply cD|apply cE|refine cV rfl rfl rfl rfl (by first|((first|apply qmv|apply qas)<;>(exact rfl))|fail) ?_)
  refine SG.ret rfl rfl rfl (vs := [.slice a l.length c]) (by repeat' (first | exact True.intro | exact rho_of rfl | refine And.intro ?_ ?_)) hlk (fun w1 hk1 => ?_)
  by_cases h1 : lookE l = 0
  rotate_left
  · have e : rdE l most = lookE l := if_pos h1
    rw [if_neg h1, if_neg h1]
    generalize lookE l = z at h1 e
    repeat (first|apply cA|apply cB|apply cD|apply cE|apply cG|refine cV rfl rfl rfl rfl (by first|((first|apply qmv|apply qas|apply qni|apply qxt)<;>(first|exact rfl|exact dcf (by first|assumption|omega)|fail))|fail) ?_)
    refine cZ rfl (by exact rho_of rfl) rfl ?_
    repeat (first|apply cA|apply cB|apply cD|apply cE|apply cH|apply cK|apply NG.ret_block|refine cV rfl rfl rfl rfl (by first|((first|apply qmv|apply qas)<;>(exact rfl))|fail) ?_)
    refine ret2 (Or.inl rfl) Tryz.results104 (by first | exact ResV.tmp rfl | exact ResV.agg rfl rfl (by assumption) (by first | exact dc_length _ | exact nc_length _ | exact rc_length _ _ _ | exact ec_length _ | exact dl_length _ _ _ _ | rfl) | exact ResV.cell rfl rfl (by assumption)) (by first | exact ResV.tmp rfl | exact ResV.agg rfl rfl (by assumption) (by first | exact dc_length _ | exact nc_length _ | exact rc_length _ _ _ | exact ec_length _ | exact dl_length _ _ _ _ | rfl) | exact ResV.cell rfl rfl (by assumption)) ?_
    exact hfin hk1 e h1
  rw [if_pos h1, if_pos h1, h1]
  have hN := lookN_lt h1
  have h00 : (0 : Int) = 0 := rfl
  have hrm : Row w1 bm 0 [.int .u64 (most : Int)] := (Row.all (l := [.int .u64 (most : Int)]) hm rfl).kp0 hk1
  by_cases h2 : most < lookN l
  · have e : rdE l most = 2 := by
      unfold rdE
      rw [if_neg (fun h => h h1), if_pos h2]
    have g2 : (most : Int) < (lookN l : Int) := by omega
    clear hlk hN
    generalize lookN l = x at g2 hfin
    repeat (first|apply cA|apply cB|apply cD|apply cE|apply cG|refine cV rfl rfl rfl rfl (by first|((first|apply qmv|apply qas|apply qni|apply qxt)<;>(first|exact rfl|exact dct (by first|assumption|omega)|fail))|fail) ?_)
    refine dA rfl (by exact rho_of rfl) rfl ?_
    repeat (first|apply cA|apply cB|apply cD|apply cE|refine cV rfl rfl rfl rfl (by first|((first|apply qmv|apply qas|apply qlc|apply qgt)<;>(first|exact rfl|assumption|exact dct (by first|assumption|omega)|exact List.not_mem_nil|fail))|fail) ?_)
    refine cZ rfl (by exact rho_of rfl) rfl ?_
    repeat (first|apply cA|apply cB|apply cD|apply cE|apply cH|apply cK|apply NG.ret_block|refine cV rfl rfl rfl rfl (by first|(apply qas<;>(exact rfl))|fail) ?_)
    refine ret2 (Or.inl rfl) Tryz.results104 (by first | exact ResV.tmp rfl | exact ResV.agg rfl rfl (by assumption) (by first | exact dc_length _ | exact nc_length _ | exact rc_length _ _ _ | exact ec_length _ | exact dl_length _ _ _ _ | rfl) | exact ResV.cell rfl rfl (by assumption)) (by first | exact ResV.tmp rfl | exact ResV.agg rfl rfl (by assumption) (by first | exact dc_length _ | exact nc_length _ | exact rc_length _ _ _ | exact ec_length _ | exact dl_length _ _ _ _ | rfl) | exact ResV.cell rfl rfl (by assumption)) ?_
    exact hfin hk1 e (by decide)
  · have e : rdE l most = 0 := by
      unfold rdE
      rw [if_neg (fun h => h h1), if_neg h2]
    have g2 : ¬ (most : Int) < (lookN l : Int) := by omega
    rw [e, if_pos rfl, if_pos rfl]
    clear hlk hN hfin
    generalize lookN l = x at g2
    generalize lookK l = k
    repeat (first|apply cA|apply cB|apply cD|apply cE|apply cG|refine cV rfl rfl rfl rfl (by first|((first|apply qmv|apply qas|apply qni|apply qxt)<;>(first|exact rfl|exact dct (by first|assumption|omega)|fail))|fail) ?_)
    refine dA rfl (by exact rho_of rfl) rfl ?_
    repeat (first|apply cA|apply cB|apply cD|apply cE|refine cV rfl rfl rfl rfl (by first|((first|apply qmv|apply qas|apply qlc|apply qgt)<;>(first|exact rfl|assumption|exact dcf (by first|assumption|omega)|exact List.not_mem_nil|fail))|fail) ?_)
    refine dA rfl (by exact rho_of rfl) rfl ?_
    repeat (first|apply cA|apply cB|apply cE|apply cF|apply cU|refine cV rfl rfl rfl rfl (by first|(apply qmv<;>(exact rfl))|fail) ?_)
    refine SG.setAll1 rfl rfl (by exact rho_of rfl) (by exact rho_of rfl) (hn.kp0 hk1) rfl rfl (fun w2 hk2 hB2 => ?_)
    repeat (first|apply cA|apply cB|apply cD|apply cE|apply cH|refine cV rfl rfl rfl rfl (by first|((first|apply qmv|apply qas)<;>(exact rfl))|fail) ?_)
    refine ret2 (Or.inl rfl) Tryz.results104 (by first | exact ResV.tmp rfl | exact ResV.agg rfl rfl (by assumption) (by first | exact dc_length _ | exact nc_length _ | exact rc_length _ _ _ | exact ec_length _ | exact dl_length _ _ _ _ | rfl) | exact ResV.cell rfl rfl (by assumption)) (by first | exact ResV.tmp rfl | exact ResV.agg rfl rfl (by assumption) (by first | exact dc_length _ | exact nc_length _ | exact rc_length _ _ _ | exact ec_length _ | exact dl_length _ _ _ _ | rfl) | exact ResV.cell rfl rfl (by assumption)) ?_
    exact ⟨rfl, hk1.any.trans hk2, hB2⟩
/-- A reader behind a number. -/
def rdV (l : List UInt8) (p : Nat) (e : Int) (most : Nat) : Nat := if e = 0 ∧ rdE (l.drop p) most = 0 then lookN (l.drop p) else 0
def rdP (l : List UInt8) (p : Nat) (e : Int) (most : Nat) : Nat := if e = 0 ∧ rdE (l.drop p) most = 0 then p + lookK (l.drop p) else p
def rdS (l : List UInt8) (p : Nat) (e : Int) (most : Nat) : Int := if e = 0 then rdE (l.drop p) most else e
theorem blk_tne {w : World} {a b : Nat} {cs ds : Array Value} {T T' : TypeId} (ha : Blk w a (.cells cs T)) (hb : Blk w b (.cells ds T')) (hT : T ≠ T') : a ≠ b := fun e => by
  rw [e] at ha
  have := ha.uniq hb
  simp only [Obj.cells.injEq] at this
  exact hT this.2.1
set_option maxHeartbeats 16000000 in
theorem read_spec {w : World} {a : Option Addr} {br c bm bn p : Nat} {e : Int} {l : List UInt8} {most v : Nat} (hB : Blk w br (.cells (rdc (.slice a l.length c) p e).toArray 157)) (hS : Bs w a c l) (hp : p ≤ l.length) (hl : l.length ≤ 1000000000) (hm : Blk w bm (.cells #[.int .u64 (most : Int)] 107)) (hn : Blk w bn (.cells #[.int .u64 (v : Int)] 107)) (hab : ∀ b off, a = some ⟨b, off, none⟩ → b ≠ br) (hab2 : ∀ b off, a = some ⟨b, off, none⟩ → b ≠ bn) (hmn : bm ≠ bn) :
    Calls Tryz.prog 103 #[.pointer (some ⟨br, 0, none⟩), fnv 104 [.pointer (some ⟨bm, 0, none⟩), .pointer (some ⟨bn, 0, none⟩)]] w (fun e' w' => e' = .returned (.tuple #[]) ∧ Kp [br, bn] w w' ∧ Blk w' br (.cells (rdc (.slice a l.length c) (rdP l p e most) (rdS l p e most)).toArray 157) ∧ Blk w' bn (.cells #[.int .u64 ((if e = 0 ∧ rdE (l.drop p) most = 0 then lookN (l.drop p) else v : Nat) : Int)] 107)) := by
  refine enter2 Tryz.func103 rfl Tryz.ntmps103 rfl ?_
  have hne : br ≠ bn := blk_tne hB hn (by decide)
  obtain ⟨r0, r1, r2⟩ := rdc_rows hB
  by_cases he : e = 0
  rotate_left
  · repeat (first|apply cA|apply cB|apply cD|apply cE|refine cV rfl rfl rfl rfl (by first|((first|apply qep|apply qmv|apply qlc|apply qfa|apply qnc|apply qpk|apply qni|apply qep)<;>(first|exact rfl|assumption|exact dcf (by first|assumption|omega)|exact List.not_mem_nil|fail))|fail) ?_)
    refine cZ rfl (by exact rho_of rfl) rfl ?_
    repeat (first|apply cH|apply cK)
    refine ret0 (Or.inl rfl) Tryz.results103 ?_
    refine ⟨rfl, Kp.refl _ _, ?_, ?_⟩
    · unfold rdP rdS
      rw [if_neg (fun h => he h.1), if_neg he]
      exact hB
    · rw [if_neg (fun h => he h.1)]
      exact hn
  subst he
  have h00 : (0 : Int) = 0 := rfl
  obtain ⟨a', hS', hda, hdrop⟩ := bs_drop hS hp
  have hld : (l.drop p).length ≤ 1000000000 := by rw [List.length_drop]; omega
  have hpi : Ar (p ≤ 9223372036854775807) := ⟨by omega⟩
  repeat (first|apply cA|apply cB|apply cD|apply cE|refine cV rfl rfl rfl rfl (by first|((first|apply qep|apply qmv|apply qlc|apply qfa|apply qnc|apply qpk|apply qni|apply qep)<;>(first|exact rfl|assumption|exact dct (by first|assumption|omega)|exact List.not_mem_nil|fail))|fail) ?_)
  refine dA rfl (by exact rho_of rfl) rfl ?_
  repeat (first|apply cA|apply cE|apply cF)
  refine CG.draw mixed [0, 1, 2, 3, 4, 5, 6, 7, 8, 9, 10, 11, 12, 13, 14, 15] [10] [] [bn] (fun w' => Blk w' bn (.cells #[.int .u64 (v : Int)] 107)) (by kernel_rfl) (by simpa using hn.lt) (by simp) hn (fun w w' hk h => h.kp0 hk) (Or.inl rfl) ?_
  repeat (refine cY rfl rfl rfl (by first|((first|apply qmv|apply qlc|apply qfa|apply qnc)<;>(first|exact rfl|assumption|exact nm1 (by omega)|fail))|fail) ?_)
  refine cY rfl rfl rfl (hdrop rfl rfl) ?_
  refine Der.callGV (X := Unit) (vs := [.slice a' (l.drop p).length (c - p)]) (caps := [.pointer (some ⟨bm, 0, none⟩), .pointer (some ⟨bn, 0, none⟩)]) (fun _ => .tuple #[.int .i64 (if rdE (l.drop p) most = 0 then (lookK (l.drop p) : Int) else 0), .int .i64 (rdE (l.drop p) most)]) (fun _ _ => True) (fun _ w' => Blk w' bn (.cells #[.int .u64 ((if rdE (l.drop p) most = 0 then lookN (l.drop p) else v : Nat) : Int)] 107)) rfl rfl rfl rfl rfl (by repeat' (first | exact True.intro | exact rho_of rfl | refine And.intro ?_ ?_)) (fun _ _ _ _ h => h) (fun _ _ _ hk h => h.kp0 hk) (fun _ _ _ h => h) (fun W hk _ hR => (num1_spec (hS'.kp hk (fun b off e => by
    obtain ⟨off', e'⟩ := hda b off e
    exact nm1 (hab2 b off' e'))) hld (hm.kp hk (nm1 hmn)) hR).mono (fun e' w' ⟨h1, h2, h3⟩ => ⟨(), h1, trivial, h3, h2⟩)) (fun _ => ?_)
  generalize hz : rdE (l.drop p) most = z
  repeat (refine cY rfl rfl rfl (by first|((first|apply qmv|apply qas|apply qxt)<;>(exact rfl))|fail) ?_)
  refine Der.fin (fun w1 hk1 _ hR => ?_)
  have hB1 := hB.kp hk1 (nm1 hne)
  have hB1 : Blk w1 br (.cells (rdc (.slice a l.length c) p 0).toArray 157) := hB1
  clear r0 r1 r2 hdrop
  by_cases h0 : z = 0
  rotate_left
  · rw [if_neg h0]
    rw [if_neg h0] at hR
    repeat (first|apply cA|apply cB|apply cD|apply cE|refine cV rfl rfl rfl rfl (by first|((first|apply qmv|apply qni)<;>(first|exact rfl|exact dcf (by first|assumption|omega)|fail))|fail) ?_)
    refine cZ rfl (by exact rho_of rfl) rfl ?_
    repeat (first|apply cA|apply cB|refine cV rfl rfl rfl rfl (by first|((first|apply qmv|apply qfa|apply qnc)<;>(exact rfl))|fail) ?_)
    refine SG.setMid (pre := [.slice a l.length c, .int .i64 (p : Int)]) (old := [.int .i64 0]) (post := []) rfl rfl (by exact rho_of rfl) (by exact rho_of rfl) hB1 rfl rfl rfl rfl rfl (fun w2 hk2 hB2 => ?_)
    repeat (first|apply cD|apply cE|apply cH|apply cK)
    refine ret0 (Or.inl rfl) Tryz.results103 ?_
    refine ⟨rfl, (hk1.mono (by simp)).trans (hk2.mono (by simp)), ?_, ?_⟩
    · unfold rdP rdS
      rw [if_neg (fun h => h0 (by rw [← hz]; exact h.2)), if_pos rfl, hz]
      exact hB2
    · rw [if_neg (fun h => h0 h.2)]
      exact hR.kp hk2 (nm1 (fun e => hne e.symm))
  · subst h0
    rw [if_pos rfl]
    rw [if_pos rfl] at hR
    obtain ⟨hl0, hl1⟩ := rdE_look hz
    have hk0 := lookK_le hl0
    rw [List.length_drop] at hk0
    obtain ⟨-, r1, -⟩ := rdc_rows hB1
    generalize hkk : lookK (l.drop p) = kk at hk0
    repeat (first|apply cA|apply cB|apply cD|apply cE|refine cV rfl rfl rfl rfl (by first|((first|apply qmv|apply qni)<;>(first|exact rfl|exact dct (by first|assumption|omega)|fail))|fail) ?_)
    refine dA rfl (by exact rho_of rfl) rfl ?_
    repeat (first|apply cB|apply cE|apply cF|refine cV rfl rfl rfl rfl (by first|((first|apply qmv|apply qlc|apply qfa|apply qnc|apply qad)<;>(first|exact rfl|exact Ar.mk (by omega)|assumption|exact List.not_mem_nil|fail))|fail) ?_)
    refine SG.setMid (pre := [.slice a l.length c]) (old := [.int .i64 (p : Int)]) (post := [.int .i64 0]) rfl rfl (by exact rho_of rfl) (by exact rho_of rfl) hB1 rfl rfl rfl rfl rfl (fun w2 hk2 hB2 => ?_)
    repeat (first|apply cD)
    refine ret0 (Or.inr rfl) Tryz.results103 ?_
    refine ⟨rfl, (hk1.mono (by simp)).trans (hk2.mono (by simp)), ?_, ?_⟩
    · unfold rdP rdS
      rw [if_pos ⟨rfl, hz⟩, if_pos rfl, hz, hkk]
      exact hB2
    · rw [if_pos ⟨rfl, rfl⟩]
      exact hR.kp hk2 (nm1 (fun e => hne e.symm))
/-- A reader in memory. -/
structure RdAt (w : World) (br : Nat) (a : Option Addr) (c : Nat) (l : List UInt8) (p : Nat) (e : Int) : Prop where
  blk : Blk w br (.cells (rdc (.slice a l.length c) p e).toArray 157)
  bs : Bs w a c l
  le : p ≤ l.length
  ne : ∀ b off, a = some ⟨b, off, none⟩ → b ≠ br
  lt : ∀ b off, a = some ⟨b, off, none⟩ → b < w.heap.size
theorem rdP_le {l : List UInt8} {p : Nat} {e : Int} {most : Nat} (h : p ≤ l.length) : rdP l p e most ≤ l.length := by
  unfold rdP
  split
  · rename_i h2
    have h3 := lookK_le (rdE_look h2.2).1
    rw [List.length_drop] at h3
    omega
  · exact h
set_option maxHeartbeats 16000000 in
theorem num_rd {w : World} {a : Option Addr} {br c p : Nat} {e : Int} {l : List UInt8} (h : RdAt w br a c l p e) (hl : l.length ≤ 1000000000) (most : Nat) :
    Calls Tryz.prog 91 #[.pointer (some ⟨br, 0, none⟩), .int .u64 (most : Int)] w (fun e' w' => e' = .returned (.int .u64 (rdV l p e most : Int)) ∧ Kp [br] w w' ∧ RdAt w' br a c l (rdP l p e most) (rdS l p e most)) := by
  refine enter2 Tryz.func91 rfl Tryz.ntmps91 rfl ?_
  have lb := h.blk.lt
  repeat (first|apply cA|apply cB)
  refine SG.box rfl rfl rfl (by exact rho_of rfl) (fun bm w1 hk1 hbm hM => ?_)
  have lm := hM.lt
  repeat (first|apply cA|apply cB|apply cD|apply cE|refine cV rfl rfl rfl rfl (by first|(apply qas<;>(exact rfl))|fail) ?_)
  refine SG.alloc rfl rfl rfl (fun bn w2 hk2 hbn hN => ?_)
  have hM : Blk w2 bm (.cells #[.int .u64 (most : Int)] 107) := hM.kp0 hk2
  have hN : Blk w2 bn (.cells #[.int .u64 ((0 : Nat) : Int)] 107) := hN
  have s1 := hk1.size
  have k2 := hk1.trans hk2
  have hmn : bm ≠ bn := by omega
  have hv : (if e = 0 ∧ rdE (l.drop p) most = 0 then lookN (l.drop p) else 0 : Nat) = rdV l p e most := rfl
  repeat (first|apply cA|apply cB|apply cD|apply cE|refine cV rfl rfl rfl rfl (by first|(apply qmv<;>(exact rfl))|fail) ?_)
  refine cV rfl rfl rfl rfl (qmf (vs := [.pointer (some ⟨bm, 0, none⟩), .pointer (some ⟨bn, 0, none⟩)]) rfl) ?_
  refine SG.call rfl rfl rfl (vs := [.pointer (some ⟨br, 0, none⟩), fnv 104 [.pointer (some ⟨bm, 0, none⟩), .pointer (some ⟨bn, 0, none⟩)]]) (by repeat' (first | exact True.intro | exact rho_of rfl | refine And.intro ?_ ?_)) ((read_spec (most := most) (v := 0) (h.blk.kp0 k2) ((h.bs).kp k2 (fun _ _ _ => List.not_mem_nil)) h.le hl hM hN h.ne (fun b off e' => by have := h.lt b off e'; omega) hmn).mono (fun e' w3 hh => ?_))
  obtain ⟨he, hk3, hB3, hN3⟩ := hh
  refine ⟨_, he, ?_⟩
  clear he
  rw [hv] at hN3
  have hR5 : Row w3 bn 0 [.int .u64 (rdV l p e most : Int)] := Row.all (l := [.int .u64 (rdV l p e most : Int)]) hN3 rfl
  generalize rdV l p e most = v at hR5 hN3 hv
  repeat (first|apply cA|apply cB|apply cD|apply cE|apply cH|refine cV rfl rfl rfl rfl (by first|((first|apply qas|apply qlc)<;>(first|exact rfl|assumption|exact List.not_mem_nil))|fail) ?_)
  refine ret1 (Or.inl rfl) Tryz.results91 (by first | exact ResV.tmp rfl | exact ResV.agg rfl rfl (by assumption) (by first | exact dc_length _ | exact nc_length _ | exact rc_length _ _ _ | exact ec_length _ | exact dl_length _ _ _ _ | rfl) | exact ResV.cell rfl rfl (by assumption)) ?_
  have k3 : Kp [br] w w3 := k2.any.trans_new hk3 (fun x hx => by
    simp only [List.mem_cons, List.not_mem_nil, or_false] at hx
    rcases hx with rfl | rfl
    · exact Or.inl (List.mem_singleton.2 rfl)
    · exact Or.inr (by omega))
  exact ⟨rfl, k3, hB3, h.bs.kp k3 (fun b off e' => nm1 (h.ne b off e')), rdP_le h.le, h.ne, fun b off e' => Nat.lt_of_lt_of_le (h.lt b off e') k3.size⟩
set_option maxHeartbeats 16000000 in
theorem end_spec2 {w : World} {a : Option Addr} {br c p : Nat} {e : Int} {l : List UInt8} (h : RdAt w br a c l p e) (hl : l.length ≤ 1000000000) :
    Ret Tryz.prog 92 #[.pointer (some ⟨br, 0, none⟩)] w (.int .i64 (if e ≠ 0 then e else if p < l.length then 5 else 0)) := by
  have err : ∀ W, Kp [] w W → Ret Tryz.prog 106 #[.pointer (some ⟨br, 0, none⟩)] W (.int .i64 e) := fun W hk => by
    refine enter1 Tryz.func106 rfl Tryz.ntmps106 rfl ?_
    obtain ⟨-, -, r2⟩ := rdc_rows (h.blk.kp0 hk)
    repeat (first|apply cA|apply cB|apply cD|apply cE|refine cV rfl rfl rfl rfl (by first|((first|apply qep|apply qmv|apply qas|apply qep)<;>(exact rfl))|fail) ?_)
    refine dA rfl (by exact rho_of rfl) rfl ?_
    repeat (first|apply cA|apply cB|apply cD|apply cE|apply cF|apply cH|refine cV rfl rfl rfl rfl (by first|((first|apply qmv|apply qas|apply qlc|apply qfa|apply qnc)<;>(first|exact rfl|assumption|exact List.not_mem_nil))|fail) ?_)
    refine ret1 (Or.inl rfl) Tryz.results106 (by first | exact ResV.tmp rfl | exact ResV.agg rfl rfl (by assumption) (by first | exact dc_length _ | exact nc_length _ | exact rc_length _ _ _ | exact ec_length _ | exact dl_length _ _ _ _ | rfl) | exact ResV.cell rfl rfl (by assumption)) ?_
    exact ⟨rfl, Kp.refl _ _⟩
  have left : ∀ W, Kp [] w W → Ret Tryz.prog 107 #[.pointer (some ⟨br, 0, none⟩)] W (.int .i64 ((l.length : Int) - (p : Int))) := fun W hk => by
    refine enter1 Tryz.func107 rfl Tryz.ntmps107 rfl ?_
    obtain ⟨r0, r1, -⟩ := rdc_rows (h.blk.kp0 hk)
    have hp := h.le
    repeat (first|apply cA|apply cB|apply cD|apply cE|refine cV rfl rfl rfl rfl (by first|((first|apply qep|apply qmv|apply qas|apply qep)<;>(exact rfl))|fail) ?_)
    refine dA rfl (by exact rho_of rfl) rfl ?_
    repeat (first|apply cA|apply cE|apply cF)
    refine CG.draw0 mixed [0, 1, 2, 3, 4, 5, 6, 7, 8, 9, 10] [] (by kernel_rfl) ?_
    repeat (refine cY rfl rfl rfl (by first|((first|apply qmv|apply qas|apply qlc|apply qfa|apply qnc|apply qln|apply qsb)<;>(first|exact rfl|exact Ar.mk (by omega)|assumption|exact List.not_mem_nil|fail))|fail) ?_)
    refine Der.fin (fun w1 hk1 _ _ => ?_)
    repeat (first|apply cE|apply cH)
    refine ret1 (Or.inl rfl) Tryz.results107 (by first | exact ResV.tmp rfl | exact ResV.agg rfl rfl (by assumption) (by first | exact dc_length _ | exact nc_length _ | exact rc_length _ _ _ | exact ec_length _ | exact dl_length _ _ _ _ | rfl) | exact ResV.cell rfl rfl (by assumption)) ?_
    exact ⟨rfl, hk1⟩
  refine enter1 Tryz.func92 rfl Tryz.ntmps92 rfl ?_
  have hp := h.le
  repeat (first|apply cA|apply cB|apply cD|apply cE|apply cG|refine cV rfl rfl rfl rfl (by first|((first|apply qmv|apply qas)<;>(exact rfl))|fail) ?_)
  refine SG.ret rfl rfl rfl (vs := [.pointer (some ⟨br, 0, none⟩)]) (by repeat' (first | exact True.intro | exact rho_of rfl | refine And.intro ?_ ?_)) (err w (Kp.refl _ _)) (fun w1 hk1 => ?_)
  by_cases he : e = 0
  rotate_left
  · rw [if_pos he]
    repeat (first|apply cD|apply cE|refine cV rfl rfl rfl rfl (by first|((first|apply qas|apply qni)<;>(first|exact rfl|exact dcf (by first|assumption|omega)|fail))|fail) ?_)
    refine cZ rfl (by exact rho_of rfl) rfl ?_
    repeat (first|apply cA|apply cB|refine cV rfl rfl rfl rfl (by first|(apply qmv<;>(exact rfl))|fail) ?_)
    refine SG.ret rfl rfl rfl (vs := [.pointer (some ⟨br, 0, none⟩)]) (by repeat' (first | exact True.intro | exact rho_of rfl | refine And.intro ?_ ?_)) (err w1 hk1) (fun w2 hk2 => ?_)
    repeat (first|apply cD|apply cE|apply cH|apply cK|apply NG.ret_block|refine cV rfl rfl rfl rfl (by first|(apply qas<;>(exact rfl))|fail) ?_)
    refine ret1 (Or.inl rfl) Tryz.results92 (by first | exact ResV.tmp rfl | exact ResV.agg rfl rfl (by assumption) (by first | exact dc_length _ | exact nc_length _ | exact rc_length _ _ _ | exact ec_length _ | exact dl_length _ _ _ _ | rfl) | exact ResV.cell rfl rfl (by assumption)) ?_
    exact ⟨rfl, hk1.trans hk2⟩
  rw [if_neg (fun h => h he)]
  repeat (first|apply cD|apply cE|refine cV rfl rfl rfl rfl (by first|((first|apply qas|apply qni)<;>(first|exact rfl|exact dct (by first|assumption|omega)|fail))|fail) ?_)
  refine dA rfl (by exact rho_of rfl) rfl ?_
  repeat (first|apply cA|apply cB|refine cV rfl rfl rfl rfl (by first|(apply qmv<;>(exact rfl))|fail) ?_)
  refine SG.ret rfl rfl rfl (vs := [.pointer (some ⟨br, 0, none⟩)]) (by repeat' (first | exact True.intro | exact rho_of rfl | refine And.intro ?_ ?_)) (left w1 hk1) (fun w2 hk2 => ?_)
  by_cases hlt : p < l.length
  · have g1 : (0 : Int) < (l.length : Int) - (p : Int) := by omega
    rw [if_pos hlt]
    repeat (first|apply cD|apply cE|refine cV rfl rfl rfl rfl (by first|((first|apply qas|apply qgt)<;>(first|exact rfl|exact dct (by first|assumption|omega)|fail))|fail) ?_)
    refine cZ rfl (by exact rho_of rfl) rfl ?_
    repeat (first|apply cA|apply cB|apply cD|apply cE|apply cH|apply cK|apply NG.ret_block|refine cV rfl rfl rfl rfl (by first|(apply qas<;>(exact rfl))|fail) ?_)
    refine ret1 (Or.inl rfl) Tryz.results92 (by first | exact ResV.tmp rfl | exact ResV.agg rfl rfl (by assumption) (by first | exact dc_length _ | exact nc_length _ | exact rc_length _ _ _ | exact ec_length _ | exact dl_length _ _ _ _ | rfl) | exact ResV.cell rfl rfl (by assumption)) ?_
    exact ⟨rfl, hk1.trans hk2⟩
  · have g1 : ¬ (0 : Int) < (l.length : Int) - (p : Int) := by omega
    rw [if_neg hlt]
    repeat (first|apply cD|apply cE|refine cV rfl rfl rfl rfl (by first|((first|apply qas|apply qgt)<;>(first|exact rfl|exact dcf (by first|assumption|omega)|fail))|fail) ?_)
    refine dA rfl (by exact rho_of rfl) rfl ?_
    repeat (first|apply cA|apply cB|apply cD|apply cE|apply cF|apply cH|apply cU|refine cV rfl rfl rfl rfl (by first|(apply qas<;>(exact rfl))|fail) ?_)
    refine ret1 (Or.inl rfl) Tryz.results92 (by first | exact ResV.tmp rfl | exact ResV.agg rfl rfl (by assumption) (by first | exact dc_length _ | exact nc_length _ | exact rc_length _ _ _ | exact ec_length _ | exact dl_length _ _ _ _ | rfl) | exact ResV.cell rfl rfl (by assumption)) ?_
    exact ⟨rfl, hk1.trans hk2⟩
theorem brd (a : Option Addr) (n c : Nat) (w : World) : (Instr.build 157 #[(0, .slice a n c)]).run Tryz.prog w = .ok (.agg (rdc (.slice a n c) 0 0).toArray) w := by kernel_rfl
set_option maxHeartbeats 16000000 in
theorem newrd_spec {w : World} {a : Option Addr} {c : Nat} {l : List UInt8} (hS : Bs w a c l) (hl : l.length ≤ 100000000) :
    Calls Tryz.prog 89 #[.slice a l.length c] w (fun e' w' => ∃ br a' c', e' = .returned (.pointer (some ⟨br, 0, none⟩)) ∧ Kp [] w w' ∧ w.heap.size ≤ br ∧ RdAt w' br a' c' l 0 0) := by
  refine enter1 Tryz.func89 rfl Tryz.ntmps89 rfl ?_
  repeat (first|apply cA|apply cB|apply cD|apply cE|refine cV rfl rfl rfl rfl (by first|((first|apply qmv|apply qas)<;>(exact rfl))|fail) ?_)
  refine SG.call rfl rfl rfl (vs := [.slice a l.length c, .int .i64 ((0 : Nat) : Int)]) (by repeat' (first | exact True.intro | exact rho_of rfl | refine And.intro ?_ ?_)) ((fresh_spec (c := c) hS.sl 0 (by omega)).mono (fun e w1 hh => ?_))
  obtain ⟨v, he, ho, hk1⟩ := hh
  refine ⟨_, he, ?_⟩
  clear he
  obtain ⟨a', c', rfl, hB⟩ := Bs.own ho
  refine cV rfl rfl rfl rfl (vals_build rfl (brd a' l.length c')) ?_
  refine SG.box rfl rfl rfl (by exact rho_of rfl) (fun br w2 hk2 hbr hB2 => ?_)
  repeat (first|apply cD|apply cE|apply cH|refine cV rfl rfl rfl rfl (by first|(apply qas<;>(exact rfl))|fail) ?_)
  refine ret1 (Or.inl rfl) Tryz.results89 (by first | exact ResV.tmp rfl | exact ResV.agg rfl rfl (by assumption) (by first | exact dc_length _ | exact nc_length _ | exact rc_length _ _ _ | exact ec_length _ | exact dl_length _ _ _ _ | rfl) | exact ResV.cell rfl rfl (by assumption)) ?_
  refine ⟨br, a', c', rfl, hk1.trans hk2, by have := hk1.size; omega, hB2, hB.kp hk2 (fun _ _ _ => List.not_mem_nil), Nat.zero_le _, fun b off e => ?_, fun b off e => ?_⟩
  · have := own_lt' ho b (by subst e; rfl)
    omega
  · have := own_lt' ho b (by subst e; rfl)
    have := hk2.size
    omega
end Go.Proofs.YtgbgnlboogalgaaGreat
namespace Go.Proofs.YtgbgnlboogalgaaGreat
set_option linter.unusedVariables false
section
variable {P : Program} {n : Nat} {ops : List Oper} {Q : Exit → Act → World → Prop} {w0 : World} {L : Env} {G : List (Nat × GD)} {K : Env → List Fact → Prop} {Γ : List Fact} {i : Nat} {ord : List Nat} {ty : TypeId} {pos : String} {af : Array Edge} {g : Option (Nat × Bool)}
/-- What is promised of a slice written out: its block. -/
def gB (m : Nat) (E : TypeId) (k : Nat) (cs : Array Value) : GD := ⟨Nat, 0, fun b => .slice (some ⟨b, 0, none⟩) k k, fun b w => m ≤ b ∧ Blk w b (.cells cs E)⟩
/-- .. of something that holds such a slice. -/
def gW (m : Nat) (E : TypeId) (k : Nat) (cs : Array Value) (mk : Value → Value) : GD := ⟨Nat, 0, fun b => mk (.slice (some ⟨b, 0, none⟩) k k), fun b w => m ≤ b ∧ Blk w b (.cells cs E)⟩
/-- .. of a variable just made. -/
def gA (m : Nat) (T : TypeId) (cs : Array Value) : GD := ⟨Nat, 0, fun b => .pointer (some ⟨b, 0, none⟩), fun b w => m ≤ b ∧ Blk w b (.cells cs T)⟩
end
section
variable {P : Program} {S : List Nat} {w0 : World} {F : World → Prop} {L : Env} {d : Option Nat} {ty : TypeId} {pos : String} {af : Array Edge} {g : Option (Nat × Bool)}
end
end Go.Proofs.YtgbgnlboogalgaaGreat
namespace Go.Proofs.YtgbgnlboogalgaaGreat
set_option linter.unusedVariables false
section
variable {P : Program} {n : Nat} {ops : List Oper} {Q : Exit → Act → World → Prop} {w0 : World} {L : Env} {G : List (Nat × GD)} {K : Env → List Fact → Prop} {Γ : List Fact} {i : Nat} {ord : List Nat} {ty : TypeId} {pos : String} {af : Array Edge} {g : Option (Nat × Bool)}
/-- What is promised of the bytes of a string, and of what holds them. -/
def gT (l : List UInt8) (mk : Value → Value) : GD := ⟨Nat × Nat, (0, 0), fun q => mk (.slice (some ⟨q.1, 0, none⟩) l.length q.2), fun q w => Sl (fun u : UInt8 => [bv u]) 1 w (some ⟨q.1, 0, none⟩) l⟩
/-- .. of an owned row, and of what holds it. -/
def gOW {α : Type} (m : Nat) (E : TypeId) (enc : α → List Value) (sz : Nat) (l : List α) (mk : Value → Value) : GD := ⟨Value, undef, mk, fun v w => w.ownsRow m E sz v l.length (flt enc l)⟩
end
end Go.Proofs.YtgbgnlboogalgaaGreat
namespace Go.Proofs.YtgbgnlboogalgaaGreat
set_option linter.unusedVariables false
section
variable {P : Program} {n : Nat} {ops : List Oper} {Q : Exit → Act → World → Prop} {w0 : World} {L : Env} {G : List (Nat × GD)} {K : Env → List Fact → Prop} {Γ : List Fact} {i : Nat} {ord : List Nat} {ty : TypeId} {pos : String} {af : Array Edge} {g : Option (Nat × Bool)}
theorem gd_all {q : GD → Prop} {i : Nat} (h0 : q GD.none) : ∀ {G : List (Nat × GD)}, (∀ p ∈ G, p.1 ≠ i → q p.2) → ∀ j, j ≠ i → q (gdOf G j)
  | [], _, j, _ => h0
  | (k, D) :: G, h, j, hj => by
    unfold gdOf
    simp only [gdLook]
    by_cases e : k = j
    · subst e
      simp
      exact h _ List.mem_cons_self hj
    · have h1 : Nat.beq k j = false := by rw [← Bool.not_eq_true, Nat.beq_eq]; exact e
      rw [h1]
      exact gd_all h0 (fun p hp => h p (List.mem_cons_of_mem _ hp)) j hj
/-- A variable just made, whatever it comes to hold. -/
def gV (m : Nat) (T : TypeId) (k : Nat) : GD := ⟨Nat, 0, fun b => .pointer (some ⟨b, 0, none⟩), fun b w => m ≤ b ∧ ∃ cs, Blk w b (.cells cs T) ∧ cs.size = k⟩
theorem gV_stab {m : Nat} {T : TypeId} {k : Nat} (x : (gV m T k).X) : Stab [] ((gV m T k).phi x) := fun w w' hk ⟨h1, cs, h2, h3⟩ => ⟨h1, cs, h2.kp0 hk, h3⟩
theorem DerX.allocV {m d k : Nat} {T : TypeId} {inf : TypeInfo} [f : Inf P T inf] {z : Value} (hz : inf.zero = some z) (hzs : Nat.beq z.cells.size k = true) (hg : gdLook G i = some (gV m T k))
    (ho : ops[i]? = some ⟨some d, .alloc T, ty, pos, af, g⟩) (hw : want ops L ⟨some d, .alloc T, ty, pos, af, g⟩ = some true) (hm : m ≤ w0.heap.size)
    (h : ∀ b : Nat, DerX P w0 ops G K ord ((d, .pointer (some ⟨b, 0, none⟩)) :: L) ((i, fun w => m ≤ b ∧ ∃ cs, Blk w b (.cells cs T) ∧ cs.size = k) :: Γ)) : DerX P w0 ops G K (i :: ord) L Γ := by
  refine DerX.eff (gV m T k) hg ho hw (by simp [Op.operands]) (fun w h1 h2 => ?_) h
  unfold OpRun
  have : (execOp (rho L) ⟨some d, .alloc T, ty, pos, af, g⟩).run P w = .ok (.value (.pointer (some ⟨w.heap.size, 0, none⟩))) { w with heap := w.heap.push (.cells z.cells T) } := by
    simp [execOp, run_alloc hz, Result.andThen]
  rw [this]
  exact ⟨w.heap.size, rfl, ⟨Nat.le_trans hm h1.size, _, Blk.push w _, Nat.eq_of_beq_eq_true hzs⟩, Kp.push w _ rfl⟩
theorem gV_keep {m b k : Nat} {T : TypeId} {y : Nat} {w w' : World} {l : List Value} (hl : l.length = k) (hk : Kp [b] w w') (hb : Blk w' b (.cells l.toArray T)) (h : (gV m T k).phi y w) : (gV m T k).phi y w' := by
  obtain ⟨h1, cs, h2, h3⟩ := h
  by_cases e : y = b
  · subst e
    exact ⟨h1, _, hb, by simpa using hl⟩
  · exact ⟨h1, cs, h2.kp hk (nm1 e), h3⟩
/-- .. filled. -/
def gP (m : Nat) (T : TypeId) : GD := ⟨Nat × Array Value, (0, #[]), fun _ => undef, fun q w => m ≤ q.1 ∧ Blk w q.1 (.cells q.2 T)⟩
theorem gP_stab {m : Nat} {T : TypeId} (x : (gP m T).X) : Stab [] ((gP m T).phi x) := fun w w' hk h => ⟨h.1, h.2.kp0 hk⟩
/-- An owned row, as the slice that it is, and what holds it. -/
def gOP {α : Type} (m : Nat) (E : TypeId) (enc : α → List Value) (sz : Nat) (l : List α) (mk : Value → Value) : GD := ⟨Option Addr × Nat, (none, 0), fun q => mk (.slice q.1 l.length q.2), fun q w => w.ownsRow m E sz (.slice q.1 l.length q.2) l.length (flt enc l)⟩
theorem gOP_stab {α : Type} {m : Nat} {E : TypeId} {enc : α → List Value} {sz : Nat} {l : List α} {mk : Value → Value} (x : (gOP m E enc sz l mk).X) : Stab [] ((gOP m E enc sz l mk).phi x) := fun w w' hk h => own_kp0 h hk
end
end Go.Proofs.YtgbgnlboogalgaaGreat
namespace Go.Proofs.YtgbgnlboogalgaaGreat
set_option linter.unusedVariables false
/-- In place. -/
def Room (e : TypeId) (w : World) (v v' : Value) (n m : Nat) : Prop := ∃ g cap cur, v = .slice (some ⟨g, 0, none⟩) n cap ∧ Blk w g (.cells cur e) ∧ n + m ≤ cap ∧ v' = .slice (some ⟨g, 0, none⟩) (n + m) cap
theorem run_appendR {P : Program} {w : World} {base : Nat} {t ty e : TypeId} {i : TypeInfo} [u : Ut P t (.slice e)] [f : Inf P e i] {z : Value} (hz : i.zero = some z) (hzs : z.cells.size = i.size) (hsz : 0 < i.size)
    {v : Value} {n : Nat} {xs : List Value} (hown : w.ownsRow base e i.size v n xs) {b off m c : Nat} {news : List Value} (hl : news.length = m * i.size) (hr : Row w b off news) (h1 : allOne news = true) (hm : 0 < m)
    (h63 : n + m ≤ maxLen) (hbytes : (n + m) * i.bytes ≤ 140737488355328) (hbase : base ≤ w.heap.size) :
    ∃ v' w', (Builtin.append_ #[t, t] ty #[v, .slice (some ⟨b, off, none⟩) m c]).run P w = .ok v' w' ∧ w'.ownsRow base e i.size v' (n + m) (xs ++ news) ∧ Kp (ownB v) w w' ∧ (Kp [] w w' ∨ Room e w v v' n m) := by
  obtain ⟨v', w', hrun, hown', hkp⟩ := run_append (P := P) (ty := ty) (d := .bool) (c := c) (u := u) (f := f) hz hzs hsz hown hl hr h1 h63 hbytes hbase
  refine ⟨v', w', hrun, hown', hkp, ?_⟩
  have hnews : ∀ j u, news[j]? = some u → w.cell? ((⟨b, off, none⟩ : Addr).add j) = some u := fun j u hu => by rw [add_none]; exact hr.cell hu
  have h1' : ∀ u ∈ news, u.oneCell' = true := fun u hu => by rw [one_iff]; exact List.all_eq_true.1 h1 u hu
  rcases hown.2 with ⟨rfl, rfl⟩ | ⟨g, cap, cur, rfl, hbg, hg, hnc, hcm, hcs, htake⟩
  · exact Or.inl (by simpa [ownB, Value.ownBlock] using hkp)
  · by_cases hroom : n + m ≤ cap
    · have hfit : n * i.size + news.length ≤ cur.size := by rw [hl, hcs, ← Nat.add_mul]; exact Nat.mul_le_mul_right _ hroom
      have hr2 := run_append_room (P := P) w t ty e i u.eq f.eq g n cap cur hg ⟨b, off, none⟩ m c news hl hnews h1' hroom hfit
      rw [hr2] at hrun
      cases hrun
      exact Or.inr ⟨g, cap, cur, rfl, hg, hroom, rfl⟩
    · have holds : ∀ j u, xs[j]? = some u → w.cell? ((⟨g, 0, none⟩ : Addr).add j) = some u := hown.cells (g := g) rfl
      have hr2 := run_append_grow (P := P) w t ty e i z u.eq f.eq hz ⟨g, 0, none⟩ n cap xs hown.1 holds ⟨b, off, none⟩ m c news hl hnews (by omega) (by simp only [maxLen] at h63; omega) (growslice_fits (by omega) hbytes)
      rw [hr2] at hrun
      cases hrun
      exact Or.inl (Kp.alloc_drew w _ rfl)
section
variable {w w' : World} {base n m sz : Nat} {e : TypeId} {v v' : Value} {xs news : List Value}
end
section
variable {P : Program} {n : Nat} {ops : List Oper} {Q : Exit → Act → World → Prop} {w0 : World} {L : Env} {G : List (Nat × GD)} {K : Env → List Fact → Prop} {Γ : List Fact} {i : Nat} {ord : List Nat} {ty : TypeId} {pos : String} {af : Array Edge} {g : Option (Nat × Bool)}
end
end Go.Proofs.YtgbgnlboogalgaaGreat
namespace Go.Proofs.YtgbgnlboogalgaaGreat
set_option linter.unusedVariables false
theorem ownB_mem {v : Value} {z : Nat} (hz : z ∈ ownB v) : v.ownBlock = some z := by
  unfold ownB at hz
  split at hz
  · rename_i b hb
    rw [List.mem_singleton] at hz
    rw [hb, hz]
  · cases hz
end Go.Proofs.YtgbgnlboogalgaaGreat
