import Derived.Test.YtgbgnlboogalgaaGreatZy2
namespace Go.Proofs.YtgbgnlboogalgaaGreat
set_option linter.unusedVariables false
section
variable {α : Type} {enc : α → List Value} {sz : Nat}
theorem flt_set (he : ∀ x, (enc x).length = sz) (l : List α) (k : Nat) (hk : k < l.length) (x : α) (pre post : List Value) : spl (pre ++ (flt enc l ++ post)) (pre.length + k * sz) (enc x) = pre ++ (flt enc (l.set k x) ++ post) := by
  have h1 : pre ++ (flt enc l ++ post) = (pre ++ flt enc (l.take k)) ++ (enc l[k] ++ (flt enc (l.drop (k + 1)) ++ post)) := by rw [flt_split l k hk]; simp
  have h2 : (pre ++ flt enc (l.take k)).length = pre.length + k * sz := by
    rw [List.length_append, flt_length he, List.length_take, Nat.min_eq_left (by omega)]
  rw [h1, ← h2, spl_mid (by simp [he])]
  rw [List.set_eq_take_append_cons_drop, if_pos hk]
  simp [flt]
theorem own_slice {w : World} {base n : Nat} {T : TypeId} {v : Value} {xs : List Value} (ho : w.ownsRow base T sz v n xs) (hn : 0 < n) : ∃ g cap, v = .slice (some ⟨g, 0, none⟩) n cap ∧ n ≤ cap := by
  rcases ho.2 with ⟨_, h⟩ | ⟨g, cap, cur, h, _, _, h2, _⟩
  · omega
  · exact ⟨g, cap, h, h2⟩
theorem own_at {w : World} {base cap g : Nat} {T : TypeId} {l : List α} {n : Nat} (he : ∀ x, (enc x).length = sz) (ho : w.ownsRow base T sz (.slice (some ⟨g, 0, none⟩) n cap) n (flt enc l)) (hn : l.length = n) {k : Nat} (hk : k < l.length) : Row w g (0 + k * sz) (enc l[k]) := by
  obtain ⟨a, c, h1, _, hS⟩ := Sl.own he ho hn
  cases h1
  exact hS.row (List.getElem?_eq_getElem hk)
/-- One is written over. -/
theorem own_store {P : Program} {w : World} {base cap g n : Nat} {T : TypeId} {inf : TypeInfo} [f : Inf P T inf] {l : List α} (he : ∀ x, (enc x).length = inf.size) (hone : ∀ x, allOne (enc x) = true) (ho : w.ownsRow base T inf.size (.slice (some ⟨g, 0, none⟩) n cap) n (flt enc l)) (hn : l.length = n) {k : Nat} (hk : k < l.length) (x : α) :
    ∃ w', (Instr.storeAt T (.pointer (some ⟨g, 0 + k * inf.size, none⟩)) (.agg (enc x).toArray)).run P w = .ok () w' ∧ w'.ownsRow base T inf.size (.slice (some ⟨g, 0, none⟩) n cap) n (flt enc (l.set k x)) ∧ Kp [g] w w' := by
  rcases ho with ⟨h1, ⟨h2, _⟩ | ⟨g', cap', cur, h2, hb, hg, hc1, hc2, hc3, hc4⟩⟩
  · cases h2
  · cases h2
    have hB : Blk w g (.cells cur T) := hg
    have hlt : k * inf.size + inf.size ≤ n * inf.size := by
      have : (k + 1) * inf.size ≤ n * inf.size := Nat.mul_le_mul_right _ (by omega)
      rwa [Nat.add_mul, Nat.one_mul] at this
    have hle : n * inf.size ≤ cap * inf.size := Nat.mul_le_mul_right _ hc1
    have hcells : (Value.agg (enc x).toArray).cells.toList = enc x := by simp [Value.cells]
    have hrun := run_storeAt (P := P) (T := T) (off := 0 + k * inf.size) (v := .agg (enc x).toArray) hB (by rw [hcells]; exact he x) (by rw [hcells, he x]; omega) (by rw [hcells]; exact hone x)
    rw [hcells] at hrun
    refine ⟨_, hrun, ⟨by rw [flt_length he, List.length_set, hn], Or.inr ⟨g, cap, _, rfl, hb, hB.set _, hc1, hc2, ?_, ?_⟩⟩, Kp.set w hB rfl rfl⟩
    · have := spl_length (cs := cur.toList) (off := 0 + k * inf.size) (l := enc x) (by rw [he x]; simp; omega)
      rw [List.size_toArray, this]
      simpa using hc3
    · have hsplit : cur.toList = [] ++ (flt enc l ++ cur.toList.drop (n * inf.size)) := by
        rw [List.nil_append]
        conv => lhs; rw [← List.take_append_drop (n * inf.size) cur.toList]
        rw [hc4]
      have hset := flt_set he l k hk x [] (cur.toList.drop (n * inf.size))
      rw [← hsplit, List.length_nil, List.nil_append] at hset
      rw [List.toList_toArray, hset]
      refine (List.take_append_of_le_length ?_).trans (List.take_of_length_le ?_)
      · rw [flt_length he, List.length_set, hn]; exact Nat.le_refl _
      · rw [flt_length he, List.length_set, hn]; exact Nat.le_refl _
end
section
variable {P : Program} {α : Type} {enc : α → List Value} {m : Nat} {Q : Exit → Act → World → Prop} {ops rest : List Oper} {L : Env} {w : World} {ty : TypeId} {pos : String} {af : Array Edge} {q : Option (Nat × Bool)}
/-- .. in text order. -/
theorem SG.storeO {base cap g n : Nat} {T : TypeId} {inf : TypeInfo} [f : Inf P T inf] {l : List α} {a x : Operand} {y : α} {k o : Nat} (he : ∀ x, (enc x).length = inf.size) (hone : ∀ x, allOne (enc x) = true) (hw : want ops L ⟨none, .store T a x, ty, pos, af, q⟩ = some true) (hk : (known L a && known L x) = true)
    (ha : rho L a = .pointer (some ⟨g, o, none⟩)) (ho' : o = 0 + k * inf.size) (hx : rho L x = .agg (enc y).toArray) (ho : w.ownsRow base T inf.size (.slice (some ⟨g, 0, none⟩) n cap) n (flt enc l)) (hn : l.length = n) (hkl : k < l.length)
    (h : ∀ w', Kp [g] w w' → w'.ownsRow base T inf.size (.slice (some ⟨g, 0, none⟩) n cap) n (flt enc (l.set k y)) → SG P m ops Q rest L w') : SG P m ops Q (⟨none, .store T a x, ty, pos, af, q⟩ :: rest) L w := by
  subst ho'
  refine SG.op rfl rfl hw (by simpa [Op.operands] using hk) ?_
  obtain ⟨w', h1, h2, h3⟩ := own_store (P := P) he hone ho hn hkl y
  unfold OpRun
  have : (execOp (rho L) ⟨none, .store T a x, ty, pos, af, q⟩).run P w = .ok .skip w' := by
    simp only [execOp, hx, ha, Sem.run_bind, h1, Result.andThen, Sem.run_pure]
  rw [this]
  exact h w' h3 h2
end
end Go.Proofs.YtgbgnlboogalgaaGreat
namespace Go.Proofs.YtgbgnlboogalgaaGreat
set_option linter.unusedVariables false
theorem own_neb {w : World} {base n sz : Nat} {T T' : TypeId} {v : Value} {xs : List Value} {z : Nat} {cs : Array Value} (ho : w.ownsRow base T sz v n xs) (hT : T' ≠ T) (hz : Blk w z (.cells cs T')) : ∀ b, v.ownBlock = some b → b ∉ [z] := by
  intro b hb hm
  rw [List.mem_singleton] at hm
  subst hm
  rcases ho.2 with ⟨rfl, _⟩ | ⟨g, cap, cur, rfl, _, hg, _⟩
  · cases hb
  · cases hb
    have := hz.uniq hg
    simp only [Obj.cells.injEq] at this
    exact hT this.2.1
theorem own_lt {w : World} {base n sz : Nat} {T : TypeId} {v : Value} {xs : List Value} (ho : w.ownsRow base T sz v n xs) : ∀ b, v.ownBlock = some b → b < w.heap.size := by
  intro b hb
  rcases ho.2 with ⟨rfl, _⟩ | ⟨g, cap, cur, rfl, _, hg, _⟩
  · cases hb
  · cases hb
    exact (Array.getElem?_eq_some_iff.1 hg).1
theorem ownB_of {v : Value} {b : Nat} (h : v.ownBlock = some b) : b ∈ ownB v := by
  unfold ownB
  rw [h]
  simp
theorem own_geB {w : World} {base n : Nat} {v : Value} {sz : Nat} {T : TypeId} {xs : List Value} (ho : w.ownsRow base T sz v n xs) : ∀ b, v.ownBlock = some b → base ≤ b := by
  intro b hb
  rcases ho.2 with ⟨rfl, _⟩ | ⟨g', c, cur, rfl, hg, _⟩
  · cases hb
  · cases hb
    exact hg
theorem own_geA {w : World} {base n cap : Nat} {a : Option Addr} {sz : Nat} {T : TypeId} {xs : List Value} (ho : w.ownsRow base T sz (.slice a n cap) n xs) : ∀ b off, a = some ⟨b, off, none⟩ → base ≤ b := by
  intro b off e
  subst e
  rcases ho.2 with ⟨h, _⟩ | ⟨g, c, cur, h, hb, _⟩
  · cases h
  · cases h
    exact hb
theorem Sl.kpN {α : Type} {enc : α → List Value} {sz : Nat} {S : List Nat} {w w' : World} {a : Option Addr} {l : List α} (h : Sl enc sz w a l) (hk : Kp S w w') (hb : l ≠ [] → ∀ b off, a = some ⟨b, off, none⟩ → b ∉ S) : Sl enc sz w' a l := by
  cases l with
  | nil => exact Sl.nil
  | cons x l => exact h.kp hk (hb (by simp))
theorem Sl.ltN {α : Type} {enc : α → List Value} {sz : Nat} {w : World} {a : Option Addr} {l : List α} (h : Sl enc sz w a l) (hn : l ≠ []) : ∀ b off, a = some ⟨b, off, none⟩ → b < w.heap.size := fun b off e => by
  obtain ⟨b', off', e', hr⟩ := h.at (List.length_pos_iff.2 hn)
  rw [e] at e'
  cases e'
  exact hr.lt
theorem sl_one {α : Type} {enc : α → List Value} {sz : Nat} (he : ∀ x, (enc x).length = sz) {w : World} {b : Nat} {T : TypeId} {x : α} (h : Blk w b (.cells (enc x).toArray T)) : Sl enc sz w (some ⟨b, 0, none⟩) [x] := fun i y hy => by
  cases i with
  | zero =>
    cases hy
    exact ⟨b, 0, rfl, by rw [Nat.zero_mul]; exact Row.all h rfl⟩
  | succ i => simp at hy
/-- The block of a slice, if there is anything in it, is of a type. -/
def Ty {α : Type} (T : TypeId) (w : World) (a : Option Addr) (l : List α) : Prop := l ≠ [] → ∀ b off, a = some ⟨b, off, none⟩ → ∃ cs f, w.heap[b]? = some (.cells cs T f)
theorem Ty.kp {α : Type} {T : TypeId} {S : List Nat} {w w' : World} {a : Option Addr} {l : List α} (h : Ty T w a l) (hk : Kp S w w') (hb : l ≠ [] → ∀ b off, a = some ⟨b, off, none⟩ → b ∉ S) : Ty T w' a l := fun hn b off e => by
  obtain ⟨cs, f, hh⟩ := h hn b off e
  exact ⟨cs, f, (hk.blk b (Array.getElem?_eq_some_iff.1 hh).1 (hb hn b off e)).trans hh⟩
theorem Ty.kp0 {α : Type} {T : TypeId} {w w' : World} {a : Option Addr} {l : List α} (h : Ty T w a l) (hk : Kp [] w w') : Ty T w' a l := h.kp hk (by simp)
theorem Ty.own {α : Type} {w : World} {base n cap sz : Nat} {a : Option Addr} {T : TypeId} {l : List α} {xs : List Value} (ho : w.ownsRow base T sz (.slice a n cap) n xs) : Ty T w a l := fun _ b off e => by
  subst e
  rcases ho.2 with ⟨h, _⟩ | ⟨g, c, cur, h, _, hg, _⟩
  · cases h
  · cases h
    exact ⟨_, _, hg⟩
end Go.Proofs.YtgbgnlboogalgaaGreat
namespace Go.Proofs.YtgbgnlboogalgaaGreat
set_option linter.unusedVariables false
theorem CG.cut_then {P : Program} {n : Nat} {Q Q' : Exit → Act → World → Prop} {L : Env} {w : World} {c B : Code} (M : Env → World → Prop) (h : CG P n c (Exit.then (fun a w => ∃ L, Fits n a L ∧ M L w) Q') L w) (h2 : ∀ L w, M L w → CG P n B Q L w) : CG P n c (Exit.then (B.wp P Q) Q') L w := by
  intro a ha
  refine wp_mono (h a ha) (fun e a w hq => ?_)
  cases e <;> first | exact hq | (obtain ⟨L, h1, h2'⟩ := hq; exact h2 L w h2' a h1)
end Go.Proofs.YtgbgnlboogalgaaGreat
namespace Go.Proofs.YtgbgnlboogalgaaGreat
open Go.Proofs
set_option linter.unusedVariables false
theorem Row.part {w : World} {b off : Nat} {l : List Value} (h : Row w b off l) (pre m post : List Value) (he : l = pre ++ (m ++ post)) : Row w b (off + pre.length) m := by
  obtain ⟨cs, T, f, h1, h2⟩ := h
  refine ⟨cs, T, f, h1, fun i v hv => ?_⟩
  have hi : i < m.length := (List.getElem?_eq_some_iff.1 hv).1
  rw [Nat.add_assoc]
  refine h2 (pre.length + i) v ?_
  rw [he, List.getElem?_append_right (by omega), Nat.add_sub_cancel_left, List.getElem?_append_left hi]
  exact hv
/-- A transaction, and where its bytes lie. -/
structure Tm where
  t : Tx
  a1 : Option Addr
  c1 : Nat
  a2 : Option Addr
  c2 : Nat
def Tm.b (x : Tm) : Value := .slice x.a1 x.t.body.length x.c1
def Tm.s (x : Tm) : Value := .slice x.a2 x.t.sig.length x.c2
def txc (x : Tm) : List Value := dc x.t.frm ++ [.int .i64 x.t.non, .int .i64 x.t.fee, .int .i64 x.t.kind, x.b, x.s]
theorem txc_length (x : Tm) : (txc x).length = 13 := by simp [txc, dc_length]
theorem txc_one (x : Tm) : allOne (txc x) = true := by simp [txc, allOne, dc, oneB, Tm.b, Tm.s]
def txv (x : Tm) : Value := .agg (txc x).toArray
/-- The block of a slice of bytes holds bytes, or is older than n. -/
def Tb (n : Nat) (w : World) (a : Option Addr) (l : List UInt8) : Prop := Ty 5 w a l ∨ ∀ b off, a = some ⟨b, off, none⟩ → b < n
theorem Tb.kp {n : Nat} {S : List Nat} {w w' : World} {a : Option Addr} {l : List UInt8} (h : Tb n w a l) (hk : Kp S w w') (hb : l ≠ [] → ∀ b off, a = some ⟨b, off, none⟩ → b ∉ S) : Tb n w' a l := h.elim (fun h => Or.inl (h.kp hk hb)) Or.inr
theorem Tb.kp0 {n : Nat} {w w' : World} {a : Option Addr} {l : List UInt8} (h : Tb n w a l) (hk : Kp [] w w') : Tb n w' a l := h.kp hk (fun _ _ _ _ => List.not_mem_nil)
theorem Tb.mono {n m : Nat} {w : World} {a : Option Addr} {l : List UInt8} (h : Tb n w a l) (hn : n ≤ m) : Tb m w a l := h.elim Or.inl (fun h => Or.inr (fun b off e => Nat.lt_of_lt_of_le (h b off e) hn))
structure Tm.In (x : Tm) (n : Nat) (w : World) : Prop where
  b : Bs w x.a1 x.c1 x.t.body
  s : Bs w x.a2 x.c2 x.t.sig
  t1 : Tb n w x.a1 x.t.body
  t2 : Tb n w x.a2 x.t.sig
  l1 : x.t.body.length ≤ 10000000
  l2 : x.t.sig.length ≤ 10000000
theorem Bs.kp0 {w w' : World} {a : Option Addr} {c : Nat} {l : List UInt8} (h : Bs w a c l) (hk : Kp [] w w') : Bs w' a c l := h.kp hk (fun _ _ _ => List.not_mem_nil)
theorem Tm.In.mono {x : Tm} {n m : Nat} {w : World} (h : x.In n w) (hn : n ≤ m) : x.In m w := ⟨h.b, h.s, h.t1.mono hn, h.t2.mono hn, h.l1, h.l2⟩
theorem Tm.In.kp0 {x : Tm} {n : Nat} {w w' : World} (h : x.In n w) (hk : Kp [] w w') : x.In n w' := ⟨h.b.kp0 hk, h.s.kp0 hk, h.t1.kp0 hk, h.t2.kp0 hk, h.l1, h.l2⟩
theorem bzd (w : World) : (Instr.build 38 #[]).run Tryz.prog w = .ok (dv zd) w := by kernel_rfl
theorem txc_rowsO {w : World} {b off : Nat} {x : Tm} (h : Row w b off (txc x)) : Row w b off (dc x.t.frm) ∧ Row w b (off + 8) [.int .i64 x.t.non] ∧ Row w b (off + 9) [.int .i64 x.t.fee] ∧ Row w b (off + 10) [.int .i64 x.t.kind] ∧ Row w b (off + 11) [x.b] ∧ Row w b (off + 12) [x.s] := by
  have l8 : (dc x.t.frm).length = 8 := dc_length _
  have h0 := h.part [] (dc x.t.frm) [Value.int .i64 x.t.non, .int .i64 x.t.fee, .int .i64 x.t.kind, x.b, x.s] (by simp [txc])
  have h1 := h.part (dc x.t.frm) [Value.int .i64 x.t.non] [Value.int .i64 x.t.fee, .int .i64 x.t.kind, x.b, x.s] (by simp [txc])
  have h2 := h.part (dc x.t.frm ++ [Value.int .i64 x.t.non]) [Value.int .i64 x.t.fee] [Value.int .i64 x.t.kind, x.b, x.s] (by simp [txc])
  have h3 := h.part (dc x.t.frm ++ [Value.int .i64 x.t.non, .int .i64 x.t.fee]) [Value.int .i64 x.t.kind] [x.b, x.s] (by simp [txc])
  have h4 := h.part (dc x.t.frm ++ [Value.int .i64 x.t.non, .int .i64 x.t.fee, .int .i64 x.t.kind]) [x.b] [x.s] (by simp [txc])
  have h5 := h.part (dc x.t.frm ++ [Value.int .i64 x.t.non, .int .i64 x.t.fee, .int .i64 x.t.kind, x.b]) [x.s] [] (by simp [txc])
  simp only [List.length_append, l8, List.length_cons, List.length_nil] at h1 h2 h3 h4 h5
  exact ⟨h0, h1, h2, h3, h4, h5⟩
theorem txc_rows {w : World} {b : Nat} {T : TypeId} {x : Tm} (h : Blk w b (.cells (txc x).toArray T)) : Row w b 0 (txc x) ∧ Row w b 0 (dc x.t.frm) ∧ Row w b 8 [.int .i64 x.t.non] ∧ Row w b 9 [.int .i64 x.t.fee] ∧ Row w b 10 [.int .i64 x.t.kind] ∧ Row w b 11 [x.b] ∧ Row w b 12 [x.s] := by
  have h0 : Row w b 0 (txc x) := Row.all h rfl
  have h1 := txc_rowsO h0
  simp only [Nat.zero_add] at h1
  exact ⟨h0, h1⟩
theorem paid_eq (l : List UInt8) (e1 e2 : Int) (p1 p2 : Nat) (h1 : e1 = rdS l 0 0 18446744073709551615) (h2 : p1 = rdP l 0 0 18446744073709551615) (h3 : e2 = rdS l p1 e1 1125899906842624) (h4 : p2 = rdP l p1 e1 1125899906842624) : (if e2 ≠ 0 then e2 else if p2 < l.length then 5 else 0) = paidZ l := by
  have hE : rdE l 18446744073709551615 = lookE l := by
    unfold rdE
    by_cases h : lookE l = 0
    · have := lookN_lt h
      rw [if_neg (fun k => k h), if_neg (by omega), h]
    · rw [if_pos h]
  have e1' : e1 = lookE l := by rw [h1, rdS, if_pos rfl, List.drop_zero, hE]
  by_cases h0 : lookE l = 0
  rotate_left
  · have z : paidZ l = lookE l := by
      unfold paidZ
      rw [if_pos h0]
    have e2' : e2 = lookE l := by rw [h3, rdS, if_neg (by rw [e1']; exact h0), e1']
    rw [z, e2', if_pos h0]
  have e0 : e1 = 0 := by rw [e1', h0]
  have p1' : p1 = lookK l := by
    rw [h2, rdP, List.drop_zero, if_pos ⟨rfl, by rw [hE, h0]⟩]
    omega
  subst p1'
  have e2' : e2 = rdE (l.drop (lookK l)) 1125899906842624 := by rw [h3, rdS, if_pos e0]
  have z0 : paidZ l = (if lookE (l.drop (lookK l)) ≠ 0 then lookE (l.drop (lookK l)) else if 1125899906842624 < lookN (l.drop (lookK l)) then 2 else if lookK l + lookK (l.drop (lookK l)) < l.length then 5 else 0) := by
    unfold paidZ
    rw [if_neg (fun k => k h0)]
  rw [z0]
  generalize hm : l.drop (lookK l) = m at *
  by_cases h5 : lookE m = 0
  rotate_left
  · have : e2 = lookE m := by rw [e2', rdE, if_pos h5]
    rw [this, if_pos h5, if_pos h5]
  have z1 : (if lookE m ≠ 0 then lookE m else if 1125899906842624 < lookN m then 2 else if lookK l + lookK m < l.length then 5 else 0) = (if 1125899906842624 < lookN m then 2 else if lookK l + lookK m < l.length then (5 : Int) else 0) := if_neg (fun k => k h5)
  rw [z1]
  by_cases h6 : 1125899906842624 < lookN m
  · have : e2 = 2 := by rw [e2', rdE, if_neg (fun k => k h5), if_pos h6]
    rw [this, if_pos h6, if_pos (by decide)]
  · have : e2 = 0 := by rw [e2', rdE, if_neg (fun k => k h5), if_neg h6]
    have p2' : p2 = lookK l + lookK m := by
      rw [h4, rdP, hm, if_pos ⟨e0, by rw [← e2', this]⟩]
    rw [this, if_neg (fun k => k rfl), if_neg h6, p2']
attribute [local irreducible] CG NG SG Vals Der Row Blk MapIs IterAt addI xorI orI andI shlI shrI or8 lo7 dig7 runL lookE lookN lookK rdV rdP rdS rdE paidZ DerX
set_option maxHeartbeats 16000000 in
theorem paid_spec {w : World} {n0 : Nat} {x : Tm} (hx : x.In n0 w) (hk0 : x.t.kind = 0) :
    Calls Tryz.prog 70 #[txv x] w (fun e' w' => ∃ (d : Dg) (n : Int), e' = .returned (.tuple #[dv d, .int .i64 n, .int .i64 (paidZ x.t.body)]) ∧ Kp [] w w') := by
  refine enter1 Tryz.func70 rfl Tryz.ntmps70 rfl ?_
  repeat (first|apply cA|apply cB)
  refine SG.box rfl rfl rfl (by exact rho_of rfl) (fun b1 w1 hk1 hb1 hB1 => ?_)
  refine SG.alloc rfl rfl rfl (fun b2 w2 hk2 hb2 hB2 => ?_)
  have hB1 : Blk w2 b1 (.cells (txc x).toArray 40) := hB1.kp0 hk2
  have hB2 : Blk w2 b2 (.cells (dc zd).toArray 38) := hB2
  obtain ⟨-, -, -, -, r3, r4, -⟩ := txc_rows hB1
  have k2 := hk1.trans hk2
  rw [hk0] at r3
  have h00 : (0 : Int) = 0 := rfl
  have hl := hx.l1
  repeat (first|apply cA|apply cB|apply cD|apply cE|refine cV rfl rfl rfl rfl (by first|((first|apply qas|apply qlc|apply qfa|apply qni)<;>(first|exact rfl|assumption|exact dct (by first|assumption|omega)|exact List.not_mem_nil|fail))|fail) ?_)
  refine dA rfl (by exact rho_of rfl) rfl ?_
  repeat (first|apply cA|apply cB|apply cE|apply cF|refine cV rfl rfl rfl rfl (by first|((first|apply qlc|apply qfa)<;>(first|exact rfl|assumption|exact List.not_mem_nil))|fail) ?_)
  refine SG.call rfl rfl rfl (vs := [x.b]) (by repeat' (first | exact True.intro | exact rho_of rfl | refine And.intro ?_ ?_)) ((newrd_spec (hx.b.kp0 k2) (by omega)).mono (fun e w3 hh => ?_))
  obtain ⟨br, a', c', he, hk3, hbr, hR⟩ := hh
  refine ⟨_, he, ?_⟩
  clear he r3 r4
  repeat (first|apply cA|apply cB|apply cD|apply cE|refine cV rfl rfl rfl rfl (by first|((first|apply qmv|apply qas)<;>(exact rfl))|fail) ?_)
  refine SG.call rfl rfl rfl (vs := [.pointer (some ⟨br, 0, none⟩), .int .u64 ((18446744073709551615 : Nat) : Int)]) (by repeat' (first | exact True.intro | exact rho_of rfl | refine And.intro ?_ ?_)) ((num_rd hR (by omega) 18446744073709551615).mono (fun e w4 hh => ?_))
  obtain ⟨he, hk4, hR4⟩ := hh
  refine ⟨_, he, ?_⟩
  clear he
  generalize h1 : rdS x.t.body 0 0 18446744073709551615 = e1 at hR4
  generalize h2 : rdP x.t.body 0 0 18446744073709551615 = p1 at hR4
  generalize rdV x.t.body 0 0 18446744073709551615 = v1
  refine SG.ret rfl rfl rfl (vs := [.int .u64 (v1 : Int)]) (by repeat' (first | exact True.intro | exact rho_of rfl | refine And.intro ?_ ?_)) (from_spec v1 w4) (fun w5 hk5 => ?_)
  refine SG.alloc rfl rfl rfl (fun b6 w6 hk6 hb6 hB6 => ?_)
  refine SG.setAll (l := dc (frm v1)) rfl rfl (by exact rho_of rfl) (by exact rho_of rfl) hB6 (dc_length _) rfl (dc_one _) (fun w7 hk7 hB6 => ?_)
  have hB6 : Blk w7 b6 (.cells (dc (frm v1)).toArray 38) := hB6
  have k57 : Kp [] w5 w7 := hk6.trans_new hk7 (new1 (by omega))
  have k47 := hk5.trans k57
  have hR7 : RdAt w7 br a' c' x.t.body p1 e1 := ⟨hR4.blk.kp0 k47, hR4.bs.kp0 k47, hR4.le, hR4.ne, fun b off e => Nat.lt_of_lt_of_le (hR4.lt b off e) k47.size⟩
  repeat (first|apply cA|apply cB|apply cD|apply cE|refine cV rfl rfl rfl rfl (by first|(apply qmv<;>(exact rfl))|fail) ?_)
  refine SG.call rfl rfl rfl (vs := [.pointer (some ⟨br, 0, none⟩), .int .u64 ((1125899906842624 : Nat) : Int)]) (by repeat' (first | exact True.intro | exact rho_of rfl | refine And.intro ?_ ?_)) ((num_rd hR7 (by omega) 1125899906842624).mono (fun e w8 hh => ?_))
  obtain ⟨he, hk8, hR8⟩ := hh
  refine ⟨_, he, ?_⟩
  clear he
  generalize h3 : rdS x.t.body p1 e1 1125899906842624 = e2 at hR8
  generalize h4 : rdP x.t.body p1 e1 1125899906842624 = p2 at hR8
  generalize rdV x.t.body p1 e1 1125899906842624 = v2
  have hq := paid_eq x.t.body e1 e2 p1 p2 h1.symm h2.symm h3.symm h4.symm
  have hend := end_spec2 hR8 (by omega)
  rw [hq] at hend
  repeat (first|apply cA|apply cB|apply cD|apply cE|refine cV rfl rfl rfl rfl (by first|((first|apply qmv|apply qas|apply qcv)<;>(exact rfl))|fail) ?_)
  refine SG.ret rfl rfl rfl (vs := [.pointer (some ⟨br, 0, none⟩)]) (by repeat' (first | exact True.intro | exact rho_of rfl | refine And.intro ?_ ?_)) hend (fun w9 hk9 => ?_)
  have l2 := hB2.lt
  have s3 := hk3.size
  have s4 := hk4.size
  have s5 := hk5.size
  have s57 := k57.size
  have hB2 : Blk w9 b2 (.cells (dc zd).toArray 38) := ((((hB2.kp0 hk3).kp hk4 (nm1 (by omega))).kp0 k47).kp hk8 (nm1 (by omega))).kp0 hk9
  have hB6 : Blk w9 b6 (.cells (dc (frm v1)).toArray 38) := (hB6.kp hk8 (nm1 (by have := hR4.blk.lt; omega))).kp0 hk9
  have k9 : Kp [] w w9 := ((((k2.trans hk3).trans_new hk4 (new1 (by have := k2.size; omega))).trans k47).trans_new hk8 (new1 (by have := k2.size; omega))).trans hk9
  have hR6 : Row w9 b6 0 (dc (frm v1)) := Row.all hB6 rfl
  have g2 : w.heap.size ≤ b2 := by have := hk1.size; omega
  generalize paidZ x.t.body = z
  clear hq hend
  by_cases hz : z = 0
  · repeat (first|apply cA|apply cB|apply cD|apply cE|refine cV rfl rfl rfl rfl (by first|((first|apply qmv|apply qas|apply qni)<;>(first|exact rfl|exact dct (by first|assumption|omega)|fail))|fail) ?_)
    refine dA rfl (by exact rho_of rfl) rfl ?_
    repeat (first|apply cA|apply cB|apply cE|apply cF|refine cV rfl rfl rfl rfl (by first|((first|apply qmv|apply qla)<;>(first|exact rfl|assumption|exact List.not_mem_nil))|fail) ?_)
    refine SG.setAll (l := dc (frm v1)) rfl rfl (by exact rho_of rfl) (by exact rho_of rfl) hB2 (dc_length _) rfl (dc_one _) (fun w10 hk10 hB2 => ?_)
    have hr : Row w10 b2 0 (dc (frm v1)) := Row.all hB2 rfl
    subst hz
    repeat (first|apply cD|apply cE|apply cH|refine cV rfl rfl rfl rfl (by first|(apply qas<;>(exact rfl))|fail) ?_)
    refine ret3 (Or.inl rfl) Tryz.results70 (ResV.agg rfl rfl hr (dc_length _)) (by first | exact ResV.tmp rfl | exact ResV.agg rfl rfl (by assumption) (by first | exact dc_length _ | exact nc_length _ | exact rc_length _ _ _ | exact ec_length _ | exact dl_length _ _ _ _ | rfl) | exact ResV.cell rfl rfl (by assumption)) (by first | exact ResV.tmp rfl | exact ResV.agg rfl rfl (by assumption) (by first | exact dc_length _ | exact nc_length _ | exact rc_length _ _ _ | exact ec_length _ | exact dl_length _ _ _ _ | rfl) | exact ResV.cell rfl rfl (by assumption)) ?_
    exact ⟨_, _, rfl, k9.trans_new hk10 (new1 g2)⟩
  · repeat (first|apply cA|apply cB|apply cD|apply cE|refine cV rfl rfl rfl rfl (by first|((first|apply qmv|apply qas|apply qni)<;>(first|exact rfl|exact dcf (by first|assumption|omega)|fail))|fail) ?_)
    refine cZ rfl (by exact rho_of rfl) rfl ?_
    repeat (first|apply cA|apply cB)
    refine cV rfl rfl rfl rfl (vals_build rfl bzd) ?_
    repeat (first|refine cV rfl rfl rfl rfl (by first|(apply qmv<;>(exact rfl))|fail) ?_)
    refine SG.setAll (l := dc zd) rfl rfl (by exact rho_of rfl) (by exact rho_of rfl) hB2 (dc_length _) rfl (dc_one _) (fun w10 hk10 hB2 => ?_)
    have hr : Row w10 b2 0 (dc zd) := Row.all hB2 rfl
    repeat (first|apply cD|apply cE|apply cH|apply cK|refine cV rfl rfl rfl rfl (by first|(apply qas<;>(exact rfl))|fail) ?_)
    refine ret3 (Or.inl rfl) Tryz.results70 (ResV.agg rfl rfl hr (dc_length _)) (by first | exact ResV.tmp rfl | exact ResV.agg rfl rfl (by assumption) (by first | exact dc_length _ | exact nc_length _ | exact rc_length _ _ _ | exact ec_length _ | exact dl_length _ _ _ _ | rfl) | exact ResV.cell rfl rfl (by assumption)) (by first | exact ResV.tmp rfl | exact ResV.agg rfl rfl (by assumption) (by first | exact dc_length _ | exact nc_length _ | exact rc_length _ _ _ | exact ec_length _ | exact dl_length _ _ _ _ | rfl) | exact ResV.cell rfl rfl (by assumption)) ?_
    exact ⟨_, _, rfl, k9.trans_new hk10 (new1 g2)⟩
theorem txr_iff (t : Tx) : TxR t ↔ (0 ≤ t.non ∧ t.non ≤ 1099511627776) ∧ (0 ≤ t.fee ∧ t.fee ≤ 1125899906842624) ∧ (0 ≤ t.kind ∧ t.kind ≤ 2) ∧ ((t.body.length : Int) ≤ 32768) ∧ ((t.sig.length : Int) ≤ 1024) :=
  ⟨fun h => ⟨⟨h.n0, h.n1⟩, ⟨h.f0, h.f1⟩, ⟨h.k0, h.k1⟩, by have := h.b; omega, by have := h.s; omega⟩, fun ⟨⟨a, b⟩, ⟨c, d⟩, ⟨e, f⟩, g, h⟩ => ⟨a, b, c, d, e, f, by omega, by omega⟩⟩
/-- From 0 to the most. -/
theorem upto_spec (n most : Int) (w : World) : Ret Tryz.prog 69 #[.int .i64 n, .int .i64 most] w (.bool (decide (0 ≤ n ∧ n ≤ most))) := by
  refine enter2 Tryz.func69 rfl Tryz.ntmps69 rfl ?_
  by_cases h1 : 0 ≤ n
  · by_cases h2 : n ≤ most
    · rw [decide_eq_true ⟨h1, h2⟩]
      repeat (first|apply cA|apply cB|apply cD|apply cE|apply cH|refine cV rfl rfl rfl rfl (by first|((first|apply qmv|apply qas|apply qpk|apply qle|apply qge)<;>(first|exact rfl|exact dct (by first|assumption|omega)|fail))|fail) ?_)
      refine ret1 (Or.inl rfl) Tryz.results69 (by first | exact ResV.tmp rfl | exact ResV.agg rfl rfl (by assumption) (by first | exact dc_length _ | exact nc_length _ | exact rc_length _ _ _ | exact ec_length _ | exact dl_length _ _ _ _ | rfl) | exact ResV.cell rfl rfl (by assumption)) ?_
      exact ⟨rfl, Kp.refl _ _⟩
    · rw [decide_eq_false (fun h => h2 h.2)]
      repeat (first|apply cA|apply cB|apply cD|apply cE|apply cH|refine cV rfl rfl rfl rfl (by first|((first|apply qmv|apply qas|apply qpk|apply qle|apply qge)<;>(first|exact rfl|exact dct (by first|assumption|omega)|exact dcf (by first|assumption|omega)|fail))|fail) ?_)
      refine ret1 (Or.inl rfl) Tryz.results69 (by first | exact ResV.tmp rfl | exact ResV.agg rfl rfl (by assumption) (by first | exact dc_length _ | exact nc_length _ | exact rc_length _ _ _ | exact ec_length _ | exact dl_length _ _ _ _ | rfl) | exact ResV.cell rfl rfl (by assumption)) ?_
      exact ⟨rfl, Kp.refl _ _⟩
  · rw [decide_eq_false (fun h => h1 h.1)]
    repeat (first | first|apply cA|apply cB|apply cD|apply cE|apply cH|refine cV rfl rfl rfl rfl (by first|((first|apply qmv|apply qas|apply qpk|apply qge)<;>(first|exact rfl|exact dcf (by first|assumption|omega)|fail))|fail) ?_ | refine cX rfl rfl ?_)
    refine ret1 (Or.inl rfl) Tryz.results69 (by first | exact ResV.tmp rfl | exact ResV.agg rfl rfl (by assumption) (by first | exact dc_length _ | exact nc_length _ | exact rc_length _ _ _ | exact ec_length _ | exact dl_length _ _ _ _ | rfl) | exact ResV.cell rfl rfl (by assumption)) ?_
    exact ⟨rfl, Kp.refl _ _⟩
set_option maxHeartbeats 16000000 in
theorem check_spec {w : World} {n0 : Nat} {x : Tm} (hx : x.In n0 w) : Ret Tryz.prog 46 #[txv x] w (.int .i64 (wrongT x.t)) := by
  refine enter1 Tryz.func46 rfl Tryz.ntmps46 rfl ?_
  repeat (first|apply cA|apply cB)
  refine SG.box rfl rfl rfl (by exact rho_of rfl) (fun b1 w1 hk1 hb1 hB1 => ?_)
  have hB1 : Blk w1 b1 (.cells (txc x).toArray 40) := hB1
  have hi := txr_iff x.t
  have hx1 := hx.kp0 hk1
  repeat (refine cV rfl rfl rfl rfl (by first|(apply qas<;>(exact rfl))|fail) ?_)
  refine cD ?_
  refine cE ?_
  repeat (first | refine CG.scope ?_ | refine cA ?_ | refine cB ?_)
  repeat (refine cV rfl rfl rfl rfl (by first|(apply qas<;>(exact rfl))|fail) ?_)
  refine cD ?_
  refine cE ?_
  repeat (first | refine CG.scope ?_ | refine cA ?_)
  obtain ⟨r, hr⟩ : ∃ r : Bool, (r = true ↔ TxR x.t) := by
    classical
    exact ⟨decide (TxR x.t), decide_eq_true_iff⟩
  have hrf : ¬ TxR x.t → r = false := fun h => by
    cases r with
    | false => rfl
    | true => exact absurd (hr.1 rfl) h
  refine CG.cut_then (fun L w' => SubE [(1, .pointer (some ⟨b1, 0, none⟩)), (4, .bool r)] L ∧ Kp [] w1 w') ?_ ?_
  · obtain ⟨-, -, q1, q2, q3, q4, q5⟩ := txc_rows hB1
    repeat (first|apply cB|refine cV rfl rfl rfl rfl (by first|((first|apply qmv|apply qlc|apply qfa)<;>(first|exact rfl|assumption|exact List.not_mem_nil))|fail) ?_)
    refine SG.retVC (Fn := by infer_instance) (vs := [.int .i64 x.t.non, .int .i64 1099511627776]) (caps := []) rfl rfl rfl (by exact rho_of rfl) (by repeat' (first | exact True.intro | exact rho_of rfl | refine And.intro ?_ ?_)) (upto_spec x.t.non 1099511627776 w1) (fun w2 hk2 => ?_)
    by_cases c1 : 0 ≤ x.t.non ∧ x.t.non ≤ 1099511627776
    rotate_left
    · rw [decide_eq_false c1, hrf (fun h => c1 (by have := txr_iff x.t; have h2 := this.1 h; omega))]
      repeat (first | first|apply cD|refine cV rfl rfl rfl rfl (by first|((first|apply qmv|apply qas|apply qpk)<;>(exact rfl))|fail) ?_ | refine cX rfl rfl ?_)
      exact NG.cut ⟨by (repeat' (first | exact True.intro | exact rfl | refine And.intro ?_ ?_)), hk2⟩
    rw [decide_eq_true c1]
    have q2 := q2.kp0 hk2
    have q3 := q3.kp0 hk2
    have q4 := q4.kp0 hk2
    have q5 := q5.kp0 hk2
    repeat (first|refine cV rfl rfl rfl rfl (by first|((first|apply qmv|apply qlc|apply qfa)<;>(first|exact rfl|assumption|exact List.not_mem_nil))|fail) ?_)
    refine SG.retVC (Fn := by infer_instance) (vs := [.int .i64 x.t.fee, .int .i64 1125899906842624]) (caps := []) rfl rfl rfl (by exact rho_of rfl) (by repeat' (first | exact True.intro | exact rho_of rfl | refine And.intro ?_ ?_)) (upto_spec x.t.fee 1125899906842624 w2) (fun w3 hk3 => ?_)
    by_cases c2 : 0 ≤ x.t.fee ∧ x.t.fee ≤ 1125899906842624
    rotate_left
    · rw [decide_eq_false c2, hrf (fun h => c2 (by have := txr_iff x.t; have h2 := this.1 h; omega))]
      repeat (first | first|apply cD|refine cV rfl rfl rfl rfl (by first|((first|apply qmv|apply qas|apply qpk)<;>(exact rfl))|fail) ?_ | refine cX rfl rfl ?_)
      exact NG.cut ⟨by (repeat' (first | exact True.intro | exact rfl | refine And.intro ?_ ?_)), (hk2).trans hk3⟩
    rw [decide_eq_true c2]
    have q3 := q3.kp0 hk3
    have q4 := q4.kp0 hk3
    have q5 := q5.kp0 hk3
    repeat (first|refine cV rfl rfl rfl rfl (by first|((first|apply qmv|apply qlc|apply qfa|apply qpk)<;>(first|exact rfl|assumption|exact List.not_mem_nil))|fail) ?_)
    refine SG.retVC (Fn := by infer_instance) (vs := [.int .i64 x.t.kind, .int .i64 2]) (caps := []) rfl rfl rfl (by exact rho_of rfl) (by repeat' (first | exact True.intro | exact rho_of rfl | refine And.intro ?_ ?_)) (upto_spec x.t.kind 2 w3) (fun w4 hk4 => ?_)
    by_cases c3 : 0 ≤ x.t.kind ∧ x.t.kind ≤ 2
    rotate_left
    · rw [decide_eq_false c3, hrf (fun h => c3 (by have := txr_iff x.t; have h2 := this.1 h; omega))]
      repeat (first | first|apply cD|refine cV rfl rfl rfl rfl (by first|((first|apply qmv|apply qas|apply qpk)<;>(exact rfl))|fail) ?_ | refine cX rfl rfl ?_)
      exact NG.cut ⟨by (repeat' (first | exact True.intro | exact rfl | refine And.intro ?_ ?_)), ((hk2).trans hk3).trans hk4⟩
    rw [decide_eq_true c3]
    have q4 := q4.kp0 hk4
    have q5 := q5.kp0 hk4
    repeat (first|refine cV rfl rfl rfl rfl (by first|((first|apply qmv|apply qlc|apply qfa|apply qpk|apply qln)<;>(first|exact rfl|assumption|exact List.not_mem_nil))|fail) ?_)
    refine SG.retVC (Fn := by infer_instance) (vs := [.int .i64 (x.t.body.length : Int), .int .i64 32768]) (caps := []) rfl rfl rfl (by exact rho_of rfl) (by repeat' (first | exact True.intro | exact rho_of rfl | refine And.intro ?_ ?_)) (upto_spec (x.t.body.length : Int) 32768 w4) (fun w5 hk5 => ?_)
    by_cases c4 : 0 ≤ (x.t.body.length : Int) ∧ (x.t.body.length : Int) ≤ 32768
    rotate_left
    · rw [decide_eq_false c4, hrf (fun h => c4 (by have := txr_iff x.t; have h2 := this.1 h; omega))]
      repeat (first | first|apply cD|refine cV rfl rfl rfl rfl (by first|((first|apply qmv|apply qas|apply qpk)<;>(exact rfl))|fail) ?_ | refine cX rfl rfl ?_)
      exact NG.cut ⟨by (repeat' (first | exact True.intro | exact rfl | refine And.intro ?_ ?_)), (((hk2).trans hk3).trans hk4).trans hk5⟩
    rw [decide_eq_true c4]
    have q5 := q5.kp0 hk5
    repeat (first|refine cV rfl rfl rfl rfl (by first|((first|apply qmv|apply qlc|apply qfa|apply qpk|apply qln)<;>(first|exact rfl|assumption|exact List.not_mem_nil))|fail) ?_)
    refine SG.retVC (Fn := by infer_instance) (vs := [.int .i64 (x.t.sig.length : Int), .int .i64 1024]) (caps := []) rfl rfl rfl (by exact rho_of rfl) (by repeat' (first | exact True.intro | exact rho_of rfl | refine And.intro ?_ ?_)) (upto_spec (x.t.sig.length : Int) 1024 w5) (fun w6 hk6 => ?_)
    by_cases c5 : 0 ≤ (x.t.sig.length : Int) ∧ (x.t.sig.length : Int) ≤ 1024
    rotate_left
    · rw [decide_eq_false c5, hrf (fun h => c5 (by have := txr_iff x.t; have h2 := this.1 h; omega))]
      repeat (first|apply cD|refine cV rfl rfl rfl rfl (by first|((first|apply qas|apply qpk)<;>(exact rfl))|fail) ?_)
      exact NG.cut ⟨by (repeat' (first | exact True.intro | exact rfl | refine And.intro ?_ ?_)), ((((hk2).trans hk3).trans hk4).trans hk5).trans hk6⟩
    rw [decide_eq_true c5]
    rw [hr.2 ((txr_iff x.t).2 ⟨c1, c2, c3, c4.2, c5.2⟩)]
    repeat (first|apply cD|refine cV rfl rfl rfl rfl (by first|((first|apply qas|apply qpk)<;>(exact rfl))|fail) ?_)
    exact NG.cut ⟨by (repeat' (first | exact True.intro | exact rfl | refine And.intro ?_ ?_)), ((((hk2).trans hk3).trans hk4).trans hk5).trans hk6⟩
  rintro L w2 ⟨hLL, hk2⟩
  refine CG.to _ hLL ?_
  clear hLL L
  have k2 := hk1.trans hk2
  have hB2 := hB1.kp0 hk2
  obtain ⟨r0, -, -, -, q3, -, -⟩ := txc_rows hB2
  cases r with
  | false =>
    have e : wrongT x.t = 2 := if_neg (fun h => by have := hr.2 h; cases this)
    rw [e]
    repeat (first|apply cA|apply cB|apply cD|apply cE|refine cV rfl rfl rfl rfl (by first|((first|apply qmv|apply qnt)<;>(exact rfl))|fail) ?_)
    refine cZ rfl (by exact rho_of rfl) rfl ?_
    repeat (first|apply cA|apply cB|apply cD|apply cE|apply cH|apply cK|refine cV rfl rfl rfl rfl (by first|(apply qas<;>(exact rfl))|fail) ?_)
    refine ret1 (Or.inl rfl) Tryz.results46 (by first | exact ResV.tmp rfl | exact ResV.agg rfl rfl (by assumption) (by first | exact dc_length _ | exact nc_length _ | exact rc_length _ _ _ | exact ec_length _ | exact dl_length _ _ _ _ | rfl) | exact ResV.cell rfl rfl (by assumption)) ?_
    exact ⟨rfl, k2⟩
  | true =>
    have e : wrongT x.t = if x.t.kind = 0 then paidZ x.t.body else 0 := if_pos (hr.1 rfl)
    rw [e]
    repeat (first|apply cA|apply cB|apply cD|apply cE|refine cV rfl rfl rfl rfl (by first|((first|apply qmv|apply qnt)<;>(exact rfl))|fail) ?_)
    refine dA rfl (by exact rho_of rfl) rfl ?_
    by_cases hk : x.t.kind = 0
    · rw [if_pos hk]
      clear q3
      have q3 := (txc_rows hB2).2.2.2.2.1
      clear r0
      repeat (first|apply cA|apply cB|apply cD|apply cE|apply cF|refine cV rfl rfl rfl rfl (by first|((first|apply qlc|apply qfa|apply qei)<;>(first|exact rfl|assumption|exact dct (by first|assumption|omega)|exact List.not_mem_nil|fail))|fail) ?_)
      refine cZ rfl (by exact rho_of rfl) rfl ?_
      clear q3
      obtain ⟨r0, -⟩ := txc_rows hB2
      repeat (first|apply cA|apply cB|refine cV rfl rfl rfl rfl (by first|(apply qla<;>(first|exact rfl|assumption|exact List.not_mem_nil|apply txc_length))|fail) ?_)
      refine SG.call rfl rfl rfl (vs := [txv x]) (by repeat' (first | exact True.intro | exact rho_of rfl | refine And.intro ?_ ?_)) ((paid_spec (hx.kp0 k2) hk).mono (fun e w3 hh => ?_))
      obtain ⟨d, n, he, hk3⟩ := hh
      refine ⟨_, he, ?_⟩
      clear he
      generalize paidZ x.t.body = z
      repeat (first|refine cV rfl rfl rfl rfl (by first|((first|apply qmv|apply qxt)<;>(exact rfl))|fail) ?_)
      refine SG.alloc rfl rfl rfl (fun b5 w4 hk4 hb5 hB5 => ?_)
      refine SG.setAll (l := dc d) rfl rfl (by exact rho_of rfl) (by exact rho_of rfl) hB5 (dc_length _) rfl (dc_one _) (fun w5 hk5 hB5 => ?_)
      repeat (first|apply cA|apply cB|apply cD|apply cE|apply cH|apply cK|refine cV rfl rfl rfl rfl (by first|((first|apply qmv|apply qas)<;>(exact rfl))|fail) ?_)
      refine ret1 (Or.inl rfl) Tryz.results46 (by first | exact ResV.tmp rfl | exact ResV.agg rfl rfl (by assumption) (by first | exact dc_length _ | exact nc_length _ | exact rc_length _ _ _ | exact ec_length _ | exact dl_length _ _ _ _ | rfl) | exact ResV.cell rfl rfl (by assumption)) ?_
      exact ⟨rfl, (k2.trans hk3).trans (hk4.trans_new hk5 (new1 (by omega)))⟩
    · rw [if_neg hk]
      clear r0
      repeat (first|apply cA|apply cB|apply cD|apply cE|apply cF|refine cV rfl rfl rfl rfl (by first|((first|apply qlc|apply qfa|apply qei)<;>(first|exact rfl|assumption|exact dcf (by first|assumption|omega)|exact List.not_mem_nil|fail))|fail) ?_)
      refine dA rfl (by exact rho_of rfl) rfl ?_
      repeat (first|apply cA|apply cB|apply cD|apply cE|apply cF|apply cH|refine cV rfl rfl rfl rfl (by first|(apply qas<;>(exact rfl))|fail) ?_)
      refine ret1 (Or.inl rfl) Tryz.results46 (by first | exact ResV.tmp rfl | exact ResV.agg rfl rfl (by assumption) (by first | exact dc_length _ | exact nc_length _ | exact rc_length _ _ _ | exact ec_length _ | exact dl_length _ _ _ _ | rfl) | exact ResV.cell rfl rfl (by assumption)) ?_
      exact ⟨rfl, k2⟩
end Go.Proofs.YtgbgnlboogalgaaGreat
namespace Go.Proofs.YtgbgnlboogalgaaGreat
set_option linter.unusedVariables false
/-- The block that a slice, or a map, is of. -/
def obk : Value → Option Nat
  | .slice (some a) _ _ => some a.block
  | .map r => r
  | _ => none
theorem obk_own {v : Value} {b : Nat} (h : v.ownBlock = some b) : obk v = some b := by
  unfold Value.ownBlock at h
  split at h
  · exact h
  · cases h
theorem obk_row {w : World} {base n sz : Nat} {T : TypeId} {v : Value} {xs : List Value} (h : w.ownsRow base T sz v n xs) : obk v = v.ownBlock := by
  rcases h with ⟨_, ⟨rfl, _⟩ | ⟨g, cap, cur, rfl, _⟩⟩ <;> rfl
/-- An effect: its place (from 1000 on: there before), its chain, what it promises of its value. -/
structure RE where
  i : Nat
  ch : Nat
  phi : Value → World → Prop
structure RE.Ok (e : RE) : Prop where
  keep : ∀ v w w', w.heap.size ≤ w'.heap.size → (∀ z o, obk v = some z → Blk w z o → Blk w' z o) → e.phi v w → e.phi v w'
  lt : ∀ v w b, e.phi v w → obk v = some b → b < w.heap.size
def sees (ops : List Oper) (i p : Nat) : Bool := Nat.ble 1000 p || anc ops i p
def isR (G : List RE) (i : Nat) : Bool := G.any (fun e => Nat.beq e.i i)
def atR (G : List RE) (i : Nat) : List RE := G.filter (fun e => Nat.beq e.i i)
theorem atR_mem {G : List RE} {i : Nat} {E : RE} (h : atR G i = [E]) {e : RE} (he : e ∈ G) (hi : e.i = i) : e = E := by
  have : e ∈ atR G i := List.mem_filter.2 ⟨he, by rw [hi]; simp⟩
  rw [h] at this
  simpa using this
theorem atR_in {G : List RE} {i : Nat} {E : RE} (h : atR G i = [E]) : E ∈ G ∧ E.i = i := by
  have : E ∈ atR G i := by rw [h]; simp
  have := List.mem_filter.1 this
  exact ⟨this.1, by simpa using this.2⟩
theorem isR_no {G : List RE} {i : Nat} (h : isR G i = false) {e : RE} (he : e ∈ G) : e.i ≠ i := by
  intro e1
  have := List.any_eq_false.1 h e he
  rw [e1] at this
  simp at this
abbrev Gm := List (Nat × Value)
def FactsR (ops : List Oper) (G : List RE) (i : Nat) (Γ : Gm) (w : World) : Prop := ∀ p ∈ Γ, sees ops i p.1 = true → ∀ e ∈ G, e.i = p.1 → e.phi p.2 w
/-- What is so where the effects in D are done. -/
structure SOk (S : List Nat) (w0 : World) (G : List RE) (D : Nat → Bool) (V : Nat → Value) (w : World) : Prop where
  kp : Kp S w0 w
  row : ∀ e ∈ G, D e.i = true → e.phi (V e.i) w
  sep : ∀ e ∈ G, ∀ e' ∈ G, D e.i = true → D e'.i = true → e.ch ≠ e'.ch → ∀ b, obk (V e.i) = some b → obk (V e'.i) ≠ some b
  own : ∀ e ∈ G, D e.i = true → ∀ b, obk (V e.i) = some b → b ∈ S ∨ w0.heap.size ≤ b
def updR (V : Nat → Value) (i : Nat) (v : Value) : Nat → Value := fun j => if j = i then v else V j
theorem updR_same {V : Nat → Value} {i : Nat} {v : Value} : updR V i v i = v := by simp [updR]
theorem updR_ne {V : Nat → Value} {i j : Nat} {v : Value} (h : j ≠ i) : updR V i v j = V j := by simp [updR, h]
section
variable {S : List Nat} {w0 w w' : World} {G : List RE} {D D' : Nat → Bool} {V V' : Nat → Value}
theorem SOk.kp0 (hG : ∀ e ∈ G, e.Ok) (h : SOk S w0 G D V w) (hk : Kp [] w w') : SOk S w0 G D V w' :=
  ⟨h.kp.trans hk.any, fun e he hd => (hG e he).keep _ _ _ hk.size (fun z o _ hB => hB.kp0 hk) (h.row e he hd), h.sep, h.own⟩
theorem SOk.congr (h : SOk S w0 G D V w) (he : ∀ e ∈ G, D e.i = D' e.i ∧ V e.i = V' e.i) : SOk S w0 G D' V' w :=
  ⟨h.kp, fun e hm hd => by obtain ⟨h1, h2⟩ := he e hm; rw [← h2]; exact h.row e hm (by rw [h1]; exact hd),
   fun e hm e' hm' hd hd' hc b hb => by
    obtain ⟨h1, h2⟩ := he e hm
    obtain ⟨h3, h4⟩ := he e' hm'
    rw [← h4]
    rw [← h2] at hb
    exact h.sep e hm e' hm' (by rw [h1]; exact hd) (by rw [h3]; exact hd') hc b hb,
   fun e hm hd b hb => by obtain ⟨h1, h2⟩ := he e hm; rw [← h2] at hb; exact h.own e hm (by rw [h1]; exact hd) b hb⟩
/-- An effect that makes something new. -/
theorem SOk.new (hG : ∀ e ∈ G, e.Ok) (h : SOk S w0 G D V w) {i : Nat} {E : RE} {v : Value} (hE : atR G i = [E]) (hk : Kp [] w w') (hp : E.phi v w') (hb : ∀ b, obk v = some b → w.heap.size ≤ b) : SOk S w0 G (setD D i) (updR V i v) w' := by
  have h' := h.kp0 hG hk
  have hlt : ∀ e ∈ G, D e.i = true → ∀ b, obk (V e.i) = some b → b < w.heap.size := fun e he hd b hb => (hG e he).lt _ _ b (h.row e he hd) hb
  refine ⟨h'.kp, fun e he hd => ?_, fun e he e' he' hd hd' hc b h1 => ?_, fun e he hd b h1 => ?_⟩
  · by_cases hi : e.i = i
    · rw [atR_mem hE he hi]
      have : E.i = i := (atR_in hE).2
      rw [this, updR_same]
      exact hp
    · rw [setD_ne hi] at hd
      rw [updR_ne hi]
      exact h'.row e he hd
  · by_cases hi : e.i = i
    · by_cases hi' : e'.i = i
      · exact absurd (by rw [atR_mem hE he hi, atR_mem hE he' hi']) hc
      · rw [setD_ne hi'] at hd'
        rw [updR_ne hi']
        rw [hi, updR_same] at h1
        intro h2
        have := hlt e' he' hd' b h2
        have := hb b h1
        omega
    · rw [setD_ne hi] at hd
      rw [updR_ne hi] at h1
      by_cases hi' : e'.i = i
      · rw [hi', updR_same]
        intro h2
        have := hlt e he hd b h1
        have := hb b h2
        omega
      · rw [setD_ne hi'] at hd'
        rw [updR_ne hi']
        exact h.sep e he e' he' hd hd' hc b h1
  · by_cases hi : e.i = i
    · rw [hi, updR_same] at h1
      have := hb b h1
      by_cases hS : w0.heap.size ≤ b
      · exact Or.inr hS
      · have := h.kp.size
        omega
    · rw [setD_ne hi] at hd
      rw [updR_ne hi] at h1
      exact h.own e he hd b h1
/-- An effect that turns the block of one of its chain. -/
theorem SOk.turn (hG : ∀ e ∈ G, e.Ok) (h : SOk S w0 G D V w) {i src : Nat} {E0 E : RE} {v : Value} (h0 : atR G src = [E0]) (hd0 : D src = true) (hE : atR G i = [E]) (hc : E.ch = E0.ch) (hk : Kp S w0 w') (hsz : w.heap.size ≤ w'.heap.size)
    (hoth : ∀ z o, obk (V src) ≠ some z → Blk w z o → Blk w' z o) (hp : E.phi v w') (hb : ∀ b, obk v = some b → obk (V src) = some b ∨ w.heap.size ≤ b)
    (hch : ∀ e ∈ G, e.ch = E0.ch → e.i ≠ i → D e.i = true → e.phi (V e.i) w → e.phi (V e.i) w') : SOk S w0 G (setD D i) (updR V i v) w' := by
  have hlt : ∀ e ∈ G, D e.i = true → ∀ b, obk (V e.i) = some b → b < w.heap.size := fun e he hd b hb => (hG e he).lt _ _ b (h.row e he hd) hb
  obtain ⟨m0, i0⟩ := atR_in h0
  have hEi : E.i = i := (atR_in hE).2
  refine ⟨hk, fun e he hd => ?_, fun e he e' he' hd hd' hcc b h1 => ?_, fun e he hd b h1 => ?_⟩
  · by_cases hi : e.i = i
    · rw [atR_mem hE he hi, hEi, updR_same]
      exact hp
    · rw [setD_ne hi] at hd
      rw [updR_ne hi]
      by_cases hce : e.ch = E0.ch
      · exact hch e he hce hi hd (h.row e he hd)
      · refine (hG e he).keep _ _ _ hsz (fun z o hz hB => hoth z o (fun e1 => ?_) hB) (h.row e he hd)
        have := h.sep e he E0 m0 hd (by rw [i0]; exact hd0) hce z hz
        rw [i0] at this
        exact this e1
  · by_cases hi : e.i = i
    · by_cases hi' : e'.i = i
      · exact absurd (by rw [atR_mem hE he hi, atR_mem hE he' hi']) hcc
      · rw [setD_ne hi'] at hd'
        rw [updR_ne hi']
        rw [hi, updR_same] at h1
        intro h2
        rcases hb b h1 with h3 | h3
        · have hce : E0.ch ≠ e'.ch := by rw [← hc, ← atR_mem hE he hi]; exact hcc
          exact h.sep E0 m0 e' he' (by rw [i0]; exact hd0) hd' hce b (by rw [i0]; exact h3) h2
        · have := hlt e' he' hd' b h2
          omega
    · rw [setD_ne hi] at hd
      rw [updR_ne hi] at h1
      by_cases hi' : e'.i = i
      · rw [hi', updR_same]
        intro h2
        rcases hb b h2 with h3 | h3
        · have hce : e.ch ≠ E0.ch := by rw [← hc, ← atR_mem hE he' hi']; exact hcc
          have := h.sep e he E0 m0 hd (by rw [i0]; exact hd0) hce b h1
          rw [i0] at this
          exact this h3
        · have := hlt e he hd b h1
          omega
      · rw [setD_ne hi'] at hd'
        rw [updR_ne hi']
        exact h.sep e he e' he' hd hd' hcc b h1
  · by_cases hi : e.i = i
    · rw [hi, updR_same] at h1
      rcases hb b h1 with h3 | h3
      · exact h.own E0 m0 (by rw [i0]; exact hd0) b (by rw [i0]; exact h3)
      · have := h.kp.size
        exact Or.inr (by omega)
    · rw [setD_ne hi] at hd
      rw [updR_ne hi] at h1
      exact h.own e he hd b h1
end
section
variable (P : Program) (S : List Nat) (w0 : World) (ops : List Oper) (G : List RE) (K : Env → Gm → Prop)
def LiveR (D : Nat → Bool) (V : Nat → Value) : List Nat → Env → Gm → Prop
  | [], L, Γ => K L Γ
  | i :: ord, L, Γ => ∃ o, ops[i]? = some o ∧
      ((isR G i = false ∧ ((D i = true ∧ LiveR D V ord (addD o.dst (V i) L) Γ) ∨
          (D i = false ∧ want ops L o = some false ∧ LiveR D V ord (addD o.dst undef L) Γ) ∨
          (D i = false ∧ want ops L o = some true ∧ ∃ v, o.op.operands.toList.all (known L) = true ∧ (∀ w, Kp S w0 w → FactsR ops G i Γ w → OpRun P (rho L) o w (fun v' w' => v' = v ∧ Kp [] w w')) ∧ LiveR D V ord (addD o.dst v L) Γ))) ∨
       (isR G i = true ∧ ((D i = true ∧ LiveR D V ord (addD o.dst (V i) L) ((i, V i) :: Γ)) ∨
          (D i = false ∧ want ops L o = some true ∧ o.op.operands.toList.all (known L) = true ∧
            (∀ D' V' w, SOk S w0 G D' V' w → (∀ p ∈ Γ, sees ops i p.1 = true → D' p.1 = true ∧ V' p.1 = p.2) → D' i = false → (∀ j, anc ops j i = true → D' j = false) → OpRun P (rho L) o w (fun v w' => SOk S w0 G (setD D' i) (updR V' i v) w')) ∧
            ∀ v, LiveR D V ord (addD o.dst v L) ((i, v) :: Γ)))))
/-- The derivation: nothing is done yet. -/
def DerR : List Nat → Env → Gm → Prop := LiveR P S w0 ops G K (fun _ => false) (fun _ => undef)
end
section
variable {P : Program} {n : Nat} {S : List Nat} {ops : List Oper} {Q : Exit → Act → World → Prop} {w0 : World} {L0 : Env} {G : List RE} {K : Env → Gm → Prop}
theorem LiveR.congr {D D' : Nat → Bool} {V V' : Nat → Value} : ∀ {ord : List Nat} {L : Env} {Γ : Gm}, (∀ i ∈ ord, D i = D' i ∧ V i = V' i) → LiveR P S w0 ops G K D V ord L Γ → LiveR P S w0 ops G K D' V' ord L Γ
  | [], _, _, _, h => h
  | i :: ord, L, Γ, he, ⟨o, ho, h⟩ => by
    obtain ⟨e1, e2⟩ := he i (by simp)
    have he' : ∀ j ∈ ord, D j = D' j ∧ V j = V' j := fun j hj => he j (by simp [hj])
    refine ⟨o, ho, ?_⟩
    rcases h with ⟨hg, h⟩ | ⟨hg, h⟩
    · refine Or.inl ⟨hg, ?_⟩
      rcases h with ⟨hd, h⟩ | ⟨hd, hw, h⟩ | ⟨hd, hw, v, hk, hc, h⟩
      · exact Or.inl ⟨by rw [← e1]; exact hd, by rw [← e2]; exact LiveR.congr he' h⟩
      · exact Or.inr (Or.inl ⟨by rw [← e1]; exact hd, hw, LiveR.congr he' h⟩)
      · exact Or.inr (Or.inr ⟨by rw [← e1]; exact hd, hw, v, hk, hc, LiveR.congr he' h⟩)
    · refine Or.inr ⟨hg, ?_⟩
      rcases h with ⟨hd, h⟩ | ⟨hd, hw, hk, hc, h⟩
      · exact Or.inl ⟨by rw [← e1]; exact hd, by rw [← e2]; exact LiveR.congr he' h⟩
      · exact Or.inr ⟨by rw [← e1]; exact hd, hw, hk, hc, fun x => LiveR.congr he' (h x)⟩
def WayR (ops : List Oper) (L0 : Env) (D : Nat → Bool) (V : Nat → Value) (pre : List Nat) (L : Env) : Prop :=
  ∀ t v, look L t = some v → (∃ j ∈ pre, dstOf ops j = some t ∧ (D j = true → v = V j)) ∨ ((∀ j ∈ pre, dstOf ops j ≠ some t) ∧ look L0 t = some v)
theorem WayR.nil {D : Nat → Bool} {V : Nat → Value} : WayR ops L0 D V [] L0 := fun t v h => Or.inr ⟨by simp, h⟩
theorem WayR.cons {D : Nat → Bool} {V : Nat → Value} {pre : List Nat} {L : Env} {i : Nat} {o : Oper} {u : Value} (h : WayR ops L0 D V pre L) (ho : ops[i]? = some o) (hu : D i = true → u = V i) : WayR ops L0 D V (i :: pre) (addD o.dst u L) := by
  intro t v hv
  rw [look_addD] at hv
  have hdi : dstOf ops i = o.dst := by simp [dstOf, ho]
  by_cases e : o.dst = some t
  · rw [if_pos e] at hv
    cases hv
    exact Or.inl ⟨i, by simp, by rw [hdi, e], hu⟩
  · rw [if_neg e] at hv
    rcases h t v hv with ⟨j, hj, h1, h2⟩ | ⟨h1, h2⟩
    · exact Or.inl ⟨j, by simp [hj], h1, h2⟩
    · refine Or.inr ⟨fun j hj => ?_, h2⟩
      rcases List.mem_cons.1 hj with rfl | hj
      · rw [hdi]; exact e
      · exact h1 j hj
/-- The way to an operation that has no effect: all effects ahead of it are done. -/
theorem LiveR.plain {D : Nat → Bool} {V : Nat → Value} {r : Nat} (hgr : isR G r = false) (hdr : D r = false) : ∀ {ord pre : List Nat} {L : Env} {Γ : Gm}, ord.Nodup → r ∈ ord →
    (∀ g A B, ord = A ++ g :: B → r ∈ B → isR G g = true → D g = true) → WayR ops L0 D V pre L → (∀ p ∈ Γ, D p.1 = true ∧ V p.1 = p.2) → LiveR P S w0 ops G K D V ord L Γ →
    ∃ o L' Γ' A B, ord = A ++ r :: B ∧ ops[r]? = some o ∧ WayR ops L0 D V (A.reverse ++ pre) L' ∧ (∀ p ∈ Γ', D p.1 = true ∧ V p.1 = p.2) ∧
      ((want ops L' o = some false ∧ LiveR P S w0 ops G K (setD D r) (updR V r undef) ord L Γ) ∨
       (want ops L' o = some true ∧ ∃ v, o.op.operands.toList.all (known L') = true ∧ (∀ w, Kp S w0 w → FactsR ops G r Γ' w → OpRun P (rho L') o w (fun v' w' => v' = v ∧ Kp [] w w')) ∧ LiveR P S w0 ops G K (setD D r) (updR V r v) ord L Γ))
  | [], _, _, _, _, hm, _, _, _, _ => by cases hm
  | i :: ord, pre, L, Γ, hn, hm, hgd, hway, hfa, ⟨o, ho, h⟩ => by
    have hn' := List.nodup_cons.1 hn
    by_cases hir : i = r
    · subst hir
      have hsame : ∀ j ∈ ord, D j = setD D i j ∧ ∀ v, V j = updR V i v j := fun j hj => by
        have hne : j ≠ i := fun e => hn'.1 (e ▸ hj)
        exact ⟨(setD_ne hne).symm, fun v => by simp [updR, hne]⟩
      refine ⟨o, L, Γ, [], ord, rfl, ho, by simpa using hway, hfa, ?_⟩
      rcases h with ⟨hg, h⟩ | ⟨hg, h⟩
      · rcases h with ⟨hd, h⟩ | ⟨hd, hw, h⟩ | ⟨hd, hw, v, hk, hc, h⟩
        · rw [hdr] at hd; cases hd
        · refine Or.inl ⟨hw, o, ho, Or.inl ⟨hg, Or.inl ⟨setD_same, ?_⟩⟩⟩
          rw [updR_same]
          exact LiveR.congr (fun j hj => ⟨(hsame j hj).1, (hsame j hj).2 _⟩) h
        · refine Or.inr ⟨hw, v, hk, hc, o, ho, Or.inl ⟨hg, Or.inl ⟨setD_same, ?_⟩⟩⟩
          rw [updR_same]
          exact LiveR.congr (fun j hj => ⟨(hsame j hj).1, (hsame j hj).2 _⟩) h
      · rw [hgr] at hg; cases hg
    · have hm' : r ∈ ord := by
        rcases List.mem_cons.1 hm with h | h
        · exact absurd h.symm hir
        · exact h
      have hgd' : ∀ g A B, ord = A ++ g :: B → r ∈ B → isR G g = true → D g = true := fun g A B e hb => hgd g (i :: A) B (by rw [e]; rfl) hb
      have key : ∀ {L1 : Env} {Γ1 : Gm}, WayR ops L0 D V (i :: pre) L1 → (∀ p ∈ Γ1, D p.1 = true ∧ V p.1 = p.2) → LiveR P S w0 ops G K D V ord L1 Γ1 →
          ∃ o' L' Γ' A B, i :: ord = A ++ r :: B ∧ ops[r]? = some o' ∧ WayR ops L0 D V (A.reverse ++ pre) L' ∧ (∀ p ∈ Γ', D p.1 = true ∧ V p.1 = p.2) ∧
            ((want ops L' o' = some false ∧ LiveR P S w0 ops G K (setD D r) (updR V r undef) ord L1 Γ1) ∨
             (want ops L' o' = some true ∧ ∃ v, o'.op.operands.toList.all (known L') = true ∧ (∀ w, Kp S w0 w → FactsR ops G r Γ' w → OpRun P (rho L') o' w (fun v' w' => v' = v ∧ Kp [] w w')) ∧ LiveR P S w0 ops G K (setD D r) (updR V r v) ord L1 Γ1)) := by
        intro L1 Γ1 hw1 hf1 h1
        obtain ⟨o', L', Γ', A, B, e1, e2, e3, e4, e5⟩ := LiveR.plain hgr hdr hn'.2 hm' hgd' hw1 hf1 h1
        exact ⟨o', L', Γ', i :: A, B, by rw [e1]; rfl, e2, by simpa using e3, e4, e5⟩
      have eD : setD D r i = D i := setD_ne hir
      have eV : ∀ v, updR V r v i = V i := fun v => by simp [updR, hir]
      rcases h with ⟨hg, h⟩ | ⟨hg, h⟩
      · rcases h with ⟨hd, h⟩ | ⟨hd, hw, h⟩ | ⟨hd, hw, v, hk, hc, h⟩
        · obtain ⟨o', L', Γ', A, B, e1, e2, e3, e4, e5⟩ := key (hway.cons ho (fun _ => rfl)) hfa h
          refine ⟨o', L', Γ', A, B, e1, e2, e3, e4, ?_⟩
          rcases e5 with ⟨f1, f2⟩ | ⟨f1, v, f2, f3, f4⟩
          · exact Or.inl ⟨f1, o, ho, Or.inl ⟨hg, Or.inl ⟨by rw [eD]; exact hd, by rw [eV]; exact f2⟩⟩⟩
          · exact Or.inr ⟨f1, v, f2, f3, o, ho, Or.inl ⟨hg, Or.inl ⟨by rw [eD]; exact hd, by rw [eV]; exact f4⟩⟩⟩
        · obtain ⟨o', L', Γ', A, B, e1, e2, e3, e4, e5⟩ := key (hway.cons ho (fun hd' => by rw [hd] at hd'; cases hd')) hfa h
          refine ⟨o', L', Γ', A, B, e1, e2, e3, e4, ?_⟩
          rcases e5 with ⟨f1, f2⟩ | ⟨f1, v, f2, f3, f4⟩
          · exact Or.inl ⟨f1, o, ho, Or.inl ⟨hg, Or.inr (Or.inl ⟨by rw [eD]; exact hd, hw, f2⟩)⟩⟩
          · exact Or.inr ⟨f1, v, f2, f3, o, ho, Or.inl ⟨hg, Or.inr (Or.inl ⟨by rw [eD]; exact hd, hw, f4⟩)⟩⟩
        · obtain ⟨o', L', Γ', A, B, e1, e2, e3, e4, e5⟩ := key (hway.cons ho (fun hd' => by rw [hd] at hd'; cases hd')) hfa h
          refine ⟨o', L', Γ', A, B, e1, e2, e3, e4, ?_⟩
          rcases e5 with ⟨f1, f2⟩ | ⟨f1, v', f2, f3, f4⟩
          · exact Or.inl ⟨f1, o, ho, Or.inl ⟨hg, Or.inr (Or.inr ⟨by rw [eD]; exact hd, hw, v, hk, hc, f2⟩)⟩⟩
          · exact Or.inr ⟨f1, v', f2, f3, o, ho, Or.inl ⟨hg, Or.inr (Or.inr ⟨by rw [eD]; exact hd, hw, v, hk, hc, f4⟩)⟩⟩
      · have hdi : D i = true := hgd i [] ord rfl hm' hg
        rcases h with ⟨hd, h⟩ | ⟨hd, _⟩
        · obtain ⟨o', L', Γ', A, B, e1, e2, e3, e4, e5⟩ := key (hway.cons ho (fun _ => rfl)) (fun p hp => by
            rcases List.mem_cons.1 hp with rfl | hp
            · exact ⟨hd, rfl⟩
            · exact hfa p hp) h
          refine ⟨o', L', Γ', A, B, e1, e2, e3, e4, ?_⟩
          rcases e5 with ⟨f1, f2⟩ | ⟨f1, v, f2, f3, f4⟩
          · exact Or.inl ⟨f1, o, ho, Or.inr ⟨hg, Or.inl ⟨by rw [eD]; exact hd, by rw [eV]; exact f2⟩⟩⟩
          · exact Or.inr ⟨f1, v, f2, f3, o, ho, Or.inr ⟨hg, Or.inl ⟨by rw [eD]; exact hd, by rw [eV]; exact f4⟩⟩⟩
        · rw [hdi] at hd; cases hd
/-- What is so at an effect. -/
def EffR (P : Program) (S : List Nat) (w0 : World) (ops : List Oper) (G : List RE) (r : Nat) (o : Oper) (L' : Env) (Γ' : Gm) : Prop :=
  ∀ D' V' w, SOk S w0 G D' V' w → (∀ p ∈ Γ', sees ops r p.1 = true → D' p.1 = true ∧ V' p.1 = p.2) → D' r = false → (∀ j, anc ops j r = true → D' j = false) → OpRun P (rho L') o w (fun v w' => SOk S w0 G (setD D' r) (updR V' r v) w')
/-- The way to an effect: others may stand beside it, undone. -/
theorem LiveR.effect {D : Nat → Bool} {V : Nat → Value} {r : Nat} (hgr : isR G r = true) (hdr : D r = false) : ∀ {ord pre : List Nat} {L : Env} {Γ : Gm}, ord.Nodup → r ∈ ord →
    WayR ops L0 D V pre L → (∀ p ∈ Γ, D p.1 = true → V p.1 = p.2) → LiveR P S w0 ops G K D V ord L Γ →
    ∃ o L' Γ' A B, ord = A ++ r :: B ∧ ops[r]? = some o ∧ WayR ops L0 D V (A.reverse ++ pre) L' ∧ (∀ p ∈ Γ', D p.1 = true → V p.1 = p.2) ∧ want ops L' o = some true ∧ o.op.operands.toList.all (known L') = true ∧ EffR P S w0 ops G r o L' Γ' ∧ ∀ v, LiveR P S w0 ops G K (setD D r) (updR V r v) ord L Γ
  | [], _, _, _, _, hm, _, _, _ => by cases hm
  | i :: ord, pre, L, Γ, hn, hm, hway, hfa, ⟨o, ho, h⟩ => by
    have hn' := List.nodup_cons.1 hn
    by_cases hir : i = r
    · subst hir
      have hcg : ∀ (x : Value) {L1 : Env} {Γ1 : Gm}, LiveR P S w0 ops G K D V ord L1 Γ1 → LiveR P S w0 ops G K (setD D i) (updR V i x) ord L1 Γ1 := fun x {L1 Γ1} h1 => LiveR.congr (fun j hj => by
        have hne : j ≠ i := fun e => hn'.1 (e ▸ hj)
        exact ⟨(setD_ne hne).symm, (updR_ne hne).symm⟩) h1
      rcases h with ⟨hg, h⟩ | ⟨hg, h⟩
      · rw [hgr] at hg; cases hg
      · rcases h with ⟨hd, h⟩ | ⟨hd, hw, hk, hc, h⟩
        · rw [hdr] at hd; cases hd
        · refine ⟨o, L, Γ, [], ord, rfl, ho, by simpa using hway, hfa, hw, hk, hc, fun x => ⟨o, ho, Or.inr ⟨hg, Or.inl ⟨setD_same, ?_⟩⟩⟩⟩
          rw [updR_same]
          exact hcg x (h x)
    · have hm' : r ∈ ord := by
        rcases List.mem_cons.1 hm with h | h
        · exact absurd h.symm hir
        · exact h
      have eD : setD D r i = D i := setD_ne hir
      have eX : ∀ x, updR V r x i = V i := fun x => updR_ne hir
      have key : ∀ {L1 : Env} {Γ1 : Gm}, WayR ops L0 D V (i :: pre) L1 → (∀ p ∈ Γ1, D p.1 = true → V p.1 = p.2) → LiveR P S w0 ops G K D V ord L1 Γ1 →
          ∃ o L' Γ' A B, i :: ord = A ++ r :: B ∧ ops[r]? = some o ∧ WayR ops L0 D V (A.reverse ++ pre) L' ∧ (∀ p ∈ Γ', D p.1 = true → V p.1 = p.2) ∧ want ops L' o = some true ∧ o.op.operands.toList.all (known L') = true ∧ EffR P S w0 ops G r o L' Γ' ∧ ∀ v, LiveR P S w0 ops G K (setD D r) (updR V r v) ord L1 Γ1 := by
        intro L1 Γ1 hw1 hf1 h1
        obtain ⟨o', L', Γ', A, B, e1, e2, e3, e4, e5, e6, e7, e8⟩ := LiveR.effect hgr hdr hn'.2 hm' hw1 hf1 h1
        exact ⟨o', L', Γ', i :: A, B, by rw [e1]; rfl, e2, by simpa using e3, e4, e5, e6, e7, e8⟩
      rcases h with ⟨hg, h⟩ | ⟨hg, h⟩
      · rcases h with ⟨hd, h⟩ | ⟨hd, hw, h⟩ | ⟨hd, hw, v, hk, hc, h⟩
        · obtain ⟨o', L', Γ', A, B, e1, e2, e3, e4, e5, e6, e7, e8⟩ := key (hway.cons ho (fun _ => rfl)) hfa h
          exact ⟨o', L', Γ', A, B, e1, e2, e3, e4, e5, e6, e7, fun x => ⟨o, ho, Or.inl ⟨hg, Or.inl ⟨by rw [eD]; exact hd, by rw [eX]; exact e8 x⟩⟩⟩⟩
        · obtain ⟨o', L', Γ', A, B, e1, e2, e3, e4, e5, e6, e7, e8⟩ := key (hway.cons ho (fun hd' => by rw [hd] at hd'; cases hd')) hfa h
          exact ⟨o', L', Γ', A, B, e1, e2, e3, e4, e5, e6, e7, fun x => ⟨o, ho, Or.inl ⟨hg, Or.inr (Or.inl ⟨by rw [eD]; exact hd, hw, e8 x⟩)⟩⟩⟩
        · obtain ⟨o', L', Γ', A, B, e1, e2, e3, e4, e5, e6, e7, e8⟩ := key (hway.cons ho (fun hd' => by rw [hd] at hd'; cases hd')) hfa h
          exact ⟨o', L', Γ', A, B, e1, e2, e3, e4, e5, e6, e7, fun x => ⟨o, ho, Or.inl ⟨hg, Or.inr (Or.inr ⟨by rw [eD]; exact hd, hw, v, hk, hc, e8 x⟩)⟩⟩⟩
      · rcases h with ⟨hd, h⟩ | ⟨hd, hw, hk, hc, h⟩
        · obtain ⟨o', L', Γ', A, B, e1, e2, e3, e4, e5, e6, e7, e8⟩ := key (hway.cons ho (fun _ => rfl)) (fun p hp hpd => by
            rcases List.mem_cons.1 hp with rfl | hp
            · rfl
            · exact hfa p hp hpd) h
          exact ⟨o', L', Γ', A, B, e1, e2, e3, e4, e5, e6, e7, fun x => ⟨o, ho, Or.inr ⟨hg, Or.inl ⟨by rw [eD]; exact hd, by rw [eX]; exact e8 x⟩⟩⟩⟩
        · have hf : ∀ (y : Value), ∀ p ∈ ((i, y) :: Γ : Gm), D p.1 = true → V p.1 = p.2 := fun y p hp hpd => by
            rcases List.mem_cons.1 hp with rfl | hp
            · simp only at hpd; rw [hd] at hpd; cases hpd
            · exact hfa p hp hpd
          have all : ∀ y, ∀ x, LiveR P S w0 ops G K (setD D r) (updR V r x) ord (addD o.dst y L) ((i, y) :: Γ) := fun y => by
            obtain ⟨o', L', Γ', A, B, e1, e2, e3, e4, e5, e6, e7, e8⟩ := key (hway.cons ho (fun hd' => by rw [hd] at hd'; cases hd')) (hf y) (h y)
            exact e8
          obtain ⟨o', L', Γ', A, B, e1, e2, e3, e4, e5, e6, e7, e8⟩ := key (hway.cons ho (fun hd' => by rw [hd] at hd'; cases hd')) (hf undef) (h undef)
          exact ⟨o', L', Γ', A, B, e1, e2, e3, e4, e5, e6, e7, fun x => ⟨o, ho, Or.inr ⟨hg, Or.inr ⟨by rw [eD]; exact hd, hw, hk, hc, fun y => all y x⟩⟩⟩⟩
/-- All is done. -/
theorem LiveR.done {D : Nat → Bool} {V : Nat → Value} : ∀ {ord pre : List Nat} {L : Env} {Γ : Gm}, (∀ i ∈ ord, D i = true) → WayR ops L0 D V pre L → (∀ p ∈ Γ, V p.1 = p.2) → LiveR P S w0 ops G K D V ord L Γ →
    ∃ L' Γ', WayR ops L0 D V (ord.reverse ++ pre) L' ∧ (∀ p ∈ Γ', V p.1 = p.2) ∧ K L' Γ'
  | [], pre, L, Γ, _, hway, hfa, h => ⟨L, Γ, by simpa using hway, hfa, h⟩
  | i :: ord, pre, L, Γ, hall, hway, hfa, ⟨o, ho, h⟩ => by
    have hdi := hall i (by simp)
    have hall' : ∀ j ∈ ord, D j = true := fun j hj => hall j (by simp [hj])
    rcases h with ⟨hg, h⟩ | ⟨hg, h⟩
    · rcases h with ⟨hd, h⟩ | ⟨hd, _⟩ | ⟨hd, _⟩
      · obtain ⟨L', Γ', e1, e2, e3⟩ := LiveR.done hall' (hway.cons ho (fun _ => rfl)) hfa h
        exact ⟨L', Γ', by simpa using e1, e2, e3⟩
      · rw [hdi] at hd; cases hd
      · rw [hdi] at hd; cases hd
    · rcases h with ⟨hd, h⟩ | ⟨hd, _⟩
      · obtain ⟨L', Γ', e1, e2, e3⟩ := LiveR.done hall' (hway.cons ho (fun _ => rfl)) (fun p hp => by
          rcases List.mem_cons.1 hp with rfl | hp
          · rfl
          · exact hfa p hp) h
        exact ⟨L', Γ', by simpa using e1, e2, e3⟩
      · rw [hdi] at hd; cases hd
end
end Go.Proofs.YtgbgnlboogalgaaGreat
namespace Go.Proofs.YtgbgnlboogalgaaGreat
set_option linter.unusedVariables false
def chkY (n : Nat) (ops : List Oper) (ord gi : List Nat) (k0 k : Nat) : Bool :=
  ops.all (fun o => !isSelect o.op) && ops.all (fun o => o.dst.all (fun d => Nat.blt d n)) && nodupB (ops.filterMap (·.dst)) &&
  (List.range k).all (fun i => Nat.blt i k0 || ord.elem i) && nodupB ord && ordX ops gi [] ord && ord.all (fun i => Nat.blt i k && Nat.ble k0 i) && Nat.ble k ops.length &&
  ((List.range ops.length).all fun i => ((ops[i]?).map fun o => (edges o).all (fun e => Nat.blt e i)).getD false) &&
  ((List.range ops.length).all fun i => Nat.blt i k || (List.range k).all (fun j => Nat.blt j k0 || anc ops i j)) && gi.all (fun i => ord.elem i)
section
variable {P : Program} {n : Nat} {ops : List Oper} {Q : Exit → Act → World → Prop} {w0 : World} {L0 : Env} {G : List (Nat × GD)} {ord gi : List Nat} {k0 k : Nat}
structure ChkY (n : Nat) (ops : List Oper) (ord gi : List Nat) (k0 k : Nat) : Prop where
  sel : ∀ o ∈ ops, isSelect o.op = false
  dlt : ∀ o ∈ ops, ∀ d, o.dst = some d → d < n
  one : ∀ (i j : Nat) (oi oj : Oper) (t : Nat), ops[i]? = some oi → ops[j]? = some oj → oi.dst = some t → oj.dst = some t → i = j
  cover : ∀ i, k0 ≤ i → i < k → i ∈ ord
  nodup : ord.Nodup
  ok : ordX ops gi [] ord = true
  lt : ∀ i ∈ ord, i < k
  ge : ∀ i ∈ ord, k0 ≤ i
  le : k ≤ ops.length
  ed : ∀ (i : Nat) (o : Oper), ops[i]? = some o → ∀ e ∈ edges o, e < i
  tl : ∀ i, i < ops.length → k ≤ i → ∀ j, k0 ≤ j → j < k → anc ops i j = true
  gi : ∀ i ∈ gi, i ∈ ord
/-- What is so on the way. -/
structure StY (P : Program) (n : Nat) (ops : List Oper) (k0 : Nat) (w0 : World) (L0 : Env) (G : List (Nat × GD)) (K : Env → List Fact → Prop) (ord : List Nat) (D : Nat → Bool) (V : Nat → Value) (ξ : (i : Nat) → (gdOf G i).X) (a : Act) (w : World) : Prop where
  closed : ∀ (i : Nat) (o : Oper), ops[i]? = some o → D i = true → ∀ e ∈ edges o, D e = true
  size : a.tmps.size = n
  defers : a.defers = []
  slot : ∀ (i : Nat) (o : Oper) (d : Nat), k0 ≤ i → ops[i]? = some o → D i = true → o.dst = some d → a.tmps[d]? = some (gave G V ξ i)
  old : ∀ t v, look L0 t = some v → (∀ (i : Nat) (o : Oper), k0 ≤ i → ops[i]? = some o → D i = true → o.dst ≠ some t) → a.tmps[t]? = some v
  kp : Kp [] w0 w
  ph : ∀ i, isGh G i = true → D i = true → (gdOf G i).phi (ξ i) w
  live : Live P w0 ops G K D V ξ ord L0 []
/-- The first k are done. -/
def lst (N k : Nat) : Array Bool := ((List.range N).map (fun i => decide (i < k))).toArray
/-- The region, its first k done. -/
def RG (P : Program) (n : Nat) (ops : List Oper) (Q : Exit → Act → World → Prop) (k : Nat) (L : Env) (w : World) : Prop := ∀ a, Fits n a L → Go.wpAny P .any ops.toArray Q (ops.length - k) (lst ops.length k) a w
def KY (n : Nat) (w0 : World) (P : Program) (ops : List Oper) (Q : Exit → Act → World → Prop) (k : Nat) (L : Env) (Γ : List Fact) : Prop :=
  ∀ w', Kp [] w0 w' → (∀ p ∈ Γ, p.2 w') → RG P n ops Q k L w'
theorem cnt_of {listed : Array Bool} (hle : k ≤ ops.length) (hdec : ∀ i, i < ops.length → listed.getD i true = decide (i < k)) : (List.range ops.length).countP (fun i => !listed.getD i true) = ops.length - k := by
  have e1 : (List.range ops.length).countP (fun i => !listed.getD i true) = (List.range ops.length).countP (fun i => !decide (i < k)) := by
    apply List.countP_congr
    intro i hi
    rw [hdec i (by simpa using hi)]
  rw [e1]
  have : ops.length = k + (ops.length - k) := by omega
  rw [this, List.range_add, List.countP_append, List.countP_map]
  have h1 : (List.range k).countP (fun i => !decide (i < k)) = 0 := by
    rw [List.countP_eq_zero]; intro i hi; simp at hi; simp [hi]
  have h2 : (List.range (ops.length - k)).countP ((fun i => !decide (i < k)) ∘ fun x => k + x) = (List.range (ops.length - k)).length := by
    rw [List.countP_eq_length]; intro i hi; simp
  rw [h1, h2]
  simp
end
end Go.Proofs.YtgbgnlboogalgaaGreat
namespace Go.Proofs.YtgbgnlboogalgaaGreat
set_option linter.unusedVariables false
def giR (G : List RE) : List Nat := (G.map (·.i)).filter (fun i => Nat.blt i 1000)
theorem isR_iff {G : List RE} {i : Nat} (hi : i < 1000) : isR G i = (giR G).elem i := by
  rw [Bool.eq_iff_iff, List.elem_eq_mem, decide_eq_true_iff]
  unfold isR giR
  rw [List.any_eq_true, List.mem_filter, List.mem_map]
  constructor
  · rintro ⟨e, he, h⟩
    exact ⟨⟨e, he, by simpa using h⟩, by simp [Nat.blt_eq, hi]⟩
  · rintro ⟨⟨e, he, h⟩, _⟩
    exact ⟨e, he, by simp [h]⟩
theorem befs_len : ∀ (r : List Oper) (acc : List Nat), (befs r acc).length = acc.length + r.length
  | [], acc => by simp [befs]
  | o :: r, acc => by simp only [befs]; rw [befs_len r]; simp; omega
/-- Where nothing is done the values don't count. -/
theorem LiveR.anyV {P : Program} {S : List Nat} {w0 : World} {ops : List Oper} {G : List RE} {K : Env → Gm → Prop} {D : Nat → Bool} {V V' : Nat → Value} : ∀ {ord : List Nat} {L : Env} {Γ : Gm}, (∀ i ∈ ord, D i = false) → LiveR P S w0 ops G K D V ord L Γ → LiveR P S w0 ops G K D V' ord L Γ
  | [], _, _, _, h => h
  | i :: ord, L, Γ, he, ⟨o, ho, h⟩ => by
    have e1 := he i (by simp)
    have he' : ∀ j ∈ ord, D j = false := fun j hj => he j (by simp [hj])
    refine ⟨o, ho, ?_⟩
    rcases h with ⟨hg, h⟩ | ⟨hg, h⟩
    · refine Or.inl ⟨hg, ?_⟩
      rcases h with ⟨hd, h⟩ | ⟨hd, hw, h⟩ | ⟨hd, hw, v, hk, hc, h⟩
      · rw [e1] at hd; cases hd
      · exact Or.inr (Or.inl ⟨hd, hw, LiveR.anyV he' h⟩)
      · exact Or.inr (Or.inr ⟨hd, hw, v, hk, hc, LiveR.anyV he' h⟩)
    · refine Or.inr ⟨hg, ?_⟩
      rcases h with ⟨hd, h⟩ | ⟨hd, hw, hk, hc, h⟩
      · rw [e1] at hd; cases hd
      · exact Or.inr ⟨hd, hw, hk, hc, fun x => LiveR.anyV he' (h x)⟩
section
variable {P : Program} {n : Nat} {S : List Nat} {ops : List Oper} {Q : Exit → Act → World → Prop} {w0 : World} {L0 : Env} {G : List RE} {Γ0 : Gm} {ord : List Nat} {k : Nat}
structure StR (P : Program) (n : Nat) (S : List Nat) (ops : List Oper) (w0 : World) (L0 : Env) (G : List RE) (Γ0 : Gm) (K : Env → Gm → Prop) (ord : List Nat) (D : Nat → Bool) (V : Nat → Value) (a : Act) (w : World) : Prop where
  closed : ∀ (i : Nat) (o : Oper), ops[i]? = some o → D i = true → ∀ e ∈ edges o, D e = true
  size : a.tmps.size = n
  defers : a.defers = []
  slot : ∀ (i : Nat) (o : Oper) (d : Nat), ops[i]? = some o → D i = true → o.dst = some d → a.tmps[d]? = some (V i)
  old : ∀ t v, look L0 t = some v → (∀ (i : Nat) (o : Oper), ops[i]? = some o → D i = true → o.dst ≠ some t) → a.tmps[t]? = some v
  ok : SOk S w0 G D V w
  ini : ∀ p ∈ Γ0, V p.1 = p.2 ∧ D p.1 = true ∧ ops.length ≤ p.1
  live : LiveR P S w0 ops G K D V ord L0 Γ0
theorem StR.looks {K : Env → Gm → Prop} {D : Nat → Bool} {V : Nat → Value} {a : Act} {w : World} (c : ChkX n ops ord (giR G) k) (hst : StR P n S ops w0 L0 G Γ0 K ord D V a w) (htl : ∀ i, i < ops.length → k ≤ i → D i = false)
    {r : Nat} {o : Oper} {A B : List Nat} {L' : Env} (he : ord = A ++ r :: B) (ho : ops[r]? = some o) (hdr : D r = false) (hanc : ∀ j, anc ops r j = true → D j = true) (hway : WayR ops L0 D V (A.reverse ++ []) L') :
    ∀ t ∈ lks ops o, ∀ v, look L' t = some v → a.tmps[t]? = some v := by
  intro t ht v hv
  obtain ⟨g1, _⟩ := ordX_spec ord [] c.ok A r B he o ho
  rcases hway t v hv with ⟨j, hj, h1, h2⟩ | ⟨h1, h2⟩
  · have hjA : j ∈ A := by simpa using hj
    have hdj := hanc j ((g1 t ht).1 j (Or.inl hjA) h1)
    unfold dstOf at h1
    cases hoj : ops[j]? with
    | none => rw [hoj] at h1; simp at h1
    | some oj =>
      rw [hoj] at h1
      simp only [Option.bind_some] at h1
      rw [hst.slot j oj t hoj hdj h1, h2 hdj]
  · refine hst.old t v h2 (fun i oi hoi hdi e => ?_)
    have hil := (List.getElem?_eq_some_iff.1 hoi).1
    have hik : i < k := by
      by_cases h : i < k
      · exact h
      · rw [htl i hil (by omega)] at hdi; cases hdi
    have hio := c.cover i hik
    have hdi' : dstOf ops i = some t := by simp [dstOf, hoi, e]
    rw [he] at hio
    rcases List.mem_append.1 hio with hA | hB
    · exact h1 i (by simpa using hA) hdi'
    · rcases List.mem_cons.1 hB with rfl | hB
      · rw [hdr] at hdi; cases hdi
      · have h3 := (g1 t ht).2 i hB hdi'
        have := anc_closed hst.closed i oi hoi (hst.closed i oi hoi hdi) r h3
        rw [hdr] at this
        cases this
/-- One is done. -/
theorem StR.did {K : Env → Gm → Prop} {D : Nat → Bool} {V : Nat → Value} {a : Act} {w w' : World} (c : ChkX n ops ord (giR G) k) (hst : StR P n S ops w0 L0 G Γ0 K ord D V a w) {r : Nat} {o : Oper} {v : Value} (ho : ops[r]? = some o) (hed : ∀ e ∈ edges o, D e = true)
    (hok : SOk S w0 G (setD D r) (updR V r v) w') (hlive : LiveR P S w0 ops G K (setD D r) (updR V r v) ord L0 Γ0) :
    StR P n S ops w0 L0 G Γ0 K ord (setD D r) (updR V r v) (a.put o.dst v) w' := by
  have hrl := (List.getElem?_eq_some_iff.1 ho).1
  refine ⟨fun i oi hoi hdi e he => ?_, ?_, ?_, fun i oi d hoi hdi hd => ?_, fun t u hu hno => ?_, hok, fun p hp => ?_, hlive⟩
  · by_cases hir : i = r
    · subst hir
      rw [ho] at hoi
      cases hoi
      exact setD_of (hed e he)
    · rw [setD_ne hir] at hdi
      exact setD_of (hst.closed i oi hoi hdi e he)
  · cases hdd : o.dst with
    | none => exact hst.size
    | some d => simp [Act.put, hst.size]
  · cases hdd : o.dst <;> exact hst.defers
  · by_cases hir : i = r
    · subst hir
      rw [ho] at hoi
      cases hoi
      rw [hd, updR_same]
      exact put_here hst.size (c.dlt o (List.mem_of_getElem? ho) d hd)
    · rw [setD_ne hir] at hdi
      rw [updR_ne hir]
      exact put_slot hst.size d _ (hst.slot i oi d hoi hdi hd) (fun e => hir (c.one i r oi o d hoi ho hd e))
  · refine put_slot hst.size t u (hst.old t u hu (fun i oi hoi hdi => hno i oi hoi (setD_of hdi))) (hno r o ho setD_same)
  · obtain ⟨h1, h2, h3⟩ := hst.ini p hp
    exact ⟨by rw [updR_ne (by omega)]; exact h1, setD_of h2, h3⟩
def KR (n : Nat) (S : List Nat) (w0 : World) (P : Program) (ops : List Oper) (Q : Exit → Act → World → Prop) (k : Nat) (G : List RE) (L : Env) (Γ : Gm) : Prop :=
  ∀ w' V, SOk S w0 G (fun _ => true) V w' → (∀ p ∈ Γ, V p.1 = p.2) → SG P n ops Q (ops.drop k) L w'
theorem StR.wpAny (c : ChkX n ops ord (giR G) k) (hG : ∀ e ∈ G, e.Ok) (hlen : ops.length ≤ 1000) : ∀ (fuel : Nat) (listed : Array Bool) (V : Nat → Value) (a : Act) (w : World),
    listed.size = ops.length → StR P n S ops w0 L0 G Γ0 (KR n S w0 P ops Q k G) ord (fun j => listed.getD j true) V a w → (∀ i, i < ops.length → k ≤ i → listed.getD i true = false) →
    (List.range ops.length).countP (fun i => !listed.getD i true) = fuel → Go.wpAny P .any ops.toArray Q fuel listed a w := by
  have hfin : ∀ (listed : Array Bool) (V : Nat → Value) (a : Act) (w : World), listed.size = ops.length → StR P n S ops w0 L0 G Γ0 (KR n S w0 P ops Q k G) ord (fun j => listed.getD j true) V a w → (∀ i, i < ops.length → k ≤ i → listed.getD i true = false) → (∀ i, i < k → listed.getD i true = true) → wpList P ops.toArray Q (ops.drop k) a w := by
    intro listed V a w hsz hst htl hpre
    obtain ⟨L', Γ', h1, h2, h3⟩ := LiveR.done (L0 := L0) (pre := []) (fun i hi => hpre i (c.lt i hi)) WayR.nil (fun p hp => (hst.ini p hp).1) hst.live
    refine h3 w V (hst.ok.congr (fun e he => ⟨?_, rfl⟩)) h2 a ⟨fun t v hv => ?_, hst.size, hst.defers⟩
    · by_cases h : e.i < 1000
      · have hg : (giR G).elem e.i = true := by
          rw [← isR_iff h]
          exact List.any_eq_true.2 ⟨e, he, by simp⟩
        rw [List.elem_eq_mem] at hg
        exact hpre _ (c.lt _ (c.gi _ (of_decide_eq_true hg)))
      · simp [Array.getD_eq_getD_getElem?, Array.getElem?_eq_none (show listed.size ≤ e.i by omega)]
    · rcases h1 t v hv with ⟨j, hj, g1, g2⟩ | ⟨g1, g2⟩
      · have hjo : j ∈ ord := by simpa using hj
        have hdj := hpre j (c.lt j hjo)
        unfold dstOf at g1
        cases hoj : ops[j]? with
        | none => rw [hoj] at g1; simp at g1
        | some oj =>
          rw [hoj] at g1
          simp only [Option.bind_some] at g1
          rw [hst.slot j oj t hoj hdj g1, g2 hdj]
      · refine hst.old t v g2 (fun i oi hoi hdi e => ?_)
        have hil := (List.getElem?_eq_some_iff.1 hoi).1
        have hik : i < k := by
          by_cases h : i < k
          · exact h
          · simp only [htl i hil (by omega)] at hdi; cases hdi
        exact g1 i (by simpa using c.cover i hik) (by simp [dstOf, hoi, e])
  intro fuel
  induction fuel with
  | zero =>
    intro listed V a w hsz hst htl hcnt
    rw [List.countP_eq_zero] at hcnt
    have hall : ∀ i, i < ops.length → listed.getD i true = true := fun i hi => by simpa using hcnt i (by simpa using hi)
    have hle := c.le
    have hk : k = ops.length := by
      by_cases h : k < ops.length
      · have := htl k h (Nat.le_refl _)
        rw [hall k h] at this
        cases this
      · omega
    exact wpAny_tail c.ed 0 k listed a w (by omega) hsz c.tl hst.closed (fun i hi => by rw [hall i hi]; simp; omega) (hfin listed V a w hsz hst htl (fun i hi => hall i (by omega)))
  | succ fuel ih =>
    intro listed V a w hsz hst htl hcnt
    have hle := c.le
    by_cases hpre : ∀ i, i < k → listed.getD i true = true
    · have hdec : ∀ i, i < ops.length → listed.getD i true = decide (i < k) := by
        intro i hi
        by_cases hik : i < k
        · rw [hpre i hik]; simp [hik]
        · rw [htl i hi (by omega)]; simp [hik]
      have hm : k + (fuel + 1) = ops.length := by
        have := cnt_of hle hdec
        omega
      exact wpAny_tail c.ed (fuel + 1) k listed a w hm hsz c.tl hst.closed hdec (hfin listed V a w hsz hst htl hpre)
    · constructor
      · intro hr
        exfalso
        apply hpre
        intro i
        induction i using Nat.strongRecOn with
        | _ i ihi =>
          intro hik
          cases hd : listed.getD i true with
          | true => rfl
          | false =>
            exfalso
            have : i ∈ Region.ready .any ops.toArray listed := by
              refine (ready_iff hsz).2 ⟨ops[i], by simp, hd, fun e he => ?_⟩
              have hei := c.ed i ops[i] (by simp) e he
              have := ihi e hei (by omega)
              simp only [Array.getD_eq_getD_getElem?] at this ⊢
              rw [Array.getElem?_eq_getElem (by omega)] at this ⊢
              exact this
            rw [hr] at this
            cases this
      · intro i hi
        obtain ⟨o, ho, hnd, hed'⟩ := (ready_iff hsz).1 hi
        have hil : i < ops.length := (List.getElem?_eq_some_iff.1 ho).1
        have hed : ∀ e ∈ edges o, listed.getD e true = true := by
          intro e he
          have := hed' e he
          simp only [Array.getD_eq_getD_getElem?] at this ⊢
          cases h : listed[e]? with
          | none => rfl
          | some b => rw [h] at this; exact this
        have hanc : ∀ j, anc ops i j = true → listed.getD j true = true := anc_closed hst.closed i o ho hed
        have hsz' : (listed.setIfInBounds i true).size = ops.length := by simp [hsz]
        have hset : (fun j => (listed.setIfInBounds i true).getD j true) = setD (fun j => listed.getD j true) i := funext fun j => getD_set (by omega)
        have hini : ∀ p ∈ Γ0, listed.getD p.1 true = true ∧ V p.1 = p.2 := fun p hp => ⟨(hst.ini p hp).2.1, (hst.ini p hp).1⟩
        have hlater : ∀ j, anc ops j i = true → listed.getD j true = false := by
          intro j hj
          cases hd : listed.getD j true with
          | false => rfl
          | true =>
            exfalso
            by_cases hjl : j < ops.length
            · have hoj : ops[j]? = some ops[j] := by simp
              have := anc_closed hst.closed j ops[j] hoj (hst.closed j ops[j] hoj hd) i hj
              rw [hnd] at this
              cases this
            · unfold anc at hj
              rw [List.getD_eq_getElem?_getD, List.getElem?_eq_none (by rw [befs_len]; simp; omega)] at hj
              simp at hj
        by_cases hik : i < k
        · have htl' : ∀ j, j < ops.length → k ≤ j → (listed.setIfInBounds i true).getD j true = false := by
            intro j hj hkj
            rw [getD_set (by omega), setD_ne (by omega)]
            exact htl j hj hkj
          have hcnt' : (List.range ops.length).countP (fun j => !(listed.setIfInBounds i true).getD j true) = fuel := by
            have key : ∀ (l : List Nat), l.Nodup → i ∈ l → l.countP (fun j => !listed.getD j true) = l.countP (fun j => !(listed.setIfInBounds i true).getD j true) + 1 := by
              intro l
              induction l with
              | nil => intro _ h; cases h
              | cons y l ihl =>
                intro hnl hm
                rw [List.nodup_cons] at hnl
                rw [List.countP_cons, List.countP_cons]
                by_cases e : y = i
                · subst e
                  have hsame : l.countP (fun j => !listed.getD j true) = l.countP (fun j => !(listed.setIfInBounds y true).getD j true) := by
                    apply List.countP_congr
                    intro j hj
                    rw [getD_set (by omega), setD_ne (show j ≠ y from fun e1 => hnl.1 (e1 ▸ hj))]
                  rw [hsame, getD_set (by omega), setD_same, hnd]
                  simp
                · have hm' : i ∈ l := by
                    rcases List.mem_cons.1 hm with h | h
                    · exact absurd h.symm e
                    · exact h
                  rw [ihl hnl.2 hm', getD_set (by omega), setD_ne e]
                  omega
            have := key (List.range ops.length) List.nodup_range (by simpa using hil)
            omega
          have hio := c.cover i hik
          cases hg : isR G i with
          | false =>
            have hgd : ∀ g A B, ord = A ++ g :: B → i ∈ B → isR G g = true → listed.getD g true = true := by
              intro g A B he hb hgg
              have hgo : g ∈ ord := by rw [he]; simp
              have hgl : g < ops.length := Nat.lt_of_lt_of_le (c.lt g hgo) hle
              obtain ⟨_, g2⟩ := ordX_spec ord [] c.ok A g B he ops[g] (by simp [hgl])
              rcases g2 (by rw [← isR_iff (by omega)]; exact hgg) i hb with h | h
              · rw [← isR_iff (by omega), hg] at h; cases h
              · exact hanc g h
            obtain ⟨o', L', Γ', A, B, e1, e2, e3, e4, e5⟩ := LiveR.plain (D := fun j => listed.getD j true) hg hnd c.nodup hio hgd WayR.nil hini hst.live
            have heo : o = o' := Option.some.inj (ho.symm.trans e2)
            subst heo
            have hlk := hst.looks c htl e1 ho hnd hanc e3
            rcases e5 with ⟨hw, hl⟩ | ⟨hw, v, hkn, hrun, hl⟩
            · refine wpOp_of ho (wanted_of hlk hw) (fun h => by cases h) (fun _ => ?_)
              refine ih _ (updR V i undef) _ w hsz' ?_ htl' hcnt'
              rw [hset]
              exact hst.did c ho hed (hst.ok.congr (fun e he => ⟨(setD_ne (D := fun j => listed.getD j true) (isR_no hg he)).symm, (updR_ne (isR_no hg he)).symm⟩)) hl
            · refine wpOp_of ho (wanted_of hlk hw) (fun _ => ?_) (fun h => by cases h)
              have hr := hrun w hst.ok.kp (fun p hp ha e he hei => by
                obtain ⟨h1, h2⟩ := e4 p hp
                rw [← h2, ← hei]
                exact hst.ok.row e he (by rw [hei]; exact h1))
              have hr' := OpRun.congr (c.sel o (List.mem_of_getElem? ho)) (eval_of hlk hkn) hr
              refine hr'.wp (fun v' w' ⟨h1, h2⟩ => ?_)
              subst h1
              refine ih _ (updR V i v') _ w' hsz' ?_ htl' hcnt'
              rw [hset]
              exact hst.did c ho hed ((hst.ok.kp0 hG h2).congr (fun e he => ⟨(setD_ne (D := fun j => listed.getD j true) (isR_no hg he)).symm, (updR_ne (isR_no hg he)).symm⟩)) hl
          | true =>
            obtain ⟨o', L', Γ', A, B, e1, e2, e3, e4, hw, hkn, hrun, hl⟩ := LiveR.effect (D := fun j => listed.getD j true) hg hnd c.nodup hio WayR.nil (fun p hp _ => (hini p hp).2) hst.live
            have heo : o = o' := Option.some.inj (ho.symm.trans e2)
            subst heo
            have hlk := hst.looks c htl e1 ho hnd hanc e3
            refine wpOp_of ho (wanted_of hlk hw) (fun _ => ?_) (fun h => by cases h)
            have hr := hrun (fun j => listed.getD j true) V w hst.ok (fun p hp hs => by
              have hD : listed.getD p.1 true = true := by
                unfold sees at hs
                rw [Bool.or_eq_true] at hs
                rcases hs with hs | hs
                · have hs := Nat.le_of_ble_eq_true hs
                  simp [Array.getD_eq_getD_getElem?, Array.getElem?_eq_none (show listed.size ≤ p.1 by omega)]
                · exact hanc p.1 hs
              exact ⟨hD, e4 p hp hD⟩) hnd hlater
            have hr' := OpRun.congr (c.sel o (List.mem_of_getElem? ho)) (eval_of hlk hkn) hr
            refine hr'.wp (fun v' w' hok => ?_)
            refine ih _ (updR V i v') _ w' hsz' ?_ htl' hcnt'
            rw [hset]
            exact hst.did c ho hed hok (hl v')
        · exfalso
          apply hpre
          intro j hj
          exact hanc j (c.tl i hil (by omega) j (by omega))
/-- The rule, with slices that were there before (Γ0, their places from 1000 on). -/
theorem CG.rowsI {id : Nat} (hm : P.follows .mixedOrders = true) (k : Nat) (ord : List Nat) (G : List RE) (Γ0 : Gm) (S : List Nat) (V0 : Nat → Value) (hc : chkX n ops ord (giR G) k = true) (hlen : Nat.ble ops.length 1000 = true) (hG : ∀ e ∈ G, e.Ok)
    (h0 : ∀ w', Kp [] w0 w' → SOk S w0 G (fun j => Nat.ble 1000 j) V0 w') (hV : ∀ p ∈ Γ0, V0 p.1 = p.2 ∧ 1000 ≤ p.1)
    (h : DerR P S w0 ops G (KR n S w0 P ops Q k G) ord L0 Γ0) : CG P n (.region id ops.toArray true) Q L0 w0 := by
  intro a ha
  have c := ChkX.of hc
  have hlen := Nat.le_of_ble_eq_true hlen
  refine wp_region_any hm ?_
  have hget : ∀ j, (Array.replicate ops.toArray.size false).getD j true = !decide (j < ops.length) := by
    intro j
    simp [Array.getD_eq_getD_getElem?, Array.getElem?_replicate]
    split <;> simp_all
  refine StR.wpAny (S := S) (w0 := w0) (L0 := L0) (G := G) (Γ0 := Γ0) c hG hlen _ _ V0 a _ (by simp) ?_ ?_ ?_
  · have hD : (fun j => (Array.replicate ops.toArray.size false).getD j true) = fun j => !decide (j < ops.length) := funext hget
    rw [hD]
    refine ⟨fun i o ho hd => ?_, ha.size, ha.defers, fun i o d ho hd => ?_, fun t v hv _ => ha.slot t v hv, (h0 _ (Kp.refl [] w0).drew).congr (fun e he => ⟨?_, rfl⟩), fun p hp => ?_, ?_⟩
    · simp [(List.getElem?_eq_some_iff.1 ho).1] at hd
    · simp [(List.getElem?_eq_some_iff.1 ho).1] at hd
    · by_cases h : e.i < 1000
      · have hg : (giR G).elem e.i = true := by
          rw [← isR_iff h]
          exact List.any_eq_true.2 ⟨e, he, by simp⟩
        rw [List.elem_eq_mem] at hg
        have h1 := c.lt _ (c.gi _ (of_decide_eq_true hg))
        have h2 := c.le
        have h3 : e.i < ops.length := by omega
        have h4 : Nat.ble 1000 e.i = false := by
          rw [← Bool.not_eq_true, Nat.ble_eq]; omega
        simp [h3, h4]
      · have h3 : ¬ e.i < ops.length := by omega
        have h4 : Nat.ble 1000 e.i = true := by rw [Nat.ble_eq]; omega
        simp [h3, h4]
    · obtain ⟨h1, h2⟩ := hV p hp
      have h3 : ¬ p.1 < ops.length := by omega
      exact ⟨h1, by simp [h3], by omega⟩
    · refine LiveR.congr (fun i hi => ⟨?_, ?_⟩) (show LiveR P S w0 ops G (KR n S w0 P ops Q k G) (fun _ => false) V0 ord L0 Γ0 from ?_)
      · have h1 := c.lt i hi
        have hle := c.le
        have hil : i < ops.length := by omega
        simp [hil]
      · rfl
      · exact LiveR.anyV (fun _ _ => rfl) h
  · intro i hi _
    rw [hget]; simp [hi]
  · have : (List.range ops.length).countP (fun i => !(Array.replicate ops.toArray.size false).getD i true) = (List.range ops.length).length := by
      rw [List.countP_eq_length]
      intro i hi
      rw [hget]
      simp at hi
      simp [hi]
    rw [this]
    simp
theorem CG.rows {id : Nat} (hm : P.follows .mixedOrders = true) (k : Nat) (ord : List Nat) (G : List RE) (hc : chkX n ops ord (giR G) k = true) (hlen : Nat.ble ops.length 1000 = true) (hlow : G.all (fun e => Nat.blt e.i 1000) = true) (hG : ∀ e ∈ G, e.Ok)
    (h : DerR P [] w0 ops G (KR n [] w0 P ops Q k G) ord L0 []) : CG P n (.region id ops.toArray true) Q L0 w0 := by
  have hno : ∀ e ∈ G, Nat.ble 1000 e.i = true → False := fun e he h1 => by
    have h2 := List.all_eq_true.1 hlow e he
    rw [Nat.blt_eq] at h2
    have h3 := Nat.le_of_ble_eq_true h1
    omega
  exact CG.rowsI hm k ord G [] [] (fun _ => undef) hc hlen hG (fun w' hk => ⟨hk, fun e he h1 => (hno e he h1).elim, fun e he e' _ h1 => (hno e he h1).elim, fun e he h1 => (hno e he h1).elim⟩) (fun p hp => by cases hp) h
end
end Go.Proofs.YtgbgnlboogalgaaGreat
namespace Go.Proofs.YtgbgnlboogalgaaGreat
set_option linter.unusedVariables false
section
variable {P : Program} {n : Nat} {ops : List Oper} {Q : Exit → Act → World → Prop} {w w0 : World} {L : Env} {ty : TypeId} {pos : String} {af : Array Edge} {g : Option (Nat × Bool)} {rest : List Oper}
end
end Go.Proofs.YtgbgnlboogalgaaGreat
namespace Go.Proofs.YtgbgnlboogalgaaGreat
set_option linter.unusedVariables false
/-- An owned row; a slice written out. -/
def oP {α : Type} (base : Nat) (E : TypeId) (sz : Nat) (enc : α → List Value) (l : List α) : Value → World → Prop := fun v w => w.ownsRow base E sz v l.length (flt enc l)
def bP (m : Nat) (E : TypeId) (k : Nat) (cs : Array Value) : Value → World → Prop := fun v w => ∃ b f, v = .slice (some ⟨b, 0, none⟩) k k ∧ m ≤ b ∧ Blk w b (.cells cs E f)
theorem oP_ok {α : Type} {i ch base : Nat} {E : TypeId} {sz : Nat} {enc : α → List Value} {l : List α} : RE.Ok ⟨i, ch, oP base E sz enc l⟩ := by
  refine ⟨fun v w w' _ h hp => ?_, fun v w b hp hb => ?_⟩
  · rcases hp with ⟨h1, h2 | ⟨g, cap, cur, rfl, hg, hh, hr⟩⟩
    · exact ⟨h1, Or.inl h2⟩
    · exact ⟨h1, Or.inr ⟨g, cap, cur, rfl, hg, h g _ rfl hh, hr⟩⟩
  · rcases hp with ⟨h1, ⟨rfl, _⟩ | ⟨g, cap, cur, rfl, hg, hh, hr⟩⟩
    · cases hb
    · cases hb
      exact (Array.getElem?_eq_some_iff.1 hh).1
theorem bP_ok {i ch m k : Nat} {E : TypeId} {cs : Array Value} : RE.Ok ⟨i, ch, bP m E k cs⟩ := by
  refine ⟨fun v w w' _ h hp => ?_, fun v w b hp hb => ?_⟩
  · obtain ⟨b, f, rfl, hm, hB⟩ := hp
    exact ⟨b, f, rfl, hm, h b _ rfl hB⟩
  · obtain ⟨b, f, rfl, hm, hB⟩ := hp
    cases hb
    exact hB.lt
inductive OkL : List RE → Prop
  | nil : OkL []
  | cons {e : RE} {r : List RE} : e.Ok → OkL r → OkL (e :: r)
theorem OkL.all : ∀ {G : List RE}, OkL G → ∀ e ∈ G, e.Ok
  | _, .nil, _, h => by cases h
  | _, .cons h1 h2, e, h => by
    rcases List.mem_cons.1 h with rfl | h
    · exact h1
    · exact h2.all e h
theorem oP.sl {α : Type} {base : Nat} {E : TypeId} {sz : Nat} {enc : α → List Value} {l : List α} {v : Value} {w : World} (he : ∀ x, (enc x).length = sz) (h : oP base E sz enc l v w) : ∃ a c, v = .slice a l.length c ∧ Sl enc sz w a l := by
  obtain ⟨a, c, h1, _, h2⟩ := Sl.own he h rfl
  exact ⟨a, c, h1, h2⟩
def LeAll {α : Type} (n : Nat) : List (Nat × List α) → Prop
  | [] => True
  | q :: r => q.2.length ≤ n ∧ LeAll n r
theorem LeAll.mem {α : Type} {n : Nat} : ∀ {l : List (Nat × List α)}, LeAll n l → ∀ q ∈ l, q.2.length ≤ n
  | [], _, _, h => by cases h
  | q :: r, ⟨h1, h2⟩, p, h => by
    rcases List.mem_cons.1 h with rfl | h
    · exact h1
    · exact h2.mem p h
/-- Rows no longer than the elder one stay. -/
theorem app_keptS {w w' : World} {base n m sz : Nat} {e : TypeId} {v v' : Value} {xs news : List Value} (hown : w.ownsRow base e sz v n xs) (hown' : w'.ownsRow base e sz v' (n + m) (xs ++ news)) (hk : Kp (ownB v) w w') (h : Kp [] w w' ∨ Room e w v v' n m) {base2 n2 : Nat} {v2 : Value} {xs2 : List Value} (hn : n2 ≤ n) (h2 : w.ownsRow base2 e sz v2 n2 xs2) : w'.ownsRow base2 e sz v2 n2 xs2 := by
  rcases h with h | ⟨g, cap, cur, rfl, hB, hroom, rfl⟩
  · exact own_kp0 h2 h
  · have hk : Kp [g] w w' := hk
    obtain ⟨h20, ⟨rfl, h21⟩ | ⟨g2, cap2, cur2, rfl, hb2, hh2, hc1, hc2, hc3, hc4⟩⟩ := h2
    · exact ⟨h20, Or.inl ⟨rfl, h21⟩⟩
    · by_cases eg : g2 = g
      · subst eg
        have hu := hB.uniq hh2
        simp only [Obj.cells.injEq] at hu
        obtain ⟨rfl, _, _⟩ := hu
        obtain ⟨hx0, ⟨hx, _⟩ | ⟨g3, cap3, cur3, hx, hb3, hh3, d1, d2, d3, d4⟩⟩ := hown
        · cases hx
        · simp only [Value.slice.injEq, Option.some.injEq, Addr.mk.injEq] at hx
          obtain ⟨⟨rfl, _⟩, _, rfl⟩ := hx
          have hu := hB.uniq hh3
          simp only [Obj.cells.injEq] at hu
          obtain ⟨rfl, _, _⟩ := hu
          obtain ⟨hy0, ⟨hy, _⟩ | ⟨g4, cap4, cur4, hy, hb4, hh4, f1, f2, f3, f4⟩⟩ := hown'
          · cases hy
          · simp only [Value.slice.injEq, Option.some.injEq, Addr.mk.injEq] at hy
            obtain ⟨⟨rfl, _⟩, _, rfl⟩ := hy
            refine ⟨h20, Or.inr ⟨g2, cap2, cur4, rfl, hb2, hh4, hc1, hc2, by rw [f3, ← d3, hc3], ?_⟩⟩
            have h5 := congrArg (List.take (n * sz)) f4
            rw [List.take_take, Nat.min_eq_left (Nat.mul_le_mul_right sz (by omega)), List.take_append_of_le_length (by omega), ← hx0, List.take_length, hx0] at h5
            have h6 := congrArg (List.take (n2 * sz)) (h5.trans d4.symm)
            rw [List.take_take, List.take_take, Nat.min_eq_left (Nat.mul_le_mul_right sz hn)] at h6
            rw [h6, hc4]
      · exact ⟨h20, Or.inr ⟨g2, cap2, cur2, rfl, hb2, by rw [hk.blk g2 (Array.getElem?_eq_some_iff.1 hh2).1 (by simp [eg])]; exact hh2, hc1, hc2, hc3, hc4⟩⟩
/-- append of any slice to an owned row: all that comes of it. -/
theorem run_appA {α : Type} {enc : α → List Value} {P : Program} {w : World} {base : Nat} {t ty e : TypeId} {i : TypeInfo} [u : Ut P t (.slice e)] [f : Inf P e i] {z : Value} (hz : i.zero = some z) (hzs : z.cells.size = i.size) (hsz : 0 < i.size) (hel : ∀ x, (enc x).length = i.size) (hone : ∀ x, allOne (enc x) = true)
    {v : Value} {l ys : List α} (hown : w.ownsRow base e i.size v l.length (flt enc l)) {a2 : Option Addr} {c2 : Nat} (hS : Sl enc i.size w a2 ys) (h63 : l.length + ys.length ≤ maxLen) (hbytes : (l.length + ys.length) * i.bytes ≤ 140737488355328) (hbase : base ≤ w.heap.size) :
    ∃ v' w', (Builtin.append_ #[t, t] ty #[v, .slice a2 ys.length c2]).run P w = .ok v' w' ∧ w'.ownsRow base e i.size v' (l ++ ys).length (flt enc (l ++ ys)) ∧ Kp (ownB v) w w' ∧ (∀ g, v'.ownBlock = some g → v.ownBlock = some g ∨ w.heap.size ≤ g) ∧
      (∀ {base2 n2 : Nat} {v2 : Value} {xs2 : List Value}, n2 ≤ l.length → w.ownsRow base2 e i.size v2 n2 xs2 → w'.ownsRow base2 e i.size v2 n2 xs2) := by
  cases ys with
  | nil =>
    refine ⟨v, w, ?_, by rw [List.append_nil]; exact hown, Kp.refl _ _, fun g hg => Or.inl hg, fun _ h => h⟩
    simpa using run_app0 (P := P) (ty := ty) (u := u) (f := f) hown a2 c2
  | cons y ys =>
    obtain ⟨b, off, rfl, _⟩ := hS.at (i := 0) (by simp)
    have hr := Sl.flat hel (by simp) hS
    obtain ⟨v', w', e1, e2, e3, e4⟩ := run_appendR (P := P) (ty := ty) (c := c2) (u := u) (f := f) hz hzs hsz hown (m := (y :: ys).length) (flt_length hel _) hr (flt_all hone _) (by simp) h63 hbytes hbase
    refine ⟨v', w', e1, by rw [flt_append, List.length_append]; exact e2, e3, fun g hg => ?_, fun hn h2 => app_keptS hown e2 e3 e4 hn h2⟩
    rcases append_where (P := P) (ty := ty) (u := u) (f := f) hz hown (flt_length hel _) hr (flt_all hone _) h63 hbytes e1 g hg with h | h
    · exact Or.inl h
    · exact Or.inr (by omega)
section
variable {P : Program} {n : Nat} {S : List Nat} {ops : List Oper} {Q : Exit → Act → World → Prop} {w0 : World} {L : Env} {G : List RE} {K : Env → Gm → Prop} {Γ : Gm} {i : Nat} {ord : List Nat} {ty : TypeId} {pos : String} {af : Array Edge} {g : Option (Nat × Bool)}
theorem FactsR.get {w : World} (h : FactsR ops G i Γ w) {j : Nat} {v : Value} {E : RE} (hp : (j, v) ∈ Γ) (hs : sees ops i j = true) (hE : atR G j = [E]) : E.phi v w := h (j, v) hp hs E (atR_in hE).1 (atR_in hE).2
theorem SOk.get {V : Nat → Value} {w : World} (h : SOk S w0 G (fun _ => true) V w) (hV : ∀ p ∈ Γ, V p.1 = p.2) {j : Nat} {v : Value} {E : RE} (hp : (j, v) ∈ Γ) (hE : atR G j = [E]) : E.phi v w := by
  have h1 := h.row E (atR_in hE).1 rfl
  have h2 := hV _ hp
  rw [(atR_in hE).2] at h1
  simp only at h2
  rwa [h2] at h1
theorem DerR.val {d : Nat} {op : Op} {v : Value} (hg : isR G i = false) (ho : ops[i]? = some ⟨some d, op, ty, pos, af, g⟩) (hw : want ops L ⟨some d, op, ty, pos, af, g⟩ = some true) (hk : op.operands.toList.all (known L) = true)
    (hv : Vals P S w0 (FactsR ops G i Γ) L ⟨some d, op, ty, pos, af, g⟩ v) (h : DerR P S w0 ops G K ord ((d, v) :: L) Γ) : DerR P S w0 ops G K (i :: ord) L Γ :=
  ⟨_, ho, Or.inl ⟨hg, Or.inr (Or.inr ⟨rfl, hw, v, hk, fun w hkp hF => by unfold OpRun; rw [hv w hkp hF]; exact ⟨rfl, Kp.refl _ _⟩, h⟩)⟩⟩
/-- A call with a fixed answer. -/
theorem DerR.call {d : Nat} {f : FuncId} [Fnc P f] {args : List Operand} {vs : List Value} {tys : Array TypeId} {v : Value} (hg : isR G i = false)
    (ho : ops[i]? = some ⟨some d, .call ⟨.value (.func f), args.toArray, tys⟩, ty, pos, af, g⟩) (hw : want ops L ⟨some d, .call ⟨.value (.func f), args.toArray, tys⟩, ty, pos, af, g⟩ = some true) (hk : (Op.call ⟨.value (.func f), args.toArray, tys⟩).operands.toList.all (known L) = true)
    (he : Evs L args vs) (hc : ∀ w, Kp S w0 w → FactsR ops G i Γ w → Ret P f vs.toArray w v) (h : DerR P S w0 ops G K ord ((d, v) :: L) Γ) : DerR P S w0 ops G K (i :: ord) L Γ :=
  ⟨_, ho, Or.inl ⟨hg, Or.inr (Or.inr ⟨rfl, hw, v, hk, fun w h1 h2 => orun_call (by rw [he.arr]; exact (hc w h1 h2).mono (fun e w' ⟨g1, g2⟩ => ⟨v, g1, rfl, g2⟩)), h⟩)⟩⟩
theorem SOk.facts {D : Nat → Bool} {V : Nat → Value} {w : World} (h : SOk S w0 G D V w) (hc : ∀ p ∈ Γ, sees ops i p.1 = true → D p.1 = true ∧ V p.1 = p.2) : FactsR ops G i Γ w := fun p hp hs e he hi => by
  obtain ⟨h1, h2⟩ := hc p hp hs
  rw [← h2, ← hi]
  exact h.row e he (by rw [hi]; exact h1)
/-- An effect that makes something new. -/
theorem DerR.eff {o : Oper} {E : RE} (hE : atR G i = [E]) (ho : ops[i]? = some o) (hw : want ops L o = some true) (hk : o.op.operands.toList.all (known L) = true) (hG : OkL G)
    (hc : ∀ w, Kp S w0 w → FactsR ops G i Γ w → OpRun P (rho L) o w (fun v w' => E.phi v w' ∧ Kp [] w w' ∧ ∀ b, obk v = some b → w.heap.size ≤ b))
    (h : ∀ v, DerR P S w0 ops G K ord (addD o.dst v L) ((i, v) :: Γ)) : DerR P S w0 ops G K (i :: ord) L Γ := by
  have hr : isR G i = true := List.any_eq_true.2 ⟨E, (atR_in hE).1, by rw [(atR_in hE).2]; simp⟩
  exact ⟨o, ho, Or.inr ⟨hr, Or.inr ⟨rfl, hw, hk, fun D' V' w hs hcon hd hl => (hc w hs.kp (hs.facts hcon)).mono (fun v w' ⟨g1, g2, g3⟩ => hs.new hG.all hE g2 g1 g3), h⟩⟩⟩
/-- A call that answers an owned row. -/
theorem DerR.callO {α : Type} {enc : α → List Value} {E : TypeId} {base sz c d : Nat} {f : FuncId} [Fnc P f] {args : List Operand} {vs : List Value} {tys : Array TypeId} (l : List α) (hE : atR G i = [⟨i, c, oP base E sz enc l⟩])
    (ho : ops[i]? = some ⟨some d, .call ⟨.value (.func f), args.toArray, tys⟩, ty, pos, af, g⟩) (hw : want ops L ⟨some d, .call ⟨.value (.func f), args.toArray, tys⟩, ty, pos, af, g⟩ = some true) (hk : (Op.call ⟨.value (.func f), args.toArray, tys⟩).operands.toList.all (known L) = true) (hG : OkL G)
    (he : Evs L args vs) (hb : base ≤ w0.heap.size) (hc : ∀ w, Kp S w0 w → FactsR ops G i Γ w → RetO P E enc sz f vs.toArray w l) (h : ∀ v, DerR P S w0 ops G K ord ((d, v) :: L) ((i, v) :: Γ)) : DerR P S w0 ops G K (i :: ord) L Γ :=
  DerR.eff hE ho hw hk hG (fun w h1 h2 => orun_call (by
    rw [he.arr]
    refine (hc w h1 h2).mono (fun e w' ⟨v, g1, g2, g3⟩ => ⟨v, g1, own_mono g2 (Nat.le_trans hb h1.size), g3, fun b hb' => ?_⟩)
    rcases g2.2 with ⟨rfl, _⟩ | ⟨g4, cap, cur, rfl, hg, _⟩
    · cases hb'
    · cases hb'
      exact hg)) h
/-- .. that is an owned row at once. -/
theorem DerR.buildO {α : Type} {enc : α → List Value} {base sz c d k : Nat} {T E : TypeId} {parts : List (Nat × Operand)} {vs : List (Nat × Value)} (l : List α) (hel : ∀ x, (enc x).length = sz) (hE : atR G i = [⟨i, c, oP base E sz enc l⟩]) (hl : k = l.length)
    (ho : ops[i]? = some ⟨some d, .buildSlice T k parts.toArray, ty, pos, af, g⟩) (hw : want ops L ⟨some d, .buildSlice T k parts.toArray, ty, pos, af, g⟩ = some true) (hk : (Op.buildSlice T k parts.toArray).operands.toList.all (known L) = true) (hG : OkL G)
    (he : (parts.map fun p => (p.1, rho L p.2)) = vs) (hm : base ≤ w0.heap.size) (hlen : l.length ≤ maxLen) (hrun : ∀ w : World, (Instr.buildSlice T k vs.toArray).run P w = .ok (.slice (some ⟨w.heap.size, 0, none⟩) k k) { w with heap := w.heap.push (.cells (flt enc l).toArray E) })
    (h : ∀ v, DerR P S w0 ops G K ord ((d, v) :: L) ((i, v) :: Γ)) : DerR P S w0 ops G K (i :: ord) L Γ := by
  subst hl
  refine DerR.eff hE ho hw hk hG (fun w h1 h2 => ?_) h
  unfold OpRun
  have e : (parts.toArray.map fun (p : Nat × Operand) => (p.1, rho L p.2)) = vs.toArray := by simp [he]
  have : (execOp (rho L) ⟨some d, .buildSlice T l.length parts.toArray, ty, pos, af, g⟩).run P w = .ok (.value (.slice (some ⟨w.heap.size, 0, none⟩) l.length l.length)) { w with heap := w.heap.push (.cells (flt enc l).toArray E) } := by
    simp only [execOp, e, Sem.run_bind, hrun w, Result.andThen, Sem.run_pure]
  rw [this]
  exact ⟨own_made hel (Blk.push w _) (Nat.le_trans hm h1.size) rfl hlen, Kp.push w _ rfl, fun b hb => by cases hb; exact Nat.le_refl _⟩
/-- 'append'. -/
theorem DerR.append {α : Type} {enc : α → List Value} {base d c src : Nat} {t e : TypeId} {inf : TypeInfo} [u : Ut P t (.slice e)] [f : Inf P e inf] {z : Value} {s y : Operand} {v v2 : Value} (l l2 : List α) (LL : List (Nat × List α)) (hel : ∀ x, (enc x).length = inf.size) (hone : ∀ x, allOne (enc x) = true)
    (hE : atR G i = [⟨i, c, oP base e inf.size enc (l ++ l2)⟩]) (hE0 : atR G src = [⟨src, c, oP base e inf.size enc l⟩])
    (hLL : G.filter (fun q => Nat.beq q.ch c && !Nat.beq q.i i && !anc ops q.i i) = LL.map (fun q => ⟨q.1, c, oP base e inf.size enc q.2⟩)) (hle : LeAll l.length LL)
    (ho : ops[i]? = some ⟨some d, .call { callee := .builtin .append, args := #[s, y], argTypes := #[t, t] }, ty, pos, af, g⟩) (hw : want ops L ⟨some d, .call { callee := .builtin .append, args := #[s, y], argTypes := #[t, t] }, ty, pos, af, g⟩ = some true) (hk : (known L s && known L y) = true) (hG : OkL G)
    (hs : rho L s = v) (hx : rho L y = v2) (hz : inf.zero = some z) (hzs : Nat.beq z.cells.size inf.size = true) (hsz : Nat.blt 0 inf.size = true) (h63 : l.length + l2.length ≤ maxLen) (hbytes : (l.length + l2.length) * inf.bytes ≤ 140737488355328) (hbase : base ≤ w0.heap.size)
    (hsrc : (src, v) ∈ Γ) (hsee : sees ops i src = true) (hY : ∀ w, Kp S w0 w → FactsR ops G i Γ w → ∃ a2 c2, v2 = .slice a2 l2.length c2 ∧ Sl enc inf.size w a2 l2)
    (h : ∀ v' : Value, DerR P S w0 ops G K ord ((d, v') :: L) ((i, v') :: Γ)) : DerR P S w0 ops G K (i :: ord) L Γ := by
  have hr : isR G i = true := List.any_eq_true.2 ⟨_, (atR_in hE).1, by simp⟩
  refine ⟨_, ho, Or.inr ⟨hr, Or.inr ⟨rfl, hw, by simpa [Op.operands, Call.operands] using hk, fun D' V' w hok hcon hd hl => ?_, h⟩⟩⟩
  have hF := hok.facts hcon
  obtain ⟨hds, hvs⟩ := hcon _ hsrc hsee
  simp only at hds hvs
  have hown : w.ownsRow base e inf.size v l.length (flt enc l) := hF.get hsrc hsee hE0
  obtain ⟨a2, c2, rfl, hS⟩ := hY w hok.kp hF
  obtain ⟨v', w', e1, e2, e3, e4, e5⟩ := run_appA (P := P) (ty := ty) (c2 := c2) (u := u) (f := f) hz (Nat.eq_of_beq_eq_true hzs) (by simpa [Nat.blt_eq] using hsz) hel hone hown hS h63 hbytes (Nat.le_trans hbase hok.kp.size)
  have hbS : ∀ b, v.ownBlock = some b → b ∈ S ∨ w0.heap.size ≤ b := fun b hb => by
    have := hok.own _ (atR_in hE0).1 (by simpa using hds) b
    simp only at this
    rw [hvs] at this
    exact this (obk_own hb)
  unfold OpRun
  have : (execOp (rho L) ⟨some d, .call { callee := .builtin .append, args := #[s, y], argTypes := #[t, t] }, ty, pos, af, g⟩).run P w = .ok (.value v') w' := by
    simp only [execOp, resolve, invoke, builtin, Sem.run_bind, Sem.run_pure, Result.andThen_ok, List.map_toArray, List.map_cons, List.map_nil, hs, hx, e1]
  rw [this]
  have hownB : ∀ z, z ∈ ownB v → v.ownBlock = some z := fun z hz => by
    unfold ownB at hz
    split at hz
    · rename_i b hb
      rw [List.mem_singleton] at hz
      rw [hb, hz]
    · cases hz
  refine hok.turn hG.all hE0 (by simpa using hds) hE rfl (hok.kp.trans_new e3 (fun z hz => hbS z (hownB z hz))) e3.size (fun z o hz hB => hB.kp e3 (fun hm => hz (by rw [hvs]; exact obk_own (hownB z hm)))) e2 (fun b hb => by rw [hvs, obk_row hown]; exact e4 b ((obk_row e2).symm.trans hb)) (fun q hq hc hi hdq hp => ?_)
  by_cases ha : anc ops q.i i = true
  · have := hl q.i ha
    rw [hdq] at this
    cases this
  · have hm : q ∈ G.filter (fun q => Nat.beq q.ch c && !Nat.beq q.i i && !anc ops q.i i) := by
      refine List.mem_filter.2 ⟨hq, ?_⟩
      have h1 : Nat.beq q.ch c = true := by rw [Nat.beq_eq]; exact hc
      have h2 : Nat.beq q.i i = false := by rw [← Bool.not_eq_true, Nat.beq_eq]; exact hi
      simp [h1, h2, ha]
    rw [hLL] at hm
    obtain ⟨qq, hqq, rfl⟩ := List.mem_map.1 hm
    exact e5 (hle.mem qq hqq) hp
theorem DerR.tl {k : Nat} (h : ∀ w' V, SOk S w0 G (fun _ => true) V w' → (∀ p ∈ Γ, V p.1 = p.2) → SG P n ops Q (ops.drop k) L w') : DerR P S w0 ops G (KR n S w0 P ops Q k G) [] L Γ := h
/-- With one owned row that was there before. -/
theorem CG.rows1 {α : Type} {L0 : Env} {enc : α → List Value} {E : TypeId} {id base sz c : Nat} {v : Value} {l : List α} (hm : P.follows .mixedOrders = true) (k : Nat) (ord : List Nat) (G : List RE) (hi : G.filter (fun e => Nat.ble 1000 e.i) = [⟨1000, c, oP base E sz enc l⟩]) (ho : w0.ownsRow base E sz v l.length (flt enc l)) (hc : chkX n ops ord (giR G) k = true) (hlen : Nat.ble ops.length 1000 = true) (hG : OkL G)
    (h : DerR P (ownB v) w0 ops G (KR n (ownB v) w0 P ops Q k G) ord L0 [(1000, v)]) : CG P n (.region id ops.toArray true) Q L0 w0 := by
  have hin : ∀ e ∈ G, Nat.ble 1000 e.i = true → e = ⟨1000, c, oP base E sz enc l⟩ := fun e he h1 => by
    have : e ∈ G.filter (fun e => Nat.ble 1000 e.i) := List.mem_filter.2 ⟨he, h1⟩
    rw [hi] at this
    simpa using this
  refine CG.rowsI hm k ord G [(1000, v)] (ownB v) (fun _ => v) hc hlen hG.all (fun w' hk => ⟨hk.any, fun e he h1 => ?_, fun e he e' he' h1 h2 hcc => ?_, fun e he h1 b hb => ?_⟩) (fun p hp => ?_) h
  · rw [hin e he h1]
    exact own_kp0 ho hk
  · rw [hin e he h1, hin e' he' h2] at hcc
    exact absurd rfl hcc
  · left
    have hb : v.ownBlock = some b := (obk_row ho).symm.trans hb
    unfold ownB
    rw [hb]
    simp
  · simp only [List.mem_singleton] at hp
    subst hp
    exact ⟨rfl, Nat.le_refl _⟩
end
end Go.Proofs.YtgbgnlboogalgaaGreat
namespace Go.Proofs.YtgbgnlboogalgaaGreat
set_option linter.unusedVariables false
def mP {κ ν : Type} (base : Nat) (enc : κ → Value) (V : ν → Value) (m : List (κ × ν)) : Value → World → Prop := fun v w => ∃ b, v = .map (some b) ∧ base ≤ b ∧ MapIs w b enc V m
section
variable {P : Program} {n : Nat} {S : List Nat} {ops : List Oper} {Q : Exit → Act → World → Prop} {w0 : World} {L : Env} {G : List RE} {K : Env → Gm → Prop} {Γ : Gm} {i : Nat} {ord : List Nat} {ty : TypeId} {pos : String} {af : Array Edge} {g : Option (Nat × Bool)}
end
end Go.Proofs.YtgbgnlboogalgaaGreat
namespace Go.Proofs.YtgbgnlboogalgaaGreat
open Go.Proofs
set_option linter.unusedVariables false
theorem own_some {w : World} {base n cap sz : Nat} {a : Option Addr} {T : TypeId} {l : List UInt8} {xs : List Value} (ho : w.ownsRow base T sz (.slice a l.length cap) n xs) : l = [] ∧ a = none ∨ ∃ b2 off, a = some ⟨b2, off, none⟩ := by
  rcases ho.2 with ⟨h, h0⟩ | ⟨g, c, cur, h, _⟩
  · simp only [Value.slice.injEq] at h
    exact Or.inl ⟨List.eq_nil_of_length_eq_zero h.2.1, h.1⟩
  · simp only [Value.slice.injEq] at h
    exact Or.inr ⟨g, 0, h.1⟩
theorem putU_len' (n : Nat) : (putU n).length ≤ 11 := putN_len 10 n
abbrev oB (base : Nat) (l : List UInt8) := oP base 5 1 by1 l
open Classical in
noncomputable def txEq (a b : Tx) : Bool := decide (a = b)
theorem txEq_t {a b : Tx} (h : a = b) : txEq a b = true := by simp [txEq, h]
theorem txEq_f {a b : Tx} (h : a ≠ b) : txEq a b = false := by simp [txEq, h]
theorem txc_mid4 (t : Tx) (a1 a2 : Option Addr) (c1 c2 : Nat) : txc ⟨t, a1, c1, a2, c2⟩ = (dc t.frm ++ [.int .i64 t.non, .int .i64 t.fee, .int .i64 t.kind]) ++ ([.slice a1 t.body.length c1] ++ [.slice a2 t.sig.length c2]) := by
  simp [txc, Tm.b, Tm.s]
theorem txc_mid5 (t : Tx) (a1 a2 : Option Addr) (c1 c2 : Nat) : txc ⟨t, a1, c1, a2, c2⟩ = (dc t.frm ++ [.int .i64 t.non, .int .i64 t.fee, .int .i64 t.kind, .slice a1 t.body.length c1]) ++ ([.slice a2 t.sig.length c2] ++ []) := by
  simp [txc, Tm.b, Tm.s]
theorem tx_len1 (t : Tx) : (dc t.frm ++ [Value.int .i64 t.non, .int .i64 t.fee, .int .i64 t.kind]).length = 11 := by simp [dc_length]
theorem tx_len2 (t : Tx) (v : Value) : (dc t.frm ++ [Value.int .i64 t.non, .int .i64 t.fee, .int .i64 t.kind, v]).length = 12 := by simp [dc_length]
theorem Sl.nil_of' {α : Type} {enc : α → List Value} {sz : Nat} {w : World} {l : List α} (h : Sl enc sz w none l) : l = [] := by
  cases l with
  | nil => rfl
  | cons x l =>
    obtain ⟨b, off, e, _⟩ := h 0 x rfl
    cases e
attribute [local irreducible] CG NG SG Vals Der Row Blk MapIs IterAt addI xorI orI andI shlI shrI or8 lo7 DerX DerR putU num wrongT
set_option maxHeartbeats 16000000 in
theorem putbytes_spec {w : World} {a a2 : Option Addr} {c c2 : Nat} {l m : List UInt8} (hS : Bs w a c l) (hM : Bs w a2 c2 m) (hl : l.length + m.length ≤ 100000000) : RetO Tryz.prog 5 by1 1 86 #[.slice a l.length c, .slice a2 m.length c2] w (l ++ putB m) := by
  refine enter2 Tryz.func86 rfl Tryz.ntmps86 rfl ?_
  have e1 : (10 : Int) + (m.length : Int) = ((10 + m.length : Nat) : Int) := by omega
  repeat (first|apply cA|apply cB|apply cD|apply cE|refine cV rfl rfl rfl rfl (by first|((first|apply qmv|apply qas|apply qad|apply qln)<;>(first|exact rfl|exact Ar.mk (by omega)|fail))|fail) ?_)
  rw [e1]
  refine SG.call rfl rfl rfl (by repeat' (first | exact True.intro | exact rho_of rfl | refine And.intro ?_ ?_)) ((fresh_spec (c := c) hS.sl (10 + m.length) (by omega)).mono (fun e w1 hh => ?_))
  obtain ⟨v1, he, ho1, hk1⟩ := hh
  refine ⟨_, he, ?_⟩
  repeat (first|refine cV rfl rfl rfl rfl (by first|(apply qi64<;>(first|exact rfl|exact Ar.mk (by omega)|fail))|((first|apply qmv|apply qln)<;>(first|exact rfl|exact Ar.mk (by omega)|fail))|fail) ?_)
  refine SG.call rfl rfl rfl (by repeat' (first | exact True.intro | exact rho_of rfl | refine And.intro ?_ ?_)) ((number_spec ho1 hk1.size m.length (by omega) (by omega)).mono (fun e w2 hh => ?_))
  obtain ⟨v2, he, ho2, hk2, _⟩ := hh
  refine ⟨_, he, ?_⟩
  have k2 := hk1.trans_new hk2 (own_new ho1 (Nat.le_refl _))
  have hp := putU_len' m.length
  repeat (first|apply cA|apply cB|apply cD|apply cE|refine cV rfl rfl rfl rfl (by first|((first|apply qmv|apply qas)<;>(exact rfl))|fail) ?_)
  refine SG.appO (enc := by1) (xs := l ++ putU m.length) (ys := m) (base := w.heap.size) rfl rfl rfl (by exact rho_of rfl) (by exact rho_of rfl) rfl rfl rfl rfl by1_len by1_one ho2 (hM.sl.kp0 k2) (by simp only [maxLen, List.length_append]; omega) (by simp only [List.length_append]; show (_ + _) * 1 ≤ _; omega) k2.size (fun v3 w3 hk3 ho3 _ => ?_)
  repeat (first|apply cD|apply cE|apply cH|refine cV rfl rfl rfl rfl (by first|(apply qas<;>(exact rfl))|fail) ?_)
  refine ret1 (Or.inl rfl) Tryz.results86 (by first | exact ResV.tmp rfl | exact ResV.agg rfl rfl (by assumption) (by first | exact dc_length _ | exact nc_length _ | exact rc_length _ _ _ | exact ec_length _ | exact dl_length _ _ _ _ | rfl) | exact ResV.cell rfl rfl (by assumption)) ?_
  refine ⟨_, rfl, ?_, k2.trans_new hk3 (own_new ho2 (Nat.le_refl _))⟩
  rw [List.append_assoc] at ho3
  exact ho3
set_option maxHeartbeats 16000000 in
theorem unsigned_spec {w : World} {x : Tm} (hx : Bs w x.a1 x.c1 x.t.body) (hl : x.t.body.length ≤ 10000000) : RetO Tryz.prog 5 by1 1 87 #[txv x] w (headT x.t) := by
  refine enter1 Tryz.func87 rfl Tryz.ntmps87 rfl ?_
  have p1 := putU_len' (u64N x.t.kind)
  have p2 := putU_len' (num x.t.frm)
  have p3 := putU_len' (u64N x.t.non)
  have p4 := putU_len' (u64N x.t.fee)
  have z1 := u64N_lt x.t.kind
  have z3 := u64N_lt x.t.non
  have z4 := u64N_lt x.t.fee
  repeat (first|apply cA|apply cB)
  refine SG.box rfl rfl rfl (by exact rho_of rfl) (fun b1 w1 hk1 hb1 hB1 => ?_)
  have hB1 : Blk w1 b1 (.cells (txc x).toArray 40) := hB1
  have hl1 := hB1.lt
  obtain ⟨-, r0, r1, r2, r3, r4, r5⟩ := txc_rows hB1
  repeat (first|apply cA|apply cB|apply cD|apply cE|refine cV rfl rfl rfl rfl (by first|((first|apply qas|apply qlc|apply qfa|apply qcv)<;>(first|exact rfl|assumption|exact List.not_mem_nil))|fail) ?_)
  rw [u64N_eq]
  refine SG.call rfl rfl rfl (vs := [.slice none 0 0, .int .u64 (u64N x.t.kind : Int)]) (by repeat' (first | exact True.intro | exact rho_of rfl | refine And.intro ?_ ?_)) ((putnum_spec (l := []) Bs.nil (u64N x.t.kind) z1 (by simp)).mono (fun e w2 hh => ?_))
  obtain ⟨v2, he, ho2, hk2⟩ := hh
  refine ⟨_, he, ?_⟩
  rw [List.nil_append] at ho2
  obtain ⟨a2, c2, rfl, hS2⟩ := Bs.own ho2
  have k2 := hk1.trans hk2
  have r0 := r0.kp0 hk2
  have r1 := r1.kp0 hk2
  have r2 := r2.kp0 hk2
  have r4 := r4.kp0 hk2
  clear r3
  repeat (first|apply cA|apply cB|apply cD|apply cE|refine cV rfl rfl rfl rfl (by first|((first|apply qmv|apply qas|apply qla|apply qfa)<;>(first|exact rfl|assumption|exact List.not_mem_nil|apply dc_length))|fail) ?_)
  refine SG.ret rfl rfl rfl (vs := [dv x.t.frm]) (by repeat' (first | exact True.intro | exact rho_of rfl | refine And.intro ?_ ?_)) (num_spec x.t.frm w2) (fun w3 hk3 => ?_)
  skip
  refine SG.call rfl rfl rfl (vs := [.slice a2 (putU (u64N x.t.kind)).length c2, .int .u64 (num x.t.frm : Int)]) (by repeat' (first | exact True.intro | exact rho_of rfl | refine And.intro ?_ ?_)) ((putnum_spec (hS2.kp0 hk3) (num x.t.frm) (num_lt _) (by omega)).mono (fun e w4 hh => ?_))
  obtain ⟨v4, he, ho4, hk4⟩ := hh
  refine ⟨_, he, ?_⟩
  obtain ⟨a4, c4, rfl, hS4⟩ := Bs.own ho4
  have k34 := hk3.trans hk4
  have r1 := r1.kp0 k34
  have r2 := r2.kp0 k34
  have r4 := r4.kp0 k34
  clear r0
  repeat (first|apply cA|apply cB|apply cD|apply cE|refine cV rfl rfl rfl rfl (by first|((first|apply qmv|apply qas|apply qlc|apply qfa|apply qcv)<;>(first|exact rfl|assumption|exact List.not_mem_nil))|fail) ?_)
  rw [u64N_eq]
  refine SG.call rfl rfl rfl (vs := [.slice a4 (putU (u64N x.t.kind) ++ putU (num x.t.frm)).length c4, .int .u64 (u64N x.t.non : Int)]) (by repeat' (first | exact True.intro | exact rho_of rfl | refine And.intro ?_ ?_)) ((putnum_spec hS4 (u64N x.t.non) z3 (by simp only [List.length_append]; omega)).mono (fun e w5 hh => ?_))
  obtain ⟨v5, he, ho5, hk5⟩ := hh
  refine ⟨_, he, ?_⟩
  obtain ⟨a5, c5, rfl, hS5⟩ := Bs.own ho5
  have r2 := r2.kp0 hk5
  have r4 := r4.kp0 hk5
  clear r1
  repeat (first|apply cA|apply cB|apply cD|apply cE|refine cV rfl rfl rfl rfl (by first|((first|apply qmv|apply qas|apply qlc|apply qfa|apply qcv)<;>(first|exact rfl|assumption|exact List.not_mem_nil))|fail) ?_)
  rw [u64N_eq]
  refine SG.call rfl rfl rfl (vs := [.slice a5 (putU (u64N x.t.kind) ++ putU (num x.t.frm) ++ putU (u64N x.t.non)).length c5, .int .u64 (u64N x.t.fee : Int)]) (by repeat' (first | exact True.intro | exact rho_of rfl | refine And.intro ?_ ?_)) ((putnum_spec hS5 (u64N x.t.fee) z4 (by simp only [List.length_append]; omega)).mono (fun e w6 hh => ?_))
  obtain ⟨v6, he, ho6, hk6⟩ := hh
  refine ⟨_, he, ?_⟩
  obtain ⟨a6, c6, rfl, hS6⟩ := Bs.own ho6
  have r4 := r4.kp0 hk6
  clear r2
  have k6 : Kp [] w w6 := ((k2.trans k34).trans hk5).trans hk6
  repeat (first|apply cA|apply cB|apply cD|apply cE|refine cV rfl rfl rfl rfl (by first|((first|apply qmv|apply qas|apply qlc|apply qfa)<;>(first|exact rfl|assumption|exact List.not_mem_nil))|fail) ?_)
  refine SG.call rfl rfl rfl (vs := [.slice a6 (putU (u64N x.t.kind) ++ putU (num x.t.frm) ++ putU (u64N x.t.non) ++ putU (u64N x.t.fee)).length c6, x.b]) (by repeat' (first | exact True.intro | exact rho_of rfl | refine And.intro ?_ ?_)) ((putbytes_spec hS6 (hx.kp0 k6) (by simp only [List.length_append]; omega)).mono (fun e w7 hh => ?_))
  obtain ⟨v7, he, ho7, hk7⟩ := hh
  refine ⟨_, he, ?_⟩
  repeat (first|apply cD|apply cE|apply cH|refine cV rfl rfl rfl rfl (by first|(apply qas<;>(exact rfl))|fail) ?_)
  refine ret1 (Or.inl rfl) Tryz.results87 (by first | exact ResV.tmp rfl | exact ResV.agg rfl rfl (by assumption) (by first | exact dc_length _ | exact nc_length _ | exact rc_length _ _ _ | exact ec_length _ | exact dl_length _ _ _ _ | rfl) | exact ResV.cell rfl rfl (by assumption)) ?_
  exact ⟨_, rfl, own_mono ho7 k6.size, k6.trans hk7⟩
theorem headT_len (t : Tx) : (headT t).length ≤ 55 + t.body.length := by
  have p1 := putU_len' (u64N t.kind)
  have p2 := putU_len' (num t.frm)
  have p3 := putU_len' (u64N t.non)
  have p4 := putU_len' (u64N t.fee)
  have p5 := putU_len' t.body.length
  simp only [headT, putB, List.length_append]
  omega
set_option maxHeartbeats 16000000 in
theorem tbytes_spec {w : World} {n0 : Nat} {x : Tm} (hx : x.In n0 w) : RetO Tryz.prog 5 by1 1 64 #[txv x] w (bytesT x.t) := by
  refine enter1 Tryz.func64 rfl Tryz.ntmps64 rfl ?_
  have hl1 := hx.l1
  have hl2 := hx.l2
  have hh1 := headT_len x.t
  repeat (first|apply cA|apply cB)
  refine SG.box rfl rfl rfl (by exact rho_of rfl) (fun b1 w1 hk1 hb1 hB1 => ?_)
  have hB1 : Blk w1 b1 (.cells (txc x).toArray 40) := hB1
  have hx1 := hx.kp0 hk1
  obtain ⟨r, -, -, -, -, -, r5⟩ := txc_rows hB1
  repeat (first|apply cA|apply cD|apply cE|refine cV rfl rfl rfl rfl (by first|(apply qas<;>(exact rfl))|fail) ?_)
  refine CG.rows mixed 4 [0, 2, 3, 1] [⟨1, 0, oB w1.heap.size (headT x.t)⟩] (by kernel_rfl) (by kernel_rfl) (by kernel_rfl) (OkL.all (by repeat' (first | exact OkL.nil | refine OkL.cons ?_ ?_ | exact oP_ok | exact bP_ok))) ?_
  repeat (refine DerR.val rfl rfl rfl rfl (by first|((first|apply qlc|apply qla|apply qfa)<;>(first|exact rfl|assumption|exact List.not_mem_nil|apply txc_length))|fail) ?_)
  refine DerR.callO (headT x.t) rfl rfl rfl rfl (by repeat' (first | exact OkL.nil | refine OkL.cons ?_ ?_ | exact oP_ok | exact bP_ok)) (vs := [txv x]) (by repeat' (first | exact True.intro | exact rho_of rfl | refine And.intro ?_ ?_)) (Nat.le_refl _) (fun w hk hF => unsigned_spec (hx1.b.kp0 hk) (by omega)) (fun v4 => ?_)
  refine DerR.tl (fun w3 V hok hV => ?_)
  have ho3 : w3.ownsRow w1.heap.size 5 1 v4 (headT x.t).length (flt by1 (headT x.t)) := hok.get hV (.head _) rfl
  have hk3 := hok.kp
  obtain ⟨a3, c3, rfl, hS3⟩ := Bs.own ho3
  clear hV hok
  refine SG.call rfl rfl rfl (vs := [.slice a3 (headT x.t).length c3, x.s]) (by repeat' (first | exact True.intro | exact rho_of rfl | refine And.intro ?_ ?_)) ((putbytes_spec hS3 (hx1.s.kp0 hk3) (by omega)).mono (fun e w4 hh => ?_))
  obtain ⟨v5, he, ho5, hk5⟩ := hh
  refine ⟨_, he, ?_⟩
  repeat (first|apply cD|apply cE|apply cH|refine cV rfl rfl rfl rfl (by first|(apply qas<;>(exact rfl))|fail) ?_)
  refine ret1 (Or.inl rfl) Tryz.results64 (by first | exact ResV.tmp rfl | exact ResV.agg rfl rfl (by assumption) (by first | exact dc_length _ | exact nc_length _ | exact rc_length _ _ _ | exact ec_length _ | exact dl_length _ _ _ _ | rfl) | exact ResV.cell rfl rfl (by assumption)) ?_
  exact ⟨_, rfl, own_mono ho5 (Nat.le_trans hk1.size hk3.size), (hk1.trans hk3).trans hk5⟩
set_option maxHeartbeats 16000000 in
theorem beq_spec {w : World} {a b : Option Addr} {l m : List UInt8} (c d : Nat) (h : Sl by1 1 w a l) (h' : Sl by1 1 w b m) : Ret Tryz.prog 29 #[.slice a l.length c, .slice b m.length d] w (.bool (decide (l = m))) := by
  refine enter2 Tryz.func29 rfl Tryz.ntmps29 rfl ?_
  repeat (first|apply cA|apply cB|apply cD|apply cE|refine cV rfl rfl rfl rfl (by first|((first|apply qmv|apply qas)<;>(exact rfl))|fail) ?_)
  refine cV rfl rfl rfl rfl (qbs (l := l) rfl h rfl (fun _ _ _ => List.not_mem_nil)) ?_
  repeat (first|refine cV rfl rfl rfl rfl (by first|(apply qmv<;>(exact rfl))|fail) ?_)
  refine cV rfl rfl rfl rfl (qbs (l := m) rfl h' rfl (fun _ _ _ => List.not_mem_nil)) ?_
  refine cV rfl rfl rfl rfl (qes (a := l) (b := m) rfl rfl dcu) ?_
  repeat (first|apply cD|apply cE|apply cH|refine cV rfl rfl rfl rfl (by first|(apply qas<;>(exact rfl))|fail) ?_)
  refine ret1 (Or.inl rfl) Tryz.results29 (by first | exact ResV.tmp rfl | exact ResV.agg rfl rfl (by assumption) (by first | exact dc_length _ | exact nc_length _ | exact rc_length _ _ _ | exact ec_length _ | exact dl_length _ _ _ _ | rfl) | exact ResV.cell rfl rfl (by assumption)) ?_
  exact ⟨rfl, Kp.refl _ _⟩
set_option maxHeartbeats 16000000 in
theorem bclone_spec {w : World} {a : Option Addr} {l : List UInt8} (c : Nat) (hS : Sl by1 1 w a l) (hl : l.length ≤ 1000000000) : RetO Tryz.prog 5 by1 1 73 #[.slice a l.length c] w l := by
  refine enter1 Tryz.func73 rfl Tryz.ntmps73 rfl ?_
  cases a with
  | none =>
    have hnil := hS.nil_of'
    subst hnil
    repeat (first|apply cA|apply cB|apply cD|apply cE|refine cV rfl rfl rfl rfl (by first|((first|apply qmv|apply qas|apply qsn)<;>(exact rfl))|fail) ?_)
    refine cZ rfl (by exact rho_of rfl) rfl ?_
    repeat (first|apply cA|apply cB|apply cD|apply cE|apply cH|apply cK|refine cV rfl rfl rfl rfl (by first|(apply qas<;>(exact rfl))|fail) ?_)
    refine ret1 (Or.inl rfl) Tryz.results73 (by first | exact ResV.tmp rfl | exact ResV.agg rfl rfl (by assumption) (by first | exact dc_length _ | exact nc_length _ | exact rc_length _ _ _ | exact ec_length _ | exact dl_length _ _ _ _ | rfl) | exact ResV.cell rfl rfl (by assumption)) ?_
    exact ⟨_, rfl, own_nil, Kp.refl _ _⟩
  | some ad =>
    repeat (first|apply cA|apply cB|apply cD|apply cE|refine cV rfl rfl rfl rfl (by first|((first|apply qmv|apply qas|apply qsn)<;>(exact rfl))|fail) ?_)
    refine dA rfl (by exact rho_of rfl) rfl ?_
    repeat (first|apply cA|apply cB|apply cE|apply cF)
    refine SG.empty rfl rfl (fun b0 w1 hk1 hb0 hB0 => ?_)
    repeat (first|refine cV rfl rfl rfl rfl (by first|(apply qmv<;>(exact rfl))|fail) ?_)
    refine SG.cloneO (enc := by1) (l := l) (m := w.heap.size) rfl rfl rfl by1_len by1_one (by exact rho_of rfl) (by exact rho_of rfl) rfl rfl rfl (by simp only [maxLen]; omega) (by show l.length * 1 ≤ _; omega) hb0 (hS.kp0 hk1) hB0 (fun v w2 hk2 hown => ?_)
    repeat (first|apply cD|apply cE|apply cH|refine cV rfl rfl rfl rfl (by first|(apply qas<;>(exact rfl))|fail) ?_)
    refine ret1 (Or.inl rfl) Tryz.results73 (by first | exact ResV.tmp rfl | exact ResV.agg rfl rfl (by assumption) (by first | exact dc_length _ | exact nc_length _ | exact rc_length _ _ _ | exact ec_length _ | exact dl_length _ _ _ _ | rfl) | exact ResV.cell rfl rfl (by assumption)) ?_
    exact ⟨v, rfl, hown, hk1.trans hk2⟩
set_option maxHeartbeats 16000000 in
theorem tclone_spec {w : World} {n0 : Nat} {x : Tm} (hx : x.In n0 w) : Calls Tryz.prog 49 #[txv x] w (fun e w' => ∃ y : Tm, y.t = x.t ∧ e = .returned (txv y) ∧ y.In 0 w' ∧ Kp [] w w' ∧ (∀ b off, y.a1 = some ⟨b, off, none⟩ → w.heap.size ≤ b) ∧ (∀ b off, y.a2 = some ⟨b, off, none⟩ → w.heap.size ≤ b)) := by
  refine enter1 Tryz.func49 rfl Tryz.ntmps49 rfl ?_
  have hl1 := hx.l1
  have hl2 := hx.l2
  repeat (first|apply cA|apply cB)
  refine SG.box rfl rfl rfl (by exact rho_of rfl) (fun b1 w1 hk1 hb1 hB1 => ?_)
  have hB1 : Blk w1 b1 (.cells (txc x).toArray 40) := hB1
  have lt1 := hB1.lt
  refine SG.alloc rfl rfl rfl (fun b2 w2 hk2 hb2 hB2 => ?_)
  have hB2 : Blk w2 b2 (.cells (txc ⟨⟨zd, 0, 0, 0, [], []⟩, none, 0, none, 0⟩).toArray 40) := hB2
  have k2 := hk1.trans hk2
  have lt2 := hB2.lt
  have hB1 := hB1.kp0 hk2
  obtain ⟨-, -, -, -, -, r4, r5⟩ := txc_rows hB1
  have s1 := hk1.size
  have s2 := hk2.size
  repeat (first|apply cA|apply cB|apply cD|apply cE|refine cV rfl rfl rfl rfl (by first|((first|apply qlc|apply qfa)<;>(first|exact rfl|assumption|exact List.not_mem_nil))|fail) ?_)
  refine SG.call rfl rfl rfl (vs := [x.b]) (by repeat' (first | exact True.intro | exact rho_of rfl | refine And.intro ?_ ?_)) ((bclone_spec x.c1 (hx.b.sl.kp0 k2) (by omega)).mono (fun e w3 hh => ?_))
  obtain ⟨v3, he, ho3, hk3⟩ := hh
  refine ⟨_, he, ?_⟩
  clear he r4 r5
  obtain ⟨a3, c3, rfl, hS3⟩ := Bs.own ho3
  have t3 : Ty 5 w3 a3 x.t.body := Ty.own ho3
  have g3 : ∀ b off, a3 = some ⟨b, off, none⟩ → w2.heap.size ≤ b := own_geA ho3
  have hB1 := hB1.kp0 hk3
  have lt1' := hB1.lt
  have s3 := hk3.size
  repeat (first|refine cV rfl rfl rfl rfl (by first|(apply qfa<;>(exact rfl))|fail) ?_)
  refine SG.setMid (dc x.t.frm ++ [.int .i64 x.t.non, .int .i64 x.t.fee, .int .i64 x.t.kind]) [.slice x.a1 x.t.body.length x.c1] [.slice x.a2 x.t.sig.length x.c2] rfl rfl (by exact rho_of rfl) (by exact rho_of rfl) hB1 (by rw [List.toList_toArray]; exact txc_mid4 x.t x.a1 x.a2 x.c1 x.c2) rfl rfl (tx_len1 x.t) rfl (fun w4 hk4 hB1 => ?_)
  have hB1 : Blk w4 b1 (.cells (txc ⟨x.t, a3, c3, x.a2, x.c2⟩).toArray 40) := by rw [txc_mid4]; exact hB1
  have k4 : Kp [] w w4 := (k2.trans hk3).trans_new hk4 (new1 (by omega))
  have hS3 := hS3.kp hk4 (fun b off e => nm1 (by have := g3 b off e; omega))
  have t3 := t3.kp hk4 (fun _ b off e => nm1 (by have := g3 b off e; omega))
  have s4 := hk4.size
  obtain ⟨-, -, -, -, -, -, r5⟩ := txc_rows hB1
  have r5 : Row w4 b1 12 [x.s] := r5
  repeat (first|apply cA|apply cB|apply cD|apply cE|refine cV rfl rfl rfl rfl (by first|((first|apply qlc|apply qfa)<;>(first|exact rfl|assumption|exact List.not_mem_nil))|fail) ?_)
  refine SG.call rfl rfl rfl (vs := [x.s]) (by repeat' (first | exact True.intro | exact rho_of rfl | refine And.intro ?_ ?_)) ((bclone_spec x.c2 (hx.s.sl.kp0 k4) (by omega)).mono (fun e w5 hh => ?_))
  obtain ⟨v5, he, ho5, hk5⟩ := hh
  refine ⟨_, he, ?_⟩
  clear he r5
  obtain ⟨a5, c5, rfl, hS5⟩ := Bs.own ho5
  have t5 : Ty 5 w5 a5 x.t.sig := Ty.own ho5
  have g5 : ∀ b off, a5 = some ⟨b, off, none⟩ → w4.heap.size ≤ b := own_geA ho5
  have hB1 := hB1.kp0 hk5
  have s5 := hk5.size
  repeat (first|refine cV rfl rfl rfl rfl (by first|(apply qfa<;>(exact rfl))|fail) ?_)
  refine SG.setMid (dc x.t.frm ++ [.int .i64 x.t.non, .int .i64 x.t.fee, .int .i64 x.t.kind, .slice a3 x.t.body.length c3]) [.slice x.a2 x.t.sig.length x.c2] [] rfl rfl (by exact rho_of rfl) (by exact rho_of rfl) hB1 (by rw [List.toList_toArray]; exact txc_mid5 x.t a3 x.a2 c3 x.c2) rfl rfl (tx_len2 x.t _) rfl (fun w6 hk6 hB1 => ?_)
  have hB1 : Blk w6 b1 (.cells (txc ⟨x.t, a3, c3, a5, c5⟩).toArray 40) := by rw [txc_mid5]; exact hB1
  have k6 : Kp [] w w6 := (k4.trans hk5).trans_new hk6 (new1 (by omega))
  have hS3 := (hS3.kp0 hk5).kp hk6 (fun b off e => nm1 (by have := g3 b off e; omega))
  have t3 := (t3.kp0 hk5).kp hk6 (fun _ b off e => nm1 (by have := g3 b off e; omega))
  have hS5 := hS5.kp hk6 (fun b off e => nm1 (by have := g5 b off e; omega))
  have t5 := t5.kp hk6 (fun _ b off e => nm1 (by have := g5 b off e; omega))
  have hB2 := ((((hB2.kp0 hk3).kp hk4 (nm1 (by omega))).kp0 hk5).kp hk6 (nm1 (by omega)))
  obtain ⟨r, -, -, -, -, -, -⟩ := txc_rows hB1
  repeat (first|apply cA|apply cB|apply cD|apply cE|refine cV rfl rfl rfl rfl (by first|(apply qla<;>(first|exact rfl|assumption|exact List.not_mem_nil|apply txc_length))|fail) ?_)
  refine SG.setAll (l := txc ⟨x.t, a3, c3, a5, c5⟩) rfl rfl (by exact rho_of rfl) (by exact rho_of rfl) hB2 (txc_length _) rfl (txc_one _) (fun w7 hk7 hB2 => ?_)
  have hr : Row w7 b2 0 (txc ⟨x.t, a3, c3, a5, c5⟩) := Row.all hB2 rfl
  have l2 := hB2.lt
  have k7 := k6.trans_new hk7 (new1 (by omega))
  have hS3 := hS3.kp hk7 (fun b off e => nm1 (by have := g3 b off e; omega))
  have t3 := t3.kp hk7 (fun _ b off e => nm1 (by have := g3 b off e; omega))
  have hS5 := hS5.kp hk7 (fun b off e => nm1 (by have := g5 b off e; omega))
  have t5 := t5.kp hk7 (fun _ b off e => nm1 (by have := g5 b off e; omega))
  clear r
  repeat (first|apply cD|apply cE|apply cH)
  refine ret1 (Or.inl rfl) Tryz.results49 (ResV.agg rfl rfl hr (txc_length _)) ?_
  exact ⟨⟨x.t, a3, c3, a5, c5⟩, rfl, rfl, ⟨hS3, hS5, Or.inl t3, Or.inl t5, hl1, hl2⟩, k7, fun b off e => by have := g3 b off e; omega, fun b off e => by have := g5 b off e; omega⟩
set_option maxHeartbeats 16000000 in
theorem tsame_spec {w : World} {n0 m0 : Nat} {x y : Tm} (hx : x.In n0 w) (hy : y.In m0 w) : Ret Tryz.prog 13 #[txv x, txv y] w (.bool (txEq x.t y.t)) := by
  refine enter2 Tryz.func13 rfl Tryz.ntmps13 rfl ?_
  repeat (first|apply cA|apply cB)
  refine SG.box rfl rfl rfl (by exact rho_of rfl) (fun b1 w1 hk1 hb1 hB1 => ?_)
  refine SG.box rfl rfl rfl (by exact rho_of rfl) (fun b2 w2 hk2 hb2 hB2 => ?_)
  have hB1 : Blk w1 b1 (.cells (txc x).toArray 40) := hB1
  have hB2 : Blk w2 b2 (.cells (txc y).toArray 40) := hB2
  obtain ⟨-, q0, q1, q2, q3, q4, q5⟩ := txc_rows (hB1.kp0 hk2)
  obtain ⟨-, r0, r1, r2, r3, r4, r5⟩ := txc_rows hB2
  have k2 := hk1.trans hk2
  have key : ∀ {c : Bool}, (c = true ↔ x.t = y.t) → c = txEq x.t y.t := fun {c} h => by
    by_cases hh : x.t = y.t
    · rw [h.2 hh, txEq_t hh]
    · rw [txEq_f hh]
      cases c with
      | false => rfl
      | true => exact absurd (h.1 rfl) hh
  have no : ¬ x.t = y.t → false = txEq x.t y.t := fun h => (txEq_f h).symm
  by_cases g0 : x.t.frm = y.t.frm
  case neg =>
    repeat (first | first|apply cA|apply cB|apply cD|apply cE|apply cH|refine cV rfl rfl rfl rfl (by first|((first|apply qmv|apply qas|apply qla|apply qfa|apply qpk|apply qed)<;>(first|exact rfl|assumption|exact dcf (by first|assumption|omega)|exact List.not_mem_nil|apply dc_length|fail))|fail) ?_ | refine cX rfl rfl ?_)
    refine ret1 (Or.inl rfl) Tryz.results13 (by first | exact ResV.tmp rfl | exact ResV.agg rfl rfl (by assumption) (by first | exact dc_length _ | exact nc_length _ | exact rc_length _ _ _ | exact ec_length _ | exact dl_length _ _ _ _ | rfl) | exact ResV.cell rfl rfl (by assumption)) ?_
    exact ⟨by rw [← no (fun h => g0 (by rw [h]))], k2⟩
  by_cases g1 : x.t.non = y.t.non
  case neg =>
    repeat (first | first|apply cA|apply cB|apply cD|apply cE|apply cH|refine cV rfl rfl rfl rfl (by first|((first|apply qmv|apply qas|apply qlc|apply qla|apply qfa|apply qpk|apply qei|apply qed)<;>(first|exact rfl|assumption|exact dct (by first|assumption|omega)|exact dcf (by first|assumption|omega)|exact List.not_mem_nil|apply dc_length|fail))|fail) ?_ | refine cX rfl rfl ?_)
    refine ret1 (Or.inl rfl) Tryz.results13 (by first | exact ResV.tmp rfl | exact ResV.agg rfl rfl (by assumption) (by first | exact dc_length _ | exact nc_length _ | exact rc_length _ _ _ | exact ec_length _ | exact dl_length _ _ _ _ | rfl) | exact ResV.cell rfl rfl (by assumption)) ?_
    exact ⟨by rw [← no (fun h => g1 (by rw [h]))], k2⟩
  by_cases g2 : x.t.fee = y.t.fee
  case neg =>
    repeat (first | first|apply cA|apply cB|apply cD|apply cE|apply cH|refine cV rfl rfl rfl rfl (by first|((first|apply qmv|apply qas|apply qlc|apply qla|apply qfa|apply qpk|apply qei|apply qed)<;>(first|exact rfl|assumption|exact dct (by first|assumption|omega)|exact dcf (by first|assumption|omega)|exact List.not_mem_nil|apply dc_length|fail))|fail) ?_ | refine cX rfl rfl ?_)
    refine ret1 (Or.inl rfl) Tryz.results13 (by first | exact ResV.tmp rfl | exact ResV.agg rfl rfl (by assumption) (by first | exact dc_length _ | exact nc_length _ | exact rc_length _ _ _ | exact ec_length _ | exact dl_length _ _ _ _ | rfl) | exact ResV.cell rfl rfl (by assumption)) ?_
    exact ⟨by rw [← no (fun h => g2 (by rw [h]))], k2⟩
  by_cases g3 : x.t.kind = y.t.kind
  case neg =>
    repeat (first | first|apply cA|apply cB|apply cD|apply cE|apply cH|refine cV rfl rfl rfl rfl (by first|((first|apply qmv|apply qas|apply qlc|apply qla|apply qfa|apply qpk|apply qei|apply qed)<;>(first|exact rfl|assumption|exact dct (by first|assumption|omega)|exact dcf (by first|assumption|omega)|exact List.not_mem_nil|apply dc_length|fail))|fail) ?_ | refine cX rfl rfl ?_)
    refine ret1 (Or.inl rfl) Tryz.results13 (by first | exact ResV.tmp rfl | exact ResV.agg rfl rfl (by assumption) (by first | exact dc_length _ | exact nc_length _ | exact rc_length _ _ _ | exact ec_length _ | exact dl_length _ _ _ _ | rfl) | exact ResV.cell rfl rfl (by assumption)) ?_
    exact ⟨by rw [← no (fun h => g3 (by rw [h]))], k2⟩
  repeat (first|apply cA|apply cB|apply cD|apply cE|refine cV rfl rfl rfl rfl (by first|((first|apply qmv|apply qas|apply qlc|apply qla|apply qfa|apply qpk|apply qei|apply qed)<;>(first|exact rfl|assumption|exact dct (by first|assumption|omega)|exact List.not_mem_nil|apply dc_length|fail))|fail) ?_)
  refine SG.ret rfl rfl rfl (vs := [x.b, y.b]) (by repeat' (first | exact True.intro | exact rho_of rfl | refine And.intro ?_ ?_)) (beq_spec x.c1 y.c1 (hx.b.sl.kp0 k2) (hy.b.sl.kp0 k2)) (fun w3 hk3 => ?_)
  have k3 := k2.trans hk3
  have q5 := q5.kp0 hk3
  have r5 := r5.kp0 hk3
  by_cases g4 : x.t.body = y.t.body
  case neg =>
    rw [decide_eq_false g4]
    repeat (first | first|apply cD|apply cE|apply cH|refine cV rfl rfl rfl rfl (by first|((first|apply qmv|apply qas|apply qpk)<;>(exact rfl))|fail) ?_ | refine cX rfl rfl ?_)
    refine ret1 (Or.inl rfl) Tryz.results13 (by first | exact ResV.tmp rfl | exact ResV.agg rfl rfl (by assumption) (by first | exact dc_length _ | exact nc_length _ | exact rc_length _ _ _ | exact ec_length _ | exact dl_length _ _ _ _ | rfl) | exact ResV.cell rfl rfl (by assumption)) ?_
    exact ⟨by rw [← no (fun h => g4 (by rw [h]))], k3⟩
  rw [decide_eq_true g4]
  repeat (first|refine cV rfl rfl rfl rfl (by first|((first|apply qmv|apply qlc|apply qfa|apply qpk)<;>(first|exact rfl|assumption|exact List.not_mem_nil))|fail) ?_)
  refine SG.ret rfl rfl rfl (vs := [x.s, y.s]) (by repeat' (first | exact True.intro | exact rho_of rfl | refine And.intro ?_ ?_)) (beq_spec x.c2 y.c2 (hx.s.sl.kp0 k3) (hy.s.sl.kp0 k3)) (fun w4 hk4 => ?_)
  have e : decide (x.t.sig = y.t.sig) = txEq x.t y.t := key (by
    rw [decide_eq_true_iff]
    constructor
    · intro h
      cases hX : x.t with | mk a b c d e f =>
      cases hY : y.t with | mk a' b' c' d' e' f' =>
      rw [hX, hY] at g0 g1 g2 g3 g4 h
      simp only at g0 g1 g2 g3 g4 h
      subst g0 g1 g2 g3 g4 h
      rfl
    · intro h
      rw [h])
  rw [e]
  repeat (first|apply cD|apply cE|apply cH|refine cV rfl rfl rfl rfl (by first|((first|apply qas|apply qpk)<;>(exact rfl))|fail) ?_)
  refine ret1 (Or.inl rfl) Tryz.results13 (by first | exact ResV.tmp rfl | exact ResV.agg rfl rfl (by assumption) (by first | exact dc_length _ | exact nc_length _ | exact rc_length _ _ _ | exact ec_length _ | exact dl_length _ _ _ _ | rfl) | exact ResV.cell rfl rfl (by assumption)) ?_
  exact ⟨rfl, k3.trans hk4⟩
set_option maxHeartbeats 16000000 in
theorem name_spec {w : World} {n0 : Nat} {x : Tm} (hx : x.In n0 w) : Ret Tryz.prog 35 #[txv x] w (dv (nameT x.t)) := by
  refine enter1 Tryz.func35 rfl Tryz.ntmps35 rfl ?_
  have hl1 := hx.l1
  have hl2 := hx.l2
  have hh1 := headT_len x.t
  have hh2 : (bytesT x.t).length ≤ 1000000000 := by
    have := putU_len' x.t.sig.length
    simp only [bytesT, putB, List.length_append]
    omega
  repeat (first|apply cA|apply cB)
  refine SG.box rfl rfl rfl (by exact rho_of rfl) (fun b1 w1 hk1 hb1 hB1 => ?_)
  have hB1 : Blk w1 b1 (.cells (txc x).toArray 40) := hB1
  refine SG.alloc rfl rfl rfl (fun b2 w2 hk2 hb2 hB2 => ?_)
  have hB2 : Blk w2 b2 (.cells (dc zd).toArray 38) := hB2
  have k2 := hk1.trans hk2
  obtain ⟨r, -, -, -, -, -, -⟩ := txc_rows (hB1.kp0 hk2)
  repeat (first|apply cA|apply cB|apply cD|apply cE|refine cV rfl rfl rfl rfl (by first|(apply qla<;>(first|exact rfl|assumption|exact List.not_mem_nil|apply txc_length))|fail) ?_)
  refine SG.call rfl rfl rfl (vs := [txv x]) (by repeat' (first | exact True.intro | exact rho_of rfl | refine And.intro ?_ ?_)) ((tbytes_spec (hx.kp0 k2)).mono (fun e w3 hh => ?_))
  obtain ⟨v3, he, ho3, hk3⟩ := hh
  refine ⟨_, he, ?_⟩
  clear r he
  obtain ⟨a3, c3, rfl, hS3⟩ := Bs.own ho3
  skip
  refine SG.ret rfl rfl rfl (vs := [.slice a3 (bytesT x.t).length c3]) (by repeat' (first | exact True.intro | exact rho_of rfl | refine And.intro ?_ ?_)) (of_spec hS3.sl (own_some ho3) (fun b off e => own_lt ho3 b (by subst e; rfl)) hh2 hS3.len) (fun w4 hk4 => ?_)
  refine SG.setAll (l := dc (ofI (bytesT x.t))) rfl rfl (by exact rho_of rfl) (by exact rho_of rfl) ((hB2.kp0 hk3).kp0 hk4) (dc_length _) rfl (dc_one _) (fun w5 hk5 hB5 => ?_)
  have hr : Row w5 b2 0 (dc (ofI (bytesT x.t))) := Row.all hB5 rfl
  repeat (first|apply cD|apply cE|apply cH)
  refine ret1 (Or.inl rfl) Tryz.results35 (by first | exact ResV.tmp rfl | exact ResV.agg rfl rfl (by assumption) (by first | exact dc_length _ | exact nc_length _ | exact rc_length _ _ _ | exact ec_length _ | exact dl_length _ _ _ _ | rfl) | exact ResV.cell rfl rfl (by assumption)) ?_
  exact ⟨rfl, ((k2.trans hk3).trans hk4).trans_new hk5 (new1 (by have := hk1.size; omega))⟩
end Go.Proofs.YtgbgnlboogalgaaGreat
namespace Go.Proofs.YtgbgnlboogalgaaGreat
open Go.Proofs
set_option linter.unusedVariables false
theorem qr128 {P : Program} {S : List Nat} {w0 : World} {F : World → Prop} {L : Env} {d : Option Nat} {ty : TypeId} {pos : String} {af : Array Edge} {g : Option (Nat × Bool)} {T T' : TypeId} [u : Ut P T (.int .u8)] {x y : Operand} {b : UInt8} (hx : ro L x = some (bv b)) (hy : ro L y = some (.int .u8 128)) : Vals P S w0 F L ⟨d, .binOp .rem T x y T', ty, pos, af, g⟩ (bv (lo7 b)) := fun w _ _ => by
  have e : ((b.toNat : Int).tmod 128) = ((lo7 b).toNat : Int) := by
    rw [lo7_nat, Int.tmod_eq_emod_of_nonneg (by omega)]
    omega
  have hb : (128 : Int) ≠ 0 := by decide
  simp only [execOp, rho_of hx, rho_of hy, eqGuard, binOp, Op.intDiv, if_neg hb, Sem.run_bind, Sem.run_pure, Result.andThen, e]; rfl
theorem dig7_nil : (0 : Int) = (dig7 [] : Int) := rfl
theorem dig7_drop_le : ∀ (l : List UInt8) (j : Nat), dig7 (l.drop j) ≤ dig7 l
  | [], j => by simp [dig7]
  | b :: l, 0 => Nat.le_refl _
  | b :: l, j + 1 => by
    have := dig7_drop_le l j
    simp only [List.drop_succ_cons, dig7]
    omega
theorem muladd_nat {a b : Nat} (h : 128 * a + b < 18446744073709551616) : addI (mulI 128 (a : Int)) (b : Int) = ((128 * a + b : Nat) : Int) := by
  unfold addI mulI
  have e : (128 : Int) * (a : Int) = ((128 * a : Nat) : Int) := by omega
  have e2 : ((128 * a : Nat) : Int) + (b : Int) = ((128 * a + b : Nat) : Int) := by omega
  have h1 : 128 * a < 18446744073709551616 := Nat.lt_of_le_of_lt (Nat.le_add_right _ _) h
  rw [e, wrap64_nat h1, e2, wrap64_nat h]
theorem dig7_step {l : List UInt8} {j : Nat} (h : j < l.length) : dig7 (l.drop j) = 128 * dig7 (l.drop (j + 1)) + (lo7 l[j]).toNat := by
  rw [List.drop_eq_getElem_cons h, lo7_nat]
  simp only [dig7]
  omega
def rnV (l : List UInt8) : Value := .tuple #[.int .u64 (if lookE l = 0 then (lookN l : Int) else 0), .int .i64 (if lookE l = 0 then (lookK l : Int) else 0), .int .i64 (lookE l)]
attribute [local irreducible] CG NG SG Vals Der Row Blk MapIs IterAt addI xorI orI andI shlI shrI mulI or8 lo7 dig7 runL lookE lookN
set_option maxHeartbeats 32000000 in
theorem rnumber_spec {w : World} {a : Option Addr} {c : Nat} {l : List UInt8} (hS : Bs w a c l) (hl : l.length ≤ 1000000000) : Ret Tryz.prog 108 #[.slice a l.length c] w (rnV l) := by
  refine enter1 Tryz.func108 rfl Tryz.ntmps108 rfl ?_
  have bad : ∀ {z : Int} {w' : World}, Kp [] w w' → lookE l = z → z ≠ 0 → (Ending.returned (.tuple #[.int .u64 0, .int .i64 0, .int .i64 z]) = .returned (rnV l)) ∧ Kp [] w w' := fun hk h1 h2 => ⟨by unfold rnV; rw [h1, if_neg h2, if_neg h2], hk⟩
  repeat (first|apply cA|apply cB|apply cD|apply cE|apply cG|refine cV rfl rfl rfl rfl (by first|(apply qas<;>(exact rfl))|fail) ?_)
  refine CG.loop (X := Nat) (fun x => [(0, .slice a l.length c), (5, .int .i64 (x : Int))])
    (fun x w' => w' = w ∧ x ≤ l.length ∧ x ≤ 10 ∧ ∀ j (hj : j < x) (h : j < l.length), 128 ≤ l[j].toNat) (fun x => l.length - x) 0 ⟨rfl, Nat.zero_le _, Nat.zero_le _, fun j hj => absurd hj (Nat.not_lt_zero _)⟩ (by (repeat' (first | exact True.intro | exact rfl | refine And.intro ?_ ?_))) ?_
  rintro k w1 ⟨rfl, hkl, hk10, hbig⟩
  refine CG.to [(0, .slice a l.length c), (5, .int .i64 (k : Int))] (by (repeat' (first | exact True.intro | exact rfl | refine And.intro ?_ ?_))) ?_
  have hfin : (k = 10 ∨ k = l.length ∨ ∃ h : k < l.length, l[k].toNat < 128) → runL 10 l = k := fun h => runL_eq hk10 hkl (fun j hj => hbig j hj (by omega)) h
  by_cases hgo : ∃ h : k < l.length, k < 10 ∧ 128 ≤ l[k].toNat
  · obtain ⟨h1, h2, h3⟩ := hgo
    have g1 : (k : Int) < (l.length : Int) := by omega
    have g2 : (k : Int) < 10 := by omega
    have g3 : (128 : Int) ≤ (l[k].toNat : Int) := by omega
    obtain ⟨b0, o0, rfl, hr⟩ := bs_at hS h1
    repeat (first|apply cA|apply cB|apply cD|apply cE|refine cV rfl rfl rfl rfl (by first|((first|apply qmv|apply qlc|apply qix|apply qpk|apply qls|apply qln|apply qge)<;>(first|exact rfl|exact Ar.mk (by omega)|assumption|exact dct (by first|assumption|omega)|exact List.not_mem_nil|fail))|fail) ?_)
    refine cZ rfl (by exact rho_of rfl) rfl ?_
    repeat (first|apply cB|apply cD|apply cE|apply cF|apply cG|apply cU|refine cV rfl rfl rfl rfl (by first|((first|apply qmv|apply qas|apply qad)<;>(first|exact rfl|exact Ar.mk (by omega)|fail))|fail) ?_)
    refine NG.round (k + 1) (by (repeat' (first | exact True.intro | exact rfl | refine And.intro ?_ ?_))) ⟨rfl, by omega, by omega, fun j hj h => ?_⟩ (by omega)
    by_cases e : j = k
    · subst e; exact h3
    · exact hbig j (by omega) h
  have hr : runL 10 l = k := hfin (by
    by_cases h1 : k < l.length
    · by_cases h2 : k < 10
      · exact Or.inr (Or.inr ⟨h1, by have : ¬ 128 ≤ l[k].toNat := fun h3 => hgo ⟨h1, h2, h3⟩; omega⟩)
      · exact Or.inl (by omega)
    · exact Or.inr (Or.inl (by omega)))
  by_cases h1 : k < l.length
  rotate_left
  · have ek : k = l.length := by omega
    have g1 : ¬ (k : Int) < (l.length : Int) := by omega
    have g0 : (k : Int) = (l.length : Int) := by omega
    by_cases h2 : k < 10
    · have g2 : (k : Int) < 10 := by omega
      have e : lookE l = 4 := by
        unfold lookE
        rw [if_pos ⟨by rw [hr, ek], by omega⟩]
      repeat (first | first|apply cA|apply cB|apply cD|apply cE|refine cV rfl rfl rfl rfl (by first|((first|apply qmv|apply qpk|apply qls|apply qln)<;>(first|exact rfl|exact dcf (by first|assumption|omega)|fail))|fail) ?_ | refine cX rfl rfl ?_)
      refine dA rfl (by exact rho_of rfl) rfl ?_
      repeat (first|apply cA|apply cB|apply cD|apply cE|apply cJ|apply cM|refine cQ rfl ?_|refine cV rfl rfl rfl rfl (by first|((first|apply qmv|apply qpk|apply qls|apply qei|apply qln)<;>(first|exact rfl|exact dct (by first|assumption|omega)|fail))|fail) ?_)
      refine cZ rfl (by exact rho_of rfl) rfl ?_
      repeat (first|apply cA|apply cB|apply cD|apply cE|apply cH|apply cK|refine cV rfl rfl rfl rfl (by first|(apply qas<;>(exact rfl))|fail) ?_)
      refine ret3 (Or.inl rfl) Tryz.results108 (by first | exact ResV.tmp rfl | exact ResV.agg rfl rfl (by assumption) (by first | exact dc_length _ | exact nc_length _ | exact rc_length _ _ _ | exact ec_length _ | exact dl_length _ _ _ _ | rfl) | exact ResV.cell rfl rfl (by assumption)) (by first | exact ResV.tmp rfl | exact ResV.agg rfl rfl (by assumption) (by first | exact dc_length _ | exact nc_length _ | exact rc_length _ _ _ | exact ec_length _ | exact dl_length _ _ _ _ | rfl) | exact ResV.cell rfl rfl (by assumption)) (by first | exact ResV.tmp rfl | exact ResV.agg rfl rfl (by assumption) (by first | exact dc_length _ | exact nc_length _ | exact rc_length _ _ _ | exact ec_length _ | exact dl_length _ _ _ _ | rfl) | exact ResV.cell rfl rfl (by assumption)) ?_
      exact bad (Kp.refl _ _) e (by decide)
    · have g2 : ¬ (k : Int) < 10 := by omega
      have g3 : (k : Int) = 10 := by omega
      have e : lookE l = 3 := by
        unfold lookE
        rw [if_neg (by omega), if_pos (Or.inl (by omega))]
      repeat (first | first|apply cA|apply cB|apply cD|apply cE|refine cV rfl rfl rfl rfl (by first|((first|apply qmv|apply qpk|apply qls|apply qln)<;>(first|exact rfl|exact dcf (by first|assumption|omega)|fail))|fail) ?_ | refine cX rfl rfl ?_)
      refine dA rfl (by exact rho_of rfl) rfl ?_
      repeat (first|apply cA|apply cB|apply cD|apply cE|apply cJ|apply cM|refine cQ rfl ?_|refine cV rfl rfl rfl rfl (by first|((first|apply qmv|apply qpk|apply qls|apply qei|apply qln)<;>(first|exact rfl|exact dct (by first|assumption|omega)|exact dcf (by first|assumption|omega)|fail))|fail) ?_)
      refine dA rfl (by exact rho_of rfl) rfl ?_
      repeat (first | first|apply cA|apply cB|apply cD|apply cE|apply cF|refine cV rfl rfl rfl rfl (by first|((first|apply qmv|apply qpk|apply qei)<;>(first|exact rfl|exact dct (by first|assumption|omega)|fail))|fail) ?_ | refine cX rfl rfl ?_)
      refine cZ rfl (by exact rho_of rfl) rfl ?_
      repeat (first|apply cA|apply cB|apply cD|apply cE|apply cH|apply cK|refine cV rfl rfl rfl rfl (by first|(apply qas<;>(exact rfl))|fail) ?_)
      refine ret3 (Or.inl rfl) Tryz.results108 (by first | exact ResV.tmp rfl | exact ResV.agg rfl rfl (by assumption) (by first | exact dc_length _ | exact nc_length _ | exact rc_length _ _ _ | exact ec_length _ | exact dl_length _ _ _ _ | rfl) | exact ResV.cell rfl rfl (by assumption)) (by first | exact ResV.tmp rfl | exact ResV.agg rfl rfl (by assumption) (by first | exact dc_length _ | exact nc_length _ | exact rc_length _ _ _ | exact ec_length _ | exact dl_length _ _ _ _ | rfl) | exact ResV.cell rfl rfl (by assumption)) (by first | exact ResV.tmp rfl | exact ResV.agg rfl rfl (by assumption) (by first | exact dc_length _ | exact nc_length _ | exact rc_length _ _ _ | exact ec_length _ | exact dl_length _ _ _ _ | rfl) | exact ResV.cell rfl rfl (by assumption)) ?_
      exact bad (Kp.refl _ _) e (by decide)
  have g1 : (k : Int) < (l.length : Int) := by omega
  have g0 : ¬ (k : Int) = (l.length : Int) := by omega
  by_cases h2 : k < 10
  rotate_left
  · have g2 : ¬ (k : Int) < 10 := by omega
    have g3 : (k : Int) = 10 := by omega
    have e : lookE l = 3 := by
      unfold lookE
      rw [if_neg (by omega), if_pos (Or.inl (by omega))]
    repeat (first | first|apply cA|apply cB|apply cD|apply cE|refine cV rfl rfl rfl rfl (by first|((first|apply qmv|apply qpk|apply qls|apply qln)<;>(first|exact rfl|exact dct (by first|assumption|omega)|exact dcf (by first|assumption|omega)|fail))|fail) ?_ | refine cX rfl rfl ?_)
    refine dA rfl (by exact rho_of rfl) rfl ?_
    repeat (first | first|apply cA|apply cB|apply cD|apply cE|apply cJ|apply cM|refine cQ rfl ?_|refine cV rfl rfl rfl rfl (by first|((first|apply qmv|apply qpk|apply qei|apply qln)<;>(first|exact rfl|exact dcf (by first|assumption|omega)|fail))|fail) ?_ | refine cX rfl rfl ?_)
    refine dA rfl (by exact rho_of rfl) rfl ?_
    repeat (first | first|apply cA|apply cB|apply cD|apply cE|apply cF|refine cV rfl rfl rfl rfl (by first|((first|apply qmv|apply qpk|apply qei)<;>(first|exact rfl|exact dct (by first|assumption|omega)|fail))|fail) ?_ | refine cX rfl rfl ?_)
    refine cZ rfl (by exact rho_of rfl) rfl ?_
    repeat (first|apply cA|apply cB|apply cD|apply cE|apply cH|apply cK|refine cV rfl rfl rfl rfl (by first|(apply qas<;>(exact rfl))|fail) ?_)
    refine ret3 (Or.inl rfl) Tryz.results108 (by first | exact ResV.tmp rfl | exact ResV.agg rfl rfl (by assumption) (by first | exact dc_length _ | exact nc_length _ | exact rc_length _ _ _ | exact ec_length _ | exact dl_length _ _ _ _ | rfl) | exact ResV.cell rfl rfl (by assumption)) (by first | exact ResV.tmp rfl | exact ResV.agg rfl rfl (by assumption) (by first | exact dc_length _ | exact nc_length _ | exact rc_length _ _ _ | exact ec_length _ | exact dl_length _ _ _ _ | rfl) | exact ResV.cell rfl rfl (by assumption)) (by first | exact ResV.tmp rfl | exact ResV.agg rfl rfl (by assumption) (by first | exact dc_length _ | exact nc_length _ | exact rc_length _ _ _ | exact ec_length _ | exact dl_length _ _ _ _ | rfl) | exact ResV.cell rfl rfl (by assumption)) ?_
    exact bad (Kp.refl _ _) e (by decide)
  have g2 : (k : Int) < 10 := by omega
  have g3 : ¬ (k : Int) = 10 := by omega
  have h3 : ¬ 128 ≤ l[k].toNat := fun h3 => hgo ⟨h1, h2, h3⟩
  have g4 : ¬ (128 : Int) ≤ (l[k].toNat : Int) := by omega
  have hgk : l.getD k 0 = l[k] := by rw [List.getD_eq_getElem?_getD, List.getElem?_eq_getElem h1]; rfl
  obtain ⟨b0, o0, rfl, hrk⟩ := bs_at hS h1
  repeat (first|apply cA|apply cB|apply cD|apply cE|refine cV rfl rfl rfl rfl (by first|((first|apply qmv|apply qlc|apply qix|apply qpk|apply qls|apply qln|apply qge)<;>(first|exact rfl|exact Ar.mk (by omega)|assumption|exact dct (by first|assumption|omega)|exact dcf (by first|assumption|omega)|exact List.not_mem_nil|fail))|fail) ?_)
  refine dA rfl (by exact rho_of rfl) rfl ?_
  repeat (first | first|apply cA|apply cB|apply cD|apply cE|apply cJ|apply cM|refine cQ rfl ?_|refine cV rfl rfl rfl rfl (by first|((first|apply qmv|apply qpk|apply qei|apply qln)<;>(first|exact rfl|exact dcf (by first|assumption|omega)|fail))|fail) ?_ | refine cX rfl rfl ?_)
  refine dA rfl (by exact rho_of rfl) rfl ?_
  by_cases hz : 0 < k ∧ l[k] = 0
  · obtain ⟨hz1, hz2⟩ := hz
    have g5 : (0 : Int) < (k : Int) := by omega
    have g6 : (l[k].toNat : Int) = 0 := by rw [hz2]; rfl
    have e : lookE l = 3 := by
      unfold lookE
      rw [if_neg (by omega), if_pos (Or.inr (Or.inl (by rw [hr, hgk]; exact ⟨hz1, hz2⟩)))]
    repeat (first | first|apply cA|apply cB|apply cD|apply cE|apply cF|refine cV rfl rfl rfl rfl (by first|((first|apply qmv|apply qlc|apply qix|apply qpk|apply qei|apply qgt)<;>(first|exact rfl|exact Ar.mk (by omega)|assumption|exact dct (by first|assumption|omega)|exact dcf (by first|assumption|omega)|exact List.not_mem_nil|fail))|fail) ?_ | refine cX rfl rfl ?_)
    refine cZ rfl (by exact rho_of rfl) rfl ?_
    repeat (first|apply cA|apply cB|apply cD|apply cE|apply cH|apply cK|refine cV rfl rfl rfl rfl (by first|(apply qas<;>(exact rfl))|fail) ?_)
    refine ret3 (Or.inl rfl) Tryz.results108 (by first | exact ResV.tmp rfl | exact ResV.agg rfl rfl (by assumption) (by first | exact dc_length _ | exact nc_length _ | exact rc_length _ _ _ | exact ec_length _ | exact dl_length _ _ _ _ | rfl) | exact ResV.cell rfl rfl (by assumption)) (by first | exact ResV.tmp rfl | exact ResV.agg rfl rfl (by assumption) (by first | exact dc_length _ | exact nc_length _ | exact rc_length _ _ _ | exact ec_length _ | exact dl_length _ _ _ _ | rfl) | exact ResV.cell rfl rfl (by assumption)) (by first | exact ResV.tmp rfl | exact ResV.agg rfl rfl (by assumption) (by first | exact dc_length _ | exact nc_length _ | exact rc_length _ _ _ | exact ec_length _ | exact dl_length _ _ _ _ | rfl) | exact ResV.cell rfl rfl (by assumption)) ?_
    exact bad (Kp.refl _ _) e (by decide)
  by_cases h9 : k = 9 ∧ 1 < l[k].toNat
  · obtain ⟨rfl, h9v⟩ := h9
    have g5 : (0 : Int) < ((9 : Nat) : Int) := by omega
    have g6 : ¬ (l[9].toNat : Int) = 0 := by omega
    have g7 : ((9 : Nat) : Int) = 9 := rfl
    have g8 : (1 : Int) < (l[9].toNat : Int) := by omega
    have e : lookE l = 3 := by
      unfold lookE
      rw [if_neg (by omega), if_pos (Or.inr (Or.inr ⟨hr, by rw [hgk]; exact h9v⟩))]
    repeat (first|apply cA|apply cB|apply cD|apply cE|apply cF|refine cV rfl rfl rfl rfl (by first|((first|apply qmv|apply qlc|apply qic|apply qix|apply qpk|apply qei|apply qgt)<;>(first|exact rfl|exact Ar.mk (by omega)|assumption|exact dct (by first|assumption|omega)|exact dcf (by first|assumption|omega)|exact List.not_mem_nil|fail))|fail) ?_)
    refine cZ rfl (by exact rho_of rfl) rfl ?_
    repeat (first|apply cA|apply cB|apply cD|apply cE|apply cH|apply cK|refine cV rfl rfl rfl rfl (by first|(apply qas<;>(exact rfl))|fail) ?_)
    refine ret3 (Or.inl rfl) Tryz.results108 (by first | exact ResV.tmp rfl | exact ResV.agg rfl rfl (by assumption) (by first | exact dc_length _ | exact nc_length _ | exact rc_length _ _ _ | exact ec_length _ | exact dl_length _ _ _ _ | rfl) | exact ResV.cell rfl rfl (by assumption)) (by first | exact ResV.tmp rfl | exact ResV.agg rfl rfl (by assumption) (by first | exact dc_length _ | exact nc_length _ | exact rc_length _ _ _ | exact ec_length _ | exact dl_length _ _ _ _ | rfl) | exact ResV.cell rfl rfl (by assumption)) (by first | exact ResV.tmp rfl | exact ResV.agg rfl rfl (by assumption) (by first | exact dc_length _ | exact nc_length _ | exact rc_length _ _ _ | exact ec_length _ | exact dl_length _ _ _ _ | rfl) | exact ResV.cell rfl rfl (by assumption)) ?_
    exact bad (Kp.refl _ _) e (by decide)
  have e : lookE l = 0 := by
    unfold lookE
    rw [if_neg (by omega), if_neg]
    rintro (h | h | h)
    · omega
    · rw [hr, hgk] at h; exact hz h
    · rw [hr] at h
      obtain ⟨h4, h5⟩ := h
      subst h4
      rw [hgk] at h5
      exact h9 ⟨rfl, h5⟩
  have eN : lookN l = dig7 (l.take (k + 1)) := by unfold lookN; rw [hr]
  have eK : lookK l = k + 1 := by unfold lookK; rw [hr]
  have hlt := lookN_lt e
  rw [eN] at hlt
  have hrv : rnV l = .tuple #[.int .u64 (dig7 (l.take (k + 1)) : Int), .int .i64 ((k : Int) + 1), .int .i64 0] := by
    unfold rnV
    rw [e, if_pos rfl, if_pos rfl, eN, eK]
    simp only [Int.natCast_add]
    rfl
  rw [hrv]
  have htl : (l.take (k + 1)).length = k + 1 := by rw [List.length_take]; omega
  have hz0 : k = 0 ∨ (0 < k ∧ ¬ (l[k].toNat : Int) = 0) := by
    rcases Nat.eq_zero_or_pos k with h | h
    · exact Or.inl h
    · refine Or.inr ⟨h, fun h0 => hz ⟨h, ?_⟩⟩
      apply UInt8.toNat_inj.1
      rw [show (0 : UInt8).toNat = 0 from rfl]
      omega
  have h90 : ¬ (k : Int) = 9 ∨ (k = 9 ∧ ¬ (1 : Int) < (l[k].toNat : Int)) := by
    by_cases h : k = 9
    · exact Or.inr ⟨h, fun h0 => h9 ⟨h, by omega⟩⟩
    · exact Or.inl (by omega)
  clear bad hfin hgo hz h9 hrv hgk eN eK hbig
  rcases hz0 with hz0 | ⟨hz0, hz1⟩ <;> rcases h90 with h90 | ⟨h90, h91⟩
  all_goals first
    | (exfalso; omega)
    | (try have hr9 : Row w1 b0 (o0 + 9 * 1) [bv l[k]] := (by rw [show o0 + 9 * 1 = o0 + k * 1 from by omega]; exact hrk)
       repeat (first | first|apply cA|apply cB|apply cD|apply cE|apply cF|refine cV rfl rfl rfl rfl (by first|((first|apply qmv|apply qlc|apply qic|apply qix|apply qpk|apply qei|apply qgt)<;>(first|exact rfl|exact Ar.mk (by omega)|assumption|exact dct (by first|assumption|omega)|exact dcf (by first|assumption|omega)|exact List.not_mem_nil|fail))|fail) ?_ | refine cX rfl rfl ?_)
       refine dA rfl (by exact rho_of rfl) rfl ?_
       refine CG.to [(0, .slice (some ⟨b0, o0, none⟩) l.length c), (5, .int .i64 (k : Int))] (by (repeat' (first | exact True.intro | exact rfl | refine And.intro ?_ ?_))) ?_
       repeat (first|apply cA|apply cB|apply cD|apply cE|apply cF|apply cG|refine cV rfl rfl rfl rfl (by first|((first|apply qmv|apply qas)<;>(exact rfl))|fail) ?_)
       refine CG.loop (X := Nat × Int × Int) (fun x => [(0, .slice (some ⟨b0, o0, none⟩) l.length c), (5, .int .i64 (k : Int)), (6, .int .u64 x.2.2), (7, .int .i64 x.2.1)])
         (fun x w' => w' = w1 ∧ x.1 ≤ k + 1 ∧ x.2.1 = (x.1 : Int) - 1 ∧ x.2.2 = (dig7 ((l.take (k + 1)).drop x.1) : Int)) (fun x => x.1) (k + 1, (k : Int), 0) ⟨rfl, Nat.le_refl _, by simp only; omega, by simp only; rw [List.drop_of_length_le (by omega)]; exact dig7_nil⟩ (by (repeat' (first | exact True.intro | exact rfl | refine And.intro ?_ ?_))) ?_
       rintro ⟨j1, i, n⟩ w2 ⟨rfl, hj1, hi, hn⟩
       simp only at hj1 hi hn
       refine CG.to [(0, .slice (some ⟨b0, o0, none⟩) l.length c), (5, .int .i64 (k : Int)), (6, .int .u64 n), (7, .int .i64 i)] (by (repeat' (first | exact True.intro | exact rfl | refine And.intro ?_ ?_))) ?_
       cases j1 with
       | zero =>
         have gi : ¬ (0 : Int) ≤ i := by omega
         have hn' : n = (dig7 (l.take (k + 1)) : Int) := by rw [hn, List.drop_zero]
         subst hn'
         repeat (first|apply cA|apply cB|apply cD|apply cE|refine cV rfl rfl rfl rfl (by first|((first|apply qmv|apply qge)<;>(first|exact rfl|exact dcf (by first|assumption|omega)|fail))|fail) ?_)
         refine dA rfl (by exact rho_of rfl) rfl ?_
         repeat (first|apply cA|apply cB|apply cD|apply cE|apply cH|apply cJ|apply cM|refine cQ rfl ?_|refine cV rfl rfl rfl rfl (by first|((first|apply qmv|apply qas|apply qad)<;>(first|exact rfl|exact Ar.mk (by omega)|fail))|fail) ?_)
         refine ret3 (Or.inl rfl) Tryz.results108 (by first | exact ResV.tmp rfl | exact ResV.agg rfl rfl (by assumption) (by first | exact dc_length _ | exact nc_length _ | exact rc_length _ _ _ | exact ec_length _ | exact dl_length _ _ _ _ | rfl) | exact ResV.cell rfl rfl (by assumption)) (by first | exact ResV.tmp rfl | exact ResV.agg rfl rfl (by assumption) (by first | exact dc_length _ | exact nc_length _ | exact rc_length _ _ _ | exact ec_length _ | exact dl_length _ _ _ _ | rfl) | exact ResV.cell rfl rfl (by assumption)) (by first | exact ResV.tmp rfl | exact ResV.agg rfl rfl (by assumption) (by first | exact dc_length _ | exact nc_length _ | exact rc_length _ _ _ | exact ec_length _ | exact dl_length _ _ _ _ | rfl) | exact ResV.cell rfl rfl (by assumption)) ?_
         exact ⟨rfl, Kp.refl _ _⟩
       | succ j =>
         have hij : i = (j : Int) := by omega
         subst hij
         have gi : (0 : Int) ≤ (j : Int) := by omega
         have hjl : j < l.length := by omega
         have gj : (j : Int) < (l.length : Int) := by omega
         have hst := dig7_step (l := l.take (k + 1)) (j := j) (by omega)
         have hge : (l.take (k + 1))[j]'(by omega) = l[j] := List.getElem_take
         rw [hge] at hst
         have hle := dig7_drop_le (l.take (k + 1)) j
         rw [hst] at hle
         have hma := muladd_nat (a := dig7 ((l.take (k + 1)).drop (j + 1))) (b := (lo7 l[j]).toNat) (by omega)
         obtain ⟨b9, o9, e9, hrj⟩ := bs_at hS hjl
         cases e9
         subst hn
         clear hrk
         try clear hr9
         repeat (first|apply cA|apply cB|apply cD|apply cE|refine cV rfl rfl rfl rfl (by first|((first|apply qmv|apply qge)<;>(first|exact rfl|exact dct (by first|assumption|omega)|fail))|fail) ?_)
         refine cZ rfl (by exact rho_of rfl) rfl ?_
         repeat (first|apply cA|apply cB|apply cD|apply cE|apply cF|apply cG|apply cU|refine cV rfl rfl rfl rfl (by first|(apply qb64<;>(first|exact rfl|exact Ar.mk (by omega)|assumption|exact List.not_mem_nil|fail))|((first|apply qr128|apply quad|apply quml|apply qmv|apply qas|apply qlc|apply qix|apply qsb)<;>(first|exact rfl|exact Ar.mk (by omega)|assumption|exact List.not_mem_nil|fail))|fail) ?_)
         rw [hma]
         refine NG.round (j, (j : Int) - 1, _) (by (repeat' (first | exact True.intro | exact rfl | refine And.intro ?_ ?_))) ⟨rfl, by simp only; omega, rfl, by simp only; rw [hst]⟩ (by simp only; omega))
end Go.Proofs.YtgbgnlboogalgaaGreat
namespace Go.Proofs.YtgbgnlboogalgaaGreat
open Go.Proofs
set_option linter.unusedVariables false
theorem bsr (w : World) (a b c e : Int) : (Instr.build 109 #[(0, .int .u64 a), (1, .int .u64 b), (2, .int .u64 c), (3, .int .u64 e)]).run Tryz.prog w = .ok (.agg (hsl ⟨a, b, c, e⟩).toArray) w := by kernel_rfl
theorem bz8 (w : World) : (Instr.build 24 #[]).run Tryz.prog w = .ok (dv zd) w := by kernel_rfl
attribute [local irreducible] CG NG SG Vals Der Row Blk MapIs IterAt addI xorI orI andI shlI shrI mulI
set_option maxHeartbeats 8000000 in
theorem left_spec (w : World) (x k : Int) (h0 : 0 ≤ k ∧ k ≤ 64) : Ret Tryz.prog 110 #[.int .u64 x, .int .u64 k] w (.int .u64 (rotI x k)) := by
  refine enter2 Tryz.func110 rfl Tryz.ntmps110 rfl ?_
  repeat (first|apply cA|apply cB|apply cD|apply cE|apply cF|apply cG|apply cH|apply cJ|apply cM|refine cQ rfl ?_|apply cU|refine cV rfl rfl rfl rfl (by first|((first|apply quad|apply quxo|apply quor|apply qush|apply qusr|apply qusb|apply qia0|apply qmv|apply qas|apply qlc|apply qla|apply qle)<;>(first|exact rfl|assumption|exact Ar.mk (by omega)|exact dct (by first|assumption|omega)|exact dcf (by first|assumption|omega)|exact List.not_mem_nil|exact nm1 (by omega)|fail))|fail) ?_)
  refine ret1 (Or.inl rfl) Tryz.results110 (by first | exact ResV.tmp rfl | exact ResV.agg rfl rfl (by assumption) (by first | exact dc_length _ | exact nc_length _ | exact rc_length _ _ _ | exact ec_length _ | exact dl_length _ _ _ _ | rfl) | exact ResV.cell rfl rfl (by assumption)) ?_
  exact ⟨rfl, Kp.refl _ _⟩
theorem left32 (w : World) (x : Int) : Ret Tryz.prog 110 #[.int .u64 x, .int .u64 32] w (.int .u64 (rotI x 32)) := left_spec w x 32 (by omega)
theorem left24 (w : World) (x : Int) : Ret Tryz.prog 110 #[.int .u64 x, .int .u64 24] w (.int .u64 (rotI x 24)) := left_spec w x 24 (by omega)
theorem left16 (w : World) (x : Int) : Ret Tryz.prog 110 #[.int .u64 x, .int .u64 16] w (.int .u64 (rotI x 16)) := left_spec w x 16 (by omega)
theorem left63 (w : World) (x : Int) : Ret Tryz.prog 110 #[.int .u64 x, .int .u64 63] w (.int .u64 (rotI x 63)) := left_spec w x 63 (by omega)
set_option maxHeartbeats 16000000 in
theorem rstir_spec (s : Hs) (w : World) : Ret Tryz.prog 94 #[.agg (hsl s).toArray] w (.agg (hsl (stirI s)).toArray) := by
  refine enter1 Tryz.func94 rfl Tryz.ntmps94 rfl ?_
  repeat (first|apply cA|apply cB|apply cD|apply cE|apply cF|apply cG|apply cH|apply cJ|apply cM|refine cQ rfl ?_|apply cU|refine cV rfl rfl rfl rfl (by first|((first|apply quad|apply quxo|apply quor|apply qush|apply qusr|apply qusb|apply qia0|apply qmv|apply qas|apply qlc|apply qla|apply qle)<;>(first|exact rfl|assumption|exact Ar.mk (by omega)|exact dct (by first|assumption|omega)|exact dcf (by first|assumption|omega)|exact List.not_mem_nil|exact nm1 (by omega)|fail))|fail) ?_)
  refine SG.box rfl rfl rfl (by exact rho_of rfl) (fun b1 w1 hk1 hb1 hB1 => ?_)
  have hB1 : Blk w1 b1 (.cells (hsl s).toArray 109) := hB1
  refine SG.alloc rfl rfl rfl (fun b2 w2 hk2 hb2 hB2 => ?_)
  have hB2 : Blk w2 b2 (.cells (hsl ⟨0, 0, 0, 0⟩).toArray 109) := hB2
  have l1 := hB1.lt
  have s1 := hk1.size
  have s2 := hk2.size
  have k2 := hk1.trans hk2
  repeat (first|apply cA|apply cB|apply cD|apply cE|apply cF|apply cG|apply cH|apply cJ|apply cM|refine cQ rfl ?_|apply cU|refine cV rfl rfl rfl rfl (by first|((first|apply quad|apply quxo|apply quor|apply qush|apply qusr|apply qusb|apply qia0|apply qmv|apply qas|apply qlc|apply qla|apply qle)<;>(first|exact rfl|assumption|exact Ar.mk (by omega)|exact dct (by first|assumption|omega)|exact dcf (by first|assumption|omega)|exact List.not_mem_nil|exact nm1 (by omega)|fail))|fail) ?_)
  refine CG.loop (X := Nat) (fun i => [(1, .pointer (some ⟨b1, 0, none⟩)), (2, .pointer (some ⟨b2, 0, none⟩)), (3, .int .u64 ((i + 1 : Nat) : Int))])
    (fun i w' => i ≤ 6 ∧ Kp [b1] w2 w' ∧ Blk w' b1 (.cells (hsl (roundsI s i)).toArray 109)) (fun i => 6 - i) 0 ⟨by omega, Kp.refl _ _, hB1.kp0 hk2⟩ (by (repeat' (first | exact True.intro | exact rfl | refine And.intro ?_ ?_))) ?_
  rintro i v0 ⟨hi, hk, hB⟩
  by_cases hlt : i < 6
  · have g1 : ((i + 1 : Nat) : Int) ≤ 6 := by omega
    have e1 := addI_small (k := i + 1) (by omega)
    obtain ⟨r0, r1, r2, r3, _⟩ := hs_rows hB
    generalize hq : roundsI s i = q at hB r0 r1 r2 r3
    repeat (first|apply cA|apply cB|apply cD|apply cE|apply cF|apply cG|apply cH|apply cJ|apply cM|refine cQ rfl ?_|apply cU|refine cV rfl rfl rfl rfl (by first|((first|apply quad|apply quxo|apply quor|apply qush|apply qusr|apply qusb|apply qia0|apply qmv|apply qas|apply qlc|apply qla|apply qle)<;>(first|exact rfl|assumption|exact Ar.mk (by omega)|exact dct (by first|assumption|omega)|exact dcf (by first|assumption|omega)|exact List.not_mem_nil|exact nm1 (by omega)|fail))|fail) ?_)
    refine cZ rfl (by exact rho_of rfl) rfl ?_
    repeat (first|apply cA|apply cB|apply cD|apply cE|apply cF|apply cG|apply cH|apply cJ|apply cM|refine cQ rfl ?_|apply cU|refine cV rfl rfl rfl rfl (by first|((first|apply quad|apply quxo|apply quor|apply qush|apply qusr|apply qusb|apply qia0|apply qmv|apply qas|apply qlc|apply qla|apply qle)<;>(first|exact rfl|assumption|exact Ar.mk (by omega)|exact dct (by first|assumption|omega)|exact dcf (by first|assumption|omega)|exact List.not_mem_nil|exact nm1 (by omega)|fail))|fail) ?_)
    generalize hy0 : xorI (addI q.a q.b) ((i + 1 : Nat) : Int) = y0
    refine SG.store rfl rfl (by exact rho_of rfl) (by exact rho_of rfl) hB rfl (by show 0 + 1 ≤ 4; omega) rfl (fun v1 hj1 hB => ?_)
    have hB : Blk v1 b1 (.cells (hsl ⟨y0, q.b, q.c, q.d⟩).toArray 109) := hB
    have hk := hk.trans hj1
    clear r0 r1 r2 r3
    obtain ⟨r0, r1, r2, r3, _⟩ := hs_rows hB
    repeat (first|apply cA|apply cB|apply cD|apply cE|apply cF|apply cG|apply cH|apply cJ|apply cM|refine cQ rfl ?_|apply cU|refine cV rfl rfl rfl rfl (by first|((first|apply quad|apply quxo|apply quor|apply qush|apply qusr|apply qusb|apply qia0|apply qmv|apply qas|apply qlc|apply qla|apply qle)<;>(first|exact rfl|assumption|exact Ar.mk (by omega)|exact dct (by first|assumption|omega)|exact dcf (by first|assumption|omega)|exact List.not_mem_nil|exact nm1 (by omega)|fail))|fail) ?_)
    refine SG.ret rfl rfl rfl (by repeat' (first | exact True.intro | exact rho_of rfl | refine And.intro ?_ ?_)) (left32 v1 _) (fun v2 hj2 => ?_)
    have hB := hB.kp0 hj2
    have hk := hk.trans hj2.any
    repeat (first|apply cA|apply cB|apply cD|apply cE|apply cF|apply cG|apply cH|apply cJ|apply cM|refine cQ rfl ?_|apply cU|refine cV rfl rfl rfl rfl (by first|((first|apply quad|apply quxo|apply quor|apply qush|apply qusr|apply qusb|apply qia0|apply qmv|apply qas|apply qlc|apply qla|apply qle)<;>(first|exact rfl|assumption|exact Ar.mk (by omega)|exact dct (by first|assumption|omega)|exact dcf (by first|assumption|omega)|exact List.not_mem_nil|exact nm1 (by omega)|fail))|fail) ?_)
    generalize hy1 : rotI (xorI q.d y0) 32 = y1
    refine SG.store rfl rfl (by exact rho_of rfl) (by exact rho_of rfl) hB rfl (by show 3 + 1 ≤ 4; omega) rfl (fun v3 hj3 hB => ?_)
    have hB : Blk v3 b1 (.cells (hsl ⟨y0, q.b, q.c, y1⟩).toArray 109) := hB
    have hk := hk.trans hj3
    clear r0 r1 r2 r3
    obtain ⟨r0, r1, r2, r3, _⟩ := hs_rows hB
    repeat (first|apply cA|apply cB|apply cD|apply cE|apply cF|apply cG|apply cH|apply cJ|apply cM|refine cQ rfl ?_|apply cU|refine cV rfl rfl rfl rfl (by first|((first|apply quad|apply quxo|apply quor|apply qush|apply qusr|apply qusb|apply qia0|apply qmv|apply qas|apply qlc|apply qla|apply qle)<;>(first|exact rfl|assumption|exact Ar.mk (by omega)|exact dct (by first|assumption|omega)|exact dcf (by first|assumption|omega)|exact List.not_mem_nil|exact nm1 (by omega)|fail))|fail) ?_)
    generalize hy2 : addI q.c y1 = y2
    refine SG.store rfl rfl (by exact rho_of rfl) (by exact rho_of rfl) hB rfl (by show 2 + 1 ≤ 4; omega) rfl (fun v4 hj4 hB => ?_)
    have hB : Blk v4 b1 (.cells (hsl ⟨y0, q.b, y2, y1⟩).toArray 109) := hB
    have hk := hk.trans hj4
    clear r0 r1 r2 r3
    obtain ⟨r0, r1, r2, r3, _⟩ := hs_rows hB
    repeat (first|apply cA|apply cB|apply cD|apply cE|apply cF|apply cG|apply cH|apply cJ|apply cM|refine cQ rfl ?_|apply cU|refine cV rfl rfl rfl rfl (by first|((first|apply quad|apply quxo|apply quor|apply qush|apply qusr|apply qusb|apply qia0|apply qmv|apply qas|apply qlc|apply qla|apply qle)<;>(first|exact rfl|assumption|exact Ar.mk (by omega)|exact dct (by first|assumption|omega)|exact dcf (by first|assumption|omega)|exact List.not_mem_nil|exact nm1 (by omega)|fail))|fail) ?_)
    refine SG.ret rfl rfl rfl (by repeat' (first | exact True.intro | exact rho_of rfl | refine And.intro ?_ ?_)) (left24 v4 _) (fun v5 hj5 => ?_)
    have hB := hB.kp0 hj5
    have hk := hk.trans hj5.any
    repeat (first|apply cA|apply cB|apply cD|apply cE|apply cF|apply cG|apply cH|apply cJ|apply cM|refine cQ rfl ?_|apply cU|refine cV rfl rfl rfl rfl (by first|((first|apply quad|apply quxo|apply quor|apply qush|apply qusr|apply qusb|apply qia0|apply qmv|apply qas|apply qlc|apply qla|apply qle)<;>(first|exact rfl|assumption|exact Ar.mk (by omega)|exact dct (by first|assumption|omega)|exact dcf (by first|assumption|omega)|exact List.not_mem_nil|exact nm1 (by omega)|fail))|fail) ?_)
    generalize hy3 : rotI (xorI q.b y2) 24 = y3
    refine SG.store rfl rfl (by exact rho_of rfl) (by exact rho_of rfl) hB rfl (by show 1 + 1 ≤ 4; omega) rfl (fun v6 hj6 hB => ?_)
    have hB : Blk v6 b1 (.cells (hsl ⟨y0, y3, y2, y1⟩).toArray 109) := hB
    have hk := hk.trans hj6
    clear r0 r1 r2 r3
    obtain ⟨r0, r1, r2, r3, _⟩ := hs_rows hB
    repeat (first|apply cA|apply cB|apply cD|apply cE|apply cF|apply cG|apply cH|apply cJ|apply cM|refine cQ rfl ?_|apply cU|refine cV rfl rfl rfl rfl (by first|((first|apply quad|apply quxo|apply quor|apply qush|apply qusr|apply qusb|apply qia0|apply qmv|apply qas|apply qlc|apply qla|apply qle)<;>(first|exact rfl|assumption|exact Ar.mk (by omega)|exact dct (by first|assumption|omega)|exact dcf (by first|assumption|omega)|exact List.not_mem_nil|exact nm1 (by omega)|fail))|fail) ?_)
    generalize hy4 : addI y0 y3 = y4
    refine SG.store rfl rfl (by exact rho_of rfl) (by exact rho_of rfl) hB rfl (by show 0 + 1 ≤ 4; omega) rfl (fun v7 hj7 hB => ?_)
    have hB : Blk v7 b1 (.cells (hsl ⟨y4, y3, y2, y1⟩).toArray 109) := hB
    have hk := hk.trans hj7
    clear r0 r1 r2 r3
    obtain ⟨r0, r1, r2, r3, _⟩ := hs_rows hB
    repeat (first|apply cA|apply cB|apply cD|apply cE|apply cF|apply cG|apply cH|apply cJ|apply cM|refine cQ rfl ?_|apply cU|refine cV rfl rfl rfl rfl (by first|((first|apply quad|apply quxo|apply quor|apply qush|apply qusr|apply qusb|apply qia0|apply qmv|apply qas|apply qlc|apply qla|apply qle)<;>(first|exact rfl|assumption|exact Ar.mk (by omega)|exact dct (by first|assumption|omega)|exact dcf (by first|assumption|omega)|exact List.not_mem_nil|exact nm1 (by omega)|fail))|fail) ?_)
    refine SG.ret rfl rfl rfl (by repeat' (first | exact True.intro | exact rho_of rfl | refine And.intro ?_ ?_)) (left16 v7 _) (fun v8 hj8 => ?_)
    have hB := hB.kp0 hj8
    have hk := hk.trans hj8.any
    repeat (first|apply cA|apply cB|apply cD|apply cE|apply cF|apply cG|apply cH|apply cJ|apply cM|refine cQ rfl ?_|apply cU|refine cV rfl rfl rfl rfl (by first|((first|apply quad|apply quxo|apply quor|apply qush|apply qusr|apply qusb|apply qia0|apply qmv|apply qas|apply qlc|apply qla|apply qle)<;>(first|exact rfl|assumption|exact Ar.mk (by omega)|exact dct (by first|assumption|omega)|exact dcf (by first|assumption|omega)|exact List.not_mem_nil|exact nm1 (by omega)|fail))|fail) ?_)
    generalize hy5 : rotI (xorI y1 y4) 16 = y5
    refine SG.store rfl rfl (by exact rho_of rfl) (by exact rho_of rfl) hB rfl (by show 3 + 1 ≤ 4; omega) rfl (fun v9 hj9 hB => ?_)
    have hB : Blk v9 b1 (.cells (hsl ⟨y4, y3, y2, y5⟩).toArray 109) := hB
    have hk := hk.trans hj9
    clear r0 r1 r2 r3
    obtain ⟨r0, r1, r2, r3, _⟩ := hs_rows hB
    repeat (first|apply cA|apply cB|apply cD|apply cE|apply cF|apply cG|apply cH|apply cJ|apply cM|refine cQ rfl ?_|apply cU|refine cV rfl rfl rfl rfl (by first|((first|apply quad|apply quxo|apply quor|apply qush|apply qusr|apply qusb|apply qia0|apply qmv|apply qas|apply qlc|apply qla|apply qle)<;>(first|exact rfl|assumption|exact Ar.mk (by omega)|exact dct (by first|assumption|omega)|exact dcf (by first|assumption|omega)|exact List.not_mem_nil|exact nm1 (by omega)|fail))|fail) ?_)
    generalize hy6 : addI y2 y5 = y6
    refine SG.store rfl rfl (by exact rho_of rfl) (by exact rho_of rfl) hB rfl (by show 2 + 1 ≤ 4; omega) rfl (fun v10 hj10 hB => ?_)
    have hB : Blk v10 b1 (.cells (hsl ⟨y4, y3, y6, y5⟩).toArray 109) := hB
    have hk := hk.trans hj10
    clear r0 r1 r2 r3
    obtain ⟨r0, r1, r2, r3, _⟩ := hs_rows hB
    repeat (first|apply cA|apply cB|apply cD|apply cE|apply cF|apply cG|apply cH|apply cJ|apply cM|refine cQ rfl ?_|apply cU|refine cV rfl rfl rfl rfl (by first|((first|apply quad|apply quxo|apply quor|apply qush|apply qusr|apply qusb|apply qia0|apply qmv|apply qas|apply qlc|apply qla|apply qle)<;>(first|exact rfl|assumption|exact Ar.mk (by omega)|exact dct (by first|assumption|omega)|exact dcf (by first|assumption|omega)|exact List.not_mem_nil|exact nm1 (by omega)|fail))|fail) ?_)
    refine SG.ret rfl rfl rfl (by repeat' (first | exact True.intro | exact rho_of rfl | refine And.intro ?_ ?_)) (left63 v10 _) (fun v11 hj11 => ?_)
    have hB := hB.kp0 hj11
    have hk := hk.trans hj11.any
    repeat (first|apply cA|apply cB|apply cD|apply cE|apply cF|apply cG|apply cH|apply cJ|apply cM|refine cQ rfl ?_|apply cU|refine cV rfl rfl rfl rfl (by first|((first|apply quad|apply quxo|apply quor|apply qush|apply qusr|apply qusb|apply qia0|apply qmv|apply qas|apply qlc|apply qla|apply qle)<;>(first|exact rfl|assumption|exact Ar.mk (by omega)|exact dct (by first|assumption|omega)|exact dcf (by first|assumption|omega)|exact List.not_mem_nil|exact nm1 (by omega)|fail))|fail) ?_)
    generalize hy7 : rotI (xorI y3 y6) 63 = y7
    refine SG.store rfl rfl (by exact rho_of rfl) (by exact rho_of rfl) hB rfl (by show 1 + 1 ≤ 4; omega) rfl (fun v12 hj12 hB => ?_)
    have hB : Blk v12 b1 (.cells (hsl ⟨y4, y7, y6, y5⟩).toArray 109) := hB
    have hk := hk.trans hj12
    clear r0 r1 r2 r3
    obtain ⟨r0, r1, r2, r3, _⟩ := hs_rows hB
    repeat (first|apply cA|apply cB|apply cD|apply cE|apply cF|apply cG|apply cH|apply cJ|apply cM|refine cQ rfl ?_|apply cU|refine cV rfl rfl rfl rfl (by first|((first|apply quad|apply quxo|apply quor|apply qush|apply qusr|apply qusb|apply qia0|apply qmv|apply qas|apply qlc|apply qla|apply qle)<;>(first|exact rfl|assumption|exact Ar.mk (by omega)|exact dct (by first|assumption|omega)|exact dcf (by first|assumption|omega)|exact List.not_mem_nil|exact nm1 (by omega)|fail))|fail) ?_)
    rw [e1]
    refine NG.round (i + 1) (by (repeat' (first | exact True.intro | exact rfl | refine And.intro ?_ ?_))) ⟨by omega, hk, ?_⟩ (by omega)
    have e : roundsI s (i + 1) = ⟨y4, y7, y6, y5⟩ := by
      rw [roundsI, hq, ← hy7, ← hy6, ← hy5, ← hy4, ← hy3, ← hy2, ← hy1, ← hy0]
      rfl
    rw [e]
    exact hB
  · have g1 : ¬ ((i + 1 : Nat) : Int) ≤ 6 := by omega
    have e6 : i = 6 := by omega
    subst e6
    have hr : Row v0 b1 0 (hsl (stirI s)) := Row.all hB rfl
    repeat (first|apply cA|apply cB|apply cD|apply cE|apply cF|apply cG|apply cH|apply cJ|apply cM|refine cQ rfl ?_|apply cU|refine cV rfl rfl rfl rfl (by first|((first|apply quad|apply quxo|apply quor|apply qush|apply qusr|apply qusb|apply qia0|apply qmv|apply qas|apply qlc|apply qla|apply qle)<;>(first|exact rfl|assumption|exact Ar.mk (by omega)|exact dct (by first|assumption|omega)|exact dcf (by first|assumption|omega)|exact List.not_mem_nil|exact nm1 (by omega)|fail))|fail) ?_)
    refine dA rfl (by exact rho_of rfl) rfl ?_
    repeat (first|apply cA|apply cB|apply cD|apply cE|apply cF|apply cG|apply cH|apply cJ|apply cM|refine cQ rfl ?_|apply cU|refine cV rfl rfl rfl rfl (by first|((first|apply quad|apply quxo|apply quor|apply qush|apply qusr|apply qusb|apply qia0|apply qmv|apply qas|apply qlc|apply qla|apply qle)<;>(first|exact rfl|assumption|exact Ar.mk (by omega)|exact dct (by first|assumption|omega)|exact dcf (by first|assumption|omega)|exact List.not_mem_nil|exact nm1 (by omega)|fail))|fail) ?_)
    refine SG.setAll (old := hsl ⟨0, 0, 0, 0⟩) (l := hsl (stirI s)) rfl rfl (by exact rho_of rfl) (by exact rho_of rfl) (hB2.kp hk (nm1 (by omega))) rfl rfl rfl (fun w3 hk3 hB3 => ?_)
    have hr3 : Row w3 b2 0 (hsl (stirI s)) := Row.all hB3 rfl
    repeat (first|apply cA|apply cB|apply cD|apply cE|apply cF|apply cG|apply cH|apply cJ|apply cM|refine cQ rfl ?_|apply cU|refine cV rfl rfl rfl rfl (by first|((first|apply quad|apply quxo|apply quor|apply qush|apply qusr|apply qusb|apply qia0|apply qmv|apply qas|apply qlc|apply qla|apply qle)<;>(first|exact rfl|assumption|exact Ar.mk (by omega)|exact dct (by first|assumption|omega)|exact dcf (by first|assumption|omega)|exact List.not_mem_nil|exact nm1 (by omega)|fail))|fail) ?_)
    refine ret1 (Or.inl rfl) Tryz.results94 (by first | exact ResV.tmp rfl | exact ResV.agg rfl rfl (by assumption) (by first | exact dc_length _ | exact nc_length _ | exact rc_length _ _ _ | exact ec_length _ | exact dl_length _ _ _ _ | rfl) | exact ResV.cell rfl rfl (by assumption)) ?_
    exact ⟨rfl, (k2.trans_new hk (new1 (by omega))).trans_new hk3 (new1 (by omega))⟩
set_option maxHeartbeats 8000000 in
theorem rbegin_spec (z : Int) (w : World) : Ret Tryz.prog 55 #[.int .u64 z] w (.agg (hsl (beginI z)).toArray) := by
  refine enter1 Tryz.func55 rfl Tryz.ntmps55 rfl ?_
  repeat (first|apply cA|apply cB|apply cD|apply cE|apply cF|apply cG|apply cH|apply cJ|apply cM|refine cQ rfl ?_|apply cU|refine cV rfl rfl rfl rfl (by first|((first|apply quad|apply quxo|apply quor|apply qush|apply qusr|apply qusb|apply qia0|apply qmv|apply qas|apply qlc|apply qla|apply qle)<;>(first|exact rfl|assumption|exact Ar.mk (by omega)|exact dct (by first|assumption|omega)|exact dcf (by first|assumption|omega)|exact List.not_mem_nil|exact nm1 (by omega)|fail))|fail) ?_)
  refine SG.alloc rfl rfl rfl (fun b2 w1 hk1 hb2 hB2 => ?_)
  have hB2 : Blk w1 b2 (.cells (hsl ⟨0, 0, 0, 0⟩).toArray 109) := hB2
  repeat (first|apply cA|apply cB|apply cD|apply cE|apply cF|apply cG|apply cH|apply cJ|apply cM|refine cQ rfl ?_|apply cU|refine cV rfl rfl rfl rfl (by first|((first|apply quad|apply quxo|apply quor|apply qush|apply qusr|apply qusb|apply qia0|apply qmv|apply qas|apply qlc|apply qla|apply qle)<;>(first|exact rfl|assumption|exact Ar.mk (by omega)|exact dct (by first|assumption|omega)|exact dcf (by first|assumption|omega)|exact List.not_mem_nil|exact nm1 (by omega)|fail))|fail) ?_)
  refine cV rfl rfl rfl rfl (vals_build rfl (fun w => bsr w _ _ _ _)) ?_
  refine SG.setAll (old := hsl ⟨0, 0, 0, 0⟩) (l := hsl (beginI z)) rfl rfl (by exact rho_of rfl) (by exact rho_of rfl) hB2 rfl rfl rfl (fun w2 hk2 hB3 => ?_)
  have hr : Row w2 b2 0 (hsl (beginI z)) := Row.all hB3 rfl
  repeat (first|apply cA|apply cB|apply cD|apply cE|apply cF|apply cG|apply cH|apply cJ|apply cM|refine cQ rfl ?_|apply cU|refine cV rfl rfl rfl rfl (by first|((first|apply quad|apply quxo|apply quor|apply qush|apply qusr|apply qusb|apply qia0|apply qmv|apply qas|apply qlc|apply qla|apply qle)<;>(first|exact rfl|assumption|exact Ar.mk (by omega)|exact dct (by first|assumption|omega)|exact dcf (by first|assumption|omega)|exact List.not_mem_nil|exact nm1 (by omega)|fail))|fail) ?_)
  refine ret1 (Or.inl rfl) Tryz.results55 (by first | exact ResV.tmp rfl | exact ResV.agg rfl rfl (by assumption) (by first | exact dc_length _ | exact nc_length _ | exact rc_length _ _ _ | exact ec_length _ | exact dl_length _ _ _ _ | rfl) | exact ResV.cell rfl rfl (by assumption)) ?_
  exact ⟨rfl, hk1.trans_new hk2 (new1 hb2)⟩
set_option maxHeartbeats 8000000 in
theorem rin_spec (s : Hs) (z : Int) (w : World) : Ret Tryz.prog 76 #[.agg (hsl s).toArray, .int .u64 z] w (.agg (hsl (takeI s z)).toArray) := by
  refine enter2 Tryz.func76 rfl Tryz.ntmps76 rfl ?_
  repeat (first|apply cA|apply cB|apply cD|apply cE|apply cF|apply cG|apply cH|apply cJ|apply cM|refine cQ rfl ?_|apply cU|refine cV rfl rfl rfl rfl (by first|((first|apply quad|apply quxo|apply quor|apply qush|apply qusr|apply qusb|apply qia0|apply qmv|apply qas|apply qlc|apply qla|apply qle)<;>(first|exact rfl|assumption|exact Ar.mk (by omega)|exact dct (by first|assumption|omega)|exact dcf (by first|assumption|omega)|exact List.not_mem_nil|exact nm1 (by omega)|fail))|fail) ?_)
  refine SG.box rfl rfl rfl (by exact rho_of rfl) (fun b1 w1 hk1 hb1 hB1 => ?_)
  have hB1 : Blk w1 b1 (.cells (hsl s).toArray 109) := hB1
  refine SG.alloc rfl rfl rfl (fun b2 w2 hk2 hb2 hB2 => ?_)
  have hB2 : Blk w2 b2 (.cells (hsl ⟨0, 0, 0, 0⟩).toArray 109) := hB2
  have l1 := hB1.lt
  have hB1 := hB1.kp0 hk2
  obtain ⟨r0, r1, r2, r3, _⟩ := hs_rows hB1
  repeat (first|apply cA|apply cB|apply cD|apply cE|apply cF|apply cG|apply cH|apply cJ|apply cM|refine cQ rfl ?_|apply cU|refine cV rfl rfl rfl rfl (by first|((first|apply quad|apply quxo|apply quor|apply qush|apply qusr|apply qusb|apply qia0|apply qmv|apply qas|apply qlc|apply qla|apply qle)<;>(first|exact rfl|assumption|exact Ar.mk (by omega)|exact dct (by first|assumption|omega)|exact dcf (by first|assumption|omega)|exact List.not_mem_nil|exact nm1 (by omega)|fail))|fail) ?_)
  refine SG.store rfl rfl (by exact rho_of rfl) (by exact rho_of rfl) hB1 rfl (by show 0 + 1 ≤ 4; omega) rfl (fun w3 hk3 hB => ?_)
  have hB : Blk w3 b1 (.cells (hsl ⟨xorI s.a z, s.b, s.c, s.d⟩).toArray 109) := hB
  have hr := Row.all hB rfl
  have hr : Row w3 b1 0 (hsl ⟨xorI s.a z, s.b, s.c, s.d⟩) := hr
  repeat (first|apply cA|apply cB|apply cD|apply cE|apply cF|apply cG|apply cH|apply cJ|apply cM|refine cQ rfl ?_|apply cU|refine cV rfl rfl rfl rfl (by first|((first|apply quad|apply quxo|apply quor|apply qush|apply qusr|apply qusb|apply qia0|apply qmv|apply qas|apply qlc|apply qla|apply qle)<;>(first|exact rfl|assumption|exact Ar.mk (by omega)|exact dct (by first|assumption|omega)|exact dcf (by first|assumption|omega)|exact List.not_mem_nil|exact nm1 (by omega)|fail))|fail) ?_)
  refine SG.ret rfl rfl rfl (by repeat' (first | exact True.intro | exact rho_of rfl | refine And.intro ?_ ?_)) (rstir_spec _ w3) (fun w4 hk4 => ?_)
  refine SG.setAll (old := hsl ⟨0, 0, 0, 0⟩) (l := hsl (takeI s z)) rfl rfl (by exact rho_of rfl) (by exact rho_of rfl) ((hB2.kp hk3 (nm1 (by omega))).kp0 hk4) rfl rfl rfl (fun w5 hk5 hB5 => ?_)
  have hr5 : Row w5 b2 0 (hsl (takeI s z)) := Row.all hB5 rfl
  have s1 := hk1.size
  have s2 := hk2.size
  repeat (first|apply cA|apply cB|apply cD|apply cE|apply cF|apply cG|apply cH|apply cJ|apply cM|refine cQ rfl ?_|apply cU|refine cV rfl rfl rfl rfl (by first|((first|apply quad|apply quxo|apply quor|apply qush|apply qusr|apply qusb|apply qia0|apply qmv|apply qas|apply qlc|apply qla|apply qle)<;>(first|exact rfl|assumption|exact Ar.mk (by omega)|exact dct (by first|assumption|omega)|exact dcf (by first|assumption|omega)|exact List.not_mem_nil|exact nm1 (by omega)|fail))|fail) ?_)
  refine ret1 (Or.inl rfl) Tryz.results76 (by first | exact ResV.tmp rfl | exact ResV.agg rfl rfl (by assumption) (by first | exact dc_length _ | exact nc_length _ | exact rc_length _ _ _ | exact ec_length _ | exact dl_length _ _ _ _ | rfl) | exact ResV.cell rfl rfl (by assumption)) ?_
  exact ⟨rfl, (((hk1.trans hk2).trans_new hk3 (new1 (by omega))).trans hk4).trans_new hk5 (new1 (by omega))⟩
end Go.Proofs.YtgbgnlboogalgaaGreat
namespace Go.Proofs.YtgbgnlboogalgaaGreat
open Go.Proofs
set_option linter.unusedVariables false
attribute [local irreducible] CG NG SG Vals Der Row Blk MapIs IterAt addI xorI orI andI shlI shrI mulI
theorem frm_step {n i : Nat} : UInt8.ofNat (n / 2 ^ (8 * i)) = toB (((n / 2 ^ (8 * i) : Nat) : Int) % 256) := by
  unfold toB
  have e : ((n / 2 ^ (8 * i) : Nat) : Int) % 256 % 256 = ((n / 2 ^ (8 * i) % 256 : Nat) : Int) := by omega
  rw [e, Int.toNat_natCast]
  apply UInt8.toNat_inj.1
  rw [UInt8.toNat_ofNat', UInt8.toNat_ofNat']
  omega
set_option maxHeartbeats 8000000 in
theorem rfrom_spec (n : Nat) (hn : n < 18446744073709551616) (w : World) : Ret Tryz.prog 75 #[.int .u64 (n : Int)] w (dv (frm n)) := by
  refine enter1 Tryz.func75 rfl Tryz.ntmps75 rfl ?_
  repeat (first|apply cA|apply cB|apply cD|apply cE|apply cF|apply cG|apply cH|apply cJ|apply cM|refine cQ rfl ?_|apply cU|refine cV rfl rfl rfl rfl (by first|(apply q64b<;>(first|exact rfl|assumption|exact Ar.mk (by omega)|exact dct (by first|assumption|omega)|exact dcf (by first|assumption|omega)|exact List.not_mem_nil|apply dc_length|exact nm1 (by omega)|fail))|((first|apply qqu|apply qru|apply qia|apply qmv|apply qas|apply qla|apply qls|apply qad)<;>(first|exact rfl|assumption|exact Ar.mk (by omega)|exact dct (by first|assumption|omega)|exact dcf (by first|assumption|omega)|exact List.not_mem_nil|apply dc_length|exact nm1 (by omega)|fail))|fail) ?_)
  refine SG.alloc rfl rfl rfl (fun b2 w1 hk1 hb2 hB2 => ?_)
  repeat (first|apply cA|apply cB|apply cD|apply cE|apply cF|apply cG|apply cH|apply cJ|apply cM|refine cQ rfl ?_|apply cU|refine cV rfl rfl rfl rfl (by first|(apply q64b<;>(first|exact rfl|assumption|exact Ar.mk (by omega)|exact dct (by first|assumption|omega)|exact dcf (by first|assumption|omega)|exact List.not_mem_nil|apply dc_length|exact nm1 (by omega)|fail))|((first|apply qqu|apply qru|apply qia|apply qmv|apply qas|apply qla|apply qls|apply qad)<;>(first|exact rfl|assumption|exact Ar.mk (by omega)|exact dct (by first|assumption|omega)|exact dcf (by first|assumption|omega)|exact List.not_mem_nil|apply dc_length|exact nm1 (by omega)|fail))|fail) ?_)
  refine cV rfl rfl rfl rfl (vals_build rfl bz8) ?_
  refine SG.alloc rfl rfl rfl (fun b3 w2 hk2 hb3 hB3 => ?_)
  have hB2 : Blk w1 b2 (.cells (dc zd).toArray 24) := hB2
  have hB3 : Blk w2 b3 (.cells (dc zd).toArray 24) := hB3
  refine SG.setAll (old := dc zd) (l := dc zd) rfl rfl (by exact rho_of rfl) (by exact rho_of rfl) hB3 (dc_length _) (dc_length _) (dc_one _) (fun w2' hk2' hB3 => ?_)
  have hl2 := hB2.lt
  have s1 := hk1.size
  have s2 := hk2.size
  repeat (first|apply cA|apply cB|apply cD|apply cE|apply cF|apply cG|apply cH|apply cJ|apply cM|refine cQ rfl ?_|apply cU|refine cV rfl rfl rfl rfl (by first|(apply q64b<;>(first|exact rfl|assumption|exact Ar.mk (by omega)|exact dct (by first|assumption|omega)|exact dcf (by first|assumption|omega)|exact List.not_mem_nil|apply dc_length|exact nm1 (by omega)|fail))|((first|apply qqu|apply qru|apply qia|apply qmv|apply qas|apply qla|apply qls|apply qad)<;>(first|exact rfl|assumption|exact Ar.mk (by omega)|exact dct (by first|assumption|omega)|exact dcf (by first|assumption|omega)|exact List.not_mem_nil|apply dc_length|exact nm1 (by omega)|fail))|fail) ?_)
  refine CG.loop (X := Nat) (fun i => [(0, .int .u64 ((n / 2 ^ (8 * i) : Nat) : Int)), (2, .pointer (some ⟨b2, 0, none⟩)), (3, .pointer (some ⟨b3, 0, none⟩)), (4, .int .i64 (i : Int))])
    (fun i w' => i ≤ 8 ∧ Kp [b3] w2 w' ∧ Blk w' b3 (.cells (part n i).toArray 24)) (fun i => 8 - i) 0 ⟨by omega, hk2', hB3⟩ (by simp only [Nat.mul_zero, Nat.pow_zero, Nat.div_one]; (repeat' (first | exact True.intro | exact rfl | refine And.intro ?_ ?_))) ?_
  rintro i w3 ⟨hi, hk3, hB⟩
  by_cases hlt : i < 8
  · have g1 : (i : Int) < 8 := by omega
    have hb : Ar (0 ≤ ((n / 2 ^ (8 * i) : Nat) : Int) ∧ ((n / 2 ^ (8 * i) : Nat) : Int) < 18446744073709551616 ∧ (0 : Int) < 256) := ⟨by
      have h1 := Nat.div_le_self n (2 ^ (8 * i))
      generalize n / 2 ^ (8 * i) = q at h1 ⊢
      omega⟩
    have e2 : ((n / 2 ^ (8 * i) : Nat) : Int) / 256 = ((n / 2 ^ (8 * (i + 1)) : Nat) : Int) := by
      have : (2 : Nat) ^ (8 * (i + 1)) = 2 ^ (8 * i) * 256 := by rw [Nat.mul_add, Nat.pow_add]
      rw [this, ← Nat.div_div_eq_div_mul]
      omega
    have e3 := frm_step (n := n) (i := i)
    generalize hm : n / 2 ^ (8 * i) = m at hb e2 e3 ⊢
    repeat (first|apply cA|apply cB|apply cD|apply cE|apply cF|apply cG|apply cH|apply cJ|apply cM|refine cQ rfl ?_|apply cU|refine cV rfl rfl rfl rfl (by first|(apply q64b<;>(first|exact rfl|assumption|exact Ar.mk (by omega)|exact dct (by first|assumption|omega)|exact dcf (by first|assumption|omega)|exact List.not_mem_nil|apply dc_length|exact nm1 (by omega)|fail))|((first|apply qqu|apply qru|apply qia|apply qmv|apply qas|apply qla|apply qls|apply qad)<;>(first|exact rfl|assumption|exact Ar.mk (by omega)|exact dct (by first|assumption|omega)|exact dcf (by first|assumption|omega)|exact List.not_mem_nil|apply dc_length|exact nm1 (by omega)|fail))|fail) ?_)
    refine cZ rfl (by exact rho_of rfl) rfl ?_
    repeat (first|apply cA|apply cB|apply cD|apply cE|apply cF|apply cG|apply cH|apply cJ|apply cM|refine cQ rfl ?_|apply cU|refine cV rfl rfl rfl rfl (by first|(apply q64b<;>(first|exact rfl|assumption|exact Ar.mk (by omega)|exact dct (by first|assumption|omega)|exact dcf (by first|assumption|omega)|exact List.not_mem_nil|apply dc_length|exact nm1 (by omega)|fail))|((first|apply qqu|apply qru|apply qia|apply qmv|apply qas|apply qla|apply qls|apply qad)<;>(first|exact rfl|assumption|exact Ar.mk (by omega)|exact dct (by first|assumption|omega)|exact dcf (by first|assumption|omega)|exact List.not_mem_nil|apply dc_length|exact nm1 (by omega)|fail))|fail) ?_)
    rw [← e3]
    refine SG.store rfl rfl (by exact rho_of rfl) (by exact rho_of rfl) hB rfl (by show 0 + i * 1 + 1 ≤ (part n i).toArray.size; simp [part_length hi]; omega) rfl (fun w4 hk4 hB4 => ?_)
    have hB4 : Blk w4 b3 (.cells (spl (part n i) (0 + i * 1) [bv (UInt8.ofNat m)]).toArray 24) := hB4
    repeat (first|apply cA|apply cB|apply cD|apply cE|apply cF|apply cG|apply cH|apply cJ|apply cM|refine cQ rfl ?_|apply cU|refine cV rfl rfl rfl rfl (by first|(apply q64b<;>(first|exact rfl|assumption|exact Ar.mk (by omega)|exact dct (by first|assumption|omega)|exact dcf (by first|assumption|omega)|exact List.not_mem_nil|apply dc_length|exact nm1 (by omega)|fail))|((first|apply qqu|apply qru|apply qia|apply qmv|apply qas|apply qla|apply qls|apply qad)<;>(first|exact rfl|assumption|exact Ar.mk (by omega)|exact dct (by first|assumption|omega)|exact dcf (by first|assumption|omega)|exact List.not_mem_nil|apply dc_length|exact nm1 (by omega)|fail))|fail) ?_)
    rw [e2]
    refine NG.round (i + 1) (by (repeat' (first | exact True.intro | exact rfl | refine And.intro ?_ ?_))) ⟨by omega, hk3.trans hk4, ?_⟩ (by omega)
    rw [← hm, show 0 + i * 1 = i from by omega, part_step hlt] at hB4
    exact hB4
  · have g1 : ¬ (i : Int) < 8 := by omega
    have e8 : i = 8 := by omega
    subst e8
    rw [part_all] at hB
    have hr : Row w3 b3 0 (dc (frm n)) := Row.all hB rfl
    repeat (first|apply cA|apply cB|apply cD|apply cE|apply cF|apply cG|apply cH|apply cJ|apply cM|refine cQ rfl ?_|apply cU|refine cV rfl rfl rfl rfl (by first|(apply q64b<;>(first|exact rfl|assumption|exact Ar.mk (by omega)|exact dct (by first|assumption|omega)|exact dcf (by first|assumption|omega)|exact List.not_mem_nil|apply dc_length|exact nm1 (by omega)|fail))|((first|apply qqu|apply qru|apply qia|apply qmv|apply qas|apply qla|apply qls|apply qad)<;>(first|exact rfl|assumption|exact Ar.mk (by omega)|exact dct (by first|assumption|omega)|exact dcf (by first|assumption|omega)|exact List.not_mem_nil|apply dc_length|exact nm1 (by omega)|fail))|fail) ?_)
    refine dA rfl (by exact rho_of rfl) rfl ?_
    repeat (first|apply cA|apply cB|apply cD|apply cE|apply cF|apply cG|apply cH|apply cJ|apply cM|refine cQ rfl ?_|apply cU|refine cV rfl rfl rfl rfl (by first|(apply q64b<;>(first|exact rfl|assumption|exact Ar.mk (by omega)|exact dct (by first|assumption|omega)|exact dcf (by first|assumption|omega)|exact List.not_mem_nil|apply dc_length|exact nm1 (by omega)|fail))|((first|apply qqu|apply qru|apply qia|apply qmv|apply qas|apply qla|apply qls|apply qad)<;>(first|exact rfl|assumption|exact Ar.mk (by omega)|exact dct (by first|assumption|omega)|exact dcf (by first|assumption|omega)|exact List.not_mem_nil|apply dc_length|exact nm1 (by omega)|fail))|fail) ?_)
    refine SG.setAll (old := dc zd) (l := dc (frm n)) rfl rfl (by exact rho_of rfl) (by exact rho_of rfl) ((hB2.kp0 hk2).kp hk3 (nm1 (by omega))) (dc_length _) (dc_length _) (dc_one _) (fun w4 hk4 hB4 => ?_)
    have hr4 : Row w4 b2 0 (dc (frm n)) := Row.all hB4 rfl
    repeat (first|apply cA|apply cB|apply cD|apply cE|apply cF|apply cG|apply cH|apply cJ|apply cM|refine cQ rfl ?_|apply cU|refine cV rfl rfl rfl rfl (by first|(apply q64b<;>(first|exact rfl|assumption|exact Ar.mk (by omega)|exact dct (by first|assumption|omega)|exact dcf (by first|assumption|omega)|exact List.not_mem_nil|apply dc_length|exact nm1 (by omega)|fail))|((first|apply qqu|apply qru|apply qia|apply qmv|apply qas|apply qla|apply qls|apply qad)<;>(first|exact rfl|assumption|exact Ar.mk (by omega)|exact dct (by first|assumption|omega)|exact dcf (by first|assumption|omega)|exact List.not_mem_nil|apply dc_length|exact nm1 (by omega)|fail))|fail) ?_)
    refine ret1 (Or.inl rfl) Tryz.results75 (by first | exact ResV.tmp rfl | exact ResV.agg rfl rfl (by assumption) (by first | exact dc_length _ | exact nc_length _ | exact rc_length _ _ _ | exact ec_length _ | exact dl_length _ _ _ _ | rfl) | exact ResV.cell rfl rfl (by assumption)) ?_
    exact ⟨rfl, ((hk1.trans hk2).trans_new hk3 (new1 (by omega))).trans_new hk4 (new1 hb2)⟩
end Go.Proofs.YtgbgnlboogalgaaGreat
namespace Go.Proofs.YtgbgnlboogalgaaGreat
open Go.Proofs
set_option linter.unusedVariables false
theorem rdP_le' {l : List UInt8} {p : Nat} {e : Int} {most : Nat} (hp : p ≤ l.length) : rdP l p e most ≤ l.length := by
  unfold rdP
  split
  · rename_i h
    have := lookK_le (rdE_look h.2).1
    rw [List.length_drop] at this
    omega
  · exact hp
theorem rdV_lt (l : List UInt8) (p : Nat) (e : Int) (most : Nat) : rdV l p e most < 18446744073709551616 := by
  unfold rdV
  split
  · rename_i h
    exact lookN_lt (rdE_look h.2).1
  · omega
theorem paid_eq2 (l : List UInt8) (e1 e2 : Int) (p1 p2 v2 : Nat) (h1 : rdS l 0 0 18446744073709551615 = e1) (h2 : rdP l 0 0 18446744073709551615 = p1) (h3 : rdS l p1 e1 18446744073709551615 = e2) (h4 : rdP l p1 e1 18446744073709551615 = p2) (h5 : rdV l p1 e1 18446744073709551615 = v2) : (if e2 ≠ 0 then e2 else if 1125899906842624 < v2 then 2 else if p2 < l.length then 5 else 0) = paidZ l := by
  have hE : ∀ m : List UInt8, rdE m 18446744073709551615 = lookE m := fun m => by
    unfold rdE
    by_cases h : lookE m = 0
    · have := lookN_lt h
      rw [if_neg (fun k => k h), if_neg (by omega), h]
    · rw [if_pos h]
  have e1' : e1 = lookE l := by rw [← h1, rdS, if_pos rfl, List.drop_zero, hE]
  by_cases h0 : lookE l = 0
  rotate_left
  · have z : paidZ l = lookE l := by
      unfold paidZ
      rw [if_pos h0]
    have e2' : e2 = lookE l := by rw [← h3, rdS, if_neg (by rw [e1']; exact h0), e1']
    rw [z, e2', if_pos h0]
  have e0 : e1 = 0 := by rw [e1', h0]
  have p1' : p1 = lookK l := by
    rw [← h2, rdP, List.drop_zero, if_pos ⟨rfl, by rw [hE, h0]⟩]
    omega
  subst p1'
  have e2' : e2 = lookE (l.drop (lookK l)) := by rw [← h3, rdS, if_pos e0, hE]
  have z0 : paidZ l = (if lookE (l.drop (lookK l)) ≠ 0 then lookE (l.drop (lookK l)) else if 1125899906842624 < lookN (l.drop (lookK l)) then 2 else if lookK l + lookK (l.drop (lookK l)) < l.length then 5 else 0) := by
    unfold paidZ
    rw [if_neg (fun k => k h0)]
  rw [z0]
  by_cases h6 : lookE (l.drop (lookK l)) = 0
  rotate_left
  · rw [e2', if_pos h6, if_pos h6]
  have v2' : v2 = lookN (l.drop (lookK l)) := by rw [← h5, rdV, if_pos ⟨e0, by rw [hE, h6]⟩]
  have p2' : p2 = lookK l + lookK (l.drop (lookK l)) := by rw [← h4, rdP, if_pos ⟨e0, by rw [hE, h6]⟩]
  rw [e2', v2', p2']
theorem rdc_length (v : Value) (p : Nat) (e : Int) : (rdc v p e).length = 3 := rfl
theorem rdc_all {w : World} {b : Nat} {T : TypeId} {v : Value} {p : Nat} {e : Int} (h : Blk w b (.cells (rdc v p e).toArray T)) : Row w b 0 (rdc v p e) := Row.all h rfl
theorem brd2 (v : Option Addr) (n c : Nat) (w : World) : (Instr.build 146 #[(0, .slice v n c)]).run Tryz.prog w = .ok (.agg #[.slice v n c, .int .i64 0, .int .i64 0]) w := by kernel_rfl
theorem bz82 (w : World) : (Instr.build 24 #[]).run Tryz.prog w = .ok (dv zd) w := by kernel_rfl
attribute [local irreducible] CG NG SG Vals Der Row Blk MapIs IterAt addI xorI orI andI shlI shrI mulI or8 lo7 dig7 runL lookE lookN lookK rdV rdP rdS rdE paidZ DerX wrongT
set_option maxHeartbeats 16000000 in
theorem rfail_spec {w : World} (a : Option Addr) (n c p : Nat) (e z : Int) : Ret Tryz.prog 109 #[.agg (rdc (.slice a n c) p e).toArray, .int .i64 z] w (.agg (rdc (.slice a n c) p z).toArray) := by
  refine enter2 Tryz.func109 rfl Tryz.ntmps109 rfl ?_
  repeat (first|apply cA|apply cB)
  refine SG.box rfl rfl rfl (by exact rho_of rfl) (fun b2 w1 hk1 hb2 hB2 => ?_)
  have hB2 : Blk w1 b2 (.cells (rdc (.slice a n c) p e).toArray 146) := hB2
  have l2 := hB2.lt
  refine SG.alloc rfl rfl rfl (fun b4 w2 hk2 hb4 hB4 => ?_)
  have hB4 : Blk w2 b4 (.cells (rdc (.slice none 0 0) 0 0).toArray 146) := hB4
  repeat (first|apply cA|apply cB|apply cD|apply cE|refine cV rfl rfl rfl rfl (by first|((first|apply qmv|apply qfa)<;>(exact rfl))|fail) ?_)
  refine SG.setMid [.slice a n c, .int .i64 (p : Int)] [.int .i64 e] [] rfl rfl (by exact rho_of rfl) (by exact rho_of rfl) (hB2.kp0 hk2) rfl rfl rfl rfl rfl (fun w3 hk3 hB2 => ?_)
  have hB2 : Blk w3 b2 (.cells (rdc (.slice a n c) p z).toArray 146) := hB2
  have r2 := rdc_all hB2
  repeat (first|apply cA|apply cB|apply cD|apply cE|refine cV rfl rfl rfl rfl (by first|(apply qla<;>(first|exact rfl|assumption|exact List.not_mem_nil))|fail) ?_)
  refine SG.setAll (l := rdc (.slice a n c) p z) rfl rfl (by exact rho_of rfl) (by exact rho_of rfl) (hB4.kp hk3 (nm1 (by omega))) rfl rfl rfl (fun w4 hk4 hB4 => ?_)
  have hr : Row w4 b4 0 (rdc (.slice a n c) p z) := Row.all hB4 rfl
  repeat (first|apply cD|apply cE|apply cH)
  refine ret1 (Or.inl rfl) Tryz.results109 (ResV.agg rfl rfl hr (rdc_length _ _ _)) ?_
  exact ⟨rfl, ((hk1.trans hk2).trans_new hk3 (new1 hb2)).trans_new hk4 (new1 (by have := hk1.size; omega))⟩
set_option maxHeartbeats 16000000 in
theorem rread_spec {w : World} {a : Option Addr} {c p : Nat} {e : Int} {l : List UInt8} (hS : Bs w a c l) (hl : l.length ≤ 1000000000) (hp : p ≤ l.length) (most : Nat) :
    Ret Tryz.prog 93 #[.agg (rdc (.slice a l.length c) p e).toArray, .int .u64 (most : Int)] w (.tuple #[.agg (rdc (.slice a l.length c) (rdP l p e most) (rdS l p e most)).toArray, .int .u64 (rdV l p e most : Int)]) := by
  refine enter2 Tryz.func93 rfl Tryz.ntmps93 rfl ?_
  repeat (first|apply cA|apply cB)
  refine SG.box rfl rfl rfl (by exact rho_of rfl) (fun b2 w1 hk1 hb2 hB2 => ?_)
  have hB2 : Blk w1 b2 (.cells (rdc (.slice a l.length c) p e).toArray 146) := hB2
  have l2 := hB2.lt
  refine SG.alloc rfl rfl rfl (fun b4 w2 hk2 hb4 hB4 => ?_)
  have hB4 : Blk w2 b4 (.cells (rdc (.slice none 0 0) 0 0).toArray 146) := hB4
  have hB2 := hB2.kp0 hk2
  have l4 := hB4.lt
  have s1 := hk1.size
  have k2 := hk1.trans hk2
  obtain ⟨r0, r1, r2⟩ := rdc_rows hB2
  have r := rdc_all hB2
  by_cases he : e = 0
  rotate_left
  · have e1 : rdP l p e most = p := by unfold rdP; rw [if_neg (fun h => he h.1)]
    have e2 : rdS l p e most = e := by unfold rdS; rw [if_neg he]
    have e3 : ((rdV l p e most : Nat) : Int) = 0 := by unfold rdV; rw [if_neg (fun h => he h.1)]; rfl
    rw [e1, e2, e3]
    repeat (first|apply cA|apply cB|apply cD|apply cE|refine cV rfl rfl rfl rfl (by first|((first|apply qas|apply qlc|apply qfa|apply qni)<;>(first|exact rfl|assumption|exact dcf (by first|assumption|omega)|exact List.not_mem_nil|fail))|fail) ?_)
    refine cZ rfl (by exact rho_of rfl) rfl ?_
    repeat (first|apply cA|apply cB|refine cV rfl rfl rfl rfl (by first|(apply qla<;>(first|exact rfl|assumption|exact List.not_mem_nil))|fail) ?_)
    refine SG.setAll (l := rdc (.slice a l.length c) p e) rfl rfl (by exact rho_of rfl) (by exact rho_of rfl) hB4 rfl rfl rfl (fun w4 hk4 hB4 => ?_)
    have hr : Row w4 b4 0 (rdc (.slice a l.length c) p e) := Row.all hB4 rfl
    repeat (first|apply cD|apply cE|apply cH|apply cK|refine cV rfl rfl rfl rfl (by first|(apply qas<;>(exact rfl))|fail) ?_)
    refine ret2 (Or.inl rfl) Tryz.results93 (ResV.agg rfl rfl hr (rdc_length _ _ _)) (by first | exact ResV.tmp rfl | exact ResV.agg rfl rfl (by assumption) (by first | exact dc_length _ | exact nc_length _ | exact rc_length _ _ _ | exact ec_length _ | exact dl_length _ _ _ _ | rfl) | exact ResV.cell rfl rfl (by assumption)) ?_
    exact ⟨rfl, k2.trans_new hk4 (new1 (by omega))⟩
  subst he
  clear r
  have h00 : (0 : Int) = 0 := rfl
  obtain ⟨a', hS', hb', hv⟩ := bs_drop (hS.kp0 k2) hp
  have hn := rnumber_spec hS' (by rw [List.length_drop]; omega)
  unfold rnV at hn
  repeat (first|apply cA|apply cB|apply cD|apply cE|refine cV rfl rfl rfl rfl (by first|((first|apply qas|apply qlc|apply qfa|apply qni)<;>(first|exact rfl|assumption|exact dct (by first|assumption|omega)|exact List.not_mem_nil|fail))|fail) ?_)
  refine dA rfl (by exact rho_of rfl) rfl ?_
  repeat (first|apply cA|apply cB|apply cE|apply cF|refine cV rfl rfl rfl rfl (by first|((first|apply qlc|apply qfa)<;>(first|exact rfl|assumption|exact List.not_mem_nil))|fail) ?_)
  refine cV rfl rfl rfl rfl (hv rfl rfl) ?_
  have hdl : (l.drop p).length = l.length - p := List.length_drop
  generalize hm : l.drop p = m at hn hS' hdl
  by_cases hz : lookE m = 0
  rotate_left
  · have e1 : rdP l p 0 most = p := by unfold rdP; rw [if_neg]; rintro ⟨-, h⟩; rw [hm] at h; exact hz (rdE_look h).1
    have e2 : rdS l p 0 most = lookE m := by unfold rdS rdE; rw [if_pos rfl, hm, if_pos hz]
    have e3 : ((rdV l p 0 most : Nat) : Int) = 0 := by unfold rdV; rw [if_neg]; rfl; rintro ⟨-, h⟩; rw [hm] at h; exact hz (rdE_look h).1
    rw [e1, e2, e3]
    rw [if_neg hz, if_neg hz] at hn
    generalize lookE m = z at hn hz
    skip
    refine SG.ret rfl rfl rfl (vs := [.slice a' m.length (c - p)]) (by repeat' (first | exact True.intro | exact rho_of rfl | refine And.intro ?_ ?_)) hn (fun w3 hk3 => ?_)
    have hB2 := hB2.kp0 hk3
    have hB4 := hB4.kp0 hk3
    clear r0 r1 r2
    have r := rdc_all hB2
    repeat (first | first|apply cA|apply cB|apply cD|apply cE|refine cV rfl rfl rfl rfl (by first|((first|apply qmv|apply qas|apply qpk|apply qei|apply qxt)<;>(first|exact rfl|exact dcf (by first|assumption|omega)|fail))|fail) ?_ | refine cX rfl rfl ?_)
    refine dA rfl (by exact rho_of rfl) rfl ?_
    repeat (first|apply cA|apply cB|apply cD|apply cE|apply cF|refine cV rfl rfl rfl rfl (by first|((first|apply qmv|apply qni)<;>(first|exact rfl|exact dcf (by first|assumption|omega)|fail))|fail) ?_)
    refine cZ rfl (by exact rho_of rfl) rfl ?_
    repeat (first|apply cA|apply cB|refine cV rfl rfl rfl rfl (by first|((first|apply qmv|apply qla)<;>(first|exact rfl|assumption|exact List.not_mem_nil))|fail) ?_)
    refine SG.ret rfl rfl rfl (vs := [.agg (rdc (.slice a l.length c) p 0).toArray, .int .i64 z]) (by repeat' (first | exact True.intro | exact rho_of rfl | refine And.intro ?_ ?_)) (rfail_spec a l.length c p 0 z) (fun w4 hk4 => ?_)
    refine SG.setAll (l := rdc (.slice a l.length c) p z) rfl rfl (by exact rho_of rfl) (by exact rho_of rfl) (hB4.kp0 hk4) rfl rfl rfl (fun w5 hk5 hB4 => ?_)
    have hr : Row w5 b4 0 (rdc (.slice a l.length c) p z) := Row.all hB4 rfl
    repeat (first|apply cD|apply cE|apply cH|apply cK|refine cV rfl rfl rfl rfl (by first|(apply qas<;>(exact rfl))|fail) ?_)
    refine ret2 (Or.inl rfl) Tryz.results93 (ResV.agg rfl rfl hr (rdc_length _ _ _)) (by first | exact ResV.tmp rfl | exact ResV.agg rfl rfl (by assumption) (by first | exact dc_length _ | exact nc_length _ | exact rc_length _ _ _ | exact ec_length _ | exact dl_length _ _ _ _ | rfl) | exact ResV.cell rfl rfl (by assumption)) ?_
    exact ⟨rfl, ((k2.trans hk3).trans hk4).trans_new hk5 (new1 (by omega))⟩
  rw [if_pos hz, if_pos hz, hz] at hn
  by_cases hb : most < lookN m
  · have e1 : rdP l p 0 most = p := by unfold rdP; rw [if_neg]; rintro ⟨-, h⟩; rw [hm] at h; have := (rdE_look h).2; omega
    have e2 : rdS l p 0 most = 2 := by unfold rdS rdE; rw [if_pos rfl, hm, if_neg (fun h => h hz), if_pos hb]
    have e3 : ((rdV l p 0 most : Nat) : Int) = 0 := by unfold rdV; rw [if_neg]; rfl; rintro ⟨-, h⟩; rw [hm] at h; have := (rdE_look h).2; omega
    rw [e1, e2, e3]
    have gb : (most : Int) < (lookN m : Int) := by omega
    generalize lookN m = n at hn hb gb
    generalize lookK m = kk at hn
    skip
    refine SG.ret rfl rfl rfl (vs := [.slice a' m.length (c - p)]) (by repeat' (first | exact True.intro | exact rho_of rfl | refine And.intro ?_ ?_)) hn (fun w3 hk3 => ?_)
    have hB2 := hB2.kp0 hk3
    have hB4 := hB4.kp0 hk3
    clear r0 r1 r2
    have r := rdc_all hB2
    repeat (first|apply cA|apply cB|apply cD|apply cE|refine cV rfl rfl rfl rfl (by first|((first|apply qmv|apply qas|apply qpk|apply qei|apply qgt|apply qxt)<;>(first|exact rfl|exact dct (by first|assumption|omega)|fail))|fail) ?_)
    refine cZ rfl (by exact rho_of rfl) rfl ?_
    repeat (first|apply cA|apply cB|apply cD|apply cE|refine cV rfl rfl rfl rfl (by first|((first|apply qmv|apply qas|apply qni)<;>(first|exact rfl|exact dcf (by first|assumption|omega)|fail))|fail) ?_)
    refine cZ rfl (by exact rho_of rfl) rfl ?_
    repeat (first|apply cA|apply cB|refine cV rfl rfl rfl rfl (by first|((first|apply qmv|apply qla)<;>(first|exact rfl|assumption|exact List.not_mem_nil))|fail) ?_)
    refine SG.ret rfl rfl rfl (vs := [.agg (rdc (.slice a l.length c) p 0).toArray, .int .i64 2]) (by repeat' (first | exact True.intro | exact rho_of rfl | refine And.intro ?_ ?_)) (rfail_spec a l.length c p 0 2) (fun w4 hk4 => ?_)
    refine SG.setAll (l := rdc (.slice a l.length c) p 2) rfl rfl (by exact rho_of rfl) (by exact rho_of rfl) (hB4.kp0 hk4) rfl rfl rfl (fun w5 hk5 hB4 => ?_)
    have hr : Row w5 b4 0 (rdc (.slice a l.length c) p 2) := Row.all hB4 rfl
    repeat (first|apply cD|apply cE|apply cH|apply cK|refine cV rfl rfl rfl rfl (by first|(apply qas<;>(exact rfl))|fail) ?_)
    refine ret2 (Or.inl rfl) Tryz.results93 (ResV.agg rfl rfl hr (rdc_length _ _ _)) (by first | exact ResV.tmp rfl | exact ResV.agg rfl rfl (by assumption) (by first | exact dc_length _ | exact nc_length _ | exact rc_length _ _ _ | exact ec_length _ | exact dl_length _ _ _ _ | rfl) | exact ResV.cell rfl rfl (by assumption)) ?_
    exact ⟨rfl, ((k2.trans hk3).trans hk4).trans_new hk5 (new1 (by omega))⟩
  · have hrd : rdE m most = 0 := by unfold rdE; rw [if_neg (fun h => h hz), if_neg hb]
    have e1 : rdP l p 0 most = p + lookK m := by unfold rdP; rw [hm, if_pos ⟨rfl, hrd⟩]
    have e2 : rdS l p 0 most = 0 := by unfold rdS; rw [if_pos rfl, hm, hrd]
    have e3 : rdV l p 0 most = lookN m := by unfold rdV; rw [hm, if_pos ⟨rfl, hrd⟩]
    have hkl := lookK_le hz
    rw [e1, e2, e3]
    have gb : ¬ (most : Int) < (lookN m : Int) := by omega
    generalize lookN m = n at hn hb gb
    generalize lookK m = kk at hn hkl
    have e4 : (p : Int) + (kk : Int) = ((p + kk : Nat) : Int) := by omega
    skip
    refine SG.ret rfl rfl rfl (vs := [.slice a' m.length (c - p)]) (by repeat' (first | exact True.intro | exact rho_of rfl | refine And.intro ?_ ?_)) hn (fun w3 hk3 => ?_)
    have hB2 := hB2.kp0 hk3
    have hB4 := hB4.kp0 hk3
    have r1 := r1.kp0 hk3
    clear r0 r2
    repeat (first|apply cA|apply cB|apply cD|apply cE|refine cV rfl rfl rfl rfl (by first|((first|apply qmv|apply qas|apply qpk|apply qei|apply qgt|apply qxt)<;>(first|exact rfl|exact dct (by first|assumption|omega)|exact dcf (by first|assumption|omega)|fail))|fail) ?_)
    refine dA rfl (by exact rho_of rfl) rfl ?_
    repeat (first|apply cA|apply cB|apply cD|apply cE|apply cF|refine cV rfl rfl rfl rfl (by first|((first|apply qmv|apply qni)<;>(first|exact rfl|exact dct (by first|assumption|omega)|fail))|fail) ?_)
    refine dA rfl (by exact rho_of rfl) rfl ?_
    repeat (first|apply cA|apply cB|apply cE|apply cF|refine cV rfl rfl rfl rfl (by first|((first|apply qmv|apply qlc|apply qfa|apply qad)<;>(first|exact rfl|exact Ar.mk (by omega)|assumption|exact List.not_mem_nil|fail))|fail) ?_)
    rw [e4]
    refine SG.setMid [.slice a l.length c] [.int .i64 (p : Int)] [.int .i64 0] rfl rfl (by exact rho_of rfl) (by exact rho_of rfl) hB2 rfl rfl rfl rfl rfl (fun w4 hk4 hB2 => ?_)
    have hB2 : Blk w4 b2 (.cells (rdc (.slice a l.length c) (p + kk) 0).toArray 146) := hB2
    clear r1
    have r := rdc_all hB2
    repeat (first|apply cA|apply cB|apply cD|apply cE|refine cV rfl rfl rfl rfl (by first|((first|apply qmv|apply qla)<;>(first|exact rfl|assumption|exact List.not_mem_nil))|fail) ?_)
    refine SG.setAll (l := rdc (.slice a l.length c) (p + kk) 0) rfl rfl (by exact rho_of rfl) (by exact rho_of rfl) (hB4.kp hk4 (nm1 (by omega))) rfl rfl rfl (fun w5 hk5 hB4 => ?_)
    have hr : Row w5 b4 0 (rdc (.slice a l.length c) (p + kk) 0) := Row.all hB4 rfl
    repeat (first|apply cD|apply cE|apply cH|refine cV rfl rfl rfl rfl (by first|(apply qas<;>(exact rfl))|fail) ?_)
    refine ret2 (Or.inl rfl) Tryz.results93 (ResV.agg rfl rfl hr (rdc_length _ _ _)) (by first | exact ResV.tmp rfl | exact ResV.agg rfl rfl (by assumption) (by first | exact dc_length _ | exact nc_length _ | exact rc_length _ _ _ | exact ec_length _ | exact dl_length _ _ _ _ | rfl) | exact ResV.cell rfl rfl (by assumption)) ?_
    exact ⟨rfl, ((k2.trans hk3).trans_new hk4 (new1 hb2)).trans_new hk5 (new1 (by omega))⟩
set_option maxHeartbeats 16000000 in
theorem rpaid_spec {w : World} {n0 : Nat} {x : Tm} (hx : x.In n0 w) (hk0 : x.t.kind = 0) :
    Calls Tryz.prog 74 #[txv x] w (fun e' w' => ∃ (d : Dg) (n : Int), e' = .returned (.tuple #[dv d, .int .i64 n, .int .i64 (paidZ x.t.body)]) ∧ Kp [] w w') := by
  refine enter1 Tryz.func74 rfl Tryz.ntmps74 rfl ?_
  repeat (first|apply cA|apply cB)
  refine SG.box rfl rfl rfl (by exact rho_of rfl) (fun b1 w1 hk1 hb1 hB1 => ?_)
  refine SG.alloc rfl rfl rfl (fun b2 w2 hk2 hb2 hB2 => ?_)
  have hB1 : Blk w2 b1 (.cells (txc x).toArray 36) := hB1.kp0 hk2
  have hB2 : Blk w2 b2 (.cells (dc zd).toArray 24) := hB2
  obtain ⟨-, -, -, -, r3, r4, -⟩ := txc_rows hB1
  have k2 := hk1.trans hk2
  rw [hk0] at r3
  have h00 : (0 : Int) = 0 := rfl
  have hl := hx.l1
  have l2 := hB2.lt
  have g2 : w.heap.size ≤ b2 := by have := hk1.size; omega
  repeat (first|apply cA|apply cB|apply cD|apply cE|refine cV rfl rfl rfl rfl (by first|((first|apply qas|apply qlc|apply qfa|apply qni)<;>(first|exact rfl|assumption|exact dct (by first|assumption|omega)|exact List.not_mem_nil|fail))|fail) ?_)
  refine dA rfl (by exact rho_of rfl) rfl ?_
  repeat (first|apply cA|apply cB|apply cE|apply cF|refine cV rfl rfl rfl rfl (by first|((first|apply qlc|apply qfa)<;>(first|exact rfl|assumption|exact List.not_mem_nil))|fail) ?_)
  refine cV rfl rfl rfl rfl (vals_build rfl (brd2 x.a1 x.t.body.length x.c1)) ?_
  refine SG.alloc rfl rfl rfl (fun b5 w3 hk3 hb5 hB5 => ?_)
  refine SG.setAll (l := rdc x.b 0 0) rfl rfl (by exact rho_of rfl) (by exact rho_of rfl) hB5 rfl rfl rfl (fun w4 hk4 hB5 => ?_)
  have hB5 : Blk w4 b5 (.cells (rdc x.b 0 0).toArray 146) := hB5
  have k24 : Kp [] w2 w4 := hk3.trans_new hk4 (new1 (by omega))
  have k4 := k2.trans k24
  have hB2 := hB2.kp0 k24
  clear r3 r4
  have r5 := rdc_all hB5
  have hb4 := hx.b.kp0 k4
  repeat (first|apply cA|apply cB|apply cD|apply cE|refine cV rfl rfl rfl rfl (by first|(apply qla<;>(first|exact rfl|assumption|exact List.not_mem_nil))|fail) ?_)
  refine SG.ret rfl rfl rfl (vs := [.agg (rdc x.b 0 0).toArray, .int .u64 ((18446744073709551615 : Nat) : Int)]) (by repeat' (first | exact True.intro | exact rho_of rfl | refine And.intro ?_ ?_)) (rread_spec hb4 (by omega) (Nat.zero_le _) 18446744073709551615) (fun w5 hk5 => ?_)
  generalize h1 : rdS x.t.body 0 0 18446744073709551615 = e1
  generalize h2 : rdP x.t.body 0 0 18446744073709551615 = p1
  have hv1 : Ar (rdV x.t.body 0 0 18446744073709551615 < 18446744073709551616) := ⟨rdV_lt _ _ _ _⟩
  generalize rdV x.t.body 0 0 18446744073709551615 = v1 at hv1
  have hp1 : p1 ≤ x.t.body.length := by rw [← h2]; exact rdP_le' (Nat.zero_le _)
  have s4 := k4.size
  clear r5
  repeat (first|refine cV rfl rfl rfl rfl (by first|((first|apply qmv|apply qxt)<;>(exact rfl))|fail) ?_)
  refine SG.setAll (l := rdc x.b p1 e1) rfl rfl (by exact rho_of rfl) (by exact rho_of rfl) (hB5.kp0 hk5) rfl rfl rfl (fun w6 hk6 hB5 => ?_)
  have hB5 : Blk w6 b5 (.cells (rdc x.b p1 e1).toArray 146) := hB5
  have l5 := hB5.lt
  have s24 := k24.size
  have s5 := hk5.size
  have hbl := hx.b.lt
  have hb6 := (hb4.kp0 hk5).kpn hk6 (fun hn b off e => nm1 (by have := hbl hn b off e; omega))
  have hB2 := (hB2.kp0 hk5).kp hk6 (nm1 (by omega))
  have k6 : Kp [] w w6 := (k4.trans hk5).trans_new hk6 (new1 (by omega))
  have r5 := rdc_all hB5
  repeat (first|apply cA|apply cB|apply cD|apply cE|refine cV rfl rfl rfl rfl (by first|((first|apply qas|apply qla)<;>(first|exact rfl|assumption|exact List.not_mem_nil))|fail) ?_)
  refine SG.ret rfl rfl rfl (vs := [.agg (rdc x.b p1 e1).toArray, .int .u64 ((18446744073709551615 : Nat) : Int)]) (by repeat' (first | exact True.intro | exact rho_of rfl | refine And.intro ?_ ?_)) (rread_spec hb6 (by omega) hp1 18446744073709551615) (fun w7 hk7 => ?_)
  generalize h3 : rdS x.t.body p1 e1 18446744073709551615 = e2
  generalize h4 : rdP x.t.body p1 e1 18446744073709551615 = p2
  generalize h5 : rdV x.t.body p1 e1 18446744073709551615 = v2
  have hq := paid_eq2 x.t.body e1 e2 p1 p2 v2 h1 h2 h3 h4 h5
  clear r5
  repeat (first|refine cV rfl rfl rfl rfl (by first|((first|apply qmv|apply qxt)<;>(exact rfl))|fail) ?_)
  refine SG.setAll (l := rdc x.b p2 e2) rfl rfl (by exact rho_of rfl) (by exact rho_of rfl) (hB5.kp0 hk7) rfl rfl rfl (fun w8 hk8 hB5 => ?_)
  have hB5 : Blk w8 b5 (.cells (rdc x.b p2 e2).toArray 146) := hB5
  have s7 := hk7.size
  have hB2 := (hB2.kp0 hk7).kp hk8 (nm1 (by omega))
  have k8 : Kp [] w w8 := (k6.trans hk7).trans_new hk8 (new1 (by omega))
  obtain ⟨q0, q1, q2⟩ := rdc_rows hB5
  have l28 := hB2.lt
  rw [← hq]
  by_cases he2 : e2 = 0
  rotate_left
  · rw [if_pos he2]
    repeat (first|apply cA|apply cB|apply cD|apply cE|refine cV rfl rfl rfl rfl (by first|((first|apply qas|apply qlc|apply qfa|apply qni)<;>(first|exact rfl|assumption|exact dcf (by first|assumption|omega)|exact List.not_mem_nil|fail))|fail) ?_)
    refine cZ rfl (by exact rho_of rfl) rfl ?_
    repeat (first|apply cA)
    refine CG.tailg mixed 5 [0, 1, 2, 3, 4] [3] [b2] (fun W => Blk W b2 (.cells (dc zd).toArray 24)) (by kernel_rfl) hB2 (fun w w' hk h => h.kp0 hk) ?_
    refine cY rfl rfl rfl (vals_build rfl bz82) ?_
    repeat (refine cY rfl rfl rfl (by first|((first|apply qlc|apply qfa)<;>(first|exact rfl|assumption|exact nm1 (by omega)|fail))|fail) ?_)
    refine Der.storeAll (old := dc zd) (v := dv zd) (b := b2) (T' := 24) rfl rfl rfl rfl (by exact rho_of rfl) (by exact rho_of rfl) (by exact dc_length zd) (by exact dc_length zd) (by exact dc_one zd) (by simp) (fun w w' hk h => trivial) ?_
    repeat (refine cY rfl rfl rfl (by first|(apply qas<;>(exact rfl))|fail) ?_)
    refine Der.tl (fun w9 hk9 _ hB9 => ?_)
    have hr : Row w9 b2 0 (dc zd) := Row.all hB9 rfl
    repeat (first|apply cD|apply cE|apply cH|apply cK|refine cV rfl rfl rfl rfl (by first|(apply qas<;>(exact rfl))|fail) ?_)
    refine ret3 (Or.inl rfl) Tryz.results74 (ResV.agg rfl rfl hr (dc_length _)) (by first | exact ResV.tmp rfl | exact ResV.agg rfl rfl (by assumption) (by first | exact dc_length _ | exact nc_length _ | exact rc_length _ _ _ | exact ec_length _ | exact dl_length _ _ _ _ | rfl) | exact ResV.cell rfl rfl (by assumption)) (by first | exact ResV.tmp rfl | exact ResV.agg rfl rfl (by assumption) (by first | exact dc_length _ | exact nc_length _ | exact rc_length _ _ _ | exact ec_length _ | exact dl_length _ _ _ _ | rfl) | exact ResV.cell rfl rfl (by assumption)) ?_
    exact ⟨_, _, rfl, k8.trans_new hk9 (new1 g2)⟩
  subst he2
  rw [if_neg (fun h => h rfl)]
  repeat (first|apply cA|apply cB|apply cD|apply cE|refine cV rfl rfl rfl rfl (by first|((first|apply qas|apply qlc|apply qfa|apply qni)<;>(first|exact rfl|assumption|exact dct (by first|assumption|omega)|exact List.not_mem_nil|fail))|fail) ?_)
  refine dA rfl (by exact rho_of rfl) rfl ?_
  by_cases hbig : 1125899906842624 < v2
  · rw [if_pos hbig]
    have gb : (1125899906842624 : Int) < (v2 : Int) := by omega
    repeat (first|apply cA|apply cB|apply cD|apply cE|apply cF|refine cV rfl rfl rfl rfl (by first|((first|apply qmv|apply qgt)<;>(first|exact rfl|exact dct (by first|assumption|omega)|fail))|fail) ?_)
    refine cZ rfl (by exact rho_of rfl) rfl ?_
    repeat (first|apply cA|apply cB)
    refine cV rfl rfl rfl rfl (vals_build rfl bz82) ?_
    refine SG.setAll (l := dc zd) rfl rfl (by exact rho_of rfl) (by exact rho_of rfl) hB2 (dc_length _) rfl (dc_one _) (fun w10 hk10 hB2 => ?_)
    have hr : Row w10 b2 0 (dc zd) := Row.all hB2 rfl
    repeat (first|apply cD|apply cE|apply cH|apply cK|refine cV rfl rfl rfl rfl (by first|(apply qas<;>(exact rfl))|fail) ?_)
    refine ret3 (Or.inl rfl) Tryz.results74 (ResV.agg rfl rfl hr (dc_length _)) (by first | exact ResV.tmp rfl | exact ResV.agg rfl rfl (by assumption) (by first | exact dc_length _ | exact nc_length _ | exact rc_length _ _ _ | exact ec_length _ | exact dl_length _ _ _ _ | rfl) | exact ResV.cell rfl rfl (by assumption)) (by first | exact ResV.tmp rfl | exact ResV.agg rfl rfl (by assumption) (by first | exact dc_length _ | exact nc_length _ | exact rc_length _ _ _ | exact ec_length _ | exact dl_length _ _ _ _ | rfl) | exact ResV.cell rfl rfl (by assumption)) ?_
    exact ⟨_, _, rfl, k8.trans_new hk10 (new1 g2)⟩
  rw [if_neg hbig]
  have gb : ¬ (1125899906842624 : Int) < (v2 : Int) := by omega
  by_cases hlong : p2 < x.t.body.length
  · rw [if_pos hlong]
    have gl : (p2 : Int) < (x.t.body.length : Int) := by omega
    repeat (first|apply cA|apply cB|apply cD|apply cE|apply cF|refine cV rfl rfl rfl rfl (by first|((first|apply qmv|apply qgt)<;>(first|exact rfl|exact dcf (by first|assumption|omega)|fail))|fail) ?_)
    refine dA rfl (by exact rho_of rfl) rfl ?_
    repeat (first|apply cA|apply cB|apply cD|apply cE|apply cF|refine cV rfl rfl rfl rfl (by first|((first|apply qlc|apply qfa|apply qls|apply qln)<;>(first|exact rfl|assumption|exact dct (by first|assumption|omega)|exact List.not_mem_nil|fail))|fail) ?_)
    refine cZ rfl (by exact rho_of rfl) rfl ?_
    repeat (first|apply cA|apply cB)
    refine cV rfl rfl rfl rfl (vals_build rfl bz82) ?_
    refine SG.setAll (l := dc zd) rfl rfl (by exact rho_of rfl) (by exact rho_of rfl) hB2 (dc_length _) rfl (dc_one _) (fun w10 hk10 hB2 => ?_)
    have hr : Row w10 b2 0 (dc zd) := Row.all hB2 rfl
    repeat (first|apply cD|apply cE|apply cH|apply cK|refine cV rfl rfl rfl rfl (by first|(apply qas<;>(exact rfl))|fail) ?_)
    refine ret3 (Or.inl rfl) Tryz.results74 (ResV.agg rfl rfl hr (dc_length _)) (by first | exact ResV.tmp rfl | exact ResV.agg rfl rfl (by assumption) (by first | exact dc_length _ | exact nc_length _ | exact rc_length _ _ _ | exact ec_length _ | exact dl_length _ _ _ _ | rfl) | exact ResV.cell rfl rfl (by assumption)) (by first | exact ResV.tmp rfl | exact ResV.agg rfl rfl (by assumption) (by first | exact dc_length _ | exact nc_length _ | exact rc_length _ _ _ | exact ec_length _ | exact dl_length _ _ _ _ | rfl) | exact ResV.cell rfl rfl (by assumption)) ?_
    exact ⟨_, _, rfl, k8.trans_new hk10 (new1 g2)⟩
  rw [if_neg hlong]
  have gl : ¬ (p2 : Int) < (x.t.body.length : Int) := by omega
  repeat (first|apply cA|apply cB|apply cD|apply cE|apply cF|refine cV rfl rfl rfl rfl (by first|((first|apply qmv|apply qgt)<;>(first|exact rfl|exact dcf (by first|assumption|omega)|fail))|fail) ?_)
  refine dA rfl (by exact rho_of rfl) rfl ?_
  repeat (first|apply cA|apply cB|apply cD|apply cE|apply cF|refine cV rfl rfl rfl rfl (by first|((first|apply qlc|apply qfa|apply qls|apply qln)<;>(first|exact rfl|assumption|exact dcf (by first|assumption|omega)|exact List.not_mem_nil|fail))|fail) ?_)
  refine dA rfl (by exact rho_of rfl) rfl ?_
  repeat (first|apply cA|apply cB|apply cE|apply cF|refine cV rfl rfl rfl rfl (by first|(apply qmv<;>(exact rfl))|fail) ?_)
  refine SG.ret rfl rfl rfl (vs := [.int .u64 (v1 : Int)]) (by repeat' (first | exact True.intro | exact rho_of rfl | refine And.intro ?_ ?_)) (rfrom_spec v1 hv1.h w8) (fun w9 hk9 => ?_)
  repeat (first|refine cV rfl rfl rfl rfl (by first|((first|apply qmv|apply qcv)<;>(exact rfl))|fail) ?_)
  refine SG.setAll (l := dc (frm v1)) rfl rfl (by exact rho_of rfl) (by exact rho_of rfl) (hB2.kp0 hk9) (dc_length _) rfl (dc_one _) (fun w10 hk10 hB2 => ?_)
  have hr : Row w10 b2 0 (dc (frm v1)) := Row.all hB2 rfl
  repeat (first|apply cD|apply cE|apply cH|refine cV rfl rfl rfl rfl (by first|(apply qas<;>(exact rfl))|fail) ?_)
  refine ret3 (Or.inl rfl) Tryz.results74 (ResV.agg rfl rfl hr (dc_length _)) (by first | exact ResV.tmp rfl | exact ResV.agg rfl rfl (by assumption) (by first | exact dc_length _ | exact nc_length _ | exact rc_length _ _ _ | exact ec_length _ | exact dl_length _ _ _ _ | rfl) | exact ResV.cell rfl rfl (by assumption)) (by first | exact ResV.tmp rfl | exact ResV.agg rfl rfl (by assumption) (by first | exact dc_length _ | exact nc_length _ | exact rc_length _ _ _ | exact ec_length _ | exact dl_length _ _ _ _ | rfl) | exact ResV.cell rfl rfl (by assumption)) ?_
  exact ⟨_, _, rfl, (k8.trans hk9).trans_new hk10 (new1 g2)⟩
end Go.Proofs.YtgbgnlboogalgaaGreat
namespace Go.Proofs.YtgbgnlboogalgaaGreat
open Go.Proofs
set_option linter.unusedVariables false
attribute [local irreducible] CG NG SG Vals Der Row Blk MapIs IterAt paidZ DerX wrongT
set_option maxHeartbeats 16000000 in
theorem rbsame_spec {w : World} {a b : Option Addr} {l m : List UInt8} (c d : Nat) (h : Sl by1 1 w a l) (h' : Sl by1 1 w b m) (hl : l.length ≤ 1000000000) : Ret Tryz.prog 58 #[.slice a l.length c, .slice b m.length d] w (.bool (decide (l = m))) := by
  refine enter2 Tryz.func58 rfl Tryz.ntmps58 rfl ?_
  by_cases hlen : (l.length : Int) = (m.length : Int)
  case neg =>
    rw [decide_eq_false (fun e => hlen (by rw [e]))]
    repeat (first|apply cA|apply cB|apply cD|apply cE|refine cV rfl rfl rfl rfl (by first|((first|apply qmv|apply qas|apply qni|apply qln)<;>(first|exact rfl|exact dcf (by first|assumption|omega)|fail))|fail) ?_)
    refine cZ rfl (by exact rho_of rfl) rfl ?_
    repeat (first|apply cA|apply cB|apply cD|apply cE|apply cH|apply cK|refine cV rfl rfl rfl rfl (by first|(apply qas<;>(exact rfl))|fail) ?_)
    refine ret1 (Or.inl rfl) Tryz.results58 (by first | exact ResV.tmp rfl | exact ResV.agg rfl rfl (by assumption) (by first | exact dc_length _ | exact nc_length _ | exact rc_length _ _ _ | exact ec_length _ | exact dl_length _ _ _ _ | rfl) | exact ResV.cell rfl rfl (by assumption)) ?_
    exact ⟨rfl, Kp.refl _ _⟩
  have hlm : l.length = m.length := by omega
  repeat (first|apply cA|apply cB|apply cD|apply cE|refine cV rfl rfl rfl rfl (by first|((first|apply qmv|apply qas|apply qni|apply qln)<;>(first|exact rfl|exact dct (by first|assumption|omega)|fail))|fail) ?_)
  refine dA rfl (by exact rho_of rfl) rfl ?_
  repeat (first|apply cA|apply cB|apply cD|apply cE|apply cF|apply cG|refine cV rfl rfl rfl rfl (by first|(apply qas<;>(exact rfl))|fail) ?_)
  refine CG.loop (X := Nat) (fun x => [(0, .slice a l.length c), (1, .slice b m.length d), (5, .int .i64 (x : Int))])
    (fun x w' => x ≤ l.length ∧ Kp [] w w' ∧ ∀ j (hj : j < l.length) (hj' : j < m.length), j < x → l[j] = m[j]) (fun x => l.length - x) 0 ⟨Nat.zero_le _, Kp.refl _ _, fun j hj hj' h0 => absurd h0 (Nat.not_lt_zero _)⟩ (by (repeat' (first | exact True.intro | exact rfl | refine And.intro ?_ ?_))) ?_
  rintro i w1 ⟨hi, hk1, hall⟩
  refine CG.to [(0, .slice a l.length c), (1, .slice b m.length d), (5, .int .i64 (i : Int))] (by (repeat' (first | exact True.intro | exact rfl | refine And.intro ?_ ?_))) ?_
  by_cases hlt : i < l.length
  rotate_left
  · have g1 : ¬ (i : Int) < (l.length : Int) := by omega
    have e : l = m := List.ext_getElem hlm (fun j hj hj' => hall j hj hj' (by omega))
    rw [decide_eq_true e]
    repeat (first|apply cA|apply cB|apply cD|apply cE|refine cV rfl rfl rfl rfl (by first|((first|apply qmv|apply qls|apply qln)<;>(first|exact rfl|exact dcf (by first|assumption|omega)|fail))|fail) ?_)
    refine dA rfl (by exact rho_of rfl) rfl ?_
    repeat (first|apply cA|apply cB|apply cD|apply cE|apply cH|apply cJ|apply cM|refine cQ rfl ?_|refine cV rfl rfl rfl rfl (by first|(apply qas<;>(exact rfl))|fail) ?_)
    refine ret1 (Or.inl rfl) Tryz.results58 (by first | exact ResV.tmp rfl | exact ResV.agg rfl rfl (by assumption) (by first | exact dc_length _ | exact nc_length _ | exact rc_length _ _ _ | exact ec_length _ | exact dl_length _ _ _ _ | rfl) | exact ResV.cell rfl rfl (by assumption)) ?_
    exact ⟨rfl, hk1⟩
  have g1 : (i : Int) < (l.length : Int) := by omega
  have g2 : (i : Int) < (m.length : Int) := by omega
  have hlt' : i < m.length := by omega
  obtain ⟨b1, o1, rfl, hr1⟩ := (h.kp0 hk1).at hlt
  obtain ⟨b2, o2, rfl, hr2⟩ := (h'.kp0 hk1).at hlt'
  repeat (first|apply cA|apply cB|apply cD|apply cE|refine cV rfl rfl rfl rfl (by first|((first|apply qmv|apply qls|apply qln)<;>(first|exact rfl|exact dct (by first|assumption|omega)|fail))|fail) ?_)
  refine cZ rfl (by exact rho_of rfl) rfl ?_
  by_cases hh : l[i] = m[i]
  · have g3 : (l[i].toNat : Int) = (m[i].toNat : Int) := by rw [hh]
    repeat (first|apply cA|apply cE|apply cF|apply cG)
    refine CG.tail mixed 8 [0, 1, 2, 3, 4, 5, 6, 7] (by kernel_rfl) ?_
    repeat (refine cY rfl rfl rfl (by first|((first|apply qmv|apply qlc|apply qix)<;>(first|exact rfl|exact Ar.mk (by omega)|assumption|exact List.not_mem_nil|fail))|fail) ?_)
    refine Der.tl (fun w2 hk2 _ _ => ?_)
    repeat (first|apply cD|apply cE|refine cV rfl rfl rfl rfl (by first|(apply qni<;>(first|exact rfl|exact dct (by first|assumption|omega)|fail))|fail) ?_)
    refine dA rfl (by exact rho_of rfl) rfl ?_
    repeat (first|apply cB|apply cD|apply cE|apply cF|apply cU|refine cV rfl rfl rfl rfl (by first|((first|apply qmv|apply qas|apply qad)<;>(first|exact rfl|exact Ar.mk (by omega)|fail))|fail) ?_)
    refine NG.round (i + 1) (by (repeat' (first | exact True.intro | exact rfl | refine And.intro ?_ ?_))) ⟨by omega, hk1.trans hk2, fun j hj hj' hlt => ?_⟩ (by omega)
    by_cases e : j = i
    · subst e; exact hh
    · exact hall j hj hj' (by omega)
  · have g3 : ¬ (l[i].toNat : Int) = (m[i].toNat : Int) := fun e => hh (UInt8.toNat_inj.1 (by omega))
    rw [decide_eq_false (fun e => hh (by subst e; rfl))]
    repeat (first|apply cA|apply cE|apply cF|apply cG)
    refine CG.tail mixed 8 [0, 1, 2, 3, 4, 5, 6, 7] (by kernel_rfl) ?_
    repeat (refine cY rfl rfl rfl (by first|((first|apply qmv|apply qlc|apply qix)<;>(first|exact rfl|exact Ar.mk (by omega)|assumption|exact List.not_mem_nil|fail))|fail) ?_)
    refine Der.tl (fun w2 hk2 _ _ => ?_)
    repeat (first|apply cD|apply cE|refine cV rfl rfl rfl rfl (by first|(apply qni<;>(first|exact rfl|exact dcf (by first|assumption|omega)|fail))|fail) ?_)
    refine cZ rfl (by exact rho_of rfl) rfl ?_
    repeat (first|apply cA|apply cB|apply cD|apply cE|apply cH|apply cK|apply NG.ret_block|refine cV rfl rfl rfl rfl (by first|(apply qas<;>(exact rfl))|fail) ?_)
    refine ret1 (Or.inl rfl) Tryz.results58 (by first | exact ResV.tmp rfl | exact ResV.agg rfl rfl (by assumption) (by first | exact dc_length _ | exact nc_length _ | exact rc_length _ _ _ | exact ec_length _ | exact dl_length _ _ _ _ | rfl) | exact ResV.cell rfl rfl (by assumption)) ?_
    exact ⟨rfl, hk1.trans hk2⟩
set_option maxHeartbeats 16000000 in
theorem rtsame_spec {w : World} {n0 m0 : Nat} {x y : Tm} (hx : x.In n0 w) (hy : y.In m0 w) : Ret Tryz.prog 24 #[txv x, txv y] w (.bool (txEq x.t y.t)) := by
  refine enter2 Tryz.func24 rfl Tryz.ntmps24 rfl ?_
  have hl1 := hx.l1
  have hl2 := hx.l2
  repeat (first|apply cA|apply cB)
  refine SG.box rfl rfl rfl (by exact rho_of rfl) (fun b1 w1 hk1 hb1 hB1 => ?_)
  refine SG.box rfl rfl rfl (by exact rho_of rfl) (fun b2 w2 hk2 hb2 hB2 => ?_)
  have hB1 : Blk w1 b1 (.cells (txc x).toArray 36) := hB1
  have hB2 : Blk w2 b2 (.cells (txc y).toArray 36) := hB2
  obtain ⟨-, q0, q1, q2, q3, q4, q5⟩ := txc_rows (hB1.kp0 hk2)
  obtain ⟨-, r0, r1, r2, r3, r4, r5⟩ := txc_rows hB2
  have k2 := hk1.trans hk2
  have key : ∀ {c : Bool}, (c = true ↔ x.t = y.t) → c = txEq x.t y.t := fun {c} h => by
    by_cases hh : x.t = y.t
    · rw [h.2 hh, txEq_t hh]
    · rw [txEq_f hh]
      cases c with
      | false => rfl
      | true => exact absurd (h.1 rfl) hh
  have no : ¬ x.t = y.t → false = txEq x.t y.t := fun h => (txEq_f h).symm
  by_cases g0 : x.t.frm = y.t.frm
  case neg =>
    repeat (first | first|apply cA|apply cB|apply cD|apply cE|apply cH|refine cV rfl rfl rfl rfl (by first|((first|apply qmv|apply qas|apply qla|apply qfa|apply qpk|apply qed)<;>(first|exact rfl|assumption|exact dcf (by first|assumption|omega)|exact List.not_mem_nil|apply dc_length|fail))|fail) ?_ | refine cX rfl rfl ?_)
    refine ret1 (Or.inl rfl) Tryz.results24 (by first | exact ResV.tmp rfl | exact ResV.agg rfl rfl (by assumption) (by first | exact dc_length _ | exact nc_length _ | exact rc_length _ _ _ | exact ec_length _ | exact dl_length _ _ _ _ | rfl) | exact ResV.cell rfl rfl (by assumption)) ?_
    exact ⟨by rw [← no (fun h => g0 (by rw [h]))], k2⟩
  by_cases g1 : x.t.non = y.t.non
  case neg =>
    repeat (first | first|apply cA|apply cB|apply cD|apply cE|apply cH|refine cV rfl rfl rfl rfl (by first|((first|apply qmv|apply qas|apply qlc|apply qla|apply qfa|apply qpk|apply qei|apply qed)<;>(first|exact rfl|assumption|exact dct (by first|assumption|omega)|exact dcf (by first|assumption|omega)|exact List.not_mem_nil|apply dc_length|fail))|fail) ?_ | refine cX rfl rfl ?_)
    refine ret1 (Or.inl rfl) Tryz.results24 (by first | exact ResV.tmp rfl | exact ResV.agg rfl rfl (by assumption) (by first | exact dc_length _ | exact nc_length _ | exact rc_length _ _ _ | exact ec_length _ | exact dl_length _ _ _ _ | rfl) | exact ResV.cell rfl rfl (by assumption)) ?_
    exact ⟨by rw [← no (fun h => g1 (by rw [h]))], k2⟩
  by_cases g2 : x.t.fee = y.t.fee
  case neg =>
    repeat (first | first|apply cA|apply cB|apply cD|apply cE|apply cH|refine cV rfl rfl rfl rfl (by first|((first|apply qmv|apply qas|apply qlc|apply qla|apply qfa|apply qpk|apply qei|apply qed)<;>(first|exact rfl|assumption|exact dct (by first|assumption|omega)|exact dcf (by first|assumption|omega)|exact List.not_mem_nil|apply dc_length|fail))|fail) ?_ | refine cX rfl rfl ?_)
    refine ret1 (Or.inl rfl) Tryz.results24 (by first | exact ResV.tmp rfl | exact ResV.agg rfl rfl (by assumption) (by first | exact dc_length _ | exact nc_length _ | exact rc_length _ _ _ | exact ec_length _ | exact dl_length _ _ _ _ | rfl) | exact ResV.cell rfl rfl (by assumption)) ?_
    exact ⟨by rw [← no (fun h => g2 (by rw [h]))], k2⟩
  by_cases g3 : x.t.kind = y.t.kind
  case neg =>
    repeat (first | first|apply cA|apply cB|apply cD|apply cE|apply cH|refine cV rfl rfl rfl rfl (by first|((first|apply qmv|apply qas|apply qlc|apply qla|apply qfa|apply qpk|apply qei|apply qed)<;>(first|exact rfl|assumption|exact dct (by first|assumption|omega)|exact dcf (by first|assumption|omega)|exact List.not_mem_nil|apply dc_length|fail))|fail) ?_ | refine cX rfl rfl ?_)
    refine ret1 (Or.inl rfl) Tryz.results24 (by first | exact ResV.tmp rfl | exact ResV.agg rfl rfl (by assumption) (by first | exact dc_length _ | exact nc_length _ | exact rc_length _ _ _ | exact ec_length _ | exact dl_length _ _ _ _ | rfl) | exact ResV.cell rfl rfl (by assumption)) ?_
    exact ⟨by rw [← no (fun h => g3 (by rw [h]))], k2⟩
  repeat (first|apply cA|apply cB|apply cD|apply cE|refine cV rfl rfl rfl rfl (by first|((first|apply qmv|apply qas|apply qlc|apply qla|apply qfa|apply qpk|apply qei|apply qed)<;>(first|exact rfl|assumption|exact dct (by first|assumption|omega)|exact List.not_mem_nil|apply dc_length|fail))|fail) ?_)
  refine SG.ret rfl rfl rfl (vs := [x.b, y.b]) (by repeat' (first | exact True.intro | exact rho_of rfl | refine And.intro ?_ ?_)) (rbsame_spec x.c1 y.c1 (hx.b.sl.kp0 k2) (hy.b.sl.kp0 k2) (by omega)) (fun w3 hk3 => ?_)
  have k3 := k2.trans hk3
  have q5 := q5.kp0 hk3
  have r5 := r5.kp0 hk3
  by_cases g4 : x.t.body = y.t.body
  case neg =>
    rw [decide_eq_false g4]
    repeat (first | first|apply cD|apply cE|apply cH|refine cV rfl rfl rfl rfl (by first|((first|apply qmv|apply qas|apply qpk)<;>(exact rfl))|fail) ?_ | refine cX rfl rfl ?_)
    refine ret1 (Or.inl rfl) Tryz.results24 (by first | exact ResV.tmp rfl | exact ResV.agg rfl rfl (by assumption) (by first | exact dc_length _ | exact nc_length _ | exact rc_length _ _ _ | exact ec_length _ | exact dl_length _ _ _ _ | rfl) | exact ResV.cell rfl rfl (by assumption)) ?_
    exact ⟨by rw [← no (fun h => g4 (by rw [h]))], k3⟩
  rw [decide_eq_true g4]
  repeat (first|refine cV rfl rfl rfl rfl (by first|((first|apply qmv|apply qlc|apply qfa|apply qpk)<;>(first|exact rfl|assumption|exact List.not_mem_nil))|fail) ?_)
  refine SG.ret rfl rfl rfl (vs := [x.s, y.s]) (by repeat' (first | exact True.intro | exact rho_of rfl | refine And.intro ?_ ?_)) (rbsame_spec x.c2 y.c2 (hx.s.sl.kp0 k3) (hy.s.sl.kp0 k3) (by omega)) (fun w4 hk4 => ?_)
  have e : decide (x.t.sig = y.t.sig) = txEq x.t y.t := key (by
    rw [decide_eq_true_iff]
    constructor
    · intro h
      cases hX : x.t with | mk a b c d e f =>
      cases hY : y.t with | mk a' b' c' d' e' f' =>
      rw [hX, hY] at g0 g1 g2 g3 g4 h
      simp only at g0 g1 g2 g3 g4 h
      subst g0 g1 g2 g3 g4 h
      rfl
    · intro h
      rw [h])
  rw [e]
  repeat (first|apply cD|apply cE|apply cH|refine cV rfl rfl rfl rfl (by first|((first|apply qas|apply qpk)<;>(exact rfl))|fail) ?_)
  refine ret1 (Or.inl rfl) Tryz.results24 (by first | exact ResV.tmp rfl | exact ResV.agg rfl rfl (by assumption) (by first | exact dc_length _ | exact nc_length _ | exact rc_length _ _ _ | exact ec_length _ | exact dl_length _ _ _ _ | rfl) | exact ResV.cell rfl rfl (by assumption)) ?_
  exact ⟨rfl, k3.trans hk4⟩
set_option maxHeartbeats 16000000 in
theorem rcheck_spec {w : World} {n0 : Nat} {x : Tm} (hx : x.In n0 w) : Ret Tryz.prog 50 #[txv x] w (.int .i64 (wrongT x.t)) := by
  refine enter1 Tryz.func50 rfl Tryz.ntmps50 rfl ?_
  have hl1 := hx.l1
  have hl2 := hx.l2
  have hw2 : ¬ TxR x.t → wrongT x.t = 2 := fun h => by unfold wrongT; rw [if_neg h]
  have hw0 : TxR x.t → wrongT x.t = if x.t.kind = 0 then paidZ x.t.body else 0 := fun h => by unfold wrongT; rw [if_pos h]
  repeat (first|apply cA|apply cB)
  refine SG.box rfl rfl rfl (by exact rho_of rfl) (fun b1 w1 hk1 hb1 hB1 => ?_)
  have hB1 : Blk w1 b1 (.cells (txc x).toArray 36) := hB1
  obtain ⟨-, -, r1, r2, r3, r4, r5⟩ := txc_rows hB1
  by_cases c0 : x.t.non < 0
  · rw [hw2 (fun h => by have := h.n0; omega)]
    repeat (first | first|apply cA|apply cB|apply cD|apply cE|refine cV rfl rfl rfl rfl (by first|((first|apply qmv|apply qas|apply qlc|apply qfa|apply qpk|apply qls)<;>(first|exact rfl|assumption|exact dct (by first|assumption|omega)|exact List.not_mem_nil|fail))|fail) ?_ | refine cX rfl rfl ?_)
    refine cZ rfl (by exact rho_of rfl) rfl ?_
    repeat (first|apply cA|apply cB|apply cD|apply cE|apply cH|apply cK|refine cV rfl rfl rfl rfl (by first|(apply qas<;>(exact rfl))|fail) ?_)
    refine ret1 (Or.inl rfl) Tryz.results50 (by first | exact ResV.tmp rfl | exact ResV.agg rfl rfl (by assumption) (by first | exact dc_length _ | exact nc_length _ | exact rc_length _ _ _ | exact ec_length _ | exact dl_length _ _ _ _ | rfl) | exact ResV.cell rfl rfl (by assumption)) ?_
    exact ⟨rfl, hk1⟩
  by_cases c1 : 1099511627776 < x.t.non
  · rw [hw2 (fun h => by have := h.n1; omega)]
    repeat (first | first|apply cA|apply cB|apply cD|apply cE|refine cV rfl rfl rfl rfl (by first|((first|apply qmv|apply qas|apply qlc|apply qfa|apply qpk|apply qls|apply qgt)<;>(first|exact rfl|assumption|exact dct (by first|assumption|omega)|exact dcf (by first|assumption|omega)|exact List.not_mem_nil|fail))|fail) ?_ | refine cX rfl rfl ?_)
    refine cZ rfl (by exact rho_of rfl) rfl ?_
    repeat (first|apply cA|apply cB|apply cD|apply cE|apply cH|apply cK|refine cV rfl rfl rfl rfl (by first|(apply qas<;>(exact rfl))|fail) ?_)
    refine ret1 (Or.inl rfl) Tryz.results50 (by first | exact ResV.tmp rfl | exact ResV.agg rfl rfl (by assumption) (by first | exact dc_length _ | exact nc_length _ | exact rc_length _ _ _ | exact ec_length _ | exact dl_length _ _ _ _ | rfl) | exact ResV.cell rfl rfl (by assumption)) ?_
    exact ⟨rfl, hk1⟩
  by_cases c2 : x.t.fee < 0
  · rw [hw2 (fun h => by have := h.f0; omega)]
    repeat (first | first|apply cA|apply cB|apply cD|apply cE|refine cV rfl rfl rfl rfl (by first|((first|apply qmv|apply qas|apply qlc|apply qfa|apply qpk|apply qls|apply qgt)<;>(first|exact rfl|assumption|exact dct (by first|assumption|omega)|exact dcf (by first|assumption|omega)|exact List.not_mem_nil|fail))|fail) ?_ | refine cX rfl rfl ?_)
    refine cZ rfl (by exact rho_of rfl) rfl ?_
    repeat (first|apply cA|apply cB|apply cD|apply cE|apply cH|apply cK|refine cV rfl rfl rfl rfl (by first|(apply qas<;>(exact rfl))|fail) ?_)
    refine ret1 (Or.inl rfl) Tryz.results50 (by first | exact ResV.tmp rfl | exact ResV.agg rfl rfl (by assumption) (by first | exact dc_length _ | exact nc_length _ | exact rc_length _ _ _ | exact ec_length _ | exact dl_length _ _ _ _ | rfl) | exact ResV.cell rfl rfl (by assumption)) ?_
    exact ⟨rfl, hk1⟩
  by_cases c3 : 1125899906842624 < x.t.fee
  · rw [hw2 (fun h => by have := h.f1; omega)]
    repeat (first | first|apply cA|apply cB|apply cD|apply cE|refine cV rfl rfl rfl rfl (by first|((first|apply qmv|apply qas|apply qlc|apply qfa|apply qpk|apply qls|apply qgt)<;>(first|exact rfl|assumption|exact dct (by first|assumption|omega)|exact dcf (by first|assumption|omega)|exact List.not_mem_nil|fail))|fail) ?_ | refine cX rfl rfl ?_)
    refine cZ rfl (by exact rho_of rfl) rfl ?_
    repeat (first|apply cA|apply cB|apply cD|apply cE|apply cH|apply cK|refine cV rfl rfl rfl rfl (by first|(apply qas<;>(exact rfl))|fail) ?_)
    refine ret1 (Or.inl rfl) Tryz.results50 (by first | exact ResV.tmp rfl | exact ResV.agg rfl rfl (by assumption) (by first | exact dc_length _ | exact nc_length _ | exact rc_length _ _ _ | exact ec_length _ | exact dl_length _ _ _ _ | rfl) | exact ResV.cell rfl rfl (by assumption)) ?_
    exact ⟨rfl, hk1⟩
  by_cases c4 : x.t.kind < 0
  · rw [hw2 (fun h => by have := h.k0; omega)]
    repeat (first | first|apply cA|apply cB|apply cD|apply cE|refine cV rfl rfl rfl rfl (by first|((first|apply qmv|apply qas|apply qlc|apply qfa|apply qpk|apply qls|apply qgt)<;>(first|exact rfl|assumption|exact dct (by first|assumption|omega)|exact dcf (by first|assumption|omega)|exact List.not_mem_nil|fail))|fail) ?_ | refine cX rfl rfl ?_)
    refine cZ rfl (by exact rho_of rfl) rfl ?_
    repeat (first|apply cA|apply cB|apply cD|apply cE|apply cH|apply cK|refine cV rfl rfl rfl rfl (by first|(apply qas<;>(exact rfl))|fail) ?_)
    refine ret1 (Or.inl rfl) Tryz.results50 (by first | exact ResV.tmp rfl | exact ResV.agg rfl rfl (by assumption) (by first | exact dc_length _ | exact nc_length _ | exact rc_length _ _ _ | exact ec_length _ | exact dl_length _ _ _ _ | rfl) | exact ResV.cell rfl rfl (by assumption)) ?_
    exact ⟨rfl, hk1⟩
  by_cases c5 : 2 < x.t.kind
  · rw [hw2 (fun h => by have := h.k1; omega)]
    repeat (first | first|apply cA|apply cB|apply cD|apply cE|refine cV rfl rfl rfl rfl (by first|((first|apply qmv|apply qas|apply qlc|apply qfa|apply qpk|apply qls|apply qgt)<;>(first|exact rfl|assumption|exact dct (by first|assumption|omega)|exact dcf (by first|assumption|omega)|exact List.not_mem_nil|fail))|fail) ?_ | refine cX rfl rfl ?_)
    refine cZ rfl (by exact rho_of rfl) rfl ?_
    repeat (first|apply cA|apply cB|apply cD|apply cE|apply cH|apply cK|refine cV rfl rfl rfl rfl (by first|(apply qas<;>(exact rfl))|fail) ?_)
    refine ret1 (Or.inl rfl) Tryz.results50 (by first | exact ResV.tmp rfl | exact ResV.agg rfl rfl (by assumption) (by first | exact dc_length _ | exact nc_length _ | exact rc_length _ _ _ | exact ec_length _ | exact dl_length _ _ _ _ | rfl) | exact ResV.cell rfl rfl (by assumption)) ?_
    exact ⟨rfl, hk1⟩
  by_cases c6 : (32768 : Int) < (x.t.body.length : Int)
  · rw [hw2 (fun h => by have := h.b; omega)]
    repeat (first | first|apply cA|apply cB|apply cD|apply cE|refine cV rfl rfl rfl rfl (by first|((first|apply qmv|apply qas|apply qlc|apply qfa|apply qpk|apply qls|apply qln|apply qgt)<;>(first|exact rfl|assumption|exact dct (by first|assumption|omega)|exact dcf (by first|assumption|omega)|exact List.not_mem_nil|fail))|fail) ?_ | refine cX rfl rfl ?_)
    refine cZ rfl (by exact rho_of rfl) rfl ?_
    repeat (first|apply cA|apply cB|apply cD|apply cE|apply cH|apply cK|refine cV rfl rfl rfl rfl (by first|(apply qas<;>(exact rfl))|fail) ?_)
    refine ret1 (Or.inl rfl) Tryz.results50 (by first | exact ResV.tmp rfl | exact ResV.agg rfl rfl (by assumption) (by first | exact dc_length _ | exact nc_length _ | exact rc_length _ _ _ | exact ec_length _ | exact dl_length _ _ _ _ | rfl) | exact ResV.cell rfl rfl (by assumption)) ?_
    exact ⟨rfl, hk1⟩
  by_cases c7 : (1024 : Int) < (x.t.sig.length : Int)
  · rw [hw2 (fun h => by have := h.s; omega)]
    repeat (first|apply cA|apply cB|apply cD|apply cE|refine cV rfl rfl rfl rfl (by first|((first|apply qmv|apply qas|apply qlc|apply qfa|apply qpk|apply qls|apply qln|apply qgt)<;>(first|exact rfl|assumption|exact dct (by first|assumption|omega)|exact dcf (by first|assumption|omega)|exact List.not_mem_nil|fail))|fail) ?_)
    refine cZ rfl (by exact rho_of rfl) rfl ?_
    repeat (first|apply cA|apply cB|apply cD|apply cE|apply cH|apply cK|refine cV rfl rfl rfl rfl (by first|(apply qas<;>(exact rfl))|fail) ?_)
    refine ret1 (Or.inl rfl) Tryz.results50 (by first | exact ResV.tmp rfl | exact ResV.agg rfl rfl (by assumption) (by first | exact dc_length _ | exact nc_length _ | exact rc_length _ _ _ | exact ec_length _ | exact dl_length _ _ _ _ | rfl) | exact ResV.cell rfl rfl (by assumption)) ?_
    exact ⟨rfl, hk1⟩
  rw [hw0 ⟨by omega, by omega, by omega, by omega, by omega, by omega, by omega, by omega⟩]
  repeat (first|apply cA|apply cB|apply cD|apply cE|refine cV rfl rfl rfl rfl (by first|((first|apply qmv|apply qas|apply qlc|apply qfa|apply qpk|apply qls|apply qln|apply qgt)<;>(first|exact rfl|assumption|exact dcf (by first|assumption|omega)|exact List.not_mem_nil|fail))|fail) ?_)
  refine dA rfl (by exact rho_of rfl) rfl ?_
  by_cases hk : x.t.kind = 0
  · rw [if_pos hk]
    repeat (first|apply cA|apply cB|apply cD|apply cE|apply cF|refine cV rfl rfl rfl rfl (by first|((first|apply qlc|apply qfa|apply qei)<;>(first|exact rfl|assumption|exact dct (by first|assumption|omega)|exact List.not_mem_nil|fail))|fail) ?_)
    refine cZ rfl (by exact rho_of rfl) rfl ?_
    clear r1 r2 r3 r4 r5
    obtain ⟨r0, -⟩ := txc_rows hB1
    repeat (first|apply cA|apply cB|refine cV rfl rfl rfl rfl (by first|(apply qla<;>(first|exact rfl|assumption|exact List.not_mem_nil|apply txc_length))|fail) ?_)
    refine SG.call rfl rfl rfl (vs := [txv x]) (by repeat' (first | exact True.intro | exact rho_of rfl | refine And.intro ?_ ?_)) ((rpaid_spec (hx.kp0 hk1) hk).mono (fun e w3 hh => ?_))
    obtain ⟨d, n, he, hk3⟩ := hh
    refine ⟨_, he, ?_⟩
    clear he
    generalize paidZ x.t.body = z
    repeat (first|refine cV rfl rfl rfl rfl (by first|((first|apply qmv|apply qxt)<;>(exact rfl))|fail) ?_)
    refine SG.alloc rfl rfl rfl (fun b5 w4 hk4 hb5 hB5 => ?_)
    refine SG.setAll (l := dc d) rfl rfl (by exact rho_of rfl) (by exact rho_of rfl) hB5 (dc_length _) rfl (dc_one _) (fun w5 hk5 hB5 => ?_)
    repeat (first|apply cA|apply cB|apply cD|apply cE|apply cH|apply cK|refine cV rfl rfl rfl rfl (by first|((first|apply qmv|apply qas)<;>(exact rfl))|fail) ?_)
    refine ret1 (Or.inl rfl) Tryz.results50 (by first | exact ResV.tmp rfl | exact ResV.agg rfl rfl (by assumption) (by first | exact dc_length _ | exact nc_length _ | exact rc_length _ _ _ | exact ec_length _ | exact dl_length _ _ _ _ | rfl) | exact ResV.cell rfl rfl (by assumption)) ?_
    exact ⟨rfl, (hk1.trans hk3).trans (hk4.trans_new hk5 (new1 (by omega)))⟩
  · rw [if_neg hk]
    repeat (first|apply cA|apply cB|apply cD|apply cE|apply cF|refine cV rfl rfl rfl rfl (by first|((first|apply qlc|apply qfa|apply qei)<;>(first|exact rfl|assumption|exact dcf (by first|assumption|omega)|exact List.not_mem_nil|fail))|fail) ?_)
    refine dA rfl (by exact rho_of rfl) rfl ?_
    repeat (first|apply cA|apply cB|apply cD|apply cE|apply cF|apply cH|refine cV rfl rfl rfl rfl (by first|(apply qas<;>(exact rfl))|fail) ?_)
    refine ret1 (Or.inl rfl) Tryz.results50 (by first | exact ResV.tmp rfl | exact ResV.agg rfl rfl (by assumption) (by first | exact dc_length _ | exact nc_length _ | exact rc_length _ _ _ | exact ec_length _ | exact dl_length _ _ _ _ | rfl) | exact ResV.cell rfl rfl (by assumption)) ?_
    exact ⟨rfl, hk1⟩
end Go.Proofs.YtgbgnlboogalgaaGreat
namespace Go.Proofs.YtgbgnlboogalgaaGreat
set_option linter.unusedVariables false
theorem zeroCells_length (z : Array Value) (m : Nat) : (Builtin.zeroCells z m).toList.length = m * z.size := by simp [Builtin.zeroCells]
theorem zeroCells_one {z : Array Value} (hz : allOne z.toList = true) (m : Nat) : allOne (Builtin.zeroCells z m).toList = true := by
  unfold allOne
  rw [List.all_eq_true]
  intro v hv
  simp only [Builtin.zeroCells, Array.toList_map, List.mem_map] at hv
  obtain ⟨i, hi, rfl⟩ := hv
  have hi : i < m * z.size := by simpa using hi
  have h0 : 0 < z.size := by
    rcases Nat.eq_zero_or_pos z.size with h | h
    · rw [h] at hi; omega
    · exact h
  have hlt : i % z.size < z.size := Nat.mod_lt _ h0
  rw [getElem!_pos z _ hlt]
  exact List.all_eq_true.1 hz _ (by simp)
/-- The first i of an owned row. -/
theorem own_take {α : Type} {enc : α → List Value} {w : World} {base g n cap : Nat} {T : TypeId} {sz : Nat} {l : List α} (he : ∀ x, (enc x).length = sz) (ho : w.ownsRow base T sz (.slice (some ⟨g, 0, none⟩) n cap) n (flt enc l)) (hn : l.length = n) {i : Nat} (hi : i ≤ n) : w.ownsRow base T sz (.slice (some ⟨g, 0, none⟩) i cap) i (flt enc (l.take i)) := by
  rcases ho with ⟨h1, ⟨h2, _⟩ | ⟨g', cap', cur, h2, hb, hg, hc1, hc2, hc3, hc4⟩⟩
  · cases h2
  · cases h2
    refine ⟨by rw [flt_length he, List.length_take]; rw [Nat.min_eq_left (by omega)], Or.inr ⟨g, cap, cur, rfl, hb, hg, by omega, hc2, hc3, ?_⟩⟩
    have h3 : i * sz ≤ n * sz := Nat.mul_le_mul_right _ hi
    have : cur.toList.take (i * sz) = (flt enc l).take (i * sz) := by rw [← hc4, List.take_take, Nat.min_eq_left h3]
    rw [this]
    have e : flt enc l = flt enc (l.take i) ++ flt enc (l.drop i) := by rw [← flt_append, List.take_append_drop]
    have hl : (flt enc (l.take i)).length = i * sz := by rw [flt_length he, List.length_take, Nat.min_eq_left (by omega)]
    rw [e, List.take_append_of_le_length (by omega), ← hl, List.take_length]
section
variable {P : Program} {α : Type} {enc : α → List Value} {m : Nat} {Q : Exit → Act → World → Prop} {ops rest : List Oper} {L : Env} {w : World} {ty : TypeId} {pos : String} {af : Array Edge} {q : Option (Nat × Bool)}
theorem SG.clearO {base cap g n i : Nat} {t T : TypeId} {inf : TypeInfo} [u : Ut P t (.slice T)] [f : Inf P T inf] {z : Value} {l : List α} {x : Operand} {c2 : Nat} (he : ∀ x, (enc x).length = inf.size) (hw : want ops L ⟨none, .call { callee := .builtin .clear, args := #[x], argTypes := #[t] }, ty, pos, af, q⟩ = some true) (hk : known L x = true)
    (hx : rho L x = .slice (some ⟨g, i * inf.size, none⟩) (n - i) c2) (hz : inf.zero = some z) (hzs : Nat.beq z.cells.size inf.size = true) (hone : allOne z.cells.toList = true) (ho : w.ownsRow base T inf.size (.slice (some ⟨g, 0, none⟩) n cap) n (flt enc l)) (hn : l.length = n) (hi : i < n)
    (h : ∀ w', Kp [g] w w' → w'.ownsRow base T inf.size (.slice (some ⟨g, 0, none⟩) i cap) i (flt enc (l.take i)) → SG P m ops Q rest L w') : SG P m ops Q (⟨none, .call { callee := .builtin .clear, args := #[x], argTypes := #[t] }, ty, pos, af, q⟩ :: rest) L w := by
  have ho2 := own_take he ho hn (i := i) (by omega)
  refine SG.op rfl rfl hw (by simpa [Op.operands, Call.operands] using hk) ?_
  unfold OpRun
  rcases ho with ⟨h1, ⟨h2, _⟩ | ⟨g', cap', cur, h2, hb, hg, hc1, hc2, hc3, hc4⟩⟩
  · cases h2
  · cases h2
    have hB : Blk w g (.cells cur T) := hg
    have hsz := Nat.eq_of_beq_eq_true hzs
    have hlen : (Builtin.zeroCells z.cells (n - i)).toList.length = (n - i) * inf.size := by rw [zeroCells_length, hsz]
    have hle : n * inf.size ≤ cap * inf.size := Nat.mul_le_mul_right _ hc1
    have hsum : i * inf.size + (n - i) * inf.size = n * inf.size := by rw [← Nat.add_mul]; congr 1; omega
    have hst := run_storeCells (P := P) (b := g) (off := i * inf.size) (T := T) (Builtin.zeroCells z.cells (n - i)).toList 0 w cur hB (by rw [hlen]; omega) (zeroCells_one hone _)
    simp only [Nat.add_zero] at hst
    have hni : n - i = (n - i - 1) + 1 := by omega
    have hclear : (Builtin.clear_ #[t] ty #[.slice (some ⟨g, i * inf.size, none⟩) (n - i) c2]).run P w = .ok (.tuple #[]) { w with heap := w.heap.setIfInBounds g (.cells (spl cur.toList (i * inf.size) (Builtin.zeroCells z.cells (n - i)).toList).toArray T) } := by
      rw [hni] at hst ⊢
      simp only [Builtin.clear_, List.getElem?_toArray, List.getElem?_cons_zero, Sem.run_bind, run_underlying u.eq, Result.andThen_ok, run_zero hz, hst, Sem.run_pure]
    have : (execOp (rho L) ⟨none, .call { callee := .builtin .clear, args := #[x], argTypes := #[t] }, ty, pos, af, q⟩).run P w = .ok (.value (.tuple #[])) { w with heap := w.heap.setIfInBounds g (.cells (spl cur.toList (i * inf.size) (Builtin.zeroCells z.cells (n - i)).toList).toArray T) } := by
      simp only [execOp, resolve, invoke, builtin, Sem.run_bind, Sem.run_pure, Result.andThen_ok, List.map_toArray, List.map_cons, List.map_nil, hx, hclear]
    rw [this]
    refine h _ (Kp.set w hB rfl rfl) ?_
    rcases ho2 with ⟨k1, ⟨k2, _⟩ | ⟨g', cap', cur', k2, kb, kg, kc1, kc2, kc3, kc4⟩⟩
    · cases k2
    · cases k2
      have hu := hB.uniq kg
      simp only [Obj.cells.injEq] at hu
      obtain ⟨rfl, _, _⟩ := hu
      refine ⟨k1, Or.inr ⟨g, cap, _, rfl, kb, hB.set _, kc1, kc2, ?_, ?_⟩⟩
      · have := spl_length (cs := cur.toList) (off := i * inf.size) (l := (Builtin.zeroCells z.cells (n - i)).toList) (by rw [hlen]; simp; omega)
        rw [List.size_toArray, this]
        simpa using kc3
      · rw [List.toList_toArray]
        unfold spl
        rw [List.take_append_of_le_length (by rw [List.length_take]; simp; omega), List.take_take, Nat.min_self]
        exact kc4
end
end Go.Proofs.YtgbgnlboogalgaaGreat
namespace Go.Proofs.YtgbgnlboogalgaaGreat
set_option linter.unusedVariables false
section
variable {P : Program} {α : Type} {enc : α → List Value} {n : Nat} {Q : Exit → Act → World → Prop} {ops rest : List Oper} {L : Env} {w : World} {ty : TypeId} {pos : String} {af : Array Edge} {q : Option (Nat × Bool)}
theorem SG.appRoom {base : Nat} {t e : TypeId} {inf : TypeInfo} [u : Ut P t (.slice e)] [f : Inf P e inf] {z : Value} {d : Nat} {s x : Operand} {g cap nn m c2 : Nat} {a2 : Option Addr} {xs ys : List α}
    (hd : Nat.blt d n = true) (hw : want ops L ⟨some d, .call { callee := .builtin .append, args := #[s, x], argTypes := #[t, t] }, ty, pos, af, q⟩ = some true) (hk : (known L s && known L x) = true)
    (hs : rho L s = .slice (some ⟨g, 0, none⟩) nn cap) (hx : rho L x = .slice a2 m c2) (hm : m = ys.length) (hz : inf.zero = some z) (hzs : Nat.beq z.cells.size inf.size = true) (hsz : Nat.blt 0 inf.size = true) (hel : ∀ x, (enc x).length = inf.size) (hone : ∀ x, allOne (enc x) = true)
    (hown : w.ownsRow base e inf.size (.slice (some ⟨g, 0, none⟩) nn cap) nn (flt enc xs)) (hn : xs.length = nn) (hS : Sl enc inf.size w a2 ys) (hroom : nn + ys.length ≤ cap) (h63 : nn + ys.length ≤ maxLen) (hbytes : (nn + ys.length) * inf.bytes ≤ 140737488355328) (hbase : base ≤ w.heap.size)
    (h : ∀ w', Kp [g] w w' → w'.ownsRow base e inf.size (.slice (some ⟨g, 0, none⟩) (nn + m) cap) (nn + m) (flt enc (xs ++ ys)) → SG P n ops Q rest ((d, .slice (some ⟨g, 0, none⟩) (nn + m) cap) :: L) w') : SG P n ops Q (⟨some d, .call { callee := .builtin .append, args := #[s, x], argTypes := #[t, t] }, ty, pos, af, q⟩ :: rest) L w := by
  subst hm
  refine SG.op (by simpa using hd) rfl hw (by simpa [Op.operands, Call.operands] using hk) ?_
  unfold OpRun
  have key : ∃ w', (Builtin.append_ #[t, t] ty #[.slice (some ⟨g, 0, none⟩) nn cap, .slice a2 ys.length c2]).run P w = .ok (.slice (some ⟨g, 0, none⟩) (nn + ys.length) cap) w' ∧ Kp [g] w w' ∧ w'.ownsRow base e inf.size (.slice (some ⟨g, 0, none⟩) (nn + ys.length) cap) (nn + ys.length) (flt enc (xs ++ ys)) := by
    cases ys with
    | nil =>
      refine ⟨w, ?_, Kp.refl _ _, ?_⟩
      · have := run_app0 (P := P) (ty := ty) (u := u) (f := f) hown a2 c2
        simpa using this
      · simpa using hown
    | cons y ys =>
      obtain ⟨b, off, rfl, _⟩ := hS.at (i := 0) (by simp)
      have hr := Sl.flat hel (by simp) hS
      have hl : (flt enc (y :: ys)).length = (y :: ys).length * inf.size := flt_length hel _
      obtain ⟨v', w', hrun, hown', hkp⟩ := run_append (P := P) (ty := ty) (d := .bool) (c := c2) (u := u) (f := f) hz (Nat.eq_of_beq_eq_true hzs) (by simpa [Nat.blt_eq] using hsz) hown hl hr (flt_all hone _) h63 hbytes hbase
      have hnews : ∀ j u, (flt enc (y :: ys))[j]? = some u → w.cell? ((⟨b, off, none⟩ : Addr).add j) = some u := fun j u hu => by rw [add_none]; exact hr.cell hu
      have h1' : ∀ u ∈ flt enc (y :: ys), u.oneCell' = true := fun u hu => by rw [one_iff]; exact List.all_eq_true.1 (flt_all hone _) u hu
      rcases hown.2 with ⟨h2, _⟩ | ⟨g', cap', cur, h2, hbg, hg, hnc, hcm, hcs, htake⟩
      · cases h2
      · cases h2
        have hfit : nn * inf.size + (flt enc (y :: ys)).length ≤ cur.size := by rw [hl, hcs, ← Nat.add_mul]; exact Nat.mul_le_mul_right _ hroom
        have hr2 := run_append_room (P := P) w t ty e inf u.eq f.eq g nn cap cur hg ⟨b, off, none⟩ (y :: ys).length c2 _ hl hnews h1' hroom hfit
        rw [hr2] at hrun
        cases hrun
        refine ⟨_, hr2, ?_, by rw [flt_append]; exact hown'⟩
        simpa [ownB, Value.ownBlock] using hkp
  obtain ⟨w', hrun, hk2, ho2⟩ := key
  have : (execOp (rho L) ⟨some d, .call { callee := .builtin .append, args := #[s, x], argTypes := #[t, t] }, ty, pos, af, q⟩).run P w = .ok (.value (.slice (some ⟨g, 0, none⟩) (nn + ys.length) cap)) w' := by
    simp only [execOp, resolve, invoke, builtin, Sem.run_bind, Sem.run_pure, Result.andThen_ok, List.map_toArray, List.map_cons, List.map_nil, hs, hx, hrun]
  rw [this]
  exact h w' hk2 ho2
/-- 's[j:m:q]' -/
theorem qf3 {S : List Nat} {w0 : World} {F : World → Prop} {d : Option Nat} {T E : TypeId} [u : Ut P T (.slice E)] {sz : Nat} [f : Sz P E sz] {x lo hi mx : Operand} {b off n c : Nat} {k k' k'' : IntKind} {z z' z'' : Int} {j m r : Nat} (hx : ro L x = some (.slice (some ⟨b, off, none⟩) n c)) (hlo : ro L lo = some (.int k z)) (hhi : ro L hi = some (.int k' z')) (hmx : ro L mx = some (.int k'' z'')) (hz : z = (j : Int)) (hz' : z' = (m : Int)) (hz'' : z'' = (r : Int)) (hj : j ≤ m ∧ m ≤ r ∧ r ≤ c) :
    Vals P S w0 F L ⟨d, .slice T x (some lo) (some hi) (some mx), ty, pos, af, q⟩ (.slice (some ⟨b, if r = j then off else off + j * sz, none⟩) (m - j) (r - j)) := fun w _ _ => by
  obtain ⟨i, h2, h3⟩ := f.eq
  obtain ⟨q1, q2, q3⟩ := hj
  subst h3
  subst hz
  subst hz'
  subst hz''
  simp only [execOp, rho_of hx, Option.map_some, Option.map_none, rho_of hlo, rho_of hhi, rho_of hmx, Instr.sliceAt, Sem.run_bind, run_underlying u.eq, Result.andThen, Instr.slice, Instr.sliceBounds, Instr.sliceBound, asIntOf, Sem.run_pure]
  have h4 : (0 : Int) ≤ (r : Int) ∧ (r : Int) ≤ (c : Int) := ⟨by omega, by omega⟩
  simp only [h4, and_self, if_true, Sem.run_pure, Int.toNat_natCast]
  have h5 : (0 : Int) ≤ (m : Int) ∧ (m : Int) ≤ (r : Int) := ⟨by omega, by omega⟩
  simp only [h5, and_self, if_true, Sem.run_pure, Int.toNat_natCast]
  have h6 : (0 : Int) ≤ (j : Int) ∧ (j : Int) ≤ (m : Int) := ⟨by omega, by omega⟩
  simp only [h6, and_self, if_true, Sem.run_pure, sizeOf, typeInfo, Sem.run_bind, run_program, Result.andThen, h2, Int.toNat_natCast]
  by_cases hc : r = j
  · subst hc; simp
  · simp [hc, add_none]
/-- 'clear' of what stands behind an owned row, in its block. -/
theorem SG.clearT {base cap g k m : Nat} {t T : TypeId} {inf : TypeInfo} [u : Ut P t (.slice T)] [f : Inf P T inf] {z : Value} {xs : List Value} {x : Operand} {c2 : Nat} (hw : want ops L ⟨none, .call { callee := .builtin .clear, args := #[x], argTypes := #[t] }, ty, pos, af, q⟩ = some true) (hk : known L x = true)
    (hx : rho L x = .slice (some ⟨g, k * inf.size, none⟩) (m + 1) c2) (hz : inf.zero = some z) (hzs : Nat.beq z.cells.size inf.size = true) (hone : allOne z.cells.toList = true) (ho : w.ownsRow base T inf.size (.slice (some ⟨g, 0, none⟩) k cap) k xs) (hroom : k + (m + 1) ≤ cap)
    (h : ∀ w', Kp [g] w w' → w'.ownsRow base T inf.size (.slice (some ⟨g, 0, none⟩) k cap) k xs → SG P n ops Q rest L w') : SG P n ops Q (⟨none, .call { callee := .builtin .clear, args := #[x], argTypes := #[t] }, ty, pos, af, q⟩ :: rest) L w := by
  refine SG.op rfl rfl hw (by simpa [Op.operands, Call.operands] using hk) ?_
  unfold OpRun
  rcases ho with ⟨h1, ⟨h2, _⟩ | ⟨g', cap', cur, h2, hb, hg, hc1, hc2, hc3, hc4⟩⟩
  · cases h2
  · cases h2
    have hB : Blk w g (.cells cur T) := hg
    have hsz := Nat.eq_of_beq_eq_true hzs
    have hlen : (Builtin.zeroCells z.cells (m + 1)).toList.length = (m + 1) * inf.size := by rw [zeroCells_length, hsz]
    have hle : (k + (m + 1)) * inf.size ≤ cap * inf.size := Nat.mul_le_mul_right _ hroom
    have hsum : k * inf.size + (m + 1) * inf.size = (k + (m + 1)) * inf.size := by rw [← Nat.add_mul]
    have hst := run_storeCells (P := P) (b := g) (off := k * inf.size) (T := T) (Builtin.zeroCells z.cells (m + 1)).toList 0 w cur hB (by rw [hlen]; omega) (zeroCells_one hone _)
    simp only [Nat.add_zero] at hst
    have hclear : (Builtin.clear_ #[t] ty #[.slice (some ⟨g, k * inf.size, none⟩) (m + 1) c2]).run P w = .ok (.tuple #[]) { w with heap := w.heap.setIfInBounds g (.cells (spl cur.toList (k * inf.size) (Builtin.zeroCells z.cells (m + 1)).toList).toArray T) } := by
      simp only [Builtin.clear_, List.getElem?_toArray, List.getElem?_cons_zero, Sem.run_bind, run_underlying u.eq, Result.andThen_ok, run_zero hz, hst, Sem.run_pure]
    have : (execOp (rho L) ⟨none, .call { callee := .builtin .clear, args := #[x], argTypes := #[t] }, ty, pos, af, q⟩).run P w = .ok (.value (.tuple #[])) { w with heap := w.heap.setIfInBounds g (.cells (spl cur.toList (k * inf.size) (Builtin.zeroCells z.cells (m + 1)).toList).toArray T) } := by
      simp only [execOp, resolve, invoke, builtin, Sem.run_bind, Sem.run_pure, Result.andThen_ok, List.map_toArray, List.map_cons, List.map_nil, hx, hclear]
    rw [this]
    refine h _ (Kp.set w hB rfl rfl) ⟨h1, Or.inr ⟨g, cap, _, rfl, hb, hB.set _, hc1, hc2, ?_, ?_⟩⟩
    · have := spl_length (cs := cur.toList) (off := k * inf.size) (l := (Builtin.zeroCells z.cells (m + 1)).toList) (by rw [hlen]; simp; omega)
      rw [List.size_toArray, this]
      simpa using hc3
    · rw [List.toList_toArray]
      unfold spl
      rw [List.take_append_of_le_length (by rw [List.length_take]; simp; omega), List.take_take, Nat.min_self]
      exact hc4
end
end Go.Proofs.YtgbgnlboogalgaaGreat
