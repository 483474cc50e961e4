/-
  What an argument reads as, opened; and a law's row: a call that turns no old block leaves every argument as it was.
-/
import Derived.Test.YtfelaicoedlejaaTy
import Derived.ProofKit
import Derived.OpenShut
import Derived.Carry
import Derived.Deep.Slices
namespace Go.Proofs.Ytfelaicoedlejaa
open Go.ChangeShapes Go.WideShapes Go.ChangeAt Go.RowKit
set_option linter.unusedVariables false

section
variable {H : Type} {enc : TypeId × Value → H} {P : Program}

theorem Kp.below {w w' : World} (h : Kp [] w w') : Below w.heap.size w w' := ⟨h.os, h.tape, h.output, h.size, fun k hk => h.blk k hk (by simp)⟩
theorem Kp.kept {w w' : World} (h : Kp [] w w') (may : MemPlace → Prop) : w.keptBut w' may := by
  refine ⟨h.os, h.output, fun i hi => ?_⟩
  rw [h.blk i hi (by simp)]
  cases hh : w.heap[i]? with
  | none => rfl
  | some o =>
    cases o <;> simp

theorem row_of_cells {w : World} {a : Addr} {n : Nat} {cs : List Value} (h : w.cells? 0 a n = some cs) (hn : 0 < n) : ∃ b off, a = ⟨b, off, none⟩ ∧ Row w b off cs ∧ cs.length = n := by
  obtain ⟨hb, hl, hc⟩ := World.cells?_some h
  obtain ⟨b, off, spot⟩ := a
  have hv0 : cs[0]? = some (cs[0]'(by omega)) := by simp
  have hs : spot = none := by
    have := hc 0 hn
    rw [hv0] at this
    simpa [Addr.add] using World.cell?_spot this
  subst hs
  refine ⟨b, off, rfl, ?_, hl⟩
  have key : ∀ i v, cs[i]? = some v → ∃ c T f, w.heap[b]? = some (.cells c T f) ∧ c[off + i]? = some v := by
    intro i v hv
    have hi : i < n := by rw [← hl]; exact (List.getElem?_eq_some_iff.1 hv).1
    have := hc i hi
    rw [hv, add_none] at this
    unfold World.cell? at this
    split at this
    · rename_i c T f hh
      exact ⟨c, T, f, hh, by simpa using this⟩
    · cases this
  obtain ⟨c, T, f, hh, _⟩ := key 0 _ hv0
  refine ⟨c, T, f, hh, fun i v hv => ?_⟩
  obtain ⟨c', T', f', hh', h3⟩ := key i v hv
  rw [hh] at hh'
  cases hh'
  exact h3

theorem byte_of {n : Int} (h : (Lit.int .u8 n).wf = true) : ∃ u : UInt8, n = (u.toNat : Int) := by
  have : 0 ≤ n ∧ n ≤ 255 := by simpa [Lit.wf, IntKind.min, IntKind.max, IntKind.signed, IntKind.bits] using h
  refine ⟨UInt8.ofNat n.toNat, ?_⟩
  have h2 : (UInt8.ofNat n.toNat).toNat = n.toNat := by
    rw [UInt8.toNat_ofNat']; omega
  rw [h2]; omega
theorem i64_of {n : Int} (h : (Lit.int .i64 n).wf = true) : -9223372036854775808 ≤ n ∧ n ≤ 9223372036854775807 := by
  simpa [Lit.wf, IntKind.min, IntKind.max, IntKind.signed, IntKind.bits] using h

/-- A slice, whatever its elements read as: each has its row of cells, which reads. -/
structure SlOf (enc : TypeId × Value → H) (P : Program) (w : World) (e : TypeId) (a : Option Addr) (n : Nat) : Prop where
  row : ∀ i, i < n → ∃ b off cs fuel y, a = some ⟨b, off, none⟩ ∧ Row w b (off + i * P.cellsOf e) cs ∧ cs.length = P.cellsOf e ∧ DataW.trod enc P w 0 (fun _ => true) true fuel e cs = some y
theorem open_sl {w : World} {t e : TypeId} {v : Value} {d : DataW H} {ps : List MemPlace} {b0 : Nat} (ht : P.underlying t = some (.slice e)) (he : 0 < P.cellsOf e)
    (hval : Value.okWide P w .any b0 t v) (h : DataW.Trod enc P w 0 (fun _ => true) true t v d ps) :
    ∃ a n c, v = .slice a n c ∧ n ≤ c ∧ c ≤ maxLen ∧ SlOf enc P w e a n := by
  obtain ⟨fuel, hf⟩ := h
  obtain ⟨a', n', c', rfl⟩ := okWide_slice ht hval
  rcases Go.Deep.open_slice ht hf with ⟨hc, _⟩ | ⟨a, len, cap, m, n, D, Pl, hc, _, hl, hm, hmm, _, hall⟩
  · simp [Value.cells] at hc
    obtain ⟨rfl, rfl, rfl⟩ := hc
    exact ⟨none, 0, 0, rfl, by omega, by omega, ⟨fun i hi => by omega⟩⟩
  · simp [Value.cells] at hc
    obtain ⟨rfl, rfl, rfl⟩ := hc
    have hmc : m = c' := by rw [hmm]; simp
    refine ⟨some a, n', c', rfl, hl, hm, ⟨fun i hi => ?_⟩⟩
    obtain ⟨cs0, h10, _⟩ := hall 0 (by omega)
    obtain ⟨b, off, ha, _, _⟩ := row_of_cells h10 he
    have ha' : a = ⟨b, off, none⟩ := by simpa [Addr.add] using ha
    subst ha'
    obtain ⟨cs, h1, h2⟩ := hall i (by omega)
    rw [add_none] at h1
    obtain ⟨b2, off2, hb2, hr, hlen⟩ := row_of_cells h1 he
    simp only [Addr.mk.injEq] at hb2
    obtain ⟨rfl, rfl, _⟩ := hb2
    exact ⟨b, off, cs, _, _, rfl, hr, hlen, h2⟩

/-- An element of two bytes. -/
theorem two_bytes {w : World} {e : TypeId} {f0 f1 : Field} {cs : List Value} {fuel : Nat} {y : DataW H × List MemPlace} (he : P.underlying e = some (.struct #[f0, f1])) (h0 : P.underlying f0.type = some (.int .u8)) (h1 : P.underlying f1.type = some (.int .u8))
    (o0 : f0.offset = 0) (o1 : f1.offset = 1) (c0 : P.cellsOf f0.type = 1) (c1 : P.cellsOf f1.type = 1) (ce : P.cellsOf e = 2) (h : DataW.trod enc P w 0 (fun _ => true) true fuel e cs = some y) : ∃ a b : UInt8, cs = [bv a, bv b] := by
  obtain ⟨y0, y1, n, _, hl, g0, g1⟩ := trod_struct2 he h
  rw [ce] at hl
  match cs, hl with
  | [x0, x1], _ =>
    rw [o0, c0] at g0
    rw [o1, c1] at g1
    obtain ⟨n0, e0, _, w0⟩ := DataW.trod_int h0 g0
    obtain ⟨n1, e1, _, w1⟩ := DataW.trod_int h1 g1
    simp at e0 e1
    obtain ⟨a, rfl⟩ := byte_of w0
    obtain ⟨b, rfl⟩ := byte_of w1
    exact ⟨a, b, by rw [e0, e1]⟩
theorem one_byte {w : World} {e : TypeId} {cs : List Value} {fuel : Nat} {y : DataW H × List MemPlace} (he : P.underlying e = some (.int .u8)) (h : DataW.trod enc P w 0 (fun _ => true) true fuel e cs = some y) : ∃ a : UInt8, cs = [bv a] := by
  obtain ⟨n0, e0, _, w0⟩ := DataW.trod_int he h
  obtain ⟨a, rfl⟩ := byte_of w0
  exact ⟨a, e0⟩

theorem all_bytes : ∀ {cs : List Value}, (∀ x ∈ cs, ∃ u : UInt8, x = bv u) → ∃ l : List UInt8, cs = l.map bv
  | [], _ => ⟨[], rfl⟩
  | x :: cs, h => by
    obtain ⟨u, rfl⟩ := h x (by simp)
    obtain ⟨l, rfl⟩ := all_bytes (cs := cs) (fun y hy => h y (by simp [hy]))
    exact ⟨u :: l, rfl⟩
/-- An array of bytes. -/
theorem arr_bytes {w : World} {t e : TypeId} {n : Nat} {cs : List Value} {fuel : Nat} {y : DataW H × List MemPlace} (ht : P.underlying t = some (.array n e)) (he : P.underlying e = some (.int .u8)) (ce : P.cellsOf e = 1) (ct : P.cellsOf t = n) (h : DataW.trod enc P w 0 (fun _ => true) true fuel t cs = some y) : ∃ d : BA n, cs = dc d := by
  obtain ⟨xs, m, _, _, hl, hxl, hat⟩ := DataW.trod_array ht h
  rw [ct] at hl
  obtain ⟨l, hcs⟩ : ∃ l : List UInt8, cs = l.map bv := by
    refine all_bytes (fun x hx => ?_)
    obtain ⟨i, hi, rfl⟩ := List.mem_iff_getElem.1 hx
    have h1 := hat i (by omega)
    rw [ce, Nat.mul_one, List.drop_eq_getElem_cons hi, List.getElem?_eq_getElem (by omega)] at h1
    simp only [List.take_succ_cons, List.take_zero] at h1
    obtain ⟨u, hu⟩ := one_byte he h1
    exact ⟨u, by simpa using hu⟩
  subst hcs
  exact ⟨⟨l, by simpa using hl⟩, rfl⟩

theorem trodAll_stays (hl : laidOutB P = true) {W W' : World} {sp : Nat → Bool} (hb : Below W.heap.size W W') : ∀ {ts : List TypeId} {vs : List Value} {ds : List (DataW H)} {ps : List MemPlace}, (∀ t ∈ ts, P.readableRec t = true ∧ t < P.types.size) →
    (∀ p ∈ ps, p.block < W.heap.size) → (∀ p ∈ ps, sp p.block = true) → DataW.TrodAll enc P W 0 (fun _ => true) true ts vs ds ps → DataW.TrodAll enc P W' 0 sp true ts vs ds ps
  | [], [], [], ps, _, _, _, h => h
  | t :: ts, v :: vs, d :: ds, ps, ht, h1, h2, ⟨p, q, hp, hq, e⟩ => by
    subst e
    exact ⟨p, q, WideElems.Trod_stays hl (ht t (by simp)).1 (ht t (by simp)).2 hp (fun x hx => hb.same (h1 x (by simp [hx]))) (fun x hx => h2 x (by simp [hx])),
      trodAll_stays hl hb (fun t' h' => ht t' (by simp [h'])) (fun x hx => h1 x (by simp [hx])) (fun x hx => h2 x (by simp [hx])) hq, rfl⟩
  | [], _ :: _, _, _, _, _, _, h => by simp [DataW.TrodAll] at h
  | [], [], _ :: _, _, _, _, _, h => by simp [DataW.TrodAll] at h
  | _ :: _, [], _, _, _, _, _, h => by simp [DataW.TrodAll] at h
  | _ :: _, _ :: _, [], _, _, _, _, h => by simp [DataW.TrodAll] at h

/-- A law's row: it answered true and turned no old block. -/
theorem law_post {f : Func} {s : ChangeSpec} {fresh handsOn again : Bool} {W W' : World} {args : Array Value} {ds gs : List (DataW H)} {before : List MemPlace} {tb : TypeId} (hl : laidOutB P = true) (ht : ∀ t ∈ f.params.toList, P.readableRec t = true ∧ t < P.types.size)
    (hs : s.vars = []) (hW : DataW.Whole enc P f.params.toList s.vars false W args.toList ds gs before) (hfn : s.fn H ds = { results := [.lit (.bool true)], args := ds }) (hr : f.resultTypes = #[tb]) (hb : P.underlying tb = some .bool) (hk : Kp [] W W') :
    s.post enc P f false fresh handsOn again W args (.bool true) W' := by
  have hlt := hW.lt
  have hW' := hW
  obtain ⟨p, q, hA, hV, rfl, hfz, hnd⟩ := hW
  have hV' := hV
  rw [hs] at hV
  obtain ⟨rfl, rfl⟩ := trodVars_none hV
  simp only [List.append_nil] at hlt hW'
  have hd : s.fn H (ds ++ []) = { results := [.lit (.bool true)], args := ds } := by rw [List.append_nil]; exact hfn
  have hargs : ∀ sp : Nat → Bool, (∀ p' ∈ p, sp p'.block = true) → DataW.TrodAll enc P W' 0 sp true f.params.toList args.toList (s.fn H (ds ++ [])).args p := fun sp hsp => by
    rw [hd]
    exact trodAll_stays hl hk.below ht hlt hsp hA
  have hres : ∀ (b : Nat) (sp : Nat → Bool) (h : Bool), DataW.TrodAll enc P W' b sp h f.resultTypes.toList ((Value.bool true).resultList f.resultTypes.size) (s.fn H (ds ++ [])).results [] := fun _ _ _ => by
    rw [hd, hr]
    exact trodAll_mk1 (shut_bool hb _)
  have hvars : ∀ sp : Nat → Bool, DataW.TrodVars enc P W' sp s.vars (s.fn H (ds ++ [])).vars [] := fun _ => by
    rw [hd, hs]
    exact rfl
  have hin : ∀ p' ∈ p, decide (p'.block < W.heap.size) = true := fun p' hp => decide_eq_true (hlt p' hp)
  refine ⟨ds, [], p, [], p, [], hW', hres _ _ _, hargs (fun b => decide (b < W.heap.size)) hin, hvars _, World.keptBut_mono (fun p' hp => ⟨hp, Or.inr (Or.inl hp)⟩) (hk.kept _), fun _ => ⟨ok_one hr rfl (okWide_bool_mk hb _), _, _, p, ⟨p, [], trodAll_append (hargs _ (fun _ _ => rfl)) (hres _ _ _), hvars _, by simp, ?_, ?_⟩, fun p' hp _ => hp⟩⟩
  · intro b off hp
    rw [hk.fz _ (hlt _ hp)]
    exact hfz b off (List.mem_append_left _ hp)
  · intro ha
    exact absurd ha (by simp)
end
end Go.Proofs.Ytfelaicoedlejaa
