/-
  PoolNil answers true for every input, and leaves its arguments as they were. No conditions.
-/
import Derived.Test.YtgbgnlboogalgaaZn3
namespace Go.Proofs.Ytgbgnlboogalgaa
open Go.Proofs
set_option linter.unusedVariables false
/-- Transactions that come in, of any length. -/
structure TxsR (w : World) (n : Nat) (a : Option Addr) (xs : List Tm) : Prop where
  sl : Sl txc 13 w a xs
  rd : ∀ x ∈ xs, x.Rd n w
theorem TxsR.kp0 {w w' : World} {n : Nat} {a : Option Addr} {xs : List Tm} (h : TxsR w n a xs) (hk : Kp [] w w') : TxsR w' n a xs := ⟨h.sl.kp0 hk, fun x hx => (h.rd x hx).kp0 hk⟩
structure TxsN (w : World) (base n : Nat) (v : Value) (xs : List Tm) : Prop where
  own : w.ownsRow base 35 13 v xs.length (flt txc xs)
  ins : ∀ x ∈ xs, x.In n w
theorem TxsN.nil {w : World} {base n : Nat} : TxsN w base n (.slice none 0 0) [] := ⟨own_nil, fun x h => (by cases h)⟩
theorem TxsN.toI {w : World} {base n : Nat} {v : Value} {xs : List Tm} (h : TxsN w base n v xs) : ∃ a c, v = .slice a xs.length c ∧ xs.length ≤ c ∧ TxsI w n a xs := by
  obtain ⟨a, c, rfl, hc, hS⟩ := Sl.own txc_length h.own rfl
  exact ⟨a, c, rfl, hc, hS, Or.inl (Ty.own h.own), h.ins⟩
/-- A pool that comes to be filled. -/
noncomputable def fillL (ts : List Tx) : Nat → List En
  | 0 => []
  | i + 1 => match ts[i]? with
    | some t => addE 30 (fillL ts i) ((i / 3 : Nat) : Int) t
    | none => fillL ts i
noncomputable def fill (ts : List Tx) : List En := fillL ts ts.length
attribute [local irreducible] CG NG SG Vals Der Row Blk MapIs IterAt DerX DerR wrongT nameT
set_option maxHeartbeats 16000000 in
theorem cuts_spec {w : World} {n : Nat} {a : Option Addr} {c : Nat} {xs : List Tm} (hX : TxsR w n a xs) {most : Nat} (hm : most ≤ 1000) (hn : n ≤ w.heap.size) :
    Calls Try.prog 10 #[.slice a xs.length c, .int .i64 (most : Int)] w (fun e w' => ∃ v', e = .returned v' ∧ Kp [] w w' ∧ TxsN w' w.heap.size n v' ((xs.take most).map cutM)) := by
  refine enter2 Try.func10 rfl Try.ntmps10 rfl ?_
  repeat (first|apply cA|apply cB|apply cD|apply cE|apply cG|refine cU rfl rfl rfl rfl (by first|(apply qas<;>(exact rfl))|fail) ?_)
  refine CG.loop (X := Nat × Value) (fun x => [(0, .slice a xs.length c), (1, .int .i64 (most : Int)), (5, x.2), (6, .int .i64 (x.1 : Int))])
    (fun x w' => x.1 ≤ xs.length ∧ x.1 ≤ most ∧ Kp [] w w' ∧ TxsN w' w.heap.size n x.2 ((xs.take x.1).map cutM)) (fun x => xs.length - x.1) (0, .slice none 0 0) ⟨Nat.zero_le _, Nat.zero_le _, Kp.refl _ _, TxsN.nil⟩ (by (repeat' (first | exact True.intro | exact rfl | refine And.intro ?_ ?_))) ?_
  rintro ⟨i, vr⟩ w1 ⟨hi, him, hk1, hN⟩
  simp only at hi him hN
  refine CG.to [(0, .slice a xs.length c), (1, .int .i64 (most : Int)), (5, vr), (6, .int .i64 (i : Int))] (by (repeat' (first | exact True.intro | exact rfl | refine And.intro ?_ ?_))) ?_
  by_cases h1 : i < xs.length
  rotate_left
  · have g1 : ¬ (i : Int) < (xs.length : Int) := by omega
    have e : xs.take most = xs.take i := by rw [List.take_of_length_le (by omega), List.take_of_length_le (by omega)]
    rw [e]
    repeat (first | first|apply cA|apply cB|apply cD|apply cE|refine cU rfl rfl rfl rfl (by first|((first|apply qmv|apply qpk|apply qls|apply qln)<;>(first|exact rfl|exact dcf (by first|assumption|omega)|fail))|fail) ?_ | refine SG.skip rfl rfl ?_)
    refine cX rfl (by exact rho_of rfl) rfl ?_
    repeat (first|apply cA|apply cB|apply cD|apply cE|apply cH|apply cJ|apply cK|refine cM rfl ?_|refine cU rfl rfl rfl rfl (by first|((first|apply qmv|apply qas)<;>(exact rfl))|fail) ?_)
    refine ret1 (Or.inl rfl) Try.results10 (by first | exact ResV.tmp rfl | exact ResV.agg rfl rfl (by assumption) (by first | exact dc_length _ | exact nc_length _ | exact rc_length _ _ _ | exact ec_length _ | exact dl_length _ _ _ _ | rfl) | exact ResV.cell rfl rfl (by assumption)) ?_
    exact ⟨vr, rfl, hk1, hN⟩
  have g1 : (i : Int) < (xs.length : Int) := by omega
  by_cases h2 : i < most
  rotate_left
  · have g2 : ¬ (i : Int) < (most : Int) := by omega
    have e : i = most := by omega
    subst e
    repeat (first|apply cA|apply cB|apply cD|apply cE|refine cU rfl rfl rfl rfl (by first|((first|apply qmv|apply qpk|apply qls|apply qln)<;>(first|exact rfl|exact dct (by first|assumption|omega)|exact dcf (by first|assumption|omega)|fail))|fail) ?_)
    refine cX rfl (by exact rho_of rfl) rfl ?_
    repeat (first|apply cA|apply cB|apply cD|apply cE|apply cH|apply cJ|apply cK|refine cM rfl ?_|refine cU rfl rfl rfl rfl (by first|((first|apply qmv|apply qas)<;>(exact rfl))|fail) ?_)
    refine ret1 (Or.inl rfl) Try.results10 (by first | exact ResV.tmp rfl | exact ResV.agg rfl rfl (by assumption) (by first | exact dc_length _ | exact nc_length _ | exact rc_length _ _ _ | exact ec_length _ | exact dl_length _ _ _ _ | rfl) | exact ResV.cell rfl rfl (by assumption)) ?_
    exact ⟨vr, rfl, hk1, hN⟩
  have g2 : (i : Int) < (most : Int) := by omega
  have hX1 := hX.kp0 hk1
  obtain ⟨b1, o1, rfl, hri⟩ := hX1.sl.at h1
  have hrd := hX1.rd _ (List.getElem_mem h1)
  have hlen : ((xs.take i).map cutM).length = i := by rw [List.length_map, List.length_take]; omega
  have hsu : (xs.take (i + 1)).map cutM = (xs.take i).map cutM ++ [cutM xs[i]] := by
    rw [List.take_succ_eq_append_getElem h1, List.map_append]
    rfl
  have s1 := hk1.size
  repeat (first|apply cA|apply cB|apply cD|apply cE|refine cU rfl rfl rfl rfl (by first|((first|apply qmv|apply qpk|apply qls|apply qln)<;>(first|exact rfl|exact dct (by first|assumption|omega)|fail))|fail) ?_)
  refine cV rfl (by exact rho_of rfl) rfl ?_
  repeat (first|apply cA|apply cB|apply cE|apply cF|apply cG|refine cU rfl rfl rfl rfl (by first|((first|apply qmv|apply qla|apply qix)<;>(first|exact rfl|exact Ar.mk (by omega)|assumption|exact List.not_mem_nil|apply txc_length|fail))|fail) ?_)
  refine SG.ret rfl rfl rfl (vs := [txv xs[i]]) (by repeat' (first | exact True.intro | exact rho_of rfl | refine And.intro ?_ ?_)) (cut_spec hrd) (fun w2 hk2 => ?_)
  refine SG.buildSlice rfl rfl rfl rfl (bstx (cutM xs[i])) (fun b6 w3 hk3 hb6 hB6 => ?_)
  have hS6 : Sl txc 13 w3 (some ⟨b6, 0, none⟩) [cutM xs[i]] := sl_one txc_length hB6
  have k13 := hk2.trans hk3
  clear hri
  skip
  refine SG.appO (enc := txc) (xs := (xs.take i).map cutM) (ys := [cutM xs[i]]) (base := w.heap.size) rfl rfl rfl (by exact rho_of rfl) (by exact rho_of rfl) rfl rfl rfl rfl txc_length txc_one (own_kp0 hN.own k13) hS6 (by rw [hlen]; simp only [maxLen, List.length_cons, List.length_nil]; omega) (by rw [hlen]; simp only [List.length_cons, List.length_nil]; show (_ + _) * 80 ≤ _; omega) (by have := k13.size; omega) (fun v' w4 hk4 ho4 hv4 => ?_)
  have hO : Oth n w3 (ownB vr) := Oth.own (own_kp0 hN.own k13) hn (by decide)
  repeat (first|apply cB|apply cD|apply cE|apply cQ|refine cU rfl rfl rfl rfl (by first|((first|apply qmv|apply qas|apply qad)<;>(first|exact rfl|exact Ar.mk (by omega)|fail))|fail) ?_)
  refine NG.round (i + 1, v') (by (repeat' (first | exact True.intro | exact rfl | refine And.intro ?_ ?_))) ⟨by simp only; omega, by simp only; omega, (hk1.trans k13).trans_new hk4 (fun z hz => Or.inr (own_geB hN.own z (ownB_mem hz))), ?_⟩ (by simp only; omega)
  simp only
  rw [hsu]
  refine ⟨ho4, fun y hy => ?_⟩
  rcases List.mem_append.1 hy with hy | hy
  · exact ((hN.ins y hy).kp0 k13).kpO hk4 hO
  · rw [List.mem_singleton] at hy
    subst hy
    exact ((cutM_in hrd).kp0 k13).kpO hk4 hO
end Go.Proofs.Ytgbgnlboogalgaa
namespace Go.Proofs.Ytgbgnlboogalgaa
open Go.ChangeShapes Go.WideShapes Go.ChangeAt Go.RowKit
set_option linter.unusedVariables false
theorem own : ownKnob Try.prog.godebug = none := by kernel_rfl
theorem laidOut : laidOutB Try.prog = true := by kernel_rfl
theorem cells5 : Try.prog.cellsOf 5 = 1 := by kernel_rfl
theorem cells3 : Try.prog.cellsOf 3 = 1 := by kernel_rfl
theorem cellsD : Try.prog.cellsOf 32 = 8 := by kernel_rfl
theorem cellsB : Try.prog.cellsOf 33 = 1 := by kernel_rfl
theorem cellsT : Try.prog.cellsOf 35 = 13 := by kernel_rfl
theorem cellsTs : Try.prog.cellsOf 22 = 1 := by kernel_rfl
theorem cellsA : Try.prog.cellsOf 64 = 3 := by kernel_rfl
theorem fit_of {n : Int} (h : (Lit.int .i64 n).wf = true) : fit64 n := i64_of h
/-- The elements of a slice, by how one is read. -/
theorem elems_of {H α : Type} {en : TypeId × Value → H} {P : Program} {w : World} {e : TypeId} {a : Option Addr} {n : Nat} (enc : α → List Value) (p : α → Prop) (h : SlOf en P w e a n)
    (rd : ∀ cs fuel y, DataW.trod en P w 0 (fun _ => true) true fuel e cs = some y → ∃ x : α, cs = enc x ∧ p x) : ∃ l : List α, l.length = n ∧ Sl enc (P.cellsOf e) w a l ∧ ∀ x ∈ l, p x := by
  have key : ∀ i : _root_.Fin n, ∃ x : α, (∃ b off, a = some ⟨b, off, none⟩ ∧ Row w b (off + i.1 * P.cellsOf e) (enc x)) ∧ p x := by
    intro i
    obtain ⟨b, off, cs, fuel, y, h1, h2, h3, h4⟩ := h.row i.1 i.2
    obtain ⟨x, rfl, hp⟩ := rd cs fuel y h4
    exact ⟨x, ⟨b, off, h1, h2⟩, hp⟩
  refine ⟨List.ofFn (fun i => Classical.choose (key i)), by simp, fun i x hx => ?_, fun x hx => ?_⟩
  · rw [List.getElem?_ofFn] at hx
    split at hx
    · rename_i hi
      cases hx
      exact (Classical.choose_spec (key ⟨i, hi⟩)).1
    · cases hx
  · obtain ⟨i, rfl⟩ := List.mem_ofFn.1 hx
    exact (Classical.choose_spec (key i)).2
theorem cut_drop {α : Type} (l : List α) (a n : Nat) : l.drop a = (l.drop a).take n ++ l.drop (a + n) := by
  rw [← List.drop_drop, List.take_append_drop]
theorem sl_cell {H : Type} {enc : TypeId × Value → H} {P : Program} {w : World} {t e : TypeId} {cs : List Value} {fuel : Nat} {y : DataW H × List MemPlace} (ht : P.underlying t = some (.slice e)) (he : 0 < P.cellsOf e)
    (hf : DataW.trod enc P w 0 (fun _ => true) true fuel t cs = some y) : ∃ a n c, cs = [.slice a n c] ∧ n ≤ c ∧ c ≤ maxLen ∧ SlOf enc P w e a n ∧ (n = 0 ∧ a = none ∨ (∃ b off, a = some ⟨b, off, none⟩) ∨ (n = 0 ∧ c = 0)) := by
  rcases Go.Deep.open_slice ht hf with ⟨hc, _⟩ | ⟨a, len, cap, m, n, D, Pl, hc, _, hl, hm, hmm, _, hall⟩
  · exact ⟨none, 0, 0, hc, by omega, by omega, ⟨fun i hi => by omega⟩, Or.inl ⟨rfl, rfl⟩⟩
  · subst hc
    have hmc : m = cap := by rw [hmm]; simp
    by_cases h0 : cap = 0
    · exact ⟨some a, len, cap, rfl, hl, hm, ⟨fun i hi => by omega⟩, Or.inr (Or.inr ⟨by omega, h0⟩)⟩
    obtain ⟨cs0, h10, _⟩ := hall 0 (by omega)
    obtain ⟨b, off, ha, _, _⟩ := row_of_cells h10 he
    have ha' : a = ⟨b, off, none⟩ := by simpa [Addr.add] using ha
    subst ha'
    refine ⟨some ⟨b, off, none⟩, len, cap, rfl, hl, hm, ⟨fun i hi => ?_⟩, Or.inr (Or.inl ⟨b, off, rfl⟩)⟩
    obtain ⟨cs, h1, h2⟩ := hall i (by omega)
    rw [add_none] at h1
    obtain ⟨b2, off2, hb2, hr, hlen⟩ := row_of_cells h1 he
    cases hb2
    exact ⟨b, off, cs, n, _, rfl, hr, hlen, h2⟩
theorem bytes_of {H : Type} {enc : TypeId × Value → H} {w : World} {a : Option Addr} {n : Nat} (h : SlOf enc Try.prog w 5 a n) : ∃ l : List UInt8, l.length = n ∧ Sl by1 1 w a l := by
  obtain ⟨l, h1, h2, _⟩ := elems_of (fun u : UInt8 => [bv u]) (fun _ => True) h (fun cs fuel y hy => by
    obtain ⟨u, hu⟩ := one_byte Try.underlying5 hy
    exact ⟨u, hu, trivial⟩)
  rw [cells5] at h2
  exact ⟨l, h1, h2⟩
theorem bs_of {H : Type} {enc : TypeId × Value → H} {w : World} {cs : List Value} {fuel : Nat} {y : DataW H × List MemPlace} (hf : DataW.trod enc Try.prog w 0 (fun _ => true) true fuel 33 cs = some y) : ∃ a c l, cs = [.slice a l.length c] ∧ Bs w a c l ∧ Tb w.heap.size w a l := by
  obtain ⟨a, n, c, e, hn, hc, hs, hsp⟩ := sl_cell Try.underlying33 (by rw [cells5]; omega) hf
  obtain ⟨l, hl, hS⟩ := bytes_of hs
  subst hl
  have hlt : l ≠ [] → ∀ b off, a = some ⟨b, off, none⟩ → b < w.heap.size := fun hne b off e => hS.ltN hne b off e
  refine ⟨a, c, l, e, ⟨hS, hn, ?_, hlt⟩, ?_⟩
  · rcases hsp with ⟨h1, h2⟩ | h | ⟨h1, h2⟩
    · exact Or.inl ⟨List.eq_nil_of_length_eq_zero h1, h2⟩
    · exact Or.inr (Or.inl h)
    · exact Or.inr (Or.inr ⟨List.eq_nil_of_length_eq_zero h1, h2⟩)
  · by_cases h : l = []
    · exact Or.inl (fun hne => absurd h hne)
    · exact Or.inr (hlt h)
set_option maxRecDepth 100000 in
theorem tx_of {H : Type} {enc : TypeId × Value → H} {w : World} {cs : List Value} {fuel : Nat} {y : DataW H × List MemPlace} (h : DataW.trod enc Try.prog w 0 (fun _ => true) true fuel 35 cs = some y) : ∃ x : Tm, cs = txc x ∧ x.Rd w.heap.size w ∧ fit64 x.t.non ∧ fit64 x.t.fee ∧ fit64 x.t.kind := by
  obtain ⟨xs, m, _, _, hl, hlen, hf⟩ := DataW.trod_struct Try.underlying35 h
  rw [cellsT] at hl
  match xs, hlen with
  | [y0, y1, y2, y3, y4, y5], _ =>
    have h0 : DataW.trod enc Try.prog w 0 (fun _ => true) true m 32 ((cs.drop 0).take (Try.prog.cellsOf 32)) = some y0 := hf 0 _ rfl
    have h1 : DataW.trod enc Try.prog w 0 (fun _ => true) true m 3 ((cs.drop 8).take (Try.prog.cellsOf 3)) = some y1 := hf 1 _ rfl
    have h2 : DataW.trod enc Try.prog w 0 (fun _ => true) true m 3 ((cs.drop 9).take (Try.prog.cellsOf 3)) = some y2 := hf 2 _ rfl
    have h3 : DataW.trod enc Try.prog w 0 (fun _ => true) true m 3 ((cs.drop 10).take (Try.prog.cellsOf 3)) = some y3 := hf 3 _ rfl
    have h4 : DataW.trod enc Try.prog w 0 (fun _ => true) true m 33 ((cs.drop 11).take (Try.prog.cellsOf 33)) = some y4 := hf 4 _ rfl
    have h5 : DataW.trod enc Try.prog w 0 (fun _ => true) true m 33 ((cs.drop 12).take (Try.prog.cellsOf 33)) = some y5 := hf 5 _ rfl
    rw [cellsD] at h0
    rw [cells3] at h1 h2 h3
    rw [cellsB] at h4 h5
    obtain ⟨d0, e0⟩ := arr_bytes Try.underlying32 Try.underlying5 cells5 cellsD h0
    obtain ⟨n1, e1, _, f1⟩ := DataW.trod_int Try.underlying3 h1
    obtain ⟨n2, e2, _, f2⟩ := DataW.trod_int Try.underlying3 h2
    obtain ⟨n3, e3, _, f3⟩ := DataW.trod_int Try.underlying3 h3
    obtain ⟨a4, c4, l4, e4, hB4, hT4⟩ := bs_of h4
    obtain ⟨a5, c5, l5, e5, hB5, hT5⟩ := bs_of h5
    refine ⟨⟨⟨d0, n1, n2, n3, l4, l5⟩, a4, c4, a5, c5⟩, ?_, ⟨hB4, hB5, hT4, hT5⟩, fit_of f1, fit_of f2, fit_of f3⟩
    have hd : cs.drop (12 + 1) = [] := List.drop_of_length_le (by omega)
    have e : cs = cs.drop 0 := rfl
    rw [e, cut_drop cs 0 8, e0, cut_drop cs (0 + 8) 1, e1, cut_drop cs (0 + 8 + 1) 1, e2, cut_drop cs (0 + 8 + 1 + 1) 1, e3, cut_drop cs (0 + 8 + 1 + 1 + 1) 1, e4, cut_drop cs (0 + 8 + 1 + 1 + 1 + 1) 1, e5, hd]
    simp [txc, Tm.b, Tm.s]
theorem txs_of {H : Type} {enc : TypeId × Value → H} {w : World} {a : Option Addr} {n : Nat} (h : SlOf enc Try.prog w 35 a n) : ∃ l : List Tm, l.length = n ∧ TxsR w w.heap.size a l := by
  obtain ⟨l, h1, h2, h3⟩ := elems_of txc (fun x => x.Rd w.heap.size w) h (fun cs fuel y hy => by
    obtain ⟨x, e, hr, -⟩ := tx_of hy
    exact ⟨x, e, hr⟩)
  rw [cellsT] at h2
  exact ⟨l, h1, h2, h3⟩
end Go.Proofs.Ytgbgnlboogalgaa
namespace Go.Proofs.Ytgbgnlboogalgaa
open Go.Proofs
set_option linter.unusedVariables false
open Classical in
noncomputable def backS (room h : Int) (s : List En × Int) (t : Tx) : List En × Int := if (s.1.find? (isK t.frm t.non)).isSome then s else (addE room s.1 h t, if addZ room s.1 h t = 0 then s.2 + 1 else s.2)
noncomputable def backL (room : Int) (l : List En) (h : Int) (ts : List Tx) : List En × Int := ts.foldl (backS room h) (l, 0)
attribute [local irreducible] CG NG SG Vals Der Row Blk MapIs IterAt nameT wrongT
end Go.Proofs.Ytgbgnlboogalgaa
namespace Go.Proofs.Ytgbgnlboogalgaa
open Go.Proofs
set_option linter.unusedVariables false
open Classical in
noncomputable def enEq (a b : En) : Bool := decide (a = b)
open Classical in
noncomputable def ensEq (a b : List En) : Bool := decide (a = b)
attribute [local irreducible] CG NG SG Vals Der Row Blk MapIs IterAt nameT wrongT
end Go.Proofs.Ytgbgnlboogalgaa
namespace Go.Proofs.Ytgbgnlboogalgaa
open Go.Proofs
set_option linter.unusedVariables false
abbrev bcv (b : Bool) : Value := .bool b
/-- Left out: of a key, from a number on. -/
def exB (L : List (Dg × Int)) (e : En) : Bool := L.any (fun p => decide (p.1 = e.key ∧ p.2 ≤ e.non))
def outL (l : List En) (ns : List Dg) : List (Dg × Int) := (l.filter (fun e => decide (nameT e.t ∈ ns))).map pairE
/-- How many are left to be taken, when so many might have been. -/
def leftZ (most : Int) (c : Nat) : Int := if most ≤ c then (if most ≤ 0 then most else 0) else most - c
def cntN (q : Nat → Bool) (pre : List Nat) : Nat := (pre.filter q).length
def takeG (q : Nat → Bool) (most : Int) (pre : List Nat) (j : Nat) : Bool := q j && decide ((cntN q pre : Int) < most)
attribute [local irreducible] CG NG SG Vals Der Row Blk MapIs IterAt nameT wrongT
end Go.Proofs.Ytgbgnlboogalgaa
namespace Go.Proofs.Ytgbgnlboogalgaa
open Go.Proofs
set_option linter.unusedVariables false
def keyD (k : UInt8) : Dg := ⟨[k, 0, 0, 0, 0, 0, 0, 0], rfl⟩
def oneT (k : UInt8) (n f : Int) : Tx := ⟨keyD k, n, f, 2, [], []⟩
def oneM (k : UInt8) (n f : Int) : Tm := ⟨oneT k n f, none, 0, none, 0⟩
theorem oneM_in (k : UInt8) (n f : Int) (m : Nat) (w : World) : (oneM k n f).In m w :=
  ⟨Bs.nil, Bs.nil, Or.inr (fun _ _ e => by cases e), Or.inr (fun _ _ e => by cases e), Nat.zero_le _, Nat.zero_le _⟩
theorem wrong_one {k : UInt8} {n f : Int} (h0 : 0 ≤ n) (h1 : n ≤ 1099511627776) (h2 : 0 ≤ f) (h3 : f ≤ 1125899906842624) : wrongT (oneT k n f) = 0 := by
  unfold wrongT
  rw [if_pos ⟨h0, h1, h2, h3, (by show (0 : Int) ≤ 2; decide), (by show (2 : Int) ≤ 2; decide), Nat.zero_le _, Nat.zero_le _⟩, if_neg (by show ¬ (2 : Int) = 0; decide)]
theorem addE_new {room h : Int} {l : List En} {t : Tx} (h1 : ¬ (h < 0 ∨ 1099511627776 < h)) (h2 : wrongT t = 0) (h3 : l.find? (isK t.frm t.non) = none) (h4 : (l.length : Int) < room) : addZ room l h t = 0 ∧ addE room l h t = l ++ [⟨t, h⟩] := by
  have hz := addZ_ok (room := room) h1 h2 h3 (by omega)
  refine ⟨hz, ?_⟩
  unfold addE
  rw [if_pos hz]
  unfold addL
  rw [erase_none h3]
def e1 : En := ⟨oneT 1 0 1, 3⟩
def e2 : En := ⟨oneT 1 1 9, 3⟩
def e3 : En := ⟨oneT 2 0 5, 3⟩
theorem ord_known : ordE [e1, e2, e3] = [e3, e1, e2] := by
  refine Ord.eq ?_
  have hb : ∀ l, e1 ∈ l → ¬ Frst En.key En.non l e2 := fun l h hf => by
    have := hf e1 h (by decide)
    revert this
    decide
  refine .step [e1, e2] e3 [] _ ⟨fun o ho hk => ?_, fun o ho hf => ?_, fun o ho hf => ?_⟩ (.step [] e1 [e2] _ ⟨fun o ho hk => ?_, fun o ho hf => ?_, fun o ho hf => (by cases ho)⟩ (.step [] e2 [] _ ⟨fun o ho hk => ?_, fun o ho hf => ?_, fun o ho hf => (by cases ho)⟩ .nil))
  · simp only [List.cons_append, List.nil_append, List.mem_cons, List.not_mem_nil, or_false] at ho
    rcases ho with rfl | rfl | rfl
    · exact absurd hk (by decide)
    · exact absurd hk (by decide)
    · exact Int.le_refl _
  · have ho' := ho
    simp only [List.cons_append, List.nil_append, List.mem_cons, List.not_mem_nil, or_false] at ho
    rcases ho with rfl | rfl | rfl
    · decide
    · exact absurd hf (hb _ (by simp))
    · exact Int.le_refl _
  · simp only [List.mem_cons, List.not_mem_nil, or_false] at ho
    rcases ho with rfl | rfl
    · decide
    · exact absurd hf (hb _ (by simp))
  · simp only [List.nil_append, List.mem_cons, List.not_mem_nil, or_false] at ho
    rcases ho with rfl | rfl
    · exact Int.le_refl _
    · decide
  · simp only [List.nil_append, List.mem_cons, List.not_mem_nil, or_false] at ho
    rcases ho with rfl | rfl
    · exact Int.le_refl _
    · exact absurd hf (hb _ (by simp))
  · simp only [List.nil_append, List.mem_cons, List.not_mem_nil, or_false] at ho
    subst ho
    exact Int.le_refl _
  · simp only [List.nil_append, List.mem_cons, List.not_mem_nil, or_false] at ho
    subst ho
    exact Int.le_refl _
theorem map3 {xs : List Tm} {a b c : Tx} (h : xs.map (·.t) = [a, b, c]) : ∃ x y z, xs = [x, y, z] ∧ x.t = a ∧ y.t = b ∧ z.t = c := by
  cases xs with
  | nil => cases h
  | cons x xs =>
    cases xs with
    | nil => cases h
    | cons y xs =>
      cases xs with
      | nil => cases h
      | cons z xs =>
        cases xs with
        | nil =>
          simp only [List.map_cons, List.map_nil, List.cons.injEq, and_true] at h
          exact ⟨x, y, z, rfl, h.1, h.2.1, h.2.2⟩
        | cons u xs => simp at h
theorem must5 : (([e3, e1, e2].filter (upB (dueL [e1, e2, e3] 5 2))).map (·.t)).length = 0 := by rw [List.length_map]; decide
theorem must6 : (([e3, e1, e2].filter (upB (dueL [e1, e2, e3] 6 2))).map (·.t)).length = 3 := by rw [List.length_map]; decide
theorem bkey (k : UInt8) (w : World) : (Instr.build 32 #[(0, bv k)]).run Try.prog w = .ok (dv (keyD k)) w := by kernel_rfl
theorem bone (k : UInt8) (n f : Int) (w : World) : (Instr.build 35 #[(0, dv (keyD k)), (1, .int .i64 n), (2, .int .i64 f), (3, .int .i64 2)]).run Try.prog w = .ok (txv (oneM k n f)) w := by kernel_rfl
theorem bbnd (l : Int) (w : World) : (Instr.build 42 #[(1, .int .i64 l)]).run Try.prog w = .ok (.agg #[.int .i64 0, .int .i64 l, .int .i64 0]) w := by kernel_rfl
attribute [local irreducible] CG NG SG Vals Der Row Blk MapIs IterAt DerX DerR wrongT nameT
set_option maxHeartbeats 16000000 in
theorem one_spec (k : UInt8) (n f : Int) (w : World) : Ret Try.prog 19 #[bv k, .int .i64 n, .int .i64 f] w (txv (oneM k n f)) := by
  refine enter3 Try.func19 rfl Try.ntmps19 rfl ?_
  repeat (first|apply cA|apply cB)
  refine SG.alloc rfl rfl rfl (fun b2 w2 hk2 hb2 hB2 => ?_)
  have hB2 : Blk w2 b2 (.cells (txc ⟨⟨zd, 0, 0, 0, [], []⟩, none, 0, none, 0⟩).toArray 35) := hB2
  repeat (first|apply cA|apply cB|apply cD|apply cE|refine cU rfl rfl rfl rfl (by first|(apply qmv<;>(exact rfl))|fail) ?_)
  refine cU rfl rfl rfl rfl (vals_build rfl (bkey k)) ?_
  repeat (first|refine cU rfl rfl rfl rfl (by first|(apply qmv<;>(exact rfl))|fail) ?_)
  refine cU rfl rfl rfl rfl (vals_build rfl (bone k n f)) ?_
  refine SG.setAll (l := txc (oneM k n f)) rfl rfl (by exact rho_of rfl) (by exact rho_of rfl) hB2 (txc_length _) rfl (txc_one _) (fun w3 hk3 hB2 => ?_)
  have hr : Row w3 b2 0 (txc (oneM k n f)) := Row.all hB2 rfl
  repeat (first|apply cD|apply cE|apply cH)
  refine ret1 (Or.inl rfl) Try.results19 (ResV.agg rfl rfl hr (txc_length _)) ?_
  exact ⟨rfl, hk2.trans_new hk3 (new1 (by omega))⟩
set_option maxHeartbeats 32000000 in
theorem known_spec (w : World) : Ret Try.prog 12 #[] w (.bool true) := by
  refine enter0 Try.func12 rfl Try.ntmps12 ?_
  have h00 : (0 : Int) = 0 := rfl
  have hnn : ∀ (b : Nat), True := fun _ => trivial
  have a1 := addE_new (room := 4) (h := 3) (l := []) (t := oneT 1 0 1) (by decide) (wrong_one (by decide) (by decide) (by decide) (by decide)) rfl (by decide)
  have a2 := addE_new (room := 4) (h := 3) (l := [e1]) (t := oneT 1 1 9) (by decide) (wrong_one (by decide) (by decide) (by decide) (by decide)) rfl (by decide)
  have a3 := addE_new (room := 4) (h := 3) (l := [e1, e2]) (t := oneT 2 0 5) (by decide) (wrong_one (by decide) (by decide) (by decide) (by decide)) rfl (by decide)
  have i0 : PInv 4 [] := inv_nil (by decide)
  have i1 : PInv 4 [e1] := by
    have := addE_inv (h := 3) (t := oneT 1 0 1) i0
    rw [a1.2] at this
    exact this
  have i2 : PInv 4 [e1, e2] := by
    have := addE_inv (h := 3) (t := oneT 1 1 9) i1
    rw [a2.2] at this
    exact this
  have i3 : PInv 4 [e1, e2, e3] := by
    have := addE_inv (h := 3) (t := oneT 2 0 5) i2
    rw [a3.2] at this
    exact this
  repeat (first|apply cA|apply cB|apply cD|apply cE|refine cU rfl rfl rfl rfl (by first|(apply qas<;>(exact rfl))|fail) ?_)
  refine SG.call rfl rfl rfl (vs := [.int .i64 4]) (by repeat' (first | exact True.intro | exact rho_of rfl | refine And.intro ?_ ?_)) ((new_spec (w := w) (room := 4) (by omega) (by omega)).mono (fun e w1 hh => ?_))
  obtain ⟨p, he, hp, hk1, hP⟩ := hh
  refine ⟨_, he, ?_⟩
  clear he
  have hP := hP w.heap.size (Nat.le_refl _)
  repeat (first|apply cA|apply cB|apply cD|apply cE|refine cU rfl rfl rfl rfl (by first|((first|apply qep|apply qmv|apply qas|apply qpk|apply qni|apply qxt|apply qep)<;>(first|exact rfl|exact dct (by first|assumption|omega)|fail))|fail) ?_)
  refine SG.ret rfl rfl rfl (vs := [bv 1, .int .i64 0, .int .i64 1]) (by repeat' (first | exact True.intro | exact rho_of rfl | refine And.intro ?_ ?_)) (one_spec 1 0 1 w1) (fun w2 hk2 => ?_)
  have hP2 := hP.kp0 hk2
  refine SG.call rfl rfl rfl (vs := [.pointer (some ⟨p, 0, none⟩), .int .i64 3, txv (oneM 1 0 1)]) (by repeat' (first | exact True.intro | exact rho_of rfl | refine And.intro ?_ ?_)) ((add_spec (h := 3) hP2 (oneM_in 1 0 1 _ _) i0 (by omega)).mono (fun e w3 hh => ?_))
  obtain ⟨he, v3, ms3, hP3, hm3, hk3, hv3⟩ := hh
  rw [show addZ 4 (List.map Em.en []) 3 (oneM 1 0 1).t = 0 from a1.1] at he
  rw [show addE 4 (List.map Em.en []) 3 (oneM 1 0 1).t = [e1] from a1.2] at hm3
  refine ⟨_, he, ?_⟩
  clear he
  have k3 : Kp [] w w3 := (hk1.trans hk2).trans_new hk3 (fun z hz => by
    rcases List.mem_cons.1 hz with rfl | hz
    · exact Or.inr hp
    · exact absurd (ownB_mem hz) (fun h => by cases h))
  have g3 : ∀ g, v3.ownBlock = some g → w.heap.size ≤ g := fun g hg => own_geB hP3.own g hg
  repeat (first|refine cU rfl rfl rfl rfl (by first|((first|apply qmv|apply qpk|apply qni)<;>(first|exact rfl|exact dct (by first|assumption|omega)|fail))|fail) ?_)
  refine SG.ret rfl rfl rfl (vs := [bv 1, .int .i64 1, .int .i64 9]) (by repeat' (first | exact True.intro | exact rho_of rfl | refine And.intro ?_ ?_)) (one_spec 1 1 9 w3) (fun w4 hk4 => ?_)
  have hP4 := hP3.kp0 hk4
  refine SG.call rfl rfl rfl (vs := [.pointer (some ⟨p, 0, none⟩), .int .i64 3, txv (oneM 1 1 9)]) (by repeat' (first | exact True.intro | exact rho_of rfl | refine And.intro ?_ ?_)) ((add_spec (h := 3) hP4 (oneM_in 1 1 9 _ _) (by rw [hm3]; exact i1) (by omega)).mono (fun e w5 hh => ?_))
  obtain ⟨he, v5, ms5, hP5, hm5, hk5, hv5⟩ := hh
  rw [hm3, show addZ 4 [e1] 3 (oneM 1 1 9).t = 0 from a2.1] at he
  rw [hm3, show addE 4 [e1] 3 (oneM 1 1 9).t = [e1, e2] from a2.2] at hm5
  refine ⟨_, he, ?_⟩
  clear he
  have k5 : Kp [] w w5 := (k3.trans hk4).trans_new hk5 (fun z hz => by
    rcases List.mem_cons.1 hz with rfl | hz
    · exact Or.inr hp
    · exact Or.inr (g3 z (ownB_mem hz)))
  have g5 : ∀ g, v5.ownBlock = some g → w.heap.size ≤ g := fun g hg => own_geB hP5.own g hg
  repeat (first|refine cU rfl rfl rfl rfl (by first|((first|apply qmv|apply qpk|apply qni)<;>(first|exact rfl|exact dct (by first|assumption|omega)|fail))|fail) ?_)
  refine SG.ret rfl rfl rfl (vs := [bv 2, .int .i64 0, .int .i64 5]) (by repeat' (first | exact True.intro | exact rho_of rfl | refine And.intro ?_ ?_)) (one_spec 2 0 5 w5) (fun w6 hk6 => ?_)
  have hP6 := hP5.kp0 hk6
  refine SG.call rfl rfl rfl (vs := [.pointer (some ⟨p, 0, none⟩), .int .i64 3, txv (oneM 2 0 5)]) (by repeat' (first | exact True.intro | exact rho_of rfl | refine And.intro ?_ ?_)) ((add_spec (h := 3) hP6 (oneM_in 2 0 5 _ _) (by rw [hm5]; exact i2) (by omega)).mono (fun e w7 hh => ?_))
  obtain ⟨he, v7, ms7, hP7, hm7, hk7, hv7⟩ := hh
  rw [hm5, show addZ 4 [e1, e2] 3 (oneM 2 0 5).t = 0 from a3.1] at he
  rw [hm5, show addE 4 [e1, e2] 3 (oneM 2 0 5).t = [e1, e2, e3] from a3.2] at hm7
  refine ⟨_, he, ?_⟩
  clear he
  have k7 : Kp [] w w7 := (k5.trans hk6).trans_new hk7 (fun z hz => by
    rcases List.mem_cons.1 hz with rfl | hz
    · exact Or.inr hp
    · exact Or.inr (g5 z (ownB_mem hz)))
  have i7 : PInv 4 (ms7.map Em.en) := by rw [hm7]; exact i3
  repeat (first|apply cD|apply cE|refine cU rfl rfl rfl rfl (by first|((first|apply qpk|apply qni)<;>(first|exact rfl|exact dct (by first|assumption|omega)|fail))|fail) ?_)
  refine cX rfl (by exact rho_of rfl) rfl ?_
  repeat (first|apply cA|apply cB|apply cE|apply cF|refine cU rfl rfl rfl rfl (by first|(apply qmv<;>(exact rfl))|fail) ?_)
  refine SG.call rfl rfl rfl (vs := [.pointer (some ⟨p, 0, none⟩)]) (by repeat' (first | exact True.intro | exact rho_of rfl | refine And.intro ?_ ?_)) ((all_spec hP7 i7 (by omega)).mono (fun e w8 hh => ?_))
  obtain ⟨v8, xs, he, hk8, hX, hxs⟩ := hh
  refine ⟨_, he, ?_⟩
  clear he
  rw [hm7, ord_known] at hxs
  obtain ⟨x1, x2, x3, rfl, t1, t2, t3⟩ := map3 hxs
  have t1 : x1.t = (oneM 2 0 5).t := t1
  have t2 : x2.t = (oneM 1 0 1).t := t2
  have t3 : x3.t = (oneM 1 1 9).t := t3
  obtain ⟨a, c, rfl, hc, hS⟩ := hX.sl
  have in1 := hX.ins x1 (by simp)
  have in2 := hX.ins x2 (by simp)
  have in3 := hX.ins x3 (by simp)
  obtain ⟨b, o, rfl, r1⟩ := hS.at (i := 0) (by simp)
  have r2 : Row w8 b (o + 1 * 13) (txc x2) := hS.row (i := 1) rfl
  have r3 : Row w8 b (o + 2 * 13) (txc x3) := hS.row (i := 2) rfl
  have r1 : Row w8 b (o + 0 * 13) (txc x1) := r1
  have gl : (([x1, x2, x3] : List Tm).length : Int) = 3 := rfl
  have hP8 := hP7.kp0 hk8
  repeat (first|apply cA|apply cD|apply cE|refine cU rfl rfl rfl rfl (by first|(apply qas<;>(exact rfl))|fail) ?_)
  refine CG.tailg mixed 34 [0, 1, 2, 3, 4, 5, 6, 7, 8, 9, 10, 11, 12, 13, 14, 15, 16, 17, 18, 19, 20, 21, 22, 23, 24, 25, 26, 27, 28, 29, 30, 31, 32, 33] [27] [] (fun _ => True) (by kernel_rfl) trivial (fun _ _ _ _ => trivial) ?_
  repeat (refine Der.val rfl rfl rfl (by first|((first|apply qmv|apply qla|apply qic|apply qei|apply qln)<;>(first|exact rfl|exact Ar.mk (by omega)|assumption|exact dct (by first|assumption|omega)|exact List.not_mem_nil|apply txc_length|fail))|fail) ?_)
  refine Der.call rfl rfl rfl (vs := [bv 2, .int .i64 0, .int .i64 5]) (by repeat' (first | exact True.intro | exact rho_of rfl | refine And.intro ?_ ?_)) (fun W hk _ => one_spec 2 0 5 W) ?_
  refine Der.call rfl rfl rfl (vs := [txv x1, txv (oneM 2 0 5)]) (v := .bool true) (by repeat' (first | exact True.intro | exact rho_of rfl | refine And.intro ?_ ?_)) (fun W hk _ => by have := tsame_spec (in1.kp0 hk) (oneM_in 2 0 5 0 W); rw [txEq_t t1] at this; exact this) ?_
  repeat (refine Der.val rfl rfl rfl (by first|((first|apply qmv|apply qla|apply qic|apply qpk)<;>(first|exact rfl|exact Ar.mk (by omega)|assumption|exact List.not_mem_nil|apply txc_length|fail))|fail) ?_)
  refine Der.call rfl rfl rfl (vs := [bv 1, .int .i64 0, .int .i64 1]) (by repeat' (first | exact True.intro | exact rho_of rfl | refine And.intro ?_ ?_)) (fun W hk _ => one_spec 1 0 1 W) ?_
  refine Der.call rfl rfl rfl (vs := [txv x2, txv (oneM 1 0 1)]) (v := .bool true) (by repeat' (first | exact True.intro | exact rho_of rfl | refine And.intro ?_ ?_)) (fun W hk _ => by have := tsame_spec (in2.kp0 hk) (oneM_in 1 0 1 0 W); rw [txEq_t t2] at this; exact this) ?_
  repeat (refine Der.val rfl rfl rfl (by first|((first|apply qmv|apply qla|apply qic|apply qpk)<;>(first|exact rfl|exact Ar.mk (by omega)|assumption|exact List.not_mem_nil|apply txc_length|fail))|fail) ?_)
  refine Der.call rfl rfl rfl (vs := [bv 1, .int .i64 1, .int .i64 9]) (by repeat' (first | exact True.intro | exact rho_of rfl | refine And.intro ?_ ?_)) (fun W hk _ => one_spec 1 1 9 W) ?_
  refine Der.call rfl rfl rfl (vs := [txv x3, txv (oneM 1 1 9)]) (v := .bool true) (by repeat' (first | exact True.intro | exact rho_of rfl | refine And.intro ?_ ?_)) (fun W hk _ => by have := tsame_spec (in3.kp0 hk) (oneM_in 1 1 9 0 W); rw [txEq_t t3] at this; exact this) ?_
  repeat (refine Der.val rfl rfl rfl (by first|((first|apply qmv|apply qpk)<;>(exact rfl))|fail) ?_)
  refine Der.val rfl rfl rfl (vals_build rfl (bbnd 2)) ?_
  refine Der.callG (X := Option Addr × Nat) (vs := [.pointer (some ⟨p, 0, none⟩), .int .i64 5, .agg #[.int .i64 0, .int .i64 2, .int .i64 0]]) (fun q => .slice q.1 0 q.2) (fun _ _ => True) rfl rfl rfl rfl (by repeat' (first | exact True.intro | exact rho_of rfl | refine And.intro ?_ ?_)) (fun _ _ _ _ _ => trivial) (fun _ _ _ _ => trivial) (fun W hk _ => (must_spec (h := 5) (f := 0) (l := 2) (s := 0) (hP8.kp0 hk) i7 (by omega) ⟨by decide, by decide⟩ ⟨by decide, by decide⟩).mono (fun e W' hh => ?_)) (fun q => ?_)
  · obtain ⟨v', ys, he, hk', hY, hys⟩ := hh
    have hyl : ys.length = 0 := by
      have := congrArg List.length hys
      rw [hm7, ord_known, must5, List.length_map] at this
      exact this
    obtain ⟨a', c', rfl, -, -⟩ := hY.sl
    rw [hyl] at he
    exact ⟨(a', c'), he, trivial, hk'⟩
  repeat (refine Der.val rfl rfl rfl (by first|((first|apply qmv|apply qpk|apply qei|apply qln)<;>(first|exact rfl|exact dct (by first|assumption|omega)|fail))|fail) ?_)
  refine Der.val rfl rfl rfl (vals_build rfl (bbnd 2)) ?_
  refine Der.tl (fun w9 hk9 _ _ => ?_)
  refine SG.call rfl rfl rfl (vs := [.pointer (some ⟨p, 0, none⟩), .int .i64 6, .agg #[.int .i64 0, .int .i64 2, .int .i64 0]]) (by repeat' (first | exact True.intro | exact rho_of rfl | refine And.intro ?_ ?_)) ((must_spec (h := 6) (f := 0) (l := 2) (s := 0) (hP8.kp0 hk9) i7 (by omega) ⟨by decide, by decide⟩ ⟨by decide, by decide⟩).mono (fun e w10 hh => ?_))
  obtain ⟨v', ys, he, hk', hY, hys⟩ := hh
  have hyl : ys.length = 3 := by
    have := congrArg List.length hys
    rw [hm7, ord_known, must6, List.length_map] at this
    exact this
  obtain ⟨a', c', rfl, -, -⟩ := hY.sl
  rw [hyl] at he
  refine ⟨_, he, ?_⟩
  repeat (first|apply cD|apply cE|apply cH|refine cU rfl rfl rfl rfl (by first|((first|apply qas|apply qpk|apply qei|apply qln)<;>(first|exact rfl|exact dct (by first|assumption|omega)|fail))|fail) ?_)
  refine ret1 (Or.inl rfl) Try.results12 (by first | exact ResV.tmp rfl | exact ResV.agg rfl rfl (by assumption) (by first | exact dc_length _ | exact nc_length _ | exact rc_length _ _ _ | exact ec_length _ | exact dl_length _ _ _ _ | rfl) | exact ResV.cell rfl rfl (by assumption)) ?_
  exact ⟨rfl, ((k7.trans hk8).trans hk9).trans hk'⟩
end Go.Proofs.Ytgbgnlboogalgaa
namespace Go.Proofs.Ytgbgnlboogalgaa
open Go.Proofs
set_option linter.unusedVariables false
/-- An act in memory. -/
structure Am where
  kind : Int
  h : Int
  a : Option Addr
  c : Nat
  xs : List Tm
def amc (x : Am) : List Value := [.int .i64 x.kind, .int .i64 x.h, .slice x.a x.xs.length x.c]
def amv (x : Am) : Value := .agg (amc x).toArray
theorem amc_rows {w : World} {b : Nat} {T : TypeId} {x : Am} (h : Blk w b (.cells (amc x).toArray T)) : Row w b 0 [.int .i64 x.kind] ∧ Row w b 1 [.int .i64 x.h] ∧ Row w b 2 [.slice x.a x.xs.length x.c] :=
  ⟨Row.of h [] [.int .i64 x.h, .slice x.a x.xs.length x.c] rfl rfl, Row.of h [.int .i64 x.kind] [.slice x.a x.xs.length x.c] rfl rfl, Row.of h [.int .i64 x.kind, .int .i64 x.h] [] rfl rfl⟩
theorem bbnd0 (w : World) : (Instr.build 42 #[]).run Try.prog w = .ok (.agg #[.int .i64 0, .int .i64 0, .int .i64 0]) w := by kernel_rfl
attribute [local irreducible] CG NG SG Vals Der Row Blk MapIs IterAt DerX DerR wrongT nameT
set_option maxHeartbeats 8000000 in
theorem nadd {w : World} (h : Int) (x : Tm) : Ret Try.prog 20 #[.pointer none, .int .i64 h, txv x] w (.int .i64 1) := by
  refine enter3 Try.func20 rfl Try.ntmps20 rfl ?_
  repeat (first|apply cA|apply cB)
  refine SG.box rfl rfl rfl (by exact rho_of rfl) (fun b1 w1 hk1 hb1 hB1 => ?_)
  repeat (first|apply cA|apply cB|apply cD|apply cE|refine cU rfl rfl rfl rfl (by first|((first|apply qep|apply qmv|apply qas|apply qep)<;>(exact rfl))|fail) ?_)
  refine cV rfl (by exact rho_of rfl) rfl ?_
  repeat (first|apply cA|apply cB|apply cD|apply cE|apply cH|apply NG.ret_then|refine cU rfl rfl rfl rfl (by first|(apply qas<;>(exact rfl))|fail) ?_)
  refine ret1 (Or.inl rfl) Try.results20 (by first | exact ResV.tmp rfl | exact ResV.agg rfl rfl (by assumption) (by first | exact dc_length _ | exact nc_length _ | exact rc_length _ _ _ | exact ec_length _ | exact dl_length _ _ _ _ | rfl) | exact ResV.cell rfl rfl (by assumption)) ?_
  exact ⟨rfl, hk1⟩
set_option maxHeartbeats 8000000 in
theorem ndrop {w : World} (d : Dg) : Ret Try.prog 26 #[.pointer none, dv d] w (.bool false) := by
  refine enter2 Try.func26 rfl Try.ntmps26 rfl ?_
  repeat (first|apply cA|apply cB)
  refine SG.box rfl rfl rfl (by exact rho_of rfl) (fun b1 w1 hk1 hb1 hB1 => ?_)
  repeat (first|apply cA|apply cB|apply cD|apply cE|refine cU rfl rfl rfl rfl (by first|((first|apply qep|apply qmv|apply qas|apply qep)<;>(exact rfl))|fail) ?_)
  refine cV rfl (by exact rho_of rfl) rfl ?_
  repeat (first|apply cA|apply cB|apply cD|apply cE|apply cH|apply NG.ret_then|refine cU rfl rfl rfl rfl (by first|(apply qas<;>(exact rfl))|fail) ?_)
  refine ret1 (Or.inl rfl) Try.results26 (by first | exact ResV.tmp rfl | exact ResV.agg rfl rfl (by assumption) (by first | exact dc_length _ | exact nc_length _ | exact rc_length _ _ _ | exact ec_length _ | exact dl_length _ _ _ _ | rfl) | exact ResV.cell rfl rfl (by assumption)) ?_
  exact ⟨rfl, hk1⟩
set_option maxHeartbeats 8000000 in
theorem nsince {w : World} (d : Dg) : Ret Try.prog 21 #[.pointer none, dv d] w (.tuple #[.int .i64 0, .bool false]) := by
  refine enter2 Try.func21 rfl Try.ntmps21 rfl ?_
  repeat (first|apply cA|apply cB)
  refine SG.box rfl rfl rfl (by exact rho_of rfl) (fun b1 w1 hk1 hb1 hB1 => ?_)
  repeat (first|apply cA|apply cB|apply cD|apply cE|refine cU rfl rfl rfl rfl (by first|((first|apply qep|apply qmv|apply qas|apply qep)<;>(exact rfl))|fail) ?_)
  refine cV rfl (by exact rho_of rfl) rfl ?_
  repeat (first|apply cA|apply cB|apply cD|apply cE|apply cH|apply NG.ret_then|refine cU rfl rfl rfl rfl (by first|(apply qas<;>(exact rfl))|fail) ?_)
  refine ret2 (Or.inl rfl) Try.results21 (by first | exact ResV.tmp rfl | exact ResV.agg rfl rfl (by assumption) (by first | exact dc_length _ | exact nc_length _ | exact rc_length _ _ _ | exact ec_length _ | exact dl_length _ _ _ _ | rfl) | exact ResV.cell rfl rfl (by assumption)) (by first | exact ResV.tmp rfl | exact ResV.agg rfl rfl (by assumption) (by first | exact dc_length _ | exact nc_length _ | exact rc_length _ _ _ | exact ec_length _ | exact dl_length _ _ _ _ | rfl) | exact ResV.cell rfl rfl (by assumption)) ?_
  exact ⟨rfl, hk1⟩
set_option maxHeartbeats 8000000 in
theorem nall {w : World}  : Ret Try.prog 11 #[.pointer none] w (.slice none 0 0) := by
  refine enter1 Try.func11 rfl Try.ntmps11 rfl ?_
  repeat (first|apply cA|apply cB|apply cD|apply cE|refine cU rfl rfl rfl rfl (by first|((first|apply qep|apply qmv|apply qas|apply qep)<;>(exact rfl))|fail) ?_)
  refine cV rfl (by exact rho_of rfl) rfl ?_
  repeat (first|apply cA|apply cB|apply cD|apply cE|apply cH|apply NG.ret_then|refine cU rfl rfl rfl rfl (by first|(apply qas<;>(exact rfl))|fail) ?_)
  refine ret1 (Or.inl rfl) Try.results11 (by first | exact ResV.tmp rfl | exact ResV.agg rfl rfl (by assumption) (by first | exact dc_length _ | exact nc_length _ | exact rc_length _ _ _ | exact ec_length _ | exact dl_length _ _ _ _ | rfl) | exact ResV.cell rfl rfl (by assumption)) ?_
  exact ⟨rfl, Kp.refl _ _⟩
set_option maxHeartbeats 8000000 in
theorem nof {w : World} (d : Dg) : Ret Try.prog 27 #[.pointer none, dv d] w (.slice none 0 0) := by
  refine enter2 Try.func27 rfl Try.ntmps27 rfl ?_
  repeat (first|apply cA|apply cB)
  refine SG.box rfl rfl rfl (by exact rho_of rfl) (fun b1 w1 hk1 hb1 hB1 => ?_)
  repeat (first|apply cA|apply cB|apply cD|apply cE|refine cU rfl rfl rfl rfl (by first|((first|apply qep|apply qmv|apply qas|apply qep)<;>(exact rfl))|fail) ?_)
  refine cV rfl (by exact rho_of rfl) rfl ?_
  repeat (first|apply cA|apply cB|apply cD|apply cE|apply cH|apply NG.ret_then|refine cU rfl rfl rfl rfl (by first|(apply qas<;>(exact rfl))|fail) ?_)
  refine ret1 (Or.inl rfl) Try.results27 (by first | exact ResV.tmp rfl | exact ResV.agg rfl rfl (by assumption) (by first | exact dc_length _ | exact nc_length _ | exact rc_length _ _ _ | exact ec_length _ | exact dl_length _ _ _ _ | rfl) | exact ResV.cell rfl rfl (by assumption)) ?_
  exact ⟨rfl, hk1⟩
set_option maxHeartbeats 8000000 in
theorem nmust {w : World} (h f l s : Int) : Ret Try.prog 14 #[.pointer none, .int .i64 h, .agg #[.int .i64 f, .int .i64 l, .int .i64 s]] w (.slice none 0 0) := by
  refine enter3 Try.func14 rfl Try.ntmps14 rfl ?_
  repeat (first|apply cA|apply cB)
  refine SG.box rfl rfl rfl (by exact rho_of rfl) (fun b1 w1 hk1 hb1 hB1 => ?_)
  repeat (first|apply cA|apply cB|apply cD|apply cE|refine cU rfl rfl rfl rfl (by first|((first|apply qep|apply qmv|apply qas|apply qep)<;>(exact rfl))|fail) ?_)
  refine cV rfl (by exact rho_of rfl) rfl ?_
  repeat (first|apply cA|apply cB|apply cD|apply cE|apply cH|apply NG.ret_then|refine cU rfl rfl rfl rfl (by first|(apply qas<;>(exact rfl))|fail) ?_)
  refine ret1 (Or.inl rfl) Try.results14 (by first | exact ResV.tmp rfl | exact ResV.agg rfl rfl (by assumption) (by first | exact dc_length _ | exact nc_length _ | exact rc_length _ _ _ | exact ec_length _ | exact dl_length _ _ _ _ | rfl) | exact ResV.cell rfl rfl (by assumption)) ?_
  exact ⟨rfl, hk1⟩
set_option maxHeartbeats 8000000 in
theorem ntake {w : World} (h : Int) (a : Option Addr) (n c : Nat) : Ret Try.prog 23 #[.pointer none, .int .i64 h, .slice a n c] w (.slice none 0 0) := by
  refine enter3 Try.func23 rfl Try.ntmps23 rfl ?_
  repeat (first|apply cA|apply cB|apply cD|apply cE|refine cU rfl rfl rfl rfl (by first|((first|apply qep|apply qmv|apply qas|apply qep)<;>(exact rfl))|fail) ?_)
  refine cV rfl (by exact rho_of rfl) rfl ?_
  repeat (first|apply cA|apply cB|apply cD|apply cE|apply cH|apply NG.ret_then|refine cU rfl rfl rfl rfl (by first|(apply qas<;>(exact rfl))|fail) ?_)
  refine ret1 (Or.inl rfl) Try.results23 (by first | exact ResV.tmp rfl | exact ResV.agg rfl rfl (by assumption) (by first | exact dc_length _ | exact nc_length _ | exact rc_length _ _ _ | exact ec_length _ | exact dl_length _ _ _ _ | rfl) | exact ResV.cell rfl rfl (by assumption)) ?_
  exact ⟨rfl, Kp.refl _ _⟩
set_option maxHeartbeats 8000000 in
theorem ndone {w : World} (a : Option Addr) (n c : Nat) : Ret Try.prog 24 #[.pointer none, .slice a n c] w (.int .i64 0) := by
  refine enter2 Try.func24 rfl Try.ntmps24 rfl ?_
  repeat (first|apply cA|apply cB|apply cD|apply cE|refine cU rfl rfl rfl rfl (by first|((first|apply qep|apply qmv|apply qas|apply qep)<;>(exact rfl))|fail) ?_)
  refine cV rfl (by exact rho_of rfl) rfl ?_
  repeat (first|apply cA|apply cB|apply cD|apply cE|apply cH|apply NG.ret_then|refine cU rfl rfl rfl rfl (by first|(apply qas<;>(exact rfl))|fail) ?_)
  refine ret1 (Or.inl rfl) Try.results24 (by first | exact ResV.tmp rfl | exact ResV.agg rfl rfl (by assumption) (by first | exact dc_length _ | exact nc_length _ | exact rc_length _ _ _ | exact ec_length _ | exact dl_length _ _ _ _ | rfl) | exact ResV.cell rfl rfl (by assumption)) ?_
  exact ⟨rfl, Kp.refl _ _⟩
set_option maxHeartbeats 8000000 in
theorem nback {w : World} (h : Int) (a : Option Addr) (n c : Nat) : Ret Try.prog 25 #[.pointer none, .int .i64 h, .slice a n c] w (.int .i64 0) := by
  refine enter3 Try.func25 rfl Try.ntmps25 rfl ?_
  repeat (first|apply cA|apply cB|apply cD|apply cE|refine cU rfl rfl rfl rfl (by first|((first|apply qep|apply qmv|apply qas|apply qep)<;>(exact rfl))|fail) ?_)
  refine cV rfl (by exact rho_of rfl) rfl ?_
  repeat (first|apply cA|apply cB|apply cD|apply cE|apply cH|apply NG.ret_then|refine cU rfl rfl rfl rfl (by first|(apply qas<;>(exact rfl))|fail) ?_)
  refine ret1 (Or.inl rfl) Try.results25 (by first | exact ResV.tmp rfl | exact ResV.agg rfl rfl (by assumption) (by first | exact dc_length _ | exact nc_length _ | exact rc_length _ _ _ | exact ec_length _ | exact dl_length _ _ _ _ | rfl) | exact ResV.cell rfl rfl (by assumption)) ?_
  exact ⟨rfl, Kp.refl _ _⟩
set_option maxHeartbeats 8000000 in
theorem nlen {w : World}  : Ret Try.prog 17 #[.pointer none] w (.int .i64 0) := by
  refine enter1 Try.func17 rfl Try.ntmps17 rfl ?_
  repeat (first|apply cA|apply cB|apply cD|apply cE|refine cU rfl rfl rfl rfl (by first|((first|apply qep|apply qmv|apply qas|apply qep)<;>(exact rfl))|fail) ?_)
  refine cV rfl (by exact rho_of rfl) rfl ?_
  repeat (first|apply cA|apply cB|apply cD|apply cE|apply cH|apply NG.ret_then|refine cU rfl rfl rfl rfl (by first|(apply qas<;>(exact rfl))|fail) ?_)
  refine ret1 (Or.inl rfl) Try.results17 (by first | exact ResV.tmp rfl | exact ResV.agg rfl rfl (by assumption) (by first | exact dc_length _ | exact nc_length _ | exact rc_length _ _ _ | exact ec_length _ | exact dl_length _ _ _ _ | rfl) | exact ResV.cell rfl rfl (by assumption)) ?_
  exact ⟨rfl, Kp.refl _ _⟩
set_option maxHeartbeats 8000000 in
theorem nclone {w : World}  : Ret Try.prog 28 #[.pointer none] w (.pointer none) := by
  refine enter1 Try.func28 rfl Try.ntmps28 rfl ?_
  repeat (first|apply cA|apply cB|apply cD|apply cE|refine cU rfl rfl rfl rfl (by first|((first|apply qep|apply qmv|apply qas|apply qep)<;>(exact rfl))|fail) ?_)
  refine cV rfl (by exact rho_of rfl) rfl ?_
  repeat (first|apply cA|apply cB|apply cD|apply cE|apply cH|apply NG.ret_then|refine cU rfl rfl rfl rfl (by first|(apply qas<;>(exact rfl))|fail) ?_)
  refine ret1 (Or.inl rfl) Try.results28 (by first | exact ResV.tmp rfl | exact ResV.agg rfl rfl (by assumption) (by first | exact dc_length _ | exact nc_length _ | exact rc_length _ _ _ | exact ec_length _ | exact dl_length _ _ _ _ | rfl) | exact ResV.cell rfl rfl (by assumption)) ?_
  exact ⟨rfl, Kp.refl _ _⟩
set_option maxHeartbeats 8000000 in
theorem nsame {w : World}  : Ret Try.prog 29 #[.pointer none, .pointer none] w (.bool true) := by
  refine enter2 Try.func29 rfl Try.ntmps29 rfl ?_
  repeat (first | first|apply cA|apply cB|apply cD|apply cE|refine cU rfl rfl rfl rfl (by first|((first|apply qep|apply qmv|apply qas|apply qpk|apply qep)<;>(exact rfl))|fail) ?_ | refine SG.skip rfl rfl ?_)
  refine cV rfl (by exact rho_of rfl) rfl ?_
  repeat (first|apply cA|apply cB|apply cD|apply cE|apply cH|apply NG.ret_then|refine cU rfl rfl rfl rfl (by first|((first|apply qep|apply qmv|apply qas|apply qpk|apply qep)<;>(exact rfl))|fail) ?_)
  refine ret1 (Or.inl rfl) Try.results29 (by first | exact ResV.tmp rfl | exact ResV.agg rfl rfl (by assumption) (by first | exact dc_length _ | exact nc_length _ | exact rc_length _ _ _ | exact ec_length _ | exact dl_length _ _ _ _ | rfl) | exact ResV.cell rfl rfl (by assumption)) ?_
  exact ⟨rfl, Kp.refl _ _⟩
set_option maxHeartbeats 8000000 in
theorem nsamep {w : World} (p : Nat) : Ret Try.prog 29 #[.pointer none, .pointer (some ⟨p, 0, none⟩)] w (.bool false) := by
  refine enter2 Try.func29 rfl Try.ntmps29 rfl ?_
  repeat (first | first|apply cA|apply cB|apply cD|apply cE|refine cU rfl rfl rfl rfl (by first|((first|apply qep|apply qmv|apply qas|apply qpk|apply qep)<;>(exact rfl))|fail) ?_ | refine SG.skip rfl rfl ?_)
  refine cV rfl (by exact rho_of rfl) rfl ?_
  repeat (first|apply cA|apply cB|apply cD|apply cE|apply cH|apply NG.ret_then|refine cU rfl rfl rfl rfl (by first|((first|apply qep|apply qmv|apply qas|apply qpk|apply qep)<;>(exact rfl))|fail) ?_)
  refine ret1 (Or.inl rfl) Try.results29 (by first | exact ResV.tmp rfl | exact ResV.agg rfl rfl (by assumption) (by first | exact dc_length _ | exact nc_length _ | exact rc_length _ _ _ | exact ec_length _ | exact dl_length _ _ _ _ | rfl) | exact ResV.cell rfl rfl (by assumption)) ?_
  exact ⟨rfl, Kp.refl _ _⟩
set_option maxHeartbeats 32000000 in
theorem nil_walk (w : World) (x : Am) (hX : TxsR w w.heap.size x.a x.xs) : Ret Try.prog 8 #[amv x] w (.bool true) := by
  refine enter1 Try.func8 rfl Try.ntmps8 rfl ?_
  have h00 : (0 : Int) = 0 := rfl
  have h11 : (1 : Int) = 1 := rfl
  repeat (first|apply cA|apply cB)
  refine SG.box rfl rfl rfl (by exact rho_of rfl) (fun b1 w1 hk1 hb1 hB1 => ?_)
  have hB1 : Blk w1 b1 (.cells (amc x).toArray 64) := hB1
  obtain ⟨-, r1, r2⟩ := amc_rows hB1
  have hX1 : TxsR w1 w.heap.size x.a x.xs := hX.kp0 hk1
  clear hB1
  repeat (first|apply cA|apply cB|apply cD|apply cE|refine cU rfl rfl rfl rfl (by first|((first|apply qas|apply qlc|apply qfa)<;>(first|exact rfl|assumption|exact List.not_mem_nil))|fail) ?_)
  refine SG.call rfl rfl rfl (vs := [.slice x.a x.xs.length x.c, .int .i64 ((4 : Nat) : Int)]) (by repeat' (first | exact True.intro | exact rho_of rfl | refine And.intro ?_ ?_)) ((cuts_spec (c := x.c) hX1 (most := 4) (by omega) hk1.size).mono (fun e w2 hh => ?_))
  obtain ⟨v2, he, hk2, hN⟩ := hh
  refine ⟨_, he, ?_⟩
  clear he
  obtain ⟨a2, c2, rfl, hc2, hXI⟩ := hN.toI
  generalize (x.xs.take 4).map cutM = ys at hXI hc2
  repeat (first|apply cA|apply cB|apply cD|apply cE|refine cU rfl rfl rfl rfl (by first|(apply qas<;>(exact rfl))|fail) ?_)
  refine SG.ret rfl rfl rfl (vs := [bv 1, .int .i64 2, .int .i64 3]) (by repeat' (first | exact True.intro | exact rho_of rfl | refine And.intro ?_ ?_)) (one_spec 1 2 3 w2) (fun w3 hk3 => ?_)
  refine SG.alloc rfl rfl rfl (fun b5 w4 hk4 hb5 hB5 => ?_)
  refine SG.setAll (l := txc (oneM 1 2 3)) rfl rfl (by exact rho_of rfl) (by exact rho_of rfl) hB5 (txc_length _) rfl (txc_one _) (fun w5 hk5 hB5 => ?_)
  have k35 : Kp [] w3 w5 := hk4.trans_new hk5 (new1 (by omega))
  have k5 := (hk1.trans hk2).trans (hk3.trans k35)
  have r1 := (r1.kp0 hk2).kp0 (hk3.trans k35)
  have hB5 : Blk w5 b5 (.cells (txc (oneM 1 2 3)).toArray 35) := hB5
  obtain ⟨q, q0, -⟩ := txc_rows hB5
  clear r2 q0
  generalize hd : nameT (oneT 1 2 3) = d
  have hnm : ∀ W, Ret Try.prog 22 #[txv (oneM 1 2 3)] W (dv d) := fun W => by
    have := name_spec (oneM_in 1 2 3 0 W)
    rw [show nameT (oneM 1 2 3).t = d from hd] at this
    exact this
  repeat (first|apply cA|apply cB|apply cD|apply cE|refine cU rfl rfl rfl rfl (by first|((first|apply qmv|apply qla)<;>(first|exact rfl|assumption|exact List.not_mem_nil))|fail) ?_)
  refine SG.ret rfl rfl rfl (vs := [txv (oneM 1 2 3)]) (by repeat' (first | exact True.intro | exact rho_of rfl | refine And.intro ?_ ?_)) (hnm w5) (fun w6 hk6 => ?_)
  refine SG.ret rfl rfl rfl (vs := [.pointer none, dv d]) (by repeat' (first | exact True.intro | exact rho_of rfl | refine And.intro ?_ ?_)) (nsince d) (fun w7 hk7 => ?_)
  repeat (first|apply cA|apply cB|apply cD|apply cE|refine cU rfl rfl rfl rfl (by first|((first|apply qmv|apply qas|apply qxt)<;>(exact rfl))|fail) ?_)
  refine SG.call rfl rfl rfl (vs := [.int .i64 1]) (by repeat' (first | exact True.intro | exact rho_of rfl | refine And.intro ?_ ?_)) ((new_spec (w := w7) (room := 1) (by omega) (by omega)).mono (fun e w8 hh => ?_))
  obtain ⟨p, he, hp, hk8, hP⟩ := hh
  refine ⟨_, he, ?_⟩
  clear he
  repeat (first|apply cA|apply cB|apply cD|apply cE|refine cU rfl rfl rfl rfl (by first|((first|apply qmv|apply qas|apply qxt)<;>(exact rfl))|fail) ?_)
  refine SG.ret rfl rfl rfl (vs := []) (by repeat' (first | exact True.intro | exact rho_of rfl | refine And.intro ?_ ?_)) (known_spec w8) (fun w9 hk9 => ?_)
  have k59 := (hk6.trans hk7).trans (hk8.trans hk9)
  have q := q.kp0 k59
  have r1 := r1.kp0 k59
  have hB9 := hB5.kp0 k59
  repeat (first|refine cU rfl rfl rfl rfl (by first|((first|apply qmv|apply qlc|apply qla|apply qfa|apply qpk|apply qei)<;>(first|exact rfl|assumption|exact dct (by first|assumption|omega)|exact List.not_mem_nil|fail))|fail) ?_)
  refine SG.ret rfl rfl rfl (vs := [.pointer none, .int .i64 x.h, txv (oneM 1 2 3)]) (by repeat' (first | exact True.intro | exact rho_of rfl | refine And.intro ?_ ?_)) (nadd x.h (oneM 1 2 3)) (fun w10 hk10 => ?_)
  have q := q.kp0 hk10
  have r1 := r1.kp0 hk10
  repeat (first|refine cU rfl rfl rfl rfl (by first|((first|apply qmv|apply qla|apply qpk|apply qei)<;>(first|exact rfl|assumption|exact dct (by first|assumption|omega)|exact List.not_mem_nil|fail))|fail) ?_)
  refine SG.ret rfl rfl rfl (vs := [txv (oneM 1 2 3)]) (by repeat' (first | exact True.intro | exact rho_of rfl | refine And.intro ?_ ?_)) (hnm w10) (fun w11 hk11 => ?_)
  refine SG.ret rfl rfl rfl (vs := [.pointer none, dv d]) (by repeat' (first | exact True.intro | exact rho_of rfl | refine And.intro ?_ ?_)) (ndrop d) (fun w12 hk12 => ?_)
  repeat (first|refine cU rfl rfl rfl rfl (by first|((first|apply qmv|apply qpk|apply qei|apply qnt)<;>(first|exact rfl|exact dct (by first|assumption|omega)|fail))|fail) ?_)
  refine SG.ret rfl rfl rfl (vs := [.pointer none]) (by repeat' (first | exact True.intro | exact rho_of rfl | refine And.intro ?_ ?_)) nall (fun w13 hk13 => ?_)
  have k1013 := (hk11.trans hk12).trans hk13
  have r1 := r1.kp0 k1013
  have hB13 := (hB9.kp0 hk10).kp0 k1013
  clear q
  obtain ⟨-, q0, -⟩ := txc_rows hB13
  repeat (first|refine cU rfl rfl rfl rfl (by first|((first|apply qmv|apply qla|apply qfa|apply qpk|apply qei|apply qln)<;>(first|exact rfl|assumption|exact dct (by first|assumption|omega)|exact List.not_mem_nil|fail))|fail) ?_)
  refine SG.ret rfl rfl rfl (vs := [.pointer none, dv (oneM 1 2 3).t.frm]) (by repeat' (first | exact True.intro | exact rho_of rfl | refine And.intro ?_ ?_)) (nof _) (fun w14 hk14 => ?_)
  have r1 := r1.kp0 hk14
  repeat (first|refine cU rfl rfl rfl rfl (by first|((first|apply qmv|apply qlc|apply qfa|apply qpk|apply qei|apply qln)<;>(first|exact rfl|assumption|exact dct (by first|assumption|omega)|exact List.not_mem_nil|fail))|fail) ?_)
  refine cU rfl rfl rfl rfl (vals_build rfl bbnd0) ?_
  refine SG.ret rfl rfl rfl (vs := [.pointer none, .int .i64 x.h, .agg #[.int .i64 0, .int .i64 0, .int .i64 0]]) (by repeat' (first | exact True.intro | exact rho_of rfl | refine And.intro ?_ ?_)) (nmust x.h 0 0 0) (fun w15 hk15 => ?_)
  have r1 := r1.kp0 hk15
  repeat (first|refine cU rfl rfl rfl rfl (by first|((first|apply qmv|apply qpk|apply qei|apply qln)<;>(first|exact rfl|exact dct (by first|assumption|omega)|fail))|fail) ?_)
  refine SG.ret rfl rfl rfl (vs := [.pointer none, .int .i64 5, .slice none 0 0]) (by repeat' (first | exact True.intro | exact rho_of rfl | refine And.intro ?_ ?_)) (ntake 5 none 0 0) (fun w16 hk16 => ?_)
  have r1 := r1.kp0 hk16
  repeat (first|refine cU rfl rfl rfl rfl (by first|((first|apply qmv|apply qpk|apply qei|apply qln)<;>(first|exact rfl|exact dct (by first|assumption|omega)|fail))|fail) ?_)
  refine SG.ret rfl rfl rfl (vs := [.pointer none, .slice a2 ys.length c2]) (by repeat' (first | exact True.intro | exact rho_of rfl | refine And.intro ?_ ?_)) (ndone a2 ys.length c2) (fun w17 hk17 => ?_)
  have r1 := r1.kp0 hk17
  repeat (first|refine cU rfl rfl rfl rfl (by first|((first|apply qmv|apply qlc|apply qfa|apply qpk|apply qei)<;>(first|exact rfl|assumption|exact dct (by first|assumption|omega)|exact List.not_mem_nil|fail))|fail) ?_)
  refine SG.ret rfl rfl rfl (vs := [.pointer none, .int .i64 x.h, .slice a2 ys.length c2]) (by repeat' (first | exact True.intro | exact rho_of rfl | refine And.intro ?_ ?_)) (nback x.h a2 ys.length c2) (fun w18 hk18 => ?_)
  repeat (first|refine cU rfl rfl rfl rfl (by first|((first|apply qmv|apply qpk|apply qei)<;>(first|exact rfl|exact dct (by first|assumption|omega)|fail))|fail) ?_)
  refine SG.ret rfl rfl rfl (vs := [.pointer none]) (by repeat' (first | exact True.intro | exact rho_of rfl | refine And.intro ?_ ?_)) nlen (fun w19 hk19 => ?_)
  repeat (first|refine cU rfl rfl rfl rfl (by first|((first|apply qmv|apply qpk|apply qei)<;>(first|exact rfl|exact dct (by first|assumption|omega)|fail))|fail) ?_)
  refine SG.ret rfl rfl rfl (vs := [.pointer none]) (by repeat' (first | exact True.intro | exact rho_of rfl | refine And.intro ?_ ?_)) nclone (fun w20 hk20 => ?_)
  repeat (first|refine cU rfl rfl rfl rfl (by first|((first|apply qep|apply qmv|apply qpk|apply qep)<;>(exact rfl))|fail) ?_)
  refine SG.ret rfl rfl rfl (vs := [.pointer none, .pointer none]) (by repeat' (first | exact True.intro | exact rho_of rfl | refine And.intro ?_ ?_)) nsame (fun w21 hk21 => ?_)
  repeat (first|refine cU rfl rfl rfl rfl (by first|((first|apply qmv|apply qpk)<;>(exact rfl))|fail) ?_)
  refine SG.ret rfl rfl rfl (vs := [.pointer none, .pointer (some ⟨p, 0, none⟩)]) (by repeat' (first | exact True.intro | exact rho_of rfl | refine And.intro ?_ ?_)) (nsamep p) (fun w22 hk22 => ?_)
  repeat (first|apply cD|apply cE|apply cH|refine cU rfl rfl rfl rfl (by first|((first|apply qas|apply qpk|apply qnt)<;>(exact rfl))|fail) ?_)
  refine ret1 (Or.inl rfl) Try.results8 (by first | exact ResV.tmp rfl | exact ResV.agg rfl rfl (by assumption) (by first | exact dc_length _ | exact nc_length _ | exact rc_length _ _ _ | exact ec_length _ | exact dl_length _ _ _ _ | rfl) | exact ResV.cell rfl rfl (by assumption)) ?_
  exact ⟨rfl, (((((((((((k5.trans k59).trans hk10).trans k1013).trans hk14).trans hk15).trans hk16).trans hk17).trans hk18).trans hk19).trans hk20).trans hk21).trans hk22⟩
end Go.Proofs.Ytgbgnlboogalgaa
namespace Go.Proofs.Ytgbgnlboogalgaa
open Go.ChangeShapes Go.WideShapes Go.ChangeAt Go.RowKit
set_option linter.unusedVariables false
set_option maxRecDepth 100000 in
theorem am_of {H : Type} {enc : TypeId × Value → H} {w : World} {cs : List Value} {fuel : Nat} {y : DataW H × List MemPlace} (h : DataW.trod enc Try.prog w 0 (fun _ => true) true fuel 64 cs = some y) : ∃ x : Am, cs = amc x ∧ TxsR w w.heap.size x.a x.xs ∧ fit64 x.kind ∧ fit64 x.h := by
  obtain ⟨xs, m, _, _, hl, hlen, hf⟩ := DataW.trod_struct Try.underlying64 h
  rw [cellsA] at hl
  match xs, hlen with
  | [y0, y1, y2], _ =>
    have h0 : DataW.trod enc Try.prog w 0 (fun _ => true) true m 3 ((cs.drop 0).take (Try.prog.cellsOf 3)) = some y0 := hf 0 _ rfl
    have h1 : DataW.trod enc Try.prog w 0 (fun _ => true) true m 3 ((cs.drop 1).take (Try.prog.cellsOf 3)) = some y1 := hf 1 _ rfl
    have h2 : DataW.trod enc Try.prog w 0 (fun _ => true) true m 22 ((cs.drop 2).take (Try.prog.cellsOf 22)) = some y2 := hf 2 _ rfl
    rw [cells3] at h0 h1
    rw [cellsTs] at h2
    obtain ⟨n0, e0, _, f0⟩ := DataW.trod_int Try.underlying3 h0
    obtain ⟨n1, e1, _, f1⟩ := DataW.trod_int Try.underlying3 h1
    obtain ⟨a, n, c, e2, -, -, hs, -⟩ := sl_cell Try.underlying22 (by rw [cellsT]; omega) h2
    obtain ⟨l, rfl, hX⟩ := txs_of hs
    refine ⟨⟨n0, n1, a, c, l⟩, ?_, hX, fit_of f0, fit_of f1⟩
    have hd : cs.drop (2 + 1) = [] := List.drop_of_length_le (by omega)
    have e : cs = cs.drop 0 := rfl
    rw [e, cut_drop cs 0 1, e0, cut_drop cs (0 + 1) 1, e1, cut_drop cs (0 + 1 + 1) 1, e2, hd]
    simp [amc]
theorem act_of {H : Type} {enc : TypeId × Value → H} {w : World} {cs : Array Value} {d : DataW H} {ps : List MemPlace} (h : DataW.Trod enc Try.prog w 0 (fun _ => true) true 64 (.agg cs) d ps) : ∃ x : Am, cs = (amc x).toArray ∧ TxsR w w.heap.size x.a x.xs ∧ fit64 x.kind ∧ fit64 x.h := by
  obtain ⟨fuel, hf⟩ := h
  obtain ⟨o, e, hi⟩ := am_of hf
  refine ⟨o, ?_, hi⟩
  have : cs.toList = amc o := by simpa [Value.cells] using e
  exact Array.toList_inj.1 (by simpa using this)
end Go.Proofs.Ytgbgnlboogalgaa

namespace Go.Proofs.Ytgbgnlboogalgaa
open Go.ChangeShapes Go.WideShapes Go.ChangeAt Go.RowKit
set_option linter.unusedVariables false
set_option maxRecDepth 100000 in
theorem poolNil_lifted (os : Os) (started : os.Started) (H : Type) (enc : TypeId × Value → H) :
    ReturnsInHanded {} Try.checked os 8 .any (Rows.poolNilSpec.pre6 enc Try.prog Try.f8 Rows.poolNilRow.domain false) (Rows.poolNilSpec.post enc Try.prog Try.f8 false true false false) := by
  refine returnsInHanded_of_change (C := Try.checked) own started (by kernel_rfl) Try.func8
    (ChangeSpec.witness6 (enc := enc) (C := Try.checked) false ⟨#[], #[.agg #[.int .i64 0, .int .i64 0, .slice none 0 0]], []⟩ 8 (by kernel_rfl) (by kernel_rfl) (by kernel_rfl) (by kernel_rfl)) ?_
  intro W base args ds gs before hval0 hW hcnd _
  have hval : ∀ (j : Nat) t v, Try.f8.params[j]? = some t → args[j]? = some v → Value.okWide Try.prog W .any base t v := hval0
  have hW' : DataW.Whole enc Try.prog Try.f8.params.toList Rows.poolNilSpec.vars false W args.toList ds gs before := hW
  obtain ⟨p, q, hA0, hV, rfl, hfz, hnd⟩ := hW
  have hA : DataW.TrodAll enc Try.prog W 0 (fun _ => true) true Try.f8.params.toList args.toList ds p := hA0
  rw [Try.params8] at hA hval
  obtain ⟨v0, d0, rfl, rfl, h0⟩ := trodAll_one hA
  obtain ⟨cs0, rfl, _⟩ := okWide_struct Try.underlying64 (hval 0 64 v0 rfl rfl)
  obtain ⟨x0, rfl, hX0, -⟩ := act_of h0
  refine (nil_walk W x0 hX0).mono fun e W' ⟨he, hk⟩ => ⟨_, he, ?_⟩
  exact law_post laidOut (by rw [Try.params8]; exact of_decide_eq_true (by kernel_rfl)) rfl hW' rfl (by kernel_rfl) Try.underlying4 hk
theorem poolNil_holds : Rows.PoolNilSaid :=
  OpenClaim.holds_of_wide 8 Try.f8 rfl rfl rfl rfl rfl rfl rfl ⟨rfl, rfl, rfl, rfl, rfl⟩ rfl rfl rfl rfl rfl (by kernel_rfl) Try.func8 (by kernel_rfl)
    (of_decide_eq_true (by kernel_rfl)) (by unfold Func.isWrapper; first | (rw [if_pos (by decide +kernel)]; kernel_rfl) | (rw [if_neg (by decide +kernel)]; exact ⟨rfl, rfl⟩))
    (fun os started H enc _ => poolNil_lifted os started H enc)
end Go.Proofs.Ytgbgnlboogalgaa
