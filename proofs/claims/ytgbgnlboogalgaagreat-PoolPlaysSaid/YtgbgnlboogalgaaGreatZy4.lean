import Derived.Test.YtgbgnlboogalgaaGreatZy3
namespace Go.Proofs.YtgbgnlboogalgaaGreat
open Go.Proofs
set_option linter.unusedVariables false
/-- An entry in memory. -/
structure Em where
  x : Tm
  since : Int
def Em.en (e : Em) : En := ⟨e.x.t, e.since⟩
def ec (e : Em) : List Value := txc e.x ++ (dc (nameT e.x.t) ++ [.int .i64 e.since])
theorem ec_length (e : Em) : (ec e).length = 22 := by simp [ec, txc_length, dc_length]
theorem ec_one (e : Em) : allOne (ec e) = true := by
  have h1 := txc_one e.x
  have h2 := dc_one (nameT e.x.t)
  simp only [ec, allOne, List.all_append, Bool.and_eq_true] at *
  exact ⟨h1, h2, rfl⟩
def ev (e : Em) : Value := .agg (ec e).toArray
def cutL {α : Type} (l : List α) (i : Nat) : List α := l.take i ++ l.drop (i + 1)
theorem sl_drop {α : Type} {enc : α → List Value} {sz : Nat} {w : World} {b off c j : Nat} {l : List α} (hS : Sl enc sz w (some ⟨b, off, none⟩) l) (hc : l.length ≤ c) : Sl enc sz w (some ⟨b, if c = j then off else off + j * sz, none⟩) (l.drop j) := fun i x hx => by
  rw [List.getElem?_drop] at hx
  have hlt := (List.getElem?_eq_some_iff.1 hx).1
  obtain ⟨b', off', h, hr⟩ := hS _ x hx
  cases h
  rw [if_neg (by omega)]
  refine ⟨_, _, rfl, ?_⟩
  rw [Nat.add_mul, ← Nat.add_assoc] at hr
  exact hr
def idxZ {α : Type} (p : α → Bool) (l : List α) : Int := if l.findIdx p < l.length then (l.findIdx p : Int) else -1
theorem idxZ_any {α : Type} (p : α → Bool) (l : List α) : (0 ≤ idxZ p l) ↔ l.any p = true := by
  unfold idxZ
  by_cases h : l.findIdx p < l.length
  · rw [if_pos h]
    have h1 := List.findIdx_getElem (w := h)
    exact ⟨fun _ => List.any_eq_true.2 ⟨_, List.getElem_mem h, h1⟩, fun _ => by omega⟩
  · rw [if_neg h]
    constructor
    · intro h1; omega
    · intro h1
      obtain ⟨x, hx, hp⟩ := List.any_eq_true.1 h1
      exact absurd (List.findIdx_lt_length_of_exists ⟨x, hx, hp⟩) h
theorem filt_find {α : Type} (p : α → Bool) (l : List α) : l.filter (fun x => !p x) = l.take (l.findIdx p) ++ (l.drop (l.findIdx p)).filter (fun x => !p x) := by
  conv => lhs; rw [← List.take_append_drop (l.findIdx p) l]
  rw [List.filter_append]
  congr 1
  rw [List.filter_eq_self]
  intro x hx
  obtain ⟨i, hi, rfl⟩ := List.getElem_of_mem hx
  rw [List.length_take] at hi
  rw [List.getElem_take]
  have := List.not_of_lt_findIdx (p := p) (xs := l) (i := i) (by omega)
  simpa using this
/-- What the pass has done: i kept, j seen. -/
structure Pass {α : Type} (p : α → Bool) (l cur : List α) (i j : Nat) : Prop where
  len : cur.length = l.length
  lt : i < j
  le : j ≤ l.length
  kept : cur.take i = (l.take j).filter (fun x => !p x)
  rest : cur.drop j = l.drop j
theorem Pass.init {α : Type} {p : α → Bool} {l : List α} (h : l.findIdx p < l.length) : Pass p l l (l.findIdx p) (l.findIdx p + 1) := by
  refine ⟨rfl, by omega, by omega, ?_, rfl⟩
  have h1 := filt_find p (l.take (l.findIdx p + 1))
  have e : l.take (l.findIdx p + 1) = l.take (l.findIdx p) ++ [l[l.findIdx p]] := List.take_succ_eq_append_getElem h
  rw [e, List.filter_append]
  have h2 : p l[l.findIdx p] = true := List.findIdx_getElem (w := h)
  simp only [List.filter_cons, h2, Bool.not_true, Bool.false_eq_true, if_false, List.filter_nil, List.append_nil]
  symm
  rw [List.filter_eq_self]
  intro x hx
  obtain ⟨i, hi, rfl⟩ := List.getElem_of_mem hx
  rw [List.length_take] at hi
  rw [List.getElem_take]
  have := List.not_of_lt_findIdx (p := p) (xs := l) (i := i) (by omega)
  simpa using this
theorem Pass.get {α : Type} {p : α → Bool} {l cur : List α} {i j : Nat} (h : Pass p l cur i j) (hj : j < l.length) : cur[j]'(by have := h.len; omega) = l[j] := by
  have h1 := congrArg (fun x => x[0]?) h.rest
  have h2 := h.len
  simp only [List.getElem?_drop, Nat.add_zero] at h1
  rw [List.getElem?_eq_getElem (by omega), List.getElem?_eq_getElem hj] at h1
  exact Option.some.inj h1
theorem Pass.drop {α : Type} {p : α → Bool} {l cur : List α} {i j : Nat} (h : Pass p l cur i j) (hj : j < l.length) (hp : p l[j] = true) : Pass p l cur i (j + 1) := by
  refine ⟨h.len, Nat.lt_succ_of_lt h.lt, hj, ?_, ?_⟩
  · rw [List.take_succ_eq_append_getElem hj, List.filter_append, ← h.kept]
    simp [hp]
  · rw [← List.drop_drop, h.rest, List.drop_drop]
theorem Pass.keep {α : Type} {p : α → Bool} {l cur : List α} {i j : Nat} (h : Pass p l cur i j) (hj : j < l.length) (hp : p l[j] = false) : Pass p l (cur.set i l[j]) (i + 1) (j + 1) := by
  have h2 := h.len
  have h3 := h.lt
  refine ⟨by simpa using h2, Nat.succ_lt_succ h3, hj, ?_, ?_⟩
  · rw [List.take_succ_eq_append_getElem hj, List.filter_append, ← h.kept]
    rw [List.take_succ_eq_append_getElem (by simp; omega)]
    simp [hp, List.take_set_of_le]
  · rw [List.drop_set_of_lt (by omega), ← List.drop_drop, h.rest, List.drop_drop]
theorem idxZ_lt {α : Type} {p : α → Bool} {l : List α} (h : l.findIdx p < l.length) : idxZ p l = (l.findIdx p : Int) := if_pos h
theorem idxZ_no {α : Type} {p : α → Bool} {l : List α} (h : ¬ l.findIdx p < l.length) : idxZ p l = -1 := if_neg h
theorem filt_no {α : Type} {p : α → Bool} {l : List α} (h : ¬ l.findIdx p < l.length) : l.filter (fun x => !p x) = l := by
  rw [filt_find, List.take_of_length_le (by omega), List.drop_of_length_le (by omega)]
  simp
attribute [local irreducible] CG NG SG Vals Der Row Blk MapIs IterAt nameT
set_option maxHeartbeats 16000000 in
theorem idxf_spec {w : World} {l : List Em} {a : Option Addr} {c : Nat} {f : FuncId} [Fn : Fnc Tryz.prog f] {caps : List Value} {p : Em → Bool} (hS : Sl ec 22 w a l) (hl : l.length ≤ 1000000000) (hp : ∀ o ∈ l, ∀ W, Kp [] w W → Ret Tryz.prog f (ev o :: caps).toArray W (.bool (p o))) :
    Ret Tryz.prog 71 #[.slice a l.length c, fnv f caps] w (.int .i64 (idxZ p l)) := by
  refine enter2 Tryz.func71 rfl Tryz.ntmps71 rfl ?_
  repeat (first|apply cA|apply cB|apply cD|apply cE|apply cG|refine cV rfl rfl rfl rfl (by first|((first|apply qmv|apply qas|apply qln)<;>(exact rfl))|fail) ?_)
  refine CG.loop (X := Nat) (fun i => [(0, .slice a l.length c), (1, fnv f caps), (7, .int .i64 (l.length : Int)), (8, .int .i64 (i : Int))]) (fun i w' => i ≤ l.length ∧ Kp [] w w' ∧ ∀ j (h : j < l.length), j < i → p l[j] = false) (fun i => l.length - i) 0 ⟨by omega, Kp.refl _ _, fun j _ h => absurd h (Nat.not_lt_zero j)⟩ (by (repeat' (first | exact True.intro | exact rfl | refine And.intro ?_ ?_))) ?_
  rintro i w1 ⟨hi, hk, hno⟩
  by_cases hlt : i < l.length
  · have g1 : (i : Int) < (l.length : Int) := by omega
    obtain ⟨b1, o1, rfl, hr1⟩ := (hS.kp0 hk).at hlt
    have hpi := fun W h => hp l[i] (List.getElem_mem hlt) W h
    repeat (first|apply cA|apply cB|apply cD|apply cE|refine cV rfl rfl rfl rfl (by first|(apply qls<;>(first|exact rfl|exact dct (by first|assumption|omega)|fail))|fail) ?_)
    refine cZ rfl (by exact rho_of rfl) rfl ?_
    repeat (first|apply cA|apply cB|apply cD|apply cE|apply cF|apply cG|refine cV rfl rfl rfl rfl (by first|((first|apply qmv|apply qas|apply qla|apply qix)<;>(first|exact rfl|exact Ar.mk (by omega)|assumption|exact List.not_mem_nil|apply ec_length|fail))|fail) ?_)
    refine SG.retVC (Fn := Fn) (vs := [ev l[i]]) (caps := caps) rfl rfl rfl (by exact rho_of rfl) (by repeat' (first | exact True.intro | exact rho_of rfl | refine And.intro ?_ ?_)) (hpi w1 hk) (fun w2 hk2 => ?_)
    cases hpp : p l[i] with
    | true =>
      repeat (first|apply cD|apply cE)
      refine cZ rfl (by exact rho_of rfl) rfl ?_
      repeat (first|apply cA|apply cB|apply cD|apply cE|apply cH|apply cK|apply NG.ret_block|refine cV rfl rfl rfl rfl (by first|((first|apply qmv|apply qas)<;>(exact rfl))|fail) ?_)
      refine ret1 (Or.inl rfl) Tryz.results71 (by first | exact ResV.tmp rfl | exact ResV.agg rfl rfl (by assumption) (by first | exact dc_length _ | exact nc_length _ | exact rc_length _ _ _ | exact ec_length _ | exact dl_length _ _ _ _ | rfl) | exact ResV.cell rfl rfl (by assumption)) ?_
      have e : l.findIdx p = i := (List.findIdx_eq hlt).2 ⟨hpp, fun j hj => by rw [hno j (by omega) hj]⟩
      have e2 : idxZ p l = (i : Int) := by
        unfold idxZ
        rw [e, if_pos hlt]
      rw [e2]
      exact ⟨rfl, hk.trans hk2⟩
    | false =>
      repeat (first|apply cD|apply cE)
      refine dA rfl (by exact rho_of rfl) rfl ?_
      repeat (first|apply cB|apply cD|apply cE|apply cF|apply cU|refine cV rfl rfl rfl rfl (by first|((first|apply qmv|apply qad)<;>(first|exact rfl|exact Ar.mk (by omega)|fail))|fail) ?_)
      refine NG.round (i + 1) (by (repeat' (first | exact True.intro | exact rfl | refine And.intro ?_ ?_))) ⟨by omega, hk.trans hk2, fun j h hj => ?_⟩ (by omega)
      by_cases e : j = i
      · subst e; exact hpp
      · exact hno j h (by omega)
  · have g1 : ¬ (i : Int) < (l.length : Int) := by omega
    repeat (first|apply cA|apply cB|apply cD|apply cE|refine cV rfl rfl rfl rfl (by first|(apply qls<;>(first|exact rfl|exact dcf (by first|assumption|omega)|fail))|fail) ?_)
    refine dA rfl (by exact rho_of rfl) rfl ?_
    repeat (first|apply cA|apply cB|apply cD|apply cE|apply cH|apply cJ|apply cM|refine cQ rfl ?_|refine cV rfl rfl rfl rfl (by first|(apply qas<;>(exact rfl))|fail) ?_)
    refine ret1 (Or.inl rfl) Tryz.results71 (by first | exact ResV.tmp rfl | exact ResV.agg rfl rfl (by assumption) (by first | exact dc_length _ | exact nc_length _ | exact rc_length _ _ _ | exact ec_length _ | exact dl_length _ _ _ _ | rfl) | exact ResV.cell rfl rfl (by assumption)) ?_
    have e2 : idxZ p l = -1 := by
      unfold idxZ
      rw [if_neg]
      intro h
      have h1 := List.findIdx_getElem (w := h)
      rw [hno _ h (by omega)] at h1
      cases h1
    rw [e2]
    exact ⟨rfl, hk⟩
set_option maxHeartbeats 16000000 in
theorem contf_spec {w : World} {l : List Em} {a : Option Addr} {c : Nat} {f : FuncId} [Fn : Fnc Tryz.prog f] {caps : List Value} {p : Em → Bool} (hS : Sl ec 22 w a l) (hl : l.length ≤ 1000000000) (hp : ∀ o ∈ l, ∀ W, Kp [] w W → Ret Tryz.prog f (ev o :: caps).toArray W (.bool (p o))) :
    Ret Tryz.prog 82 #[.slice a l.length c, fnv f caps] w (.bool (l.any p)) := by
  refine enter2 Tryz.func82 rfl Tryz.ntmps82 rfl ?_
  have hz := idxZ_any p l
  have hsp := idxf_spec (c := c) hS hl hp
  generalize idxZ p l = z at hz hsp
  repeat (first|apply cA|apply cB|apply cD|apply cE|refine cV rfl rfl rfl rfl (by first|((first|apply qmv|apply qas)<;>(exact rfl))|fail) ?_)
  refine SG.ret rfl rfl rfl (by repeat' (first | exact True.intro | exact rho_of rfl | refine And.intro ?_ ?_)) hsp (fun w1 hk1 => ?_)
  cases hb : l.any p with
  | true =>
    have g1 := hz.2 hb
    repeat (first|apply cD|apply cE|apply cH|refine cV rfl rfl rfl rfl (by first|((first|apply qas|apply qge)<;>(first|exact rfl|exact dct (by first|assumption|omega)|fail))|fail) ?_)
    refine ret1 (Or.inl rfl) Tryz.results82 (by first | exact ResV.tmp rfl | exact ResV.agg rfl rfl (by assumption) (by first | exact dc_length _ | exact nc_length _ | exact rc_length _ _ _ | exact ec_length _ | exact dl_length _ _ _ _ | rfl) | exact ResV.cell rfl rfl (by assumption)) ?_
    exact ⟨rfl, hk1⟩
  | false =>
    have g1 : ¬ 0 ≤ z := fun h => by rw [hz.1 h] at hb; cases hb
    repeat (first|apply cD|apply cE|apply cH|refine cV rfl rfl rfl rfl (by first|((first|apply qas|apply qge)<;>(first|exact rfl|exact dcf (by first|assumption|omega)|fail))|fail) ?_)
    refine ret1 (Or.inl rfl) Tryz.results82 (by first | exact ResV.tmp rfl | exact ResV.agg rfl rfl (by assumption) (by first | exact dc_length _ | exact nc_length _ | exact rc_length _ _ _ | exact ec_length _ | exact dl_length _ _ _ _ | rfl) | exact ResV.cell rfl rfl (by assumption)) ?_
    exact ⟨rfl, hk1⟩
set_option maxHeartbeats 16000000 in
theorem delf_spec {w : World} {base : Nat} {v : Value} {l : List Em} {f : FuncId} [Fn : Fnc Tryz.prog f] {caps : List Value} {p : Em → Bool} (ho : w.ownsRow base 74 22 v l.length (flt ec l)) (hl : l.length ≤ 1000000000) (hp : ∀ o ∈ l, ∀ W, Kp (ownB v) w W → Ret Tryz.prog f (ev o :: caps).toArray W (.bool (p o))) :
    Calls Tryz.prog 88 #[v, fnv f caps] w (fun e w' => ∃ v', e = .returned v' ∧ w'.ownsRow base 74 22 v' (l.filter (fun x => !p x)).length (flt ec (l.filter (fun x => !p x))) ∧ Kp (ownB v) w w' ∧ ∀ b, v'.ownBlock = some b → v.ownBlock = some b) := by
  refine enter2 Tryz.func88 rfl Tryz.ntmps88 rfl ?_
  obtain ⟨a, c, rfl, hc, hS⟩ := Sl.own ec_length ho rfl
  repeat (first|apply cA|apply cB|apply cD|apply cE|refine cV rfl rfl rfl rfl (by first|((first|apply qmv|apply qas)<;>(exact rfl))|fail) ?_)
  refine SG.ret rfl rfl rfl (vs := [.slice a l.length c, fnv f caps]) (by repeat' (first | exact True.intro | exact rho_of rfl | refine And.intro ?_ ?_)) (idxf_spec (f := f) (Fn := Fn) (caps := caps) (p := p) (c := c) hS hl (fun o ho W hk => hp o ho W hk.any)) (fun w1 hk1 => ?_)
  by_cases hf : l.findIdx p < l.length
  · rw [idxZ_lt hf]
    obtain ⟨g, cap, e, hcp⟩ := own_slice ho (by omega)
    cases e
    have hne : ¬ (l.findIdx p : Int) = -1 := by omega
    have hP := Pass.init hf
    generalize l.findIdx p = i0 at hf hne hP
    have ho1 := own_kp0 ho hk1
    repeat (first|apply cA|apply cB|apply cD|apply cE|refine cV rfl rfl rfl rfl (by first|((first|apply qmv|apply qas|apply qei)<;>(first|exact rfl|exact dcf (by first|assumption|omega)|fail))|fail) ?_)
    refine dA rfl (by exact rho_of rfl) rfl ?_
    repeat (first|apply cA|apply cB|apply cD|apply cE|apply cF|apply cG|refine cV rfl rfl rfl rfl (by first|((first|apply qmv|apply qas|apply qad)<;>(first|exact rfl|exact Ar.mk (by omega)|fail))|fail) ?_)
    refine CG.loop (X := (Nat × Nat) × List Em) (fun x => [(0, .slice (some ⟨g, 0, none⟩) l.length c), (1, fnv f caps), (5, .int .i64 (x.1.1 : Int)), (6, .int .i64 (x.1.2 : Int))]) (fun x w' => Pass p l x.2 x.1.1 x.1.2 ∧ Kp [g] w1 w' ∧ w'.ownsRow base 74 22 (.slice (some ⟨g, 0, none⟩) l.length c) l.length (flt ec x.2)) (fun x => l.length - x.1.2) ((i0, i0 + 1), l) ⟨hP, Kp.refl _ _, ho1⟩ (by (repeat' (first | exact True.intro | exact rfl | refine And.intro ?_ ?_))) ?_
    rintro ⟨⟨i, j⟩, cur⟩ w2 ⟨hQ, hk2, ho2⟩
    simp only at hQ ho2
    refine CG.to [(0, .slice (some ⟨g, 0, none⟩) l.length c), (1, fnv f caps), (5, .int .i64 (i : Int)), (6, .int .i64 (j : Int))] (by (repeat' (first | exact True.intro | exact rfl | refine And.intro ?_ ?_))) ?_
    have q1 := hQ.len
    have q2 := hQ.lt
    have q3 := hQ.le
    by_cases hj : j < l.length
    · have g1 : (j : Int) < (l.length : Int) := by omega
      have hrj := own_at ec_length ho2 q1 (k := j) (by omega)
      rw [hQ.get hj] at hrj
      repeat (first|apply cA|apply cB|apply cD|apply cE|refine cV rfl rfl rfl rfl (by first|((first|apply qmv|apply qls|apply qln)<;>(first|exact rfl|exact dct (by first|assumption|omega)|fail))|fail) ?_)
      refine cZ rfl (by exact rho_of rfl) rfl ?_
      repeat (first|apply cA|apply cB|apply cE|apply cF|apply cG|refine cV rfl rfl rfl rfl (by first|((first|apply qmv|apply qla|apply qix)<;>(first|exact rfl|exact Ar.mk (by omega)|assumption|exact List.not_mem_nil|apply ec_length|fail))|fail) ?_)
      refine SG.alloc rfl rfl rfl (fun b7 w3 hk3 hb7 hB7 => ?_)
      refine SG.setAll (l := ec l[j]) rfl rfl (by exact rho_of rfl) (by exact rho_of rfl) hB7 (ec_length _) rfl (ec_one _) (fun w4 hk4 hB8 => ?_)
      have hr8 : Row w4 b7 0 (ec l[j]) := Row.all hB8 rfl
      have k24 : Kp [] w2 w4 := hk3.trans_new hk4 (new1 (by omega))
      have hpj := hp l[j] (List.getElem_mem hj) w4 ((hk1.any.trans hk2).trans k24.any)
      have q5 : (cur.set i l[j]).length = l.length := by simpa using q1
      cases hpp : p l[j] with
      | false =>
        rw [hpp] at hpj
        clear hrj
        repeat (first|apply cA|apply cB|apply cD|apply cE|refine cV rfl rfl rfl rfl (by first|((first|apply qmv|apply qla)<;>(first|exact rfl|assumption|exact List.not_mem_nil|apply ec_length))|fail) ?_)
        refine SG.retVC (Fn := Fn) (vs := [ev l[j]]) (caps := caps) rfl rfl rfl (by exact rho_of rfl) (by repeat' (first | exact True.intro | exact rho_of rfl | refine And.intro ?_ ?_)) hpj (fun w5 hk5 => ?_)
        have hr8 := hr8.kp0 hk5
        have ho5 := own_kp0 (own_kp0 ho2 k24) hk5
        repeat (first|apply cD|apply cE|refine cV rfl rfl rfl rfl (by first|(apply qnt<;>(exact rfl))|fail) ?_)
        refine cZ rfl (by exact rho_of rfl) rfl ?_
        repeat (first|apply cA|apply cB|refine cV rfl rfl rfl rfl (by first|((first|apply qmv|apply qla|apply qix)<;>(first|exact rfl|exact Ar.mk (by omega)|assumption|exact List.not_mem_nil|apply ec_length|fail))|fail) ?_)
        refine SG.storeO (k := i) (y := l[j]) (f := ty.i74) ec_length ec_one rfl rfl (by exact rho_of rfl) rfl (by exact rho_of rfl) ho5 q1 (by omega) (fun w6 hk6 ho6 => ?_)
        repeat (first|apply cB|apply cD|apply cE|apply cU|refine cV rfl rfl rfl rfl (by first|((first|apply qmv|apply qas|apply qad)<;>(first|exact rfl|exact Ar.mk (by omega)|fail))|fail) ?_)
        refine NG.round ((i + 1, j + 1), cur.set i l[j]) (by (repeat' (first | exact True.intro | exact rfl | refine And.intro ?_ ?_))) ⟨hQ.keep hj hpp, ((hk2.trans k24.any).trans hk5.any).trans hk6, ho6⟩ (by simp only; omega)
      | true =>
        rw [hpp] at hpj
        clear hrj
        repeat (first|apply cA|apply cB|apply cD|apply cE|refine cV rfl rfl rfl rfl (by first|((first|apply qmv|apply qla)<;>(first|exact rfl|assumption|exact List.not_mem_nil|apply ec_length))|fail) ?_)
        refine SG.retVC (Fn := Fn) (vs := [ev l[j]]) (caps := caps) rfl rfl rfl (by exact rho_of rfl) (by repeat' (first | exact True.intro | exact rho_of rfl | refine And.intro ?_ ?_)) hpj (fun w5 hk5 => ?_)
        have ho5 := own_kp0 (own_kp0 ho2 k24) hk5
        repeat (first|apply cD|apply cE|refine cV rfl rfl rfl rfl (by first|(apply qnt<;>(exact rfl))|fail) ?_)
        refine dA rfl (by exact rho_of rfl) rfl ?_
        repeat (first|apply cB|apply cD|apply cE|apply cF|apply cU|refine cV rfl rfl rfl rfl (by first|((first|apply qmv|apply qas|apply qad)<;>(first|exact rfl|exact Ar.mk (by omega)|fail))|fail) ?_)
        refine NG.round ((i, j + 1), cur) (by (repeat' (first | exact True.intro | exact rfl | refine And.intro ?_ ?_))) ⟨hQ.drop hj hpp, (hk2.trans k24.any).trans hk5.any, ho5⟩ (by simp only; omega)
    · have g1 : ¬ (j : Int) < (l.length : Int) := by omega
      have hkept := hQ.kept
      rw [show l.take j = l from List.take_of_length_le (by omega)] at hkept
      have hi : i = (l.filter (fun x => !p x)).length := by rw [← hkept, List.length_take]; omega
      have hci : (if c = i then 0 else 0 + i * 22) = i * 22 := by rw [if_neg (by omega)]; omega
      repeat (first|apply cA|apply cB|apply cD|apply cE|refine cV rfl rfl rfl rfl (by first|((first|apply qmv|apply qls|apply qln)<;>(first|exact rfl|exact dcf (by first|assumption|omega)|fail))|fail) ?_)
      refine dA rfl (by exact rho_of rfl) rfl ?_
      repeat (first|apply cA|apply cB|apply cE|apply cJ|apply cM|refine cQ rfl ?_|refine cV rfl rfl rfl rfl (by first|((first|apply qmv|apply qfr)<;>(first|exact rfl|exact Ar.mk (by omega)|fail))|fail) ?_)
      rw [hci]
      refine SG.clearO (i := i) (l := cur) ec_length rfl rfl (by exact rho_of rfl) rfl rfl rfl ho2 q1 (by omega) (fun w3 hk3 ho3 => ?_)
      repeat (first|apply cA|apply cB|apply cD|apply cE|apply cH|refine cV rfl rfl rfl rfl (by first|((first|apply qmv|apply qas|apply qto)<;>(first|exact rfl|exact Ar.mk (by omega)|fail))|fail) ?_)
      refine ret1 (Or.inl rfl) Tryz.results88 (by first | exact ResV.tmp rfl | exact ResV.agg rfl rfl (by assumption) (by first | exact dc_length _ | exact nc_length _ | exact rc_length _ _ _ | exact ec_length _ | exact dl_length _ _ _ _ | rfl) | exact ResV.cell rfl rfl (by assumption)) ?_
      refine ⟨_, rfl, ?_, (hk1.any.trans hk2).trans hk3, fun _ h => h⟩
      rw [← hkept, List.length_take, Nat.min_eq_left (by omega)]
      exact ho3
  · rw [idxZ_no hf]
    have h11 : (-1 : Int) = -1 := rfl
    have ho1 := own_kp0 ho hk1
    repeat (first|apply cA|apply cB|apply cD|apply cE|refine cV rfl rfl rfl rfl (by first|((first|apply qmv|apply qas|apply qei)<;>(first|exact rfl|exact dct (by first|assumption|omega)|fail))|fail) ?_)
    refine cZ rfl (by exact rho_of rfl) rfl ?_
    repeat (first|apply cA|apply cB|apply cD|apply cE|apply cH|apply cK|refine cV rfl rfl rfl rfl (by first|((first|apply qmv|apply qas)<;>(exact rfl))|fail) ?_)
    refine ret1 (Or.inl rfl) Tryz.results88 (by first | exact ResV.tmp rfl | exact ResV.agg rfl rfl (by assumption) (by first | exact dc_length _ | exact nc_length _ | exact rc_length _ _ _ | exact ec_length _ | exact dl_length _ _ _ _ | rfl) | exact ResV.cell rfl rfl (by assumption)) ?_
    rw [filt_no hf]
    exact ⟨_, rfl, ho1, hk1.any, fun _ h => h⟩
set_option maxHeartbeats 16000000 in
theorem edel_spec {w : World} {base : Nat} {v : Value} {l : List Em} {i : Nat} (ho : w.ownsRow base 74 22 v l.length (flt ec l)) (hl : l.length ≤ 100000) (hi : i < l.length) (hbase : base ≤ w.heap.size) : Calls Tryz.prog 48 #[v, .int .i64 (i : Int), .int .i64 ((i : Int) + 1)] w (fun e w' => ∃ v', e = .returned v' ∧ Kp (ownB v) w w' ∧ w'.ownsRow base 74 22 v' (cutL l i).length (flt ec (cutL l i)) ∧ ∀ b, v'.ownBlock = some b → v.ownBlock = some b) := by
  refine enter3 Tryz.func48 rfl Tryz.ntmps48 rfl ?_
  obtain ⟨g, cap, rfl, hcp⟩ := own_slice ho (by omega)
  have hS : Sl ec 22 w (some ⟨g, 0, none⟩) l := by
    obtain ⟨_, _, e, _, h⟩ := Sl.own ec_length ho rfl
    cases e
    exact h
  have g1 : ¬ (i : Int) = (i : Int) + 1 := by omega
  repeat (first|apply cA|apply cB|apply cD|apply cE|refine cV rfl rfl rfl rfl (by first|((first|apply qmv|apply qas|apply qln)<;>(exact rfl))|fail) ?_)
  refine cV rfl rfl rfl rfl (qf3 (j := i) (m := i + 1) (r := l.length) rfl rfl rfl rfl rfl (by omega) rfl (by omega)) ?_
  repeat (first|apply cA|apply cB|apply cD|apply cE|refine cV rfl rfl rfl rfl (by first|((first|apply qmv|apply qei)<;>(first|exact rfl|exact dcf (by first|assumption|omega)|fail))|fail) ?_)
  refine dA rfl (by exact rho_of rfl) rfl ?_
  repeat (first|apply cA|apply cB|apply cD|apply cE|apply cF|refine cV rfl rfl rfl rfl (by first|((first|apply qmv|apply qas|apply qln)<;>(exact rfl))|fail) ?_)
  refine CG.tail mixed 6 [0, 1, 2, 3, 4, 5] (by kernel_rfl) ?_
  repeat (refine cY rfl rfl rfl (by first|((first|apply qmv|apply qto)<;>(first|exact rfl|exact Ar.mk (by omega)|fail))|fail) ?_)
  refine cY rfl rfl rfl (qfr (j := i + 1) rfl rfl (by omega) (Ar.mk (by omega))) ?_
  refine Der.tl (fun w1 hk1 _ _ => ?_)
  have ho1 := own_kp0 ho hk1
  refine SG.appRoom (enc := ec) (base := base) (xs := l.take i) (ys := l.drop (i + 1)) rfl rfl rfl (by exact rho_of rfl) (by exact rho_of rfl) List.length_drop.symm rfl rfl rfl ec_length ec_one (own_take ec_length ho1 rfl (by omega)) (by rw [List.length_take]; omega) (sl_drop (hS.kp0 hk1) hcp) (by rw [List.length_drop]; omega) (by rw [List.length_drop]; simp only [maxLen]; omega) (by rw [List.length_drop]; show (i + (l.length - (i + 1))) * 96 ≤ _; omega) (Nat.le_trans hbase hk1.size) (fun w2 hk2 ho2 => ?_)
  have ek : i + (l.length - (i + 1)) = l.length - 1 := by omega
  have hcl : (cutL l i).length = l.length - 1 := by
    unfold cutL
    rw [List.length_append, List.length_take, List.length_drop]
    omega
  rw [ek] at ho2 ⊢
  repeat (first|apply cA|apply cB|apply cD|apply cE|refine cV rfl rfl rfl rfl (by first|((first|apply qfh|apply qmv|apply qas|apply qln)<;>(first|exact rfl|exact Ar.mk (by omega)|fail))|fail) ?_)
  refine SG.clearT (base := base) (g := g) (k := l.length - 1) (m := 0) (cap := cap) (xs := flt ec (cutL l i)) (z := .agg ((dc zd ++ ([.int .i64 0, .int .i64 0, .int .i64 0, .slice none 0 0, .slice none 0 0] ++ (dc zd ++ [.int .i64 0])) : List Value).toArray)) (T := 74) (c2 := cap - (l.length - 1)) rfl rfl ?_ rfl rfl rfl ho2 (by omega) (fun w3 hk3 ho3 => ?_)
  · refine (rho_of rfl).trans ?_
    rw [Nat.zero_add, show l.length - (l.length - 1) = 0 + 1 by omega]
    rfl
  repeat (first|apply cA|apply cB|apply cD|apply cE|apply cH|refine cV rfl rfl rfl rfl (by first|((first|apply qmv|apply qas)<;>(exact rfl))|fail) ?_)
  refine ret1 (Or.inl rfl) Tryz.results48 (by first | exact ResV.tmp rfl | exact ResV.agg rfl rfl (by assumption) (by first | exact dc_length _ | exact nc_length _ | exact rc_length _ _ _ | exact ec_length _ | exact dl_length _ _ _ _ | rfl) | exact ResV.cell rfl rfl (by assumption)) ?_
  exact ⟨_, rfl, (hk1.any.trans hk2).trans hk3, by rw [hcl]; exact ho3, fun _ h => h⟩
end Go.Proofs.YtgbgnlboogalgaaGreat
namespace Go.Proofs.YtgbgnlboogalgaaGreat
open Go.Proofs
set_option linter.unusedVariables false
/-- Blocks that aren't of bytes. -/
def Oth (n : Nat) (w : World) (S : List Nat) : Prop := ∀ b ∈ S, n ≤ b ∧ ∀ cs f, w.heap[b]? ≠ some (.cells cs 5 f)
theorem Oth.cells {w : World} {b : Nat} {cs : Array Value} {T : TypeId} (h : Blk w b (.cells cs T)) (hT : T ≠ 5) : ∀ cs f, w.heap[b]? ≠ some (.cells cs 5 f) := fun cs' f e => by
  have := h.uniq e
  simp only [Obj.cells.injEq] at this
  exact hT this.2.1
theorem Oth.own {w : World} {n0 base n sz : Nat} {v : Value} {T : TypeId} {xs : List Value} (ho : w.ownsRow base T sz v n xs) (hn : n0 ≤ base) (hT : T ≠ 5) : Oth n0 w (ownB v) := fun b hb => by
  have hb' := ownB_mem hb
  refine ⟨Nat.le_trans hn (own_geB ho b hb'), ?_⟩
  rcases ho.2 with ⟨rfl, _⟩ | ⟨g, cap, cur, rfl, _, hg, _⟩
  · cases hb'
  · cases hb'
    exact Oth.cells hg hT
theorem Oth.cons {n : Nat} {w : World} {b : Nat} {S : List Nat} (hb : n ≤ b) (h : ∀ cs f, w.heap[b]? ≠ some (.cells cs 5 f)) (hS : Oth n w S) : Oth n w (b :: S) := fun z hz => by
  rcases List.mem_cons.1 hz with rfl | hz
  · exact ⟨hb, h⟩
  · exact hS z hz
theorem Oth.nil {n : Nat} {w : World} : Oth n w [] := fun z hz => (by cases hz)
theorem Bs.kpO {n : Nat} {S : List Nat} {w w' : World} {a : Option Addr} {c : Nat} {l : List UInt8} (h : Bs w a c l) (ht : Tb n w a l) (hk : Kp S w w') (hS : Oth n w S) : Bs w' a c l ∧ Tb n w' a l := by
  have key : l ≠ [] → ∀ b off, a = Option.some ⟨b, off, Option.none⟩ → b ∉ S := fun hn b off e hm => by
    rcases ht with ht | ht
    · obtain ⟨cs, f, hc⟩ := ht hn b off e
      exact (hS b hm).2 cs f hc
    · have := ht b off e
      have := (hS b hm).1
      omega
  refine ⟨⟨h.sl.kpN hk key, h.len, h.some, fun hn b off e => Nat.lt_of_lt_of_le (h.lt hn b off e) hk.size⟩, ht.kp hk key⟩
theorem Tm.In.kpO {n : Nat} {S : List Nat} {x : Tm} {w w' : World} (h : x.In n w) (hk : Kp S w w') (hS : Oth n w S) : x.In n w' :=
  ⟨(h.b.kpO h.t1 hk hS).1, (h.s.kpO h.t2 hk hS).1, (h.b.kpO h.t1 hk hS).2, (h.s.kpO h.t2 hk hS).2, h.l1, h.l2⟩
theorem ec_rows {w : World} {b off : Nat} {e : Em} (h : Row w b off (ec e)) : Row w b off (txc e.x) ∧ Row w b off (dc e.x.t.frm) ∧ Row w b (off + 8) [.int .i64 e.x.t.non] ∧ Row w b (off + 9) [.int .i64 e.x.t.fee] ∧ Row w b (off + 13) (dc (nameT e.x.t)) ∧ Row w b (off + 21) [.int .i64 e.since] := by
  have h0 := h.part [] (txc e.x) (dc (nameT e.x.t) ++ [Value.int .i64 e.since]) (by simp [ec])
  have h1 := h.part (txc e.x) (dc (nameT e.x.t)) [Value.int .i64 e.since] (by simp [ec])
  have h2 := h.part (txc e.x ++ dc (nameT e.x.t)) [Value.int .i64 e.since] [] (by simp [ec])
  simp only [List.length_append, txc_length, dc_length, List.length_nil, Nat.add_zero] at h0 h1 h2
  obtain ⟨q0, q1, q2, -⟩ := txc_rowsO h0
  exact ⟨h0, q0, q1, q2, h1, h2⟩
/-- A pool in memory. -/
structure Pl (w : World) (base p : Nat) (v : Value) (room : Int) (ms : List Em) : Prop where
  blk : Blk w p (.cells #[.int .i64 room, v] 72)
  own : w.ownsRow base 74 22 v ms.length (flt ec ms)
  ins : ∀ e ∈ ms, e.x.In base w
  bp : base ≤ p
theorem Pl.oth {w : World} {base p : Nat} {v : Value} {room : Int} {ms : List Em} (h : Pl w base p v room ms) : Oth base w (p :: ownB v) := Oth.cons h.bp (Oth.cells h.blk (by decide)) (Oth.own h.own (Nat.le_refl _) (by decide))
theorem Pl.nb {w : World} {base p : Nat} {v : Value} {room : Int} {ms : List Em} (h : Pl w base p v room ms) : ∀ b, v.ownBlock = some b → b ∉ [p] := own_neb h.own (by decide) h.blk
theorem Pl.np {w : World} {base p : Nat} {v : Value} {room : Int} {ms : List Em} (h : Pl w base p v room ms) : p ∉ ownB v := fun hm => h.nb p (ownB_mem hm) List.mem_cons_self
theorem own_kpB {w w' : World} {base n sz : Nat} {v : Value} {T : TypeId} {xs : List Value} {S : List Nat} (ho : w.ownsRow base T sz v n xs) (hk : Kp S w w') (hS : ∀ b, v.ownBlock = some b → b ∉ S) : w'.ownsRow base T sz v n xs := by
  refine ⟨ho.1, ?_⟩
  rcases ho.2 with h | ⟨g, cap, cur, rfl, hg, hb, h1, h2, h3, h4⟩
  · exact Or.inl h
  · exact Or.inr ⟨g, cap, cur, rfl, hg, Blk.kp hb hk (hS g rfl), h1, h2, h3, h4⟩
theorem Pl.kp {w w' : World} {base p : Nat} {v : Value} {room : Int} {ms : List Em} {S : List Nat} (h : Pl w base p v room ms) (hk : Kp S w w') (hp : p ∉ S) (hv : ∀ b, v.ownBlock = some b → b ∉ S) (hS : Oth base w S) : Pl w' base p v room ms :=
  ⟨h.blk.kp hk hp, own_kpB h.own hk hv, fun e he => (h.ins e he).kpO hk hS, h.bp⟩
theorem Pl.kp0 {w w' : World} {base p : Nat} {v : Value} {room : Int} {ms : List Em} (h : Pl w base p v room ms) (hk : Kp [] w w') : Pl w' base p v room ms := h.kp hk List.not_mem_nil (fun _ _ => List.not_mem_nil) Oth.nil
theorem Pl.rows {w : World} {base p : Nat} {v : Value} {room : Int} {ms : List Em} (h : Pl w base p v room ms) : Row w p 0 [.int .i64 room] ∧ Row w p 1 [v] :=
  ⟨Row.of h.blk [] [v] rfl rfl, Row.of h.blk [.int .i64 room] [] rfl rfl⟩
theorem Pl.sl {w : World} {base p : Nat} {v : Value} {room : Int} {ms : List Em} (h : Pl w base p v room ms) : ∃ a c, v = .slice a ms.length c ∧ ms.length ≤ c ∧ Sl ec 22 w a ms := Sl.own ec_length h.own rfl
theorem Pl.base_le {w : World} {base p : Nat} {v : Value} {room : Int} {ms : List Em} (h : Pl w base p v room ms) : base ≤ w.heap.size := by
  have := h.blk.lt
  have := h.bp
  omega
attribute [local irreducible] CG NG SG Vals Der Row Blk MapIs IterAt nameT wrongT
set_option maxHeartbeats 16000000 in
theorem isk_spec {w : World} {b4 b5 : Nat} {k : Dg} {n : Int} (e : Em) (h4 : Row w b4 0 (dc k)) (h5 : Row w b5 0 [.int .i64 n]) : Ret Tryz.prog 72 #[ev e, .pointer (some ⟨b4, 0, none⟩), .pointer (some ⟨b5, 0, none⟩)] w (.bool (isK k n e.en)) := by
  refine enterL (args := [ev e, .pointer (some ⟨b4, 0, none⟩), .pointer (some ⟨b5, 0, none⟩)]) Tryz.func72 rfl Tryz.ntmps72 rfl ?_
  repeat (first|apply cA|apply cB)
  refine SG.box rfl rfl rfl (by exact rho_of rfl) (fun b1 w1 hk1 hb1 hB1 => ?_)
  have hB1 : Blk w1 b1 (.cells (ec e).toArray 74) := hB1
  obtain ⟨-, q0, q1, -⟩ := ec_rows (Row.all hB1 rfl)
  simp only [Nat.zero_add] at q1
  have h4 := h4.kp0 hk1
  have h5 := h5.kp0 hk1
  by_cases g0 : e.x.t.frm = k
  case neg =>
    repeat (first | first|apply cA|apply cB|apply cD|apply cE|apply cH|refine cV rfl rfl rfl rfl (by first|((first|apply qmv|apply qas|apply qla|apply qfa|apply qpk|apply qed)<;>(first|exact rfl|assumption|exact dcf (by first|assumption|omega)|exact List.not_mem_nil|apply dc_length|fail))|fail) ?_ | refine cX rfl rfl ?_)
    refine ret1 (Or.inl rfl) Tryz.results72 (by first | exact ResV.tmp rfl | exact ResV.agg rfl rfl (by assumption) (by first | exact dc_length _ | exact nc_length _ | exact rc_length _ _ _ | exact ec_length _ | exact dl_length _ _ _ _ | rfl) | exact ResV.cell rfl rfl (by assumption)) ?_
    refine ⟨?_, hk1⟩
    have : isK k n e.en = false := by
      cases hh : isK k n e.en with
      | false => rfl
      | true => exact absurd (isK_iff.1 hh).1 g0
    rw [this]
  by_cases g1 : e.x.t.non = n
  case neg =>
    repeat (first|apply cA|apply cB|apply cD|apply cE|apply cH|refine cV rfl rfl rfl rfl (by first|((first|apply qmv|apply qas|apply qlc|apply qla|apply qfa|apply qpk|apply qei|apply qed)<;>(first|exact rfl|assumption|exact dct (by first|assumption|omega)|exact dcf (by first|assumption|omega)|exact List.not_mem_nil|apply dc_length|fail))|fail) ?_)
    refine ret1 (Or.inl rfl) Tryz.results72 (by first | exact ResV.tmp rfl | exact ResV.agg rfl rfl (by assumption) (by first | exact dc_length _ | exact nc_length _ | exact rc_length _ _ _ | exact ec_length _ | exact dl_length _ _ _ _ | rfl) | exact ResV.cell rfl rfl (by assumption)) ?_
    refine ⟨?_, hk1⟩
    have : isK k n e.en = false := by
      cases hh : isK k n e.en with
      | false => rfl
      | true => exact absurd (isK_iff.1 hh).2 g1
    rw [this]
  repeat (first|apply cA|apply cB|apply cD|apply cE|apply cH|refine cV rfl rfl rfl rfl (by first|((first|apply qmv|apply qas|apply qlc|apply qla|apply qfa|apply qpk|apply qei|apply qed)<;>(first|exact rfl|assumption|exact dct (by first|assumption|omega)|exact List.not_mem_nil|apply dc_length|fail))|fail) ?_)
  refine ret1 (Or.inl rfl) Tryz.results72 (by first | exact ResV.tmp rfl | exact ResV.agg rfl rfl (by assumption) (by first | exact dc_length _ | exact nc_length _ | exact rc_length _ _ _ | exact ec_length _ | exact dl_length _ _ _ _ | rfl) | exact ResV.cell rfl rfl (by assumption)) ?_
  refine ⟨?_, hk1⟩
  have : isK k n e.en = true := isK_iff.2 ⟨g0, g1⟩
  rw [this]
set_option maxHeartbeats 16000000 in
theorem find_spec {w : World} {base p : Nat} {v : Value} {room : Int} {ms : List Em} (hP : Pl w base p v room ms) (hl : ms.length ≤ 1000000) (k : Dg) (n : Int) : Ret Tryz.prog 47 #[.pointer (some ⟨p, 0, none⟩), dv k, .int .i64 n] w (.int .i64 (idxZ (fun e : Em => isK k n e.en) ms)) := by
  refine enter3 Tryz.func47 rfl Tryz.ntmps47 rfl ?_
  repeat (first|apply cA|apply cB)
  refine SG.box rfl rfl rfl (by exact rho_of rfl) (fun b4 w1 hk1 hb4 hB4 => ?_)
  refine SG.box rfl rfl rfl (by exact rho_of rfl) (fun b5 w2 hk2 hb5 hB5 => ?_)
  have hB4 : Blk w1 b4 (.cells (dc k).toArray 38) := hB4
  have hB5 : Blk w2 b5 (.cells #[.int .i64 n] 3) := hB5
  have r4 : Row w2 b4 0 (dc k) := Row.all (hB4.kp0 hk2) rfl
  have r5 : Row w2 b5 0 [.int .i64 n] := Row.all hB5 rfl
  have k2 := hk1.trans hk2
  have hP := hP.kp0 k2
  obtain ⟨a, c, rfl, hc, hS⟩ := hP.sl
  obtain ⟨-, q1⟩ := hP.rows
  clear hB4 hB5
  repeat (first|apply cA|apply cB|apply cD|apply cE|refine cV rfl rfl rfl rfl (by first|((first|apply qmv|apply qas|apply qlc|apply qfa|apply qnc)<;>(first|exact rfl|assumption|exact List.not_mem_nil))|fail) ?_)
  refine cV rfl rfl rfl rfl (qmf (vs := [.pointer (some ⟨b4, 0, none⟩), .pointer (some ⟨b5, 0, none⟩)]) rfl) ?_
  refine SG.ret rfl rfl rfl (vs := [.slice a ms.length c, fnv 72 [.pointer (some ⟨b4, 0, none⟩), .pointer (some ⟨b5, 0, none⟩)]]) (by repeat' (first | exact True.intro | exact rho_of rfl | refine And.intro ?_ ?_)) (idxf_spec (f := 72) (Fn := by infer_instance) (caps := [.pointer (some ⟨b4, 0, none⟩), .pointer (some ⟨b5, 0, none⟩)]) (p := fun e : Em => isK k n e.en) (c := c) hS (by omega) (fun o ho W hk => isk_spec o (r4.kp0 hk) (r5.kp0 hk))) (fun w3 hk3 => ?_)
  repeat (first|apply cD|apply cE|apply cH|refine cV rfl rfl rfl rfl (by first|(apply qas<;>(exact rfl))|fail) ?_)
  refine ret1 (Or.inl rfl) Tryz.results47 (by first | exact ResV.tmp rfl | exact ResV.agg rfl rfl (by assumption) (by first | exact dc_length _ | exact nc_length _ | exact rc_length _ _ _ | exact ec_length _ | exact dl_length _ _ _ _ | rfl) | exact ResV.cell rfl rfl (by assumption)) ?_
  exact ⟨rfl, k2.trans hk3⟩
set_option maxHeartbeats 16000000 in
theorem len_spec {w : World} {base p : Nat} {v : Value} {room : Int} {ms : List Em} (hP : Pl w base p v room ms) : Ret Tryz.prog 43 #[.pointer (some ⟨p, 0, none⟩)] w (.int .i64 (ms.length : Int)) := by
  refine enter1 Tryz.func43 rfl Tryz.ntmps43 rfl ?_
  obtain ⟨a, c, rfl, hc, hS⟩ := hP.sl
  obtain ⟨-, q1⟩ := hP.rows
  repeat (first|apply cA|apply cB|apply cD|apply cE|refine cV rfl rfl rfl rfl (by first|((first|apply qep|apply qmv|apply qas|apply qep)<;>(exact rfl))|fail) ?_)
  refine dA rfl (by exact rho_of rfl) rfl ?_
  repeat (first|apply cA|apply cB|apply cD|apply cE|apply cF|apply cH|refine cV rfl rfl rfl rfl (by first|((first|apply qmv|apply qas|apply qlc|apply qfa|apply qnc|apply qln)<;>(first|exact rfl|assumption|exact List.not_mem_nil))|fail) ?_)
  refine ret1 (Or.inl rfl) Tryz.results43 (by first | exact ResV.tmp rfl | exact ResV.agg rfl rfl (by assumption) (by first | exact dc_length _ | exact nc_length _ | exact rc_length _ _ _ | exact ec_length _ | exact dl_length _ _ _ _ | rfl) | exact ResV.cell rfl rfl (by assumption)) ?_
  exact ⟨rfl, Kp.refl _ _⟩
theorem bpool (room : Int) (w : World) : (Instr.build 72 #[(0, .int .i64 room)]).run Tryz.prog w = .ok (.agg #[.int .i64 room, .slice none 0 0]) w := by kernel_rfl
set_option maxHeartbeats 16000000 in
theorem new_spec {w : World} {room : Int} (h1 : 1 ≤ room) (h2 : room ≤ 1024) : Calls Tryz.prog 16 #[.int .i64 room] w (fun e w' => ∃ p, e = .returned (.tuple #[.pointer (some ⟨p, 0, none⟩), .int .i64 0]) ∧ w.heap.size ≤ p ∧ Kp [] w w' ∧ ∀ base, base ≤ w.heap.size → Pl w' base p (.slice none 0 0) room []) := by
  refine enter1 Tryz.func16 rfl Tryz.ntmps16 rfl ?_
  have g1 : ¬ room < 1 := by omega
  have g2 : ¬ 1024 < room := by omega
  repeat (first|apply cA|apply cB|apply cD|apply cE|refine cV rfl rfl rfl rfl (by first|((first|apply qmv|apply qas|apply qpk|apply qls|apply qgt)<;>(first|exact rfl|exact dcf (by first|assumption|omega)|fail))|fail) ?_)
  refine dA rfl (by exact rho_of rfl) rfl ?_
  repeat (first|apply cA|apply cB|apply cE|apply cF|refine cV rfl rfl rfl rfl (by first|(apply qmv<;>(exact rfl))|fail) ?_)
  refine cV rfl rfl rfl rfl (vals_build rfl (bpool room)) ?_
  refine SG.box rfl rfl rfl (by exact rho_of rfl) (fun b1 w1 hk1 hb1 hB1 => ?_)
  have hB1 : Blk w1 b1 (.cells #[.int .i64 room, .slice none 0 0] 72) := hB1
  repeat (first|apply cD|apply cE|apply cH|refine cV rfl rfl rfl rfl (by first|(apply qas<;>(exact rfl))|fail) ?_)
  refine ret2 (Or.inl rfl) Tryz.results16 (by first | exact ResV.tmp rfl | exact ResV.agg rfl rfl (by assumption) (by first | exact dc_length _ | exact nc_length _ | exact rc_length _ _ _ | exact ec_length _ | exact dl_length _ _ _ _ | rfl) | exact ResV.cell rfl rfl (by assumption)) (by first | exact ResV.tmp rfl | exact ResV.agg rfl rfl (by assumption) (by first | exact dc_length _ | exact nc_length _ | exact rc_length _ _ _ | exact ec_length _ | exact dl_length _ _ _ _ | rfl) | exact ResV.cell rfl rfl (by assumption)) ?_
  exact ⟨b1, rfl, hb1, hk1, fun base hb => ⟨hB1, own_nil, fun e he => (by cases he), Nat.le_trans hb hb1⟩⟩
set_option maxHeartbeats 16000000 in
theorem newno_spec {w : World} {room : Int} (h : room < 1 ∨ 1024 < room) : Calls Tryz.prog 16 #[.int .i64 room] w (fun e w' => e = .returned (.tuple #[.pointer none, .int .i64 2]) ∧ Kp [] w w') := by
  refine enter1 Tryz.func16 rfl Tryz.ntmps16 rfl ?_
  by_cases g1 : room < 1
  · repeat (first | first|apply cA|apply cB|apply cD|apply cE|refine cV rfl rfl rfl rfl (by first|((first|apply qmv|apply qas|apply qpk|apply qls)<;>(first|exact rfl|exact dct (by first|assumption|omega)|fail))|fail) ?_ | refine cX rfl rfl ?_)
    refine cZ rfl (by exact rho_of rfl) rfl ?_
    repeat (first|apply cA|apply cB|apply cD|apply cE|apply cH|apply cK|refine cV rfl rfl rfl rfl (by first|(apply qas<;>(exact rfl))|fail) ?_)
    refine ret2 (Or.inl rfl) Tryz.results16 (by first | exact ResV.tmp rfl | exact ResV.agg rfl rfl (by assumption) (by first | exact dc_length _ | exact nc_length _ | exact rc_length _ _ _ | exact ec_length _ | exact dl_length _ _ _ _ | rfl) | exact ResV.cell rfl rfl (by assumption)) (by first | exact ResV.tmp rfl | exact ResV.agg rfl rfl (by assumption) (by first | exact dc_length _ | exact nc_length _ | exact rc_length _ _ _ | exact ec_length _ | exact dl_length _ _ _ _ | rfl) | exact ResV.cell rfl rfl (by assumption)) ?_
    exact ⟨rfl, Kp.refl _ _⟩
  · have g2 : 1024 < room := by omega
    repeat (first|apply cA|apply cB|apply cD|apply cE|refine cV rfl rfl rfl rfl (by first|((first|apply qmv|apply qas|apply qpk|apply qls|apply qgt)<;>(first|exact rfl|exact dct (by first|assumption|omega)|exact dcf (by first|assumption|omega)|fail))|fail) ?_)
    refine cZ rfl (by exact rho_of rfl) rfl ?_
    repeat (first|apply cA|apply cB|apply cD|apply cE|apply cH|apply cK|refine cV rfl rfl rfl rfl (by first|(apply qas<;>(exact rfl))|fail) ?_)
    refine ret2 (Or.inl rfl) Tryz.results16 (by first | exact ResV.tmp rfl | exact ResV.agg rfl rfl (by assumption) (by first | exact dc_length _ | exact nc_length _ | exact rc_length _ _ _ | exact ec_length _ | exact dl_length _ _ _ _ | rfl) | exact ResV.cell rfl rfl (by assumption)) (by first | exact ResV.tmp rfl | exact ResV.agg rfl rfl (by assumption) (by first | exact dc_length _ | exact nc_length _ | exact rc_length _ _ _ | exact ec_length _ | exact dl_length _ _ _ _ | rfl) | exact ResV.cell rfl rfl (by assumption)) ?_
    exact ⟨rfl, Kp.refl _ _⟩
end Go.Proofs.YtgbgnlboogalgaaGreat
namespace Go.Proofs.YtgbgnlboogalgaaGreat
open Go.Proofs
set_option linter.unusedVariables false
set_option maxHeartbeats 4000000 in
theorem bent' (w : World) (a0 a1 a2 a3 a4 a5 a6 a7 c0 c1 c2 c3 c4 c5 c6 c7 : UInt8) (n f k s : Int) (x1 x2 : Option Addr) (m1 m2 d1 d2 : Nat) :
    (Instr.build 74 #[(0, .agg #[bv a0, bv a1, bv a2, bv a3, bv a4, bv a5, bv a6, bv a7, .int .i64 n, .int .i64 f, .int .i64 k, .slice x1 m1 d1, .slice x2 m2 d2]), (1, .agg #[bv c0, bv c1, bv c2, bv c3, bv c4, bv c5, bv c6, bv c7]), (2, .int .i64 s)]).run Tryz.prog w = .ok (.agg #[bv a0, bv a1, bv a2, bv a3, bv a4, bv a5, bv a6, bv a7, .int .i64 n, .int .i64 f, .int .i64 k, .slice x1 m1 d1, .slice x2 m2 d2, bv c0, bv c1, bv c2, bv c3, bv c4, bv c5, bv c6, bv c7, .int .i64 s]) w := by kernel_rfl
theorem bent (w : World) (x : Tm) (d : Dg) (s : Int) : (Instr.build 74 #[(0, txv x), (1, dv d), (2, .int .i64 s)]).run Tryz.prog w = .ok (.agg (txc x ++ (dc d ++ [Value.int .i64 s])).toArray) w := by
  obtain ⟨⟨⟨l, hl⟩, n, f, k, b, g⟩, a1, c1, a2, c2⟩ := x
  obtain ⟨m, hm⟩ := d
  match l, hl, m, hm with
  | [x0, x1, x2, x3, x4, x5, x6, x7], _, [y0, y1, y2, y3, y4, y5, y6, y7], _ => exact bent' w x0 x1 x2 x3 x4 x5 x6 x7 y0 y1 y2 y3 y4 y5 y6 y7 n f k s a1 a2 b.length g.length c1 c2
set_option maxHeartbeats 4000000 in
theorem bsent' (w : World) (a0 a1 a2 a3 a4 a5 a6 a7 c0 c1 c2 c3 c4 c5 c6 c7 : UInt8) (n f k s : Int) (x1 x2 : Option Addr) (m1 m2 c1' c2' : Nat) :
    (Instr.buildSlice 70 1 #[(0, .agg #[bv a0, bv a1, bv a2, bv a3, bv a4, bv a5, bv a6, bv a7, .int .i64 n, .int .i64 f, .int .i64 k, .slice x1 m1 c1', .slice x2 m2 c2', bv c0, bv c1, bv c2, bv c3, bv c4, bv c5, bv c6, bv c7, .int .i64 s])]).run Tryz.prog w = .ok (.slice (some ⟨w.heap.size, 0, none⟩) 1 1) { w with heap := w.heap.push (.cells #[bv a0, bv a1, bv a2, bv a3, bv a4, bv a5, bv a6, bv a7, .int .i64 n, .int .i64 f, .int .i64 k, .slice x1 m1 c1', .slice x2 m2 c2', bv c0, bv c1, bv c2, bv c3, bv c4, bv c5, bv c6, bv c7, .int .i64 s] 74) } := by kernel_rfl
theorem bsentD (x : Tm) (d : Dg) (s : Int) (w : World) : (Instr.buildSlice 70 1 #[(0, .agg (txc x ++ (dc d ++ [Value.int .i64 s])).toArray)]).run Tryz.prog w = .ok (.slice (some ⟨w.heap.size, 0, none⟩) 1 1) { w with heap := w.heap.push (.cells (txc x ++ (dc d ++ [Value.int .i64 s])).toArray 74) } := by
  obtain ⟨⟨⟨l, hl⟩, n, f, k, b, g⟩, a1, c1, a2, c2⟩ := x
  obtain ⟨m, hm⟩ := d
  match l, hl, m, hm with
  | [x0, x1, x2, x3, x4, x5, x6, x7], _, [y0, y1, y2, y3, y4, y5, y6, y7], _ => exact bsent' w x0 x1 x2 x3 x4 x5 x6 x7 y0 y1 y2 y3 y4 y5 y6 y7 n f k s a1 a2 b.length g.length c1 c2
section
variable {room h : Int} {l : List En} {t : Tx}
theorem addZ_low (h1 : h < 0 ∨ 1099511627776 < h) : addZ room l h t = 2 := by
  unfold addZ
  rw [if_pos h1]
theorem addZ_bad (h1 : ¬ (h < 0 ∨ 1099511627776 < h)) (h2 : wrongT t ≠ 0) : addZ room l h t = wrongT t := by
  unfold addZ
  rw [if_neg h1, if_pos h2]
theorem addZ_same (h1 : ¬ (h < 0 ∨ 1099511627776 < h)) (h2 : wrongT t = 0) {o : En} (h3 : l.find? (isK t.frm t.non) = some o) (h4 : o.t = t) : addZ room l h t = 7 := by
  unfold addZ
  rw [if_neg h1, if_neg (fun k => k h2), h3]
  exact if_pos h4
theorem addZ_old (h1 : ¬ (h < 0 ∨ 1099511627776 < h)) (h2 : wrongT t = 0) {o : En} (h3 : l.find? (isK t.frm t.non) = some o) (h4 : o.t ≠ t) (h5 : t.fee ≤ o.t.fee) : addZ room l h t = 18 := by
  unfold addZ
  rw [if_neg h1, if_neg (fun k => k h2), h3]
  simp only
  rw [if_neg h4, if_pos h5]
theorem addZ_new (h1 : ¬ (h < 0 ∨ 1099511627776 < h)) (h2 : wrongT t = 0) {o : En} (h3 : l.find? (isK t.frm t.non) = some o) (h4 : o.t ≠ t) (h5 : ¬ t.fee ≤ o.t.fee) : addZ room l h t = 0 := by
  unfold addZ
  rw [if_neg h1, if_neg (fun k => k h2), h3]
  simp only
  rw [if_neg h4, if_neg h5]
theorem addZ_full (h1 : ¬ (h < 0 ∨ 1099511627776 < h)) (h2 : wrongT t = 0) (h3 : l.find? (isK t.frm t.non) = none) (h4 : room ≤ l.length) : addZ room l h t = 8 := by
  unfold addZ
  rw [if_neg h1, if_neg (fun k => k h2), h3]
  exact if_pos h4
theorem addZ_ok (h1 : ¬ (h < 0 ∨ 1099511627776 < h)) (h2 : wrongT t = 0) (h3 : l.find? (isK t.frm t.non) = none) (h4 : ¬ room ≤ l.length) : addZ room l h t = 0 := by
  unfold addZ
  rw [if_neg h1, if_neg (fun k => k h2), h3]
  exact if_neg h4
end
theorem map_cut {α β : Type} (f : α → β) (l : List α) (i : Nat) : (cutL l i).map f = (l.map f).eraseIdx i := by
  rw [cutL, List.map_append, List.map_take, List.map_drop, List.eraseIdx_eq_take_drop_succ]
theorem like_idx {ms : List Em} {k : Dg} {n : Int} : likeN (ms.map Em.en) k n = ms.findIdx (fun e => isK k n e.en) := by
  unfold likeN
  rw [List.findIdx_map]
  rfl
theorem Kp.st {S S' : List Nat} {w w1 w2 : World} (h : Kp S w w1) (h2 : Kp S' w1 w2) (hs : ∀ z ∈ S', z ∈ S ∨ w.heap.size ≤ z) : Kp S w w2 := h.trans_new h2 hs
attribute [local irreducible] CG NG SG Vals Der Row Blk MapIs IterAt nameT wrongT
set_option maxHeartbeats 16000000 in
theorem add_spec {w : World} {base p : Nat} {v : Value} {room : Int} {ms : List Em} {h : Int} {x : Tm} (hP : Pl w base p v room ms) (hx : x.In base w) (hI : PInv room (ms.map Em.en)) (hr : room ≤ 1024) :
    Calls Tryz.prog 20 #[.pointer (some ⟨p, 0, none⟩), .int .i64 h, txv x] w (fun e w' => e = .returned (.int .i64 (addZ room (ms.map Em.en) h x.t)) ∧ ∃ v' ms', Pl w' base p v' room ms' ∧ ms'.map Em.en = addE room (ms.map Em.en) h x.t ∧ Kp (p :: ownB v) w w' ∧ (∀ g, v'.ownBlock = some g → v.ownBlock = some g ∨ w.heap.size ≤ g)) := by
  refine enter3 Tryz.func20 rfl Tryz.ntmps20 rfl ?_
  have hno : ∀ {w' : World} {z : Int}, Kp [] w w' → addZ room (ms.map Em.en) h x.t = z → z ≠ 0 → (Ending.returned (.int .i64 z) = .returned (.int .i64 (addZ room (ms.map Em.en) h x.t)) ∧ ∃ v' ms', Pl w' base p v' room ms' ∧ ms'.map Em.en = addE room (ms.map Em.en) h x.t ∧ Kp (p :: ownB v) w w' ∧ (∀ g, v'.ownBlock = some g → v.ownBlock = some g ∨ w.heap.size ≤ g)) := fun hk hz hz0 => by
    refine ⟨by rw [hz], v, ms, hP.kp0 hk, ?_, hk.any, fun g hg => Or.inl hg⟩
    unfold addE
    rw [if_neg (by rw [hz]; exact hz0)]
  have hll : (ms.length : Int) ≤ 1024 := by have := hI.len; rw [List.length_map] at this; omega
  have hlp := hP.blk.lt
  repeat (first|apply cA|apply cB)
  refine SG.box rfl rfl rfl (by exact rho_of rfl) (fun b5 w1 hk1 hb5 hB5 => ?_)
  have hB5 : Blk w1 b5 (.cells (txc x).toArray 40) := hB5
  have lt5 := hB5.lt
  repeat (first|apply cA|apply cB|apply cD|apply cE|refine cV rfl rfl rfl rfl (by first|((first|apply qep|apply qmv|apply qas|apply qep)<;>(exact rfl))|fail) ?_)
  refine dA rfl (by exact rho_of rfl) rfl ?_
  by_cases h1 : h < 0
  · have hz : addZ room (ms.map Em.en) h x.t = 2 := addZ_low (Or.inl h1)
    repeat (first | first|apply cA|apply cB|apply cD|apply cE|apply cF|refine cV rfl rfl rfl rfl (by first|((first|apply qmv|apply qpk|apply qls)<;>(first|exact rfl|exact dct (by first|assumption|omega)|fail))|fail) ?_ | refine cX rfl rfl ?_)
    refine cZ rfl (by exact rho_of rfl) rfl ?_
    repeat (first|apply cA|apply cB|apply cD|apply cE|apply cH|apply cK|refine cV rfl rfl rfl rfl (by first|(apply qas<;>(exact rfl))|fail) ?_)
    refine ret1 (Or.inl rfl) Tryz.results20 (by first | exact ResV.tmp rfl | exact ResV.agg rfl rfl (by assumption) (by first | exact dc_length _ | exact nc_length _ | exact rc_length _ _ _ | exact ec_length _ | exact dl_length _ _ _ _ | rfl) | exact ResV.cell rfl rfl (by assumption)) ?_
    exact hno hk1 hz (by decide)
  by_cases h2 : 1099511627776 < h
  · have hz : addZ room (ms.map Em.en) h x.t = 2 := addZ_low (Or.inr h2)
    repeat (first|apply cA|apply cB|apply cD|apply cE|apply cF|refine cV rfl rfl rfl rfl (by first|((first|apply qmv|apply qpk|apply qls|apply qgt)<;>(first|exact rfl|exact dct (by first|assumption|omega)|exact dcf (by first|assumption|omega)|fail))|fail) ?_)
    refine cZ rfl (by exact rho_of rfl) rfl ?_
    repeat (first|apply cA|apply cB|apply cD|apply cE|apply cH|apply cK|refine cV rfl rfl rfl rfl (by first|(apply qas<;>(exact rfl))|fail) ?_)
    refine ret1 (Or.inl rfl) Tryz.results20 (by first | exact ResV.tmp rfl | exact ResV.agg rfl rfl (by assumption) (by first | exact dc_length _ | exact nc_length _ | exact rc_length _ _ _ | exact ec_length _ | exact dl_length _ _ _ _ | rfl) | exact ResV.cell rfl rfl (by assumption)) ?_
    exact hno hk1 hz (by decide)
  repeat (first|apply cA|apply cB|apply cD|apply cE|apply cF|refine cV rfl rfl rfl rfl (by first|((first|apply qmv|apply qpk|apply qls|apply qgt)<;>(first|exact rfl|exact dcf (by first|assumption|omega)|fail))|fail) ?_)
  refine dA rfl (by exact rho_of rfl) rfl ?_
  have hh : ¬ (h < 0 ∨ 1099511627776 < h) := by omega
  clear h1 h2
  obtain ⟨r0, -⟩ := txc_rows hB5
  repeat (first|apply cA|apply cB|apply cE|apply cF|refine cV rfl rfl rfl rfl (by first|(apply qla<;>(first|exact rfl|assumption|exact List.not_mem_nil|apply txc_length))|fail) ?_)
  refine SG.ret rfl rfl rfl (vs := [txv x]) (by repeat' (first | exact True.intro | exact rho_of rfl | refine And.intro ?_ ?_)) (check_spec (hx.kp0 hk1)) (fun w2 hk2 => ?_)
  clear r0
  have k2 := hk1.trans hk2
  by_cases h3 : wrongT x.t = 0
  rotate_left
  · have hz := addZ_bad (room := room) (l := ms.map Em.en) hh h3
    generalize wrongT x.t = z at h3 hz
    repeat (first|apply cA|apply cB|apply cD|apply cE|refine cV rfl rfl rfl rfl (by first|((first|apply qmv|apply qas|apply qni)<;>(first|exact rfl|exact dcf (by first|assumption|omega)|fail))|fail) ?_)
    refine cZ rfl (by exact rho_of rfl) rfl ?_
    repeat (first|apply cA|apply cB|apply cD|apply cE|apply cH|apply cK|refine cV rfl rfl rfl rfl (by first|((first|apply qmv|apply qas)<;>(exact rfl))|fail) ?_)
    refine ret1 (Or.inl rfl) Tryz.results20 (by first | exact ResV.tmp rfl | exact ResV.agg rfl rfl (by assumption) (by first | exact dc_length _ | exact nc_length _ | exact rc_length _ _ _ | exact ec_length _ | exact dl_length _ _ _ _ | rfl) | exact ResV.cell rfl rfl (by assumption)) ?_
    exact hno k2 hz h3
  rw [h3]
  have h00 : (0 : Int) = 0 := rfl
  repeat (first|apply cA|apply cB|apply cD|apply cE|refine cV rfl rfl rfl rfl (by first|((first|apply qmv|apply qas|apply qni)<;>(first|exact rfl|exact dct (by first|assumption|omega)|fail))|fail) ?_)
  refine dA rfl (by exact rho_of rfl) rfl ?_
  have hB5 := hB5.kp0 hk2
  obtain ⟨-, q0, q1, -⟩ := txc_rows hB5
  repeat (first|apply cA|apply cB|apply cE|apply cF|refine cV rfl rfl rfl rfl (by first|((first|apply qmv|apply qlc|apply qla|apply qfa)<;>(first|exact rfl|assumption|exact List.not_mem_nil|apply dc_length))|fail) ?_)
  refine SG.ret rfl rfl rfl (vs := [.pointer (some ⟨p, 0, none⟩), dv x.t.frm, .int .i64 x.t.non]) (by repeat' (first | exact True.intro | exact rho_of rfl | refine And.intro ?_ ?_)) (find_spec (hP.kp0 k2) (by omega) x.t.frm x.t.non) (fun w3 hk3 => ?_)
  clear q0 q1
  have k3 := k2.trans hk3
  have hB5 := hB5.kp0 hk3
  repeat (refine cV rfl rfl rfl rfl (by first|(apply qas<;>(exact rfl))|fail) ?_)
  refine cD ?_
  refine cE ?_
  have hP3 := hP.kp0 k3
  have hbO : b5 ∉ p :: ownB v := fun hm => by
    rcases List.mem_cons.1 hm with e | hm
    · omega
    · have := own_lt hP.own b5 (ownB_mem hm)
      omega
  refine CG.cut_then (fun L w' => SubE [(0, .pointer (some ⟨p, 0, none⟩)), (1, .int .i64 h), (5, .pointer (some ⟨b5, 0, none⟩))] L ∧ ∃ v2 ms2, Pl w' base p v2 room ms2 ∧ ms2.map Em.en = (ms.map Em.en).eraseIdx (likeN (ms.map Em.en) x.t.frm x.t.non) ∧ Kp (p :: ownB v) w3 w' ∧ (∀ g, v2.ownBlock = some g → v.ownBlock = some g) ∧ addZ room (ms.map Em.en) h x.t = 0 ∧ ms2.length ≤ ms.length) ?_ ?_
  · have hfi := find_idx (l := ms.map Em.en) (k := x.t.frm) (n := x.t.non)
    have hli := like_idx (ms := ms) (k := x.t.frm) (n := x.t.non)
    by_cases hf : ms.findIdx (fun e => isK x.t.frm x.t.non e.en) < ms.length
    · rw [idxZ_lt hf]
      generalize hi : ms.findIdx (fun e => isK x.t.frm x.t.non e.en) = i at hf hli
      rw [hli, List.getElem?_eq_getElem (by simpa using hf), List.getElem_map] at hfi
      have gi : (0 : Int) ≤ (i : Int) := by omega
      have gi2 : ¬ (i : Int) < 0 := by omega
      obtain ⟨a, c, rfl, hc, hS⟩ := hP3.sl
      obtain ⟨-, q1⟩ := hP3.rows
      obtain ⟨b1, o1, rfl, hri⟩ := hS.at hf
      obtain ⟨s0, -, -, -⟩ := ec_rows hri
      have hxi : ms[i].x.In base w3 := hP3.ins _ (List.getElem_mem hf)
      repeat (first|apply cA|apply cB|apply cD|apply cE|refine cV rfl rfl rfl rfl (by first|((first|apply qmv|apply qge)<;>(first|exact rfl|exact dct (by first|assumption|omega)|fail))|fail) ?_)
      refine cZ rfl (by exact rho_of rfl) rfl ?_
      repeat (first|apply cA|apply cB|refine cV rfl rfl rfl rfl (by first|((first|apply qmv|apply qlc|apply qla|apply qfa|apply qnc|apply qix)<;>(first|exact rfl|exact Ar.mk (by omega)|assumption|exact List.not_mem_nil|apply txc_length|fail))|fail) ?_)
      refine SG.alloc rfl rfl rfl (fun b9 w4 hk4 hb9 hB9 => ?_)
      refine SG.setAll (l := txc ms[i].x) rfl rfl (by exact rho_of rfl) (by exact rho_of rfl) hB9 (txc_length _) rfl (txc_one _) (fun w5 hk5 hB9 => ?_)
      have hB9 : Blk w5 b9 (.cells (txc ms[i].x).toArray 40) := hB9
      have k35 : Kp [] w3 w5 := hk4.trans_new hk5 (new1 (by omega))
      have hB5 := hB5.kp0 k35
      clear q1 hri s0
      obtain ⟨t0, -⟩ := txc_rows hB9
      obtain ⟨u0, -⟩ := txc_rows hB5
      repeat (first|apply cA|apply cB|apply cD|apply cE|refine cV rfl rfl rfl rfl (by first|(apply qla<;>(first|exact rfl|assumption|exact List.not_mem_nil|apply txc_length))|fail) ?_)
      refine SG.ret rfl rfl rfl (vs := [txv ms[i].x, txv x]) (by repeat' (first | exact True.intro | exact rho_of rfl | refine And.intro ?_ ?_)) (tsame_spec (hxi.kp0 k35) ((hx.kp0 k3).kp0 k35)) (fun w6 hk6 => ?_)
      clear t0 u0
      have k36 := k35.trans hk6
      have k6 := k3.trans k36
      by_cases hsame : ms[i].x.t = x.t
      · have hz := addZ_same (room := room) hh h3 hfi hsame
        rw [txEq_t hsame]
        repeat (first|apply cD|apply cE)
        refine cZ rfl (by exact rho_of rfl) rfl ?_
        repeat (first|apply cA|apply cB|apply cD|apply cE|apply cH|apply cK|refine cV rfl rfl rfl rfl (by first|(apply qas<;>(exact rfl))|fail) ?_)
        refine ret1 (Or.inl rfl) Tryz.results20 (by first | exact ResV.tmp rfl | exact ResV.agg rfl rfl (by assumption) (by first | exact dc_length _ | exact nc_length _ | exact rc_length _ _ _ | exact ec_length _ | exact dl_length _ _ _ _ | rfl) | exact ResV.cell rfl rfl (by assumption)) ?_
        exact hno k6 hz (by decide)
      rw [txEq_f hsame]
      repeat (first|apply cD|apply cE)
      refine dA rfl (by exact rho_of rfl) rfl ?_
      obtain ⟨-, -, -, u2, -⟩ := txc_rows (hB5.kp0 hk6)
      obtain ⟨-, -, -, t2, -⟩ := txc_rows (hB9.kp0 hk6)
      by_cases hfee : x.t.fee ≤ ms[i].x.t.fee
      · have hz := addZ_old (room := room) hh h3 hfi hsame hfee
        repeat (first|apply cA|apply cB|apply cD|apply cE|apply cF|refine cV rfl rfl rfl rfl (by first|((first|apply qlc|apply qfa|apply qle)<;>(first|exact rfl|assumption|exact dct (by first|assumption|omega)|exact List.not_mem_nil|fail))|fail) ?_)
        refine cZ rfl (by exact rho_of rfl) rfl ?_
        repeat (first|apply cA|apply cB|apply cD|apply cE|apply cH|apply cK|refine cV rfl rfl rfl rfl (by first|(apply qas<;>(exact rfl))|fail) ?_)
        refine ret1 (Or.inl rfl) Tryz.results20 (by first | exact ResV.tmp rfl | exact ResV.agg rfl rfl (by assumption) (by first | exact dc_length _ | exact nc_length _ | exact rc_length _ _ _ | exact ec_length _ | exact dl_length _ _ _ _ | rfl) | exact ResV.cell rfl rfl (by assumption)) ?_
        exact hno k6 hz (by decide)
      have hz := addZ_new (room := room) hh h3 hfi hsame hfee
      repeat (first|apply cA|apply cB|apply cD|apply cE|apply cF|refine cV rfl rfl rfl rfl (by first|((first|apply qlc|apply qfa|apply qle)<;>(first|exact rfl|assumption|exact dcf (by first|assumption|omega)|exact List.not_mem_nil|fail))|fail) ?_)
      refine dA rfl (by exact rho_of rfl) rfl ?_
      clear u2 t2
      have hP6 := hP3.kp0 k36
      obtain ⟨-, q1⟩ := hP6.rows
      repeat (first|apply cB|apply cE|apply cF|refine cV rfl rfl rfl rfl (by first|((first|apply qmv|apply qlc|apply qfa|apply qnc|apply qad)<;>(first|exact rfl|exact Ar.mk (by omega)|assumption|exact List.not_mem_nil|fail))|fail) ?_)
      refine SG.call rfl rfl rfl (vs := [.slice (some ⟨b1, o1, none⟩) ms.length c, .int .i64 (i : Int), .int .i64 ((i : Int) + 1)]) (by repeat' (first | exact True.intro | exact rho_of rfl | refine And.intro ?_ ?_)) ((edel_spec hP6.own (by omega) hf hP6.base_le).mono (fun e w7 hh7 => ?_))
      obtain ⟨v7, he, hk7, ho7, hv7⟩ := hh7
      refine ⟨_, he, ?_⟩
      clear q1
      have hB7 := hP6.blk.kp hk7 hP6.np
      have hn7 : ∀ b, v7.ownBlock = some b → b ∉ [p] := own_neb ho7 (by decide) hB7
      obtain ⟨a7, c7, rfl, -, -⟩ := Sl.own (l := cutL ms i) ec_length ho7 rfl
      repeat (first|refine cV rfl rfl rfl rfl (by first|((first|apply qfa|apply qnc)<;>(exact rfl))|fail) ?_)
      refine SG.setMid [.int .i64 room] [.slice (some ⟨b1, o1, none⟩) ms.length c] [] rfl rfl (by exact rho_of rfl) (by exact rho_of rfl) hB7 rfl rfl rfl rfl rfl (fun w8 hk8 hB8 => ?_)
      have hP8 : Pl w8 base p (.slice a7 (cutL ms i).length c7) room (cutL ms i) := by
        refine ⟨hB8, own_kpB ho7 hk8 hn7, fun e he => ?_, hP6.bp⟩
        have hm : e ∈ ms := by
          rcases List.mem_append.1 he with h | h
          · exact List.mem_of_mem_take h
          · exact List.mem_of_mem_drop h
        refine (((hP6.ins e hm).kpO hk7 (Oth.own hP6.own (Nat.le_refl _) (by decide))).kpO hk8 (Oth.cons hP6.bp (Oth.cells hB7 (by decide)) Oth.nil))
      repeat (first|apply cD)
      refine NG.cut ⟨by (repeat' (first | exact True.intro | exact rfl | refine And.intro ?_ ?_)), _, _, hP8, by rw [hli]; exact map_cut _ _ _, ((k36.any).trans (hk7.mono (fun z hz => List.mem_cons_of_mem _ hz))).trans (hk8.mono (fun z hz => by rw [List.mem_singleton] at hz; rw [hz]; exact List.mem_cons_self)), hv7, hz, ?_⟩
      unfold cutL
      rw [List.length_append, List.length_take, List.length_drop]
      omega
    · rw [idxZ_no hf]
      rw [hli, List.getElem?_eq_none (by rw [List.length_map]; omega)] at hfi
      have gi : ¬ (0 : Int) ≤ -1 := by omega
      obtain ⟨a, c, rfl, hc, hS⟩ := hP3.sl
      obtain ⟨q0, q1⟩ := hP3.rows
      repeat (first|apply cA|apply cB|apply cD|apply cE|refine cV rfl rfl rfl rfl (by first|((first|apply qmv|apply qge)<;>(first|exact rfl|exact dcf (by first|assumption|omega)|fail))|fail) ?_)
      refine dA rfl (by exact rho_of rfl) rfl ?_
      repeat (first|apply cA)
      refine CG.tail mixed 9 [0, 1, 2, 3, 4, 5, 6, 7, 8] (by kernel_rfl) ?_
      repeat (refine cY rfl rfl rfl (by first|((first|apply qmv|apply qlc|apply qfa|apply qnc|apply qln)<;>(first|exact rfl|assumption|exact List.not_mem_nil))|fail) ?_)
      refine Der.tl (fun w4 hk4 _ _ => ?_)
      clear q0 q1
      by_cases hfull : room ≤ (ms.length : Int)
      · have hz := addZ_full (room := room) hh h3 hfi (by rw [List.length_map]; exact hfull)
        repeat (first|apply cD|apply cE|refine cV rfl rfl rfl rfl (by first|(apply qge<;>(first|exact rfl|exact dct (by first|assumption|omega)|fail))|fail) ?_)
        refine cZ rfl (by exact rho_of rfl) rfl ?_
        repeat (first|apply cA|apply cB|apply cD|apply cE|apply cH|apply cK|refine cV rfl rfl rfl rfl (by first|(apply qas<;>(exact rfl))|fail) ?_)
        refine ret1 (Or.inl rfl) Tryz.results20 (by first | exact ResV.tmp rfl | exact ResV.agg rfl rfl (by assumption) (by first | exact dc_length _ | exact nc_length _ | exact rc_length _ _ _ | exact ec_length _ | exact dl_length _ _ _ _ | rfl) | exact ResV.cell rfl rfl (by assumption)) ?_
        exact hno (k3.trans hk4) hz (by decide)
      · have hz := addZ_ok (room := room) hh h3 hfi (by rw [List.length_map]; exact hfull)
        repeat (first|apply cD|apply cE|refine cV rfl rfl rfl rfl (by first|(apply qge<;>(first|exact rfl|exact dcf (by first|assumption|omega)|fail))|fail) ?_)
        refine dA rfl (by exact rho_of rfl) rfl ?_
        repeat (first|apply cF)
        refine NG.cut ⟨by (repeat' (first | exact True.intro | exact rfl | refine And.intro ?_ ?_)), _, _, hP3.kp0 hk4, ?_, hk4.any, fun _ h => h, hz, Nat.le_refl _⟩
        rw [hli, List.eraseIdx_of_length_le (by rw [List.length_map]; omega)]
  rintro L w4 ⟨hLL, v2, ms2, hP4, hms, hk4, hv2, hz, hl2⟩
  refine CG.to _ hLL ?_
  clear hLL L hno
  have k4 : Kp (p :: ownB v) w w4 := k3.any.trans hk4
  have hB5 := hB5.kp hk4 hbO
  have hx4 : x.In base w4 := (hx.kp0 k3).kpO hk4 hP3.oth
  obtain ⟨u0, -⟩ := txc_rows hB5
  obtain ⟨-, q1⟩ := hP4.rows
  have hl1 := hx.l1
  have hsz := hP4.base_le
  have hSl : ∀ z ∈ ownB v2, z < w4.heap.size := fun z hz => own_lt hP4.own z (ownB_mem hz)
  have hO := Oth.own hP4.own (Nat.le_refl _) (by decide)
  have nbp : p ∉ ownB v2 := hP4.np
  have nb5 : b5 ∉ ownB v2 := fun hm => by
    have := own_lt hP.own b5 (hv2 b5 (ownB_mem hm))
    omega
  obtain ⟨a2, c2, rfl, -, -⟩ := hP4.sl
  obtain ⟨F', hF'⟩ : ∃ F' : {y : Tm // y.t = x.t} → World → Prop, F' = fun y W => y.1.In base W ∧ (∀ b off, y.1.a1 = some ⟨b, off, none⟩ → w4.heap.size ≤ b) ∧ (∀ b off, y.1.a2 = some ⟨b, off, none⟩ → w4.heap.size ≤ b) := ⟨_, rfl⟩
  have hst : ∀ y, Stab (ownB (.slice a2 ms2.length c2)) (F' y) := fun y W W' hk h => by
    rw [hF'] at h ⊢
    obtain ⟨h1, h2, h3⟩ := h
    have n1 : ∀ b off, y.1.a1 = some ⟨b, off, none⟩ → b ∉ ownB (.slice a2 ms2.length c2) := fun b off e hm => by have := h2 b off e; have := hSl b hm; omega
    have n2 : ∀ b off, y.1.a2 = some ⟨b, off, none⟩ → b ∉ ownB (.slice a2 ms2.length c2) := fun b off e hm => by have := h3 b off e; have := hSl b hm; omega
    exact ⟨⟨h1.b.kp hk n1, h1.s.kp hk n2, h1.t1.kp hk (fun _ => n1), h1.t2.kp hk (fun _ => n2), h1.l1, h1.l2⟩, h2, h3⟩
  repeat (first|apply cA)
  refine CG.tailg mixed 13 [0, 1, 2, 3, 4, 5, 7, 8, 9, 6, 10, 11, 12] [6, 11, 12] (ownB (.slice a2 ms2.length c2)) (fun w => w.ownsRow base 74 22 (.slice a2 ms2.length c2) ms2.length (flt ec ms2)) (by kernel_rfl) hP4.own (fun _ _ hk h => own_kp0 h hk) ?_
  repeat (refine cY rfl rfl rfl (by first|((first|apply qmv|apply qlc|apply qla|apply qfa|apply qnc)<;>(first|exact rfl|assumption|apply txc_length))|fail) ?_)
  refine Der.call rfl rfl rfl (vs := [txv x]) (by repeat' (first | exact True.intro | exact rho_of rfl | refine And.intro ?_ ?_)) (fun W hk _ => name_spec (hx4.kpO hk hO)) ?_
  repeat (refine cY rfl rfl rfl (by first|(apply qmv<;>(exact rfl))|fail) ?_)
  refine Der.callGR (X := {y : Tm // y.t = x.t}) (vs := [txv x]) (fun y => txv y.1) F' (fun _ W => W.ownsRow base 74 22 (.slice a2 ms2.length c2) ms2.length (flt ec ms2)) rfl rfl rfl rfl (by repeat' (first | exact True.intro | exact rho_of rfl | refine And.intro ?_ ?_)) hst (fun _ _ _ hk h => own_kp0 h hk) (fun _ _ _ h => h) (fun W hk _ hR => (tclone_spec (hx4.kpO hk hO)).mono (fun e W' hh => ?_)) (fun y => ?_)
  · obtain ⟨y, hy, he, hin, hky, g1, g2⟩ := hh
    refine ⟨⟨y, hy⟩, he, ?_, own_kp0 hR hky, hky.any⟩
    rw [hF']
    exact ⟨hin.mono (Nat.zero_le _), fun b off e => Nat.le_trans hk.size (g1 b off e), fun b off e => Nat.le_trans hk.size (g2 b off e)⟩
  refine cY rfl rfl rfl (vals_build rfl (fun W => bent W y.1 (nameT x.t) h)) ?_
  refine Der.buildR (cs := (txc y.1 ++ (dc (nameT x.t) ++ [Value.int .i64 h])).toArray) (E := 74) rfl rfl rfl rfl rfl (fun W => bsentD y.1 (nameT x.t) h W) hSl (fun W W' hk h => ⟨trivial, hst y W W' hk h.2⟩) (fun _ _ hk h => own_kp0 h hk) (fun bn => ?_)
  have eec : ec ⟨y.1, h⟩ = txc y.1 ++ (dc (nameT x.t) ++ [Value.int .i64 h]) := by
    have := y.2
    unfold ec
    rw [this]
  refine Der.appendR (base := base) (e := 74) (i := Tryz.t74) (f := ty.i74) (v := .slice a2 ms2.length c2) (nn := ms2.length) (xs := flt ec ms2) (b := bn) (off := 0) (m := 1) (c := 1) (news := txc y.1 ++ (dc (nameT x.t) ++ [Value.int .i64 h])) rfl rfl rfl rfl (by exact rho_of rfl) (by exact rho_of rfl) rfl rfl rfl (fun W hk hF => Row.all hF.2.2 rfl) (by rw [← eec, ec_length]; rfl) (by rw [← eec]; exact ec_one _) (by simp only [maxLen]; omega) (by show (ms2.length + 1) * 96 ≤ _; omega) hsz (fun _ h => h) (fun W W' hk hF => ⟨⟨trivial, hst y W W' hk hF.1.2⟩, hF.2.1, hF.2.2.kp hk (fun hm => by have := hSl _ hm; have := hF.2.1; omega)⟩) (fun v5 => ?_)
  refine Der.tl (fun w5 hk5 hF ho5 => ?_)
  obtain ⟨⟨⟨-, hFy⟩, -⟩, hv5⟩ := hF
  rw [hF'] at hFy
  have ho5 : w5.ownsRow base 74 22 v5 (ms2 ++ [(⟨y.1, h⟩ : Em)]).length (flt ec (ms2 ++ [(⟨y.1, h⟩ : Em)])) := by
    rw [flt_append, flt_one, eec, List.length_append]
    exact ho5
  have hB5 := hP4.blk.kp hk5 nbp
  have hn5 : ∀ b, v5.ownBlock = some b → b ∉ [p] := own_neb ho5 (by decide) hB5
  obtain ⟨a5, c5, rfl, -, -⟩ := Sl.own ec_length ho5 rfl
  clear q1 u0
  refine cV rfl rfl rfl rfl (by first|(apply qnc<;>(exact rfl))|fail) ?_
  refine cV rfl rfl rfl rfl (by first|(apply qfa<;>(exact rfl))|fail) ?_
  refine SG.setMid [.int .i64 room] [.slice a2 ms2.length c2] [] rfl rfl (by exact rho_of rfl) (by exact rho_of rfl) hB5 rfl rfl rfl rfl rfl (fun w6 hk6 hB6 => ?_)
  repeat (first|apply cA|apply cB|apply cD|apply cE|apply cH|refine cV rfl rfl rfl rfl (by first|(apply qas<;>(exact rfl))|fail) ?_)
  refine ret1 (Or.inl rfl) Tryz.results20 (by first | exact ResV.tmp rfl | exact ResV.agg rfl rfl (by assumption) (by first | exact dc_length _ | exact nc_length _ | exact rc_length _ _ _ | exact ec_length _ | exact dl_length _ _ _ _ | rfl) | exact ResV.cell rfl rfl (by assumption)) ?_
  refine ⟨by rw [hz], _, ms2 ++ [(⟨y.1, h⟩ : Em)], ⟨hB6, own_kpB ho5 hk6 hn5, fun e he => ?_, hP4.bp⟩, ?_, ?_, fun g hg => ?_⟩
  · have hO6 : Oth base w5 [p] := Oth.cons hP4.bp (Oth.cells hB5 (by decide)) Oth.nil
    rcases List.mem_append.1 he with he | he
    · exact ((hP4.ins e he).kpO hk5 hO).kpO hk6 hO6
    · rw [List.mem_singleton] at he
      subst he
      exact hFy.1.kpO hk6 hO6
  · rw [List.map_append, hms]
    unfold addE
    rw [if_pos hz]
    unfold addL
    have : Em.en ⟨y.1, h⟩ = ⟨x.t, h⟩ := by
      unfold Em.en
      rw [y.2]
    simp only [List.map_cons, List.map_nil, this]
  · refine (k4.st hk5 (fun z hz => ?_)).st hk6 (fun z hz => ?_)
    · exact Or.inl (List.mem_cons_of_mem _ (ownB_of (hv2 z (ownB_mem hz))))
    · rw [List.mem_singleton] at hz
      subst hz
      exact Or.inl List.mem_cons_self
  · rcases hv5 g hg with hh | hh
    · exact Or.inl (hv2 g hh)
    · have := k4.size
      exact Or.inr (by omega)
end Go.Proofs.YtgbgnlboogalgaaGreat
namespace Go.Proofs.YtgbgnlboogalgaaGreat
set_option linter.unusedVariables false
section
variable {κ ν : Type} {enc : κ → Value} {V : ν → Value} {m : List (κ × ν)} {w w' : World} {b : Nat} {P : Program} {k T E : TypeId}
/-- What an entry that is taken promises. -/
def MEnt (P : Program) (T : TypeId) (b : Nat) (st : Int) (o' : Obj) (enc : κ → Value) (V : ν → Value) [DecidableEq κ] (m : List (κ × ν)) (x : κ) : Prop :=
  ∀ (w2 : World) (y : ν), Blk w2 b o' → ∃ o2, (Instr.entryStore T (.map (some b)) (.int .i64 st) (V y)).run P w2 = .ok () { w2 with heap := w2.heap.setIfInBounds b o2 } ∧ MapIs { w2 with heap := w2.heap.setIfInBounds b o2 } b enc V (aput m x y) ∧ Kp [b] w2 { w2 with heap := w2.heap.setIfInBounds b o2 }
theorem run_mapEntry [DecidableEq κ] [u : Ut P T (.map k E)] {i : TypeInfo} [f : Inf P E i] {z : Value} (hz : i.zero = some z) (h : MapIs w b enc V m) (K : KeyEnc P k enc) (x : κ) :
    ∃ (st : Int) (o' : Obj), (Instr.mapEntry T (.map (some b)) (enc x)).run P w = .ok (.tuple #[(alook m x).elim z V, .int .i64 st]) { w with heap := w.heap.setIfInBounds b o' } ∧ Kp [b] w { w with heap := w.heap.setIfInBounds b o' } ∧ Blk { w with heap := w.heap.setIfInBounds b o' } b o' ∧ (∃ es cl, o' = .map es cl) ∧ MEnt P T b st o' enc V m x := by
  obtain ⟨es, c, hb, hst, hm, hks⟩ := h.keys K
  obtain ⟨l, hl⟩ := K.key x
  have hb' : w.heap[b]? = some (.map es c) := hb
  rcases K.law.find w hl es.toList hks with ⟨h1, h2⟩ | ⟨j, e0, h1, h2, h3⟩
  · have hn := (find_pairs K.inj hm (x := x)).1 h2
    rw [hn]
    refine ⟨c, .map (es.push ⟨enc x, z, c⟩) (c + 1), ?_, Kp.set w hb rfl rfl, hb.set _, ⟨_, _, rfl⟩, fun w2 y hB2 => ⟨.map (es.push ⟨enc x, V y, c⟩) (c + 1), ?_, ⟨_, _, hB2.set _, MapKept.stamped_push hst h2, ?_⟩, Kp.set w2 hB2 rfl rfl⟩⟩
    · simp [Instr.mapEntry, run_underlying u.eq, MapKept.run_getObj_map hb', K.law.check w _ hl, h1, run_zero (f := f) hz, MapKept.run_setObj_map _ hb', Result.andThen, goInt]
    · have hw2 : w2.heap[b]? = some (.map (es.push ⟨enc x, z, c⟩) (c + 1)) := hB2
      have hidx : (es.push ⟨enc x, z, c⟩).findIdx? (fun e => ((e.born : Nat) : Int) == ((c : Nat) : Int)) = some es.size := by
        rw [WideElems.findIdx_arr]
        have := WideElems.findIdx_born (l := (es.push ⟨enc x, z, c⟩).toList) (j := es.size) (e0 := ⟨enc x, z, c⟩) (by
          simp only [Array.toList_push, List.map_append, List.map_cons, List.map_nil]
          refine List.nodup_append.2 ⟨((MapKept.stamped_iff es c).1 hst).2.1, by simp, fun a ha c2 hc e1 => ?_⟩
          simp only [List.mem_singleton] at hc
          obtain ⟨x2, hx, rfl⟩ := List.mem_map.1 ha
          have := ((MapKept.stamped_iff es c).1 hst).1 x2 hx
          omega) (by simp)
        exact this
      have hmod : (es.push ⟨enc x, z, c⟩).modify es.size (fun e => { e with val := V y }) = es.push ⟨enc x, V y, c⟩ := by
        apply Array.ext'
        rw [Array.toList_modify, Array.toList_push, Array.toList_push, ← Array.length_toList, WideElems.modify_last]
      simp [Instr.entryStore, MapKept.run_getObj_map hw2, asInt, asIntOf, hidx, hmod, MapKept.run_setObj_map _ hw2, Result.andThen]
    · rw [aput_new y hn]
      simp [hm]
  · obtain ⟨y0, hy, hv, _, h4⟩ := (find_pairs K.inj hm (x := x)).2 j e0 h2 h3 hst.2.2
    have hj : es[j]? = some e0 := by simpa using h2
    have hsame : es.modify j (fun e => { e with key := enc x }) = es := by
      apply Array.ext'
      rw [Array.toList_modify, ChangeMaps.modify_eq_set _ _ _ _ h2]
      have : ({ e0 with key := enc x } : MapEntry) = e0 := by rw [← h3]
      rw [this]
      exact WideElems.set_self _ _ _ h2
    rw [hy]
    refine ⟨e0.born, .map es c, ?_, Kp.set w hb rfl rfl, hb.set _, ⟨_, _, rfl⟩, fun w2 y hB2 => ⟨.map (es.modify j fun e => { e with key := enc x, val := V y }) c, ?_, ⟨_, _, hB2.set _, MapKept.stamped_modify hst _ _ (fun _ _ => rfl) (fun e' _ he' => ?_), ?_⟩, Kp.set w2 hB2 rfl rfl⟩⟩
    · simp [Instr.mapEntry, run_underlying u.eq, MapKept.run_getObj_map hb', K.law.check w _ hl, h1, hj, h3, K.law.stays w hl, hsame, hv, MapKept.run_setObj_map _ hb', Result.andThen, goInt]
    · have hw2 : w2.heap[b]? = some (.map es c) := hB2
      have hidx : es.findIdx? (fun e => ((e.born : Nat) : Int) == ((e0.born : Nat) : Int)) = some j := by
        rw [WideElems.findIdx_arr]
        exact WideElems.findIdx_born ((MapKept.stamped_iff es c).1 hst).2.1 h2
      have hmod : es.modify j (fun e => { e with val := V y }) = es.modify j (fun e' => { e' with key := enc x, val := V y }) := by
        apply Array.ext'
        rw [Array.toList_modify, Array.toList_modify, ChangeMaps.modify_eq_set _ _ _ _ h2, ChangeMaps.modify_eq_set _ _ _ _ h2, ← h3]
      simp [Instr.entryStore, MapKept.run_getObj_map hw2, asInt, asIntOf, hidx, hmod, MapKept.run_setObj_map _ hw2, Result.andThen]
    · rw [hj] at he'
      cases he'
      exact h3.symm
    · rw [Array.toList_modify, ChangeMaps.modify_eq_set _ _ _ _ h2]
      exact h4 y
variable {n : Nat} {Q : Exit → Act → World → Prop} {L : Env} {ops rest : List Oper} {ty : TypeId} {pos : String} {af : Array Edge} {g : Option (Nat × Bool)}
theorem SG.mapEntry [DecidableEq κ] {d : Nat} [u : Ut P T (.map k E)] {i : TypeInfo} [f : Inf P E i] {z : Value} {a x : Operand} {kx : κ} (hd : Nat.blt d n = true)
    (hw : want ops L ⟨some d, .mapEntry T a x, ty, pos, af, g⟩ = some true) (hk : (known L a && known L x) = true) (ha : rho L a = .map (some b)) (hx : rho L x = enc kx) (hm : MapIs w b enc V m) (K : KeyEnc P k enc) (hz : i.zero = some z)
    (h : ∀ st o' w1, Kp [b] w w1 → Blk w1 b o' → (∃ es cl, o' = .map es cl) → MEnt P T b st o' enc V m kx → SG P n ops Q rest ((d, .tuple #[(alook m kx).elim z V, .int .i64 st]) :: L) w1) : SG P n ops Q (⟨some d, .mapEntry T a x, ty, pos, af, g⟩ :: rest) L w := by
  refine SG.op (by simpa using hd) rfl hw (by simpa [Op.operands] using hk) ?_
  unfold OpRun
  obtain ⟨st, o', h1, h2, h3, h5, h4⟩ := run_mapEntry (P := P) (u := u) (f := f) hz hm K kx
  have : (execOp (rho L) ⟨some d, .mapEntry T a x, ty, pos, af, g⟩).run P w = .ok (.value (.tuple #[(alook m kx).elim z V, .int .i64 st])) { w with heap := w.heap.setIfInBounds b o' } := by
    simp only [execOp, ha, hx, Sem.run_bind, h1, Result.andThen, Sem.run_pure]
  rw [this]
  exact h st o' _ h2 h3 h5 h4
theorem SG.entryStore [DecidableEq κ] {a s x : Operand} {kx : κ} {vy : ν} {st : Int} {o' : Obj}
    (hw : want ops L ⟨none, .entryStore T a s x, ty, pos, af, g⟩ = some true) (hk : (known L a && (known L s && known L x)) = true) (ha : rho L a = .map (some b)) (hs : rho L s = .int .i64 st) (hx : rho L x = V vy) (he : MEnt P T b st o' enc V m kx) (hB : Blk w b o')
    (h : ∀ w', Kp [b] w w' → MapIs w' b enc V (aput m kx vy) → SG P n ops Q rest L w') : SG P n ops Q (⟨none, .entryStore T a s x, ty, pos, af, g⟩ :: rest) L w := by
  refine SG.op rfl rfl hw (by simpa [Op.operands] using hk) ?_
  unfold OpRun
  obtain ⟨o2, h1, h2, h3⟩ := he w vy hB
  have : (execOp (rho L) ⟨none, .entryStore T a s x, ty, pos, af, g⟩).run P w = .ok .skip { w with heap := w.heap.setIfInBounds b o2 } := by
    simp only [execOp, ha, hs, hx, Sem.run_bind, h1, Result.andThen, Sem.run_pure]
  rw [this]
  exact h _ h3 h2
end
end Go.Proofs.YtgbgnlboogalgaaGreat
namespace Go.Proofs.YtgbgnlboogalgaaGreat
open Go.Proofs Go.Shelf
set_option linter.unusedVariables false
def sortRen : Go.Shelf.Ren := ⟨fun | 6 => 95 | 15 => 112 | 14 => 111 | 28 => 122 | 29 => 123 | 20 => 114 | 21 => 115 | 22 => 116 | 23 => 117 | 24 => 118 | 25 => 119 | 26 => 120 | 27 => 121 | 46 => 125 | 47 => 126 | 48 => 127 | 49 => 128 | 50 => 129 | 57 => 131 | n => n, fun | 22 => 113 | 24 => 3 | 25 => 151 | 3 => 3 | 39 => 168 | 0 => 0 | 53 => 179 | 55 => 107 | 4 => 4 | 46 => 173 | 45 => 172 | 50 => 75 | 5 => 5 | 9 => 9 | 66 => 181 | 70 => 185 | 76 => 188 | 77 => 189 | n => n, fun n => n⟩
theorem sortL : SlLaysF0.n6 Tryz.prog sortRen where
  mixed := by kernel_rfl
  f6 := ⟨"slices.SortFunc[[]int,int]", by decide, Tryz.func95.trans (congrArg some (by kernel_rfl))⟩
  f14 := ⟨"slices.pdqsortCmpFunc[int]", by decide, Tryz.func111.trans (congrArg some (by kernel_rfl))⟩
  f15 := Tryz.func112.trans (congrArg some (by kernel_rfl))
  f20 := ⟨"slices.insertionSortCmpFunc[int]", by decide, Tryz.func114.trans (congrArg some (by kernel_rfl))⟩
  f21 := ⟨"slices.heapSortCmpFunc[int]", by decide, Tryz.func115.trans (congrArg some (by kernel_rfl))⟩
  f22 := ⟨"slices.breakPatternsCmpFunc[int]", by decide, Tryz.func116.trans (congrArg some (by kernel_rfl))⟩
  f23 := ⟨"slices.choosePivotCmpFunc[int]", by decide, Tryz.func117.trans (congrArg some (by kernel_rfl))⟩
  f24 := ⟨"slices.reverseRangeCmpFunc[int]", by decide, Tryz.func118.trans (congrArg some (by kernel_rfl))⟩
  f25 := ⟨"slices.partialInsertionSortCmpFunc[int]", by decide, Tryz.func119.trans (congrArg some (by kernel_rfl))⟩
  f26 := ⟨"slices.partitionEqualCmpFunc[int]", by decide, Tryz.func120.trans (congrArg some (by kernel_rfl))⟩
  f27 := ⟨"slices.partitionCmpFunc[int]", by decide, Tryz.func121.trans (congrArg some (by kernel_rfl))⟩
  f28 := Tryz.func122.trans (congrArg some (by kernel_rfl))
  f29 := Tryz.func123.trans (congrArg some (by kernel_rfl))
  f46 := ⟨"slices.siftDownCmpFunc[int]", by decide, Tryz.func125.trans (congrArg some (by kernel_rfl))⟩
  f47 := Tryz.func126.trans (congrArg some (by kernel_rfl))
  f48 := Tryz.func127.trans (congrArg some (by kernel_rfl))
  f49 := ⟨"slices.medianAdjacentCmpFunc[int]", by decide, Tryz.func128.trans (congrArg some (by kernel_rfl))⟩
  f50 := ⟨"slices.medianCmpFunc[int]", by decide, Tryz.func129.trans (congrArg some (by kernel_rfl))⟩
  f57 := ⟨"slices.order2CmpFunc[int]", by decide, Tryz.func131.trans (congrArg some (by kernel_rfl))⟩
  t0 := Tryz.underlying0
  a0 := Tryz.isAgg0
  z0 := Tryz.sizeOf0
  v0 := Tryz.zeroValue0
  t3 := Tryz.underlying3
  a3 := Tryz.isAgg3
  z3 := Tryz.sizeOf3
  v3 := Tryz.zeroValue3
  t4 := Tryz.underlying4
  a4 := Tryz.isAgg4
  z4 := Tryz.sizeOf4
  v4 := Tryz.zeroValue4
  t5 := Tryz.underlying5
  a5 := Tryz.isAgg5
  z5 := Tryz.sizeOf5
  v5 := Tryz.zeroValue5
  t9 := Tryz.underlying9
  a9 := Tryz.isAgg9
  z9 := Tryz.sizeOf9
  v9 := Tryz.zeroValue9
  t22 := Tryz.underlying113
  a22 := Tryz.isAgg113
  z22 := Tryz.sizeOf113
  v22 := Tryz.zeroValue113
  t25 := Tryz.underlying151
  a25 := Tryz.isAgg151
  z25 := Tryz.sizeOf151
  v25 := Tryz.zeroValue151
  t39 := Tryz.underlying168
  a39 := Tryz.isAgg168
  z39 := Tryz.sizeOf168
  v39 := Tryz.zeroValue168
  t45 := Tryz.underlying172
  a45 := Tryz.isAgg172
  z45 := Tryz.sizeOf172
  v45 := Tryz.zeroValue172
  t46 := Tryz.underlying173
  a46 := Tryz.isAgg173
  z46 := Tryz.sizeOf173
  v46 := Tryz.zeroValue173
  t50 := Tryz.underlying75
  a50 := Tryz.isAgg75
  z50 := Tryz.sizeOf75
  v50 := Tryz.zeroValue75
  t53 := Tryz.underlying179
  a53 := Tryz.isAgg179
  z53 := Tryz.sizeOf179
  v53 := Tryz.zeroValue179
  t55 := Tryz.underlying107
  a55 := Tryz.isAgg107
  z55 := Tryz.sizeOf107
  v55 := Tryz.zeroValue107
  t66 := Tryz.underlying181
  a66 := Tryz.isAgg181
  z66 := Tryz.sizeOf181
  v66 := Tryz.zeroValue181
  t70 := Tryz.underlying185
  a70 := Tryz.isAgg185
  z70 := Tryz.sizeOf185
  v70 := Tryz.zeroValue185
  t76 := Tryz.underlying188
  a76 := Tryz.isAgg188
  z76 := Tryz.sizeOf188
  v76 := Tryz.zeroValue188
  t77 := Tryz.underlying189
  a77 := Tryz.isAgg189
  z77 := Tryz.sizeOf189
  v77 := Tryz.zeroValue189
end Go.Proofs.YtgbgnlboogalgaaGreat
namespace Go.Proofs.YtgbgnlboogalgaaGreat
open Go.Proofs Go.Shelf Go.Sort
set_option linter.unusedVariables false
theorem Kp.grown {w w' : World} (h : Kp [] w w') : ∃ q os', w' = grow (w.drewN q) os' := by
  refine ⟨w'.drawn - w.drawn, w'.heap.extract w.heap.size w'.heap.size, ?_⟩
  obtain ⟨h1, h2, h3, h4, h5, h6, h7⟩ := h
  obtain ⟨hp, tp, dr, os, out⟩ := w
  obtain ⟨hp', tp', dr', os', out'⟩ := w'
  simp only at h1 h2 h3 h4 h5 h7
  subst h3
  subst h4
  subst h5
  have e1 : hp' = hp ++ hp'.extract hp.size hp'.size := by
    apply Array.ext_getElem?
    intro i
    rw [Array.getElem?_append]
    by_cases hi : i < hp.size
    · rw [if_pos hi]
      exact h2 i hi (by simp)
    · rw [if_neg hi, Array.getElem?_extract]
      by_cases hi2 : i < hp'.size
      · rw [if_pos (by omega), show hp.size + (i - hp.size) = i by omega]
      · rw [if_neg (by omega), Array.getElem?_eq_none (by omega)]
  have e2 : dr' = dr + (dr' - dr) := by omega
  simp only [grow, World.drewN, World.mk.injEq, true_and, and_true]
  exact ⟨e1, e2⟩
theorem Kp.grow (w : World) (os : Array Obj) : Kp [] w (grow w os) := by
  refine ⟨by simp, fun b hb _ => ?_, rfl, rfl, rfl, fun a ha => ?_, Nat.le_refl _⟩
  · show (w.heap ++ os)[b]? = _
    rw [Array.getElem?_append, if_pos hb]
  · refine frozen_same ?_
    show (w.heap ++ os)[a.block]? = _
    rw [Array.getElem?_append, if_pos ha]
theorem Kp.ahead (w : World) (n : Nat) : Kp [] w (Go.Sort.ahead w n) := ⟨Nat.le_refl _, fun _ _ _ => rfl, rfl, rfl, rfl, fun _ _ => rfl, Nat.le_add_right _ _⟩
theorem mapBlock_set {w : World} {g : Nat} {cs : Array Value} {T : TypeId} {fz : Nat × Nat} (h : Blk w g (.cells cs T fz)) (f : Array Value → Array Value) : mapBlock w g f = { w with heap := w.heap.setIfInBounds g (.cells (f cs) T fz) } := by
  unfold mapBlock
  congr 1
  apply Array.ext_getElem?
  intro i
  rw [Array.getElem?_modify, Array.getElem?_setIfInBounds]
  by_cases e : g = i
  · subst e
    rw [if_pos rfl, if_pos rfl, if_pos h.lt]
    have h' : w.heap[g]? = some (.cells cs T fz) := h
    rw [h']
    rfl
  · rw [if_neg e, if_neg e]
section
variable {α : Type} [Inhabited α] {enc : α → List Value} {k : Nat}
end
end Go.Proofs.YtgbgnlboogalgaaGreat
namespace Go.Proofs.YtgbgnlboogalgaaGreat
open Go.Proofs Go.Shelf Go.Sort
set_option linter.unusedVariables false
section
variable {α : Type} [Inhabited α] {enc : α → List Value} {k : Nat}
end
end Go.Proofs.YtgbgnlboogalgaaGreat
namespace Go.Proofs.YtgbgnlboogalgaaGreat
open Go.Proofs Go.Shelf Go.Sort
set_option linter.unusedVariables false
theorem flt_map1 {α : Type} (e : α → Value) : ∀ l : List α, flt (fun x => [e x]) l = l.map e
  | [] => rfl
  | x :: l => by
    have := flt_map1 e l
    simp only [flt, List.flatMap_cons, List.map_cons] at *
    rw [this]
    rfl
section
variable {α : Type} [Inhabited α] {e : α → Value}
theorem sort_own1 {P : Program} {ρ : Ren} (L : SlLaysF.n6 P ρ) (hone : ∀ x, oneB (e x) = true)
    (cf : α → α → Int) (hO : SWO (ltOf cf)) (g : Nat) (eg : ∀ args w, (callFunc g args).run P w = .ok (.enter g args) w)
    (cb : List Value) {w : World} {base : Nat} {T : TypeId} {v : Value} {l : List α} (ho : w.ownsRow base T 1 v l.length (flt (fun x => [e x]) l)) (hsz : l.length < 4611686018427387904)
    (hcmp : ∀ x y W, Kp (ownB v) w W → Calls P g (#[e x, e y] ++ cb.toArray) W (fun e' w' => e' = .returned (.int .i64 (cf x y)) ∧ Kp [] W w')) :
    Calls P (ρ.f 6) #[v, fnv g cb] w (fun e' w' => e' = .returned (.tuple #[]) ∧ Kp (ownB v) w w' ∧ ∃ l', l'.Perm l ∧ l'.Pairwise (fun x y => ltOf cf y x = false) ∧ w'.ownsRow base T 1 v l.length (flt (fun x => [e x]) l')) := by
  have h1 : OneCell e := fun x => by rw [one_iff]; exact hone x
  have ho' := ho
  obtain ⟨hlen, ⟨rfl, h0⟩ | ⟨b, cap, cur, rfl, hb, hh, hc1, hc2, hc3, hc4⟩⟩ := ho
  · have hl : l = [] := by cases l with
      | nil => rfl
      | cons x l => simp at h0
    subst hl
    exact (AnyF.slices_SortFunc_none (P := P) (ρ := ρ) { L with } none 0 _ w).mono (fun e w' ⟨he, hw⟩ => ⟨he, by rw [hw]; exact Kp.refl _ _, [], List.Perm.refl _, List.Pairwise.nil, by rw [hw]; exact ho'⟩)
  have hB : Blk w b (.cells cur T (0, 0)) := hh
  rw [flt_map1] at hc4
  rw [Nat.mul_one] at hc3 hc4
  have hcur : ∀ t (ht : t < l.length), cur[t]? = some (e l[t]) := fun t ht => by
    have := congrArg (fun x => x[t]?) hc4
    simp only [List.getElem?_map, List.getElem?_eq_getElem ht, Option.map_some] at this
    rw [← this, List.getElem?_take_of_lt ht, Array.getElem?_toList]
  have hH : Holds e w b 0 l.toArray := fun j hj => by
    have hj' : j < l.length := by simpa using hj
    refine ⟨?_, frozen_soft (o := .cells cur T (0, 0)) hh rfl⟩
    unfold World.cell?
    simp only [hh, Nat.zero_add]
    rw [getElem!_pos l.toArray j hj]
    simpa using hcur j hj'
  have hkw : ∀ (m : Nat) (os : Array Obj) (dk : Array α), Kp [b] w (sortWorld e w b 0 m dk os) := fun m os dk => by
    have hBa : Blk (Go.Sort.ahead w m) b (.cells cur T (0, 0)) := hh
    have hset : putRow e (Go.Sort.ahead w m) b 0 dk = { Go.Sort.ahead w m with heap := (Go.Sort.ahead w m).heap.setIfInBounds b (.cells (putCells e 0 dk cur) T (0, 0)) } := mapBlock_set hBa _
    have hk1 : Kp [b] (Go.Sort.ahead w m) (putRow e (Go.Sort.ahead w m) b 0 dk) := by
      rw [hset]
      exact Kp.set _ hBa rfl rfl
    exact ((Kp.ahead w m).any.trans hk1).trans (Kp.grow _ _).any
  have hcl : CmpLays1 P g cb.toArray e cf b 0 l.toArray.size w := fun m os dk hdk x y => (hcmp x y _ (hkw m os dk)).mono (fun e w' ⟨he, hw⟩ => ⟨he, hw.grown⟩)
  have hc := Any.slices_SortFunc L e h1 cf hO g cb.toArray b 0 cap l.toArray w eg hcl hH hB.lt (by simpa using hsz)
  refine (show Calls P (ρ.f 6) #[.slice (some ⟨b, 0, none⟩) l.length cap, fnv g cb] w _ from hc).mono (fun e2 w' hh' => ?_)
  obtain ⟨he, d', n, os, ⟨hp1, hp2, hp3⟩, hs, rfl⟩ := hh'
  have hd' : d'.size = l.length := by simpa using hp1
  have hperm : d'.toList.Perm l := by
    have e1 : (d'.extract 0 l.toArray.size).toList = d'.toList := by
      have : l.toArray.size = d'.size := hp1.symm
      rw [this]
      simp
    have e2 : (l.toArray.extract 0 l.toArray.size).toList = l := by simp
    rw [e1, e2] at hp3
    exact hp3
  have hBa : Blk (Go.Sort.ahead w n) b (.cells cur T (0, 0)) := hh
  have hset : putRow e (Go.Sort.ahead w n) b 0 d' = { Go.Sort.ahead w n with heap := (Go.Sort.ahead w n).heap.setIfInBounds b (.cells (putCells e 0 d' cur) T (0, 0)) } := mapBlock_set hBa _
  have hk1 : Kp [b] (Go.Sort.ahead w n) (putRow e (Go.Sort.ahead w n) b 0 d') := by
    rw [hset]
    exact Kp.set _ hBa rfl rfl
  refine ⟨he, ?_, d'.toList, hperm, ?_, ?_⟩
  · show Kp [b] w _
    exact ((Kp.ahead w n).any.trans hk1).trans (Kp.grow _ _).any
  · rw [List.pairwise_iff_getElem]
    intro i j hi hj hij
    have := hs i j (Nat.zero_le _) hij (by simp at hj ⊢; omega)
    rw [getElem!_pos d' i (by simpa using hi), getElem!_pos d' j (by simpa using hj)] at this
    simpa using this
  · have hlist : d'.toList.length = l.length := by simpa using hd'
    refine ⟨by rw [flt_length (sz := 1) (fun _ => rfl), hlist], Or.inr ⟨b, cap, putCells e 0 d' cur, rfl, hb, ?_, hc1, hc2, by simp [putCells, hc3], ?_⟩⟩
    · have : Blk (putRow e (Go.Sort.ahead w n) b 0 d') b (.cells (putCells e 0 d' cur) T (0, 0)) := by
        rw [hset]
        show ((Go.Sort.ahead w n).heap.setIfInBounds b _)[b]? = _
        rw [Array.getElem?_setIfInBounds, if_pos rfl, if_pos hBa.lt]
      exact this.kp0 (Kp.grow _ _)
    · rw [flt_map1, Nat.mul_one]
      apply List.ext_getElem?
      intro t
      by_cases ht : t < l.length
      · have htc : t < cur.size := by omega
        have htd : t < d'.size := by omega
        rw [List.getElem?_take_of_lt ht, Array.getElem?_toList, List.getElem?_map, Array.getElem?_toList]
        simp only [putCells, Array.getElem?_mapIdx, Array.getElem?_eq_getElem htc, Option.map_some, Nat.zero_le, true_and, Nat.zero_add, Nat.sub_zero]
        rw [if_pos htd, getElem!_pos d' t htd, Array.getElem?_eq_getElem htd]
        rfl
      · rw [List.getElem?_eq_none (by simp; omega), List.getElem?_eq_none (by simp [hd']; omega)]
end
end Go.Proofs.YtgbgnlboogalgaaGreat
namespace Go.Proofs.YtgbgnlboogalgaaGreat
open Go.Proofs Go.Shelf Go.Sort
set_option linter.unusedVariables false
/-- An order by a number. -/
theorem swo_key {α : Type} (cf : α → α → Int) (key : α → Nat) (h : ∀ x y, cf x y < 0 ↔ key x < key y) : SWO (ltOf cf) where
  irrefl x := decide_eq_false (by rw [h]; omega)
  trans x y z h1 h2 := by
    have h1 := of_decide_eq_true h1
    have h2 := of_decide_eq_true h2
    rw [h] at h1 h2
    exact decide_eq_true (by rw [h]; omega)
  ntrans x y z h1 h2 := by
    have h1 := of_decide_eq_false h1
    have h2 := of_decide_eq_false h2
    rw [h] at h1 h2
    exact decide_eq_false (by rw [h]; omega)
/-- Put where it belongs, behind its likes; all put so. -/
def insK {α : Type} (key : α → Nat) (x : α) : List α → List α
  | [] => [x]
  | y :: r => if key y ≤ key x then y :: insK key x r else x :: y :: r
def sortK {α : Type} (key : α → Nat) (l : List α) : List α := l.foldl (fun acc x => insK key x acc) []
end Go.Proofs.YtgbgnlboogalgaaGreat
namespace Go.Proofs.YtgbgnlboogalgaaGreat
open Go.Proofs Go.Shelf Go.Sort
set_option linter.unusedVariables false
abbrev nI (j : Nat) : List Value := [.int .i64 (j : Int)]
theorem nI_len (j : Nat) : (nI j).length = 1 := rfl
theorem nI_one (j : Nat) : allOne (nI j) = true := rfl
def pK (ms : List Em) (j : Nat) : Dg := (ms[j]?).elim zd (fun e => e.x.t.frm)
def pN (ms : List Em) (j : Nat) : Int := (ms[j]?).elim 0 (fun e => e.x.t.non)
def pF (ms : List Em) (j : Nat) : Int := (ms[j]?).elim 0 (fun e => e.x.t.fee)
section
variable {ms : List Em} {j : Nat}
theorem pK_at (h : j < ms.length) : pK ms j = ms[j].x.t.frm := by unfold pK; rw [List.getElem?_eq_getElem h]; rfl
theorem pN_at (h : j < ms.length) : pN ms j = ms[j].x.t.non := by unfold pN; rw [List.getElem?_eq_getElem h]; rfl
theorem pF_at (h : j < ms.length) : pF ms j = ms[j].x.t.fee := by unfold pF; rw [List.getElem?_eq_getElem h]; rfl
end
def cN (K : Nat → Dg) (i : Nat) (k : Dg) : List Nat := (List.range i).filter (fun j => decide (K j = k))
theorem cN_succ (K : Nat → Dg) (i : Nat) (k : Dg) : cN K (i + 1) k = if K i = k then cN K i k ++ [i] else cN K i k := by
  unfold cN
  rw [List.range_succ, List.filter_append]
  by_cases h : K i = k
  · rw [if_pos h, List.filter_cons_of_pos (by simpa using h)]
    rfl
  · rw [if_neg h, List.filter_cons_of_neg (by simpa using h)]
    simp
theorem cN_mem {K : Nat → Dg} {i j : Nat} {k : Dg} : j ∈ cN K i k ↔ j < i ∧ K j = k := by simp [cN]
theorem cN_len (K : Nat → Dg) (i : Nat) (k : Dg) : (cN K i k).length ≤ i := by
  have := List.length_filter_le (fun j => decide (K j = k)) (List.range i)
  rw [List.length_range] at this
  exact this
theorem cN_nodup (K : Nat → Dg) (i : Nat) (k : Dg) : (cN K i k).Nodup := List.nodup_range.sublist List.filter_sublist
/-- Rows of places, by key. -/
structure Kr (w : World) (base : Nat) (m : List (Dg × Value)) (C : Dg → List Nat) : Prop where
  rows : ∀ k v, alook m k = some v → w.ownsRow base 3 1 v (C k).length (flt nI (C k))
  sep : ∀ k k' v v', alook m k = some v → alook m k' = some v' → k ≠ k' → ∀ b, v.ownBlock = some b → v'.ownBlock ≠ some b
theorem Kr.kp {w w' : World} {base : Nat} {m : List (Dg × Value)} {C : Dg → List Nat} {S : List Nat} (h : Kr w base m C) (hk : Kp S w w') (hS : ∀ b ∈ S, (∀ T cs f, T = 3 → w.heap[b]? ≠ some (.cells cs T f)) ∨ b < base) : Kr w' base m C :=
  ⟨fun k v hv => own_kpB (h.rows k v hv) hk (fun b hb hm => by
    have ho := h.rows k v hv
    rcases hS b hm with hh | hh
    · rcases ho.2 with ⟨rfl, _⟩ | ⟨g, cap, cur, rfl, _, hg, _⟩
      · cases hb
      · cases hb
        exact hh _ _ _ rfl hg
    · have := own_geB ho b hb
      omega), h.sep⟩
theorem Kr.kp0 {w w' : World} {base : Nat} {m : List (Dg × Value)} {C : Dg → List Nat} (h : Kr w base m C) (hk : Kp [] w w') : Kr w' base m C := h.kp hk (fun b hb => (by cases hb))
theorem own_obj {w : World} {base n sz : Nat} {v : Value} {T : TypeId} {xs : List Value} {z : Nat} {o : Obj} (ho : w.ownsRow base T sz v n xs) (hB : Blk w z o) (hne : ∀ cs T f, o ≠ .cells cs T f) : z ∉ ownB v := fun hm => by
  have hb' := ownB_mem hm
  rcases ho.2 with ⟨rfl, _⟩ | ⟨g, cap, cur, rfl, _, hg, _⟩
  · cases hb'
  · cases hb'
    exact hne _ _ _ (hB.uniq hg)
theorem MapIs.nown {κ ν : Type} {enc : κ → Value} {V : ν → Value} {m : List (κ × ν)} {w : World} {base n sz b : Nat} {v : Value} {T : TypeId} {xs : List Value} (h : MapIs w b enc V m) (ho : w.ownsRow base T sz v n xs) : b ∉ ownB v := by
  obtain ⟨es, c, hB, _⟩ := h
  exact own_obj ho hB (fun _ _ _ e => by cases e)
theorem IterAt.nown {κ ν : Type} {enc : κ → Value} {V : ν → Value} {m left : List (κ × ν)} {cur : Option (κ × ν)} {w : World} {base n sz b r : Nat} {v : Value} {T : TypeId} {xs : List Value} (h : IterAt w r b enc V m left cur) (ho : w.ownsRow base T sz v n xs) : r ∉ ownB v := by
  obtain ⟨es, c, seen, h1, h2, h3, h4, _⟩ := h
  exact own_obj ho h4 (fun _ _ _ e => by cases e)
theorem MapIs.nint {κ ν : Type} {enc : κ → Value} {V : ν → Value} {m : List (κ × ν)} {w : World} {b : Nat} (h : MapIs w b enc V m) : ∀ T cs f, T = 3 → w.heap[b]? ≠ some (.cells cs T f) := by
  obtain ⟨es, c, hB, _⟩ := h
  intro T cs f _ e
  have := hB.uniq e
  cases this
theorem MapIs.noth {κ ν : Type} {enc : κ → Value} {V : ν → Value} {m : List (κ × ν)} {w : World} {b : Nat} {n : Nat} (h : MapIs w b enc V m) (hn : n ≤ b) : Oth n w [b] := fun z hz => by
  rw [List.mem_singleton] at hz
  subst hz
  refine ⟨hn, ?_⟩
  obtain ⟨es, c, hB, _⟩ := h
  intro cs f e
  have := hB.uniq e
  cases this
theorem Blk.nint {w : World} {b : Nat} {es : Array MapEntry} {cl : Nat} (hB : Blk w b (.map es cl)) : ∀ T cs f, T = 3 → w.heap[b]? ≠ some (.cells cs T f) := fun T cs f _ e => by
  have := hB.uniq e
  cases this
theorem Kr.mono {w : World} {base base' : Nat} {m : List (Dg × Value)} {C : Dg → List Nat} (h : Kr w base m C) (hb : base' ≤ base) : Kr w base' m C := ⟨fun k v hv => own_mono (h.rows k v hv) hb, h.sep⟩
theorem IterAt.nint {κ ν : Type} {enc : κ → Value} {V : ν → Value} {m left : List (κ × ν)} {cur : Option (κ × ν)} {w : World} {b r : Nat} (h : IterAt w r b enc V m left cur) : ∀ T cs f, T = 3 → w.heap[r]? ≠ some (.cells cs T f) := by
  obtain ⟨es, c, seen, h1, h2, h3, h4, _⟩ := h
  intro T cs f _ e
  have := h4.uniq e
  cases this
theorem sortL1 : SlLaysF.n6 Tryz.prog sortRen := { sortL with a24 := Tryz.isAgg3, z24 := Tryz.sizeOf3 }
theorem bsi (n : Int) (w : World) : (Instr.buildSlice 113 1 #[(0, .int .i64 n)]).run Tryz.prog w = .ok (.slice (some ⟨w.heap.size, 0, none⟩) 1 1) { w with heap := w.heap.push (.cells #[.int .i64 n] 3) } := by kernel_rfl
/-- What is so of numbers and fees. -/
structure Nb (ms : List Em) : Prop where
  n0 : ∀ j, 0 ≤ pN ms j
  n1 : ∀ j, pN ms j ≤ 1099511627776
  f0 : ∀ j, 0 ≤ pF ms j
  f1 : ∀ j, pF ms j ≤ 1125899906842624
theorem wrong_r {t : Tx} (h : wrongT t = 0) : TxR t := by
  unfold wrongT at h
  by_cases hr : TxR t
  · exact hr
  · rw [if_neg hr] at h
    cases h
theorem PInv.nb {room : Int} {ms : List Em} (h : PInv room (ms.map Em.en)) : Nb ms := by
  have key : ∀ j (hj : j < ms.length), TxR ms[j].x.t := fun j hj => wrong_r (h.ok _ (List.mem_map.2 ⟨ms[j], List.getElem_mem hj, rfl⟩))
  have kn : ∀ j, 0 ≤ pN ms j ∧ pN ms j ≤ 1099511627776 ∧ 0 ≤ pF ms j ∧ pF ms j ≤ 1125899906842624 := fun j => by
    by_cases hj : j < ms.length
    · have := key j hj
      rw [pN_at hj, pF_at hj]
      exact ⟨this.n0, this.n1, this.f0, this.f1⟩
    · unfold pN pF
      rw [List.getElem?_eq_none (by omega)]
      simp only [Option.elim]
      omega
  exact ⟨fun j => (kn j).1, fun j => (kn j).2.1, fun j => (kn j).2.2.1, fun j => (kn j).2.2.2⟩
attribute [local irreducible] CG NG SG Vals Der Row Blk MapIs IterAt nameT wrongT
set_option maxHeartbeats 16000000 in
theorem bynum_spec {w : World} {base p b1 : Nat} {v : Value} {room : Int} {ms : List Em} (hP : Pl w base p v room ms) (h1 : Row w b1 0 [.pointer (some ⟨p, 0, none⟩)]) (hb : Nb ms) {x y : Nat} (hx : x < ms.length) (hy : y < ms.length) :
    Ret Tryz.prog 96 #[.int .i64 (x : Int), .int .i64 (y : Int), .pointer (some ⟨b1, 0, none⟩)] w (.int .i64 (pN ms x - pN ms y)) := by
  refine enterL (args := [.int .i64 (x : Int), .int .i64 (y : Int), .pointer (some ⟨b1, 0, none⟩)]) Tryz.func96 rfl Tryz.ntmps96 rfl ?_
  obtain ⟨a, c, rfl, hc, hS⟩ := hP.sl
  obtain ⟨-, q1⟩ := hP.rows
  obtain ⟨g, o1, rfl, hrx⟩ := hS.at hx
  have hry : Row w g (o1 + y * 22) (ec ms[y]) := hS.row (List.getElem?_eq_getElem hy)
  obtain ⟨-, -, rx, -⟩ := ec_rows hrx
  obtain ⟨-, -, ry, -⟩ := ec_rows hry
  have e1 := pN_at hx
  have e2 := pN_at hy
  have b1' := hb.n0 x
  have b2' := hb.n1 x
  have b3' := hb.n0 y
  have b4' := hb.n1 y
  rw [e1] at b1' b2' ⊢
  rw [e2] at b3' b4' ⊢
  repeat (first|apply cA|apply cB|apply cD|apply cE|refine cV rfl rfl rfl rfl (by first|(apply qas<;>(exact rfl))|fail) ?_)
  refine CG.tail mixed 18 [0, 1, 2, 3, 4, 5, 6, 7, 8, 9, 10, 11, 12, 13, 14, 15, 16, 17] (by kernel_rfl) ?_
  repeat (refine cY rfl rfl rfl (by first|((first|apply qmv|apply qlc|apply qfa|apply qnc|apply qix)<;>(first|exact rfl|exact Ar.mk (by omega)|assumption|exact List.not_mem_nil|fail))|fail) ?_)
  refine Der.tl (fun w1 hk1 _ _ => ?_)
  repeat (first|apply cD|apply cE|apply cH|refine cV rfl rfl rfl rfl (by first|((first|apply qas|apply qsb)<;>(first|exact rfl|exact Ar.mk (by omega)|fail))|fail) ?_)
  refine ret1 (Or.inl rfl) Tryz.results96 (by first | exact ResV.tmp rfl | exact ResV.agg rfl rfl (by assumption) (by first | exact dc_length _ | exact nc_length _ | exact rc_length _ _ _ | exact ec_length _ | exact dl_length _ _ _ _ | rfl) | exact ResV.cell rfl rfl (by assumption)) ?_
  exact ⟨rfl, hk1⟩
theorem sorti_spec {w : World} {base bp p b1 : Nat} {v vp : Value} {room : Int} {ms : List Em} {l : List Nat} (hP : Pl w bp p vp room ms) (h1 : Row w b1 0 [.pointer (some ⟨p, 0, none⟩)]) (hb : Nb ms) (ho : w.ownsRow base 3 1 v l.length (flt nI l)) (hlt : ∀ j ∈ l, j < ms.length) (hn : 0 < ms.length) (hl : l.length ≤ 1000000)
    (hbb : bp ≤ base) (hb1 : b1 ∉ ownB v) (hbp : p ∉ ownB v) (hbv : ∀ b, vp.ownBlock = some b → b ∉ ownB v) :
    Calls Tryz.prog 95 #[v, fnv 96 [.pointer (some ⟨b1, 0, none⟩)]] w (fun e w' => e = .returned (.tuple #[]) ∧ Kp (ownB v) w w' ∧ ∃ l', l'.Perm l ∧ l'.Pairwise (fun x y => pN ms x ≤ pN ms y) ∧ w'.ownsRow base 3 1 v l'.length (flt nI l')) := by
  haveI : Inhabited (_root_.Fin ms.length) := ⟨⟨0, hn⟩⟩
  obtain ⟨L, hL⟩ : ∃ L : List (_root_.Fin ms.length), L.map (fun x => x.1) = l := ⟨l.pmap (fun j h => (⟨j, h⟩ : _root_.Fin ms.length)) hlt, by rw [List.map_pmap]; simp⟩
  have efl : ∀ M : List (_root_.Fin ms.length), flt (fun x : _root_.Fin ms.length => [Value.int .i64 (x.1 : Int)]) M = flt nI (M.map (fun x => x.1)) := fun M => by
    rw [flt_map1 (fun x : _root_.Fin ms.length => Value.int .i64 (x.1 : Int)), show flt nI = flt (fun j : Nat => [Value.int .i64 (j : Int)]) from rfl, flt_map1 (fun j : Nat => Value.int .i64 (j : Int)), List.map_map]
    rfl
  have hLl : L.length = l.length := by rw [← hL, List.length_map]
  have ho' : w.ownsRow base 3 1 v L.length (flt (fun x : _root_.Fin ms.length => [Value.int .i64 (x.1 : Int)]) L) := by
    rw [efl, hL, hLl]
    exact ho
  refine (sort_own1 sortL1 (fun _ => rfl) (fun x y : _root_.Fin ms.length => pN ms x.1 - pN ms y.1) (swo_key _ (fun x => (pN ms x.1).toNat) (fun x y => by have := hb.n0 x.1; have := hb.n0 y.1; omega)) 96 (fun args w => fn.i96.run w args) [.pointer (some ⟨b1, 0, none⟩)] ho' (by omega) (fun x y W hk => ?_)).mono (fun e w' hh => ?_)
  · refine bynum_spec (base := bp) (v := vp) (room := room) (hP.kp hk hbp hbv (Oth.own ho hbb (by decide))) (h1.kp hk hb1) hb x.2 y.2
  · obtain ⟨he, hk, l', hp, hs, ho2⟩ := hh
    refine ⟨he, hk, l'.map (fun x => x.1), ?_, ?_, ?_⟩
    · rw [← hL]
      exact hp.map _
    · rw [List.pairwise_map]
      refine hs.imp (fun {x y} h => ?_)
      have h3 : ¬ (pN ms y.1 - pN ms x.1 < 0) := of_decide_eq_false h
      omega
    · rw [← efl, List.length_map, hp.length_eq]
      exact ho2
end Go.Proofs.YtgbgnlboogalgaaGreat
namespace Go.Proofs.YtgbgnlboogalgaaGreat
open Go.Proofs Go.Shelf Go.Sort
set_option linter.unusedVariables false
theorem aput_keys {m : List (Dg × Value)} {k : Dg} {v : Value} {z : Dg} {u : Value} (h : alook (aput m k v) z = some u) : (z = k ∧ u = v) ∨ (z ≠ k ∧ alook m z = some u) := by
  rw [alook_put] at h
  by_cases e : k = z
  · rw [if_pos e] at h
    cases h
    exact Or.inl ⟨e.symm, rfl⟩
  · rw [if_neg e] at h
    exact Or.inr ⟨fun h' => e h'.symm, h⟩
theorem alook_mem : ∀ {m : List (Dg × Value)} {k : Dg} {v : Value}, alook m k = some v → (k, v) ∈ m
  | [], _, _, h => by cases h
  | (k', v') :: m, k, v, h => by
    unfold alook at h
    by_cases e : k' = k
    · rw [if_pos e] at h
      cases h
      subst e
      exact List.mem_cons_self
    · rw [if_neg e] at h
      exact List.mem_cons_of_mem _ (alook_mem h)
/-- One more place in its key's row. -/
theorem Kr.add {w w' : World} {base i : Nat} {m : List (Dg × Value)} {K : Nat → Dg} {v0 v' : Value} (h : Kr w base m (cN K i)) (hv0 : alook m (K i) = some v0 ∨ (alook m (K i) = none ∧ v0 = .slice none 0 0)) (hk : Kp (ownB v0) w w') (ho : w'.ownsRow base 3 1 v' (cN K i (K i) ++ [i]).length (flt nI (cN K i (K i) ++ [i])))
    (hv' : ∀ g, v'.ownBlock = some g → v0.ownBlock = some g ∨ g = w.heap.size) : Kr w' base (aput m (K i) v') (cN K (i + 1)) := by
  have hsz : ∀ k v, alook m k = some v → ∀ b, v.ownBlock = some b → b < w.heap.size := fun k v hv => own_lt (h.rows k v hv)
  have hap : ∀ k v, k ≠ K i → alook m k = some v → ∀ b, v.ownBlock = some b → b ∉ ownB v0 := fun k v hne hv b hb hm => by
    rcases hv0 with h0 | ⟨_, rfl⟩
    · exact h.sep k (K i) v v0 hv h0 hne b hb (ownB_mem hm)
    · cases ownB_mem hm
  refine ⟨fun k v hv => ?_, fun k k' v u hv hu hne b hb => ?_⟩
  · rcases aput_keys hv with ⟨rfl, rfl⟩ | ⟨hne, hv⟩
    · rw [cN_succ, if_pos rfl]
      exact ho
    · rw [cN_succ, if_neg (fun e => hne e.symm)]
      exact own_kpB (h.rows k v hv) hk (hap k v hne hv)
  · have key : ∀ k u, k ≠ K i → alook m k = some u → ∀ b, v'.ownBlock = some b → u.ownBlock ≠ some b := fun k u hne hu b hb hb2 => by
      rcases hv' b hb with hh | hh
      · exact hap k u hne hu b hb2 (ownB_of hh)
      · have := hsz k u hu b hb2
        omega
    rcases aput_keys hv with ⟨e1, e2⟩ | ⟨h1, hv2⟩
    · rcases aput_keys hu with ⟨e3, e4⟩ | ⟨h2, hu2⟩
      · exact absurd (e1.trans e3.symm) hne
      · rw [e2] at hb
        exact key k' u h2 hu2 b hb
    · rcases aput_keys hu with ⟨e3, e4⟩ | ⟨h2, hu2⟩
      · intro hb2
        rw [e4] at hb2
        exact key k v h1 hv2 b hb2 hb
      · exact h.sep k k' v u hv2 hu2 hne b hb
attribute [local irreducible] CG NG SG Vals Der Row Blk MapIs IterAt nameT wrongT
set_option maxHeartbeats 16000000 in
theorem keys_spec {w : World} {base p : Nat} {v : Value} {room : Int} {ms : List Em} (hP : Pl w base p v room ms) (hb : Nb ms) (hl : ms.length ≤ 100000) :
    Calls Tryz.prog 79 #[.pointer (some ⟨p, 0, none⟩)] w (fun e w' => ∃ bm m C, e = .returned (.map (some bm)) ∧ Kp [] w w' ∧ MapIs w' bm (dv (n := 8)) (fun v : Value => v) m ∧ Kr w' w.heap.size m C ∧ (∀ k, (C k).Perm (cN (pK ms) ms.length k)) ∧ (∀ k v, alook m k = some v → (C k).Pairwise (fun x y => pN ms x ≤ pN ms y)) ∧ (∀ j, j < ms.length → ∃ v, alook m (pK ms j) = some v) ∧ (∀ k v, alook m k = some v → cN (pK ms) ms.length k ≠ [])) := by
  refine enter1 Tryz.func79 rfl Tryz.ntmps79 rfl ?_
  have hlp := hP.blk.lt
  have hvp : ∀ b, v.ownBlock = some b → b < w.heap.size := own_lt hP.own
  repeat (first|apply cA|apply cB)
  refine SG.box rfl rfl rfl (by exact rho_of rfl) (fun b1 w1 hk1 hb1 hB1 => ?_)
  have hB1 : Blk w1 b1 (.cells #[.pointer (some ⟨p, 0, none⟩)] 26) := hB1
  have lt1 := hB1.lt
  repeat (first|apply cA|apply cB|apply cD|apply cE|refine cV rfl rfl rfl rfl (by first|(apply qas<;>(exact rfl))|fail) ?_)
  refine SG.makeMap (dv (n := 8)) (fun v : Value => v) rfl rfl (fun bm w2 hk2 hbm hM => ?_)
  have k2 := hk1.trans hk2
  have ltm := hM.lt
  have hP2 := hP.kp0 k2
  obtain ⟨a, c, rfl, hc, hS⟩ := hP2.sl
  obtain ⟨-, q1⟩ := hP2.rows
  have r1 : Row w2 b1 0 [.pointer (some ⟨p, 0, none⟩)] := (Row.all (l := [.pointer (some ⟨p, 0, none⟩)]) hB1 rfl).kp0 hk2
  repeat (first|apply cA|apply cB|apply cD|apply cE|apply cG|refine cV rfl rfl rfl rfl (by first|((first|apply qmv|apply qas|apply qlc|apply qfa|apply qnc|apply qln)<;>(first|exact rfl|assumption|exact List.not_mem_nil))|fail) ?_)
  clear q1 r1
  have s1 := hk1.size
  have s2 := hk2.size
  refine CG.loop (X := Nat × List (Dg × Value)) (fun x => [(1, .pointer (some ⟨b1, 0, none⟩)), (3, .map (some bm)), (12, .slice a ms.length c), (13, .int .i64 (ms.length : Int)), (14, .int .i64 (x.1 : Int))])
    (fun x w' => x.1 ≤ ms.length ∧ Kp [bm] w2 w' ∧ MapIs w' bm (dv (n := 8)) (fun v : Value => v) x.2 ∧ Kr w' w2.heap.size x.2 (cN (pK ms) x.1) ∧ (∀ j, j < x.1 → ∃ v, alook x.2 (pK ms j) = some v) ∧ (∀ k v, alook x.2 k = some v → cN (pK ms) x.1 k ≠ [])) (fun x => ms.length - x.1) (0, []) ⟨Nat.zero_le _, Kp.refl _ _, hM, ⟨fun _ _ h => (by cases h), fun _ _ _ _ h => (by cases h)⟩, fun j h => absurd h (Nat.not_lt_zero j), fun _ _ h => (by cases h)⟩ (by (repeat' (first | exact True.intro | exact rfl | refine And.intro ?_ ?_))) ?_
  rintro ⟨i, m⟩ w3 ⟨hi, hk3, hM3, hR, hcov, hne⟩
  simp only at hi hM3 hR hcov hne
  refine CG.to [(1, .pointer (some ⟨b1, 0, none⟩)), (3, .map (some bm)), (12, .slice a ms.length c), (13, .int .i64 (ms.length : Int)), (14, .int .i64 (i : Int))] (by (repeat' (first | exact True.intro | exact rfl | refine And.intro ?_ ?_))) ?_
  have s3 := hk3.size
  have nbm : ∀ b, b < w.heap.size → b ∉ [bm] := fun b h => nm1 (by omega)
  have hO : Oth base w2 [bm] := hM.noth (by have := hP.base_le; have := hk1.size; omega)
  have hP3 : Pl w3 base p (.slice a ms.length c) room ms := hP2.kp hk3 (nbm p hlp) (fun b hb => nbm b (hvp b hb)) hO
  have k3 : Kp [] w w3 := k2.trans_new hk3 (new1 (by omega))
  have r1 : Row w3 b1 0 [.pointer (some ⟨p, 0, none⟩)] := ((Row.all (l := [.pointer (some ⟨p, 0, none⟩)]) hB1 rfl).kp0 hk2).kp hk3 (nm1 (by omega))
  by_cases hlt : i < ms.length
  · have g1 : (i : Int) < (ms.length : Int) := by omega
    obtain ⟨a', c', e', -, hS3⟩ := hP3.sl
    cases e'
    obtain ⟨g, o1, rfl, hri⟩ := hS3.at hlt
    repeat (first|apply cA|apply cB|apply cD|apply cE|refine cV rfl rfl rfl rfl (by first|(apply qls<;>(first|exact rfl|exact dct (by first|assumption|omega)|fail))|fail) ?_)
    refine cZ rfl (by exact rho_of rfl) rfl ?_
    repeat (first|apply cA|apply cB|apply cE|apply cF|apply cG|refine cV rfl rfl rfl rfl (by first|((first|apply qmv|apply qla|apply qix)<;>(first|exact rfl|exact Ar.mk (by omega)|assumption|exact List.not_mem_nil|apply ec_length|fail))|fail) ?_)
    refine SG.alloc rfl rfl rfl (fun b5 w4 hk4 hb5 hB5 => ?_)
    repeat (first|refine cV rfl rfl rfl rfl (by first|(apply qas<;>(exact rfl))|fail) ?_)
    refine SG.setAll (l := ec ms[i]) rfl rfl (by exact rho_of rfl) (by exact rho_of rfl) hB5 (ec_length _) rfl (ec_one _) (fun w5 hk5 hB5 => ?_)
    have hB5 : Blk w5 b5 (.cells (ec ms[i]).toArray 74) := hB5
    have k35 : Kp [] w3 w5 := hk4.trans_new hk5 (new1 (by omega))
    have hM5 := hM3.kp0 k35
    have hR5 := hR.kp0 k35
    clear hri
    obtain ⟨-, u0, -⟩ := ec_rows (Row.all hB5 rfl)
    rw [← pK_at hlt] at u0
    repeat (first|apply cB|apply cD|apply cE|refine cV rfl rfl rfl rfl (by first|((first|apply qmv|apply qla|apply qfa)<;>(first|exact rfl|assumption|exact List.not_mem_nil|apply dc_length))|fail) ?_)
    refine SG.buildSlice rfl rfl rfl rfl (bsi (i : Int)) (fun b6 w6 hk6 hb6 hB6 => ?_)
    have hM6 := hM5.kp0 hk6
    have hR6 := hR5.kp0 hk6
    have k36 := k35.trans hk6
    have ltb6 := hB6.lt
    have hS6 : Sl nI 1 w6 (some ⟨b6, 0, none⟩) [i] := Sl.of_blk (pre := []) (post := []) nI_len (l := [i]) (T := 3) hB6
    obtain ⟨v0, hv0, hv0'⟩ : ∃ v0, (alook m (pK ms i)).elim (Value.slice none 0 0) (fun v : Value => v) = v0 ∧ (alook m (pK ms i) = some v0 ∨ (alook m (pK ms i) = none ∧ v0 = .slice none 0 0)) := by
      cases h : alook m (pK ms i) with
      | none => exact ⟨_, rfl, Or.inr ⟨rfl, rfl⟩⟩
      | some u => exact ⟨_, rfl, Or.inl rfl⟩
    refine SG.mapEntry (enc := dv (n := 8)) (V := fun v : Value => v) (kx := pK ms i) (z := .slice none 0 0) rfl rfl rfl (by exact rho_of rfl) (by exact rho_of rfl) hM6 BArr.key rfl (fun st o' w7 hk7 hBo hmo hE => ?_)
    rw [hv0]
    have s7 := hk7.size
    have s36 := k36.size
    have hR7 : Kr w7 w2.heap.size m (cN (pK ms) i) := hR6.kp hk7 (fun b hb => by
      rw [List.mem_singleton] at hb
      subst hb
      exact Or.inl hM6.nint)
    have ho6 : w6.ownsRow w2.heap.size 3 1 v0 (cN (pK ms) i (pK ms i)).length (flt nI (cN (pK ms) i (pK ms i))) := by
      rcases hv0' with h | ⟨h, rfl⟩
      · exact hR6.rows _ _ h
      · have : cN (pK ms) i (pK ms i) = [] := by
          apply List.eq_nil_iff_forall_not_mem.2
          intro j hj
          obtain ⟨h1, h2⟩ := cN_mem.1 hj
          obtain ⟨u, hu⟩ := hcov j h1
          rw [h2, h] at hu
          cases hu
        rw [this]
        exact own_nil
    have hnm : bm ∉ ownB v0 := hM6.nown ho6
    have ho7 := own_kpB ho6 hk7 (fun b hb hm => by
      rw [List.mem_singleton] at hm
      subst hm
      exact hnm (ownB_of hb))
    have s35 := k35.size
    have hlc := cN_len (pK ms) i (pK ms i)
    repeat (first|refine cV rfl rfl rfl rfl (by first|(apply qxt<;>(exact rfl))|fail) ?_)
    refine SG.appO (enc := nI) (xs := cN (pK ms) i (pK ms i)) (ys := [i]) (base := w2.heap.size) rfl rfl rfl (by exact rho_of rfl) (by exact rho_of rfl) rfl rfl rfl rfl nI_len nI_one ho7 (hS6.kp hk7 (fun b off e => by cases e; exact nm1 (by omega))) (by simp only [maxLen, List.length_cons, List.length_nil]; omega) (by simp only [List.length_cons, List.length_nil]; show (_ + _) * 8 ≤ _; omega) (by omega) (fun v' w8 hk8 ho8 hv8 => ?_)
    have hR8 := hR7.add hv0' hk8 ho8 hv8
    repeat (first|refine cV rfl rfl rfl rfl (by first|(apply qxt<;>(exact rfl))|fail) ?_)
    refine SG.entryStore (enc := dv (n := 8)) (V := fun v : Value => v) (kx := pK ms i) (vy := v') rfl rfl (by exact rho_of rfl) (by exact rho_of rfl) (by exact rho_of rfl) hE (hBo.kp hk8 hnm) (fun w9 hk9 hM9 => ?_)
    have hB8 := hBo.kp hk8 hnm
    have hR9 : Kr w9 w2.heap.size (aput m (pK ms i) v') (cN (pK ms) (i + 1)) := hR8.kp hk9 (fun b hb => by
      rw [List.mem_singleton] at hb
      subst hb
      obtain ⟨es, cl, rfl⟩ := hmo
      exact Or.inl (Blk.nint hB8))
    have k29 : Kp [bm] w2 w9 := (((hk3.trans k36.any).trans hk7).trans_new hk8 (fun z hz => by
      exact Or.inr (own_geB ho7 z (ownB_mem hz)))).trans hk9
    repeat (first|apply cB|apply cD|apply cE|apply cU|refine cV rfl rfl rfl rfl (by first|((first|apply qmv|apply qad)<;>(first|exact rfl|exact Ar.mk (by omega)|fail))|fail) ?_)
    refine NG.round (i + 1, aput m (pK ms i) v') (by (repeat' (first | exact True.intro | exact rfl | refine And.intro ?_ ?_))) ⟨by simp only; omega, k29, hM9, hR9, fun j hj => ?_, fun k v hv => ?_⟩ (by simp only; omega)
    · simp only at hj
      rw [alook_put]
      by_cases e : pK ms i = pK ms j
      · exact ⟨v', by rw [if_pos e]⟩
      · rw [if_neg e]
        exact hcov j (by
          have : j ≠ i := fun h => e (by rw [h])
          omega)
    · rw [cN_succ]
      rcases aput_keys hv with ⟨e1, e2⟩ | ⟨e1, h2⟩
      · rw [if_pos e1.symm]
        simp
      · rw [if_neg (fun e => e1 e.symm)]
        exact hne k v h2
  · have g1 : ¬ (i : Int) < (ms.length : Int) := by omega
    have hin : i = ms.length := by omega
    subst hin
    have hM3' := hM3
    repeat (first|apply cA|apply cB|apply cD|apply cE|refine cV rfl rfl rfl rfl (by first|(apply qls<;>(first|exact rfl|exact dcf (by first|assumption|omega)|fail))|fail) ?_)
    refine dA rfl (by exact rho_of rfl) rfl ?_
    repeat (first|apply cA|apply cB|apply cE|apply cJ|apply cM|refine cQ rfl ?_|refine cV rfl rfl rfl rfl (by first|(apply qmv<;>(exact rfl))|fail) ?_)
    refine SG.range rfl rfl rfl (by exact rho_of rfl) hM3 (fun r w4 hk4 hr4 hI => ?_)
    have k4 := k3.trans hk4
    have s4 := hk4.size
    have hK0 : (Kp [] w w4) := k4
    repeat (first|apply cD|apply cE|apply cG)
    refine CG.loop (X := (Dg → List Nat) × List (Dg × Value) × Option (Dg × Value)) (fun x => [(1, .pointer (some ⟨b1, 0, none⟩)), (3, .map (some bm)), (31, .pointer (some ⟨r, 0, none⟩))])
      (fun x w' => Kp [] w w' ∧ r < w'.heap.size ∧ IterAt w' r bm (dv (n := 8)) (fun v : Value => v) m x.2.1 x.2.2 ∧ Kr w' w2.heap.size m x.1 ∧ (∀ k, (x.1 k).Perm (cN (pK ms) ms.length k)) ∧ (∀ k v, alook m k = some v → (k, v) ∉ x.2.1 → (x.1 k).Pairwise (fun x y => pN ms x ≤ pN ms y)) ∧ Row w' b1 0 [.pointer (some ⟨p, 0, none⟩)] ∧ (∀ q ∈ x.2.1, q ∈ m))
      (fun x => x.2.1.length) (cN (pK ms) ms.length, m, none) ⟨k4, hI.ltr, hI, hR.kp0 hk4, fun k => List.Perm.refl _, fun k v hv hn => absurd (alook_mem hv) hn, r1.kp0 hk4, fun _ h => h⟩ (by (repeat' (first | exact True.intro | exact rfl | refine And.intro ?_ ?_))) ?_
    rintro ⟨C, left, cur⟩ w5 ⟨hk5, hrs, hI5, hR5, hC, hsd, hr5, hsub⟩
    simp only at hI5 hR5 hC hsd hsub
    refine CG.to [(1, .pointer (some ⟨b1, 0, none⟩)), (3, .map (some bm)), (31, .pointer (some ⟨r, 0, none⟩))] (by (repeat' (first | exact True.intro | exact rfl | refine And.intro ?_ ?_))) ?_
    repeat (first|apply cA|apply cB)
    refine SG.next rfl rfl rfl (by exact rho_of rfl) hI5 (fun h0 => ?_) (fun pre q post w6 hl6 hk6 hI6 => ?_)
    · subst h0
      repeat (first|apply cA|apply cD|apply cE|refine cV rfl rfl rfl rfl (by first|(apply qxt<;>(exact rfl))|fail) ?_)
      refine dA rfl (by exact rho_of rfl) rfl ?_
      repeat (first|apply cA|apply cB|apply cD|apply cE|apply cH|apply cJ|apply cM|refine cQ rfl ?_|refine cV rfl rfl rfl rfl (by first|((first|apply qmv|apply qas)<;>(exact rfl))|fail) ?_)
      refine ret1 (Or.inl rfl) Tryz.results79 (by first | exact ResV.tmp rfl | exact ResV.agg rfl rfl (by assumption) (by first | exact dc_length _ | exact nc_length _ | exact rc_length _ _ _ | exact ec_length _ | exact dl_length _ _ _ _ | rfl) | exact ResV.cell rfl rfl (by assumption)) ?_
      exact ⟨bm, m, C, rfl, hk5, hI5.map, hR5.mono (by omega), hC, fun k v hv => hsd k v hv List.not_mem_nil, hcov, hne⟩
    · repeat (first|apply cA|apply cD|apply cE|refine cV rfl rfl rfl rfl (by first|(apply qxt<;>(exact rfl))|fail) ?_)
      refine cZ rfl (by exact rho_of rfl) rfl ?_
      have hqm : q ∈ m := hsub q (by rw [hl6]; simp)
      have hqa : alook m q.1 = some q.2 := alook_of_mem hM3.nodup hqm
      have s5 := hk5.size
      have k6 : Kp [] w w6 := hk5.trans_new hk6 (new1 (by omega))
      have hR6 : Kr w6 w2.heap.size m C := hR5.kp hk6 (fun b hb => by
        rw [List.mem_singleton] at hb
        subst hb
        exact Or.inl (IterAt.nint hI5))
      have hP6 := hP.kp0 k6
      have ho6 := hR6.rows _ _ hqa
      have hr6 : Row w6 b1 0 [.pointer (some ⟨p, 0, none⟩)] := hr5.kp hk6 (nm1 (by omega))
      have hge := own_geB ho6
      have hbO : ∀ b, b < w2.heap.size → b ∉ ownB q.2 := fun b hlt hm => by
        have := hge b (ownB_mem hm)
        omega
      have hcl : (C q.1).length ≤ 100000 := by
        rw [(hC q.1).length_eq]
        have := cN_len (pK ms) ms.length q.1
        omega
      repeat (first|apply cA|apply cB|apply cD|apply cE|apply cF|apply cG|refine cV rfl rfl rfl rfl (by first|((first|apply qmv|apply qas|apply qxt|apply qen)<;>(first|exact rfl|assumption|exact List.not_mem_nil))|fail) ?_)
      refine cV rfl rfl rfl rfl (qmf (vs := [.pointer (some ⟨b1, 0, none⟩)]) rfl) ?_
      refine SG.call rfl rfl rfl (vs := [q.2, fnv 96 [.pointer (some ⟨b1, 0, none⟩)]]) (by repeat' (first | exact True.intro | exact rho_of rfl | refine And.intro ?_ ?_)) ((sorti_spec hP6 hr6 hb ho6 (fun j hj => (cN_mem.1 ((hC q.1).mem_iff.1 hj)).1) (by
        have := hne q.1 q.2 hqa
        obtain ⟨j, hj⟩ := List.exists_mem_of_ne_nil _ this
        have := (cN_mem.1 hj).1
        omega) (by omega) (by have := hP.base_le; have := hk2.size; have := hk1.size; omega) (hbO b1 (by omega)) (hbO p (by omega)) (fun b hb => hbO b (by have := hvp b hb; omega))).mono (fun e w7 hh => ?_))
      obtain ⟨he, hk7, l', hp', hs', ho7⟩ := hh
      refine ⟨_, he, ?_⟩
      repeat (first|apply cD|apply cU)
      have hI7 := hI6.kp hk7 (IterAt.nown hI6 ho6) (MapIs.nown hI6.map ho6)
      refine NG.round (fun k => if k = q.1 then l' else C k, pre ++ post, some q) (by (repeat' (first | exact True.intro | exact rfl | refine And.intro ?_ ?_))) ⟨k6.trans_new hk7 (fun z hz => Or.inr (by have := hge z (ownB_mem hz); omega)), hI7.ltr, hI7, ⟨fun k v hv => ?_, hR6.sep⟩, fun k => ?_, fun k v hv hn => ?_, hr6.kp hk7 (hbO b1 (by omega)), fun x hx => ?_⟩ ?_
      · simp only
        by_cases e : k = q.1
        · subst e
          rw [hqa] at hv
          cases hv
          rw [if_pos rfl]
          exact ho7
        · rw [if_neg e]
          exact own_kpB (hR6.rows k v hv) hk7 (fun b hb hm => hR6.sep k q.1 v q.2 hv hqa e b hb (ownB_mem hm))
      · simp only
        by_cases e : k = q.1
        · subst e
          rw [if_pos rfl]
          exact hp'.trans (hC _)
        · rw [if_neg e]
          exact hC k
      · simp only at hn ⊢
        by_cases e : k = q.1
        · rw [if_pos e]
          exact hs'
        · rw [if_neg e]
          refine hsd k v hv (fun hm => hn ?_)
          rw [hl6] at hm
          rcases List.mem_append.1 hm with h | h
          · exact List.mem_append.2 (Or.inl h)
          · rcases List.mem_cons.1 h with h | h
            · exact absurd (congrArg Prod.fst h) e
            · exact List.mem_append.2 (Or.inr h)
      · refine hsub x ?_
        rw [hl6]
        rcases List.mem_append.1 hx with h | h
        · exact List.mem_append.2 (Or.inl h)
        · exact List.mem_append.2 (Or.inr (List.mem_cons_of_mem _ h))
      · simp only
        rw [hl6]
        simp only [List.length_append, List.length_cons]
        omega
end Go.Proofs.YtgbgnlboogalgaaGreat
namespace Go.Proofs.YtgbgnlboogalgaaGreat
set_option linter.unusedVariables false
section
variable {κ : Type} {K : Nat → κ} {N F : Nat → Int}
/-- What is so of rows of places that are still to be taken (R), some being taken (out). -/
structure Stp (K : Nat → κ) (N F : Nat → Int) (n : Nat) (Ls : List (List Nat)) (R out : List Nat) : Prop where
  asc : R.Pairwise (· < ·)
  lt : ∀ j ∈ R, j < n
  len : R.length + out.length = n
  ord : ∀ r, Ord K N F R r → Ord K N F (List.range n) (out ++ r)
  srt : ∀ l ∈ Ls, l.Pairwise (fun x y => N x < N y ∧ K x = K y)
  sep : ∀ (i j : Nat) (l l' : List Nat), Ls[i]? = some l → Ls[j]? = some l' → i ≠ j → ∀ x ∈ l, ∀ y ∈ l', K x ≠ K y
  mem : ∀ j, j ∈ R ↔ ∃ l ∈ Ls, j ∈ l
def aheadP (F : Nat → Int) (a x : Nat) : Prop := F x < F a ∨ (F a = F x ∧ a < x)
/-- Of the first k rows, the one with the best head. -/
inductive InB (F : Nat → Int) (Ls : List (List Nat)) (k : Nat) : Int → Prop
  | no : (∀ (i : Nat) (l : List Nat), i < k → Ls[i]? = some l → l = []) → InB F Ls k (-1)
  | att (b a : Nat) (t : List Nat) : b < k → Ls[b]? = some (a :: t) → (∀ (i x : Nat) (t' : List Nat), i < k → Ls[i]? = some (x :: t') → x = a ∨ aheadP F a x) → InB F Ls k (b : Int)
theorem aheadP.trans {a x y : Nat} (h : aheadP F a x) (h2 : aheadP F x y) : aheadP F a y := by
  unfold aheadP at *
  omega
theorem aheadP.tot {a x : Nat} (h : ¬ aheadP F a x) : x = a ∨ aheadP F x a := by
  unfold aheadP at *
  omega
theorem InB.init (Ls : List (List Nat)) : InB F Ls 0 (-1) := .no (fun i l h => absurd h (Nat.not_lt_zero i))
theorem InB.skip {Ls : List (List Nat)} {k : Nat} {z : Int} (h : InB F Ls k z) (hk : Ls[k]? = some []) : InB F Ls (k + 1) z := by
  cases h with
  | no h => exact .no (fun i l hi hl => by
      by_cases e : i = k
      · subst e; rw [hk] at hl; cases hl; rfl
      · exact h i l (by omega) hl)
  | att b a t h1 h2 h3 => exact .att b a t (by omega) h2 (fun i x t' hi hl => by
      by_cases e : i = k
      · subst e; rw [hk] at hl; cases hl
      · exact h3 i x t' (by omega) hl)
theorem InB.first {Ls : List (List Nat)} {k x : Nat} {t : List Nat} (h : InB F Ls k (-1)) (hk : Ls[k]? = some (x :: t)) : InB F Ls (k + 1) (k : Int) := by
  generalize hz : (-1 : Int) = z at h
  cases h with
  | no h => exact .att k x t (by omega) hk (fun i y t' hi hl => by
      by_cases e : i = k
      · subst e; rw [hk] at hl; cases hl; exact Or.inl rfl
      · have := h i _ (by omega) hl
        cases this)
  | att b a t h1 h2 h3 => omega
theorem InB.keep {Ls : List (List Nat)} {k b a x : Nat} {t t2 : List Nat} (h : InB F Ls k (b : Int)) (hb : Ls[b]? = some (a :: t2)) (hk : Ls[k]? = some (x :: t)) (hn : ¬ aheadP F x a) : InB F Ls (k + 1) (b : Int) := by
  generalize hz : (b : Int) = z at h
  cases h with
  | no h => omega
  | att b' a' t' h1 h2 h3 =>
    have : b' = b := by omega
    subst this
    rw [hb] at h2
    cases h2
    refine .att b' a t2 (by omega) hb (fun i y t3 hi hl => ?_)
    by_cases e : i = k
    · subst e
      rw [hk] at hl
      cases hl
      rcases aheadP.tot hn with h | h
      · exact Or.inl h.symm
      · exact Or.inr h
    · exact h3 i y t3 (by omega) hl
theorem InB.turn {Ls : List (List Nat)} {k b a x : Nat} {t t2 : List Nat} (h : InB F Ls k (b : Int)) (hb : Ls[b]? = some (a :: t2)) (hk : Ls[k]? = some (x :: t)) (hn : aheadP F x a) : InB F Ls (k + 1) (k : Int) := by
  generalize hz : (b : Int) = z at h
  cases h with
  | no h => omega
  | att b' a' t' h1 h2 h3 =>
    have : b' = b := by omega
    subst this
    rw [hb] at h2
    cases h2
    refine .att k x t (by omega) hk (fun i y t3 hi hl => ?_)
    by_cases e : i = k
    · subst e
      rw [hk] at hl
      cases hl
      exact Or.inl rfl
    · rcases h3 i y t3 (by omega) hl with h | h
      · rw [h]; exact Or.inr hn
      · exact Or.inr (hn.trans h)
theorem InB.get {Ls : List (List Nat)} {z : Int} (h : InB F Ls Ls.length z) (hne : ∃ l ∈ Ls, l ≠ []) : ∃ (b a : Nat) (t : List Nat), z = (b : Int) ∧ Ls[b]? = some (a :: t) ∧ ∀ l ∈ Ls, ∀ x t', l = x :: t' → x = a ∨ aheadP F a x := by
  cases h with
  | no h =>
    obtain ⟨l, hl, hn⟩ := hne
    obtain ⟨i, hi, rfl⟩ := List.getElem_of_mem hl
    exact absurd (h i _ hi (List.getElem?_eq_getElem hi)) hn
  | att b a t h1 h2 h3 =>
    refine ⟨b, a, t, rfl, h2, fun l hl x t' e => ?_⟩
    subst e
    obtain ⟨i, hi, e⟩ := List.getElem_of_mem hl
    exact h3 i x t' hi (by rw [List.getElem?_eq_getElem hi, e])
theorem asc_mid {X Y : List Nat} {a : Nat} (h : (X ++ a :: Y).Pairwise (· < ·)) : (X ++ Y).Pairwise (· < ·) ∧ (∀ x ∈ X, x < a) ∧ (∀ y ∈ Y, a < y) := by
  rw [List.pairwise_append, List.pairwise_cons] at h
  obtain ⟨h1, ⟨h2, h3⟩, h4⟩ := h
  exact ⟨List.pairwise_append.2 ⟨h1, h3, fun x hx y hy => h4 x hx y (List.mem_cons_of_mem _ hy)⟩, fun x hx => h4 x hx a List.mem_cons_self, h2⟩
theorem Stp.step {n : Nat} {Ls : List (List Nat)} {R out : List Nat} (h : Stp K N F n Ls R out) {b a : Nat} {t : List Nat} (hb : Ls[b]? = some (a :: t)) (hbest : ∀ l ∈ Ls, ∀ x t', l = x :: t' → x = a ∨ aheadP F a x) :
    ∃ R', Stp K N F n (Ls.set b t) R' (out ++ [a]) ∧ R'.length + 1 = R.length := by
  have hbl : b < Ls.length := (List.getElem?_eq_some_iff.1 hb).1
  have hbm : a :: t ∈ Ls := List.mem_of_getElem? hb
  have haR : a ∈ R := (h.mem a).2 ⟨_, hbm, List.mem_cons_self⟩
  obtain ⟨X, Y, rfl⟩ := List.append_of_mem haR
  obtain ⟨g1, g2, g3⟩ := asc_mid h.asc
  have hsa := List.pairwise_cons.1 (h.srt _ hbm)
  have hmemR : ∀ j, j ∈ X ++ Y ↔ (j ∈ X ++ a :: Y ∧ j ≠ a) := fun j => by
    rw [List.mem_append, List.mem_append, List.mem_cons]
    constructor
    · rintro (hj | hj)
      · exact ⟨Or.inl hj, by have := g2 j hj; omega⟩
      · exact ⟨Or.inr (Or.inr hj), by have := g3 j hj; omega⟩
    · rintro ⟨hj | hj | hj, hn⟩
      · exact Or.inl hj
      · exact absurd hj hn
      · exact Or.inr hj
  -- the first of its key is its row's head
  have hhead : ∀ e ∈ X ++ a :: Y, Frst K N (X ++ a :: Y) e → ∃ l ∈ Ls, ∃ t', l = e :: t' := fun e he hf => by
    obtain ⟨l, hl, hel⟩ := (h.mem e).1 he
    cases l with
    | nil => cases hel
    | cons x t' =>
      rcases List.mem_cons.1 hel with rfl | hel
      · exact ⟨_, hl, t', rfl⟩
      · have hs := (List.pairwise_cons.1 (h.srt _ hl)).1 e hel
        have hx : x ∈ X ++ a :: Y := (h.mem x).2 ⟨_, hl, List.mem_cons_self⟩
        have := hf x hx hs.2
        omega
  have hbestS : BestS K N F X a Y := by
    refine ⟨fun o ho hk => ?_, fun e he hf => ?_, fun e he hf => ?_⟩
    · obtain ⟨l, hl, hol⟩ := (h.mem o).1 ho
      obtain ⟨i, hi⟩ := List.getElem?_of_mem hl
      by_cases e : i = b
      · subst e
        rw [hb] at hi
        cases hi
        rcases List.mem_cons.1 hol with rfl | hol
        · exact Int.le_refl _
        · have := (hsa.1 o hol).1
          omega
      · exact absurd hk (h.sep i b l (a :: t) hi hb e o hol a List.mem_cons_self)
    · obtain ⟨l, hl, t', e2⟩ := hhead e he hf
      rcases hbest l hl e t' e2 with rfl | hh
      · exact Int.le_refl _
      · unfold aheadP at hh
        omega
    · have hm : e ∈ X ++ a :: Y := List.mem_append.2 (Or.inl he)
      obtain ⟨l, hl, t', e2⟩ := hhead e hm hf
      have := g2 e he
      rcases hbest l hl e t' e2 with rfl | hh
      · omega
      · unfold aheadP at hh
        omega
  refine ⟨X ++ Y, ⟨g1, fun j hj => h.lt j ((hmemR j).1 hj).1, ?_, fun r hr => ?_, fun l hl => ?_, fun i j l l' hi hj hne x hx y hy => ?_, fun j => ?_⟩, ?_⟩
  · have := h.len
    simp only [List.length_append, List.length_cons, List.length_nil] at this ⊢
    omega
  · have := h.ord _ (Ord.step X a Y r hbestS hr)
    rw [List.append_assoc]
    exact this
  · rcases List.mem_or_eq_of_mem_set hl with hl | rfl
    · exact h.srt l hl
    · exact hsa.2
  · have key : ∀ (i : Nat) (l : List Nat) (x : Nat), (Ls.set b t)[i]? = some l → x ∈ l → ∃ l2, Ls[i]? = some l2 ∧ x ∈ l2 := fun i l x hi hx => by
      rw [List.getElem?_set] at hi
      by_cases e : b = i
      · subst e
        rw [if_pos rfl, if_pos hbl] at hi
        cases hi
        exact ⟨_, hb, List.mem_cons_of_mem _ hx⟩
      · rw [if_neg e] at hi
        exact ⟨l, hi, hx⟩
    obtain ⟨l2, q1, q2⟩ := key i l x hi hx
    obtain ⟨l3, q3, q4⟩ := key j l' y hj hy
    exact h.sep i j l2 l3 q1 q3 hne x q2 y q4
  · rw [hmemR, h.mem]
    constructor
    · rintro ⟨⟨l, hl, hjl⟩, hne⟩
      obtain ⟨i, hi⟩ := List.getElem?_of_mem hl
      by_cases e : i = b
      · subst e
        rw [hb] at hi
        cases hi
        rcases List.mem_cons.1 hjl with rfl | hjl
        · exact absurd rfl hne
        · exact ⟨t, List.mem_of_getElem? (i := i) (by rw [List.getElem?_set, if_pos rfl, if_pos hbl]), hjl⟩
      · exact ⟨l, List.mem_of_getElem? (i := i) (by rw [List.getElem?_set, if_neg (fun h => e h.symm)]; exact hi), hjl⟩
    · rintro ⟨l, hl, hjl⟩
      obtain ⟨i, hi⟩ := List.getElem?_of_mem hl
      rw [List.getElem?_set] at hi
      by_cases e : b = i
      · subst e
        rw [if_pos rfl, if_pos hbl] at hi
        cases hi
        refine ⟨⟨_, hbm, List.mem_cons_of_mem _ hjl⟩, fun e2 => ?_⟩
        subst e2
        have := (hsa.1 j hjl).1
        omega
      · rw [if_neg e] at hi
        refine ⟨⟨l, List.mem_of_getElem? hi, hjl⟩, fun e2 => ?_⟩
        subst e2
        exact h.sep b i (j :: t) l hb hi e j List.mem_cons_self j hjl rfl
  · simp only [List.length_append, List.length_cons]
    omega
theorem Stp.full {n : Nat} {Ls : List (List Nat)} {R out : List Nat} (h : Stp K N F n Ls R out) (hl : out.length < n) : ∃ l ∈ Ls, l ≠ [] := by
  have := h.len
  cases R with
  | nil => simp at this; omega
  | cons x R =>
    obtain ⟨l, hl, hx⟩ := (h.mem x).1 List.mem_cons_self
    exact ⟨l, hl, fun e => by rw [e] at hx; cases hx⟩
theorem Stp.last {n : Nat} {Ls : List (List Nat)} {R out : List Nat} (h : Stp K N F n Ls R out) (hl : ¬ out.length < n) : Ord K N F (List.range n) out := by
  have := h.len
  have hR : R = [] := List.eq_nil_of_length_eq_zero (by omega)
  subst hR
  have := h.ord [] .nil
  simpa using this
end
end Go.Proofs.YtgbgnlboogalgaaGreat
namespace Go.Proofs.YtgbgnlboogalgaaGreat
set_option linter.unusedVariables false
section
variable {α : Type} {enc : α → List Value} {sz : Nat}
/-- One is written over. -/
theorem own_storeV {P : Program} {w : World} {base cap g n : Nat} {T : TypeId} {inf : TypeInfo} [f : Inf P T inf] {l : List α} (he : ∀ x, (enc x).length = inf.size) (hone : ∀ x, allOne (enc x) = true) (ho : w.ownsRow base T inf.size (.slice (some ⟨g, 0, none⟩) n cap) n (flt enc l)) (hn : l.length = n) {k : Nat} (hk : k < l.length) (x : α) {vx : Value} (hcells : vx.cells.toList = enc x) :
    ∃ w', (Instr.storeAt T (.pointer (some ⟨g, 0 + k * inf.size, none⟩)) vx).run P w = .ok () w' ∧ w'.ownsRow base T inf.size (.slice (some ⟨g, 0, none⟩) n cap) n (flt enc (l.set k x)) ∧ Kp [g] w w' := by
  rcases ho with ⟨h1, ⟨h2, _⟩ | ⟨g', cap', cur, h2, hb, hg, hc1, hc2, hc3, hc4⟩⟩
  · cases h2
  · cases h2
    have hB : Blk w g (.cells cur T) := hg
    have hlt : k * inf.size + inf.size ≤ n * inf.size := by
      have : (k + 1) * inf.size ≤ n * inf.size := Nat.mul_le_mul_right _ (by omega)
      rwa [Nat.add_mul, Nat.one_mul] at this
    have hle : n * inf.size ≤ cap * inf.size := Nat.mul_le_mul_right _ hc1
    have hrun := run_storeAt (P := P) (T := T) (off := 0 + k * inf.size) (v := vx) hB (by rw [hcells]; exact he x) (by rw [hcells, he x]; omega) (by rw [hcells]; exact hone x)
    rw [hcells] at hrun
    refine ⟨_, hrun, ⟨by rw [flt_length he, List.length_set, hn], Or.inr ⟨g, cap, _, rfl, hb, hB.set _, hc1, hc2, ?_, ?_⟩⟩, Kp.set w hB rfl rfl⟩
    · have := spl_length (cs := cur.toList) (off := 0 + k * inf.size) (l := enc x) (by rw [he x]; simp; omega)
      rw [List.size_toArray, this]
      simpa using hc3
    · have hsplit : cur.toList = [] ++ (flt enc l ++ cur.toList.drop (n * inf.size)) := by
        rw [List.nil_append]
        conv => lhs; rw [← List.take_append_drop (n * inf.size) cur.toList]
        rw [hc4]
      have hset := flt_set he l k hk x [] (cur.toList.drop (n * inf.size))
      rw [← hsplit, List.length_nil, List.nil_append] at hset
      rw [List.toList_toArray, hset]
      refine (List.take_append_of_le_length ?_).trans (List.take_of_length_le ?_)
      · rw [flt_length he, List.length_set, hn]; exact Nat.le_refl _
      · rw [flt_length he, List.length_set, hn]; exact Nat.le_refl _
end
section
variable {P : Program} {α : Type} {enc : α → List Value} {m : Nat} {Q : Exit → Act → World → Prop} {ops rest : List Oper} {L : Env} {w : World} {ty : TypeId} {pos : String} {af : Array Edge} {q : Option (Nat × Bool)}
/-- .. in text order. -/
theorem SG.storeV {base cap g n : Nat} {T : TypeId} {inf : TypeInfo} [f : Inf P T inf] {l : List α} {a x : Operand} {y : α} {k o : Nat} (he : ∀ x, (enc x).length = inf.size) (hone : ∀ x, allOne (enc x) = true) (hw : want ops L ⟨none, .store T a x, ty, pos, af, q⟩ = some true) (hk : (known L a && known L x) = true)
    (ha : rho L a = .pointer (some ⟨g, o, none⟩)) (ho' : o = 0 + k * inf.size) {vy : Value} (hx : rho L x = vy) (hcells : vy.cells.toList = enc y) (ho : w.ownsRow base T inf.size (.slice (some ⟨g, 0, none⟩) n cap) n (flt enc l)) (hn : l.length = n) (hkl : k < l.length)
    (h : ∀ w', Kp [g] w w' → w'.ownsRow base T inf.size (.slice (some ⟨g, 0, none⟩) n cap) n (flt enc (l.set k y)) → SG P m ops Q rest L w') : SG P m ops Q (⟨none, .store T a x, ty, pos, af, q⟩ :: rest) L w := by
  subst ho'
  refine SG.op rfl rfl hw (by simpa [Op.operands] using hk) ?_
  obtain ⟨w', h1, h2, h3⟩ := own_storeV (P := P) he hone ho hn hkl y hcells
  unfold OpRun
  have : (execOp (rho L) ⟨none, .store T a x, ty, pos, af, q⟩).run P w = .ok .skip w' := by
    simp only [execOp, hx, ha, Sem.run_bind, h1, Result.andThen, Sem.run_pure]
  rw [this]
  exact h w' h3 h2
end
end Go.Proofs.YtgbgnlboogalgaaGreat
namespace Go.Proofs.YtgbgnlboogalgaaGreat
open Go.Proofs Go.Shelf Go.Sort
set_option linter.unusedVariables false
/-- A row of places, as it lies. -/
structure Hw where
  a : Option Addr
  c : Nat
  l : List Nat
def hwv (h : Hw) : Value := .slice h.a h.l.length h.c
def hwc (h : Hw) : List Value := [hwv h]
theorem hwc_len (h : Hw) : (hwc h).length = 1 := rfl
theorem hwc_one (h : Hw) : allOne (hwc h) = true := rfl
theorem bsh (a : Option Addr) (n c : Nat) (w : World) : (Instr.buildSlice 132 1 #[(0, .slice a n c)]).run Tryz.prog w = .ok (.slice (some ⟨w.heap.size, 0, none⟩) 1 1) { w with heap := w.heap.push (.cells #[.slice a n c] 113) } := by kernel_rfl
noncomputable def ordP (ms : List Em) : List Nat := ordL (pK ms) (pN ms) (pF ms) (List.range ms.length)
theorem dst_at {room : Int} {ms : List Em} (hI : PInv room (ms.map Em.en)) {i j : Nat} (hi : i < ms.length) (hj : j < ms.length) (hij : i ≠ j) (hk : pK ms i = pK ms j) : pN ms i ≠ pN ms j := by
  have key : ∀ {i j : Nat} (hi : i < ms.length) (hj : j < ms.length), i < j → pK ms i = pK ms j → pN ms i ≠ pN ms j := fun {i j} hi hj hlt hk => by
    have h := List.pairwise_iff_getElem.1 hI.dst i j (by simpa using hi) (by simpa using hj) hlt
    rw [pK_at hi, pK_at hj] at hk
    rw [pN_at hi, pN_at hj]
    intro hn
    refine h ⟨?_, ?_⟩
    · simp only [List.getElem_map]
      exact hk
    · simp only [List.getElem_map]
      exact hn
  rcases Nat.lt_or_gt_of_ne hij with h | h
  · exact key hi hj h hk
  · exact fun e => key hj hi h hk.symm e.symm
theorem strict_of {K : Nat → Dg} {N : Nat → Int} {n : Nat} {k : Dg} (hd : ∀ i j, i < n → j < n → i ≠ j → K i = K j → N i ≠ N j) {l : List Nat} (hp : l.Perm (cN K n k)) (hs : l.Pairwise (fun x y => N x ≤ N y)) : l.Pairwise (fun x y => N x < N y ∧ K x = K y) := by
  have hn : l.Nodup := hp.nodup_iff.2 (cN_nodup K n k)
  refine (List.Pairwise.and hs hn).imp_of_mem (fun {x y} hx hy h => ?_)
  have q1 := cN_mem.1 (hp.mem_iff.1 hx)
  have q2 := cN_mem.1 (hp.mem_iff.1 hy)
  have hk : K x = K y := q1.2.trans q2.2.symm
  have := hd x y q1.1 q2.1 h.2 hk
  have := h.1
  exact ⟨by omega, hk⟩
/-- The rows by key, to begin with. -/
theorem stp_init {K : Nat → Dg} {N F : Nat → Int} {n : Nat} {m : List (Dg × Value)} {C : Dg → List Nat} {dn : List (Dg × Hw)} (hd : ∀ i j, i < n → j < n → i ≠ j → K i = K j → N i ≠ N j) (hm : (m.map (·.1)).Nodup)
    (hC : ∀ k, (C k).Perm (cN K n k)) (hs : ∀ k v, alook m k = some v → (C k).Pairwise (fun x y => N x ≤ N y)) (hcov : ∀ j, j < n → ∃ v, alook m (K j) = some v) (hp : (dn.map (fun y => (y.1, hwv y.2))).Perm m) (hl : ∀ y ∈ dn, y.2.l = C y.1) :
    Stp K N F n (dn.map (fun y => y.2.l)) (List.range n) [] := by
  have hnd : (dn.map (fun y => y.1)).Nodup := by
    have h1 : ((dn.map (fun y => (y.1, hwv y.2))).map (·.1)).Perm (m.map (·.1)) := hp.map _
    rw [List.map_map] at h1
    exact h1.nodup_iff.2 hm
  have hin : ∀ y ∈ dn, alook m y.1 = some (hwv y.2) := fun y hy => by
    have : (y.1, hwv y.2) ∈ m := hp.mem_iff.1 (List.mem_map.2 ⟨y, hy, rfl⟩)
    exact alook_of_mem hm this
  refine ⟨List.pairwise_lt_range, fun j hj => List.mem_range.1 hj, by simp, fun r h => h, fun l hlm => ?_, fun i j l l' hi hj hne x hx y hy => ?_, fun j => ?_⟩
  · obtain ⟨y, hy, rfl⟩ := List.mem_map.1 hlm
    rw [hl y hy]
    exact strict_of hd (hC y.1) (hs y.1 _ (hin y hy))
  · rw [List.getElem?_map] at hi hj
    obtain ⟨y1, h1, rfl⟩ := Option.map_eq_some_iff.1 hi
    obtain ⟨y2, h2, rfl⟩ := Option.map_eq_some_iff.1 hj
    have m1 := List.mem_of_getElem? h1
    have m2 := List.mem_of_getElem? h2
    rw [hl y1 m1] at hx
    rw [hl y2 m2] at hy
    have k1 := (cN_mem.1 ((hC _).mem_iff.1 hx)).2
    have k2 := (cN_mem.1 ((hC _).mem_iff.1 hy)).2
    rw [k1, k2]
    intro e
    obtain ⟨l1, g1⟩ := List.getElem?_eq_some_iff.1 h1
    obtain ⟨l2, g2⟩ := List.getElem?_eq_some_iff.1 h2
    have := (List.getElem_inj (xs := dn.map (fun y => y.1)) (i := i) (j := j) (h₀ := by simpa using l1) (h₁ := by simpa using l2) hnd).1 (by simp only [List.getElem_map, g1, g2]; exact e)
    exact hne this
  · rw [List.mem_range]
    constructor
    · intro hj
      obtain ⟨v, hv⟩ := hcov j hj
      have hvm := hp.mem_iff.2 (alook_mem hv)
      obtain ⟨y, hy, e⟩ := List.mem_map.1 hvm
      refine ⟨y.2.l, List.mem_map.2 ⟨y, hy, rfl⟩, ?_⟩
      rw [hl y hy]
      have : y.1 = K j := congrArg Prod.fst e
      rw [this]
      exact (hC _).mem_iff.2 (cN_mem.2 ⟨hj, rfl⟩)
    · rintro ⟨l, hlm, hj⟩
      obtain ⟨y, hy, rfl⟩ := List.mem_map.1 hlm
      rw [hl y hy] at hj
      exact (cN_mem.1 ((hC _).mem_iff.1 hj)).1
attribute [local irreducible] CG NG SG Vals Der Row Blk MapIs IterAt nameT wrongT
set_option maxHeartbeats 16000000 in
theorem ahead_spec {w : World} {base p : Nat} {v : Value} {room : Int} {ms : List Em} (hP : Pl w base p v room ms) {x y : Nat} (hx : x < ms.length) (hy : y < ms.length) :
    ∃ r : Bool, (r = true ↔ aheadP (pF ms) x y) ∧ Ret Tryz.prog 80 #[.pointer (some ⟨p, 0, none⟩), .int .i64 (x : Int), .int .i64 (y : Int)] w (.bool r) := by
  refine ⟨(decide (pF ms y < pF ms x)) || ((decide (pF ms x = pF ms y)) && decide (x < y)), by unfold aheadP; simp, ?_⟩
  refine enter3 Tryz.func80 rfl Tryz.ntmps80 rfl ?_
  obtain ⟨a, c, rfl, hc, hS⟩ := hP.sl
  obtain ⟨-, q1⟩ := hP.rows
  obtain ⟨g, o1, rfl, hrx⟩ := hS.at hx
  have hry : Row w g (o1 + y * 22) (ec ms[y]) := hS.row (List.getElem?_eq_getElem hy)
  obtain ⟨-, -, -, rx, -⟩ := ec_rows hrx
  obtain ⟨-, -, -, ry, -⟩ := ec_rows hry
  rw [pF_at hx, pF_at hy]
  repeat (first|apply cA|apply cB|apply cD|apply cE|refine cV rfl rfl rfl rfl (by first|(apply qas<;>(exact rfl))|fail) ?_)
  refine CG.tail mixed 19 [0, 1, 2, 3, 4, 5, 6, 7, 8, 9, 10, 11, 12, 13, 14, 15, 16, 17, 18] (by kernel_rfl) ?_
  repeat (refine cY rfl rfl rfl (by first|((first|apply qmv|apply qas|apply qlc|apply qfa|apply qnc|apply qix)<;>(first|exact rfl|exact Ar.mk (by omega)|assumption|exact List.not_mem_nil|fail))|fail) ?_)
  refine Der.tl (fun w1 hk1 _ _ => ?_)
  clear rx ry q1 hrx hry
  generalize ms[x].x.t.fee = f1
  generalize ms[y].x.t.fee = f2
  by_cases g1 : f2 < f1
  · have e : ((decide (f2 < f1)) || ((decide (f1 = f2)) && decide (x < y))) = true := by simp [g1]
    rw [e]
    repeat (first | first|apply cA|apply cB|apply cD|apply cE|apply cH|refine cV rfl rfl rfl rfl (by first|((first|apply qmv|apply qas|apply qpk|apply qgt)<;>(first|exact rfl|exact dct (by first|assumption|omega)|fail))|fail) ?_ | refine cX rfl rfl ?_)
    refine ret1 (Or.inl rfl) Tryz.results80 (by first | exact ResV.tmp rfl | exact ResV.agg rfl rfl (by assumption) (by first | exact dc_length _ | exact nc_length _ | exact rc_length _ _ _ | exact ec_length _ | exact dl_length _ _ _ _ | rfl) | exact ResV.cell rfl rfl (by assumption)) ?_
    exact ⟨rfl, hk1⟩
  · by_cases g2 : f1 = f2
    · by_cases g3 : (x : Int) < (y : Int)
      · have g4 : x < y := by omega
        have e : ((decide (f2 < f1)) || ((decide (f1 = f2)) && decide (x < y))) = true := by simp [g2, g4]
        rw [e]
        repeat (first|apply cA|apply cB|apply cD|apply cE|apply cH|refine cV rfl rfl rfl rfl (by first|((first|apply qmv|apply qas|apply qpk|apply qls|apply qei|apply qgt)<;>(first|exact rfl|exact dct (by first|assumption|omega)|exact dcf (by first|assumption|omega)|fail))|fail) ?_)
        refine ret1 (Or.inl rfl) Tryz.results80 (by first | exact ResV.tmp rfl | exact ResV.agg rfl rfl (by assumption) (by first | exact dc_length _ | exact nc_length _ | exact rc_length _ _ _ | exact ec_length _ | exact dl_length _ _ _ _ | rfl) | exact ResV.cell rfl rfl (by assumption)) ?_
        exact ⟨rfl, hk1⟩
      · have g4 : ¬ x < y := by omega
        have e : ((decide (f2 < f1)) || ((decide (f1 = f2)) && decide (x < y))) = false := by simp only [decide_eq_false g1, decide_eq_false g4, Bool.and_false, Bool.or_false]
        rw [e]
        repeat (first|apply cA|apply cB|apply cD|apply cE|apply cH|refine cV rfl rfl rfl rfl (by first|((first|apply qmv|apply qas|apply qpk|apply qls|apply qei|apply qgt)<;>(first|exact rfl|exact dct (by first|assumption|omega)|exact dcf (by first|assumption|omega)|fail))|fail) ?_)
        refine ret1 (Or.inl rfl) Tryz.results80 (by first | exact ResV.tmp rfl | exact ResV.agg rfl rfl (by assumption) (by first | exact dc_length _ | exact nc_length _ | exact rc_length _ _ _ | exact ec_length _ | exact dl_length _ _ _ _ | rfl) | exact ResV.cell rfl rfl (by assumption)) ?_
        exact ⟨rfl, hk1⟩
    · have e : ((decide (f2 < f1)) || ((decide (f1 = f2)) && decide (x < y))) = false := by simp only [decide_eq_false g1, decide_eq_false g2, Bool.false_and, Bool.or_false]
      rw [e]
      repeat (first | first|apply cA|apply cB|apply cD|apply cE|apply cH|refine cV rfl rfl rfl rfl (by first|((first|apply qmv|apply qas|apply qpk|apply qei|apply qgt)<;>(first|exact rfl|exact dcf (by first|assumption|omega)|fail))|fail) ?_ | refine cX rfl rfl ?_)
      refine ret1 (Or.inl rfl) Tryz.results80 (by first | exact ResV.tmp rfl | exact ResV.agg rfl rfl (by assumption) (by first | exact dc_length _ | exact nc_length _ | exact rc_length _ _ _ | exact ec_length _ | exact dl_length _ _ _ _ | rfl) | exact ResV.cell rfl rfl (by assumption)) ?_
      exact ⟨rfl, hk1⟩
end Go.Proofs.YtgbgnlboogalgaaGreat
namespace Go.Proofs.YtgbgnlboogalgaaGreat
open Go.Proofs Go.Shelf Go.Sort
set_option linter.unusedVariables false
theorem nodup_sub {α : Type} : ∀ {l u : List α}, l.Nodup → (∀ x ∈ l, x ∈ u) → l.length ≤ u.length
  | [], u, _, _ => Nat.zero_le _
  | x :: l, u, hn, hs => by
    obtain ⟨X, Y, rfl⟩ := List.append_of_mem (hs x List.mem_cons_self)
    have hn' := List.nodup_cons.1 hn
    have := nodup_sub (l := l) (u := X ++ Y) hn'.2 (fun z hz => by
      have h1 := hs z (List.mem_cons_of_mem _ hz)
      rw [List.mem_append, List.mem_cons] at h1
      rw [List.mem_append]
      rcases h1 with h | rfl | h
      · exact Or.inl h
      · exact absurd hz hn'.1
      · exact Or.inr h)
    simp only [List.length_append, List.length_cons] at this ⊢
    omega
theorem blk_of {w : World} {b : Nat} {o : Obj} (h : w.heap[b]? = some o) : Blk w b o := h
attribute [local irreducible] CG NG SG Vals Der Row Blk MapIs IterAt nameT wrongT
set_option maxHeartbeats 32000000 in
theorem order_spec {w : World} {base p : Nat} {v : Value} {room : Int} {ms : List Em} (hP : Pl w base p v room ms) (hI : PInv room (ms.map Em.en)) (hr : room ≤ 1024) :
    RetO Tryz.prog 3 nI 1 59 #[.pointer (some ⟨p, 0, none⟩)] w (ordP ms) := by
  refine enter1 Tryz.func59 rfl Tryz.ntmps59 rfl ?_
  have hll : ms.length ≤ 1024 := by have := hI.len; rw [List.length_map] at this; omega
  have hb := hI.nb
  repeat (first|apply cA|apply cB|apply cD|apply cE|refine cV rfl rfl rfl rfl (by first|((first|apply qmv|apply qas)<;>(exact rfl))|fail) ?_)
  refine SG.call rfl rfl rfl (vs := [.pointer (some ⟨p, 0, none⟩)]) (by repeat' (first | exact True.intro | exact rho_of rfl | refine And.intro ?_ ?_)) ((keys_spec hP hb (by omega)).mono (fun e w1 hh => ?_))
  obtain ⟨bm, m, C, he, hk1, hM, hR, hC, hsd, hcov, hne⟩ := hh
  refine ⟨_, he, ?_⟩
  clear he
  refine SG.range rfl rfl rfl (by exact rho_of rfl) hM (fun r w2 hk2 hr2 hIt => ?_)
  have s1 := hk1.size
  repeat (first|apply cD|apply cE|apply cG)
  refine CG.loop (X := Value × List (Dg × Hw) × List (Dg × Value) × Option (Dg × Value)) (fun x => [(0, .pointer (some ⟨p, 0, none⟩)), (3, x.1), (12, .pointer (some ⟨r, 0, none⟩))])
    (fun x w' => Kp [] w1 w' ∧ r < w'.heap.size ∧ IterAt w' r bm (dv (n := 8)) (fun v : Value => v) m x.2.2.1 x.2.2.2 ∧ (x.2.1.map (fun y => (y.1, hwv y.2)) ++ x.2.2.1).Perm m ∧ (∀ y ∈ x.2.1, y.2.l = C y.1 ∧ Sl nI 1 w1 y.2.a y.2.l ∧ y.2.l.length ≤ y.2.c) ∧ w'.ownsRow w1.heap.size 113 1 x.1 (x.2.1.map (·.2)).length (flt hwc (x.2.1.map (·.2))))
    (fun x => x.2.2.1.length) (.slice none 0 0, [], m, none) ⟨hk2, hIt.ltr, hIt, by simp, fun y hy => (by cases hy), own_nil⟩ (by (repeat' (first | exact True.intro | exact rfl | refine And.intro ?_ ?_))) ?_
  rintro ⟨hv, dn, left, cur⟩ w3 ⟨hk3, hrs, hI3, hp, hdn, ho3⟩
  simp only at hI3 hp hdn ho3
  refine CG.to [(0, .pointer (some ⟨p, 0, none⟩)), (3, hv), (12, .pointer (some ⟨r, 0, none⟩))] (by (repeat' (first | exact True.intro | exact rfl | refine And.intro ?_ ?_))) ?_
  have s3 := hk3.size
  have hml : m.length ≤ 1024 := by
    have h1 : (m.map (·.1)).Nodup := hM.nodup
    have h2 : ∀ k ∈ m.map (·.1), k ∈ (List.range ms.length).map (pK ms) := fun k hk => by
      obtain ⟨q, hq, rfl⟩ := List.mem_map.1 hk
      have := hne q.1 q.2 (alook_of_mem h1 hq)
      obtain ⟨j, hj⟩ := List.exists_mem_of_ne_nil _ this
      have := cN_mem.1 hj
      exact List.mem_map.2 ⟨j, List.mem_range.2 this.1, this.2⟩
    have h3 := nodup_sub h1 h2
    simp only [List.length_map, List.length_range] at h3
    omega
  have hlen := hp.length_eq
  rw [List.length_append, List.length_map] at hlen
  repeat (first|apply cA|apply cB)
  refine SG.next rfl rfl rfl (by exact rho_of rfl) hI3 (fun h0 => ?_) (fun pre q post w4 hl4 hk4 hI4 => ?_)
  rotate_left
  · have hqm : q ∈ m := hp.mem_iff.1 (by rw [hl4]; simp)
    have hqa : alook m q.1 = some q.2 := alook_of_mem hM.nodup hqm
    obtain ⟨a', c', e', hc', hS'⟩ := Sl.own nI_len (hR.rows _ _ hqa) rfl
    have k4 : Kp [] w1 w4 := hk3.trans_new hk4 (new1 (by have := hk2.size; omega))
    have ho4 := own_kpB ho3 hk4 (fun b hb hm => by
      rw [List.mem_singleton] at hm
      subst hm
      exact IterAt.nown hI3 ho3 (ownB_of hb))
    have s4 := hk4.size
    rw [hl4] at hlen
    simp only [List.length_append, List.length_cons] at hlen
    repeat (first|apply cA|apply cD|apply cE|refine cV rfl rfl rfl rfl (by first|(apply qxt<;>(exact rfl))|fail) ?_)
    refine cZ rfl (by exact rho_of rfl) rfl ?_
    repeat (first|apply cA|apply cB|apply cD|apply cE|apply cF|apply cG|refine cV rfl rfl rfl rfl (by first|((first|apply qmv|apply qas|apply qxt|apply qen)<;>(first|exact rfl|assumption|exact List.not_mem_nil))|fail) ?_)
    rw [e']
    refine SG.buildSlice rfl rfl rfl rfl (bsh a' (C q.1).length c') (fun b6 w5 hk5 hb6 hB6 => ?_)
    have hS6 : Sl hwc 1 w5 (some ⟨b6, 0, none⟩) [(⟨a', c', C q.1⟩ : Hw)] := Sl.of_blk (pre := []) (post := []) hwc_len (l := [(⟨a', c', C q.1⟩ : Hw)]) (T := 113) hB6
    have ho5 := own_kp0 ho4 hk5
    skip
    refine SG.appO (enc := hwc) (xs := dn.map (·.2)) (ys := [(⟨a', c', C q.1⟩ : Hw)]) (base := w1.heap.size) rfl rfl rfl (by exact rho_of rfl) (by exact rho_of rfl) rfl rfl rfl rfl hwc_len hwc_one ho5 hS6 (by simp only [maxLen, List.length_cons, List.length_nil, List.length_map]; omega) (by simp only [List.length_cons, List.length_nil, List.length_map]; show (_ + _) * 24 ≤ _; omega) (by have := hk5.size; omega) (fun v' w6 hk6 ho6 hv6 => ?_)
    have hI5 := hI4.kp0 hk5
    have hI6 := hI5.kp hk6 (IterAt.nown hI5 ho5) (MapIs.nown hI5.map ho5)
    repeat (first|apply cD|apply cU|refine cV rfl rfl rfl rfl (by first|(apply qas<;>(exact rfl))|fail) ?_)
    refine NG.round (v', dn ++ [(q.1, ⟨a', c', C q.1⟩)], pre ++ post, some q) (by (repeat' (first | exact True.intro | exact rfl | refine And.intro ?_ ?_))) ⟨(k4.trans hk5).trans_new hk6 (own_new ho5 (Nat.le_refl _)), hI6.ltr, hI6, ?_, fun y hy => ?_, ?_⟩ ?_
    · simp only [List.map_append, List.map_cons, List.map_nil]
      have e2 : (q.1, hwv ⟨a', c', C q.1⟩) = q := by
        have : hwv ⟨a', c', C q.1⟩ = q.2 := e'.symm
        rw [this]
      rw [e2, List.append_assoc]
      refine List.Perm.trans ?_ hp
      rw [hl4]
      refine List.Perm.append_left _ ?_
      exact (List.perm_middle (l₁ := pre) (l₂ := post) (a := q)).symm
    · simp only at hy
      rcases List.mem_append.1 hy with hy | hy
      · exact hdn y hy
      · rw [List.mem_singleton] at hy
        subst hy
        exact ⟨rfl, hS', hc'⟩
    · simp only [List.map_append, List.map_cons, List.map_nil]
      exact ho6
    · simp only
      rw [hl4]
      simp only [List.length_append, List.length_cons]
      omega
  subst h0
  rw [List.append_nil] at hp
  repeat (first|apply cA|apply cD|apply cE|refine cV rfl rfl rfl rfl (by first|(apply qxt<;>(exact rfl))|fail) ?_)
  refine dA rfl (by exact rho_of rfl) rfl ?_
  have hst := stp_init (F := pF ms) (fun i j hi hj hij hk => dst_at hI hi hj hij hk) hM.nodup hC hsd hcov hp (fun y hy => (hdn y hy).1)
  obtain ⟨H0, hH0⟩ : ∃ H0, H0 = dn.map (·.2) := ⟨_, rfl⟩
  rw [← hH0] at ho3
  have hst : Stp (pK ms) (pN ms) (pF ms) ms.length (H0.map (·.l)) (List.range ms.length) [] := by
    rw [hH0, List.map_map]
    exact hst
  have hH : ∀ h ∈ H0, Sl nI 1 w1 h.a h.l ∧ h.l.length ≤ h.c := fun h hm => by
    rw [hH0] at hm
    obtain ⟨y, hy, rfl⟩ := List.mem_map.1 hm
    exact (hdn y hy).2
  have hH0l : H0.length ≤ 1024 := by
    rw [hH0, List.length_map]
    simp only [List.length_nil] at hlen
    omega
  clear hI3 hR hC hsd hcov hdn hp hM hlen hml hH0 hrs
  have k3 : Kp [] w w3 := hk1.trans hk3
  repeat (first|apply cA|apply cB|apply cD|apply cE|apply cG|apply cJ|apply cM|refine cQ rfl ?_|refine cV rfl rfl rfl rfl (by first|(apply qas<;>(exact rfl))|fail) ?_)
  refine CG.loop (X := (Value × List Hw) × (Value × List Nat) × List Nat) (fun x => [(0, .pointer (some ⟨p, 0, none⟩)), (3, x.1.1), (6, x.2.1.1)])
    (fun x w' => Kp [] w1 w' ∧ Stp (pK ms) (pN ms) (pF ms) ms.length (x.1.2.map (·.l)) x.2.2 x.2.1.2 ∧ w'.ownsRow w1.heap.size 113 1 x.1.1 x.1.2.length (flt hwc x.1.2) ∧ w'.ownsRow w1.heap.size 3 1 x.2.1.1 x.2.1.2.length (flt nI x.2.1.2) ∧ (∀ h ∈ x.1.2, Sl nI 1 w1 h.a h.l ∧ h.l.length ≤ h.c) ∧ x.1.2.length ≤ 1024)
    (fun x => x.2.2.length) ((hv, H0), (.slice none 0 0, []), List.range ms.length) ⟨hk3, hst, ho3, own_nil, hH, hH0l⟩ (by (repeat' (first | exact True.intro | exact rfl | refine And.intro ?_ ?_))) ?_
  clear hst hH hH0l ho3 k3 hk3 s3
  rintro ⟨⟨hv, H⟩, ⟨ov, out⟩, R⟩ w3 ⟨hk3, hst, ho3, hoo3, hH, hHl⟩
  simp only at hst ho3 hoo3 hH hHl
  refine CG.to [(0, .pointer (some ⟨p, 0, none⟩)), (3, hv), (6, ov)] (by (repeat' (first | exact True.intro | exact rfl | refine And.intro ?_ ?_))) ?_
  have k3 : Kp [] w w3 := hk1.trans hk3
  have s3 := hk3.size
  have hP3 := hP.kp0 k3
  obtain ⟨a, c, rfl, hc, hS⟩ := hP3.sl
  obtain ⟨-, q1⟩ := hP3.rows
  obtain ⟨ao, co, rfl, hco, hSo⟩ := Sl.own nI_len hoo3 rfl
  by_cases hlt : out.length < ms.length
  rotate_left
  · have g1 : ¬ (out.length : Int) < (ms.length : Int) := by omega
    have hord := (hst.last hlt).eq
    repeat (first|apply cA|apply cB|apply cD|apply cE|refine cV rfl rfl rfl rfl (by first|((first|apply qmv|apply qlc|apply qfa|apply qnc|apply qls|apply qln)<;>(first|exact rfl|assumption|exact dcf (by first|assumption|omega)|exact List.not_mem_nil|fail))|fail) ?_)
    refine dA rfl (by exact rho_of rfl) rfl ?_
    repeat (first|apply cA|apply cB|apply cD|apply cE|apply cH|apply cJ|apply cM|refine cQ rfl ?_|refine cV rfl rfl rfl rfl (by first|((first|apply qmv|apply qas)<;>(exact rfl))|fail) ?_)
    refine ret1 (Or.inl rfl) Tryz.results59 (by first | exact ResV.tmp rfl | exact ResV.agg rfl rfl (by assumption) (by first | exact dc_length _ | exact nc_length _ | exact rc_length _ _ _ | exact ec_length _ | exact dl_length _ _ _ _ | rfl) | exact ResV.cell rfl rfl (by assumption)) ?_
    refine ⟨_, rfl, ?_, k3⟩
    unfold ordP
    rw [hord]
    exact own_mono hoo3 s1
  have g1 : (out.length : Int) < (ms.length : Int) := by omega
  have hful := hst.full hlt
  have hHpos : 0 < H.length := by
    obtain ⟨l, hl, _⟩ := hful
    obtain ⟨h, hh, _⟩ := List.mem_map.1 hl
    exact List.length_pos_of_mem hh
  obtain ⟨gh, caph, rfl, hch⟩ := own_slice ho3 hHpos
  repeat (first|apply cA|apply cB|apply cD|apply cE|refine cV rfl rfl rfl rfl (by first|((first|apply qmv|apply qlc|apply qfa|apply qnc|apply qls|apply qln)<;>(first|exact rfl|assumption|exact dct (by first|assumption|omega)|exact List.not_mem_nil|fail))|fail) ?_)
  refine cZ rfl (by exact rho_of rfl) rfl ?_
  repeat (first|apply cA|apply cB|apply cD|apply cE|apply cF|apply cG|refine cV rfl rfl rfl rfl (by first|((first|apply qmv|apply qas|apply qln)<;>(exact rfl))|fail) ?_)
  clear q1
  refine CG.loop (X := Nat × Int) (fun x => [(0, .pointer (some ⟨p, 0, none⟩)), (3, .slice (some ⟨gh, 0, none⟩) H.length caph), (6, .slice ao out.length co), (7, .int .i64 x.2), (29, .slice (some ⟨gh, 0, none⟩) H.length caph), (30, .int .i64 (H.length : Int)), (31, .int .i64 (x.1 : Int))])
    (fun x w' => x.1 ≤ H.length ∧ Kp [] w3 w' ∧ InB (pF ms) (H.map (·.l)) x.1 x.2) (fun x => H.length - x.1) (0, -1) ⟨Nat.zero_le _, Kp.refl _ _, InB.init _⟩ (by (repeat' (first | exact True.intro | exact rfl | refine And.intro ?_ ?_))) ?_
  rintro ⟨k, z⟩ w4 ⟨hk, hk4, hin⟩
  simp only at hk hin
  refine CG.to [(0, .pointer (some ⟨p, 0, none⟩)), (3, .slice (some ⟨gh, 0, none⟩) H.length caph), (6, .slice ao out.length co), (7, .int .i64 z), (29, .slice (some ⟨gh, 0, none⟩) H.length caph), (30, .int .i64 (H.length : Int)), (31, .int .i64 (k : Int))] (by (repeat' (first | exact True.intro | exact rfl | refine And.intro ?_ ?_))) ?_
  have k14 := hk3.trans hk4
  have ho4 := own_kp0 ho3 hk4
  have hP4 := hP3.kp0 hk4
  have hrow : ∀ j (hj : j < H.length), Row w4 gh (0 + j * 1) [hwv H[j]] := fun j hj => own_at hwc_len ho4 rfl hj
  by_cases hkl : k < H.length
  · have g2 : (k : Int) < (H.length : Int) := by omega
    have hrk := hrow k hkl
    have hgk : (H.map (·.l))[k]? = some H[k].l := by rw [List.getElem?_map, List.getElem?_eq_getElem hkl]; rfl
    obtain ⟨hSk, hck⟩ := hH _ (List.getElem_mem hkl)
    have hSk := hSk.kp0 k14
    unfold hwv at hrk
    rcases hHk : H[k] with ⟨ak, ck, lk⟩
    rw [hHk] at hrk hgk hSk
    simp only at hrk hgk hSk
    repeat (first|apply cA|apply cB|apply cD|apply cE|refine cV rfl rfl rfl rfl (by first|(apply qls<;>(first|exact rfl|exact dct (by first|assumption|omega)|fail))|fail) ?_)
    refine cZ rfl (by exact rho_of rfl) rfl ?_
    repeat (first|apply cA|apply cB|apply cD|apply cE|apply cF|apply cG|refine cV rfl rfl rfl rfl (by first|((first|apply qmv|apply qas|apply qlc|apply qix)<;>(first|exact rfl|exact Ar.mk (by omega)|assumption|exact List.not_mem_nil|fail))|fail) ?_)
    cases lk with
    | nil =>
      have g3 : ¬ (0 : Int) < (([] : List Nat).length : Int) := by simp
      refine CG.tail mixed 17 [0, 1, 2, 3, 4, 5, 6, 7, 8, 9, 10, 11, 12, 13, 14, 15, 16] (by kernel_rfl) ?_
      repeat (first | refine cY rfl rfl rfl (by first|((first|apply qmv|apply qln|apply qgt)<;>(first|exact rfl|exact dcf (by first|assumption|omega)|fail))|fail) ?_ | refine Der.skip rfl rfl ?_)
      refine Der.tl (fun w5 hk5 _ _ => ?_)
      repeat (first | first|apply cD|apply cE|refine cV rfl rfl rfl rfl (by first|(apply qpk<;>(exact rfl))|fail) ?_ | refine cX rfl rfl ?_)
      refine dA rfl (by exact rho_of rfl) rfl ?_
      repeat (first|apply cB|apply cD|apply cE|apply cF|apply cU|refine cV rfl rfl rfl rfl (by first|((first|apply qmv|apply qad)<;>(first|exact rfl|exact Ar.mk (by omega)|fail))|fail) ?_)
      refine NG.round (k + 1, z) (by (repeat' (first | exact True.intro | exact rfl | refine And.intro ?_ ?_))) ⟨by simp only; omega, hk4.trans hk5, hin.skip hgk⟩ (by simp only; omega)
    | cons x tk =>
      have g3 : (0 : Int) < ((x :: tk).length : Int) := by simp only [List.length_cons]; omega
      obtain ⟨gk, ok, rfl, hr0⟩ := hSk.at (i := 0) (by simp)
      simp only [List.getElem_cons_zero] at hr0
      have hxm : x < ms.length := hst.lt x ((hst.mem x).2 ⟨_, List.mem_of_getElem? hgk, List.mem_cons_self⟩)
      have hcase : z = -1 ∨ ∃ (b a : Nat) (t : List Nat), z = (b : Int) ∧ (H.map (·.l))[b]? = some (a :: t) := by
        cases hin with
        | no h => exact Or.inl rfl
        | att b a t h1 h2 h3 => exact Or.inr ⟨b, a, t, rfl, h2⟩
      rcases hcase with rfl | ⟨b, aa, t, rfl, hgb⟩
      · have g4 : (-1 : Int) < 0 := by omega
        refine CG.tail mixed 17 [0, 1, 2, 3, 4, 5, 6, 7, 8, 9, 10, 11, 12, 13, 14, 15, 16] (by kernel_rfl) ?_
        repeat (first | refine cY rfl rfl rfl (by first|((first|apply qmv|apply qls|apply qln|apply qgt)<;>(first|exact rfl|exact dct (by first|assumption|omega)|fail))|fail) ?_ | refine Der.skip rfl rfl ?_)
        refine Der.tl (fun w5 hk5 _ _ => ?_)
        repeat (first | first|apply cD|apply cE|refine cV rfl rfl rfl rfl (by first|(apply qpk<;>(exact rfl))|fail) ?_ | refine cX rfl rfl ?_)
        refine cZ rfl (by exact rho_of rfl) rfl ?_
        repeat (first|apply cB|apply cD|apply cE|apply cU|refine cV rfl rfl rfl rfl (by first|((first|apply qmv|apply qas|apply qad)<;>(first|exact rfl|exact Ar.mk (by omega)|fail))|fail) ?_)
        refine NG.round (k + 1, (k : Int)) (by (repeat' (first | exact True.intro | exact rfl | refine And.intro ?_ ?_))) ⟨by simp only; omega, hk4.trans hk5, hin.first hgk⟩ (by simp only; omega)
      · have hbl : b < H.length := by
          have := (List.getElem?_eq_some_iff.1 hgb).1
          simpa using this
        have g4 : ¬ (b : Int) < 0 := by omega
        have g5 : (b : Int) < (H.length : Int) := by omega
        have hrb := hrow b hbl
        obtain ⟨hSb, -⟩ := hH _ (List.getElem_mem hbl)
        have hSb := hSb.kp0 k14
        have hgb' : H[b].l = aa :: t := by
          rw [List.getElem?_map, List.getElem?_eq_getElem hbl] at hgb
          simpa using hgb
        unfold hwv at hrb
        rcases hHb : H[b] with ⟨ab, cb, lb⟩
        rw [hHb] at hrb hgb' hSb
        simp only at hrb hgb' hSb
        subst hgb'
        obtain ⟨gb, ob, rfl, hs0⟩ := hSb.at (i := 0) (by simp)
        simp only [List.getElem_cons_zero] at hs0
        have ham : aa < ms.length := hst.lt aa ((hst.mem aa).2 ⟨_, List.mem_of_getElem? hgb, List.mem_cons_self⟩)
        have g6 : (0 : Int) < ((aa :: t).length : Int) := by simp only [List.length_cons]; omega
        refine CG.tail mixed 17 [0, 1, 2, 3, 4, 5, 6, 7, 8, 9, 10, 11, 12, 13, 14, 15, 16] (by kernel_rfl) ?_
        repeat (refine cY rfl rfl rfl (by first|((first|apply qmv|apply qlc|apply qic|apply qix|apply qls|apply qln|apply qgt)<;>(first|exact rfl|exact Ar.mk (by omega)|assumption|exact dct (by first|assumption|omega)|exact dcf (by first|assumption|omega)|exact List.not_mem_nil|fail))|fail) ?_)
        refine Der.tl (fun w5 hk5 _ _ => ?_)
        obtain ⟨rr, hrr, hret⟩ := ahead_spec (hP4.kp0 hk5) hxm ham
        skip
        refine SG.ret rfl rfl rfl (vs := [.pointer (some ⟨p, 0, none⟩), .int .i64 (x : Int), .int .i64 (aa : Int)]) (by repeat' (first | exact True.intro | exact rho_of rfl | refine And.intro ?_ ?_)) hret (fun w6 hk6 => ?_)
        have k46 := (hk4.trans hk5).trans hk6
        cases rr with
        | true =>
          repeat (first|apply cD|apply cE|refine cV rfl rfl rfl rfl (by first|(apply qpk<;>(exact rfl))|fail) ?_)
          refine cZ rfl (by exact rho_of rfl) rfl ?_
          repeat (first|apply cB|apply cD|apply cE|apply cU|refine cV rfl rfl rfl rfl (by first|((first|apply qmv|apply qas|apply qad)<;>(first|exact rfl|exact Ar.mk (by omega)|fail))|fail) ?_)
          refine NG.round (k + 1, (k : Int)) (by (repeat' (first | exact True.intro | exact rfl | refine And.intro ?_ ?_))) ⟨by simp only; omega, k46, hin.turn hgb hgk (hrr.1 rfl)⟩ (by simp only; omega)
        | false =>
          repeat (first|apply cD|apply cE|refine cV rfl rfl rfl rfl (by first|(apply qpk<;>(exact rfl))|fail) ?_)
          refine dA rfl (by exact rho_of rfl) rfl ?_
          repeat (first|apply cB|apply cD|apply cE|apply cF|apply cU|refine cV rfl rfl rfl rfl (by first|((first|apply qmv|apply qad)<;>(first|exact rfl|exact Ar.mk (by omega)|fail))|fail) ?_)
          refine NG.round (k + 1, (b : Int)) (by (repeat' (first | exact True.intro | exact rfl | refine And.intro ?_ ?_))) ⟨by simp only; omega, k46, hin.keep hgb hgk (fun h => by have := hrr.2 h; cases this)⟩ (by simp only; omega)
  · have hke : k = (H.map (·.l)).length := by rw [List.length_map]; omega
    have g2 : ¬ (k : Int) < (H.length : Int) := by omega
    have hin' := hin
    rw [hke] at hin'
    obtain ⟨b, aa, t, rfl, hgb, hbest⟩ := hin'.get hful
    have hbl : b < H.length := by
      have := (List.getElem?_eq_some_iff.1 hgb).1
      simpa using this
    obtain ⟨R', hst', hR'⟩ := hst.step hgb hbest
    have g5 : (b : Int) < (H.length : Int) := by omega
    have hrb := hrow b hbl
    obtain ⟨hSb, hcb⟩ := hH _ (List.getElem_mem hbl)
    have hgb' : H[b].l = aa :: t := by
      rw [List.getElem?_map, List.getElem?_eq_getElem hbl] at hgb
      simpa using hgb
    unfold hwv at hrb
    rcases hHb : H[b] with ⟨ab, cb, lb⟩
    rw [hHb] at hrb hgb' hSb hcb
    simp only at hrb hgb' hSb hcb
    subst hgb'
    have hSb4 := hSb.kp0 k14
    obtain ⟨gb, ob, rfl, hs0⟩ := hSb4.at (i := 0) (by simp)
    simp only [List.getElem_cons_zero] at hs0
    have g6 : (0 : Int) < ((aa :: t).length : Int) := by simp only [List.length_cons]; omega
    have hol : out.length ≤ 1024 := by have := hst.len; omega
    have hoo4 := own_kp0 hoo3 hk4
    repeat (first|apply cA|apply cB|apply cD|apply cE|refine cV rfl rfl rfl rfl (by first|(apply qls<;>(first|exact rfl|exact dcf (by first|assumption|omega)|fail))|fail) ?_)
    refine dA rfl (by exact rho_of rfl) rfl ?_
    repeat (first|apply cA|apply cB|apply cE|apply cJ|apply cM|refine cQ rfl ?_|refine cV rfl rfl rfl rfl (by first|((first|apply qmv|apply qlc|apply qic|apply qix)<;>(first|exact rfl|exact Ar.mk (by omega)|assumption|exact List.not_mem_nil|fail))|fail) ?_)
    refine SG.buildSlice rfl rfl rfl rfl (bsi (aa : Int)) (fun b6 w5 hk5 hb6 hB6 => ?_)
    have hS6 : Sl nI 1 w5 (some ⟨b6, 0, none⟩) [aa] := Sl.of_blk (pre := []) (post := []) nI_len (l := [aa]) (T := 3) hB6
    clear hrb hs0
    skip
    refine SG.appO (enc := nI) (xs := out) (ys := [aa]) (base := w1.heap.size) rfl rfl rfl (by exact rho_of rfl) (by exact rho_of rfl) rfl rfl rfl rfl nI_len nI_one (own_kp0 hoo4 hk5) hS6 (by simp only [maxLen, List.length_cons, List.length_nil]; omega) (by simp only [List.length_cons, List.length_nil]; show (_ + _) * 8 ≤ _; omega) (by have := (k14.trans hk5).size; omega) (fun v' w6 hk6 ho6 hv6 => ?_)
    have hdis : ∀ g, (Value.slice (some ⟨gh, 0, none⟩) H.length caph).ownBlock = some g → g ∉ ownB (.slice ao out.length co) := fun g hg hm => by
      obtain ⟨cs, T, hT, hB⟩ : ∃ cs T, T = 113 ∧ Blk w4 g (.cells cs T) := by
        rcases ho4.2 with ⟨e, _⟩ | ⟨g', cap, cur, e, _, hg', _⟩
        · cases e
        · cases e
          cases hg
          exact ⟨_, _, rfl, blk_of hg'⟩
      subst hT
      exact own_neb hoo4 (by decide) hB g (ownB_mem hm) List.mem_cons_self
    have ho5 := own_kp0 ho4 hk5
    have ho6h := own_kpB ho5 hk6 hdis
    have k16 : Kp [] w1 w6 := (k14.trans hk5).trans_new hk6 (own_new hoo4 (Nat.le_refl _))
    have hrb6 : Row w6 gh (0 + b * 1) (hwc H[b]) := own_at hwc_len ho6h rfl hbl
    rw [hHb] at hrb6
    unfold hwc hwv at hrb6
    simp only at hrb6
    repeat (first|apply cB|apply cD|apply cE|refine cV rfl rfl rfl rfl (by first|((first|apply qmv|apply qas|apply qlc|apply qix)<;>(first|exact rfl|exact Ar.mk (by omega)|assumption|exact List.not_mem_nil|fail))|fail) ?_)
    refine cV rfl rfl rfl rfl (qfr (j := 1) rfl rfl rfl (Ar.mk (by simp only [List.length_cons]; omega))) ?_
    repeat (first|refine cV rfl rfl rfl rfl (by first|(apply qix<;>(first|exact rfl|exact Ar.mk (by omega)|fail))|fail) ?_)
    obtain ⟨y, hy⟩ : ∃ y : Hw, y = ⟨some ⟨gb, if cb = 1 then ob else ob + 1 * 1, none⟩, cb - 1, t⟩ := ⟨_, rfl⟩
    refine SG.storeV (k := b) (y := y) (vy := .slice (some ⟨gb, if cb = 1 then ob else ob + 1 * 1, none⟩) t.length (cb - 1)) hwc_len hwc_one rfl rfl (by exact rho_of rfl) rfl (by exact rho_of rfl) (by rw [hy]; rfl) ho6h rfl hbl (fun w7 hk7 ho7 => ?_)
    repeat (first|apply cD|apply cU)
    refine NG.round ((.slice (some ⟨gh, 0, none⟩) H.length caph, H.set b y), (v', out ++ [aa]), R') (by (repeat' (first | exact True.intro | exact rfl | refine And.intro ?_ ?_))) ⟨k16.trans_new hk7 (fun z hz => ?_), ?_, ?_, ?_, fun h hh => ?_, ?_⟩ (by simp only; omega)
    · rw [List.mem_singleton] at hz
      subst hz
      exact Or.inr (own_geB ho4 _ rfl)
    · simp only
      rw [List.map_set, hy]
      exact hst'
    · simp only
      rw [List.length_set]
      exact ho7
    · simp only
      refine own_kpB ho6 hk7 (fun g hg hm => ?_)
      rw [List.mem_singleton] at hm
      subst hm
      obtain ⟨cs, T, hT, hB⟩ : ∃ cs T, T = 113 ∧ Blk w6 g (.cells cs T) := by
        rcases ho6h.2 with ⟨e, _⟩ | ⟨g', cap, cur, e, _, hg', _⟩
        · cases e
        · cases e
          exact ⟨_, _, rfl, blk_of hg'⟩
      subst hT
      exact own_neb ho6 (by decide) hB g hg List.mem_cons_self
    · simp only at hh
      rcases List.mem_or_eq_of_mem_set hh with hh | rfl
      · exact hH h hh
      · rw [hy]
        refine ⟨drop_sl hSb hcb, ?_⟩
        simp only [List.length_cons] at hcb ⊢
        omega
    · simp only [List.length_set]
      exact hHl
end Go.Proofs.YtgbgnlboogalgaaGreat
namespace Go.Proofs.YtgbgnlboogalgaaGreat
set_option linter.unusedVariables false
def noE : En := ⟨⟨zd, 0, 0, 0, [], []⟩, 0⟩
def enA (l : List En) (j : Nat) : En := (l[j]?).getD noE
theorem enA_at {l : List En} {j : Nat} (h : j < l.length) : enA l j = l[j] := by unfold enA; rw [List.getElem?_eq_getElem h]; rfl
noncomputable def ordE (l : List En) : List En := ordL En.key En.non En.fee l
theorem range_enA (l : List En) : (List.range l.length).map (enA l) = l := by
  apply List.ext_getElem?
  intro i
  rw [List.getElem?_map]
  by_cases h : i < l.length
  · rw [List.getElem?_eq_getElem (by simpa using h), List.getElem_range, List.getElem?_eq_getElem h, Option.map_some, enA_at h]
  · rw [List.getElem?_eq_none (by simpa using h), List.getElem?_eq_none (by omega)]
    rfl
theorem pK_enA (ms : List Em) : pK ms = fun j => En.key (enA (ms.map Em.en) j) := by
  funext j
  unfold pK enA
  rw [List.getElem?_map]
  cases ms[j]? <;> rfl
theorem pN_enA (ms : List Em) : pN ms = fun j => En.non (enA (ms.map Em.en) j) := by
  funext j
  unfold pN enA
  rw [List.getElem?_map]
  cases ms[j]? <;> rfl
theorem pF_enA (ms : List Em) : pF ms = fun j => En.fee (enA (ms.map Em.en) j) := by
  funext j
  unfold pF enA
  rw [List.getElem?_map]
  cases ms[j]? <;> rfl
theorem ordP_map (ms : List Em) : (ordP ms).map (enA (ms.map Em.en)) = ordE (ms.map Em.en) := by
  have h : Ord (pK ms) (pN ms) (pF ms) (List.range ms.length) (ordP ms) := ordL_spec _
  rw [pK_enA, pN_enA, pF_enA] at h
  have h2 := Ord.map (key := En.key) (non := En.non) (fee := En.fee) (enA (ms.map Em.en)) h
  have e : (List.range ms.length).map (enA (ms.map Em.en)) = ms.map Em.en := by
    have := range_enA (ms.map Em.en)
    rwa [List.length_map] at this
  rw [e] at h2
  exact h2.eq.symm
theorem ordP_perm (ms : List Em) : (ordP ms).Perm (List.range ms.length) := ordL_perm _
theorem ordP_lt {ms : List Em} {j : Nat} (h : j ∈ ordP ms) : j < ms.length := List.mem_range.1 ((ordP_perm ms).mem_iff.1 h)
theorem ordP_length (ms : List Em) : (ordP ms).length = ms.length := by rw [(ordP_perm ms).length_eq, List.length_range]
theorem ordE_length (l : List En) : (ordE l).length = l.length := ordL_length l
def pickL (g : List Nat → Nat → Bool) : List Nat → List Nat → List Nat
  | _, [] => []
  | pre, j :: r => if g pre j then j :: pickL g (pre ++ [j]) r else pickL g (pre ++ [j]) r
theorem pickL_append (g : List Nat → Nat → Bool) : ∀ (pre a b : List Nat), pickL g pre (a ++ b) = pickL g pre a ++ pickL g (pre ++ a) b
  | pre, [], b => by simp [pickL]
  | pre, j :: a, b => by
    simp only [List.cons_append, pickL]
    rw [pickL_append g (pre ++ [j]) a b]
    have e : pre ++ [j] ++ a = pre ++ j :: a := by simp
    rw [e]
    split <;> simp
theorem pickL_one (g : List Nat → Nat → Bool) (pre : List Nat) (j : Nat) : pickL g pre [j] = if g pre j then [j] else [] := by
  simp only [pickL]
theorem pickL_filter (q : Nat → Bool) : ∀ (pre l : List Nat), pickL (fun _ j => q j) pre l = l.filter q
  | pre, [] => rfl
  | pre, j :: l => by
    simp only [pickL]
    rw [pickL_filter q]
    by_cases h : q j = true
    · rw [if_pos h, List.filter_cons_of_pos h]
    · rw [if_neg h, List.filter_cons_of_neg h]
theorem pickL_le (g : List Nat → Nat → Bool) : ∀ (pre l : List Nat), (pickL g pre l).length ≤ l.length
  | pre, [] => Nat.le_refl _
  | pre, j :: l => by
    have := pickL_le g (pre ++ [j]) l
    simp only [pickL]
    split <;> simp only [List.length_cons] <;> omega
theorem map_filter {ms : List Em} (q : En → Bool) : ((ordP ms).filter (fun j => q (enA (ms.map Em.en) j))).map (enA (ms.map Em.en)) = (ordE (ms.map Em.en)).filter q := by
  rw [← ordP_map, List.filter_map]
  rfl
section
variable {κ : Type} [DecidableEq κ]
def MaxM (m : List (κ × Int)) (L : List (κ × Int)) : Prop := ∀ k z, (∃ n, alook m k = some n ∧ z ≤ n) ↔ ∃ p ∈ L, p.1 = k ∧ z ≤ p.2
def MinM (m : List (κ × Int)) (L : List (κ × Int)) : Prop := ∀ k z, (∃ n, alook m k = some n ∧ n ≤ z) ↔ ∃ p ∈ L, p.1 = k ∧ p.2 ≤ z
theorem MaxM.nil : MaxM ([] : List (κ × Int)) [] := fun k z => by
  constructor
  · rintro ⟨n, h, _⟩; cases h
  · rintro ⟨p, h, _⟩; cases h
theorem MaxM.keep {m L : List (κ × Int)} {k : κ} {z n : Int} (h : MaxM m L) (hk : alook m k = some n) (hn : ¬ n < z) : MaxM m (L ++ [(k, z)]) := fun k' z' => by
  rw [h k' z']
  constructor
  · rintro ⟨p, h1, h2⟩; exact ⟨p, List.mem_append_left _ h1, h2⟩
  · rintro ⟨p, h1, h2, h3⟩
    rcases List.mem_append.1 h1 with h1 | h1
    · exact ⟨p, h1, h2, h3⟩
    · rw [List.mem_singleton] at h1
      subst h1
      simp only at h2 h3
      subst h2
      exact (h k z').1 ⟨n, hk, by omega⟩
theorem MaxM.put {m L : List (κ × Int)} {k : κ} {z : Int} (h : MaxM m L) (hn : ∀ n, alook m k = some n → n < z) : MaxM (aput m k z) (L ++ [(k, z)]) := fun k' z' => by
  rw [alook_put]
  by_cases e : k = k'
  · subst e
    rw [if_pos rfl]
    constructor
    · rintro ⟨n, h1, h2⟩
      cases h1
      exact ⟨(k, z), by simp, rfl, h2⟩
    · rintro ⟨p, h1, h2, h3⟩
      rcases List.mem_append.1 h1 with h1 | h1
      · obtain ⟨n, g1, g2⟩ := (h k z').2 ⟨p, h1, h2, h3⟩
        have := hn n g1
        exact ⟨z, rfl, by omega⟩
      · rw [List.mem_singleton] at h1
        subst h1
        exact ⟨z, rfl, h3⟩
  · rw [if_neg e, h k' z']
    constructor
    · rintro ⟨p, h1, h2⟩; exact ⟨p, List.mem_append_left _ h1, h2⟩
    · rintro ⟨p, h1, h2, h3⟩
      rcases List.mem_append.1 h1 with h1 | h1
      · exact ⟨p, h1, h2, h3⟩
      · rw [List.mem_singleton] at h1
        subst h1
        exact absurd h2 e
end
def hasN (d : Dg) (e : En) : Bool := decide (nameT e.t = d)
noncomputable def findE (l : List En) (d : Dg) : Option En := (ordE l).find? (hasN d)
def nmP (ms : List Em) (d : Dg) (j : Nat) : Bool := hasN d (enA (ms.map Em.en) j)
/-- The place of the first one of a name in the order. -/
noncomputable def namedZ (ms : List Em) (d : Dg) : Int := ((ordP ms).find? (nmP ms d)).elim (-1) (fun j => (j : Int))
theorem nmP_at {ms : List Em} {d : Dg} {j : Nat} (h : j < ms.length) : nmP ms d j = decide (nameT ms[j].x.t = d) := by
  unfold nmP hasN
  rw [enA_at (by simpa using h), List.getElem_map]
  rfl
theorem named_none {ms : List Em} {d : Dg} (h : ∀ j (hj : j < ms.length), nameT ms[j].x.t ≠ d) : namedZ ms d = -1 := by
  unfold namedZ
  have : (ordP ms).find? (nmP ms d) = none := List.find?_eq_none.2 (fun j hj => by
    have hl := ordP_lt hj
    rw [nmP_at hl]
    simpa using h j hl)
  rw [this]
  rfl
theorem named_one {ms : List Em} {d : Dg} {i : Nat} (hi : i < ms.length) (h : nameT ms[i].x.t = d) (h1 : ∀ j (hj : j < ms.length), nameT ms[j].x.t = d → j = i) : namedZ ms d = (i : Int) := by
  unfold namedZ
  cases hf : (ordP ms).find? (nmP ms d) with
  | none =>
    have := List.find?_eq_none.1 hf i ((ordP_perm ms).mem_iff.2 (List.mem_range.2 hi))
    rw [nmP_at hi] at this
    simp [h] at this
  | some j =>
    have hj := ordP_lt (List.mem_of_find?_eq_some hf)
    have h2 := List.find?_some hf
    rw [nmP_at hj] at h2
    have := h1 j hj (of_decide_eq_true h2)
    subst this
    rfl
theorem named_pre {ms : List Em} {d : Dg} {pre post : List Nat} {j : Nat} (h : ordP ms = pre ++ j :: post) (h1 : ∀ i ∈ pre, nmP ms d i = false) (h2 : nmP ms d j = true) : namedZ ms d = (j : Int) := by
  unfold namedZ
  have : (ordP ms).find? (nmP ms d) = some j := by
    rw [h, List.find?_append]
    have : pre.find? (nmP ms d) = none := List.find?_eq_none.2 (fun i hi => by rw [h1 i hi]; decide)
    rw [this]
    simp [List.find?_cons, h2]
  rw [this]
  rfl
theorem named_no {ms : List Em} {d : Dg} (h1 : ∀ i ∈ ordP ms, nmP ms d i = false) : namedZ ms d = -1 := by
  unfold namedZ
  have : (ordP ms).find? (nmP ms d) = none := List.find?_eq_none.2 (fun i hi => by rw [h1 i hi]; decide)
  rw [this]
  rfl
theorem find_named {ms : List Em} {d : Dg} : findE (ms.map Em.en) d = ((ordP ms).find? (nmP ms d)).map (enA (ms.map Em.en)) := by
  unfold findE
  rw [← ordP_map, List.find?_map]
  rfl
theorem named_cases (ms : List Em) (d : Dg) : (namedZ ms d = -1 ∧ findE (ms.map Em.en) d = none) ∨ ∃ (j : Nat) (h : j < ms.length), namedZ ms d = (j : Int) ∧ findE (ms.map Em.en) d = some ms[j].en := by
  rw [find_named]
  unfold namedZ
  cases hf : (ordP ms).find? (nmP ms d) with
  | none => exact Or.inl ⟨rfl, rfl⟩
  | some j =>
    have hj := ordP_lt (List.mem_of_find?_eq_some hf)
    refine Or.inr ⟨j, hj, rfl, ?_⟩
    rw [Option.map_some, enA_at (by simpa using hj), List.getElem_map]
end Go.Proofs.YtgbgnlboogalgaaGreat
namespace Go.Proofs.YtgbgnlboogalgaaGreat
open Go.Proofs
set_option linter.unusedVariables false
def isN (d : Dg) (e : Em) : Bool := decide (nameT e.x.t = d)
theorem isN_nm {ms : List Em} {d : Dg} {j : Nat} (h : j < ms.length) : nmP ms d j = isN d ms[j] := nmP_at h
/-- One has gone. -/
noncomputable def dropN (l : List En) (d : Dg) : List En := match findE l d with
  | some e => l.eraseIdx (likeN l e.key e.non)
  | none => l
theorem like_at {l : List En} (hd : Dst En.key En.non l) {i : Nat} (hi : i < l.length) : likeN l l[i].key l[i].non = i := by
  unfold likeN
  rw [List.findIdx_eq hi]
  refine ⟨isK_iff.2 ⟨rfl, rfl⟩, fun j hj => ?_⟩
  have h := List.pairwise_iff_getElem.1 hd j i (by omega) hi hj
  cases hh : isK l[i].key l[i].non l[j] with
  | false => rfl
  | true => exact absurd (isK_iff.1 hh) h
theorem dropN_inv {room : Int} {l : List En} {d : Dg} (h : PInv room l) : PInv room (dropN l d) := by
  unfold dropN
  cases findE l d with
  | none => exact h
  | some e =>
    have hm : ∀ x ∈ l.eraseIdx (likeN l e.key e.non), x ∈ l := fun x hx => List.mem_of_mem_eraseIdx hx
    refine ⟨List.Pairwise.sublist (List.eraseIdx_sublist _ _) h.dst, ?_, fun x hx => h.ok x (hm x hx), fun x hx => h.sc x (hm x hx)⟩
    have := h.len
    have := (List.eraseIdx_sublist l (likeN l e.key e.non)).length_le
    simp only
    omega
attribute [local irreducible] CG NG SG Vals Der Row Blk MapIs IterAt nameT wrongT
set_option maxHeartbeats 16000000 in
theorem isn_spec {w : World} {b3 : Nat} {d : Dg} (e : Em) (h3 : Row w b3 0 (dc d)) : Ret Tryz.prog 81 #[ev e, .pointer (some ⟨b3, 0, none⟩)] w (.bool (isN d e)) := by
  refine enterL (args := [ev e, .pointer (some ⟨b3, 0, none⟩)]) Tryz.func81 rfl Tryz.ntmps81 rfl ?_
  repeat (first|apply cA|apply cB)
  refine SG.box rfl rfl rfl (by exact rho_of rfl) (fun b1 w1 hk1 hb1 hB1 => ?_)
  have hB1 : Blk w1 b1 (.cells (ec e).toArray 74) := hB1
  obtain ⟨-, -, -, -, q, -⟩ := ec_rows (Row.all hB1 rfl)
  simp only [Nat.zero_add] at q
  have h3 := h3.kp0 hk1
  by_cases g0 : nameT e.x.t = d
  case neg =>
    have e1 : isN d e = false := decide_eq_false g0
    rw [e1]
    repeat (first|apply cA|apply cB|apply cD|apply cE|apply cH|refine cV rfl rfl rfl rfl (by first|((first|apply qas|apply qla|apply qfa|apply qed)<;>(first|exact rfl|assumption|exact dcf (by first|assumption|omega)|exact List.not_mem_nil|apply dc_length|fail))|fail) ?_)
    refine ret1 (Or.inl rfl) Tryz.results81 (by first | exact ResV.tmp rfl | exact ResV.agg rfl rfl (by assumption) (by first | exact dc_length _ | exact nc_length _ | exact rc_length _ _ _ | exact ec_length _ | exact dl_length _ _ _ _ | rfl) | exact ResV.cell rfl rfl (by assumption)) ?_
    exact ⟨rfl, hk1⟩
  have e1 : isN d e = true := decide_eq_true g0
  rw [e1]
  repeat (first|apply cA|apply cB|apply cD|apply cE|apply cH|refine cV rfl rfl rfl rfl (by first|((first|apply qas|apply qla|apply qfa|apply qed)<;>(first|exact rfl|assumption|exact dct (by first|assumption|omega)|exact List.not_mem_nil|apply dc_length|fail))|fail) ?_)
  refine ret1 (Or.inl rfl) Tryz.results81 (by first | exact ResV.tmp rfl | exact ResV.agg rfl rfl (by assumption) (by first | exact dc_length _ | exact nc_length _ | exact rc_length _ _ _ | exact ec_length _ | exact dl_length _ _ _ _ | rfl) | exact ResV.cell rfl rfl (by assumption)) ?_
  exact ⟨rfl, hk1⟩
set_option maxHeartbeats 16000000 in
theorem named_spec {w : World} {base p : Nat} {v : Value} {room : Int} {ms : List Em} (hP : Pl w base p v room ms) (hI : PInv room (ms.map Em.en)) (hr : room ≤ 1024) (d : Dg) : Ret Tryz.prog 62 #[.pointer (some ⟨p, 0, none⟩), dv d] w (.int .i64 (namedZ ms d)) := by
  refine enter2 Tryz.func62 rfl Tryz.ntmps62 rfl ?_
  have hll : ms.length ≤ 1024 := by have := hI.len; rw [List.length_map] at this; omega
  repeat (first|apply cA|apply cB)
  refine SG.box rfl rfl rfl (by exact rho_of rfl) (fun b3 w1 hk1 hb3 hB3 => ?_)
  have hB3 : Blk w1 b3 (.cells (dc d).toArray 38) := hB3
  have r3 : Row w1 b3 0 (dc d) := Row.all hB3 rfl
  have hP1 := hP.kp0 hk1
  obtain ⟨a, c, rfl, hc, hS⟩ := hP1.sl
  obtain ⟨-, q1⟩ := hP1.rows
  clear hB3
  repeat (first|apply cA|apply cB|apply cD|apply cE|refine cV rfl rfl rfl rfl (by first|(apply qas<;>(exact rfl))|fail) ?_)
  refine cV rfl rfl rfl rfl (qmf (vs := [.pointer (some ⟨b3, 0, none⟩)]) rfl) ?_
  repeat (first|apply cA|apply cB|apply cD|apply cE|refine cV rfl rfl rfl rfl (by first|((first|apply qmv|apply qas|apply qlc|apply qfa|apply qnc)<;>(first|exact rfl|assumption|exact List.not_mem_nil))|fail) ?_)
  refine SG.ret rfl rfl rfl (vs := [.slice a ms.length c, fnv 81 [.pointer (some ⟨b3, 0, none⟩)]]) (by repeat' (first | exact True.intro | exact rho_of rfl | refine And.intro ?_ ?_)) (idxf_spec (f := 81) (Fn := by infer_instance) (caps := [.pointer (some ⟨b3, 0, none⟩)]) (p := isN d) (c := c) hS (by omega) (fun o ho W hk => isn_spec o (r3.kp0 hk))) (fun w2 hk2 => ?_)
  have k2 := hk1.trans hk2
  by_cases hf : ms.findIdx (isN d) < ms.length
  rotate_left
  · rw [idxZ_no hf]
    have g1 : (-1 : Int) < 0 := by decide
    have hno : namedZ ms d = -1 := named_none (fun j hj hh => hf (List.findIdx_lt_length_of_exists ⟨ms[j], List.getElem_mem hj, decide_eq_true hh⟩))
    rw [hno]
    repeat (first | first|apply cA|apply cB|apply cD|apply cE|refine cV rfl rfl rfl rfl (by first|((first|apply qmv|apply qas|apply qpk|apply qls)<;>(first|exact rfl|exact dct (by first|assumption|omega)|fail))|fail) ?_ | refine cX rfl rfl ?_)
    refine cZ rfl (by exact rho_of rfl) rfl ?_
    repeat (first|apply cA|apply cB|apply cD|apply cE|apply cH|apply cK|refine cV rfl rfl rfl rfl (by first|((first|apply qmv|apply qas)<;>(exact rfl))|fail) ?_)
    refine ret1 (Or.inl rfl) Tryz.results62 (by first | exact ResV.tmp rfl | exact ResV.agg rfl rfl (by assumption) (by first | exact dc_length _ | exact nc_length _ | exact rc_length _ _ _ | exact ec_length _ | exact dl_length _ _ _ _ | rfl) | exact ResV.cell rfl rfl (by assumption)) ?_
    exact ⟨rfl, k2⟩
  rw [idxZ_lt hf]
  have hfi : isN d ms[ms.findIdx (isN d)] = true := List.findIdx_getElem (w := hf)
  have hpre : ∀ j (hj : j < ms.length), j < ms.findIdx (isN d) → isN d ms[j] = false := fun j hj h => by
    have := List.not_of_lt_findIdx h
    simpa using this
  generalize ms.findIdx (isN d) = i at hf hfi hpre
  have g1 : ¬ (i : Int) < 0 := by omega
  have e1 : (i : Int) + 1 = ((i + 1 : Nat) : Int) := by omega
  obtain ⟨b1, o1, rfl, hri⟩ := hS.at hf
  have q1 := q1.kp0 hk2
  have hS2 := hS.kp0 hk2
  have hD : Sl ec 22 w2 (some ⟨b1, if c = i + 1 then o1 else o1 + (i + 1) * 22, none⟩) (ms.drop (i + 1)) := sl_drop hS2 hc
  have hdl : (ms.drop (i + 1)).length = ms.length - (i + 1) := List.length_drop
  repeat (first|apply cA|apply cB|apply cD|apply cE|refine cV rfl rfl rfl rfl (by first|((first|apply qmv|apply qas|apply qlc|apply qfa|apply qnc|apply qls|apply qad)<;>(first|exact rfl|exact Ar.mk (by omega)|assumption|exact dcf (by first|assumption|omega)|exact List.not_mem_nil|fail))|fail) ?_)
  rw [e1]
  repeat (first|refine cV rfl rfl rfl rfl (by first|((first|apply qmv|apply qfr)<;>(first|exact rfl|exact Ar.mk (by omega)|fail))|fail) ?_)
  rw [← hdl]
  refine SG.ret rfl rfl rfl (vs := [.slice (some ⟨b1, if c = i + 1 then o1 else o1 + (i + 1) * 22, none⟩) (ms.drop (i + 1)).length (c - (i + 1)), fnv 81 [.pointer (some ⟨b3, 0, none⟩)]]) (by repeat' (first | exact True.intro | exact rho_of rfl | refine And.intro ?_ ?_)) (contf_spec (f := 81) (Fn := by infer_instance) (caps := [.pointer (some ⟨b3, 0, none⟩)]) (p := isN d) (c := c - (i + 1)) hD (by omega) (fun o ho W hk => isn_spec o ((r3.kp0 hk2).kp0 hk))) (fun w3 hk3 => ?_)
  have k3 := k2.trans hk3
  cases hany : (ms.drop (i + 1)).any (isN d) with
  | false =>
    have hno : namedZ ms d = (i : Int) := named_one hf (of_decide_eq_true hfi) (fun j hj hh => by
      have h1 : ¬ j < i := fun h => by
        have := hpre j hj h
        rw [show isN d ms[j] = true from decide_eq_true hh] at this
        cases this
      have h2 : ¬ i < j := fun h => by
        have h3 := List.any_eq_false.1 hany ms[j] (List.mem_drop_iff_getElem.2 ⟨j - (i + 1), by omega, by congr 1; omega⟩)
        exact h3 (decide_eq_true hh)
      omega)
    rw [hno]
    repeat (first|apply cD|apply cE|refine cV rfl rfl rfl rfl (by first|((first|apply qpk|apply qnt)<;>(exact rfl))|fail) ?_)
    refine cZ rfl (by exact rho_of rfl) rfl ?_
    repeat (first|apply cA|apply cB|apply cD|apply cE|apply cH|apply cK|refine cV rfl rfl rfl rfl (by first|((first|apply qmv|apply qas)<;>(exact rfl))|fail) ?_)
    refine ret1 (Or.inl rfl) Tryz.results62 (by first | exact ResV.tmp rfl | exact ResV.agg rfl rfl (by assumption) (by first | exact dc_length _ | exact nc_length _ | exact rc_length _ _ _ | exact ec_length _ | exact dl_length _ _ _ _ | rfl) | exact ResV.cell rfl rfl (by assumption)) ?_
    exact ⟨rfl, k3⟩
  | true =>
    clear q1 hri
    repeat (first|apply cD|apply cE|refine cV rfl rfl rfl rfl (by first|((first|apply qpk|apply qnt)<;>(exact rfl))|fail) ?_)
    refine dA rfl (by exact rho_of rfl) rfl ?_
    repeat (first|apply cA|apply cB|apply cE|apply cF|refine cV rfl rfl rfl rfl (by first|(apply qmv<;>(exact rfl))|fail) ?_)
    refine SG.call rfl rfl rfl (vs := [.pointer (some ⟨p, 0, none⟩)]) (by repeat' (first | exact True.intro | exact rho_of rfl | refine And.intro ?_ ?_)) ((order_spec (hP.kp0 k3) hI hr).mono (fun e w4 hh => ?_))
    obtain ⟨vo, he, ho4, hk4⟩ := hh
    refine ⟨_, he, ?_⟩
    clear he
    have k4 := k3.trans hk4
    obtain ⟨ao, co, rfl, -, hSo⟩ := Sl.own nI_len ho4 rfl
    have hol := ordP_length ms
    repeat (first|apply cD|apply cE|apply cG|refine cV rfl rfl rfl rfl (by first|((first|apply qmv|apply qln)<;>(exact rfl))|fail) ?_)
    refine CG.loop (X := Nat) (fun i => [(0, .pointer (some ⟨p, 0, none⟩)), (5, fnv 81 [.pointer (some ⟨b3, 0, none⟩)]), (32, .slice ao (ordP ms).length co), (33, .int .i64 ((ordP ms).length : Int)), (34, .int .i64 (i : Int))])
      (fun i w' => i ≤ (ordP ms).length ∧ Kp [] w4 w' ∧ ∀ j (hj : j < (ordP ms).length), j < i → nmP ms d (ordP ms)[j] = false) (fun i => (ordP ms).length - i) 0 ⟨Nat.zero_le _, Kp.refl _ _, fun j _ h => absurd h (Nat.not_lt_zero j)⟩ (by (repeat' (first | exact True.intro | exact rfl | refine And.intro ?_ ?_))) ?_
    rintro k w5 ⟨hk, hk5, hno⟩
    refine CG.to [(0, .pointer (some ⟨p, 0, none⟩)), (5, fnv 81 [.pointer (some ⟨b3, 0, none⟩)]), (32, .slice ao (ordP ms).length co), (33, .int .i64 ((ordP ms).length : Int)), (34, .int .i64 (k : Int))] (by (repeat' (first | exact True.intro | exact rfl | refine And.intro ?_ ?_))) ?_
    have k5 := k4.trans hk5
    by_cases hlt : k < (ordP ms).length
    rotate_left
    · have g2 : ¬ (k : Int) < ((ordP ms).length : Int) := by omega
      have hz : namedZ ms d = -1 := named_no (fun j hj => by
        obtain ⟨n, hn, rfl⟩ := List.getElem_of_mem hj
        exact hno n hn (by omega))
      rw [hz]
      repeat (first|apply cA|apply cB|apply cD|apply cE|refine cV rfl rfl rfl rfl (by first|(apply qls<;>(first|exact rfl|exact dcf (by first|assumption|omega)|fail))|fail) ?_)
      refine dA rfl (by exact rho_of rfl) rfl ?_
      repeat (first|apply cA|apply cB|apply cD|apply cE|apply cH|apply cJ|apply cM|refine cQ rfl ?_|refine cV rfl rfl rfl rfl (by first|(apply qas<;>(exact rfl))|fail) ?_)
      refine ret1 (Or.inl rfl) Tryz.results62 (by first | exact ResV.tmp rfl | exact ResV.agg rfl rfl (by assumption) (by first | exact dc_length _ | exact nc_length _ | exact rc_length _ _ _ | exact ec_length _ | exact dl_length _ _ _ _ | rfl) | exact ResV.cell rfl rfl (by assumption)) ?_
      exact ⟨rfl, k5⟩
    have g2 : (k : Int) < ((ordP ms).length : Int) := by omega
    obtain ⟨bo, oo, rfl, hro⟩ := (hSo.kp0 hk5).at hlt
    have hjm : (ordP ms)[k] < ms.length := ordP_lt (List.getElem_mem hlt)
    have hnm := isN_nm (d := d) hjm
    have hordk : ordP ms = (ordP ms).take k ++ (ordP ms)[k] :: (ordP ms).drop (k + 1) := by
      rw [← List.drop_eq_getElem_cons hlt, List.take_append_drop]
    have hnok := hno
    have hz : nmP ms d (ordP ms)[k] = true → namedZ ms d = ((ordP ms)[k] : Int) := fun h => named_pre hordk (fun i hi => by
      obtain ⟨n, hn, rfl⟩ := List.getElem_of_mem hi
      rw [List.getElem_take]
      rw [List.length_take] at hn
      exact hnok n (by omega) (by omega)) h
    have hno' : nmP ms d (ordP ms)[k] = false → ∀ j (hj : j < (ordP ms).length), j < k + 1 → nmP ms d (ordP ms)[j] = false := fun h j hj hlt => by
      by_cases e : j = k
      · subst e; exact h
      · exact hno j hj (by omega)
    clear hordk hnok hno
    generalize (ordP ms)[k] = jj at hro hjm hnm hz hno'
    have g3 : (jj : Int) < (ms.length : Int) := by omega
    have g4 : (0 : Int) ≤ (jj : Int) := by omega
    have hP5 := (hP.kp0 k5).sl
    obtain ⟨a5, c5, e5, -, hS5⟩ := hP5
    cases e5
    obtain ⟨-, q5⟩ := (hP.kp0 k5).rows
    have hrj : Row w5 b1 (o1 + jj * 22) (ec ms[jj]) := hS5.row (List.getElem?_eq_getElem hjm)
    repeat (first|apply cA|apply cB|apply cD|apply cE|refine cV rfl rfl rfl rfl (by first|(apply qls<;>(first|exact rfl|exact dct (by first|assumption|omega)|fail))|fail) ?_)
    refine cZ rfl (by exact rho_of rfl) rfl ?_
    repeat (first|apply cA|apply cB|apply cD|apply cE|apply cF|apply cG|refine cV rfl rfl rfl rfl (by first|((first|apply qmv|apply qas|apply qlc|apply qla|apply qfa|apply qnc|apply qix)<;>(first|exact rfl|exact Ar.mk (by omega)|assumption|exact List.not_mem_nil|apply ec_length|fail))|fail) ?_)
    refine SG.retVC (Fn := by infer_instance) (f := 81) (vs := [ev ms[jj]]) (caps := [.pointer (some ⟨b3, 0, none⟩)]) rfl rfl rfl (by exact rho_of rfl) (by repeat' (first | exact True.intro | exact rho_of rfl | refine And.intro ?_ ?_)) (isn_spec ms[jj] ((((r3.kp0 hk2).kp0 hk3).kp0 hk4).kp0 hk5)) (fun w6 hk6 => ?_)
    rw [← hnm]
    cases hb : nmP ms d jj with
    | true =>
      rw [hz hb]
      repeat (first|apply cD|apply cE)
      refine cZ rfl (by exact rho_of rfl) rfl ?_
      repeat (first|apply cA|apply cB|apply cD|apply cE|apply cH|apply cK|apply NG.ret_block|refine cV rfl rfl rfl rfl (by first|((first|apply qmv|apply qas)<;>(exact rfl))|fail) ?_)
      refine ret1 (Or.inl rfl) Tryz.results62 (by first | exact ResV.tmp rfl | exact ResV.agg rfl rfl (by assumption) (by first | exact dc_length _ | exact nc_length _ | exact rc_length _ _ _ | exact ec_length _ | exact dl_length _ _ _ _ | rfl) | exact ResV.cell rfl rfl (by assumption)) ?_
      exact ⟨rfl, k5.trans hk6⟩
    | false =>
      repeat (first|apply cD|apply cE)
      refine dA rfl (by exact rho_of rfl) rfl ?_
      repeat (first|apply cB|apply cD|apply cE|apply cF|apply cU|refine cV rfl rfl rfl rfl (by first|((first|apply qmv|apply qad)<;>(first|exact rfl|exact Ar.mk (by omega)|fail))|fail) ?_)
      refine NG.round (k + 1) (by (repeat' (first | exact True.intro | exact rfl | refine And.intro ?_ ?_))) ⟨by omega, hk5.trans hk6, hno' hb⟩ (by omega)
set_option maxHeartbeats 16000000 in
theorem since_spec {w : World} {base p : Nat} {v : Value} {room : Int} {ms : List Em} (hP : Pl w base p v room ms) (hI : PInv room (ms.map Em.en)) (hr : room ≤ 1024) (d : Dg) : Ret Tryz.prog 44 #[.pointer (some ⟨p, 0, none⟩), dv d] w (.tuple #[.int .i64 ((findE (ms.map Em.en) d).elim 0 (·.since)), .bool (findE (ms.map Em.en) d).isSome]) := by
  refine enter2 Tryz.func44 rfl Tryz.ntmps44 rfl ?_
  repeat (first|apply cA|apply cB)
  refine SG.box rfl rfl rfl (by exact rho_of rfl) (fun b3 w1 hk1 hb3 hB3 => ?_)
  have hB3 : Blk w1 b3 (.cells (dc d).toArray 38) := hB3
  have r3 : Row w1 b3 0 (dc d) := Row.all hB3 rfl
  clear hB3
  repeat (first|apply cA|apply cB|apply cD|apply cE|refine cV rfl rfl rfl rfl (by first|((first|apply qep|apply qmv|apply qas|apply qep)<;>(exact rfl))|fail) ?_)
  refine dA rfl (by exact rho_of rfl) rfl ?_
  repeat (first|apply cA|apply cB|apply cE|apply cF|refine cV rfl rfl rfl rfl (by first|((first|apply qmv|apply qla)<;>(first|exact rfl|assumption|exact List.not_mem_nil|apply dc_length))|fail) ?_)
  refine SG.ret rfl rfl rfl (vs := [.pointer (some ⟨p, 0, none⟩), dv d]) (by repeat' (first | exact True.intro | exact rho_of rfl | refine And.intro ?_ ?_)) (named_spec (hP.kp0 hk1) hI hr d) (fun w2 hk2 => ?_)
  have k2 := hk1.trans hk2
  rcases named_cases ms d with ⟨h1, h2⟩ | ⟨j, hj, h1, h2⟩
  · rw [h1, h2]
    have g1 : (-1 : Int) < 0 := by decide
    repeat (first|apply cA|apply cB|apply cD|apply cE|refine cV rfl rfl rfl rfl (by first|((first|apply qmv|apply qas|apply qls)<;>(first|exact rfl|exact dct (by first|assumption|omega)|fail))|fail) ?_)
    refine cZ rfl (by exact rho_of rfl) rfl ?_
    repeat (first|apply cA|apply cB|apply cD|apply cE|apply cH|apply cK|refine cV rfl rfl rfl rfl (by first|(apply qas<;>(exact rfl))|fail) ?_)
    refine ret2 (Or.inl rfl) Tryz.results44 (by first | exact ResV.tmp rfl | exact ResV.agg rfl rfl (by assumption) (by first | exact dc_length _ | exact nc_length _ | exact rc_length _ _ _ | exact ec_length _ | exact dl_length _ _ _ _ | rfl) | exact ResV.cell rfl rfl (by assumption)) (by first | exact ResV.tmp rfl | exact ResV.agg rfl rfl (by assumption) (by first | exact dc_length _ | exact nc_length _ | exact rc_length _ _ _ | exact ec_length _ | exact dl_length _ _ _ _ | rfl) | exact ResV.cell rfl rfl (by assumption)) ?_
    exact ⟨rfl, k2⟩
  · rw [h1, h2]
    have g1 : ¬ (j : Int) < 0 := by omega
    have g3 : (j : Int) < (ms.length : Int) := by omega
    have hP2 := hP.kp0 k2
    obtain ⟨a, c, rfl, hc, hS⟩ := hP2.sl
    obtain ⟨-, q5⟩ := hP2.rows
    obtain ⟨b1, o1, rfl, hri⟩ := hS.at hj
    obtain ⟨-, -, -, -, -, q6⟩ := ec_rows hri
    repeat (first|apply cA|apply cB|apply cD|apply cE|refine cV rfl rfl rfl rfl (by first|((first|apply qmv|apply qas|apply qls)<;>(first|exact rfl|exact dcf (by first|assumption|omega)|fail))|fail) ?_)
    refine dA rfl (by exact rho_of rfl) rfl ?_
    repeat (first|apply cA|apply cB|apply cD|apply cE|apply cF|apply cH|refine cV rfl rfl rfl rfl (by first|((first|apply qmv|apply qas|apply qlc|apply qfa|apply qnc|apply qix)<;>(first|exact rfl|exact Ar.mk (by omega)|assumption|exact List.not_mem_nil|fail))|fail) ?_)
    refine ret2 (Or.inl rfl) Tryz.results44 (by first | exact ResV.tmp rfl | exact ResV.agg rfl rfl (by assumption) (by first | exact dc_length _ | exact nc_length _ | exact rc_length _ _ _ | exact ec_length _ | exact dl_length _ _ _ _ | rfl) | exact ResV.cell rfl rfl (by assumption)) (by first | exact ResV.tmp rfl | exact ResV.agg rfl rfl (by assumption) (by first | exact dc_length _ | exact nc_length _ | exact rc_length _ _ _ | exact ec_length _ | exact dl_length _ _ _ _ | rfl) | exact ResV.cell rfl rfl (by assumption)) ?_
    exact ⟨rfl, k2⟩
set_option maxHeartbeats 16000000 in
theorem drop1_spec {w : World} {base p : Nat} {v : Value} {room : Int} {ms : List Em} (hP : Pl w base p v room ms) (hI : PInv room (ms.map Em.en)) (hr : room ≤ 1024) (d : Dg) : Calls Tryz.prog 34 #[.pointer (some ⟨p, 0, none⟩), dv d] w (fun e w' => e = .returned (.bool (findE (ms.map Em.en) d).isSome) ∧ ∃ v' ms', Pl w' base p v' room ms' ∧ ms'.map Em.en = dropN (ms.map Em.en) d ∧ Kp (p :: ownB v) w w' ∧ (∀ g, v'.ownBlock = some g → v.ownBlock = some g ∨ w.heap.size ≤ g)) := by
  refine enter2 Tryz.func34 rfl Tryz.ntmps34 rfl ?_
  have hll : ms.length ≤ 1024 := by have := hI.len; rw [List.length_map] at this; omega
  repeat (first|apply cA|apply cB)
  refine SG.box rfl rfl rfl (by exact rho_of rfl) (fun b3 w1 hk1 hb3 hB3 => ?_)
  have hB3 : Blk w1 b3 (.cells (dc d).toArray 38) := hB3
  have r3 : Row w1 b3 0 (dc d) := Row.all hB3 rfl
  clear hB3
  repeat (first|apply cA|apply cB|apply cD|apply cE|refine cV rfl rfl rfl rfl (by first|((first|apply qep|apply qmv|apply qas|apply qep)<;>(exact rfl))|fail) ?_)
  refine dA rfl (by exact rho_of rfl) rfl ?_
  repeat (first|apply cA|apply cB|apply cE|apply cF|refine cV rfl rfl rfl rfl (by first|((first|apply qmv|apply qla)<;>(first|exact rfl|assumption|exact List.not_mem_nil|apply dc_length))|fail) ?_)
  refine SG.ret rfl rfl rfl (vs := [.pointer (some ⟨p, 0, none⟩), dv d]) (by repeat' (first | exact True.intro | exact rho_of rfl | refine And.intro ?_ ?_)) (named_spec (hP.kp0 hk1) hI hr d) (fun w2 hk2 => ?_)
  have k2 := hk1.trans hk2
  rcases named_cases ms d with ⟨h1, h2⟩ | ⟨i, hi, h1, h2⟩
  · rw [h1]
    have hdn : dropN (ms.map Em.en) d = ms.map Em.en := by unfold dropN; rw [h2]
    rw [hdn, h2]
    have g1 : (-1 : Int) < 0 := by decide
    repeat (first|apply cA|apply cB|apply cD|apply cE|refine cV rfl rfl rfl rfl (by first|((first|apply qmv|apply qas|apply qls)<;>(first|exact rfl|exact dct (by first|assumption|omega)|fail))|fail) ?_)
    refine cZ rfl (by exact rho_of rfl) rfl ?_
    repeat (first|apply cA|apply cB|apply cD|apply cE|apply cH|apply cK|refine cV rfl rfl rfl rfl (by first|(apply qas<;>(exact rfl))|fail) ?_)
    refine ret1 (Or.inl rfl) Tryz.results34 (by first | exact ResV.tmp rfl | exact ResV.agg rfl rfl (by assumption) (by first | exact dc_length _ | exact nc_length _ | exact rc_length _ _ _ | exact ec_length _ | exact dl_length _ _ _ _ | rfl) | exact ResV.cell rfl rfl (by assumption)) ?_
    exact ⟨rfl, v, ms, hP.kp0 k2, rfl, k2.any, fun g hg => Or.inl hg⟩
  · rw [h1]
    have hdn : dropN (ms.map Em.en) d = (ms.map Em.en).eraseIdx i := by
      unfold dropN
      rw [h2]
      have := like_at (l := ms.map Em.en) hI.dst (i := i) (by simpa using hi)
      rw [List.getElem_map] at this
      simp only [this]
    rw [hdn, h2]
    have g1 : ¬ (i : Int) < 0 := by omega
    have hP6 := hP.kp0 k2
    obtain ⟨-, q1⟩ := hP6.rows
    clear r3
    repeat (first|apply cA|apply cB|apply cD|apply cE|refine cV rfl rfl rfl rfl (by first|((first|apply qmv|apply qas|apply qls)<;>(first|exact rfl|exact dcf (by first|assumption|omega)|fail))|fail) ?_)
    refine dA rfl (by exact rho_of rfl) rfl ?_
    repeat (first|apply cA|apply cB|apply cE|apply cF|refine cV rfl rfl rfl rfl (by first|((first|apply qmv|apply qlc|apply qfa|apply qnc|apply qad)<;>(first|exact rfl|exact Ar.mk (by omega)|assumption|exact List.not_mem_nil|fail))|fail) ?_)
    refine SG.call rfl rfl rfl (vs := [v, .int .i64 (i : Int), .int .i64 ((i : Int) + 1)]) (by repeat' (first | exact True.intro | exact rho_of rfl | refine And.intro ?_ ?_)) ((edel_spec hP6.own (by omega) hi hP6.base_le).mono (fun e w7 hh7 => ?_))
    obtain ⟨v7, he, hk7, ho7, hv7⟩ := hh7
    refine ⟨_, he, ?_⟩
    clear q1 he
    have hB7 := hP6.blk.kp hk7 hP6.np
    have hn7 : ∀ b, v7.ownBlock = some b → b ∉ [p] := own_neb ho7 (by decide) hB7
    obtain ⟨a, c, rfl, -, -⟩ := hP6.sl
    obtain ⟨a7, c7, rfl, -, -⟩ := Sl.own (l := cutL ms i) ec_length ho7 rfl
    repeat (first|refine cV rfl rfl rfl rfl (by first|((first|apply qfa|apply qnc)<;>(exact rfl))|fail) ?_)
    refine SG.setMid [.int .i64 room] [.slice a ms.length c] [] rfl rfl (by exact rho_of rfl) (by exact rho_of rfl) hB7 rfl rfl rfl rfl rfl (fun w8 hk8 hB8 => ?_)
    have hP8 : Pl w8 base p (.slice a7 (cutL ms i).length c7) room (cutL ms i) := by
      refine ⟨hB8, own_kpB ho7 hk8 hn7, fun e he => ?_, hP6.bp⟩
      have hm : e ∈ ms := by
        rcases List.mem_append.1 he with h | h
        · exact List.mem_of_mem_take h
        · exact List.mem_of_mem_drop h
      refine (((hP6.ins e hm).kpO hk7 (Oth.own hP6.own (Nat.le_refl _) (by decide))).kpO hk8 (Oth.cons hP6.bp (Oth.cells hB7 (by decide)) Oth.nil))
    repeat (first|apply cA|apply cB|apply cD|apply cE|apply cH|refine cV rfl rfl rfl rfl (by first|(apply qas<;>(exact rfl))|fail) ?_)
    refine ret1 (Or.inl rfl) Tryz.results34 (by first | exact ResV.tmp rfl | exact ResV.agg rfl rfl (by assumption) (by first | exact dc_length _ | exact nc_length _ | exact rc_length _ _ _ | exact ec_length _ | exact dl_length _ _ _ _ | rfl) | exact ResV.cell rfl rfl (by assumption)) ?_
    exact ⟨rfl, _, _, hP8, map_cut _ _ _, ((k2.any).trans (hk7.mono (fun z hz => List.mem_cons_of_mem _ hz))).trans (hk8.mono (fun z hz => by rw [List.mem_singleton] at hz; rw [hz]; exact List.mem_cons_self)), fun g hg => Or.inl (hv7 g hg)⟩
end Go.Proofs.YtgbgnlboogalgaaGreat
namespace Go.Proofs.YtgbgnlboogalgaaGreat
open Go.Proofs
set_option linter.unusedVariables false
/-- Transactions that a caller may dispose of. -/
structure TxsO (w : World) (base : Nat) (v : Value) (xs : List Tm) : Prop where
  own : w.ownsRow base 40 13 v xs.length (flt txc xs)
  ins : ∀ x ∈ xs, x.In 0 w
theorem TxsO.nil {w : World} {base : Nat} : TxsO w base (.slice none 0 0) [] := ⟨own_nil, fun x h => (by cases h)⟩
theorem TxsO.kp {w w' : World} {base : Nat} {v : Value} {xs : List Tm} {S : List Nat} (h : TxsO w base v xs) (hk : Kp S w w') (hv : ∀ b, v.ownBlock = some b → b ∉ S) (hO : Oth 0 w S) : TxsO w' base v xs :=
  ⟨own_kpB h.own hk hv, fun x hx => (h.ins x hx).kpO hk hO⟩
theorem TxsO.kp0 {w w' : World} {base : Nat} {v : Value} {xs : List Tm} (h : TxsO w base v xs) (hk : Kp [] w w') : TxsO w' base v xs := h.kp hk (fun _ _ => List.not_mem_nil) Oth.nil
theorem TxsO.sl {w : World} {base : Nat} {v : Value} {xs : List Tm} (h : TxsO w base v xs) : ∃ a c, v = .slice a xs.length c ∧ xs.length ≤ c ∧ Sl txc 13 w a xs := Sl.own txc_length h.own rfl
theorem own_apT {w : World} {base base' n n' sz sz' : Nat} {T T' : TypeId} {v v' : Value} {xs xs' : List Value} (ho : w.ownsRow base T sz v n xs) (ho' : w.ownsRow base' T' sz' v' n' xs') (hT : T ≠ T') : ∀ b, v.ownBlock = some b → b ∉ ownB v' := fun b hb hm => by
  have hm := ownB_mem hm
  rcases ho.2 with ⟨rfl, _⟩ | ⟨g, cap, cur, rfl, _, hg, _⟩
  · cases hb
  · cases hb
    rcases ho'.2 with ⟨rfl, _⟩ | ⟨g', cap', cur', rfl, _, hg', _⟩
    · cases hm
    · cases hm
      rw [hg] at hg'
      cases hg'
      exact hT rfl
set_option maxHeartbeats 4000000 in
theorem bstx' (w : World) (a0 a1 a2 a3 a4 a5 a6 a7 : UInt8) (n f k : Int) (x1 x2 : Option Addr) (m1 m2 c1' c2' : Nat) :
    (Instr.buildSlice 22 1 #[(0, .agg #[bv a0, bv a1, bv a2, bv a3, bv a4, bv a5, bv a6, bv a7, .int .i64 n, .int .i64 f, .int .i64 k, .slice x1 m1 c1', .slice x2 m2 c2'])]).run Tryz.prog w = .ok (.slice (some ⟨w.heap.size, 0, none⟩) 1 1) { w with heap := w.heap.push (.cells #[bv a0, bv a1, bv a2, bv a3, bv a4, bv a5, bv a6, bv a7, .int .i64 n, .int .i64 f, .int .i64 k, .slice x1 m1 c1', .slice x2 m2 c2'] 40) } := by kernel_rfl
theorem bstx (x : Tm) (w : World) : (Instr.buildSlice 22 1 #[(0, txv x)]).run Tryz.prog w = .ok (.slice (some ⟨w.heap.size, 0, none⟩) 1 1) { w with heap := w.heap.push (.cells (txc x).toArray 40) } := by
  obtain ⟨⟨⟨l, hl⟩, n, f, k, b, g⟩, a1, c1, a2, c2⟩ := x
  match l, hl with
  | [x0, x1, x2, x3, x4, x5, x6, x7], _ => exact bstx' w x0 x1 x2 x3 x4 x5 x6 x7 n f k a1 a2 b.length g.length c1 c2
attribute [local irreducible] CG NG SG Vals Der Row Blk MapIs IterAt nameT wrongT
set_option maxHeartbeats 16000000 in
theorem pick_spec {w : World} {base p : Nat} {v : Value} {room : Int} {ms : List Em} (hP : Pl w base p v room ms) (hI : PInv room (ms.map Em.en)) (hr : room ≤ 1024) {f : FuncId} [Fn : Fnc Tryz.prog f] {caps : List Value} {g : List Nat → Nat → Bool} {S : List Nat} (J : List Nat → World → Prop)
    (hJ0 : J [] w) (hJk : ∀ pre W W' T, (∀ b ∈ T, w.heap.size ≤ b) → Kp T W W' → J pre W → J pre W') (hPS : ∀ W, Kp S w W → Pl W base p v room ms) (hSlt : ∀ b ∈ S, b < w.heap.size) (hSO : ∀ pre W, J pre W → Oth 0 W S)
    (hcall : ∀ pre j (hj : j < ms.length) W, ordP ms = pre ++ j :: (ordP ms).drop (pre.length + 1) → Kp S w W → J pre W → Calls Tryz.prog f (ev ms[j] :: caps).toArray W (fun e w' => e = .returned (.bool (g pre j)) ∧ Kp S W w' ∧ J (pre ++ [j]) w')) :
    Calls Tryz.prog 25 #[.pointer (some ⟨p, 0, none⟩), fnv f caps] w (fun e w' => ∃ v' xs, e = .returned v' ∧ Kp S w w' ∧ TxsO w' w.heap.size v' xs ∧ xs.map (·.t) = (pickL g [] (ordP ms)).map (fun j => (enA (ms.map Em.en) j).t) ∧ J (ordP ms) w') := by
  refine enter2 Tryz.func25 rfl Tryz.ntmps25 rfl ?_
  have hll : ms.length ≤ 1024 := by have := hI.len; rw [List.length_map] at this; omega
  repeat (first|apply cA|apply cB|apply cD|apply cE|refine cV rfl rfl rfl rfl (by first|((first|apply qmv|apply qas)<;>(exact rfl))|fail) ?_)
  refine SG.call rfl rfl rfl (vs := [.pointer (some ⟨p, 0, none⟩)]) (by repeat' (first | exact True.intro | exact rho_of rfl | refine And.intro ?_ ?_)) ((order_spec hP hI hr).mono (fun e w1 hh => ?_))
  obtain ⟨vo, he, ho1, hk1⟩ := hh
  refine ⟨_, he, ?_⟩
  clear he
  have hol := ordP_length ms
  obtain ⟨ao, co, rfl, hco, -⟩ := Sl.own nI_len ho1 rfl
  have hJ1 := hJk [] w w1 [] (fun b hb => by cases hb) hk1 hJ0
  have s1 := hk1.size
  repeat (first|apply cD|apply cE|apply cG|refine cV rfl rfl rfl rfl (by first|((first|apply qmv|apply qln)<;>(exact rfl))|fail) ?_)
  refine CG.loop (X := Nat × (Value × List Tm)) (fun x => [(0, .pointer (some ⟨p, 0, none⟩)), (1, fnv f caps), (5, x.2.1), (9, .slice ao (ordP ms).length co), (10, .int .i64 ((ordP ms).length : Int)), (11, .int .i64 (x.1 : Int))])
    (fun x w' => x.1 ≤ (ordP ms).length ∧ Kp S w w' ∧ J ((ordP ms).take x.1) w' ∧ TxsO w' w.heap.size x.2.1 x.2.2 ∧ x.2.2.map (·.t) = (pickL g [] ((ordP ms).take x.1)).map (fun j => (enA (ms.map Em.en) j).t) ∧ w'.ownsRow w.heap.size 3 1 (.slice ao (ordP ms).length co) (ordP ms).length (flt nI (ordP ms)))
    (fun x => (ordP ms).length - x.1) (0, (.slice none 0 0, [])) ⟨Nat.zero_le _, hk1.any, hJ1, TxsO.nil, rfl, ho1⟩ (by (repeat' (first | exact True.intro | exact rfl | refine And.intro ?_ ?_))) ?_
  rintro ⟨k, vr, xs⟩ w2 ⟨hk, hk2, hJ2, hX, hxs, ho2⟩
  simp only at hk hJ2 hX hxs
  refine CG.to [(0, .pointer (some ⟨p, 0, none⟩)), (1, fnv f caps), (5, vr), (9, .slice ao (ordP ms).length co), (10, .int .i64 ((ordP ms).length : Int)), (11, .int .i64 (k : Int))] (by (repeat' (first | exact True.intro | exact rfl | refine And.intro ?_ ?_))) ?_
  have s2 := hk2.size
  by_cases hlt : k < (ordP ms).length
  rotate_left
  · have g2 : ¬ (k : Int) < ((ordP ms).length : Int) := by omega
    rw [List.take_of_length_le (by omega)] at hJ2 hxs
    repeat (first|apply cA|apply cB|apply cD|apply cE|refine cV rfl rfl rfl rfl (by first|(apply qls<;>(first|exact rfl|exact dcf (by first|assumption|omega)|fail))|fail) ?_)
    refine dA rfl (by exact rho_of rfl) rfl ?_
    repeat (first|apply cA|apply cB|apply cD|apply cE|apply cH|apply cJ|apply cM|refine cQ rfl ?_|refine cV rfl rfl rfl rfl (by first|((first|apply qmv|apply qas)<;>(exact rfl))|fail) ?_)
    refine ret1 (Or.inl rfl) Tryz.results25 (by first | exact ResV.tmp rfl | exact ResV.agg rfl rfl (by assumption) (by first | exact dc_length _ | exact nc_length _ | exact rc_length _ _ _ | exact ec_length _ | exact dl_length _ _ _ _ | rfl) | exact ResV.cell rfl rfl (by assumption)) ?_
    exact ⟨_, xs, rfl, hk2, hX, hxs, hJ2⟩
  have g2 : (k : Int) < ((ordP ms).length : Int) := by omega
  obtain ⟨bo, cpo, eo, -⟩ := own_slice ho2 (by omega)
  cases eo
  have hro := own_at nI_len ho2 rfl hlt
  have hjm : (ordP ms)[k] < ms.length := ordP_lt (List.getElem_mem hlt)
  have htk : (ordP ms).take (k + 1) = (ordP ms).take k ++ [(ordP ms)[k]] := List.take_succ_eq_append_getElem hlt
  have hsplit : ordP ms = (ordP ms).take k ++ (ordP ms)[k] :: (ordP ms).drop (((ordP ms).take k).length + 1) := by
    rw [List.length_take, Nat.min_eq_left (by omega), ← List.drop_eq_getElem_cons hlt, List.take_append_drop]
  have hpl : pickL g [] ((ordP ms).take (k + 1)) = pickL g [] ((ordP ms).take k) ++ if g ((ordP ms).take k) (ordP ms)[k] then [(ordP ms)[k]] else [] := by
    rw [htk, pickL_append, pickL_one]
    rfl
  have hple := pickL_le g [] ((ordP ms).take k)
  rw [List.length_take, Nat.min_eq_left (by omega)] at hple
  have hxl : xs.length ≤ 1024 := by
    have := congrArg List.length hxs
    simp only [List.length_map] at this
    omega
  generalize hpre : (ordP ms).take k = pre at hJ2 hxs hpl htk hsplit
  generalize (ordP ms)[k] = jj at hro hjm hpl htk hsplit
  have g3 : (jj : Int) < (ms.length : Int) := by omega
  have g4 : (0 : Int) ≤ (jj : Int) := by omega
  have hP2 := hPS w2 hk2
  obtain ⟨a, c, rfl, hc, hS2⟩ := hP2.sl
  obtain ⟨-, q2⟩ := hP2.rows
  obtain ⟨b1, o1, rfl, hrj⟩ := hS2.at hjm
  have hen : (enA (ms.map Em.en) jj).t = ms[jj].x.t := by rw [enA_at (by simpa using hjm), List.getElem_map]; rfl
  repeat (first|apply cA|apply cB|apply cD|apply cE|refine cV rfl rfl rfl rfl (by first|(apply qls<;>(first|exact rfl|exact dct (by first|assumption|omega)|fail))|fail) ?_)
  refine cZ rfl (by exact rho_of rfl) rfl ?_
  repeat (first|apply cA|apply cB|apply cD|apply cE|apply cF|apply cG|refine cV rfl rfl rfl rfl (by first|((first|apply qmv|apply qas|apply qlc|apply qla|apply qfa|apply qnc|apply qix)<;>(first|exact rfl|exact Ar.mk (by omega)|assumption|exact List.not_mem_nil|apply ec_length|fail))|fail) ?_)
  refine SG.callV (Fn := Fn) (f := f) (vs := [ev ms[jj]]) (caps := caps) rfl rfl rfl (by exact rho_of rfl) (by repeat' (first | exact True.intro | exact rho_of rfl | refine And.intro ?_ ?_)) ((hcall pre jj hjm w2 hsplit hk2 hJ2).mono (fun e w3 hh => ?_))
  obtain ⟨he, hk3, hJ3⟩ := hh
  refine ⟨_, he, ?_⟩
  clear he q2 hrj hS2
  rw [← htk] at hJ3
  have k3 := hk2.trans hk3
  have hX3 := hX.kp hk3 (fun b hb hm => by have := own_geB hX.own b hb; have := hSlt b hm; omega) (hSO _ _ hJ2)
  have ho3 := own_kpB ho2 hk3 (fun b hb hm => by have := own_geB ho2 b hb; have := hSlt b hm; omega)
  have s3 := hk3.size
  cases hg : g pre jj with
  | false =>
    rw [hg] at hpl
    simp only [Bool.false_eq_true, if_false, List.append_nil] at hpl
    repeat (first|apply cD|apply cE)
    refine dA rfl (by exact rho_of rfl) rfl ?_
    repeat (first|apply cB|apply cD|apply cE|apply cF|apply cU|refine cV rfl rfl rfl rfl (by first|((first|apply qmv|apply qad)<;>(first|exact rfl|exact Ar.mk (by omega)|fail))|fail) ?_)
    refine NG.round (k + 1, (vr, xs)) (by (repeat' (first | exact True.intro | exact rfl | refine And.intro ?_ ?_))) ⟨by simp only; omega, k3, hJ3, hX3, by simp only; rw [hpl]; exact hxs, ho3⟩ (by simp only; omega)
  | true =>
    rw [hg] at hpl
    simp only [if_true] at hpl
    have hP3 := hPS w3 k3
    obtain ⟨a3, c3, e3, -, hS3⟩ := hP3.sl
    cases e3
    obtain ⟨-, q3⟩ := hP3.rows
    have hrj3 : Row w3 b1 (o1 + jj * 22) (ec ms[jj]) := hS3.row (List.getElem?_eq_getElem hjm)
    obtain ⟨rx, -⟩ := ec_rows hrj3
    repeat (first|apply cD|apply cE)
    refine cZ rfl (by exact rho_of rfl) rfl ?_
    repeat (first|apply cB|refine cV rfl rfl rfl rfl (by first|((first|apply qmv|apply qlc|apply qla|apply qfa|apply qnc|apply qix)<;>(first|exact rfl|exact Ar.mk (by omega)|assumption|exact List.not_mem_nil|apply txc_length|fail))|fail) ?_)
    refine SG.call rfl rfl rfl (vs := [txv ms[jj].x]) (by repeat' (first | exact True.intro | exact rho_of rfl | refine And.intro ?_ ?_)) ((tclone_spec (hP3.ins _ (List.getElem_mem hjm))).mono (fun e w4 hh => ?_))
    obtain ⟨y, hy, he, hin, hk4, -, -⟩ := hh
    refine ⟨_, he, ?_⟩
    clear he q3 hrj3 rx
    refine SG.buildSlice rfl rfl rfl rfl (bstx y) (fun b6 w5 hk5 hb6 hB6 => ?_)
    have hS6 : Sl txc 13 w5 (some ⟨b6, 0, none⟩) [y] := sl_one txc_length hB6
    have k35 : Kp [] w3 w5 := hk4.trans hk5
    have hX5 := hX3.kp0 k35
    have ho5 := own_kp0 ho3 k35
    have hin5 := hin.kp0 hk5
    have s5 := k35.size
    skip
    refine SG.appO (enc := txc) (xs := xs) (ys := [y]) (base := w.heap.size) rfl rfl rfl (by exact rho_of rfl) (by exact rho_of rfl) rfl rfl rfl rfl txc_length txc_one hX5.own hS6 (by simp only [maxLen, List.length_cons, List.length_nil]; omega) (by simp only [List.length_cons, List.length_nil]; show (_ + _) * 80 ≤ _; omega) (by omega) (fun v' w6 hk6 ho6 hv6 => ?_)
    have hO6 : Oth 0 w5 (ownB vr) := Oth.own hX5.own (Nat.zero_le _) (by decide)
    have hnew : ∀ b ∈ ownB vr, w.heap.size ≤ b := fun b hb => own_geB hX5.own b (ownB_mem hb)
    have hJ6 := hJk _ w5 w6 _ hnew hk6 (hJk _ w3 w5 [] (fun b hb => by cases hb) k35 hJ3)
    repeat (first|apply cB|apply cD|apply cE|apply cU|refine cV rfl rfl rfl rfl (by first|((first|apply qmv|apply qas|apply qad)<;>(first|exact rfl|exact Ar.mk (by omega)|fail))|fail) ?_)
    refine NG.round (k + 1, (v', xs ++ [y])) (by (repeat' (first | exact True.intro | exact rfl | refine And.intro ?_ ?_))) ⟨by simp only; omega, (k3.trans k35.any).trans_new hk6 (fun b hb => Or.inr (hnew b hb)), hJ6, ⟨ho6, fun x hx => ?_⟩, ?_, own_kpB ho5 hk6 (own_apT ho5 hX5.own (by decide))⟩ (by simp only; omega)
    · rcases List.mem_append.1 hx with hx | hx
      · exact (hX5.ins x hx).kpO hk6 hO6
      · rw [List.mem_singleton] at hx
        subst hx
        exact hin5.kpO hk6 hO6
    · simp only
      rw [hpl, List.map_append, List.map_append, hxs, List.map_cons, List.map_cons, hy, hen]
      rfl
/-- .. where what is told hangs on nothing else. -/
theorem pickF_spec {w : World} {base p : Nat} {v : Value} {room : Int} {ms : List Em} (hP : Pl w base p v room ms) (hI : PInv room (ms.map Em.en)) (hr : room ≤ 1024) {f : FuncId} [Fn : Fnc Tryz.prog f] {caps : List Value} (q : En → Bool)
    (hcall : ∀ (e : Em) W T, (∀ b ∈ T, w.heap.size ≤ b) → Kp T w W → Ret Tryz.prog f (ev e :: caps).toArray W (.bool (q e.en))) :
    Calls Tryz.prog 25 #[.pointer (some ⟨p, 0, none⟩), fnv f caps] w (fun e w' => ∃ v' xs, e = .returned v' ∧ Kp [] w w' ∧ TxsO w' w.heap.size v' xs ∧ xs.map (·.t) = ((ordE (ms.map Em.en)).filter q).map (·.t)) := by
  refine (pick_spec (g := fun _ j => q (enA (ms.map Em.en) j)) (S := []) (Fn := Fn) hP hI hr (fun _ W => ∃ T, (∀ b ∈ T, w.heap.size ≤ b) ∧ Kp T w W) ⟨[], fun b hb => (by cases hb), Kp.refl _ _⟩ (fun pre W W' T hT hk ⟨T2, h1, h2⟩ => ⟨T2 ++ T, fun b hb => (by rcases List.mem_append.1 hb with h | h; exact h1 b h; exact hT b h), (h2.mono (fun b hb => List.mem_append_left _ hb)).trans (hk.mono (fun b hb => List.mem_append_right _ hb))⟩) (fun W hk => hP.kp0 hk) (fun b hb => by cases hb) (fun _ _ _ => Oth.nil) (fun pre j hj W _ hk ⟨T, h1, h2⟩ => (hcall ms[j] W T h1 h2).mono (fun e w' ⟨he, hk'⟩ => ⟨?_, hk', T, h1, h2.trans hk'.any⟩))).mono (fun e w' hh => ?_)
  · obtain ⟨v', xs, he, hk, hX, hxs, -⟩ := hh
    refine ⟨v', xs, he, hk, hX, ?_⟩
    rw [hxs, pickL_filter (fun j => q (enA (ms.map Em.en) j)), ← map_filter, List.map_map]
    rfl
  · rw [he, enA_at (by simpa using hj), List.getElem_map]
set_option maxHeartbeats 16000000 in
theorem allc_spec {w : World} (e : Em) : Ret Tryz.prog 28 #[ev e] w (.bool true) := by
  refine enterL (args := [ev e]) Tryz.func28 rfl Tryz.ntmps28 rfl ?_
  repeat (first|apply cA|apply cB)
  refine SG.box rfl rfl rfl (by exact rho_of rfl) (fun b1 w1 hk1 hb1 hB1 => ?_)
  repeat (first|apply cA|apply cB|apply cD|apply cE|apply cH|refine cV rfl rfl rfl rfl (by first|(apply qas<;>(exact rfl))|fail) ?_)
  refine ret1 (Or.inl rfl) Tryz.results28 (by first | exact ResV.tmp rfl | exact ResV.agg rfl rfl (by assumption) (by first | exact dc_length _ | exact nc_length _ | exact rc_length _ _ _ | exact ec_length _ | exact dl_length _ _ _ _ | rfl) | exact ResV.cell rfl rfl (by assumption)) ?_
  exact ⟨rfl, hk1⟩
set_option maxHeartbeats 16000000 in
theorem all_spec {w : World} {base p : Nat} {v : Value} {room : Int} {ms : List Em} (hP : Pl w base p v room ms) (hI : PInv room (ms.map Em.en)) (hr : room ≤ 1024) :
    Calls Tryz.prog 12 #[.pointer (some ⟨p, 0, none⟩)] w (fun e w' => ∃ v' xs, e = .returned v' ∧ Kp [] w w' ∧ TxsO w' w.heap.size v' xs ∧ xs.map (·.t) = (ordE (ms.map Em.en)).map (·.t)) := by
  refine enter1 Tryz.func12 rfl Tryz.ntmps12 rfl ?_
  repeat (first|apply cA|apply cB|apply cD|apply cE|refine cV rfl rfl rfl rfl (by first|((first|apply qep|apply qmv|apply qas|apply qep)<;>(exact rfl))|fail) ?_)
  refine dA rfl (by exact rho_of rfl) rfl ?_
  repeat (first|apply cA|apply cB|apply cE|apply cF|refine cV rfl rfl rfl rfl (by first|(apply qmv<;>(exact rfl))|fail) ?_)
  refine SG.call rfl rfl rfl (vs := [.pointer (some ⟨p, 0, none⟩), fnv 28 []]) (by repeat' (first | exact True.intro | exact rho_of rfl | refine And.intro ?_ ?_)) ((pickF_spec (Fn := by infer_instance) hP hI hr (fun _ => true) (fun e W T _ _ => allc_spec e)).mono (fun e w1 hh => ?_))
  obtain ⟨v', xs, he, hk, hX, hxs⟩ := hh
  refine ⟨_, he, ?_⟩
  repeat (first|apply cD|apply cE|apply cH|refine cV rfl rfl rfl rfl (by first|(apply qas<;>(exact rfl))|fail) ?_)
  refine ret1 (Or.inl rfl) Tryz.results12 (by first | exact ResV.tmp rfl | exact ResV.agg rfl rfl (by assumption) (by first | exact dc_length _ | exact nc_length _ | exact rc_length _ _ _ | exact ec_length _ | exact dl_length _ _ _ _ | rfl) | exact ResV.cell rfl rfl (by assumption)) ?_
  refine ⟨v', xs, rfl, hk, hX, ?_⟩
  rw [hxs, List.filter_eq_self.2 (fun _ _ => rfl)]
end Go.Proofs.YtgbgnlboogalgaaGreat
namespace Go.Proofs.YtgbgnlboogalgaaGreat
open Go.Proofs
set_option linter.unusedVariables false
abbrev zcv (z : Int) : Value := .int .i64 z
/-- Up to the number of one of its key. -/
def upB (L : List (Dg × Int)) (e : En) : Bool := L.any (fun p => decide (p.1 = e.key ∧ e.non ≤ p.2))
theorem upB_iff {m L : List (Dg × Int)} {e : En} (h : MaxM m L) : upB L e = true ↔ ∃ n, alook m e.key = some n ∧ e.non ≤ n := by
  rw [h e.key e.non]
  unfold upB
  rw [List.any_eq_true]
  constructor
  · rintro ⟨p, h1, h2⟩; exact ⟨p, h1, of_decide_eq_true h2⟩
  · rintro ⟨p, h1, h2⟩; exact ⟨p, h1, decide_eq_true h2⟩
def pairE (e : En) : Dg × Int := (e.key, e.non)
/-- Whether a block of a height has to have what waits since another one. -/
def dueB (h leave : Int) (e : En) : Bool := decide (leave ≤ h - e.since - 1)
def dueL (l : List En) (h leave : Int) : List (Dg × Int) := (l.filter (dueB h leave)).map pairE
theorem dueL_succ {l : List En} {h leave : Int} {i : Nat} (hi : i < l.length) : dueL (l.take (i + 1)) h leave = if dueB h leave l[i] then dueL (l.take i) h leave ++ [pairE l[i]] else dueL (l.take i) h leave := by
  unfold dueL
  rw [List.take_succ_eq_append_getElem hi, List.filter_append, List.map_append]
  by_cases g : dueB h leave l[i] = true
  · rw [if_pos g, List.filter_cons_of_pos g]
    rfl
  · rw [if_neg g, List.filter_cons_of_neg g]
    simp
def fit64 (n : Int) : Prop := -9223372036854775808 ≤ n ∧ n ≤ 9223372036854775807
attribute [local irreducible] CG NG SG Vals Der Row Blk MapIs IterAt nameT wrongT
set_option maxHeartbeats 16000000 in
theorem due_spec {w : World} {h s l : Int} (hh : fit64 h) (h0 : 0 ≤ s) (h1 : s ≤ 1099511627776) (hl : fit64 l) : Ret Tryz.prog 60 #[.int .i64 h, .int .i64 s, .int .i64 l] w (.bool (decide (l ≤ h - s - 1))) := by
  refine enter3 Tryz.func60 rfl Tryz.ntmps60 rfl ?_
  obtain ⟨a1, a2⟩ := hh
  obtain ⟨a3, a4⟩ := hl
  by_cases g : h < -9223372036854775808 + s + 1
  · have e : decide (l ≤ h - s - 1) = false := decide_eq_false (by omega)
    rw [e]
    repeat (first|apply cA|apply cB|apply cD|apply cE|refine cV rfl rfl rfl rfl (by first|((first|apply qmv|apply qas|apply qls|apply qad)<;>(first|exact rfl|exact Ar.mk (by omega)|exact dct (by first|assumption|omega)|fail))|fail) ?_)
    refine cZ rfl (by exact rho_of rfl) rfl ?_
    repeat (first|apply cA|apply cB|apply cD|apply cE|apply cH|apply cK|refine cV rfl rfl rfl rfl (by first|(apply qas<;>(exact rfl))|fail) ?_)
    refine ret1 (Or.inl rfl) Tryz.results60 (by first | exact ResV.tmp rfl | exact ResV.agg rfl rfl (by assumption) (by first | exact dc_length _ | exact nc_length _ | exact rc_length _ _ _ | exact ec_length _ | exact dl_length _ _ _ _ | rfl) | exact ResV.cell rfl rfl (by assumption)) ?_
    exact ⟨rfl, Kp.refl _ _⟩
  · by_cases g2 : l ≤ h - s - 1
    · have e : decide (l ≤ h - s - 1) = true := decide_eq_true g2
      rw [e]
      repeat (first|apply cA|apply cB|apply cD|apply cE|refine cV rfl rfl rfl rfl (by first|((first|apply qmv|apply qas|apply qls|apply qad)<;>(first|exact rfl|exact Ar.mk (by omega)|exact dcf (by first|assumption|omega)|fail))|fail) ?_)
      refine dA rfl (by exact rho_of rfl) rfl ?_
      repeat (first|apply cA|apply cB|apply cD|apply cE|apply cF|apply cH|refine cV rfl rfl rfl rfl (by first|((first|apply qmv|apply qas|apply qge|apply qsb)<;>(first|exact rfl|exact Ar.mk (by omega)|exact dct (by first|assumption|omega)|fail))|fail) ?_)
      refine ret1 (Or.inl rfl) Tryz.results60 (by first | exact ResV.tmp rfl | exact ResV.agg rfl rfl (by assumption) (by first | exact dc_length _ | exact nc_length _ | exact rc_length _ _ _ | exact ec_length _ | exact dl_length _ _ _ _ | rfl) | exact ResV.cell rfl rfl (by assumption)) ?_
      exact ⟨rfl, Kp.refl _ _⟩
    · have e : decide (l ≤ h - s - 1) = false := decide_eq_false g2
      rw [e]
      repeat (first|apply cA|apply cB|apply cD|apply cE|refine cV rfl rfl rfl rfl (by first|((first|apply qmv|apply qas|apply qls|apply qad)<;>(first|exact rfl|exact Ar.mk (by omega)|exact dcf (by first|assumption|omega)|fail))|fail) ?_)
      refine dA rfl (by exact rho_of rfl) rfl ?_
      repeat (first|apply cA|apply cB|apply cD|apply cE|apply cF|apply cH|refine cV rfl rfl rfl rfl (by first|((first|apply qmv|apply qas|apply qge|apply qsb)<;>(first|exact rfl|exact Ar.mk (by omega)|exact dcf (by first|assumption|omega)|fail))|fail) ?_)
      refine ret1 (Or.inl rfl) Tryz.results60 (by first | exact ResV.tmp rfl | exact ResV.agg rfl rfl (by assumption) (by first | exact dc_length _ | exact nc_length _ | exact rc_length _ _ _ | exact ec_length _ | exact dl_length _ _ _ _ | rfl) | exact ResV.cell rfl rfl (by assumption)) ?_
      exact ⟨rfl, Kp.refl _ _⟩
set_option maxHeartbeats 16000000 in
theorem must1_spec {w : World} {b7 bm : Nat} {m L : List (Dg × Int)} (e : Em) (h7 : Row w b7 0 [.map (some bm)]) (hm : MapIs w bm (dv (n := 8)) zcv m) (hM : MaxM m L) : Ret Tryz.prog 61 #[ev e, .pointer (some ⟨b7, 0, none⟩)] w (.bool (upB L e.en)) := by
  refine enterL (args := [ev e, .pointer (some ⟨b7, 0, none⟩)]) Tryz.func61 rfl Tryz.ntmps61 rfl ?_
  repeat (first|apply cA|apply cB)
  refine SG.box rfl rfl rfl (by exact rho_of rfl) (fun b1 w1 hk1 hb1 hB1 => ?_)
  have hB1 : Blk w1 b1 (.cells (ec e).toArray 74) := hB1
  obtain ⟨-, q0, q1, -⟩ := ec_rows (Row.all hB1 rfl)
  simp only [Nat.zero_add] at q1
  have h7 := h7.kp0 hk1
  have hm := hm.kp0 hk1
  have hup := upB_iff (e := e.en) hM
  cases hl : alook m e.x.t.frm with
  | none =>
    have e1 : upB L e.en = false := by
      cases hb : upB L e.en with
      | false => rfl
      | true =>
        obtain ⟨n, h1, h2⟩ := hup.1 hb
        have h1 : alook m e.x.t.frm = some n := h1
        rw [hl] at h1
        cases h1
    rw [e1]
    repeat (first | first|apply cA|apply cB|apply cD|apply cE|apply cH|refine cV rfl rfl rfl rfl (by first|((first|apply qmv|apply qas|apply qlc|apply qla|apply qfa|apply qpk|apply qlk|apply qxt)<;>(first|exact rfl|assumption|exact List.not_mem_nil|apply dc_length|exact lk0 (by assumption)|fail))|fail) ?_ | refine cX rfl rfl ?_)
    refine ret1 (Or.inl rfl) Tryz.results61 (by first | exact ResV.tmp rfl | exact ResV.agg rfl rfl (by assumption) (by first | exact dc_length _ | exact nc_length _ | exact rc_length _ _ _ | exact ec_length _ | exact dl_length _ _ _ _ | rfl) | exact ResV.cell rfl rfl (by assumption)) ?_
    exact ⟨rfl, hk1⟩
  | some n =>
    by_cases g : e.x.t.non ≤ n
    · have e1 : upB L e.en = true := hup.2 ⟨n, hl, g⟩
      rw [e1]
      repeat (first|apply cA|apply cB|apply cD|apply cE|apply cH|refine cV rfl rfl rfl rfl (by first|((first|apply qmv|apply qas|apply qlc|apply qla|apply qfa|apply qpk|apply qle|apply qlk|apply qxt)<;>(first|exact rfl|assumption|exact dct (by first|assumption|omega)|exact List.not_mem_nil|apply dc_length|exact lk1 (by assumption)|fail))|fail) ?_)
      refine ret1 (Or.inl rfl) Tryz.results61 (by first | exact ResV.tmp rfl | exact ResV.agg rfl rfl (by assumption) (by first | exact dc_length _ | exact nc_length _ | exact rc_length _ _ _ | exact ec_length _ | exact dl_length _ _ _ _ | rfl) | exact ResV.cell rfl rfl (by assumption)) ?_
      exact ⟨rfl, hk1⟩
    · have e1 : upB L e.en = false := by
        cases hb : upB L e.en with
        | false => rfl
        | true =>
          obtain ⟨n', h1, h2⟩ := hup.1 hb
          have h1 : alook m e.x.t.frm = some n' := h1
          rw [hl] at h1
          cases h1
          exact absurd h2 g
      rw [e1]
      repeat (first|apply cA|apply cB|apply cD|apply cE|apply cH|refine cV rfl rfl rfl rfl (by first|((first|apply qmv|apply qas|apply qlc|apply qla|apply qfa|apply qpk|apply qle|apply qlk|apply qxt)<;>(first|exact rfl|assumption|exact dcf (by first|assumption|omega)|exact List.not_mem_nil|apply dc_length|exact lk1 (by assumption)|fail))|fail) ?_)
      refine ret1 (Or.inl rfl) Tryz.results61 (by first | exact ResV.tmp rfl | exact ResV.agg rfl rfl (by assumption) (by first | exact dc_length _ | exact nc_length _ | exact rc_length _ _ _ | exact ec_length _ | exact dl_length _ _ _ _ | rfl) | exact ResV.cell rfl rfl (by assumption)) ?_
      exact ⟨rfl, hk1⟩
set_option maxHeartbeats 16000000 in
theorem done1_spec {w : World} {b7 bm : Nat} {m L : List (Dg × Int)} (e : Em) (h7 : Row w b7 0 [.map (some bm)]) (hm : MapIs w bm (dv (n := 8)) zcv m) (hM : MaxM m L) : Ret Tryz.prog 66 #[ev e, .pointer (some ⟨b7, 0, none⟩)] w (.bool (upB L e.en)) := by
  refine enterL (args := [ev e, .pointer (some ⟨b7, 0, none⟩)]) Tryz.func66 rfl Tryz.ntmps66 rfl ?_
  repeat (first|apply cA|apply cB)
  refine SG.box rfl rfl rfl (by exact rho_of rfl) (fun b1 w1 hk1 hb1 hB1 => ?_)
  have hB1 : Blk w1 b1 (.cells (ec e).toArray 74) := hB1
  obtain ⟨-, q0, q1, -⟩ := ec_rows (Row.all hB1 rfl)
  simp only [Nat.zero_add] at q1
  have h7 := h7.kp0 hk1
  have hm := hm.kp0 hk1
  have hup := upB_iff (e := e.en) hM
  cases hl : alook m e.x.t.frm with
  | none =>
    have e1 : upB L e.en = false := by
      cases hb : upB L e.en with
      | false => rfl
      | true =>
        obtain ⟨n, h1, h2⟩ := hup.1 hb
        have h1 : alook m e.x.t.frm = some n := h1
        rw [hl] at h1
        cases h1
    rw [e1]
    repeat (first | first|apply cA|apply cB|apply cD|apply cE|apply cH|refine cV rfl rfl rfl rfl (by first|((first|apply qmv|apply qas|apply qlc|apply qla|apply qfa|apply qpk|apply qlk|apply qxt)<;>(first|exact rfl|assumption|exact List.not_mem_nil|apply dc_length|exact lk0 (by assumption)|fail))|fail) ?_ | refine cX rfl rfl ?_)
    refine ret1 (Or.inl rfl) Tryz.results66 (by first | exact ResV.tmp rfl | exact ResV.agg rfl rfl (by assumption) (by first | exact dc_length _ | exact nc_length _ | exact rc_length _ _ _ | exact ec_length _ | exact dl_length _ _ _ _ | rfl) | exact ResV.cell rfl rfl (by assumption)) ?_
    exact ⟨rfl, hk1⟩
  | some n =>
    by_cases g : e.x.t.non ≤ n
    · have e1 : upB L e.en = true := hup.2 ⟨n, hl, g⟩
      rw [e1]
      repeat (first|apply cA|apply cB|apply cD|apply cE|apply cH|refine cV rfl rfl rfl rfl (by first|((first|apply qmv|apply qas|apply qlc|apply qla|apply qfa|apply qpk|apply qle|apply qlk|apply qxt)<;>(first|exact rfl|assumption|exact dct (by first|assumption|omega)|exact List.not_mem_nil|apply dc_length|exact lk1 (by assumption)|fail))|fail) ?_)
      refine ret1 (Or.inl rfl) Tryz.results66 (by first | exact ResV.tmp rfl | exact ResV.agg rfl rfl (by assumption) (by first | exact dc_length _ | exact nc_length _ | exact rc_length _ _ _ | exact ec_length _ | exact dl_length _ _ _ _ | rfl) | exact ResV.cell rfl rfl (by assumption)) ?_
      exact ⟨rfl, hk1⟩
    · have e1 : upB L e.en = false := by
        cases hb : upB L e.en with
        | false => rfl
        | true =>
          obtain ⟨n', h1, h2⟩ := hup.1 hb
          have h1 : alook m e.x.t.frm = some n' := h1
          rw [hl] at h1
          cases h1
          exact absurd h2 g
      rw [e1]
      repeat (first|apply cA|apply cB|apply cD|apply cE|apply cH|refine cV rfl rfl rfl rfl (by first|((first|apply qmv|apply qas|apply qlc|apply qla|apply qfa|apply qpk|apply qle|apply qlk|apply qxt)<;>(first|exact rfl|assumption|exact dcf (by first|assumption|omega)|exact List.not_mem_nil|apply dc_length|exact lk1 (by assumption)|fail))|fail) ?_)
      refine ret1 (Or.inl rfl) Tryz.results66 (by first | exact ResV.tmp rfl | exact ResV.agg rfl rfl (by assumption) (by first | exact dc_length _ | exact nc_length _ | exact rc_length _ _ _ | exact ec_length _ | exact dl_length _ _ _ _ | rfl) | exact ResV.cell rfl rfl (by assumption)) ?_
      exact ⟨rfl, hk1⟩
set_option maxHeartbeats 32000000 in
theorem must_spec {w : World} {base p : Nat} {v : Value} {room : Int} {ms : List Em} (hP : Pl w base p v room ms) (hI : PInv room (ms.map Em.en)) (hr : room ≤ 1024) {h f l s : Int} (hh : fit64 h) (hl : fit64 l) :
    Calls Tryz.prog 32 #[.pointer (some ⟨p, 0, none⟩), .int .i64 h, .agg #[.int .i64 f, .int .i64 l, .int .i64 s]] w (fun e w' => ∃ v' xs, e = .returned v' ∧ Kp [] w w' ∧ TxsO w' w.heap.size v' xs ∧ xs.map (·.t) = ((ordE (ms.map Em.en)).filter (upB (dueL (ms.map Em.en) h l))).map (·.t)) := by
  refine enter3 Tryz.func32 rfl Tryz.ntmps32 rfl ?_
  have hll : ms.length ≤ 1024 := by have := hI.len; rw [List.length_map] at this; omega
  have hlp := hP.blk.lt
  have hvp : ∀ b, v.ownBlock = some b → b < w.heap.size := own_lt hP.own
  repeat (first|apply cA|apply cB)
  refine SG.box rfl rfl rfl (by exact rho_of rfl) (fun b5 w1 hk1 hb5 hB5 => ?_)
  have hB5 : Blk w1 b5 (.cells #[.int .i64 f, .int .i64 l, .int .i64 s] 83) := hB5
  have r5 : Row w1 b5 1 [.int .i64 l] := Row.of hB5 [.int .i64 f] [.int .i64 s] rfl rfl
  have lt5 := hB5.lt
  clear hB5
  repeat (first|apply cA|apply cB|apply cD|apply cE|refine cV rfl rfl rfl rfl (by first|((first|apply qep|apply qmv|apply qas|apply qep)<;>(exact rfl))|fail) ?_)
  refine dA rfl (by exact rho_of rfl) rfl ?_
  repeat (first|apply cA|apply cB|apply cE|apply cF)
  refine SG.makeMap (dv (n := 8)) zcv rfl rfl (fun bm w2 hk2 hbm hm => ?_)
  refine SG.alloc rfl rfl rfl (fun b7 w3 hk3 hb7 hB7 => ?_)
  have k3 := (hk1.trans hk2).trans hk3
  have s1 := hk1.size
  have s2 := hk2.size
  have ltm := hm.lt
  have hm := hm.kp0 hk3
  refine SG.setAll1 rfl rfl (by exact rho_of rfl) (by exact rho_of rfl) hB7 rfl rfl (fun w4 hk4 hB7 => ?_)
  have hm : MapIs w4 bm (dv (n := 8)) zcv [] := hm.kp hk4 (nm1 (by omega))
  have r7 : Row w4 b7 0 [.map (some bm)] := Row.all hB7 rfl
  have k4 : Kp [] w w4 := k3.trans_new hk4 (new1 (by omega))
  have lt7 := hB7.lt
  have hP4 := hP.kp0 k4
  have r5 : Row w4 b5 1 [.int .i64 l] := ((r5.kp0 hk2).kp0 hk3).kp hk4 (nm1 (by omega))
  obtain ⟨a, c, rfl, hc, hS⟩ := hP4.sl
  obtain ⟨-, q1⟩ := hP4.rows
  have s4 := k4.size
  clear hB7
  repeat (first|apply cA|apply cB|apply cD|apply cE|apply cG|refine cV rfl rfl rfl rfl (by first|((first|apply qmv|apply qlc|apply qfa|apply qnc|apply qln)<;>(first|exact rfl|assumption|exact List.not_mem_nil))|fail) ?_)
  refine CG.loop (X := Nat × List (Dg × Int)) (fun x => [(0, .pointer (some ⟨p, 0, none⟩)), (1, .int .i64 h), (5, .pointer (some ⟨b5, 0, none⟩)), (7, .pointer (some ⟨b7, 0, none⟩)), (18, .slice a ms.length c), (19, .int .i64 (ms.length : Int)), (20, .int .i64 (x.1 : Int))])
    (fun x w' => x.1 ≤ ms.length ∧ Kp [bm] w4 w' ∧ MapIs w' bm (dv (n := 8)) zcv x.2 ∧ MaxM x.2 (dueL ((ms.map Em.en).take x.1) h l)) (fun x => ms.length - x.1) (0, []) ⟨Nat.zero_le _, Kp.refl _ _, hm, MaxM.nil⟩ (by (repeat' (first | exact True.intro | exact rfl | refine And.intro ?_ ?_))) ?_
  clear q1
  rintro ⟨i, m⟩ w5 ⟨hi, hk5, hm5, hM⟩
  simp only at hi hm5 hM
  refine CG.to [(0, .pointer (some ⟨p, 0, none⟩)), (1, .int .i64 h), (5, .pointer (some ⟨b5, 0, none⟩)), (7, .pointer (some ⟨b7, 0, none⟩)), (18, .slice a ms.length c), (19, .int .i64 (ms.length : Int)), (20, .int .i64 (i : Int))] (by (repeat' (first | exact True.intro | exact rfl | refine And.intro ?_ ?_))) ?_
  have k5 : Kp [] w w5 := k4.trans_new hk5 (new1 (by omega))
  have hP5 := hP.kp0 k5
  have r5' : Row w5 b5 1 [.int .i64 l] := r5.kp hk5 (nm1 (by omega))
  have r7' : Row w5 b7 0 [.map (some bm)] := r7.kp hk5 (nm1 (by omega))
  have s5 := hk5.size
  by_cases hlt : i < ms.length
  rotate_left
  · have g1 : ¬ (i : Int) < (ms.length : Int) := by omega
    rw [List.take_of_length_le (by rw [List.length_map]; omega)] at hM
    repeat (first|apply cA|apply cB|apply cD|apply cE|refine cV rfl rfl rfl rfl (by first|(apply qls<;>(first|exact rfl|exact dcf (by first|assumption|omega)|fail))|fail) ?_)
    refine dA rfl (by exact rho_of rfl) rfl ?_
    repeat (first|apply cA|apply cB|apply cE|apply cJ|apply cM|refine cQ rfl ?_|refine cV rfl rfl rfl rfl (by first|(apply qmv<;>(exact rfl))|fail) ?_)
    refine cV rfl rfl rfl rfl (qmf (vs := [.pointer (some ⟨b7, 0, none⟩)]) rfl) ?_
    refine SG.call rfl rfl rfl (vs := [.pointer (some ⟨p, 0, none⟩), fnv 61 [.pointer (some ⟨b7, 0, none⟩)]]) (by repeat' (first | exact True.intro | exact rho_of rfl | refine And.intro ?_ ?_)) ((pickF_spec (Fn := by infer_instance) hP5 hI hr (upB (dueL (ms.map Em.en) h l)) (fun e W T hT hk => must1_spec e (r7'.kp hk (fun hm => by have := hT _ hm; omega)) (hm5.kp hk (fun hm => by have := hT _ hm; omega)) hM)).mono (fun e w6 hh => ?_))
    obtain ⟨v', xs, he, hk6, hX, hxs⟩ := hh
    refine ⟨_, he, ?_⟩
    repeat (first|apply cD|apply cE|apply cH|refine cV rfl rfl rfl rfl (by first|(apply qas<;>(exact rfl))|fail) ?_)
    refine ret1 (Or.inl rfl) Tryz.results32 (by first | exact ResV.tmp rfl | exact ResV.agg rfl rfl (by assumption) (by first | exact dc_length _ | exact nc_length _ | exact rc_length _ _ _ | exact ec_length _ | exact dl_length _ _ _ _ | rfl) | exact ResV.cell rfl rfl (by assumption)) ?_
    exact ⟨v', xs, rfl, k5.trans hk6, ⟨own_mono hX.own k5.size, hX.ins⟩, hxs⟩
  have g1 : (i : Int) < (ms.length : Int) := by omega
  obtain ⟨a', c', e', -, hS5⟩ := hP5.sl
  cases e'
  obtain ⟨g, o1, rfl, hri⟩ := hS5.at hlt
  have hsu := dueL_succ (l := ms.map Em.en) (h := h) (leave := l) (i := i) (by simpa using hlt)
  rw [List.getElem_map] at hsu
  have hsc := hI.sc _ (List.mem_map.2 ⟨ms[i], List.getElem_mem hlt, rfl⟩)
  have hsc : 0 ≤ ms[i].since ∧ ms[i].since ≤ 1099511627776 := hsc
  repeat (first|apply cA|apply cB|apply cD|apply cE|refine cV rfl rfl rfl rfl (by first|(apply qls<;>(first|exact rfl|exact dct (by first|assumption|omega)|fail))|fail) ?_)
  refine cZ rfl (by exact rho_of rfl) rfl ?_
  repeat (first|apply cA|apply cB|apply cE|apply cF|apply cG|refine cV rfl rfl rfl rfl (by first|((first|apply qla|apply qix)<;>(first|exact rfl|exact Ar.mk (by omega)|assumption|exact List.not_mem_nil|apply ec_length|fail))|fail) ?_)
  refine SG.alloc rfl rfl rfl (fun b9 w6 hk6 hb9 hB9 => ?_)
  refine SG.setAll (l := ec ms[i]) rfl rfl (by exact rho_of rfl) (by exact rho_of rfl) hB9 (ec_length _) rfl (ec_one _) (fun w7 hk7 hB9 => ?_)
  have k57 : Kp [] w5 w7 := hk6.trans_new hk7 (new1 (by omega))
  have r9 : Row w7 b9 0 (ec ms[i]) := Row.all hB9 rfl
  obtain ⟨-, q0, q1, -, -, q5⟩ := ec_rows r9
  simp only [Nat.zero_add] at q0 q1 q5
  have r5' := r5'.kp0 k57
  have r7' := r7'.kp0 k57
  have hm7 := hm5.kp0 k57
  clear hri r9
  repeat (first|apply cA|apply cB|apply cD|apply cE|refine cV rfl rfl rfl rfl (by first|((first|apply qmv|apply qlc|apply qfa)<;>(first|exact rfl|assumption|exact List.not_mem_nil))|fail) ?_)
  refine SG.ret rfl rfl rfl (vs := [.int .i64 h, .int .i64 ms[i].since, .int .i64 l]) (by repeat' (first | exact True.intro | exact rho_of rfl | refine And.intro ?_ ?_)) (due_spec hh hsc.1 hsc.2 hl) (fun w8 hk8 => ?_)
  have k58 := k57.trans hk8
  have q0 := q0.kp0 hk8
  have q1 := q1.kp0 hk8
  have r7' := r7'.kp0 hk8
  have hm8 := hm7.kp0 hk8
  have hdd : dueB h l ms[i].en = decide (l ≤ h - ms[i].since - 1) := rfl
  rw [hdd] at hsu
  by_cases hd : l ≤ h - ms[i].since - 1
  rotate_left
  · rw [decide_eq_false hd] at hsu ⊢
    rw [if_neg (by decide)] at hsu
    repeat (first|apply cD|apply cE)
    refine dA rfl (by exact rho_of rfl) rfl ?_
    repeat (first|apply cB|apply cD|apply cE|apply cF|apply cU|refine cV rfl rfl rfl rfl (by first|((first|apply qmv|apply qad)<;>(first|exact rfl|exact Ar.mk (by omega)|fail))|fail) ?_)
    refine NG.round (i + 1, m) (by (repeat' (first | exact True.intro | exact rfl | refine And.intro ?_ ?_))) ⟨by simp only; omega, hk5.trans k58.any, hm8, by simp only; rw [hsu]; exact hM⟩ (by simp only; omega)
  rw [decide_eq_true hd] at hsu ⊢
  rw [if_pos rfl] at hsu
  have hpe : pairE ms[i].en = (ms[i].x.t.frm, ms[i].x.t.non) := rfl
  rw [hpe] at hsu
  have put : (∀ n, alook m ms[i].x.t.frm = some n → n < ms[i].x.t.non) → MaxM (aput m ms[i].x.t.frm ms[i].x.t.non) (dueL ((ms.map Em.en).take (i + 1)) h l) := fun hn => by rw [hsu]; exact hM.put hn
  cases hlk : alook m ms[i].x.t.frm with
  | none =>
    have hput := put (fun n hn => by rw [hlk] at hn; cases hn)
    repeat (first|apply cD|apply cE)
    refine cZ rfl (by exact rho_of rfl) rfl ?_
    repeat (first | first|apply cA|apply cB|apply cD|apply cE|refine cV rfl rfl rfl rfl (by first|((first|apply qmv|apply qas|apply qlc|apply qla|apply qfa|apply qpk|apply qlk|apply qxt|apply qnt)<;>(first|exact rfl|assumption|exact List.not_mem_nil|apply dc_length|exact lk0 (by assumption)|fail))|fail) ?_ | refine cX rfl rfl ?_)
    refine cZ rfl (by exact rho_of rfl) rfl ?_
    repeat (first|apply cB|refine cV rfl rfl rfl rfl (by first|((first|apply qlc|apply qla|apply qfa)<;>(first|exact rfl|assumption|exact List.not_mem_nil|apply dc_length))|fail) ?_)
    refine SG.mapUpdate (enc := dv (n := 8)) (V := zcv) (kx := ms[i].x.t.frm) (vy := ms[i].x.t.non) rfl rfl (by exact rho_of rfl) (by exact rho_of rfl) (by exact rho_of rfl) hm8 BArr.key (fun w9 hk9 hm9 => ?_)
    repeat (first|apply cB|apply cD|apply cE|apply cU|refine cV rfl rfl rfl rfl (by first|((first|apply qmv|apply qad)<;>(first|exact rfl|exact Ar.mk (by omega)|fail))|fail) ?_)
    refine NG.round (i + 1, _) (by (repeat' (first | exact True.intro | exact rfl | refine And.intro ?_ ?_))) ⟨by simp only; omega, (hk5.trans k58.any).trans hk9, hm9, hput⟩ (by simp only; omega)
  | some n =>
    by_cases hlt2 : n < ms[i].x.t.non
    · have hput := put (fun n' hn => by rw [hlk] at hn; cases hn; exact hlt2)
      repeat (first|apply cD|apply cE)
      refine cZ rfl (by exact rho_of rfl) rfl ?_
      repeat (first|apply cA|apply cB|apply cD|apply cE|refine cV rfl rfl rfl rfl (by first|((first|apply qmv|apply qas|apply qlc|apply qla|apply qfa|apply qpk|apply qls|apply qlk|apply qxt|apply qnt)<;>(first|exact rfl|assumption|exact dct (by first|assumption|omega)|exact List.not_mem_nil|apply dc_length|exact lk1 (by assumption)|fail))|fail) ?_)
      refine cZ rfl (by exact rho_of rfl) rfl ?_
      repeat (first|apply cB|refine cV rfl rfl rfl rfl (by first|((first|apply qlc|apply qla|apply qfa)<;>(first|exact rfl|assumption|exact List.not_mem_nil|apply dc_length))|fail) ?_)
      refine SG.mapUpdate (enc := dv (n := 8)) (V := zcv) (kx := ms[i].x.t.frm) (vy := ms[i].x.t.non) rfl rfl (by exact rho_of rfl) (by exact rho_of rfl) (by exact rho_of rfl) hm8 BArr.key (fun w9 hk9 hm9 => ?_)
      repeat (first|apply cB|apply cD|apply cE|apply cU|refine cV rfl rfl rfl rfl (by first|((first|apply qmv|apply qad)<;>(first|exact rfl|exact Ar.mk (by omega)|fail))|fail) ?_)
      refine NG.round (i + 1, _) (by (repeat' (first | exact True.intro | exact rfl | refine And.intro ?_ ?_))) ⟨by simp only; omega, (hk5.trans k58.any).trans hk9, hm9, hput⟩ (by simp only; omega)
    · have hkeep : MaxM m (dueL ((ms.map Em.en).take (i + 1)) h l) := by rw [hsu]; exact hM.keep hlk hlt2
      repeat (first|apply cD|apply cE)
      refine cZ rfl (by exact rho_of rfl) rfl ?_
      repeat (first|apply cA|apply cB|apply cD|apply cE|refine cV rfl rfl rfl rfl (by first|((first|apply qmv|apply qas|apply qlc|apply qla|apply qfa|apply qpk|apply qls|apply qlk|apply qxt|apply qnt)<;>(first|exact rfl|assumption|exact dcf (by first|assumption|omega)|exact List.not_mem_nil|apply dc_length|exact lk1 (by assumption)|fail))|fail) ?_)
      refine dA rfl (by exact rho_of rfl) rfl ?_
      repeat (first|apply cB|apply cD|apply cE|apply cF|apply cU|refine cV rfl rfl rfl rfl (by first|((first|apply qmv|apply qad)<;>(first|exact rfl|exact Ar.mk (by omega)|fail))|fail) ?_)
      refine NG.round (i + 1, m) (by (repeat' (first | exact True.intro | exact rfl | refine And.intro ?_ ?_))) ⟨by simp only; omega, hk5.trans k58.any, hm8, hkeep⟩ (by simp only; omega)
end Go.Proofs.YtgbgnlboogalgaaGreat
namespace Go.Proofs.YtgbgnlboogalgaaGreat
open Go.Proofs
set_option linter.unusedVariables false
/-- None of S holds cells of a type, none is older than n. -/
def NoT (T : TypeId) (n : Nat) (w : World) (S : List Nat) : Prop := ∀ b ∈ S, n ≤ b ∧ ∀ cs f, w.heap[b]? ≠ some (.cells cs T f)
/-- The block of a slice is of a type, or is older than n. -/
def Tg {α : Type} (T : TypeId) (n : Nat) (w : World) (a : Option Addr) (l : List α) : Prop := Ty T w a l ∨ ∀ b off, a = some ⟨b, off, none⟩ → b < n
theorem Sl.kpT {α : Type} {enc : α → List Value} {sz n : Nat} {T : TypeId} {S : List Nat} {w w' : World} {a : Option Addr} {l : List α} (h : Sl enc sz w a l) (ht : Tg T n w a l) (hk : Kp S w w') (hS : NoT T n w S) : Sl enc sz w' a l ∧ Tg T n w' a l := by
  have key : l ≠ [] → ∀ b off, a = Option.some ⟨b, off, Option.none⟩ → b ∉ S := fun hn b off e hm => by
    rcases ht with ht | ht
    · obtain ⟨cs, f, hc⟩ := ht hn b off e
      exact (hS b hm).2 cs f hc
    · have := ht b off e
      have := (hS b hm).1
      omega
  exact ⟨h.kpN hk key, ht.elim (fun h => Or.inl (h.kp hk key)) Or.inr⟩
theorem NoT.cells {T T' : TypeId} {w : World} {b : Nat} {cs : Array Value} (h : Blk w b (.cells cs T')) (hT : T' ≠ T) : ∀ cs f, w.heap[b]? ≠ some (.cells cs T f) := fun cs' f e => by
  have := h.uniq e
  simp only [Obj.cells.injEq] at this
  exact hT this.2.1
theorem NoT.own {T T' : TypeId} {w : World} {n0 base n sz : Nat} {v : Value} {xs : List Value} (ho : w.ownsRow base T' sz v n xs) (hn : n0 ≤ base) (hT : T' ≠ T) : NoT T n0 w (ownB v) := fun b hb => by
  have hb' := ownB_mem hb
  refine ⟨Nat.le_trans hn (own_geB ho b hb'), ?_⟩
  rcases ho.2 with ⟨rfl, _⟩ | ⟨g, cap, cur, rfl, _, hg, _⟩
  · cases hb'
  · cases hb'
    exact NoT.cells hg hT
theorem NoT.cons {T : TypeId} {n : Nat} {w : World} {b : Nat} {S : List Nat} (hb : n ≤ b) (h : ∀ cs f, w.heap[b]? ≠ some (.cells cs T f)) (hS : NoT T n w S) : NoT T n w (b :: S) := fun z hz => by
  rcases List.mem_cons.1 hz with rfl | hz
  · exact ⟨hb, h⟩
  · exact hS z hz
theorem NoT.nil {T : TypeId} {n : Nat} {w : World} : NoT T n w [] := fun z hz => (by cases hz)
theorem Pl.noT {w : World} {base p : Nat} {v : Value} {room : Int} {ms : List Em} (h : Pl w base p v room ms) {T : TypeId} (h1 : 72 ≠ T) (h2 : 74 ≠ T) : NoT T base w (p :: ownB v) := NoT.cons h.bp (NoT.cells h.blk h1) (NoT.own h.own (Nat.le_refl _) h2)
/-- Transactions that come, in memory. -/
structure TxsI (w : World) (n : Nat) (a : Option Addr) (xs : List Tm) : Prop where
  sl : Sl txc 13 w a xs
  tg : Tg 40 n w a xs
  ins : ∀ x ∈ xs, x.In n w
theorem TxsI.kp {w w' : World} {n : Nat} {a : Option Addr} {xs : List Tm} {S : List Nat} (h : TxsI w n a xs) (hk : Kp S w w') (hO : Oth n w S) (hT : NoT 40 n w S) : TxsI w' n a xs :=
  ⟨(h.sl.kpT h.tg hk hT).1, (h.sl.kpT h.tg hk hT).2, fun x hx => (h.ins x hx).kpO hk hO⟩
theorem TxsI.kp0 {w w' : World} {n : Nat} {a : Option Addr} {xs : List Tm} (h : TxsI w n a xs) (hk : Kp [] w w') : TxsI w' n a xs := h.kp hk Oth.nil NoT.nil
theorem TxsI.kpP {w w' : World} {base p : Nat} {v : Value} {room : Int} {ms : List Em} {a : Option Addr} {xs : List Tm} (h : TxsI w base a xs) (hP : Pl w base p v room ms) (hk : Kp (p :: ownB v) w w') : TxsI w' base a xs := h.kp hk hP.oth (hP.noT (by decide) (by decide))
def pairT (t : Tx) : Dg × Int := (t.frm, t.non)
/-- What stays behind a block of some. -/
def doneL (l : List En) (ts : List Tx) : List En := l.filter (fun e => !upB (ts.map pairT) e)
theorem doneL_le (l : List En) (ts : List Tx) : (doneL l ts).length ≤ l.length := List.length_filter_le _ _
theorem doneL_inv {room : Int} {l : List En} {ts : List Tx} (h : PInv room l) : PInv room (doneL l ts) :=
  ⟨List.Pairwise.sublist List.filter_sublist h.dst, by have := h.len; have := doneL_le l ts; omega, fun e he => h.ok e (List.mem_filter.1 he).1, fun e he => h.sc e (List.mem_filter.1 he).1⟩
theorem filt_map (ms : List Em) (q : En → Bool) : (ms.filter (fun e => !q e.en)).map Em.en = (ms.map Em.en).filter (fun e => !q e) := by
  rw [List.filter_map]
  rfl
attribute [local irreducible] CG NG SG Vals Der Row Blk MapIs IterAt nameT wrongT
set_option maxHeartbeats 16000000 in
theorem pdrop_spec {w : World} {base p : Nat} {v : Value} {room : Int} {ms : List Em} (hP : Pl w base p v room ms) (hll : ms.length ≤ 1024) {f : FuncId} [Fn : Fnc Tryz.prog f] {caps : List Value} (q : Em → Bool) (hq : ∀ o ∈ ms, ∀ W, Kp (ownB v) w W → Ret Tryz.prog f (ev o :: caps).toArray W (.bool (q o))) :
    Calls Tryz.prog 65 #[.pointer (some ⟨p, 0, none⟩), fnv f caps] w (fun e w' => e = .returned (.int .i64 ((ms.length : Int) - ((ms.filter (fun e => !q e)).length : Int))) ∧ ∃ v', Pl w' base p v' room (ms.filter (fun e => !q e)) ∧ Kp (p :: ownB v) w w' ∧ ∀ g, v'.ownBlock = some g → v.ownBlock = some g) := by
  refine enter2 Tryz.func65 rfl Tryz.ntmps65 rfl ?_
  obtain ⟨a, c, hv, hc, hS⟩ := hP.sl
  obtain ⟨-, q1⟩ := hP.rows
  rw [hv] at q1
  repeat (first|apply cA|apply cB|apply cD|apply cE|refine cV rfl rfl rfl rfl (by first|((first|apply qmv|apply qas|apply qlc|apply qfa|apply qnc|apply qln)<;>(first|exact rfl|assumption|exact List.not_mem_nil))|fail) ?_)
  rw [← hv]
  refine SG.call rfl rfl rfl (vs := [v, fnv f caps]) (by repeat' (first | exact True.intro | exact rho_of rfl | refine And.intro ?_ ?_)) ((delf_spec (Fn := Fn) hP.own (by omega) hq).mono (fun e w1 hh => ?_))
  obtain ⟨v1, he, ho1, hk1, hv1⟩ := hh
  refine ⟨_, he, ?_⟩
  clear q1 he
  have hB1 := hP.blk.kp hk1 hP.np
  have hn1 : ∀ b, v1.ownBlock = some b → b ∉ [p] := own_neb ho1 (by decide) hB1
  have hfl : (ms.filter (fun e => !q e)).length ≤ ms.length := List.length_filter_le _ _
  obtain ⟨a1, c1, rfl, -, -⟩ := Sl.own (l := ms.filter (fun e => !q e)) ec_length ho1 rfl
  subst hv
  repeat (first|refine cV rfl rfl rfl rfl (by first|((first|apply qfa|apply qnc)<;>(exact rfl))|fail) ?_)
  refine SG.setMid [.int .i64 room] [.slice a ms.length c] [] rfl rfl (by exact rho_of rfl) (by exact rho_of rfl) hB1 rfl rfl rfl rfl rfl (fun w2 hk2 hB2 => ?_)
  have hB2 : Blk w2 p (.cells #[.int .i64 room, .slice a1 (ms.filter (fun e => !q e)).length c1] 72) := hB2
  have hP2 : Pl w2 base p (.slice a1 (ms.filter (fun e => !q e)).length c1) room (ms.filter (fun e => !q e)) := by
    refine ⟨hB2, own_kpB ho1 hk2 hn1, fun e he => ?_, hP.bp⟩
    exact ((hP.ins e (List.mem_filter.1 he).1).kpO hk1 (Oth.own hP.own (Nat.le_refl _) (by decide))).kpO hk2 (Oth.cons hP.bp (Oth.cells hB1 (by decide)) Oth.nil)
  obtain ⟨-, q2⟩ := hP2.rows
  repeat (first|apply cA|apply cB|apply cD|apply cE|apply cH|refine cV rfl rfl rfl rfl (by first|((first|apply qmv|apply qas|apply qlc|apply qfa|apply qnc|apply qln|apply qsb)<;>(first|exact rfl|exact Ar.mk (by omega)|assumption|exact List.not_mem_nil|fail))|fail) ?_)
  refine ret1 (Or.inl rfl) Tryz.results65 (by first | exact ResV.tmp rfl | exact ResV.agg rfl rfl (by assumption) (by first | exact dc_length _ | exact nc_length _ | exact rc_length _ _ _ | exact ec_length _ | exact dl_length _ _ _ _ | rfl) | exact ResV.cell rfl rfl (by assumption)) ?_
  exact ⟨rfl, _, hP2, (hk1.mono (fun z hz => List.mem_cons_of_mem _ hz)).trans (hk2.mono (fun z hz => by rw [List.mem_singleton] at hz; rw [hz]; exact List.mem_cons_self)), hv1⟩
set_option maxHeartbeats 32000000 in
theorem done_spec {w : World} {base p : Nat} {v : Value} {room : Int} {ms : List Em} (hP : Pl w base p v room ms) (hI : PInv room (ms.map Em.en)) (hr : room ≤ 1024) {a : Option Addr} {c : Nat} {xs : List Tm} (hX : Sl txc 13 w a xs) (hxl : xs.length ≤ 1000000) :
    Calls Tryz.prog 38 #[.pointer (some ⟨p, 0, none⟩), .slice a xs.length c] w (fun e w' => e = .returned (.int .i64 ((ms.length : Int) - ((doneL (ms.map Em.en) (xs.map (·.t))).length : Int))) ∧ ∃ v' ms', Pl w' base p v' room ms' ∧ ms'.map Em.en = doneL (ms.map Em.en) (xs.map (·.t)) ∧ Kp (p :: ownB v) w w' ∧ ∀ g, v'.ownBlock = some g → v.ownBlock = some g) := by
  refine enter2 Tryz.func38 rfl Tryz.ntmps38 rfl ?_
  have hll : ms.length ≤ 1024 := by have := hI.len; rw [List.length_map] at this; omega
  have hlp := hP.blk.lt
  have hvp : ∀ b, v.ownBlock = some b → b < w.heap.size := own_lt hP.own
  repeat (first|apply cA|apply cB|apply cD|apply cE|refine cV rfl rfl rfl rfl (by first|((first|apply qep|apply qmv|apply qas|apply qep)<;>(exact rfl))|fail) ?_)
  refine dA rfl (by exact rho_of rfl) rfl ?_
  repeat (first|apply cA|apply cB|apply cE|apply cF)
  refine SG.makeMap (dv (n := 8)) zcv rfl rfl (fun bm w2 hk2 hbm hm => ?_)
  refine SG.alloc rfl rfl rfl (fun b7 w3 hk3 hb7 hB7 => ?_)
  have k3 := hk2.trans hk3
  have s2 := hk2.size
  have ltm := hm.lt
  have hm := hm.kp0 hk3
  refine SG.setAll1 rfl rfl (by exact rho_of rfl) (by exact rho_of rfl) hB7 rfl rfl (fun w4 hk4 hB7 => ?_)
  have hm : MapIs w4 bm (dv (n := 8)) zcv [] := hm.kp hk4 (nm1 (by omega))
  have r7 : Row w4 b7 0 [.map (some bm)] := Row.all hB7 rfl
  have k4 : Kp [] w w4 := k3.trans_new hk4 (new1 (by omega))
  have lt7 := hB7.lt
  have s4 := k4.size
  have hX4 := hX.kp0 k4
  clear hB7
  repeat (first|apply cA|apply cB|apply cD|apply cE|apply cG|refine cV rfl rfl rfl rfl (by first|((first|apply qmv|apply qln)<;>(exact rfl))|fail) ?_)
  refine CG.loop (X := Nat × List (Dg × Int)) (fun x => [(0, .pointer (some ⟨p, 0, none⟩)), (5, .pointer (some ⟨b7, 0, none⟩)), (13, .slice a xs.length c), (14, .int .i64 (xs.length : Int)), (15, .int .i64 (x.1 : Int))])
    (fun x w' => x.1 ≤ xs.length ∧ Kp [bm] w4 w' ∧ MapIs w' bm (dv (n := 8)) zcv x.2 ∧ MaxM x.2 (((xs.map (·.t)).take x.1).map pairT)) (fun x => xs.length - x.1) (0, []) ⟨Nat.zero_le _, Kp.refl _ _, hm, MaxM.nil⟩ (by (repeat' (first | exact True.intro | exact rfl | refine And.intro ?_ ?_))) ?_
  rintro ⟨i, m⟩ w5 ⟨hi, hk5, hm5, hM⟩
  simp only at hi hm5 hM
  refine CG.to [(0, .pointer (some ⟨p, 0, none⟩)), (5, .pointer (some ⟨b7, 0, none⟩)), (13, .slice a xs.length c), (14, .int .i64 (xs.length : Int)), (15, .int .i64 (i : Int))] (by (repeat' (first | exact True.intro | exact rfl | refine And.intro ?_ ?_))) ?_
  have k5 : Kp [] w w5 := k4.trans_new hk5 (new1 (by omega))
  have hP5 := hP.kp0 k5
  have r7' : Row w5 b7 0 [.map (some bm)] := r7.kp hk5 (nm1 (by omega))
  have s5 := hk5.size
  by_cases hlt : i < xs.length
  rotate_left
  · have g1 : ¬ (i : Int) < (xs.length : Int) := by omega
    rw [List.take_of_length_le (by rw [List.length_map]; omega)] at hM
    have hfm := filt_map ms (upB ((xs.map (·.t)).map pairT))
    have hfl : (ms.filter (fun e => !upB ((xs.map (·.t)).map pairT) e.en)).length = (doneL (ms.map Em.en) (xs.map (·.t))).length := by
      rw [← List.length_map (f := Em.en), hfm]
      rfl
    repeat (first|apply cA|apply cB|apply cD|apply cE|refine cV rfl rfl rfl rfl (by first|(apply qls<;>(first|exact rfl|exact dcf (by first|assumption|omega)|fail))|fail) ?_)
    refine dA rfl (by exact rho_of rfl) rfl ?_
    repeat (first|apply cA|apply cB|apply cE|apply cJ|apply cM|refine cQ rfl ?_|refine cV rfl rfl rfl rfl (by first|(apply qmv<;>(exact rfl))|fail) ?_)
    refine cV rfl rfl rfl rfl (qmf (vs := [.pointer (some ⟨b7, 0, none⟩)]) rfl) ?_
    refine SG.call rfl rfl rfl (vs := [.pointer (some ⟨p, 0, none⟩), fnv 66 [.pointer (some ⟨b7, 0, none⟩)]]) (by repeat' (first | exact True.intro | exact rho_of rfl | refine And.intro ?_ ?_)) ((pdrop_spec (Fn := by infer_instance) hP5 hll (fun e => upB ((xs.map (·.t)).map pairT) e.en) (fun e _ W hk => done1_spec e (r7'.kp hk (fun hm => by have := hvp _ (ownB_mem hm); omega)) (hm5.kp hk (fun hm => by have := hvp _ (ownB_mem hm); omega)) hM)).mono (fun e w6 hh => ?_))
    obtain ⟨he, v', hP6, hk6, hv6⟩ := hh
    refine ⟨_, he, ?_⟩
    rw [hfl]
    repeat (first|apply cD|apply cE|apply cH|refine cV rfl rfl rfl rfl (by first|(apply qas<;>(exact rfl))|fail) ?_)
    refine ret1 (Or.inl rfl) Tryz.results38 (by first | exact ResV.tmp rfl | exact ResV.agg rfl rfl (by assumption) (by first | exact dc_length _ | exact nc_length _ | exact rc_length _ _ _ | exact ec_length _ | exact dl_length _ _ _ _ | rfl) | exact ResV.cell rfl rfl (by assumption)) ?_
    exact ⟨rfl, v', _, hP6, hfm, k5.any.trans hk6, hv6⟩
  have g1 : (i : Int) < (xs.length : Int) := by omega
  have hS5 : Sl txc 13 w5 a xs := hX4.kpN hk5 (fun hn b off e => nm1 (by have := hX.ltN hn b off e; omega))
  obtain ⟨g, o1, rfl, hri⟩ := hS5.at hlt
  have hsu : ((xs.map (·.t)).take (i + 1)).map pairT = ((xs.map (·.t)).take i).map pairT ++ [(xs[i].t.frm, xs[i].t.non)] := by
    rw [List.take_succ_eq_append_getElem (by simpa using hlt), List.map_append, List.getElem_map]
    rfl
  repeat (first|apply cA|apply cB|apply cD|apply cE|refine cV rfl rfl rfl rfl (by first|(apply qls<;>(first|exact rfl|exact dct (by first|assumption|omega)|fail))|fail) ?_)
  refine cZ rfl (by exact rho_of rfl) rfl ?_
  repeat (first|apply cA|apply cB|apply cE|apply cF|apply cG|refine cV rfl rfl rfl rfl (by first|((first|apply qla|apply qix)<;>(first|exact rfl|exact Ar.mk (by omega)|assumption|exact List.not_mem_nil|apply txc_length|fail))|fail) ?_)
  refine SG.alloc rfl rfl rfl (fun b9 w6 hk6 hb9 hB9 => ?_)
  refine SG.setAll (l := txc xs[i]) rfl rfl (by exact rho_of rfl) (by exact rho_of rfl) hB9 (txc_length _) rfl (txc_one _) (fun w7 hk7 hB9 => ?_)
  have k58 : Kp [] w5 w7 := hk6.trans_new hk7 (new1 (by omega))
  have r9 : Row w7 b9 0 (txc xs[i]) := Row.all hB9 rfl
  obtain ⟨q0, q1, -⟩ := txc_rowsO r9
  simp only [Nat.zero_add] at q0 q1
  have r7' := r7'.kp0 k58
  have hm8 := hm5.kp0 k58
  clear hri r9
  have put : (∀ n, alook m xs[i].t.frm = some n → n < xs[i].t.non) → MaxM (aput m xs[i].t.frm xs[i].t.non) (((xs.map (·.t)).take (i + 1)).map pairT) := fun hn => by rw [hsu]; exact hM.put hn
  cases hlk : alook m xs[i].t.frm with
  | none =>
    have hput := put (fun n hn => by rw [hlk] at hn; cases hn)
    repeat (first | first|apply cA|apply cB|apply cD|apply cE|refine cV rfl rfl rfl rfl (by first|((first|apply qmv|apply qas|apply qlc|apply qla|apply qfa|apply qpk|apply qlk|apply qxt|apply qnt)<;>(first|exact rfl|assumption|exact List.not_mem_nil|apply dc_length|exact lk0 (by assumption)|fail))|fail) ?_ | refine cX rfl rfl ?_)
    refine cZ rfl (by exact rho_of rfl) rfl ?_
    repeat (first|apply cB|refine cV rfl rfl rfl rfl (by first|((first|apply qlc|apply qla|apply qfa)<;>(first|exact rfl|assumption|exact List.not_mem_nil|apply dc_length))|fail) ?_)
    refine SG.mapUpdate (enc := dv (n := 8)) (V := zcv) (kx := xs[i].t.frm) (vy := xs[i].t.non) rfl rfl (by exact rho_of rfl) (by exact rho_of rfl) (by exact rho_of rfl) hm8 BArr.key (fun w9 hk9 hm9 => ?_)
    repeat (first|apply cB|apply cD|apply cE|apply cU|refine cV rfl rfl rfl rfl (by first|((first|apply qmv|apply qad)<;>(first|exact rfl|exact Ar.mk (by omega)|fail))|fail) ?_)
    refine NG.round (i + 1, _) (by (repeat' (first | exact True.intro | exact rfl | refine And.intro ?_ ?_))) ⟨by simp only; omega, (hk5.trans k58.any).trans hk9, hm9, hput⟩ (by simp only; omega)
  | some n =>
    by_cases hlt2 : n < xs[i].t.non
    · have hput := put (fun n' hn => by rw [hlk] at hn; cases hn; exact hlt2)
      repeat (first|apply cA|apply cB|apply cD|apply cE|refine cV rfl rfl rfl rfl (by first|((first|apply qmv|apply qas|apply qlc|apply qla|apply qfa|apply qpk|apply qls|apply qlk|apply qxt|apply qnt)<;>(first|exact rfl|assumption|exact dct (by first|assumption|omega)|exact List.not_mem_nil|apply dc_length|exact lk1 (by assumption)|fail))|fail) ?_)
      refine cZ rfl (by exact rho_of rfl) rfl ?_
      repeat (first|apply cB|refine cV rfl rfl rfl rfl (by first|((first|apply qlc|apply qla|apply qfa)<;>(first|exact rfl|assumption|exact List.not_mem_nil|apply dc_length))|fail) ?_)
      refine SG.mapUpdate (enc := dv (n := 8)) (V := zcv) (kx := xs[i].t.frm) (vy := xs[i].t.non) rfl rfl (by exact rho_of rfl) (by exact rho_of rfl) (by exact rho_of rfl) hm8 BArr.key (fun w9 hk9 hm9 => ?_)
      repeat (first|apply cB|apply cD|apply cE|apply cU|refine cV rfl rfl rfl rfl (by first|((first|apply qmv|apply qad)<;>(first|exact rfl|exact Ar.mk (by omega)|fail))|fail) ?_)
      refine NG.round (i + 1, _) (by (repeat' (first | exact True.intro | exact rfl | refine And.intro ?_ ?_))) ⟨by simp only; omega, (hk5.trans k58.any).trans hk9, hm9, hput⟩ (by simp only; omega)
    · have hkeep : MaxM m (((xs.map (·.t)).take (i + 1)).map pairT) := by rw [hsu]; exact hM.keep hlk hlt2
      repeat (first|apply cA|apply cB|apply cD|apply cE|refine cV rfl rfl rfl rfl (by first|((first|apply qmv|apply qas|apply qlc|apply qla|apply qfa|apply qpk|apply qls|apply qlk|apply qxt|apply qnt)<;>(first|exact rfl|assumption|exact dcf (by first|assumption|omega)|exact List.not_mem_nil|apply dc_length|exact lk1 (by assumption)|fail))|fail) ?_)
      refine dA rfl (by exact rho_of rfl) rfl ?_
      repeat (first|apply cB|apply cD|apply cE|apply cF|apply cU|refine cV rfl rfl rfl rfl (by first|((first|apply qmv|apply qad)<;>(first|exact rfl|exact Ar.mk (by omega)|fail))|fail) ?_)
      refine NG.round (i + 1, m) (by (repeat' (first | exact True.intro | exact rfl | refine And.intro ?_ ?_))) ⟨by simp only; omega, hk5.trans k58.any, hm8, hkeep⟩ (by simp only; omega)
end Go.Proofs.YtgbgnlboogalgaaGreat
namespace Go.Proofs.YtgbgnlboogalgaaGreat
open Go.Proofs
set_option linter.unusedVariables false
/-- One that waits, in the document's memory. -/
structure Wm where
  x : Tm
  since : Int
def Wm.en (e : Wm) : En := ⟨e.x.t, e.since⟩
def wc (e : Wm) : List Value := txc e.x ++ [.int .i64 e.since]
theorem wc_length (e : Wm) : (wc e).length = 14 := by simp [wc, txc_length]
theorem wc_one (e : Wm) : allOne (wc e) = true := by
  have h1 := txc_one e.x
  simp only [wc, allOne, List.all_append, Bool.and_eq_true] at *
  exact ⟨h1, rfl⟩
def wv (e : Wm) : Value := .agg (wc e).toArray
theorem wc_rows {w : World} {b off : Nat} {e : Wm} (h : Row w b off (wc e)) : Row w b off (txc e.x) ∧ Row w b off (dc e.x.t.frm) ∧ Row w b (off + 8) [.int .i64 e.x.t.non] ∧ Row w b (off + 9) [.int .i64 e.x.t.fee] ∧ Row w b (off + 13) [.int .i64 e.since] := by
  have h0 := h.part [] (txc e.x) [Value.int .i64 e.since] (by simp [wc])
  have h1 := h.part (txc e.x) [Value.int .i64 e.since] [] (by simp [wc])
  simp only [List.length_append, txc_length, List.length_nil, Nat.add_zero] at h0 h1
  obtain ⟨q0, q1, q2, -⟩ := txc_rowsO h0
  exact ⟨h0, q0, q1, q2, h1⟩
/-- The document's list of what waits, in memory. -/
structure PD (w : World) (n : Nat) (a : Option Addr) (c : Nat) (ws : List Wm) : Prop where
  sl : Sl wc 14 w a ws
  tg : Tg 67 n w a ws
  cap : ws.length ≤ c
  sm : a = none ∧ ws = [] ∨ ∃ b off, a = some ⟨b, off, none⟩
  ins : ∀ e ∈ ws, e.x.In n w
def pdc (room : Int) (a : Option Addr) (m c : Nat) : List Value := [.int .i64 room, .slice a m c]
theorem pdc_length (room : Int) (a : Option Addr) (m c : Nat) : (pdc room a m c).length = 2 := rfl
theorem pdc_rows {w : World} {b : Nat} {T : TypeId} {room : Int} {a : Option Addr} {m c : Nat} (h : Blk w b (.cells (pdc room a m c).toArray T)) : Row w b 0 (pdc room a m c) ∧ Row w b 0 [.int .i64 room] ∧ Row w b 1 [.slice a m c] :=
  ⟨Row.all h rfl, Row.of h [] [.slice a m c] rfl rfl, Row.of h [.int .i64 room] [] rfl rfl⟩
theorem PD.nil {w : World} {n c : Nat} : PD w n none c [] := ⟨Sl.nil, Or.inr (fun b off e => (by cases e)), Nat.zero_le _, Or.inl ⟨rfl, rfl⟩, fun e h => (by cases h)⟩
theorem PD.kp {w w' : World} {n : Nat} {a : Option Addr} {c : Nat} {ws : List Wm} {S : List Nat} (h : PD w n a c ws) (hk : Kp S w w') (hO : Oth n w S) (hT : NoT 67 n w S) : PD w' n a c ws :=
  ⟨(h.sl.kpT h.tg hk hT).1, (h.sl.kpT h.tg hk hT).2, h.cap, h.sm, fun e he => (h.ins e he).kpO hk hO⟩
theorem PD.kp0 {w w' : World} {n : Nat} {a : Option Addr} {c : Nat} {ws : List Wm} (h : PD w n a c ws) (hk : Kp [] w w') : PD w' n a c ws := h.kp hk Oth.nil NoT.nil
theorem PD.own {w : World} {n base : Nat} {v : Value} {ws : List Wm} (ho : w.ownsRow base 67 14 v ws.length (flt wc ws)) (hi : ∀ e ∈ ws, e.x.In n w) : ∃ a c, v = .slice a ws.length c ∧ PD w n a c ws := by
  obtain ⟨a, c, rfl, hc, hS⟩ := Sl.own wc_length ho rfl
  refine ⟨a, c, rfl, hS, Or.inl (Ty.own ho), hc, ?_, hi⟩
  rcases ho.2 with ⟨e, h0⟩ | ⟨g, cap, cur, e, _⟩
  · simp only [Value.slice.injEq] at e
    exact Or.inl ⟨e.1, List.eq_nil_of_length_eq_zero h0⟩
  · cases e
    exact Or.inr ⟨g, 0, rfl⟩
theorem bsw0 (w : World) : (Instr.buildSlice 27 0 #[]).run Tryz.prog w = .ok (.slice (some ⟨w.heap.size, 0, none⟩) 0 0) { w with heap := w.heap.push (.cells (flt wc []).toArray 67) } := by kernel_rfl
set_option maxHeartbeats 4000000 in
theorem bsw' (w : World) (a0 a1 a2 a3 a4 a5 a6 a7 : UInt8) (n f k s : Int) (x1 x2 : Option Addr) (m1 m2 c1' c2' : Nat) :
    (Instr.buildSlice 27 1 #[(0, .agg #[bv a0, bv a1, bv a2, bv a3, bv a4, bv a5, bv a6, bv a7, .int .i64 n, .int .i64 f, .int .i64 k, .slice x1 m1 c1', .slice x2 m2 c2', .int .i64 s])]).run Tryz.prog w = .ok (.slice (some ⟨w.heap.size, 0, none⟩) 1 1) { w with heap := w.heap.push (.cells #[bv a0, bv a1, bv a2, bv a3, bv a4, bv a5, bv a6, bv a7, .int .i64 n, .int .i64 f, .int .i64 k, .slice x1 m1 c1', .slice x2 m2 c2', .int .i64 s] 67) } := by kernel_rfl
theorem bsw (e : Wm) (w : World) : (Instr.buildSlice 27 1 #[(0, wv e)]).run Tryz.prog w = .ok (.slice (some ⟨w.heap.size, 0, none⟩) 1 1) { w with heap := w.heap.push (.cells (wc e).toArray 67) } := by
  obtain ⟨⟨⟨⟨l, hl⟩, n, f, k, b, g⟩, a1, c1, a2, c2⟩, s⟩ := e
  match l, hl with
  | [x0, x1, x2, x3, x4, x5, x6, x7], _ => exact bsw' w x0 x1 x2 x3 x4 x5 x6 x7 n f k s a1 a2 b.length g.length c1 c2
set_option maxHeartbeats 4000000 in
theorem bw' (w : World) (a0 a1 a2 a3 a4 a5 a6 a7 : UInt8) (n f k s : Int) (x1 x2 : Option Addr) (m1 m2 d1 d2 : Nat) :
    (Instr.build 67 #[(0, .agg #[bv a0, bv a1, bv a2, bv a3, bv a4, bv a5, bv a6, bv a7, .int .i64 n, .int .i64 f, .int .i64 k, .slice x1 m1 d1, .slice x2 m2 d2]), (1, .int .i64 s)]).run Tryz.prog w = .ok (.agg #[bv a0, bv a1, bv a2, bv a3, bv a4, bv a5, bv a6, bv a7, .int .i64 n, .int .i64 f, .int .i64 k, .slice x1 m1 d1, .slice x2 m2 d2, .int .i64 s]) w := by kernel_rfl
theorem bw (w : World) (x : Tm) (s : Int) : (Instr.build 67 #[(0, txv x), (1, .int .i64 s)]).run Tryz.prog w = .ok (wv ⟨x, s⟩) w := by
  obtain ⟨⟨⟨l, hl⟩, n, f, k, b, g⟩, a1, c1, a2, c2⟩ := x
  match l, hl with
  | [x0, x1, x2, x3, x4, x5, x6, x7], _ => exact bw' w x0 x1 x2 x3 x4 x5 x6 x7 n f k s a1 a2 b.length g.length c1 c2
abbrev oW (base : Nat) (l : List Wm) := oP base 67 14 wc l
theorem likeW_lt {ws : List Wm} {k : Dg} {n : Int} : likeN (ws.map Wm.en) k n = ws.findIdx (fun e => isK k n e.en) := by
  unfold likeN
  rw [List.findIdx_map]
  rfl
theorem cutW (ws : List Wm) (i : Nat) : ws.take i ++ ws.drop (i + 1) = ws.eraseIdx i := (List.eraseIdx_eq_take_drop_succ ws i).symm
attribute [local irreducible] CG NG SG Vals Der Row Blk MapIs IterAt DerX DerR wrongT
set_option maxHeartbeats 16000000 in
theorem like_spec {w : World} {n : Nat} {a : Option Addr} {c : Nat} {ws : List Wm} {room : Int} {x : Tm} (hP : PD w n a c ws) (hl : ws.length ≤ 100000) : Ret Tryz.prog 51 #[.agg (pdc room a ws.length c).toArray, txv x] w (.int .i64 (idxZ (fun e : Wm => isK x.t.frm x.t.non e.en) ws)) := by
  refine enter2 Tryz.func51 rfl Tryz.ntmps51 rfl ?_
  repeat (first|apply cA|apply cB)
  refine SG.box rfl rfl rfl (by exact rho_of rfl) (fun b2 w1 hk1 hb2 hB2 => ?_)
  refine SG.box rfl rfl rfl (by exact rho_of rfl) (fun b3 w2 hk2 hb3 hB3 => ?_)
  have hB2 : Blk w1 b2 (.cells (pdc room a ws.length c).toArray 29) := hB2
  have hB3 : Blk w2 b3 (.cells (txc x).toArray 36) := hB3
  have hB2 := hB2.kp0 hk2
  obtain ⟨-, -, q⟩ := pdc_rows hB2
  obtain ⟨-, r0, r1, -⟩ := txc_rows hB3
  have k2 := hk1.trans hk2
  clear hB2 hB3
  repeat (first|apply cA|apply cB|apply cD|apply cE|apply cG|refine cV rfl rfl rfl rfl (by first|(apply qas<;>(exact rfl))|fail) ?_)
  refine CG.loop (X := Nat) (fun i => [(2, .pointer (some ⟨b2, 0, none⟩)), (3, .pointer (some ⟨b3, 0, none⟩)), (5, .int .i64 (i : Int))]) (fun i w' => i ≤ ws.length ∧ Kp [] w2 w' ∧ ∀ j (h : j < ws.length), j < i → isK x.t.frm x.t.non ws[j].en = false) (fun i => ws.length - i) 0 ⟨Nat.zero_le _, Kp.refl _ _, fun j _ h => absurd h (Nat.not_lt_zero j)⟩ (by (repeat' (first | exact True.intro | exact rfl | refine And.intro ?_ ?_))) ?_
  rintro i w3 ⟨hi, hk3, hno⟩
  refine CG.to [(2, .pointer (some ⟨b2, 0, none⟩)), (3, .pointer (some ⟨b3, 0, none⟩)), (5, .int .i64 (i : Int))] (by (repeat' (first | exact True.intro | exact rfl | refine And.intro ?_ ?_))) ?_
  have q := q.kp0 hk3
  have r0 := r0.kp0 hk3
  have r1 := r1.kp0 hk3
  have k3 := k2.trans hk3
  by_cases hlt : i < ws.length
  rotate_left
  · have g1 : ¬ (i : Int) < (ws.length : Int) := by omega
    have e2 : idxZ (fun e : Wm => isK x.t.frm x.t.non e.en) ws = -1 := idxZ_no (fun h => by
      have h1 := List.findIdx_getElem (w := h)
      rw [hno _ h (by omega)] at h1
      cases h1)
    rw [e2]
    repeat (first|apply cA|apply cB|apply cD|apply cE|refine cV rfl rfl rfl rfl (by first|((first|apply qmv|apply qlc|apply qfa|apply qls|apply qln)<;>(first|exact rfl|assumption|exact dcf (by first|assumption|omega)|exact List.not_mem_nil|fail))|fail) ?_)
    refine dA rfl (by exact rho_of rfl) rfl ?_
    repeat (first|apply cA|apply cB|apply cD|apply cE|apply cH|apply cJ|apply cM|refine cQ rfl ?_|refine cV rfl rfl rfl rfl (by first|(apply qas<;>(exact rfl))|fail) ?_)
    refine ret1 (Or.inl rfl) Tryz.results51 (by first | exact ResV.tmp rfl | exact ResV.agg rfl rfl (by assumption) (by first | exact dc_length _ | exact nc_length _ | exact rc_length _ _ _ | exact ec_length _ | exact dl_length _ _ _ _ | rfl) | exact ResV.cell rfl rfl (by assumption)) ?_
    exact ⟨rfl, k3⟩
  have g1 : (i : Int) < (ws.length : Int) := by omega
  obtain ⟨b1, o1, rfl, hri⟩ := (hP.sl.kp0 k3).at hlt
  obtain ⟨-, s0, s1, -⟩ := wc_rows hri
  repeat (first|apply cA|apply cB|apply cD|apply cE|refine cV rfl rfl rfl rfl (by first|((first|apply qmv|apply qlc|apply qfa|apply qls|apply qln)<;>(first|exact rfl|assumption|exact dct (by first|assumption|omega)|exact List.not_mem_nil|fail))|fail) ?_)
  refine cZ rfl (by exact rho_of rfl) rfl ?_
  by_cases h0 : ws[i].x.t.frm = x.t.frm
  case neg =>
    have e : isK x.t.frm x.t.non ws[i].en = false := by
      cases hh : isK x.t.frm x.t.non ws[i].en with
      | false => rfl
      | true => exact absurd (isK_iff.1 hh).1 h0
    repeat (first|apply cA|apply cE|apply cF|apply cG)
    refine CG.tail mixed 20 [0, 1, 2, 3, 4, 5, 6, 7, 8, 9, 10, 11, 12, 13, 14, 15, 16, 17, 18, 19] (by kernel_rfl) ?_
    repeat (first | refine cY rfl rfl rfl (by first|((first|apply qmv|apply qlc|apply qla|apply qfa|apply qix|apply qed)<;>(first|exact rfl|exact Ar.mk (by omega)|assumption|exact dcf (by first|assumption|omega)|exact List.not_mem_nil|apply dc_length|fail))|fail) ?_ | refine Der.skip rfl rfl ?_)
    refine Der.tl (fun w4 hk4 _ _ => ?_)
    repeat (first | first|apply cD|apply cE|refine cV rfl rfl rfl rfl (by first|(apply qpk<;>(exact rfl))|fail) ?_ | refine cX rfl rfl ?_)
    refine dA rfl (by exact rho_of rfl) rfl ?_
    repeat (first|apply cB|apply cD|apply cE|apply cF|apply cU|refine cV rfl rfl rfl rfl (by first|((first|apply qmv|apply qas|apply qad)<;>(first|exact rfl|exact Ar.mk (by omega)|fail))|fail) ?_)
    refine NG.round (i + 1) (by (repeat' (first | exact True.intro | exact rfl | refine And.intro ?_ ?_))) ⟨by omega, hk3.trans hk4, fun j h hj => ?_⟩ (by omega)
    by_cases e' : j = i
    · subst e'; exact e
    · exact hno j h (by omega)
  by_cases h1 : ws[i].x.t.non = x.t.non
  case neg =>
    have e : isK x.t.frm x.t.non ws[i].en = false := by
      cases hh : isK x.t.frm x.t.non ws[i].en with
      | false => rfl
      | true => exact absurd (isK_iff.1 hh).2 h1
    repeat (first|apply cA|apply cE|apply cF|apply cG)
    refine CG.tail mixed 20 [0, 1, 2, 3, 4, 5, 6, 7, 8, 9, 10, 11, 12, 13, 14, 15, 16, 17, 18, 19] (by kernel_rfl) ?_
    repeat (refine cY rfl rfl rfl (by first|((first|apply qmv|apply qlc|apply qla|apply qfa|apply qix|apply qed)<;>(first|exact rfl|exact Ar.mk (by omega)|assumption|exact dct (by first|assumption|omega)|exact List.not_mem_nil|apply dc_length|fail))|fail) ?_)
    refine Der.tl (fun w4 hk4 _ _ => ?_)
    repeat (first|apply cD|apply cE|refine cV rfl rfl rfl rfl (by first|((first|apply qpk|apply qei)<;>(first|exact rfl|exact dcf (by first|assumption|omega)|fail))|fail) ?_)
    refine dA rfl (by exact rho_of rfl) rfl ?_
    repeat (first|apply cB|apply cD|apply cE|apply cF|apply cU|refine cV rfl rfl rfl rfl (by first|((first|apply qmv|apply qas|apply qad)<;>(first|exact rfl|exact Ar.mk (by omega)|fail))|fail) ?_)
    refine NG.round (i + 1) (by (repeat' (first | exact True.intro | exact rfl | refine And.intro ?_ ?_))) ⟨by omega, hk3.trans hk4, fun j h hj => ?_⟩ (by omega)
    by_cases e' : j = i
    · subst e'; exact e
    · exact hno j h (by omega)
  have e : isK x.t.frm x.t.non ws[i].en = true := isK_iff.2 ⟨h0, h1⟩
  have ef : ws.findIdx (fun e : Wm => isK x.t.frm x.t.non e.en) = i := (List.findIdx_eq hlt).2 ⟨e, fun j hj => by rw [hno j (by omega) hj]⟩
  have e2 : idxZ (fun e : Wm => isK x.t.frm x.t.non e.en) ws = (i : Int) := by
    unfold idxZ
    rw [ef, if_pos hlt]
  rw [e2]
  repeat (first|apply cA|apply cE|apply cF|apply cG)
  refine CG.tail mixed 20 [0, 1, 2, 3, 4, 5, 6, 7, 8, 9, 10, 11, 12, 13, 14, 15, 16, 17, 18, 19] (by kernel_rfl) ?_
  repeat (refine cY rfl rfl rfl (by first|((first|apply qmv|apply qlc|apply qla|apply qfa|apply qix|apply qed)<;>(first|exact rfl|exact Ar.mk (by omega)|assumption|exact dct (by first|assumption|omega)|exact List.not_mem_nil|apply dc_length|fail))|fail) ?_)
  refine Der.tl (fun w4 hk4 _ _ => ?_)
  repeat (first|apply cD|apply cE|refine cV rfl rfl rfl rfl (by first|((first|apply qpk|apply qei)<;>(first|exact rfl|exact dct (by first|assumption|omega)|fail))|fail) ?_)
  refine cZ rfl (by exact rho_of rfl) rfl ?_
  repeat (first|apply cA|apply cB|apply cD|apply cE|apply cH|apply cK|apply NG.ret_block|refine cV rfl rfl rfl rfl (by first|((first|apply qmv|apply qas)<;>(exact rfl))|fail) ?_)
  refine ret1 (Or.inl rfl) Tryz.results51 (by first | exact ResV.tmp rfl | exact ResV.agg rfl rfl (by assumption) (by first | exact dc_length _ | exact nc_length _ | exact rc_length _ _ _ | exact ec_length _ | exact dl_length _ _ _ _ | rfl) | exact ResV.cell rfl rfl (by assumption)) ?_
  exact ⟨rfl, k3.trans hk4⟩
set_option maxHeartbeats 16000000 in
theorem without_spec {w : World} {n : Nat} {a : Option Addr} {c i : Nat} {ws : List Wm} (hP : PD w n a c ws) (hl : ws.length ≤ 100000) (hi : i < ws.length) : RetO Tryz.prog 67 wc 14 52 #[.slice a ws.length c, .int .i64 (i : Int)] w (ws.eraseIdx i) := by
  refine enter2 Tryz.func52 rfl Tryz.ntmps52 rfl ?_
  obtain ⟨b, off, rfl⟩ : ∃ b off, a = some ⟨b, off, none⟩ := by
    rcases hP.sm with ⟨_, rfl⟩ | h
    · simp at hi
    · exact h
  have hcap := hP.cap
  have e1 : (i : Int) + 1 = ((i + 1 : Nat) : Int) := by omega
  have htl : (ws.take i).length = i := by rw [List.length_take]; omega
  have hdl : (ws.drop (i + 1)).length = ws.length - (i + 1) := List.length_drop
  have gi : (i : Int) ≤ (ws.length : Int) := by omega
  repeat (first|apply cA|apply cB|apply cD|apply cE|refine cV rfl rfl rfl rfl (by first|(apply qas<;>(exact rfl))|fail) ?_)
  refine CG.rows mixed 9 [1, 2, 3, 5, 6, 7, 8, 0, 4] [⟨0, 0, oW w.heap.size []⟩, ⟨4, 0, oW w.heap.size ([] ++ ws.take i)⟩] (by kernel_rfl) (by kernel_rfl) (by kernel_rfl) (OkL.all (by repeat' (first | exact OkL.nil | refine OkL.cons ?_ ?_ | exact oP_ok | exact bP_ok))) ?_
  repeat (refine DerR.val rfl rfl rfl rfl (by first|((first|apply qmv|apply qad|apply qto)<;>(first|exact rfl|exact Ar.mk (by omega)|fail))|fail) ?_)
  rw [e1]
  repeat (refine DerR.val rfl rfl rfl rfl (by first|(apply qfr<;>(first|exact rfl|exact Ar.mk (by omega)|fail))|fail) ?_)
  refine DerR.buildO [] wc_length rfl rfl rfl rfl rfl (by repeat' (first | exact OkL.nil | refine OkL.cons ?_ ?_ | exact oP_ok | exact bP_ok)) rfl (Nat.le_refl _) (by simp) bsw0 (fun v0 => ?_)
  refine DerR.append (src := 0) [] (ws.take i) [(0, [])] wc_length wc_one rfl rfl (by kernel_rfl) ⟨Nat.le_refl _, trivial⟩ rfl rfl rfl (by repeat' (first | exact OkL.nil | refine OkL.cons ?_ ?_ | exact oP_ok | exact bP_ok)) (by exact rho_of rfl) (by exact rho_of rfl) rfl rfl rfl (by simp only [maxLen, List.length_nil]; omega) (by rw [htl]; show (0 + i) * 88 ≤ _; omega) (Nat.le_refl _) (.head _) (by kernel_rfl) (fun w hk hF => ⟨_, _, by rw [htl], (hP.sl.kp0 hk).take i⟩) (fun v4 => ?_)
  refine DerR.tl (fun w4 V hok hV => ?_)
  have ho4 : w4.ownsRow w.heap.size 67 14 v4 (ws.take i).length (flt wc (ws.take i)) := hok.get hV (.head _) rfl
  have hk4 := hok.kp
  have hSd := sl_drop (j := i + 1) (hP.sl.kp0 hk4) hcap
  refine SG.appO (enc := wc) (xs := ws.take i) (ys := ws.drop (i + 1)) (base := w.heap.size) rfl rfl rfl (by exact rho_of rfl) (by exact rho_of rfl) hdl.symm rfl rfl rfl wc_length wc_one ho4 hSd (by rw [htl, hdl]; simp only [maxLen]; omega) (by rw [htl, hdl]; show (i + (ws.length - (i + 1))) * 88 ≤ _; omega) hk4.size (fun v10 w5 hk5 ho10 _ => ?_)
  have k5 : Kp [] w w5 := hk4.trans_new hk5 (own_new ho4 (Nat.le_refl _))
  rw [cutW] at ho10
  repeat (first|apply cD|apply cE|apply cH|refine cV rfl rfl rfl rfl (by first|(apply qas<;>(exact rfl))|fail) ?_)
  refine ret1 (Or.inl rfl) Tryz.results52 (by first | exact ResV.tmp rfl | exact ResV.agg rfl rfl (by assumption) (by first | exact dc_length _ | exact nc_length _ | exact rc_length _ _ _ | exact ec_length _ | exact dl_length _ _ _ _ | rfl) | exact ResV.cell rfl rfl (by assumption)) ?_
  exact ⟨_, rfl, ho10, k5⟩
end Go.Proofs.YtgbgnlboogalgaaGreat
