/-
  PoolBetter answers true for every input, and leaves its arguments as they were. No conditions.
-/
import Derived.Test.YtgbgnlboogalgaaZb3
namespace Go.Proofs.Ytgbgnlboogalgaa
open Go.Proofs
set_option linter.unusedVariables false
abbrev zcv (z : Int) : Value := .int .i64 z
/-- Up to the number of one of its key. -/
def upB (L : List (Dg × Int)) (e : En) : Bool := L.any (fun p => decide (p.1 = e.key ∧ e.non ≤ p.2))
theorem upB_iff {m L : List (Dg × Int)} {e : En} (h : MaxM m L) : upB L e = true ↔ ∃ n, alook m e.key = some n ∧ e.non ≤ n := by
  rw [h e.key e.non]
  unfold upB
  rw [List.any_eq_true]
  constructor
  · rintro ⟨p, h1, h2⟩; exact ⟨p, h1, of_decide_eq_true h2⟩
  · rintro ⟨p, h1, h2⟩; exact ⟨p, h1, decide_eq_true h2⟩
def pairE (e : En) : Dg × Int := (e.key, e.non)
/-- Whether a block of a height has to have what waits since another one. -/
def dueB (h leave : Int) (e : En) : Bool := decide (leave ≤ h - e.since - 1)
def dueL (l : List En) (h leave : Int) : List (Dg × Int) := (l.filter (dueB h leave)).map pairE
theorem dueL_succ {l : List En} {h leave : Int} {i : Nat} (hi : i < l.length) : dueL (l.take (i + 1)) h leave = if dueB h leave l[i] then dueL (l.take i) h leave ++ [pairE l[i]] else dueL (l.take i) h leave := by
  unfold dueL
  rw [List.take_succ_eq_append_getElem hi, List.filter_append, List.map_append]
  by_cases g : dueB h leave l[i] = true
  · rw [if_pos g, List.filter_cons_of_pos g]
    rfl
  · rw [if_neg g, List.filter_cons_of_neg g]
    simp
def fit64 (n : Int) : Prop := -9223372036854775808 ≤ n ∧ n ≤ 9223372036854775807
attribute [local irreducible] CG NG SG Vals Der Row Blk MapIs IterAt nameT wrongT
set_option maxHeartbeats 16000000 in
theorem due_spec {w : World} {h s l : Int} (hh : fit64 h) (h0 : 0 ≤ s) (h1 : s ≤ 1099511627776) (hl : fit64 l) : Ret Try.prog 36 #[.int .i64 h, .int .i64 s, .int .i64 l] w (.bool (decide (l ≤ h - s - 1))) := by
  refine enter3 Try.func36 rfl Try.ntmps36 rfl ?_
  obtain ⟨a1, a2⟩ := hh
  obtain ⟨a3, a4⟩ := hl
  by_cases g : h < -9223372036854775808 + s + 1
  · have e : decide (l ≤ h - s - 1) = false := decide_eq_false (by omega)
    rw [e]
    repeat (first|apply cA|apply cB|apply cD|apply cE|refine cU rfl rfl rfl rfl (by first|((first|apply qmv|apply qas|apply qls|apply qad)<;>(first|exact rfl|exact Ar.mk (by omega)|exact dct (by first|assumption|omega)|fail))|fail) ?_)
    refine cV rfl (by exact rho_of rfl) rfl ?_
    repeat (first|apply cA|apply cB|apply cD|apply cE|apply cH|apply NG.ret_then|refine cU rfl rfl rfl rfl (by first|(apply qas<;>(exact rfl))|fail) ?_)
    refine ret1 (Or.inl rfl) Try.results36 (by first | exact ResV.tmp rfl | exact ResV.agg rfl rfl (by assumption) (by first | exact dc_length _ | exact nc_length _ | exact rc_length _ _ _ | exact ec_length _ | exact dl_length _ _ _ _ | rfl) | exact ResV.cell rfl rfl (by assumption)) ?_
    exact ⟨rfl, Kp.refl _ _⟩
  · by_cases g2 : l ≤ h - s - 1
    · have e : decide (l ≤ h - s - 1) = true := decide_eq_true g2
      rw [e]
      repeat (first|apply cA|apply cB|apply cD|apply cE|refine cU rfl rfl rfl rfl (by first|((first|apply qmv|apply qas|apply qls|apply qad)<;>(first|exact rfl|exact Ar.mk (by omega)|exact dcf (by first|assumption|omega)|fail))|fail) ?_)
      refine cX rfl (by exact rho_of rfl) rfl ?_
      repeat (first|apply cA|apply cB|apply cD|apply cE|apply cF|apply cH|refine cU rfl rfl rfl rfl (by first|((first|apply qmv|apply qas|apply qge|apply qsb)<;>(first|exact rfl|exact Ar.mk (by omega)|exact dct (by first|assumption|omega)|fail))|fail) ?_)
      refine ret1 (Or.inl rfl) Try.results36 (by first | exact ResV.tmp rfl | exact ResV.agg rfl rfl (by assumption) (by first | exact dc_length _ | exact nc_length _ | exact rc_length _ _ _ | exact ec_length _ | exact dl_length _ _ _ _ | rfl) | exact ResV.cell rfl rfl (by assumption)) ?_
      exact ⟨rfl, Kp.refl _ _⟩
    · have e : decide (l ≤ h - s - 1) = false := decide_eq_false g2
      rw [e]
      repeat (first|apply cA|apply cB|apply cD|apply cE|refine cU rfl rfl rfl rfl (by first|((first|apply qmv|apply qas|apply qls|apply qad)<;>(first|exact rfl|exact Ar.mk (by omega)|exact dcf (by first|assumption|omega)|fail))|fail) ?_)
      refine cX rfl (by exact rho_of rfl) rfl ?_
      repeat (first|apply cA|apply cB|apply cD|apply cE|apply cF|apply cH|refine cU rfl rfl rfl rfl (by first|((first|apply qmv|apply qas|apply qge|apply qsb)<;>(first|exact rfl|exact Ar.mk (by omega)|exact dcf (by first|assumption|omega)|fail))|fail) ?_)
      refine ret1 (Or.inl rfl) Try.results36 (by first | exact ResV.tmp rfl | exact ResV.agg rfl rfl (by assumption) (by first | exact dc_length _ | exact nc_length _ | exact rc_length _ _ _ | exact ec_length _ | exact dl_length _ _ _ _ | rfl) | exact ResV.cell rfl rfl (by assumption)) ?_
      exact ⟨rfl, Kp.refl _ _⟩
set_option maxHeartbeats 16000000 in
theorem must1_spec {w : World} {b7 bm : Nat} {m L : List (Dg × Int)} (e : Em) (h7 : Row w b7 0 [.map (some bm)]) (hm : MapIs w bm (dv (n := 8)) zcv m) (hM : MaxM m L) : Ret Try.prog 37 #[ev e, .pointer (some ⟨b7, 0, none⟩)] w (.bool (upB L e.en)) := by
  refine enterL (args := [ev e, .pointer (some ⟨b7, 0, none⟩)]) Try.func37 rfl Try.ntmps37 rfl ?_
  repeat (first|apply cA|apply cB)
  refine SG.box rfl rfl rfl (by exact rho_of rfl) (fun b1 w1 hk1 hb1 hB1 => ?_)
  have hB1 : Blk w1 b1 (.cells (ec e).toArray 78) := hB1
  obtain ⟨-, q0, q1, -⟩ := ec_rows (Row.all hB1 rfl)
  simp only [Nat.zero_add] at q1
  have h7 := h7.kp0 hk1
  have hm := hm.kp0 hk1
  have hup := upB_iff (e := e.en) hM
  cases hl : alook m e.x.t.frm with
  | none =>
    have e1 : upB L e.en = false := by
      cases hb : upB L e.en with
      | false => rfl
      | true =>
        obtain ⟨n, h1, h2⟩ := hup.1 hb
        have h1 : alook m e.x.t.frm = some n := h1
        rw [hl] at h1
        cases h1
    rw [e1]
    repeat (first | first|apply cA|apply cB|apply cD|apply cE|apply cH|refine cU rfl rfl rfl rfl (by first|((first|apply qmv|apply qas|apply qlc|apply qla|apply qfa|apply qpk|apply qlk|apply qxt)<;>(first|exact rfl|assumption|exact List.not_mem_nil|apply dc_length|exact lk0 (by assumption)|fail))|fail) ?_ | refine SG.skip rfl rfl ?_)
    refine ret1 (Or.inl rfl) Try.results37 (by first | exact ResV.tmp rfl | exact ResV.agg rfl rfl (by assumption) (by first | exact dc_length _ | exact nc_length _ | exact rc_length _ _ _ | exact ec_length _ | exact dl_length _ _ _ _ | rfl) | exact ResV.cell rfl rfl (by assumption)) ?_
    exact ⟨rfl, hk1⟩
  | some n =>
    by_cases g : e.x.t.non ≤ n
    · have e1 : upB L e.en = true := hup.2 ⟨n, hl, g⟩
      rw [e1]
      repeat (first|apply cA|apply cB|apply cD|apply cE|apply cH|refine cU rfl rfl rfl rfl (by first|((first|apply qmv|apply qas|apply qlc|apply qla|apply qfa|apply qpk|apply qle|apply qlk|apply qxt)<;>(first|exact rfl|assumption|exact dct (by first|assumption|omega)|exact List.not_mem_nil|apply dc_length|exact lk1 (by assumption)|fail))|fail) ?_)
      refine ret1 (Or.inl rfl) Try.results37 (by first | exact ResV.tmp rfl | exact ResV.agg rfl rfl (by assumption) (by first | exact dc_length _ | exact nc_length _ | exact rc_length _ _ _ | exact ec_length _ | exact dl_length _ _ _ _ | rfl) | exact ResV.cell rfl rfl (by assumption)) ?_
      exact ⟨rfl, hk1⟩
    · have e1 : upB L e.en = false := by
        cases hb : upB L e.en with
        | false => rfl
        | true =>
          obtain ⟨n', h1, h2⟩ := hup.1 hb
          have h1 : alook m e.x.t.frm = some n' := h1
          rw [hl] at h1
          cases h1
          exact absurd h2 g
      rw [e1]
      repeat (first|apply cA|apply cB|apply cD|apply cE|apply cH|refine cU rfl rfl rfl rfl (by first|((first|apply qmv|apply qas|apply qlc|apply qla|apply qfa|apply qpk|apply qle|apply qlk|apply qxt)<;>(first|exact rfl|assumption|exact dcf (by first|assumption|omega)|exact List.not_mem_nil|apply dc_length|exact lk1 (by assumption)|fail))|fail) ?_)
      refine ret1 (Or.inl rfl) Try.results37 (by first | exact ResV.tmp rfl | exact ResV.agg rfl rfl (by assumption) (by first | exact dc_length _ | exact nc_length _ | exact rc_length _ _ _ | exact ec_length _ | exact dl_length _ _ _ _ | rfl) | exact ResV.cell rfl rfl (by assumption)) ?_
      exact ⟨rfl, hk1⟩
set_option maxHeartbeats 32000000 in
theorem must_spec {w : World} {base p : Nat} {v : Value} {room : Int} {ms : List Em} (hP : Pl w base p v room ms) (hI : PInv room (ms.map Em.en)) (hr : room ≤ 1024) {h f l s : Int} (hh : fit64 h) (hl : fit64 l) :
    Calls Try.prog 14 #[.pointer (some ⟨p, 0, none⟩), .int .i64 h, .agg #[.int .i64 f, .int .i64 l, .int .i64 s]] w (fun e w' => ∃ v' xs, e = .returned v' ∧ Kp [] w w' ∧ TxsO w' w.heap.size v' xs ∧ xs.map (·.t) = ((ordE (ms.map Em.en)).filter (upB (dueL (ms.map Em.en) h l))).map (·.t)) := by
  refine enter3 Try.func14 rfl Try.ntmps14 rfl ?_
  have hll : ms.length ≤ 1024 := by have := hI.len; rw [List.length_map] at this; omega
  have hlp := hP.blk.lt
  have hvp : ∀ b, v.ownBlock = some b → b < w.heap.size := own_lt hP.own
  repeat (first|apply cA|apply cB)
  refine SG.box rfl rfl rfl (by exact rho_of rfl) (fun b5 w1 hk1 hb5 hB5 => ?_)
  have hB5 : Blk w1 b5 (.cells #[.int .i64 f, .int .i64 l, .int .i64 s] 42) := hB5
  have r5 : Row w1 b5 1 [.int .i64 l] := Row.of hB5 [.int .i64 f] [.int .i64 s] rfl rfl
  have lt5 := hB5.lt
  clear hB5
  repeat (first|apply cA|apply cB|apply cD|apply cE|refine cU rfl rfl rfl rfl (by first|((first|apply qep|apply qmv|apply qas|apply qep)<;>(exact rfl))|fail) ?_)
  refine cX rfl (by exact rho_of rfl) rfl ?_
  repeat (first|apply cA|apply cB|apply cE|apply cF)
  refine SG.makeMap (dv (n := 8)) zcv rfl rfl (fun bm w2 hk2 hbm hm => ?_)
  refine SG.alloc rfl rfl rfl (fun b7 w3 hk3 hb7 hB7 => ?_)
  have k3 := (hk1.trans hk2).trans hk3
  have s1 := hk1.size
  have s2 := hk2.size
  have ltm := hm.lt
  have hm := hm.kp0 hk3
  refine SG.setAll1 rfl rfl (by exact rho_of rfl) (by exact rho_of rfl) hB7 rfl rfl (fun w4 hk4 hB7 => ?_)
  have hm : MapIs w4 bm (dv (n := 8)) zcv [] := hm.kp hk4 (nm1 (by omega))
  have r7 : Row w4 b7 0 [.map (some bm)] := Row.all hB7 rfl
  have k4 : Kp [] w w4 := k3.trans_new hk4 (new1 (by omega))
  have lt7 := hB7.lt
  have hP4 := hP.kp0 k4
  have r5 : Row w4 b5 1 [.int .i64 l] := ((r5.kp0 hk2).kp0 hk3).kp hk4 (nm1 (by omega))
  obtain ⟨a, c, rfl, hc, hS⟩ := hP4.sl
  obtain ⟨-, q1⟩ := hP4.rows
  have s4 := k4.size
  clear hB7
  repeat (first|apply cA|apply cB|apply cD|apply cE|apply cG|refine cU rfl rfl rfl rfl (by first|((first|apply qmv|apply qlc|apply qfa|apply qnc|apply qln)<;>(first|exact rfl|assumption|exact List.not_mem_nil))|fail) ?_)
  refine CG.loop (X := Nat × List (Dg × Int)) (fun x => [(0, .pointer (some ⟨p, 0, none⟩)), (1, .int .i64 h), (5, .pointer (some ⟨b5, 0, none⟩)), (7, .pointer (some ⟨b7, 0, none⟩)), (18, .slice a ms.length c), (19, .int .i64 (ms.length : Int)), (20, .int .i64 (x.1 : Int))])
    (fun x w' => x.1 ≤ ms.length ∧ Kp [bm] w4 w' ∧ MapIs w' bm (dv (n := 8)) zcv x.2 ∧ MaxM x.2 (dueL ((ms.map Em.en).take x.1) h l)) (fun x => ms.length - x.1) (0, []) ⟨Nat.zero_le _, Kp.refl _ _, hm, MaxM.nil⟩ (by (repeat' (first | exact True.intro | exact rfl | refine And.intro ?_ ?_))) ?_
  clear q1
  rintro ⟨i, m⟩ w5 ⟨hi, hk5, hm5, hM⟩
  simp only at hi hm5 hM
  refine CG.to [(0, .pointer (some ⟨p, 0, none⟩)), (1, .int .i64 h), (5, .pointer (some ⟨b5, 0, none⟩)), (7, .pointer (some ⟨b7, 0, none⟩)), (18, .slice a ms.length c), (19, .int .i64 (ms.length : Int)), (20, .int .i64 (i : Int))] (by (repeat' (first | exact True.intro | exact rfl | refine And.intro ?_ ?_))) ?_
  have k5 : Kp [] w w5 := k4.trans_new hk5 (new1 (by omega))
  have hP5 := hP.kp0 k5
  have r5' : Row w5 b5 1 [.int .i64 l] := r5.kp hk5 (nm1 (by omega))
  have r7' : Row w5 b7 0 [.map (some bm)] := r7.kp hk5 (nm1 (by omega))
  have s5 := hk5.size
  by_cases hlt : i < ms.length
  rotate_left
  · have g1 : ¬ (i : Int) < (ms.length : Int) := by omega
    rw [List.take_of_length_le (by rw [List.length_map]; omega)] at hM
    repeat (first|apply cA|apply cB|apply cD|apply cE|refine cU rfl rfl rfl rfl (by first|(apply qls<;>(first|exact rfl|exact dcf (by first|assumption|omega)|fail))|fail) ?_)
    refine cX rfl (by exact rho_of rfl) rfl ?_
    repeat (first|apply cA|apply cB|apply cE|apply cJ|apply cK|refine cM rfl ?_|refine cU rfl rfl rfl rfl (by first|(apply qmv<;>(exact rfl))|fail) ?_)
    refine cU rfl rfl rfl rfl (qmf (vs := [.pointer (some ⟨b7, 0, none⟩)]) rfl) ?_
    refine SG.call rfl rfl rfl (vs := [.pointer (some ⟨p, 0, none⟩), fnv 37 [.pointer (some ⟨b7, 0, none⟩)]]) (by repeat' (first | exact True.intro | exact rho_of rfl | refine And.intro ?_ ?_)) ((pickF_spec (Fn := by infer_instance) hP5 hI hr (upB (dueL (ms.map Em.en) h l)) (fun e W T hT hk => must1_spec e (r7'.kp hk (fun hm => by have := hT _ hm; omega)) (hm5.kp hk (fun hm => by have := hT _ hm; omega)) hM)).mono (fun e w6 hh => ?_))
    obtain ⟨v', xs, he, hk6, hX, hxs⟩ := hh
    refine ⟨_, he, ?_⟩
    repeat (first|apply cD|apply cE|apply cH|refine cU rfl rfl rfl rfl (by first|(apply qas<;>(exact rfl))|fail) ?_)
    refine ret1 (Or.inl rfl) Try.results14 (by first | exact ResV.tmp rfl | exact ResV.agg rfl rfl (by assumption) (by first | exact dc_length _ | exact nc_length _ | exact rc_length _ _ _ | exact ec_length _ | exact dl_length _ _ _ _ | rfl) | exact ResV.cell rfl rfl (by assumption)) ?_
    exact ⟨v', xs, rfl, k5.trans hk6, ⟨own_mono hX.own k5.size, hX.ins⟩, hxs⟩
  have g1 : (i : Int) < (ms.length : Int) := by omega
  obtain ⟨a', c', e', -, hS5⟩ := hP5.sl
  cases e'
  obtain ⟨g, o1, rfl, hri⟩ := hS5.at hlt
  have hsu := dueL_succ (l := ms.map Em.en) (h := h) (leave := l) (i := i) (by simpa using hlt)
  rw [List.getElem_map] at hsu
  have hsc := hI.sc _ (List.mem_map.2 ⟨ms[i], List.getElem_mem hlt, rfl⟩)
  have hsc : 0 ≤ ms[i].since ∧ ms[i].since ≤ 1099511627776 := hsc
  repeat (first|apply cA|apply cB|apply cD|apply cE|refine cU rfl rfl rfl rfl (by first|(apply qls<;>(first|exact rfl|exact dct (by first|assumption|omega)|fail))|fail) ?_)
  refine cV rfl (by exact rho_of rfl) rfl ?_
  repeat (first|apply cA|apply cB|apply cE|apply cF|apply cG|refine cU rfl rfl rfl rfl (by first|((first|apply qla|apply qix)<;>(first|exact rfl|exact Ar.mk (by omega)|assumption|exact List.not_mem_nil|apply ec_length|fail))|fail) ?_)
  refine SG.alloc rfl rfl rfl (fun b9 w6 hk6 hb9 hB9 => ?_)
  refine SG.setAll (l := ec ms[i]) rfl rfl (by exact rho_of rfl) (by exact rho_of rfl) hB9 (ec_length _) rfl (ec_one _) (fun w7 hk7 hB9 => ?_)
  have k57 : Kp [] w5 w7 := hk6.trans_new hk7 (new1 (by omega))
  have r9 : Row w7 b9 0 (ec ms[i]) := Row.all hB9 rfl
  obtain ⟨-, q0, q1, -, -, q5⟩ := ec_rows r9
  simp only [Nat.zero_add] at q0 q1 q5
  have r5' := r5'.kp0 k57
  have r7' := r7'.kp0 k57
  have hm7 := hm5.kp0 k57
  clear hri r9
  repeat (first|apply cA|apply cB|apply cD|apply cE|refine cU rfl rfl rfl rfl (by first|((first|apply qmv|apply qlc|apply qfa)<;>(first|exact rfl|assumption|exact List.not_mem_nil))|fail) ?_)
  refine SG.ret rfl rfl rfl (vs := [.int .i64 h, .int .i64 ms[i].since, .int .i64 l]) (by repeat' (first | exact True.intro | exact rho_of rfl | refine And.intro ?_ ?_)) (due_spec hh hsc.1 hsc.2 hl) (fun w8 hk8 => ?_)
  have k58 := k57.trans hk8
  have q0 := q0.kp0 hk8
  have q1 := q1.kp0 hk8
  have r7' := r7'.kp0 hk8
  have hm8 := hm7.kp0 hk8
  have hdd : dueB h l ms[i].en = decide (l ≤ h - ms[i].since - 1) := rfl
  rw [hdd] at hsu
  by_cases hd : l ≤ h - ms[i].since - 1
  rotate_left
  · rw [decide_eq_false hd] at hsu ⊢
    rw [if_neg (by decide)] at hsu
    repeat (first|apply cD|apply cE)
    refine cX rfl (by exact rho_of rfl) rfl ?_
    repeat (first|apply cB|apply cD|apply cE|apply cF|apply cQ|refine cU rfl rfl rfl rfl (by first|((first|apply qmv|apply qad)<;>(first|exact rfl|exact Ar.mk (by omega)|fail))|fail) ?_)
    refine NG.round (i + 1, m) (by (repeat' (first | exact True.intro | exact rfl | refine And.intro ?_ ?_))) ⟨by simp only; omega, hk5.trans k58.any, hm8, by simp only; rw [hsu]; exact hM⟩ (by simp only; omega)
  rw [decide_eq_true hd] at hsu ⊢
  rw [if_pos rfl] at hsu
  have hpe : pairE ms[i].en = (ms[i].x.t.frm, ms[i].x.t.non) := rfl
  rw [hpe] at hsu
  have put : (∀ n, alook m ms[i].x.t.frm = some n → n < ms[i].x.t.non) → MaxM (aput m ms[i].x.t.frm ms[i].x.t.non) (dueL ((ms.map Em.en).take (i + 1)) h l) := fun hn => by rw [hsu]; exact hM.put hn
  cases hlk : alook m ms[i].x.t.frm with
  | none =>
    have hput := put (fun n hn => by rw [hlk] at hn; cases hn)
    repeat (first|apply cD|apply cE)
    refine cV rfl (by exact rho_of rfl) rfl ?_
    repeat (first | first|apply cA|apply cB|apply cD|apply cE|refine cU rfl rfl rfl rfl (by first|((first|apply qmv|apply qas|apply qlc|apply qla|apply qfa|apply qpk|apply qlk|apply qxt|apply qnt)<;>(first|exact rfl|assumption|exact List.not_mem_nil|apply dc_length|exact lk0 (by assumption)|fail))|fail) ?_ | refine SG.skip rfl rfl ?_)
    refine cV rfl (by exact rho_of rfl) rfl ?_
    repeat (first|apply cB|refine cU rfl rfl rfl rfl (by first|((first|apply qlc|apply qla|apply qfa)<;>(first|exact rfl|assumption|exact List.not_mem_nil|apply dc_length))|fail) ?_)
    refine SG.mapUpdate (enc := dv (n := 8)) (V := zcv) (kx := ms[i].x.t.frm) (vy := ms[i].x.t.non) rfl rfl (by exact rho_of rfl) (by exact rho_of rfl) (by exact rho_of rfl) hm8 BArr.key (fun w9 hk9 hm9 => ?_)
    repeat (first|apply cB|apply cD|apply cE|apply cQ|refine cU rfl rfl rfl rfl (by first|((first|apply qmv|apply qad)<;>(first|exact rfl|exact Ar.mk (by omega)|fail))|fail) ?_)
    refine NG.round (i + 1, _) (by (repeat' (first | exact True.intro | exact rfl | refine And.intro ?_ ?_))) ⟨by simp only; omega, (hk5.trans k58.any).trans hk9, hm9, hput⟩ (by simp only; omega)
  | some n =>
    by_cases hlt2 : n < ms[i].x.t.non
    · have hput := put (fun n' hn => by rw [hlk] at hn; cases hn; exact hlt2)
      repeat (first|apply cD|apply cE)
      refine cV rfl (by exact rho_of rfl) rfl ?_
      repeat (first|apply cA|apply cB|apply cD|apply cE|refine cU rfl rfl rfl rfl (by first|((first|apply qmv|apply qas|apply qlc|apply qla|apply qfa|apply qpk|apply qls|apply qlk|apply qxt|apply qnt)<;>(first|exact rfl|assumption|exact dct (by first|assumption|omega)|exact List.not_mem_nil|apply dc_length|exact lk1 (by assumption)|fail))|fail) ?_)
      refine cV rfl (by exact rho_of rfl) rfl ?_
      repeat (first|apply cB|refine cU rfl rfl rfl rfl (by first|((first|apply qlc|apply qla|apply qfa)<;>(first|exact rfl|assumption|exact List.not_mem_nil|apply dc_length))|fail) ?_)
      refine SG.mapUpdate (enc := dv (n := 8)) (V := zcv) (kx := ms[i].x.t.frm) (vy := ms[i].x.t.non) rfl rfl (by exact rho_of rfl) (by exact rho_of rfl) (by exact rho_of rfl) hm8 BArr.key (fun w9 hk9 hm9 => ?_)
      repeat (first|apply cB|apply cD|apply cE|apply cQ|refine cU rfl rfl rfl rfl (by first|((first|apply qmv|apply qad)<;>(first|exact rfl|exact Ar.mk (by omega)|fail))|fail) ?_)
      refine NG.round (i + 1, _) (by (repeat' (first | exact True.intro | exact rfl | refine And.intro ?_ ?_))) ⟨by simp only; omega, (hk5.trans k58.any).trans hk9, hm9, hput⟩ (by simp only; omega)
    · have hkeep : MaxM m (dueL ((ms.map Em.en).take (i + 1)) h l) := by rw [hsu]; exact hM.keep hlk hlt2
      repeat (first|apply cD|apply cE)
      refine cV rfl (by exact rho_of rfl) rfl ?_
      repeat (first|apply cA|apply cB|apply cD|apply cE|refine cU rfl rfl rfl rfl (by first|((first|apply qmv|apply qas|apply qlc|apply qla|apply qfa|apply qpk|apply qls|apply qlk|apply qxt|apply qnt)<;>(first|exact rfl|assumption|exact dcf (by first|assumption|omega)|exact List.not_mem_nil|apply dc_length|exact lk1 (by assumption)|fail))|fail) ?_)
      refine cX rfl (by exact rho_of rfl) rfl ?_
      repeat (first|apply cB|apply cD|apply cE|apply cF|apply cQ|refine cU rfl rfl rfl rfl (by first|((first|apply qmv|apply qad)<;>(first|exact rfl|exact Ar.mk (by omega)|fail))|fail) ?_)
      refine NG.round (i + 1, m) (by (repeat' (first | exact True.intro | exact rfl | refine And.intro ?_ ?_))) ⟨by simp only; omega, hk5.trans k58.any, hm8, hkeep⟩ (by simp only; omega)
end Go.Proofs.Ytgbgnlboogalgaa
namespace Go.Proofs.Ytgbgnlboogalgaa
open Go.Proofs
set_option linter.unusedVariables false
/-- None of S holds cells of a type, none is older than n. -/
def NoT (T : TypeId) (n : Nat) (w : World) (S : List Nat) : Prop := ∀ b ∈ S, n ≤ b ∧ ∀ cs f, w.heap[b]? ≠ some (.cells cs T f)
/-- The block of a slice is of a type, or is older than n. -/
def Tg {α : Type} (T : TypeId) (n : Nat) (w : World) (a : Option Addr) (l : List α) : Prop := Ty T w a l ∨ ∀ b off, a = some ⟨b, off, none⟩ → b < n
/-- Transactions that come, in memory. -/
structure TxsI (w : World) (n : Nat) (a : Option Addr) (xs : List Tm) : Prop where
  sl : Sl txc 13 w a xs
  tg : Tg 35 n w a xs
  ins : ∀ x ∈ xs, x.In n w
def pairT (t : Tx) : Dg × Int := (t.frm, t.non)
/-- What stays behind a block of some. -/
def doneL (l : List En) (ts : List Tx) : List En := l.filter (fun e => !upB (ts.map pairT) e)
attribute [local irreducible] CG NG SG Vals Der Row Blk MapIs IterAt nameT wrongT
end Go.Proofs.Ytgbgnlboogalgaa
namespace Go.Proofs.Ytgbgnlboogalgaa
open Go.Proofs
set_option linter.unusedVariables false
/-- One that waits, in the document's memory. -/
structure Wm where
  x : Tm
  since : Int
def Wm.en (e : Wm) : En := ⟨e.x.t, e.since⟩
def wc (e : Wm) : List Value := txc e.x ++ [.int .i64 e.since]
def wv (e : Wm) : Value := .agg (wc e).toArray
/-- The document's list of what waits, in memory. -/
structure PD (w : World) (n : Nat) (a : Option Addr) (c : Nat) (ws : List Wm) : Prop where
  sl : Sl wc 14 w a ws
  tg : Tg 88 n w a ws
  cap : ws.length ≤ c
  sm : a = none ∧ ws = [] ∨ ∃ b off, a = some ⟨b, off, none⟩
  ins : ∀ e ∈ ws, e.x.In n w
def pdc (room : Int) (a : Option Addr) (m c : Nat) : List Value := [.int .i64 room, .slice a m c]
abbrev oW (base : Nat) (l : List Wm) := oP base 88 14 wc l
attribute [local irreducible] CG NG SG Vals Der Row Blk MapIs IterAt DerX DerR wrongT
end Go.Proofs.Ytgbgnlboogalgaa
namespace Go.Proofs.Ytgbgnlboogalgaa
open Go.Proofs
set_option linter.unusedVariables false
attribute [local irreducible] CG NG SG Vals Der Row Blk MapIs IterAt DerX DerR wrongT nameT
end Go.Proofs.Ytgbgnlboogalgaa
namespace Go.Proofs.Ytgbgnlboogalgaa
set_option linter.unusedVariables false
section
variable {P : Program} {L : Env} {ty : TypeId} {pos : String} {af : Array Edge} {g : Option (Nat × Bool)} {S : List Nat} {w0 : World} {ops : List Oper} {gh : List Nat} {K : Env → (World → Prop) → (World → Prop) → Prop} {i : Nat} {ord : List Nat} {F R : World → Prop}
end
end Go.Proofs.Ytgbgnlboogalgaa
namespace Go.Proofs.Ytgbgnlboogalgaa
open Go.Proofs
set_option linter.unusedVariables false
/-- A transaction that comes, of any length. -/
structure Tm.Rd (x : Tm) (n : Nat) (w : World) : Prop where
  b : Bs w x.a1 x.c1 x.t.body
  s : Bs w x.a2 x.c2 x.t.sig
  t1 : Tb n w x.a1 x.t.body
  t2 : Tb n w x.a2 x.t.sig
def cutT (t : Tx) : Tx := ⟨t.frm, t.non, t.fee, t.kind, t.body.take 400, t.sig.take 1100⟩
def cutM (x : Tm) : Tm := ⟨cutT x.t, x.a1, x.c1, x.a2, x.c2⟩
def p11 (t : Tx) : List Value := dc t.frm ++ [.int .i64 t.non, .int .i64 t.fee, .int .i64 t.kind]
def p12 (t : Tx) (v : Value) : List Value := dc t.frm ++ [.int .i64 t.non, .int .i64 t.fee, .int .i64 t.kind, v]
theorem txc_p11 (t : Tx) (a1 a2 : Option Addr) (c1 c2 : Nat) : txc ⟨t, a1, c1, a2, c2⟩ = p11 t ++ ([.slice a1 t.body.length c1] ++ [.slice a2 t.sig.length c2]) := txc_mid4 t a1 a2 c1 c2
attribute [local irreducible] CG NG SG Vals Der Row Blk MapIs IterAt DerX DerR wrongT nameT
end Go.Proofs.Ytgbgnlboogalgaa
namespace Go.Proofs.Ytgbgnlboogalgaa
open Go.Proofs
set_option linter.unusedVariables false
/-- Transactions that come in, of any length. -/
structure TxsR (w : World) (n : Nat) (a : Option Addr) (xs : List Tm) : Prop where
  sl : Sl txc 13 w a xs
  rd : ∀ x ∈ xs, x.Rd n w
structure TxsN (w : World) (base n : Nat) (v : Value) (xs : List Tm) : Prop where
  own : w.ownsRow base 35 13 v xs.length (flt txc xs)
  ins : ∀ x ∈ xs, x.In n w
/-- A pool that comes to be filled. -/
noncomputable def fillL (ts : List Tx) : Nat → List En
  | 0 => []
  | i + 1 => match ts[i]? with
    | some t => addE 30 (fillL ts i) ((i / 3 : Nat) : Int) t
    | none => fillL ts i
noncomputable def fill (ts : List Tx) : List En := fillL ts ts.length
attribute [local irreducible] CG NG SG Vals Der Row Blk MapIs IterAt DerX DerR wrongT nameT
end Go.Proofs.Ytgbgnlboogalgaa
namespace Go.Proofs.Ytgbgnlboogalgaa
open Go.ChangeShapes Go.WideShapes Go.ChangeAt Go.RowKit
set_option linter.unusedVariables false
theorem own : ownKnob Try.prog.godebug = none := by kernel_rfl
theorem laidOut : laidOutB Try.prog = true := by kernel_rfl
theorem cells16 : Try.prog.cellsOf 52 = 1 := by kernel_rfl
/-- The elements of a slice, by how one is read. -/
theorem elems_of {H α : Type} {en : TypeId × Value → H} {P : Program} {w : World} {e : TypeId} {a : Option Addr} {n : Nat} (enc : α → List Value) (p : α → Prop) (h : SlOf en P w e a n)
    (rd : ∀ cs fuel y, DataW.trod en P w 0 (fun _ => true) true fuel e cs = some y → ∃ x : α, cs = enc x ∧ p x) : ∃ l : List α, l.length = n ∧ Sl enc (P.cellsOf e) w a l ∧ ∀ x ∈ l, p x := by
  have key : ∀ i : _root_.Fin n, ∃ x : α, (∃ b off, a = some ⟨b, off, none⟩ ∧ Row w b (off + i.1 * P.cellsOf e) (enc x)) ∧ p x := by
    intro i
    obtain ⟨b, off, cs, fuel, y, h1, h2, h3, h4⟩ := h.row i.1 i.2
    obtain ⟨x, rfl, hp⟩ := rd cs fuel y h4
    exact ⟨x, ⟨b, off, h1, h2⟩, hp⟩
  refine ⟨List.ofFn (fun i => Classical.choose (key i)), by simp, fun i x hx => ?_, fun x hx => ?_⟩
  · rw [List.getElem?_ofFn] at hx
    split at hx
    · rename_i hi
      cases hx
      exact (Classical.choose_spec (key ⟨i, hi⟩)).1
    · cases hx
  · obtain ⟨i, rfl⟩ := List.mem_ofFn.1 hx
    exact (Classical.choose_spec (key i)).2
end Go.Proofs.Ytgbgnlboogalgaa
namespace Go.Proofs.Ytgbgnlboogalgaa
open Go.Proofs
set_option linter.unusedVariables false
open Classical in
noncomputable def backS (room h : Int) (s : List En × Int) (t : Tx) : List En × Int := if (s.1.find? (isK t.frm t.non)).isSome then s else (addE room s.1 h t, if addZ room s.1 h t = 0 then s.2 + 1 else s.2)
noncomputable def backL (room : Int) (l : List En) (h : Int) (ts : List Tx) : List En × Int := ts.foldl (backS room h) (l, 0)
attribute [local irreducible] CG NG SG Vals Der Row Blk MapIs IterAt nameT wrongT
end Go.Proofs.Ytgbgnlboogalgaa
namespace Go.Proofs.Ytgbgnlboogalgaa
open Go.Proofs
set_option linter.unusedVariables false
open Classical in
noncomputable def enEq (a b : En) : Bool := decide (a = b)
open Classical in
noncomputable def ensEq (a b : List En) : Bool := decide (a = b)
attribute [local irreducible] CG NG SG Vals Der Row Blk MapIs IterAt nameT wrongT
end Go.Proofs.Ytgbgnlboogalgaa
namespace Go.Proofs.Ytgbgnlboogalgaa
open Go.Proofs
set_option linter.unusedVariables false
abbrev bcv (b : Bool) : Value := .bool b
/-- Left out: of a key, from a number on. -/
def exB (L : List (Dg × Int)) (e : En) : Bool := L.any (fun p => decide (p.1 = e.key ∧ p.2 ≤ e.non))
def outL (l : List En) (ns : List Dg) : List (Dg × Int) := (l.filter (fun e => decide (nameT e.t ∈ ns))).map pairE
/-- How many are left to be taken, when so many might have been. -/
def leftZ (most : Int) (c : Nat) : Int := if most ≤ c then (if most ≤ 0 then most else 0) else most - c
def cntN (q : Nat → Bool) (pre : List Nat) : Nat := (pre.filter q).length
def takeG (q : Nat → Bool) (most : Int) (pre : List Nat) (j : Nat) : Bool := q j && decide ((cntN q pre : Int) < most)
attribute [local irreducible] CG NG SG Vals Der Row Blk MapIs IterAt nameT wrongT
end Go.Proofs.Ytgbgnlboogalgaa
namespace Go.Proofs.Ytgbgnlboogalgaa
open Go.Proofs
set_option linter.unusedVariables false
def keyD (k : UInt8) : Dg := ⟨[k, 0, 0, 0, 0, 0, 0, 0], rfl⟩
def oneT (k : UInt8) (n f : Int) : Tx := ⟨keyD k, n, f, 2, [], []⟩
def oneM (k : UInt8) (n f : Int) : Tm := ⟨oneT k n f, none, 0, none, 0⟩
theorem oneM_in (k : UInt8) (n f : Int) (m : Nat) (w : World) : (oneM k n f).In m w :=
  ⟨Bs.nil, Bs.nil, Or.inr (fun _ _ e => by cases e), Or.inr (fun _ _ e => by cases e), Nat.zero_le _, Nat.zero_le _⟩
theorem wrong_one {k : UInt8} {n f : Int} (h0 : 0 ≤ n) (h1 : n ≤ 1099511627776) (h2 : 0 ≤ f) (h3 : f ≤ 1125899906842624) : wrongT (oneT k n f) = 0 := by
  unfold wrongT
  rw [if_pos ⟨h0, h1, h2, h3, (by show (0 : Int) ≤ 2; decide), (by show (2 : Int) ≤ 2; decide), Nat.zero_le _, Nat.zero_le _⟩, if_neg (by show ¬ (2 : Int) = 0; decide)]
theorem addE_new {room h : Int} {l : List En} {t : Tx} (h1 : ¬ (h < 0 ∨ 1099511627776 < h)) (h2 : wrongT t = 0) (h3 : l.find? (isK t.frm t.non) = none) (h4 : (l.length : Int) < room) : addZ room l h t = 0 ∧ addE room l h t = l ++ [⟨t, h⟩] := by
  have hz := addZ_ok (room := room) h1 h2 h3 (by omega)
  refine ⟨hz, ?_⟩
  unfold addE
  rw [if_pos hz]
  unfold addL
  rw [erase_none h3]
def e1 : En := ⟨oneT 1 0 1, 3⟩
def e2 : En := ⟨oneT 1 1 9, 3⟩
def e3 : En := ⟨oneT 2 0 5, 3⟩
theorem ord_known : ordE [e1, e2, e3] = [e3, e1, e2] := by
  refine Ord.eq ?_
  have hb : ∀ l, e1 ∈ l → ¬ Frst En.key En.non l e2 := fun l h hf => by
    have := hf e1 h (by decide)
    revert this
    decide
  refine .step [e1, e2] e3 [] _ ⟨fun o ho hk => ?_, fun o ho hf => ?_, fun o ho hf => ?_⟩ (.step [] e1 [e2] _ ⟨fun o ho hk => ?_, fun o ho hf => ?_, fun o ho hf => (by cases ho)⟩ (.step [] e2 [] _ ⟨fun o ho hk => ?_, fun o ho hf => ?_, fun o ho hf => (by cases ho)⟩ .nil))
  · simp only [List.cons_append, List.nil_append, List.mem_cons, List.not_mem_nil, or_false] at ho
    rcases ho with rfl | rfl | rfl
    · exact absurd hk (by decide)
    · exact absurd hk (by decide)
    · exact Int.le_refl _
  · have ho' := ho
    simp only [List.cons_append, List.nil_append, List.mem_cons, List.not_mem_nil, or_false] at ho
    rcases ho with rfl | rfl | rfl
    · decide
    · exact absurd hf (hb _ (by simp))
    · exact Int.le_refl _
  · simp only [List.mem_cons, List.not_mem_nil, or_false] at ho
    rcases ho with rfl | rfl
    · decide
    · exact absurd hf (hb _ (by simp))
  · simp only [List.nil_append, List.mem_cons, List.not_mem_nil, or_false] at ho
    rcases ho with rfl | rfl
    · exact Int.le_refl _
    · decide
  · simp only [List.nil_append, List.mem_cons, List.not_mem_nil, or_false] at ho
    rcases ho with rfl | rfl
    · exact Int.le_refl _
    · exact absurd hf (hb _ (by simp))
  · simp only [List.nil_append, List.mem_cons, List.not_mem_nil, or_false] at ho
    subst ho
    exact Int.le_refl _
  · simp only [List.nil_append, List.mem_cons, List.not_mem_nil, or_false] at ho
    subst ho
    exact Int.le_refl _
theorem map3 {xs : List Tm} {a b c : Tx} (h : xs.map (·.t) = [a, b, c]) : ∃ x y z, xs = [x, y, z] ∧ x.t = a ∧ y.t = b ∧ z.t = c := by
  cases xs with
  | nil => cases h
  | cons x xs =>
    cases xs with
    | nil => cases h
    | cons y xs =>
      cases xs with
      | nil => cases h
      | cons z xs =>
        cases xs with
        | nil =>
          simp only [List.map_cons, List.map_nil, List.cons.injEq, and_true] at h
          exact ⟨x, y, z, rfl, h.1, h.2.1, h.2.2⟩
        | cons u xs => simp at h
theorem must5 : (([e3, e1, e2].filter (upB (dueL [e1, e2, e3] 5 2))).map (·.t)).length = 0 := by rw [List.length_map]; decide
theorem must6 : (([e3, e1, e2].filter (upB (dueL [e1, e2, e3] 6 2))).map (·.t)).length = 3 := by rw [List.length_map]; decide
theorem bkey (k : UInt8) (w : World) : (Instr.build 32 #[(0, bv k)]).run Try.prog w = .ok (dv (keyD k)) w := by kernel_rfl
theorem bone (k : UInt8) (n f : Int) (w : World) : (Instr.build 35 #[(0, dv (keyD k)), (1, .int .i64 n), (2, .int .i64 f), (3, .int .i64 2)]).run Try.prog w = .ok (txv (oneM k n f)) w := by kernel_rfl
theorem bbnd (l : Int) (w : World) : (Instr.build 42 #[(1, .int .i64 l)]).run Try.prog w = .ok (.agg #[.int .i64 0, .int .i64 l, .int .i64 0]) w := by kernel_rfl
attribute [local irreducible] CG NG SG Vals Der Row Blk MapIs IterAt DerX DerR wrongT nameT
set_option maxHeartbeats 16000000 in
theorem one_spec (k : UInt8) (n f : Int) (w : World) : Ret Try.prog 19 #[bv k, .int .i64 n, .int .i64 f] w (txv (oneM k n f)) := by
  refine enter3 Try.func19 rfl Try.ntmps19 rfl ?_
  repeat (first|apply cA|apply cB)
  refine SG.alloc rfl rfl rfl (fun b2 w2 hk2 hb2 hB2 => ?_)
  have hB2 : Blk w2 b2 (.cells (txc ⟨⟨zd, 0, 0, 0, [], []⟩, none, 0, none, 0⟩).toArray 35) := hB2
  repeat (first|apply cA|apply cB|apply cD|apply cE|refine cU rfl rfl rfl rfl (by first|(apply qmv<;>(exact rfl))|fail) ?_)
  refine cU rfl rfl rfl rfl (vals_build rfl (bkey k)) ?_
  repeat (first|refine cU rfl rfl rfl rfl (by first|(apply qmv<;>(exact rfl))|fail) ?_)
  refine cU rfl rfl rfl rfl (vals_build rfl (bone k n f)) ?_
  refine SG.setAll (l := txc (oneM k n f)) rfl rfl (by exact rho_of rfl) (by exact rho_of rfl) hB2 (txc_length _) rfl (txc_one _) (fun w3 hk3 hB2 => ?_)
  have hr : Row w3 b2 0 (txc (oneM k n f)) := Row.all hB2 rfl
  repeat (first|apply cD|apply cE|apply cH)
  refine ret1 (Or.inl rfl) Try.results19 (ResV.agg rfl rfl hr (txc_length _)) ?_
  exact ⟨rfl, hk2.trans_new hk3 (new1 (by omega))⟩
set_option maxHeartbeats 32000000 in
theorem known_spec (w : World) : Ret Try.prog 12 #[] w (.bool true) := by
  refine enter0 Try.func12 rfl Try.ntmps12 ?_
  have h00 : (0 : Int) = 0 := rfl
  have hnn : ∀ (b : Nat), True := fun _ => trivial
  have a1 := addE_new (room := 4) (h := 3) (l := []) (t := oneT 1 0 1) (by decide) (wrong_one (by decide) (by decide) (by decide) (by decide)) rfl (by decide)
  have a2 := addE_new (room := 4) (h := 3) (l := [e1]) (t := oneT 1 1 9) (by decide) (wrong_one (by decide) (by decide) (by decide) (by decide)) rfl (by decide)
  have a3 := addE_new (room := 4) (h := 3) (l := [e1, e2]) (t := oneT 2 0 5) (by decide) (wrong_one (by decide) (by decide) (by decide) (by decide)) rfl (by decide)
  have i0 : PInv 4 [] := inv_nil (by decide)
  have i1 : PInv 4 [e1] := by
    have := addE_inv (h := 3) (t := oneT 1 0 1) i0
    rw [a1.2] at this
    exact this
  have i2 : PInv 4 [e1, e2] := by
    have := addE_inv (h := 3) (t := oneT 1 1 9) i1
    rw [a2.2] at this
    exact this
  have i3 : PInv 4 [e1, e2, e3] := by
    have := addE_inv (h := 3) (t := oneT 2 0 5) i2
    rw [a3.2] at this
    exact this
  repeat (first|apply cA|apply cB|apply cD|apply cE|refine cU rfl rfl rfl rfl (by first|(apply qas<;>(exact rfl))|fail) ?_)
  refine SG.call rfl rfl rfl (vs := [.int .i64 4]) (by repeat' (first | exact True.intro | exact rho_of rfl | refine And.intro ?_ ?_)) ((new_spec (w := w) (room := 4) (by omega) (by omega)).mono (fun e w1 hh => ?_))
  obtain ⟨p, he, hp, hk1, hP⟩ := hh
  refine ⟨_, he, ?_⟩
  clear he
  have hP := hP w.heap.size (Nat.le_refl _)
  repeat (first|apply cA|apply cB|apply cD|apply cE|refine cU rfl rfl rfl rfl (by first|((first|apply qep|apply qmv|apply qas|apply qpk|apply qni|apply qxt|apply qep)<;>(first|exact rfl|exact dct (by first|assumption|omega)|fail))|fail) ?_)
  refine SG.ret rfl rfl rfl (vs := [bv 1, .int .i64 0, .int .i64 1]) (by repeat' (first | exact True.intro | exact rho_of rfl | refine And.intro ?_ ?_)) (one_spec 1 0 1 w1) (fun w2 hk2 => ?_)
  have hP2 := hP.kp0 hk2
  refine SG.call rfl rfl rfl (vs := [.pointer (some ⟨p, 0, none⟩), .int .i64 3, txv (oneM 1 0 1)]) (by repeat' (first | exact True.intro | exact rho_of rfl | refine And.intro ?_ ?_)) ((add_spec (h := 3) hP2 (oneM_in 1 0 1 _ _) i0 (by omega)).mono (fun e w3 hh => ?_))
  obtain ⟨he, v3, ms3, hP3, hm3, hk3, hv3⟩ := hh
  rw [show addZ 4 (List.map Em.en []) 3 (oneM 1 0 1).t = 0 from a1.1] at he
  rw [show addE 4 (List.map Em.en []) 3 (oneM 1 0 1).t = [e1] from a1.2] at hm3
  refine ⟨_, he, ?_⟩
  clear he
  have k3 : Kp [] w w3 := (hk1.trans hk2).trans_new hk3 (fun z hz => by
    rcases List.mem_cons.1 hz with rfl | hz
    · exact Or.inr hp
    · exact absurd (ownB_mem hz) (fun h => by cases h))
  have g3 : ∀ g, v3.ownBlock = some g → w.heap.size ≤ g := fun g hg => own_geB hP3.own g hg
  repeat (first|refine cU rfl rfl rfl rfl (by first|((first|apply qmv|apply qpk|apply qni)<;>(first|exact rfl|exact dct (by first|assumption|omega)|fail))|fail) ?_)
  refine SG.ret rfl rfl rfl (vs := [bv 1, .int .i64 1, .int .i64 9]) (by repeat' (first | exact True.intro | exact rho_of rfl | refine And.intro ?_ ?_)) (one_spec 1 1 9 w3) (fun w4 hk4 => ?_)
  have hP4 := hP3.kp0 hk4
  refine SG.call rfl rfl rfl (vs := [.pointer (some ⟨p, 0, none⟩), .int .i64 3, txv (oneM 1 1 9)]) (by repeat' (first | exact True.intro | exact rho_of rfl | refine And.intro ?_ ?_)) ((add_spec (h := 3) hP4 (oneM_in 1 1 9 _ _) (by rw [hm3]; exact i1) (by omega)).mono (fun e w5 hh => ?_))
  obtain ⟨he, v5, ms5, hP5, hm5, hk5, hv5⟩ := hh
  rw [hm3, show addZ 4 [e1] 3 (oneM 1 1 9).t = 0 from a2.1] at he
  rw [hm3, show addE 4 [e1] 3 (oneM 1 1 9).t = [e1, e2] from a2.2] at hm5
  refine ⟨_, he, ?_⟩
  clear he
  have k5 : Kp [] w w5 := (k3.trans hk4).trans_new hk5 (fun z hz => by
    rcases List.mem_cons.1 hz with rfl | hz
    · exact Or.inr hp
    · exact Or.inr (g3 z (ownB_mem hz)))
  have g5 : ∀ g, v5.ownBlock = some g → w.heap.size ≤ g := fun g hg => own_geB hP5.own g hg
  repeat (first|refine cU rfl rfl rfl rfl (by first|((first|apply qmv|apply qpk|apply qni)<;>(first|exact rfl|exact dct (by first|assumption|omega)|fail))|fail) ?_)
  refine SG.ret rfl rfl rfl (vs := [bv 2, .int .i64 0, .int .i64 5]) (by repeat' (first | exact True.intro | exact rho_of rfl | refine And.intro ?_ ?_)) (one_spec 2 0 5 w5) (fun w6 hk6 => ?_)
  have hP6 := hP5.kp0 hk6
  refine SG.call rfl rfl rfl (vs := [.pointer (some ⟨p, 0, none⟩), .int .i64 3, txv (oneM 2 0 5)]) (by repeat' (first | exact True.intro | exact rho_of rfl | refine And.intro ?_ ?_)) ((add_spec (h := 3) hP6 (oneM_in 2 0 5 _ _) (by rw [hm5]; exact i2) (by omega)).mono (fun e w7 hh => ?_))
  obtain ⟨he, v7, ms7, hP7, hm7, hk7, hv7⟩ := hh
  rw [hm5, show addZ 4 [e1, e2] 3 (oneM 2 0 5).t = 0 from a3.1] at he
  rw [hm5, show addE 4 [e1, e2] 3 (oneM 2 0 5).t = [e1, e2, e3] from a3.2] at hm7
  refine ⟨_, he, ?_⟩
  clear he
  have k7 : Kp [] w w7 := (k5.trans hk6).trans_new hk7 (fun z hz => by
    rcases List.mem_cons.1 hz with rfl | hz
    · exact Or.inr hp
    · exact Or.inr (g5 z (ownB_mem hz)))
  have i7 : PInv 4 (ms7.map Em.en) := by rw [hm7]; exact i3
  repeat (first|apply cD|apply cE|refine cU rfl rfl rfl rfl (by first|((first|apply qpk|apply qni)<;>(first|exact rfl|exact dct (by first|assumption|omega)|fail))|fail) ?_)
  refine cX rfl (by exact rho_of rfl) rfl ?_
  repeat (first|apply cA|apply cB|apply cE|apply cF|refine cU rfl rfl rfl rfl (by first|(apply qmv<;>(exact rfl))|fail) ?_)
  refine SG.call rfl rfl rfl (vs := [.pointer (some ⟨p, 0, none⟩)]) (by repeat' (first | exact True.intro | exact rho_of rfl | refine And.intro ?_ ?_)) ((all_spec hP7 i7 (by omega)).mono (fun e w8 hh => ?_))
  obtain ⟨v8, xs, he, hk8, hX, hxs⟩ := hh
  refine ⟨_, he, ?_⟩
  clear he
  rw [hm7, ord_known] at hxs
  obtain ⟨x1, x2, x3, rfl, t1, t2, t3⟩ := map3 hxs
  have t1 : x1.t = (oneM 2 0 5).t := t1
  have t2 : x2.t = (oneM 1 0 1).t := t2
  have t3 : x3.t = (oneM 1 1 9).t := t3
  obtain ⟨a, c, rfl, hc, hS⟩ := hX.sl
  have in1 := hX.ins x1 (by simp)
  have in2 := hX.ins x2 (by simp)
  have in3 := hX.ins x3 (by simp)
  obtain ⟨b, o, rfl, r1⟩ := hS.at (i := 0) (by simp)
  have r2 : Row w8 b (o + 1 * 13) (txc x2) := hS.row (i := 1) rfl
  have r3 : Row w8 b (o + 2 * 13) (txc x3) := hS.row (i := 2) rfl
  have r1 : Row w8 b (o + 0 * 13) (txc x1) := r1
  have gl : (([x1, x2, x3] : List Tm).length : Int) = 3 := rfl
  have hP8 := hP7.kp0 hk8
  repeat (first|apply cA|apply cD|apply cE|refine cU rfl rfl rfl rfl (by first|(apply qas<;>(exact rfl))|fail) ?_)
  refine CG.tailg mixed 34 [0, 1, 2, 3, 4, 5, 6, 7, 8, 9, 10, 11, 12, 13, 14, 15, 16, 17, 18, 19, 20, 21, 22, 23, 24, 25, 26, 27, 28, 29, 30, 31, 32, 33] [27] [] (fun _ => True) (by kernel_rfl) trivial (fun _ _ _ _ => trivial) ?_
  repeat (refine Der.val rfl rfl rfl (by first|((first|apply qmv|apply qla|apply qic|apply qei|apply qln)<;>(first|exact rfl|exact Ar.mk (by omega)|assumption|exact dct (by first|assumption|omega)|exact List.not_mem_nil|apply txc_length|fail))|fail) ?_)
  refine Der.call rfl rfl rfl (vs := [bv 2, .int .i64 0, .int .i64 5]) (by repeat' (first | exact True.intro | exact rho_of rfl | refine And.intro ?_ ?_)) (fun W hk _ => one_spec 2 0 5 W) ?_
  refine Der.call rfl rfl rfl (vs := [txv x1, txv (oneM 2 0 5)]) (v := .bool true) (by repeat' (first | exact True.intro | exact rho_of rfl | refine And.intro ?_ ?_)) (fun W hk _ => by have := tsame_spec (in1.kp0 hk) (oneM_in 2 0 5 0 W); rw [txEq_t t1] at this; exact this) ?_
  repeat (refine Der.val rfl rfl rfl (by first|((first|apply qmv|apply qla|apply qic|apply qpk)<;>(first|exact rfl|exact Ar.mk (by omega)|assumption|exact List.not_mem_nil|apply txc_length|fail))|fail) ?_)
  refine Der.call rfl rfl rfl (vs := [bv 1, .int .i64 0, .int .i64 1]) (by repeat' (first | exact True.intro | exact rho_of rfl | refine And.intro ?_ ?_)) (fun W hk _ => one_spec 1 0 1 W) ?_
  refine Der.call rfl rfl rfl (vs := [txv x2, txv (oneM 1 0 1)]) (v := .bool true) (by repeat' (first | exact True.intro | exact rho_of rfl | refine And.intro ?_ ?_)) (fun W hk _ => by have := tsame_spec (in2.kp0 hk) (oneM_in 1 0 1 0 W); rw [txEq_t t2] at this; exact this) ?_
  repeat (refine Der.val rfl rfl rfl (by first|((first|apply qmv|apply qla|apply qic|apply qpk)<;>(first|exact rfl|exact Ar.mk (by omega)|assumption|exact List.not_mem_nil|apply txc_length|fail))|fail) ?_)
  refine Der.call rfl rfl rfl (vs := [bv 1, .int .i64 1, .int .i64 9]) (by repeat' (first | exact True.intro | exact rho_of rfl | refine And.intro ?_ ?_)) (fun W hk _ => one_spec 1 1 9 W) ?_
  refine Der.call rfl rfl rfl (vs := [txv x3, txv (oneM 1 1 9)]) (v := .bool true) (by repeat' (first | exact True.intro | exact rho_of rfl | refine And.intro ?_ ?_)) (fun W hk _ => by have := tsame_spec (in3.kp0 hk) (oneM_in 1 1 9 0 W); rw [txEq_t t3] at this; exact this) ?_
  repeat (refine Der.val rfl rfl rfl (by first|((first|apply qmv|apply qpk)<;>(exact rfl))|fail) ?_)
  refine Der.val rfl rfl rfl (vals_build rfl (bbnd 2)) ?_
  refine Der.callG (X := Option Addr × Nat) (vs := [.pointer (some ⟨p, 0, none⟩), .int .i64 5, .agg #[.int .i64 0, .int .i64 2, .int .i64 0]]) (fun q => .slice q.1 0 q.2) (fun _ _ => True) rfl rfl rfl rfl (by repeat' (first | exact True.intro | exact rho_of rfl | refine And.intro ?_ ?_)) (fun _ _ _ _ _ => trivial) (fun _ _ _ _ => trivial) (fun W hk _ => (must_spec (h := 5) (f := 0) (l := 2) (s := 0) (hP8.kp0 hk) i7 (by omega) ⟨by decide, by decide⟩ ⟨by decide, by decide⟩).mono (fun e W' hh => ?_)) (fun q => ?_)
  · obtain ⟨v', ys, he, hk', hY, hys⟩ := hh
    have hyl : ys.length = 0 := by
      have := congrArg List.length hys
      rw [hm7, ord_known, must5, List.length_map] at this
      exact this
    obtain ⟨a', c', rfl, -, -⟩ := hY.sl
    rw [hyl] at he
    exact ⟨(a', c'), he, trivial, hk'⟩
  repeat (refine Der.val rfl rfl rfl (by first|((first|apply qmv|apply qpk|apply qei|apply qln)<;>(first|exact rfl|exact dct (by first|assumption|omega)|fail))|fail) ?_)
  refine Der.val rfl rfl rfl (vals_build rfl (bbnd 2)) ?_
  refine Der.tl (fun w9 hk9 _ _ => ?_)
  refine SG.call rfl rfl rfl (vs := [.pointer (some ⟨p, 0, none⟩), .int .i64 6, .agg #[.int .i64 0, .int .i64 2, .int .i64 0]]) (by repeat' (first | exact True.intro | exact rho_of rfl | refine And.intro ?_ ?_)) ((must_spec (h := 6) (f := 0) (l := 2) (s := 0) (hP8.kp0 hk9) i7 (by omega) ⟨by decide, by decide⟩ ⟨by decide, by decide⟩).mono (fun e w10 hh => ?_))
  obtain ⟨v', ys, he, hk', hY, hys⟩ := hh
  have hyl : ys.length = 3 := by
    have := congrArg List.length hys
    rw [hm7, ord_known, must6, List.length_map] at this
    exact this
  obtain ⟨a', c', rfl, -, -⟩ := hY.sl
  rw [hyl] at he
  refine ⟨_, he, ?_⟩
  repeat (first|apply cD|apply cE|apply cH|refine cU rfl rfl rfl rfl (by first|((first|apply qas|apply qpk|apply qei|apply qln)<;>(first|exact rfl|exact dct (by first|assumption|omega)|fail))|fail) ?_)
  refine ret1 (Or.inl rfl) Try.results12 (by first | exact ResV.tmp rfl | exact ResV.agg rfl rfl (by assumption) (by first | exact dc_length _ | exact nc_length _ | exact rc_length _ _ _ | exact ec_length _ | exact dl_length _ _ _ _ | rfl) | exact ResV.cell rfl rfl (by assumption)) ?_
  exact ⟨rfl, ((k7.trans hk8).trans hk9).trans hk'⟩
end Go.Proofs.Ytgbgnlboogalgaa
namespace Go.Proofs.Ytgbgnlboogalgaa
open Go.Proofs
set_option linter.unusedVariables false
attribute [local irreducible] CG NG SG Vals Der Row Blk MapIs IterAt DerX DerR wrongT nameT
end Go.Proofs.Ytgbgnlboogalgaa
namespace Go.Proofs.Ytgbgnlboogalgaa
set_option linter.unusedVariables false
def isT (k : Dg) (n : Int) (t : Tx) : Bool := decide (t.frm = k ∧ t.non = n)
noncomputable def ordT (ts : List Tx) : List Tx := ordL Tx.frm Tx.non Tx.fee ts
open Classical in
noncomputable def goodT (room : Int) (L : List Tx) (t : Tx) : Prop := wrongT t = 0 ∧ match L.find? (isT t.frm t.non) with
  | some o => ¬ o = t ∧ ¬ t.fee ≤ o.fee
  | none => ¬ room ≤ L.length
open Classical in
noncomputable def addT (room : Int) (L : List Tx) (t : Tx) : List Tx := if goodT room L t then L.filter (fun x => !isT t.frm t.non x) ++ [t] else L
noncomputable def fillT (ts : List Tx) : List Tx := ts.foldl (addT 30) []
def nk (k : Dg) (t : Tx) : Bool := decide (t.frm ≠ k)
end Go.Proofs.Ytgbgnlboogalgaa
namespace Go.Proofs.Ytgbgnlboogalgaa
set_option linter.unusedVariables false
section
variable {l : List En} {m : Nat}
noncomputable def firstX (l : List En) (m : Nat) : List Tx := ((ordE l).take m).map (·.t)
noncomputable def backX (l : List En) (m : Nat) : List En := doneL l (firstX l m) ++ (firstX l m).map (fun t => ⟨t, 5⟩)
end
end Go.Proofs.Ytgbgnlboogalgaa
namespace Go.Proofs.Ytgbgnlboogalgaa
open Go.Proofs
set_option linter.unusedVariables false
theorem qr16 {P : Program} {S : List Nat} {w0 : World} {F : World → Prop} {L : Env} {d : Option Nat} {ty : TypeId} {pos : String} {af : Array Edge} {g : Option (Nat × Bool)} {T T' : TypeId} [u : Ut P T (.int .u16)] {x y : Operand} {a b : Int} (hx : ro L x = some (.int .u16 a)) (hy : ro L y = some (.int .u16 b)) (h : Ar (0 ≤ a ∧ 0 < b)) : Vals P S w0 F L ⟨d, .binOp .rem T x y T', ty, pos, af, g⟩ (.int .u16 (a % b)) := fun w _ _ => by
  obtain ⟨h0, h2⟩ := h.h
  have hb : b ≠ 0 := by omega
  simp only [execOp, rho_of hx, rho_of hy, eqGuard, binOp, Op.intDiv, if_neg hb, Sem.run_bind, Sem.run_pure, Result.andThen, Int.tmod_eq_emod_of_nonneg h0]; rfl
def u16c (z : Int) : List Value := [.int .u16 z]
def btT (i : Nat) (f : Int) : Tx := ⟨keyD 1, 7, f, 2, [UInt8.ofNat i], []⟩
def btE (i : Nat) (f : Int) : En := ⟨btT i f, (i : Int)⟩
/-- What waits behind i fees. -/
def Bst (i : Nat) (best : Int) (l : List En) : Prop := (best = -1 ∧ l = []) ∨ ∃ j, j < i ∧ 0 ≤ best ∧ best < 50 ∧ l = [btE j best]
theorem wrong_bt {i : Nat} {f : Int} (h0 : 0 ≤ f) (h1 : f < 50) : wrongT (btT i f) = 0 := by
  unfold wrongT
  rw [if_pos ⟨(by show (0 : Int) ≤ 7; decide), (by show (7 : Int) ≤ 1099511627776; decide), h0, (by show f ≤ _; omega), (by show (0 : Int) ≤ 2; decide), (by show (2 : Int) ≤ 2; decide), (by show 1 ≤ 32768; decide), (by show 0 ≤ 1024; decide)⟩, if_neg (by show ¬ (2 : Int) = 0; decide)]
theorem bt_ne {i j : Nat} {f g : Int} (hi : i < 20) (hj : j < i) : btT j g ≠ btT i f := fun h => by
  have h1 := congrArg Tx.body h
  simp only [btT, List.cons.injEq, and_true] at h1
  have h2 := congrArg UInt8.toNat h1
  rw [UInt8.toNat_ofNat', UInt8.toNat_ofNat'] at h2
  omega
theorem find_bt (i j : Nat) (f g : Int) : [btE j g].find? (isK (btT i f).frm (btT i f).non) = some (btE j g) := rfl
theorem bst_better {i : Nat} {best f : Int} {l : List En} (hb : Bst i best l) (hi : i < 20) (h0 : 0 ≤ f) (h1 : f < 50) (hg : best < f) : addZ 1 l (i : Int) (btT i f) = 0 ∧ addE 1 l (i : Int) (btT i f) = [btE i f] := by
  have hh : ¬ ((i : Int) < 0 ∨ 1099511627776 < (i : Int)) := by omega
  rcases hb with ⟨_, rfl⟩ | ⟨j, hj, _, _, rfl⟩
  · exact addE_new hh (wrong_bt h0 h1) rfl (by decide)
  · have hz := addZ_new (room := 1) (l := [btE j best]) hh (wrong_bt (i := i) h0 h1) (find_bt i j f best) (bt_ne hi hj) (by show ¬ f ≤ best; omega)
    refine ⟨hz, ?_⟩
    unfold addE
    rw [if_pos hz]
    rfl
theorem bst_old {i : Nat} {best f : Int} {l : List En} (hb : Bst i best l) (hi : i < 20) (h0 : 0 ≤ f) (h1 : f < 50) (hg : ¬ best < f) : addZ 1 l (i : Int) (btT i f) = 18 ∧ addE 1 l (i : Int) (btT i f) = l := by
  have hh : ¬ ((i : Int) < 0 ∨ 1099511627776 < (i : Int)) := by omega
  rcases hb with ⟨h, rfl⟩ | ⟨j, hj, _, _, rfl⟩
  · omega
  · have hz := addZ_old (room := 1) (l := [btE j best]) hh (wrong_bt (i := i) h0 h1) (find_bt i j f best) (bt_ne hi hj) (by show f ≤ best; omega)
    refine ⟨hz, ?_⟩
    unfold addE
    rw [if_neg (by rw [hz]; decide)]
theorem blk_un {w : World} {b : Nat} {o : Obj} (h : Blk w b o) : w.heap[b]? = some o := h
theorem ord_one (e : En) : ordE [e] = [e] := by
  have h := (ordE_perm [e])
  exact List.perm_singleton.1 h
theorem find_one (e : En) : findE [e] (nameT e.t) = some e := by
  unfold findE
  rw [ord_one]
  have : hasN (nameT e.t) e = true := decide_eq_true rfl
  simp [List.find?_cons, this]
theorem find_one' {e : En} {d : Dg} (h : nameT e.t = d) : findE [e] d = some e := by
  subst h
  exact find_one e
theorem add_same {j : Nat} {best : Int} (h0 : 0 ≤ best) (h1 : best < 50) : addZ 1 [btE j best] 3 (btT j best) = 7 ∧ addE 1 [btE j best] 3 (btT j best) = [btE j best] := by
  have hz := addZ_same (room := 1) (h := 3) (l := [btE j best]) (t := btT j best) (by decide) (wrong_bt h0 h1) (find_bt j j best best) rfl
  refine ⟨hz, ?_⟩
  unfold addE
  rw [if_neg (by rw [hz]; decide)]
theorem add_full {j : Nat} {best : Int} : addZ 1 [btE j best] 3 (oneT 2 0 9) = 8 :=
  addZ_full (by decide) (wrong_one (by decide) (by decide) (by decide) (by decide)) rfl (by show (1 : Int) ≤ 1; decide)
theorem map1 {xs : List Tm} {a : Tx} (h : xs.map (·.t) = [a]) : ∃ x, xs = [x] ∧ x.t = a := by
  cases xs with
  | nil => cases h
  | cons x xs =>
    cases xs with
    | nil =>
      simp only [List.map_cons, List.map_nil, List.cons.injEq, and_true] at h
      exact ⟨x, rfl, h⟩
    | cons u xs => simp at h
theorem u16w {z : Int} (h0 : 0 ≤ z) : IntKind.wrap .i64 (z % 50) = z % 50 := by
  have h2 : 0 ≤ z % 50 := Int.emod_nonneg _ (by omega)
  have h3 : z % 50 < 50 := Int.emod_lt_of_pos _ (by omega)
  generalize z % 50 = x at h2 h3
  simp only [IntKind.wrap, IntKind.signed, IntKind.bits]
  simp
  omega
attribute [local irreducible] CG NG SG Vals Der Row Blk MapIs IterAt DerX DerR wrongT nameT
set_option maxHeartbeats 64000000 in
theorem better_walk (w : World) (a : Option Addr) (c : Nat) (zs : List Int) (hZ : Sl u16c 1 w a zs) (hz : ∀ z ∈ zs, 0 ≤ z ∧ z < 65536) : Ret Try.prog 6 #[.slice a zs.length c] w (.bool true) := by
  refine enter1 Try.func6 rfl Try.ntmps6 rfl ?_
  have h00 : (0 : Int) = 0 := rfl
  have h18 : (18 : Int) = 18 := rfl
  repeat (first|apply cA|apply cB|apply cD|apply cE|refine cU rfl rfl rfl rfl (by first|(apply qas<;>(exact rfl))|fail) ?_)
  refine SG.call rfl rfl rfl (vs := [.int .i64 1]) (by repeat' (first | exact True.intro | exact rho_of rfl | refine And.intro ?_ ?_)) ((new_spec (w := w) (room := 1) (by omega) (by omega)).mono (fun e w1 hh => ?_))
  obtain ⟨p, he, hp, hk1, hP⟩ := hh
  refine ⟨_, he, ?_⟩
  clear he
  have hP := hP w.heap.size (Nat.le_refl _)
  repeat (first|apply cA|apply cB|apply cD|apply cE|refine cU rfl rfl rfl rfl (by first|((first|apply qep|apply qmv|apply qas|apply qpk|apply qni|apply qxt|apply qep)<;>(first|exact rfl|exact dct (by first|assumption|omega)|fail))|fail) ?_)
  refine cX rfl (by exact rho_of rfl) rfl ?_
  repeat (first|apply cA|apply cB|apply cD|apply cE|apply cF|apply cG|refine cU rfl rfl rfl rfl (by first|(apply qas<;>(exact rfl))|fail) ?_)
  refine CG.loop (X := Nat × Int × (Value × List Em)) (fun x => [(0, .slice a zs.length c), (3, .pointer (some ⟨p, 0, none⟩)), (5, .int .i64 x.2.1), (6, .int .i64 (x.1 : Int))])
    (fun x w' => x.1 ≤ zs.length ∧ x.1 ≤ 20 ∧ Kp [] w w' ∧ Pl w' w.heap.size p x.2.2.1 1 x.2.2.2 ∧ PInv 1 (x.2.2.2.map Em.en) ∧ Bst x.1 x.2.1 (x.2.2.2.map Em.en)) (fun x => zs.length - x.1) (0, -1, (.slice none 0 0, [])) ⟨Nat.zero_le _, Nat.zero_le _, hk1, hP, inv_nil (by decide), Or.inl ⟨rfl, rfl⟩⟩ (by (repeat' (first | exact True.intro | exact rfl | refine And.intro ?_ ?_))) ?_
  clear hP
  rintro ⟨i, best, v, ms⟩ w2 ⟨hi, hi20, hk2, hP, hI, hb⟩
  simp only at hi hi20 hP hI hb
  refine CG.to [(0, .slice a zs.length c), (3, .pointer (some ⟨p, 0, none⟩)), (5, .int .i64 best), (6, .int .i64 (i : Int))] (by (repeat' (first | exact True.intro | exact rfl | refine And.intro ?_ ?_))) ?_
  have s2 := hk2.size
  by_cases hgo : i < zs.length ∧ i < 20
  rotate_left
  · have hX : ∀ {W : World}, True := fun {W} => trivial
    have fin : (¬ (i : Int) < (zs.length : Int)) ∨ ((i : Int) < (zs.length : Int) ∧ ¬ (i : Int) < 20) := by
      by_cases h : i < zs.length
      · exact Or.inr ⟨by omega, by have : ¬ i < 20 := fun h2 => hgo ⟨h, h2⟩; omega⟩
      · exact Or.inl (by omega)
    rcases fin with g1 | ⟨g1, g2⟩
    all_goals
      repeat (first | first|apply cA|apply cB|apply cD|apply cE|refine cU rfl rfl rfl rfl (by first|((first|apply qmv|apply qpk|apply qls|apply qln)<;>(first|exact rfl|exact dct (by first|assumption|omega)|exact dcf (by first|assumption|omega)|fail))|fail) ?_ | refine SG.skip rfl rfl ?_)
      refine cX rfl (by exact rho_of rfl) rfl ?_
      repeat (first|apply cA|apply cB|apply cE|apply cJ|apply cK|refine cM rfl ?_|refine cU rfl rfl rfl rfl (by first|(apply qmv<;>(exact rfl))|fail) ?_)
      refine SG.call rfl rfl rfl (vs := [.pointer (some ⟨p, 0, none⟩)]) (by repeat' (first | exact True.intro | exact rho_of rfl | refine And.intro ?_ ?_)) ((all_spec hP hI (by omega)).mono (fun e w3 hh => ?_))
      obtain ⟨v3, xs, he, hk3, hX, hxs⟩ := hh
      refine ⟨_, he, ?_⟩
      clear he
      have k3 := hk2.trans hk3
      rcases hb with ⟨rfl, hb⟩ | ⟨j, hj, hb0, hb50, hb⟩
      · rw [hb] at hxs
        have hxl : xs.length = 0 := by
          have := congrArg List.length hxs
          rw [List.length_map, List.length_map, ordE_length] at this
          exact this
        obtain ⟨ax, cx, rfl, -, -⟩ := hX.sl
        rw [hxl]
        have gm : (-1 : Int) < 0 := by decide
        have g0 : ((0 : Nat) : Int) = 0 := rfl
        repeat (first|apply cA|apply cB|apply cD|apply cE|refine cU rfl rfl rfl rfl (by first|((first|apply qmv|apply qas|apply qls)<;>(first|exact rfl|exact dct (by first|assumption|omega)|fail))|fail) ?_)
        refine cV rfl (by exact rho_of rfl) rfl ?_
        repeat (first|apply cA|apply cB)
        refine SG.ret rfl rfl rfl (vs := []) (by repeat' (first | exact True.intro | exact rho_of rfl | refine And.intro ?_ ?_)) (known_spec w3) (fun w4 hk4 => ?_)
        repeat (first|apply cD|apply cE|apply cH|apply NG.ret_then|refine cU rfl rfl rfl rfl (by first|((first|apply qmv|apply qas|apply qpk|apply qei|apply qln)<;>(first|exact rfl|exact dct (by first|assumption|omega)|fail))|fail) ?_)
        refine ret1 (Or.inl rfl) Try.results6 (by first | exact ResV.tmp rfl | exact ResV.agg rfl rfl (by assumption) (by first | exact dc_length _ | exact nc_length _ | exact rc_length _ _ _ | exact ec_length _ | exact dl_length _ _ _ _ | rfl) | exact ResV.cell rfl rfl (by assumption)) ?_
        exact ⟨rfl, k3.trans hk4⟩
      · rw [hb, ord_one] at hxs
        obtain ⟨x, rfl, hx⟩ := map1 hxs
        have hx : x.t = btT j best := hx
        obtain ⟨ax, cx, rfl, -, hS⟩ := hX.sl
        have gm : ¬ best < 0 := by omega
        have g1l : (([x] : List Tm).length : Int) = 1 := rfl
        obtain ⟨bx, ox, rfl, rx⟩ := hS.at (i := 0) (by simp)
        have rx : Row w3 bx (ox + 0 * 13) (txc x) := rx
        obtain ⟨-, -, rf, -⟩ := txc_rowsO rx
        have hfee : x.t.fee = best := by rw [hx]; rfl
        rw [hfee] at rf
        have hP3 := hP.kp0 hk3
        have g7 : best = best := rfl
        repeat (first|apply cA|apply cB|apply cD|apply cE|refine cU rfl rfl rfl rfl (by first|((first|apply qmv|apply qas|apply qls)<;>(first|exact rfl|exact dcf (by first|assumption|omega)|fail))|fail) ?_)
        refine cX rfl (by exact rho_of rfl) rfl ?_
        repeat (first|apply cA|apply cB|apply cE|apply cF)
        refine SG.ret rfl rfl rfl (vs := []) (by repeat' (first | exact True.intro | exact rho_of rfl | refine And.intro ?_ ?_)) (known_spec w3) (fun w4 hk4 => ?_)
        have rf := rf.kp0 hk4
        have rx := rx.kp0 hk4
        obtain ⟨as1, as2⟩ := add_same (j := j) hb0 hb50
        repeat (first|refine cU rfl rfl rfl rfl (by first|((first|apply qmv|apply qlc|apply qla|apply qfa|apply qic|apply qpk|apply qei|apply qln)<;>(first|exact rfl|exact Ar.mk (by omega)|assumption|exact dct (by first|assumption|omega)|exact List.not_mem_nil|apply txc_length|fail))|fail) ?_)
        refine SG.call rfl rfl rfl (vs := [.pointer (some ⟨p, 0, none⟩), .int .i64 3, txv x]) (by repeat' (first | exact True.intro | exact rho_of rfl | refine And.intro ?_ ?_)) ((add_spec (h := 3) (hP3.kp0 hk4) (((hX.ins x (by simp)).kp0 hk4).mono (Nat.zero_le _)) hI (by omega)).mono (fun e w5 hh => ?_))
        obtain ⟨he, v5, ms5, hP5, hm5, hk5, hv5⟩ := hh
        rw [hb, hx, as1] at he
        rw [hb, hx, as2] at hm5
        refine ⟨_, he, ?_⟩
        clear he
        have g77 : (7 : Int) = 7 := rfl
        have hI5 : PInv 1 (ms5.map Em.en) := by rw [hm5, ← hb]; exact hI
        have k5 : Kp [] w w5 := (k3.trans hk4).trans_new hk5 (fun z hz => by
          rcases List.mem_cons.1 hz with rfl | hz
          · exact Or.inr hp
          · exact Or.inr (own_geB hP.own z (ownB_mem hz)))
        clear rf rx
        repeat (first|refine cU rfl rfl rfl rfl (by first|((first|apply qmv|apply qpk|apply qei)<;>(first|exact rfl|exact dct (by first|assumption|omega)|fail))|fail) ?_)
        refine SG.ret rfl rfl rfl (vs := [bv 2, .int .i64 0, .int .i64 9]) (by repeat' (first | exact True.intro | exact rho_of rfl | refine And.intro ?_ ?_)) (one_spec 2 0 9 w5) (fun w6 hk6 => ?_)
        refine SG.call rfl rfl rfl (vs := [.pointer (some ⟨p, 0, none⟩), .int .i64 3, txv (oneM 2 0 9)]) (by repeat' (first | exact True.intro | exact rho_of rfl | refine And.intro ?_ ?_)) ((add_spec (h := 3) (hP5.kp0 hk6) (oneM_in 2 0 9 _ _) hI5 (by omega)).mono (fun e w7 hh => ?_))
        obtain ⟨he, v7, ms7, hP7, hm7, hk7, hv7⟩ := hh
        rw [hm5, show addZ 1 [btE j best] 3 (oneM 2 0 9).t = 8 from add_full] at he
        refine ⟨_, he, ?_⟩
        clear he
        have g88 : (8 : Int) = 8 := rfl
        repeat (first|apply cD|apply cE|apply cH|refine cU rfl rfl rfl rfl (by first|((first|apply qas|apply qpk|apply qei)<;>(first|exact rfl|exact dct (by first|assumption|omega)|fail))|fail) ?_)
        refine ret1 (Or.inl rfl) Try.results6 (by first | exact ResV.tmp rfl | exact ResV.agg rfl rfl (by assumption) (by first | exact dc_length _ | exact nc_length _ | exact rc_length _ _ _ | exact ec_length _ | exact dl_length _ _ _ _ | rfl) | exact ResV.cell rfl rfl (by assumption)) ?_
        exact ⟨rfl, (k5.trans hk6).trans_new hk7 (fun z hz => by
          rcases List.mem_cons.1 hz with rfl | hz
          · exact Or.inr hp
          · exact Or.inr (own_geB hP5.own z (ownB_mem hz)))⟩
  obtain ⟨hlt, hlt20⟩ := hgo
  have g1 : (i : Int) < (zs.length : Int) := by omega
  have g2 : (i : Int) < 20 := by omega
  obtain ⟨bz, oz, rfl, rz⟩ := (hZ.kp0 hk2).at hlt
  have rz : Row w2 bz (oz + i * 1) [.int .u16 zs[i]] := rz
  obtain ⟨z0, z1⟩ := hz _ (List.getElem_mem hlt)
  have hw16 := u16w z0
  have f0 : 0 ≤ zs[i] % 50 := Int.emod_nonneg _ (by omega)
  have f1 : zs[i] % 50 < 50 := Int.emod_lt_of_pos _ (by omega)
  repeat (first|apply cA|apply cB|apply cD|apply cE|refine cU rfl rfl rfl rfl (by first|((first|apply qmv|apply qpk|apply qls|apply qln)<;>(first|exact rfl|exact dct (by first|assumption|omega)|fail))|fail) ?_)
  refine cV rfl (by exact rho_of rfl) rfl ?_
  repeat (first|apply cA|apply cB|apply cD|apply cE|apply cF|apply cG|refine cU rfl rfl rfl rfl (by first|((first|apply qr16|apply qmv|apply qas|apply qlc|apply qix|apply qcv)<;>(first|exact rfl|exact Ar.mk (by omega)|assumption|exact List.not_mem_nil|fail))|fail) ?_)
  rw [hw16]
  generalize zs[i] % 50 = f at f0 f1
  clear hw16 rz
  refine SG.ret rfl rfl rfl (vs := [bv 1, .int .i64 7, .int .i64 f]) (by repeat' (first | exact True.intro | exact rho_of rfl | refine And.intro ?_ ?_)) (one_spec 1 7 f w2) (fun w3 hk3 => ?_)
  refine SG.alloc rfl rfl rfl (fun b8 w4 hk4 hb8 hB8 => ?_)
  refine SG.setAll (l := txc (oneM 1 7 f)) rfl rfl (by exact rho_of rfl) (by exact rho_of rfl) hB8 (txc_length _) rfl (txc_one _) (fun w5 hk5 hB8 => ?_)
  have hB8 : Blk w5 b8 (.cells (txc (oneM 1 7 f)).toArray 35) := hB8
  have k25 : Kp [] w2 w5 := hk3.trans (hk4.trans_new hk5 (new1 (by omega)))
  have l8 := hB8.lt
  repeat (first|apply cA|apply cB|apply cD|apply cE|refine cU rfl rfl rfl rfl (by first|(apply q64b<;>(exact rfl))|(apply qmv<;>(exact rfl))|fail) ?_)
  rw [toB_nat]
  refine SG.buildSlice rfl rfl rfl rfl (bs1 (UInt8.ofNat i)) (fun b9 w6 hk6 hb9 hB9 => ?_)
  have hS9 : Sl by1 1 w6 (some ⟨b9, 0, none⟩) [UInt8.ofNat i] := sl_one by1_len hB9
  have hB8 := hB8.kp0 hk6
  rw [show txc (oneM 1 7 f) = _ from txc_p11 (oneT 1 7 f) none none 0 0] at hB8
  repeat (first|refine cU rfl rfl rfl rfl (by first|(apply qfa<;>(exact rfl))|fail) ?_)
  refine SG.setMid (p11 (oneT 1 7 f)) [.slice none 0 0] [.slice none 0 0] rfl rfl (by exact rho_of rfl) (by exact rho_of rfl) hB8 rfl rfl rfl rfl rfl (fun w7 hk7 hB8 => ?_)
  obtain ⟨x, hx⟩ : ∃ x : Tm, x = ⟨btT i f, some ⟨b9, 0, none⟩, 1, none, 0⟩ := ⟨_, rfl⟩
  have hxt : x.t = btT i f := by rw [hx]
  have hB8 : Blk w7 b8 (.cells (txc x).toArray 35) := by
    rw [hx, txc_p11]
    exact hB8
  have s25 := k25.size
  have s3 := hk3.size
  have hB97 : Blk w7 b9 (.cells (by1 (UInt8.ofNat i)).toArray 5) := hB9.kp hk7 (nm1 (by omega))
  have k27 : Kp [] w2 w7 := (k25.trans hk6).trans_new hk7 (new1 (by omega))
  have hxin : ∀ n, x.In n w7 := fun n => by
    rw [hx]
    exact ⟨⟨sl_one by1_len hB97, Nat.le_refl _, Or.inr (Or.inl ⟨b9, 0, rfl⟩), fun _ b off e => by cases e; exact hB97.lt⟩, Bs.nil, Or.inl (fun _ b off e => by cases e; exact ⟨_, _, blk_un hB97⟩), Or.inr (fun _ _ e => by cases e), (by show 1 ≤ 10000000; decide), Nat.zero_le _⟩
  clear hB9 hS9
  obtain ⟨rx, -⟩ := txc_rows hB8
  have hP7 := hP.kp0 k27
  have k7 := hk2.trans k27
  repeat (first|apply cA|apply cB|apply cD|apply cE|refine cU rfl rfl rfl rfl (by first|((first|apply qmv|apply qla)<;>(first|exact rfl|assumption|exact List.not_mem_nil|apply txc_length))|fail) ?_)
  refine SG.call rfl rfl rfl (vs := [.pointer (some ⟨p, 0, none⟩), .int .i64 (i : Int), txv x]) (by repeat' (first | exact True.intro | exact rho_of rfl | refine And.intro ?_ ?_)) ((add_spec (h := (i : Int)) hP7 (hxin _) hI (by omega)).mono (fun e w8 hh => ?_))
  obtain ⟨he, v8, ms8, hP8, hm8, hk8, hv8⟩ := hh
  rw [hxt] at he hm8
  refine ⟨_, he, ?_⟩
  clear he
  have hI8 : PInv 1 (ms8.map Em.en) := by rw [hm8]; exact addE_inv hI
  have nb8 : b8 ∉ p :: ownB v := fun hm => by
    rcases List.mem_cons.1 hm with e | hm
    · have := hP.blk.lt
      omega
    · have := own_lt hP.own b8 (ownB_mem hm)
      omega
  have hB88 := hB8.kp hk8 nb8
  have hx8 : x.In w.heap.size w8 := (hxin _).kpO hk8 hP7.oth
  clear rx
  obtain ⟨rx, -⟩ := txc_rows hB88
  have k8 : Kp [] w w8 := k7.trans_new hk8 (fun z hz => by
    rcases List.mem_cons.1 hz with rfl | hz
    · exact Or.inr hp
    · exact Or.inr (own_geB hP.own z (ownB_mem hz)))
  by_cases hbest : best < f
  · obtain ⟨hz1, hz2⟩ := bst_better hb hlt20 f0 f1 hbest
    rw [hz2] at hm8
    rw [hz1]
    obtain ⟨d, hd⟩ : ∃ d, d = nameT x.t := ⟨_, rfl⟩
    have hnm := name_spec hx8
    rw [← hd] at hnm
    have hfd : findE (ms8.map Em.en) d = some (btE i f) := by rw [hm8]; exact find_one' (by rw [hd, hxt]; rfl)
    have hsi := fun W hk => since_spec (hP8.kp0 (w' := W) hk) hI8 (by omega) d
    rw [hfd] at hsi
    have hsi : ∀ W, Kp [] w8 W → Ret Try.prog 21 #[.pointer (some ⟨p, 0, none⟩), dv d] W (.tuple #[.int .i64 (i : Int), .bool true]) := hsi
    repeat (first|apply cA|apply cB|apply cD|apply cE|refine cU rfl rfl rfl rfl (by first|((first|apply qmv|apply qas|apply qgt)<;>(first|exact rfl|exact dct (by first|assumption|omega)|fail))|fail) ?_)
    refine cV rfl (by exact rho_of rfl) rfl ?_
    repeat (first|apply cA|apply cB|apply cD|apply cE|refine cU rfl rfl rfl rfl (by first|((first|apply qmv|apply qni)<;>(first|exact rfl|exact dct (by first|assumption|omega)|fail))|fail) ?_)
    refine cX rfl (by exact rho_of rfl) rfl ?_
    repeat (first|apply cA|apply cB|apply cD|apply cE|apply cF|refine cU rfl rfl rfl rfl (by first|((first|apply qmv|apply qas|apply qla)<;>(first|exact rfl|assumption|exact List.not_mem_nil|apply txc_length))|fail) ?_)
    refine SG.ret rfl rfl rfl (vs := [txv x]) (by repeat' (first | exact True.intro | exact rho_of rfl | refine And.intro ?_ ?_)) hnm (fun w9 hk9 => ?_)
    refine SG.ret rfl rfl rfl (vs := [.pointer (some ⟨p, 0, none⟩), dv d]) (by repeat' (first | exact True.intro | exact rho_of rfl | refine And.intro ?_ ?_)) (hsi w9 hk9) (fun w10 hk10 => ?_)
    have gii : (i : Int) = (i : Int) := rfl
    repeat (first|apply cA|apply cB|apply cD|apply cE|refine cU rfl rfl rfl rfl (by first|((first|apply qmv|apply qas|apply qpk|apply qni|apply qxt|apply qnt)<;>(first|exact rfl|exact dct (by first|assumption|omega)|fail))|fail) ?_)
    refine cX rfl (by exact rho_of rfl) rfl ?_
    repeat (first|apply cB|apply cD|apply cE|apply cF|apply cQ|refine cU rfl rfl rfl rfl (by first|((first|apply qmv|apply qas|apply qad)<;>(first|exact rfl|exact Ar.mk (by omega)|fail))|fail) ?_)
    refine NG.round (i + 1, f, v8, ms8) (by (repeat' (first | exact True.intro | exact rfl | refine And.intro ?_ ?_))) ⟨by simp only; omega, by simp only; omega, (k8.trans hk9).trans hk10, (hP8.kp0 hk9).kp0 hk10, hI8, Or.inr ⟨i, by simp only; omega, f0, f1, hm8⟩⟩ (by simp only; omega)
  · obtain ⟨hz1, hz2⟩ := bst_old hb hlt20 f0 f1 hbest
    rw [hz2] at hm8
    rw [hz1]
    repeat (first|apply cA|apply cB|apply cD|apply cE|refine cU rfl rfl rfl rfl (by first|((first|apply qmv|apply qas|apply qgt)<;>(first|exact rfl|exact dcf (by first|assumption|omega)|fail))|fail) ?_)
    refine cX rfl (by exact rho_of rfl) rfl ?_
    repeat (first|apply cA|apply cB|apply cD|apply cE|refine cU rfl rfl rfl rfl (by first|((first|apply qmv|apply qni)<;>(first|exact rfl|exact dct (by first|assumption|omega)|fail))|fail) ?_)
    refine cX rfl (by exact rho_of rfl) rfl ?_
    repeat (first|apply cB|apply cD|apply cE|apply cF|apply cQ|refine cU rfl rfl rfl rfl (by first|((first|apply qmv|apply qas|apply qad)<;>(first|exact rfl|exact Ar.mk (by omega)|fail))|fail) ?_)
    refine NG.round (i + 1, best, v8, ms8) (by (repeat' (first | exact True.intro | exact rfl | refine And.intro ?_ ?_))) ⟨by simp only; omega, by simp only; omega, k8, hP8, hI8, ?_⟩ (by simp only; omega)
    simp only
    rw [hm8]
    rcases hb with h | ⟨j, hj, h1, h2, h3⟩
    · exact Or.inl h
    · exact Or.inr ⟨j, by omega, h1, h2, h3⟩
end Go.Proofs.Ytgbgnlboogalgaa
namespace Go.Proofs.Ytgbgnlboogalgaa
open Go.ChangeShapes Go.WideShapes Go.ChangeAt Go.RowKit
set_option linter.unusedVariables false
theorem u16_of {n : Int} (h : (Lit.int .u16 n).wf = true) : 0 ≤ n ∧ n < 65536 := by
  simp [Lit.wf, IntKind.min, IntKind.max, IntKind.signed, IntKind.bits] at h
  omega
theorem u16s_of {H : Type} {enc : TypeId × Value → H} {w : World} {a : Option Addr} {n : Nat} (h : SlOf enc Try.prog w 52 a n) : ∃ l : List Int, l.length = n ∧ Sl u16c 1 w a l ∧ ∀ z ∈ l, 0 ≤ z ∧ z < 65536 := by
  obtain ⟨l, h1, h2, h3⟩ := elems_of u16c (fun z => 0 ≤ z ∧ z < 65536) h (fun cs fuel y hy => by
    obtain ⟨z, e, _, hz⟩ := DataW.trod_int Try.underlying52 hy
    exact ⟨z, e, u16_of hz⟩)
  rw [cells16] at h2
  exact ⟨l, h1, h2, h3⟩
end Go.Proofs.Ytgbgnlboogalgaa

namespace Go.Proofs.Ytgbgnlboogalgaa
open Go.ChangeShapes Go.WideShapes Go.ChangeAt Go.RowKit
set_option linter.unusedVariables false
set_option maxRecDepth 100000 in
theorem poolBetter_lifted (os : Os) (started : os.Started) (H : Type) (enc : TypeId × Value → H) :
    ReturnsInHanded {} Try.checked os 6 .any (Rows.poolBetterSpec.pre6 enc Try.prog Try.f6 Rows.poolBetterRow.domain false) (Rows.poolBetterSpec.post enc Try.prog Try.f6 false true false false) := by
  refine returnsInHanded_of_change (C := Try.checked) own started (by kernel_rfl) Try.func6
    (ChangeSpec.witness6 (enc := enc) (C := Try.checked) false ⟨#[], #[.slice none 0 0], []⟩ 8 (by kernel_rfl) (by kernel_rfl) (by kernel_rfl) (by kernel_rfl)) ?_
  intro W base args ds gs before hval0 hW hcnd _
  have hval : ∀ (j : Nat) t v, Try.f6.params[j]? = some t → args[j]? = some v → Value.okWide Try.prog W .any base t v := hval0
  have hW' : DataW.Whole enc Try.prog Try.f6.params.toList Rows.poolBetterSpec.vars false W args.toList ds gs before := hW
  obtain ⟨p, q, hA0, hV, rfl, hfz, hnd⟩ := hW
  have hA : DataW.TrodAll enc Try.prog W 0 (fun _ => true) true Try.f6.params.toList args.toList ds p := hA0
  rw [Try.params6] at hA hval
  obtain ⟨v0, d0, rfl, rfl, h0⟩ := trodAll_one hA
  obtain ⟨a0, n0, c0, rfl, hn0, hc0, hs0⟩ := open_sl Try.underlying48 (by rw [cells16]; omega) (hval 0 48 v0 rfl rfl) h0
  obtain ⟨l0, rfl, hS0, hb0⟩ := u16s_of hs0
  refine (better_walk W a0 c0 l0 hS0 hb0).mono fun e W' ⟨he, hk⟩ => ⟨_, he, ?_⟩
  exact law_post laidOut (by rw [Try.params6]; exact of_decide_eq_true (by kernel_rfl)) rfl hW' rfl (by kernel_rfl) Try.underlying4 hk
theorem poolBetter_holds : Rows.PoolBetterSaid :=
  OpenClaim.holds_of_wide 6 Try.f6 rfl rfl rfl rfl rfl rfl rfl ⟨rfl, rfl, rfl, rfl, rfl⟩ rfl rfl rfl rfl rfl (by kernel_rfl) Try.func6 (by kernel_rfl)
    (of_decide_eq_true (by kernel_rfl)) (by unfold Func.isWrapper; first | (rw [if_pos (by decide +kernel)]; kernel_rfl) | (rw [if_neg (by decide +kernel)]; exact ⟨rfl, rfl⟩))
    (fun os started H enc _ => poolBetter_lifted os started H enc)
end Go.Proofs.Ytgbgnlboogalgaa
