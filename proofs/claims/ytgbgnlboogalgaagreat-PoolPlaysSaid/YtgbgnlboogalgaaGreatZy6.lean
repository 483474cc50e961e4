/-
  PoolPlays answers true for every input, and leaves its arguments as they were. No conditions.
-/
import Derived.Test.YtgbgnlboogalgaaGreatZy5
namespace Go.Proofs.YtgbgnlboogalgaaGreat
open Go.Proofs
set_option linter.unusedVariables false
theorem cutT_two (t : Tx) : cutT (cutT t) = cutT t := by
  simp only [cutT, List.take_take]
  rfl
theorem bstt' (w : World) (a0 a1 a2 a3 a4 a5 a6 a7 : UInt8) (n f k : Int) (x1 x2 : Option Addr) (m1 m2 c1' c2' : Nat) :
    (Instr.buildSlice 89 1 #[(0, .agg #[bv a0, bv a1, bv a2, bv a3, bv a4, bv a5, bv a6, bv a7, .int .i64 n, .int .i64 f, .int .i64 k, .slice x1 m1 c1', .slice x2 m2 c2'])]).run Tryz.prog w = .ok (.slice (some ⟨w.heap.size, 0, none⟩) 1 1) { w with heap := w.heap.push (.cells #[bv a0, bv a1, bv a2, bv a3, bv a4, bv a5, bv a6, bv a7, .int .i64 n, .int .i64 f, .int .i64 k, .slice x1 m1 c1', .slice x2 m2 c2'] 36) } := by kernel_rfl
theorem bstt (x : Tm) (w : World) : (Instr.buildSlice 89 1 #[(0, txv x)]).run Tryz.prog w = .ok (.slice (some ⟨w.heap.size, 0, none⟩) 1 1) { w with heap := w.heap.push (.cells (txc x).toArray 36) } := by
  obtain ⟨⟨⟨l, hl⟩, n, f, k, b, g⟩, a1, c1, a2, c2⟩ := x
  match l, hl with
  | [x0, x1, x2, x3, x4, x5, x6, x7], _ => exact bstt' w x0 x1 x2 x3 x4 x5 x6 x7 n f k a1 a2 b.length g.length c1 c2
theorem Tm.In.rd {x : Tm} {n : Nat} {w : World} (h : x.In n w) : x.Rd n w := ⟨h.b, h.s, h.t1, h.t2⟩
attribute [local irreducible] CG NG SG Vals Der Row Blk MapIs IterAt DerX DerR wrongT nameT
set_option maxHeartbeats 16000000 in
theorem of_law {w : World} {n : Nat} {a : Option Addr} {c : Nat} {xs : List Tm} (hS : Sl txc 13 w a xs) (hrd : ∀ x ∈ xs, x.Rd n w) (hl : xs.length ≤ 4) : RetO Tryz.prog 36 txc 13 37 #[.slice a xs.length c, .int .i64 4] w (xs.map cutM) := by
  refine enter2 Tryz.func37 rfl Tryz.ntmps37 rfl ?_
  repeat (first|apply cA|apply cB|apply cD|apply cE|apply cG|refine cV rfl rfl rfl rfl (by first|(apply qas<;>(exact rfl))|fail) ?_)
  refine CG.loop (X := Nat × Value) (fun x => [(0, .slice a xs.length c), (1, .int .i64 4), (5, x.2), (6, .int .i64 (x.1 : Int))])
    (fun x w' => x.1 ≤ xs.length ∧ Kp [] w w' ∧ w'.ownsRow w.heap.size 36 13 x.2 ((xs.take x.1).map cutM).length (flt txc ((xs.take x.1).map cutM))) (fun x => xs.length - x.1) (0, .slice none 0 0) ⟨Nat.zero_le _, Kp.refl _ _, own_nil⟩ (by (repeat' (first | exact True.intro | exact rfl | refine And.intro ?_ ?_))) ?_
  rintro ⟨i, vr⟩ w1 ⟨hi, hk1, ho⟩
  simp only at hi ho
  refine CG.to [(0, .slice a xs.length c), (1, .int .i64 4), (5, vr), (6, .int .i64 (i : Int))] (by (repeat' (first | exact True.intro | exact rfl | refine And.intro ?_ ?_))) ?_
  by_cases h1 : i < xs.length
  rotate_left
  · have g1 : ¬ (i : Int) < (xs.length : Int) := by omega
    rw [List.take_of_length_le (by omega)] at ho
    repeat (first | first|apply cA|apply cB|apply cD|apply cE|refine cV rfl rfl rfl rfl (by first|((first|apply qmv|apply qpk|apply qls|apply qln)<;>(first|exact rfl|exact dcf (by first|assumption|omega)|fail))|fail) ?_ | refine cX rfl rfl ?_)
    refine dA rfl (by exact rho_of rfl) rfl ?_
    repeat (first|apply cA|apply cB|apply cD|apply cE|apply cH|apply cJ|apply cM|refine cQ rfl ?_|refine cV rfl rfl rfl rfl (by first|((first|apply qmv|apply qas)<;>(exact rfl))|fail) ?_)
    refine ret1 (Or.inl rfl) Tryz.results37 (by first | exact ResV.tmp rfl | exact ResV.agg rfl rfl (by assumption) (by first | exact dc_length _ | exact nc_length _ | exact rc_length _ _ _ | exact ec_length _ | exact dl_length _ _ _ _ | rfl) | exact ResV.cell rfl rfl (by assumption)) ?_
    exact ⟨vr, rfl, ho, hk1⟩
  have g1 : (i : Int) < (xs.length : Int) := by omega
  have g2 : (i : Int) < 4 := by omega
  obtain ⟨b1, o1, rfl, hri⟩ := (hS.kp0 hk1).at h1
  have hr1 := (hrd _ (List.getElem_mem h1)).kp0 hk1
  have hlen : ((xs.take i).map cutM).length = i := by rw [List.length_map, List.length_take]; omega
  have hsu : (xs.take (i + 1)).map cutM = (xs.take i).map cutM ++ [cutM xs[i]] := by
    rw [List.take_succ_eq_append_getElem h1, List.map_append]
    rfl
  have s1 := hk1.size
  repeat (first|apply cA|apply cB|apply cD|apply cE|refine cV rfl rfl rfl rfl (by first|((first|apply qmv|apply qpk|apply qls|apply qln)<;>(first|exact rfl|exact dct (by first|assumption|omega)|fail))|fail) ?_)
  refine cZ rfl (by exact rho_of rfl) rfl ?_
  repeat (first|apply cA|apply cB|apply cE|apply cF|apply cG|refine cV rfl rfl rfl rfl (by first|((first|apply qmv|apply qla|apply qix)<;>(first|exact rfl|exact Ar.mk (by omega)|assumption|exact List.not_mem_nil|apply txc_length|fail))|fail) ?_)
  refine SG.ret rfl rfl rfl (vs := [txv xs[i]]) (by repeat' (first | exact True.intro | exact rho_of rfl | refine And.intro ?_ ?_)) (cut_spec hr1) (fun w2 hk2 => ?_)
  refine SG.ret rfl rfl rfl (vs := [txv (cutM xs[i])]) (by repeat' (first | exact True.intro | exact rho_of rfl | refine And.intro ?_ ?_)) (tof_spec (cutM xs[i])) (fun w3 hk3 => ?_)
  refine SG.buildSlice rfl rfl rfl rfl (bstt (cutM xs[i])) (fun b6 w4 hk4 hb6 hB6 => ?_)
  have hS6 : Sl txc 13 w4 (some ⟨b6, 0, none⟩) [cutM xs[i]] := sl_one txc_length hB6
  have k14 := (hk2.trans hk3).trans hk4
  clear hri
  skip
  refine SG.appO (enc := txc) (xs := (xs.take i).map cutM) (ys := [cutM xs[i]]) (base := w.heap.size) rfl rfl rfl (by exact rho_of rfl) (by exact rho_of rfl) rfl rfl rfl rfl txc_length txc_one (own_kp0 ho k14) hS6 (by rw [hlen]; simp only [maxLen, List.length_cons, List.length_nil]; omega) (by rw [hlen]; simp only [List.length_cons, List.length_nil]; show (_ + _) * 80 ≤ _; omega) (by have := k14.size; omega) (fun v' w5 hk5 ho5 hv5 => ?_)
  repeat (first|apply cB|apply cD|apply cE|apply cU|refine cV rfl rfl rfl rfl (by first|((first|apply qmv|apply qas|apply qad)<;>(first|exact rfl|exact Ar.mk (by omega)|fail))|fail) ?_)
  refine NG.round (i + 1, v') (by (repeat' (first | exact True.intro | exact rfl | refine And.intro ?_ ?_))) ⟨by simp only; omega, (hk1.trans k14).trans_new hk5 (own_new (own_kp0 ho k14) (Nat.le_refl _)), ?_⟩ (by simp only; omega)
  simp only
  rw [hsu]
  exact ho5
set_option maxHeartbeats 32000000 in
theorem alike_spec {w : World} {n p : Nat} {v : Value} {room room' : Int} {ms : List Em} {a : Option Addr} {c : Nat} {ws : List Wm} (hP : Pl w n p v room ms) (hI : PInv room (ms.map Em.en)) (hr : room ≤ 1024) (hD : PD w n a c ws) (hw : ws.map Wm.en = ms.map Em.en) : Ret Tryz.prog 18 #[.pointer (some ⟨p, 0, none⟩), .agg (pdc room' a ws.length c).toArray] w (.bool true) := by
  refine enter2 Tryz.func18 rfl Tryz.ntmps18 rfl ?_
  have hlen := hI.len
  rw [List.length_map] at hlen
  have hwl : ws.length = ms.length := by have := congrArg List.length hw; rwa [List.length_map, List.length_map] at this
  have hln := ordW_len ws
  repeat (first|apply cA|apply cB)
  refine SG.box rfl rfl rfl (by exact rho_of rfl) (fun b3 w1 hk1 hb3 hB3 => ?_)
  have hB3 : Blk w1 b3 (.cells (pdc room' a ws.length c).toArray 29) := hB3
  obtain ⟨p0, -, -⟩ := pdc_rows hB3
  clear hB3
  repeat (first|apply cA|apply cB|apply cD|apply cE|refine cV rfl rfl rfl rfl (by first|((first|apply qas|apply qla)<;>(first|exact rfl|assumption|exact List.not_mem_nil))|fail) ?_)
  refine SG.call rfl rfl rfl (vs := [.agg (pdc room' a ws.length c).toArray]) (by repeat' (first | exact True.intro | exact rho_of rfl | refine And.intro ?_ ?_)) ((rorder_spec (hD.kp0 hk1) (by omega)).mono (fun e w2 hh => ?_))
  obtain ⟨v2, he, ho2, hk2⟩ := hh
  refine ⟨_, he, ?_⟩
  clear he
  obtain ⟨ar, cr, rfl, -, hS2⟩ := Sl.own wc_length ho2 rfl
  have k2 := hk1.trans hk2
  have p0 := p0.kp0 hk2
  have g0 : (ms.length : Int) = ((ordW ws).length : Int) := by omega
  repeat (first|apply cA|apply cB|apply cD|apply cE|refine cV rfl rfl rfl rfl (by first|((first|apply qmv|apply qas)<;>(exact rfl))|fail) ?_)
  refine SG.ret rfl rfl rfl (vs := [.pointer (some ⟨p, 0, none⟩)]) (by repeat' (first | exact True.intro | exact rho_of rfl | refine And.intro ?_ ?_)) (len_spec (hP.kp0 k2)) (fun w3 hk3 => ?_)
  have k3 := k2.trans hk3
  repeat (first|refine cV rfl rfl rfl rfl (by first|((first|apply qmv|apply qni|apply qln)<;>(first|exact rfl|exact dct (by first|assumption|omega)|fail))|fail) ?_)
  refine SG.call rfl rfl rfl (vs := [.pointer (some ⟨p, 0, none⟩)]) (by repeat' (first | exact True.intro | exact rho_of rfl | refine And.intro ?_ ?_)) ((all_spec (hP.kp0 k3) hI hr).mono (fun e w4 hh => ?_))
  obtain ⟨v4, zs, he, hk4, hZ, hzs⟩ := hh
  refine ⟨_, he, ?_⟩
  clear he
  obtain ⟨az, cz, rfl, -, hSz⟩ := hZ.sl
  have k24 := hk3.trans hk4
  have k4 := k2.trans k24
  have hzl : zs.length = ms.length := by
    have := congrArg List.length hzs
    rw [List.length_map, List.length_map, ordE_length, List.length_map] at this
    exact this
  have heq : zs.map (·.t) = (ordW ws).map (fun e => e.x.t) := by
    rw [hzs, ← hw, ← ordW_en, List.map_map]
    rfl
  have hinr : ∀ e ∈ ordW ws, e.x.In n w := fun e he => hD.ins e ((ordW_perm ws).mem_iff.1 he)
  repeat (first|refine cV rfl rfl rfl rfl (by first|(apply qmv<;>(exact rfl))|fail) ?_)
  refine SG.ret rfl rfl rfl (vs := [.slice az zs.length cz, .slice ar (ordW ws).length cr]) (by repeat' (first | exact True.intro | exact rho_of rfl | refine And.intro ?_ ?_)) (wsame_spec cz cr hSz (hS2.kp0 k24) hZ.ins (fun e he => (hinr e he).kp0 k4) (by omega) heq) (fun w5 hk5 => ?_)
  have k25 := k24.trans hk5
  have k5 := k4.trans hk5
  have p0 := p0.kp0 k25
  have hS5 := hS2.kp0 k25
  clear hSz hS2 ho2 hZ hzs heq
  repeat (first|apply cD|apply cE|refine cV rfl rfl rfl rfl (by first|((first|apply qpk|apply qnt)<;>(exact rfl))|fail) ?_)
  refine dA rfl (by exact rho_of rfl) rfl ?_
  repeat (first|apply cA|apply cB|apply cD|apply cE|apply cF|apply cG|refine cV rfl rfl rfl rfl (by first|(apply qas<;>(exact rfl))|fail) ?_)
  refine CG.loop (X := Nat) (fun i => [(0, .pointer (some ⟨p, 0, none⟩)), (3, .pointer (some ⟨b3, 0, none⟩)), (5, .slice ar (ordW ws).length cr), (6, .int .i64 (i : Int))]) (fun i w' => i ≤ (ordW ws).length ∧ Kp [] w5 w') (fun i => (ordW ws).length - i) 0 ⟨Nat.zero_le _, Kp.refl _ _⟩ (by (repeat' (first | exact True.intro | exact rfl | refine And.intro ?_ ?_))) ?_
  rintro i w6 ⟨hi, hk6⟩
  refine CG.to [(0, .pointer (some ⟨p, 0, none⟩)), (3, .pointer (some ⟨b3, 0, none⟩)), (5, .slice ar (ordW ws).length cr), (6, .int .i64 (i : Int))] (by (repeat' (first | exact True.intro | exact rfl | refine And.intro ?_ ?_))) ?_
  have k6 := k5.trans hk6
  by_cases hlt : i < (ordW ws).length
  rotate_left
  · have g1 : ¬ (i : Int) < ((ordW ws).length : Int) := by omega
    repeat (first|apply cA|apply cB|apply cD|apply cE|refine cV rfl rfl rfl rfl (by first|((first|apply qmv|apply qls|apply qln)<;>(first|exact rfl|exact dcf (by first|assumption|omega)|fail))|fail) ?_)
    refine dA rfl (by exact rho_of rfl) rfl ?_
    repeat (first|apply cA|apply cB|apply cD|apply cE|apply cH|apply cJ|apply cM|refine cQ rfl ?_|refine cV rfl rfl rfl rfl (by first|(apply qas<;>(exact rfl))|fail) ?_)
    refine ret1 (Or.inl rfl) Tryz.results18 (by first | exact ResV.tmp rfl | exact ResV.agg rfl rfl (by assumption) (by first | exact dc_length _ | exact nc_length _ | exact rc_length _ _ _ | exact ec_length _ | exact dl_length _ _ _ _ | rfl) | exact ResV.cell rfl rfl (by assumption)) ?_
    exact ⟨rfl, k6⟩
  have g1 : (i : Int) < ((ordW ws).length : Int) := by omega
  have hS6 := hS5.kp0 hk6
  obtain ⟨bl, ol, rfl, ri⟩ := hS6.at hlt
  obtain ⟨q1, -, -, -, -⟩ := wc_rows ri
  have hxi := hinr _ (List.getElem_mem hlt)
  have p06 := p0.kp0 hk6
  clear ri
  have hf : (ordW ws).findIdx (nmW (nameT (ordW ws)[i].x.t)) < (ordW ws).length := List.findIdx_lt_length.2 ⟨(ordW ws)[i], List.getElem_mem hlt, decide_eq_true rfl⟩
  have hfs := findW_some hf
  rw [hw] at hfs
  have hsp := fun W (h : Pl W n p v room ms) => since_spec h hI hr (nameT (ordW ws)[i].x.t)
  rw [hfs] at hsp
  have hfi := fun W (h : PD W n a c ws) => rfind_spec (room := room') h (by omega) (nameT (ordW ws)[i].x.t)
  rw [idxZ_lt hf] at hfi
  generalize (ordW ws).findIdx (nmW (nameT (ordW ws)[i].x.t)) = j at hf hsp hfi
  have hsp : ∀ W, Pl W n p v room ms → Ret Tryz.prog 44 #[.pointer (some ⟨p, 0, none⟩), dv (nameT (ordW ws)[i].x.t)] W (.tuple #[.int .i64 (ordW ws)[j].since, .bool true]) := hsp
  have gj : ¬ (j : Int) < 0 := by omega
  have gj2 : (j : Int) < ((ordW ws).length : Int) := by omega
  have g8 : (ordW ws)[j].since = (ordW ws)[j].since := rfl
  repeat (first|apply cA|apply cB|apply cD|apply cE|refine cV rfl rfl rfl rfl (by first|((first|apply qmv|apply qls|apply qln)<;>(first|exact rfl|exact dct (by first|assumption|omega)|fail))|fail) ?_)
  refine cZ rfl (by exact rho_of rfl) rfl ?_
  repeat (first|apply cA|apply cB|apply cE|apply cF|apply cG|refine cV rfl rfl rfl rfl (by first|((first|apply qmv|apply qla|apply qfa|apply qix)<;>(first|exact rfl|exact Ar.mk (by omega)|assumption|exact List.not_mem_nil|apply txc_length|fail))|fail) ?_)
  refine SG.ret rfl rfl rfl (vs := [txv (ordW ws)[i].x]) (by repeat' (first | exact True.intro | exact rho_of rfl | refine And.intro ?_ ?_)) (rname_spec (hxi.kp0 k6)) (fun w7 hk7 => ?_)
  refine SG.ret rfl rfl rfl (vs := [.pointer (some ⟨p, 0, none⟩), dv (nameT (ordW ws)[i].x.t)]) (by repeat' (first | exact True.intro | exact rho_of rfl | refine And.intro ?_ ?_)) (hsp w7 (hP.kp0 (k6.trans hk7))) (fun w8 hk8 => ?_)
  have k68 := hk7.trans hk8
  have q1 := q1.kp0 k68
  have p08 := p06.kp0 k68
  clear p06
  repeat (first|apply cA|apply cD|apply cE|refine cV rfl rfl rfl rfl (by first|((first|apply qmv|apply qas|apply qxt)<;>(exact rfl))|fail) ?_)
  refine CG.tail mixed 7 [0, 1, 2, 3, 4, 5, 6] (by kernel_rfl) ?_
  repeat (refine cY rfl rfl rfl (by first|((first|apply qmv|apply qla|apply qfa|apply qix)<;>(first|exact rfl|exact Ar.mk (by omega)|assumption|exact List.not_mem_nil|apply txc_length|fail))|fail) ?_)
  refine Der.call rfl rfl rfl (vs := [txv (ordW ws)[i].x]) (by repeat' (first | exact True.intro | exact rho_of rfl | refine And.intro ?_ ?_)) (fun W hk _ => rname_spec (hxi.kp0 ((k6.trans k68).trans hk))) ?_
  refine Der.tl (fun w9 hk9 _ _ => ?_)
  refine SG.ret rfl rfl rfl (vs := [.agg (pdc room' a ws.length c).toArray, dv (nameT (ordW ws)[i].x.t)]) (by repeat' (first | exact True.intro | exact rho_of rfl | refine And.intro ?_ ?_)) (hfi w9 (hD.kp0 ((k6.trans k68).trans hk9))) (fun w10 hk10 => ?_)
  have k610 := (k68.trans hk9).trans hk10
  have rj : Row w10 bl (ol + j * 14) (wc (ordW ws)[j]) := (hS6.kp0 k610).row (List.getElem?_eq_getElem hf)
  obtain ⟨-, -, -, -, j4⟩ := wc_rows rj
  clear rj
  repeat (first|apply cA|apply cB|apply cD|apply cE|refine cV rfl rfl rfl rfl (by first|((first|apply qmv|apply qas|apply qlc|apply qfa|apply qix|apply qpk|apply qls|apply qni|apply qnt)<;>(first|exact rfl|exact Ar.mk (by omega)|assumption|exact dct (by first|assumption|omega)|exact dcf (by first|assumption|omega)|exact List.not_mem_nil|fail))|fail) ?_)
  refine dA rfl (by exact rho_of rfl) rfl ?_
  repeat (first|apply cB|apply cD|apply cE|apply cF|apply cU|refine cV rfl rfl rfl rfl (by first|((first|apply qmv|apply qas|apply qad)<;>(first|exact rfl|exact Ar.mk (by omega)|fail))|fail) ?_)
  refine NG.round (i + 1) (by (repeat' (first | exact True.intro | exact rfl | refine And.intro ?_ ?_))) ⟨by omega, hk6.trans k610⟩ (by omega)
end Go.Proofs.YtgbgnlboogalgaaGreat
namespace Go.Proofs.YtgbgnlboogalgaaGreat
set_option linter.unusedVariables false
/-- An effect at a place: the blocks that it turns, what must be so ahead of it, what is so behind it. -/
structure QE where
  i : Nat
  S : List Nat
  pre : World → Prop
  post : World → Prop
def OblQ (P : Program) (S : List Nat) (w0 : World) (ops : List Oper) (q1 q2 : QE) (L : Env) (i : Nat) (o : Oper) (v : Value) : Prop :=
  ((want ops L o = some false ∧ v = undef ∨ want ops L o = some true ∧ Plain P S w0 (fun _ => True) L o v) ∧ q1.i ≠ i ∧ q2.i ≠ i) ∨
  (want ops L o = some true ∧ o.op.operands.toList.all (known L) = true ∧ ((q1.i = i ∧ ∀ w, Kp S w0 w → q1.pre w → OpRun P (rho L) o w (fun v' w' => v' = v ∧ Kp q1.S w w' ∧ q1.post w')) ∨
    (q2.i = i ∧ ∀ w, Kp S w0 w → q2.pre w → OpRun P (rho L) o w (fun v' w' => v' = v ∧ Kp q2.S w w' ∧ q2.post w'))))
def DerQ (P : Program) (S : List Nat) (w0 : World) (ops : List Oper) (q1 q2 : QE) (K : Env → Prop) : List Nat → Env → Prop
  | [], L => K L
  | i :: ord, L => ∃ o, ops[i]? = some o ∧ ∃ v, OblQ P S w0 ops q1 q2 L i o v ∧ DerQ P S w0 ops q1 q2 K ord (addD o.dst v L)
structure QOk (S : List Nat) (q1 q2 : QE) : Prop where
  s1 : ∀ b ∈ q1.S, b ∈ S
  s2 : ∀ b ∈ q2.S, b ∈ S
  p1 : Stab [] q1.pre
  r1 : Stab [] q1.post
  p2 : Stab [] q2.pre
  r2 : Stab [] q2.post
  k12 : ∀ w w', q1.pre w → Kp q1.S w w' → (q2.pre w → q2.pre w') ∧ (q2.post w → q2.post w')
  k21 : ∀ w w', q2.pre w → Kp q2.S w w' → (q1.pre w → q1.pre w') ∧ (q1.post w → q1.post w')
  ne : Nat.beq q1.i q2.i = false
section
variable {P : Program} {n : Nat} {ops : List Oper} {Q : Exit → Act → World → Prop} {S : List Nat} {w0 : World} {L0 : Env} {ord0 : List Nat} {q1 q2 : QE} {k : Nat}
/-- The entries of a derivation. -/
structure EntQ (P : Program) (S : List Nat) (w0 : World) (ops : List Oper) (q1 q2 : QE) (L0 : Env) (ord0 : List Nat) (Dv : List Ent) : Prop where
  idx : (Dv.map (·.i)).reverse = ord0
  ent : ∀ e ∈ Dv, ops[e.i]? = some e.o
  obl : ∀ pre e post, Dv = pre ++ e :: post → OblQ P S w0 ops q1 q2 (env L0 post) e.i e.o e.v
theorem DerQ.ents {K : Env → Prop} : ∀ (ord : List Nat) (Dv : List Ent) (ord1 : List Nat), EntQ P S w0 ops q1 q2 L0 ord1 Dv → DerQ P S w0 ops q1 q2 K ord (env L0 Dv) → ∃ Dv', EntQ P S w0 ops q1 q2 L0 (ord1 ++ ord) Dv' ∧ K (env L0 Dv')
  | [], Dv, ord1, h, hd => ⟨Dv, by rw [List.append_nil]; exact h, hd⟩
  | i :: ord, Dv, ord1, h, hd => by
    obtain ⟨o, ho, v, hv, hr⟩ := hd
    have h2 : EntQ P S w0 ops q1 q2 L0 (ord1 ++ [i]) (⟨i, o, v⟩ :: Dv) := by
      refine ⟨by simp [h.idx], fun e he => ?_, fun pre e post hD => ?_⟩
      · rcases List.mem_cons.1 he with rfl | he
        · exact ho
        · exact h.ent e he
      · cases pre with
        | nil =>
          simp only [List.nil_append, List.cons.injEq] at hD
          obtain ⟨rfl, rfl⟩ := hD
          exact hv
        | cons p pre =>
          simp only [List.cons_append, List.cons.injEq] at hD
          exact h.obl pre e post hD.2
    obtain ⟨Dv', h3, h4⟩ := DerQ.ents ord (⟨i, o, v⟩ :: Dv) (ord1 ++ [i]) h2 hr
    exact ⟨Dv', by simpa using h3, h4⟩
theorem EntQ.nodup {Dv : List Ent} (h : EntQ P S w0 ops q1 q2 L0 ord0 Dv) (hn : ord0.Nodup) : (Dv.map (·.i)).Nodup := by
  rw [← h.idx] at hn
  rw [← List.reverse_reverse (Dv.map (·.i))]
  exact (List.pairwise_reverse.2 (hn.imp (fun hh => hh.symm)))
theorem uniqI : ∀ (l : List Ent), (l.map (·.i)).Nodup → ∀ e ∈ l, ∀ e' ∈ l, e.i = e'.i → e = e'
  | [], _, e, he, _, _, _ => by cases he
  | x :: l, hn, e, he, e', he', hi => by
    rw [List.map_cons, List.nodup_cons] at hn
    rcases List.mem_cons.1 he with h1 | h1
    · rcases List.mem_cons.1 he' with h2 | h2
      · rw [h1, h2]
      · exact absurd (List.mem_map.2 ⟨e', h2, by rw [← hi, h1]⟩) hn.1
    · rcases List.mem_cons.1 he' with h2 | h2
      · exact absurd (List.mem_map.2 ⟨e, h1, by rw [hi, h2]⟩) hn.1
      · exact uniqI l hn.2 e h1 e' h2 hi
theorem EntQ.one (c : ChkT n ops ord0 [] k) {Dv : List Ent} (h : EntQ P S w0 ops q1 q2 L0 ord0 Dv) : OneWriter Dv := by
  have hn := h.nodup c.nodup
  unfold OneWriter
  rw [List.Nodup, List.pairwise_map] at hn
  refine List.Pairwise.imp_of_mem ?_ hn
  intro x y hx hy hne t hxt hyt
  exact hne (c.one x.i y.i x.o y.o t (h.ent x hx) (h.ent y hy) hxt hyt)
theorem put_slotQ {a : Act} {dst : Option Nat} {v : Value} (t : Nat) (u : Value) (h : a.tmps[t]? = some u) (hne : dst ≠ some t) : (a.put dst v).tmps[t]? = some u := by
  cases dst with
  | none => exact h
  | some d =>
    have : d ≠ t := fun e => hne (by rw [e])
    simp only [Act.put]
    rw [Array.getElem?_setIfInBounds_ne this]
    exact h
theorem curvF {D : Nat → Bool} {t : Nat} : ∀ (l : List Ent), (∀ e ∈ l, D e.i = false) → curv L0 D l t = look L0 t
  | [], _ => rfl
  | e :: r, h => by
    simp only [curv]
    rw [h e (by simp), curvF r (fun e he => h e (by simp [he]))]
    simp
structure StQ (n : Nat) (ops : List Oper) (S : List Nat) (w0 : World) (L0 : Env) (q1 q2 : QE) (Dv : List Ent) (D : Nat → Bool) (a : Act) (w : World) : Prop where
  closed : ∀ (i : Nat) (o : Oper), ops[i]? = some o → D i = true → ∀ e ∈ edges o, D e = true
  size : a.tmps.size = n
  defers : a.defers = []
  frame : ∀ t v, curv L0 D Dv t = some v → a.tmps[t]? = some v
  kp : Kp S w0 w
  e1 : if D q1.i = true then q1.post w else q1.pre w
  e2 : if D q2.i = true then q2.post w else q2.pre w
theorem StQ.looks (c : ChkT n ops ord0 [] k) {Dv : List Ent} (hE : EntQ P S w0 ops q1 q2 L0 ord0 Dv) {D : Nat → Bool} {a : Act} {w : World} (h : StQ n ops S w0 L0 q1 q2 Dv D a w) {pre post : List Ent} {e : Ent} (hD : Dv = pre ++ e :: post)
    (hnd : D e.i = false) (hr : ∀ j, anc ops e.i j = true → D j = true) : ∀ t ∈ lks ops e.o, ∀ v, look (env L0 post) t = some v → a.tmps[t]? = some v := by
  intro t ht v hv
  have heD : e ∈ Dv := by rw [hD]; simp
  have hord : ord0 = (post.map (·.i)).reverse ++ e.i :: ((pre.map (·.i)).reverse) := by
    rw [← hE.idx, hD]
    simp
  obtain ⟨hs, _⟩ := ordOk_spec [] ord0 c.ok _ e.i _ hord e.o (hE.ent e heD)
  obtain ⟨h1, h2, h3⟩ := hs t ht
  refine h.frame t v ?_
  rw [hD, curv_at pre post (by rw [← hD]; exact hE.one c)]
  · exact hv
  · intro q hq hqt
    refine hr q.i (h1 q.i (Or.inr ?_) ?_)
    · rw [List.mem_reverse]; exact List.mem_map.2 ⟨q, hq, rfl⟩
    · simp [dstOf, hE.ent q (by rw [hD]; simp [hq]), hqt]
  · intro q hq hqt
    have ha : anc ops q.i e.i = true := h2 q.i (by rw [List.mem_reverse]; exact List.mem_map.2 ⟨q, hq, rfl⟩) (by simp [dstOf, hE.ent q (by rw [hD]; simp [hq]), hqt])
    cases hq' : D q.i with
    | false => rfl
    | true =>
      have hqo := hE.ent q (by rw [hD]; simp [hq])
      have := anc_closed h.closed q.i q.o hqo (h.closed q.i q.o hqo hq') e.i ha
      rw [hnd] at this
      cases this
  · intro _; exact hnd
theorem StQ.did (c : ChkT n ops ord0 [] k) {Dv : List Ent} (hE : EntQ P S w0 ops q1 q2 L0 ord0 Dv) {D : Nat → Bool} {a : Act} {w : World} (h : StQ n ops S w0 L0 q1 q2 Dv D a w) {e : Ent} (he : e ∈ Dv) (hed : ∀ j ∈ edges e.o, D j = true) {w' : World} {T : List Nat} (hk : Kp T w w') (hT : ∀ b ∈ T, b ∈ S)
    (h1 : if setD D e.i q1.i = true then q1.post w' else q1.pre w') (h2 : if setD D e.i q2.i = true then q2.post w' else q2.pre w') : StQ n ops S w0 L0 q1 q2 Dv (setD D e.i) (a.put e.o.dst e.v) w' := by
  have heo := hE.ent e he
  have hdn : ∀ d, e.o.dst = some d → d < n := c.dlt e.o (List.mem_of_getElem? heo)
  refine ⟨setD_closed h.closed heo hed, ?_, ?_, fun t v hv => ?_, h.kp.trans (hk.mono hT), h1, h2⟩
  · cases hd : e.o.dst <;> simp [Act.put, h.size]
  · cases hd : e.o.dst <;> simp [Act.put, h.defers]
  · rw [curv_upd Dv (hE.one c) he (fun q hq hi => uniqI Dv (hE.nodup c.nodup) q hq e he hi)] at hv
    by_cases hd : e.o.dst = some t
    · rw [if_pos hd] at hv
      cases hv
      rw [hd]
      simp [Act.put, h.size, hdn t hd]
    · rw [if_neg hd] at hv
      exact put_slotQ t v (h.frame t v hv) hd
def KQ (n : Nat) (S : List Nat) (w0 : World) (P : Program) (ops : List Oper) (Q : Exit → Act → World → Prop) (k : Nat) (q1 q2 : QE) (L : Env) : Prop :=
  ∀ w', Kp S w0 w' → q1.post w' → q2.post w' → ∀ a, Fits n a L → wpList P ops.toArray Q (ops.drop k) a w'
theorem StQ.wpAny (c : ChkT n ops ord0 [] k) (ok : QOk S q1 q2) (l1 : q1.i < k) (l2 : q2.i < k) {Dv : List Ent} (hE : EntQ P S w0 ops q1 q2 L0 ord0 Dv) (hK : KQ n S w0 P ops Q k q1 q2 (env L0 Dv)) : ∀ (fuel : Nat) (listed : Array Bool) (a : Act) (w : World),
    listed.size = ops.length → StQ n ops S w0 L0 q1 q2 Dv (fun j => listed.getD j true) a w → (∀ i, i < ops.length → k ≤ i → listed.getD i true = false) →
    (List.range ops.length).countP (fun i => !listed.getD i true) = fuel → Go.wpAny P .any ops.toArray Q fuel listed a w := by
  have hle := c.le
  have hfin : ∀ (listed : Array Bool) (a : Act) (w : World), StQ n ops S w0 L0 q1 q2 Dv (fun j => listed.getD j true) a w → (∀ i, i < k → listed.getD i true = true) → wpList P ops.toArray Q (ops.drop k) a w := by
    intro listed a w hst hpre
    have h1 := hst.e1
    have h2 := hst.e2
    simp only [hpre _ l1, hpre _ l2, if_true] at h1 h2
    refine hK w hst.kp h1 h2 a ⟨fun t v hv => hst.frame t v ?_, hst.size, hst.defers⟩
    rw [curv_env Dv (fun e he _ => hpre e.i (c.lt e.i (by rw [← hE.idx, List.mem_reverse]; exact List.mem_map.2 ⟨e, he, rfl⟩)))]
    exact hv
  intro fuel
  induction fuel with
  | zero =>
    intro listed a w hsz hst htl hcnt
    rw [List.countP_eq_zero] at hcnt
    have hall : ∀ i, i < ops.length → listed.getD i true = true := fun i hi => by simpa using hcnt i (by simpa using hi)
    have hk : k = ops.length := by
      by_cases h : k < ops.length
      · have := htl k h (Nat.le_refl _)
        rw [hall k h] at this
        cases this
      · omega
    exact wpAny_tail c.ed 0 k listed a w (by omega) hsz c.tl hst.closed (fun i hi => by rw [hall i hi]; simp; omega) (hfin listed a w hst (fun i hi => hall i (by omega)))
  | succ fuel ih =>
    intro listed a w hsz hst htl hcnt
    by_cases hpre : ∀ i, i < k → listed.getD i true = true
    · have hdec : ∀ i, i < ops.length → listed.getD i true = decide (i < k) := by
        intro i hi
        by_cases hik : i < k
        · rw [hpre i hik]; simp [hik]
        · rw [htl i hi (by omega)]; simp [hik]
      have hm : k + (fuel + 1) = ops.length := by
        have : (List.range ops.length).countP (fun i => !listed.getD i true) = ops.length - k := by
          have e1 : (List.range ops.length).countP (fun i => !listed.getD i true) = (List.range ops.length).countP (fun i => !decide (i < k)) := by
            apply List.countP_congr
            intro i hi
            rw [hdec i (by simpa using hi)]
          rw [e1]
          have : ops.length = k + (ops.length - k) := by omega
          rw [this, List.range_add, List.countP_append, List.countP_map]
          have h1 : (List.range k).countP (fun i => !decide (i < k)) = 0 := by
            rw [List.countP_eq_zero]; intro i hi; simp at hi; simp [hi]
          have h2 : (List.range (ops.length - k)).countP ((fun i => !decide (i < k)) ∘ fun x => k + x) = (List.range (ops.length - k)).length := by
            rw [List.countP_eq_length]; intro i hi; simp
          rw [h1, h2]
          simp
        omega
      exact wpAny_tail c.ed (fuel + 1) k listed a w hm hsz c.tl hst.closed hdec (hfin listed a w hst hpre)
    · constructor
      · intro hr
        exfalso
        apply hpre
        intro i
        induction i using Nat.strongRecOn with
        | _ i ihi =>
          intro hik
          cases hd : listed.getD i true with
          | true => rfl
          | false =>
            exfalso
            have : i ∈ Region.ready .any ops.toArray listed := by
              refine (ready_iff hsz).2 ⟨ops[i], by simp, hd, fun e he => ?_⟩
              have hei := c.ed i ops[i] (by simp) e he
              have := ihi e hei (by omega)
              simp only [Array.getD_eq_getD_getElem?] at this ⊢
              rw [Array.getElem?_eq_getElem (by omega)] at this ⊢
              exact this
            rw [hr] at this
            cases this
      · intro i hi
        obtain ⟨o, ho, hnd, hed'⟩ := (ready_iff hsz).1 hi
        have hil : i < ops.length := (List.getElem?_eq_some_iff.1 ho).1
        have hed : ∀ e ∈ edges o, listed.getD e true = true := by
          intro e he
          have := hed' e he
          simp only [Array.getD_eq_getD_getElem?] at this ⊢
          cases h : listed[e]? with
          | none => rfl
          | some b => rw [h] at this; exact this
        have hanc : ∀ j, anc ops i j = true → listed.getD j true = true := anc_closed hst.closed i o ho hed
        have hsz' : (listed.setIfInBounds i true).size = ops.length := by simp [hsz]
        have hset : (fun j => (listed.setIfInBounds i true).getD j true) = setD (fun j => listed.getD j true) i := funext fun j => getD_set (by omega)
        by_cases hik : i < k
        rotate_left
        · exfalso
          apply hpre
          intro j hj
          exact hanc j (c.tl i hil (by omega) j (by omega))
        have htl' : ∀ j, j < ops.length → k ≤ j → (listed.setIfInBounds i true).getD j true = false := by
          intro j hj hkj
          rw [getD_set (by omega), setD_ne (by omega)]
          exact htl j hj hkj
        have hcnt' : (List.range ops.length).countP (fun j => !(listed.setIfInBounds i true).getD j true) = fuel := by
          have key : ∀ (l : List Nat), l.Nodup → i ∈ l → l.countP (fun j => !listed.getD j true) = l.countP (fun j => !(listed.setIfInBounds i true).getD j true) + 1 := by
            intro l
            induction l with
            | nil => intro _ h; cases h
            | cons y l ihl =>
              intro hnl hm
              rw [List.nodup_cons] at hnl
              rw [List.countP_cons, List.countP_cons]
              by_cases e : y = i
              · subst e
                have hsame : l.countP (fun j => !listed.getD j true) = l.countP (fun j => !(listed.setIfInBounds y true).getD j true) := by
                  apply List.countP_congr
                  intro j hj
                  rw [getD_set (by omega), setD_ne (show j ≠ y from fun e1 => hnl.1 (e1 ▸ hj))]
                rw [hsame, getD_set (by omega), setD_same, hnd]
                simp
              · have hm' : i ∈ l := by
                  rcases List.mem_cons.1 hm with h | h
                  · exact absurd h.symm e
                  · exact h
                rw [ihl hnl.2 hm', getD_set (by omega), setD_ne e]
                omega
          have := key (List.range ops.length) List.nodup_range (by simpa using hil)
          omega
        have hio := c.cover i hik
        rw [← hE.idx, List.mem_reverse, List.mem_map] at hio
        obtain ⟨e, he, rfl⟩ := hio
        have heo : o = e.o := Option.some.inj (ho.symm.trans (hE.ent e he))
        subst heo
        obtain ⟨pre, post, hD⟩ := List.append_of_mem he
        have hlk := hst.looks c hE hD hnd hanc
        have next : ∀ (T : List Nat) (w' : World), Kp T w w' → (∀ b ∈ T, b ∈ S) → (if setD (fun j => listed.getD j true) e.i q1.i = true then q1.post w' else q1.pre w') → (if setD (fun j => listed.getD j true) e.i q2.i = true then q2.post w' else q2.pre w') → Go.wpAny P .any ops.toArray Q fuel (listed.setIfInBounds e.i true) (a.put e.o.dst e.v) w' := by
          intro T w' hk hT h1 h2
          refine ih _ _ w' hsz' ?_ htl' hcnt'
          rw [hset]
          exact hst.did c hE he hed hk hT h1 h2
        have g1 := hst.e1
        have g2 := hst.e2
        have hne : q1.i ≠ q2.i := fun h => by
          have := ok.ne
          rw [h, Nat.beq_refl] at this
          cases this
        rcases hE.obl pre e post hD with ⟨hpl, n1, n2⟩ | ⟨hw, hkn, hq⟩
        · have still : ∀ w', Kp [] w w' → Go.wpAny P .any ops.toArray Q fuel (listed.setIfInBounds e.i true) (a.put e.o.dst e.v) w' := fun w' hk => by
            refine next [] w' hk (fun b hb => by cases hb) ?_ ?_
            · rw [setD_ne n1]
              by_cases h : listed.getD q1.i true = true
              · rw [if_pos h] at g1 ⊢; exact ok.r1 w w' hk g1
              · rw [if_neg h] at g1 ⊢; exact ok.p1 w w' hk g1
            · rw [setD_ne n2]
              by_cases h : listed.getD q2.i true = true
              · rw [if_pos h] at g2 ⊢; exact ok.r2 w w' hk g2
              · rw [if_neg h] at g2 ⊢; exact ok.p2 w w' hk g2
          rcases hpl with ⟨hw, hv⟩ | ⟨hw, hkn, hp⟩
          · refine wpOp_of ho (wanted_of hlk hw) (fun h => by cases h) (fun _ => ?_)
            rw [← hv]
            exact still w (Kp.refl _ _)
          · refine wpOp_of ho (wanted_of hlk hw) (fun _ => ?_) (fun h => by cases h)
            have hr' := OpRun.congr (c.sel e.o (List.mem_of_getElem? ho)) (eval_of hlk hkn) (hp w hst.kp trivial)
            exact hr'.wp (fun v w' ⟨h1, h2⟩ => by rw [h1]; exact still w' h2)
        · refine wpOp_of ho (wanted_of hlk hw) (fun _ => ?_) (fun h => by cases h)
          rcases hq with ⟨hi, hp⟩ | ⟨hi, hp⟩
          · have g1 : q1.pre w := by rw [hi, if_neg (by rw [hnd]; decide)] at g1; exact g1
            have hr' := OpRun.congr (c.sel e.o (List.mem_of_getElem? ho)) (eval_of hlk hkn) (hp w hst.kp g1)
            refine hr'.wp (fun v w' ⟨h1, h2, h3⟩ => ?_)
            rw [h1]
            refine next q1.S w' h2 ok.s1 ?_ ?_
            · rw [hi, setD_same, if_pos rfl]; exact h3
            · rw [setD_ne (fun h => hne (by rw [hi, h]))]
              by_cases h : listed.getD q2.i true = true
              · rw [if_pos h] at g2 ⊢; exact (ok.k12 w w' g1 h2).2 g2
              · rw [if_neg h] at g2 ⊢; exact (ok.k12 w w' g1 h2).1 g2
          · have g2 : q2.pre w := by rw [hi, if_neg (by rw [hnd]; decide)] at g2; exact g2
            have hr' := OpRun.congr (c.sel e.o (List.mem_of_getElem? ho)) (eval_of hlk hkn) (hp w hst.kp g2)
            refine hr'.wp (fun v w' ⟨h1, h2, h3⟩ => ?_)
            rw [h1]
            refine next q2.S w' h2 ok.s2 ?_ ?_
            · rw [setD_ne (fun h => hne (by rw [hi, h]))]
              by_cases h : listed.getD q1.i true = true
              · rw [if_pos h] at g1 ⊢; exact (ok.k21 w w' g2 h2).2 g1
              · rw [if_neg h] at g1 ⊢; exact (ok.k21 w w' g2 h2).1 g1
            · rw [hi, setD_same, if_pos rfl]; exact h3
/-- THE RULE. -/
theorem CG.quiet {id : Nat} {w : World} (hm : P.follows .mixedOrders = true) (k : Nat) (ord : List Nat) (S : List Nat) (q1 q2 : QE) (hc : chkT n ops ord [] k = true) (l1 : Nat.blt q1.i k = true) (l2 : Nat.blt q2.i k = true) (ok : QOk S q1 q2) (h1 : q1.pre w) (h2 : q2.pre w)
    (h : DerQ P S w ops q1 q2 (KQ n S w P ops Q k q1 q2) ord L0) : CG P n (.region id ops.toArray true) Q L0 w := by
  intro a ha
  have c := ChkT.of hc
  have hl1 : q1.i < k := by simpa [Nat.blt_eq] using l1
  have hl2 : q2.i < k := by simpa [Nat.blt_eq] using l2
  have hle := c.le
  obtain ⟨Dv, hE, hK⟩ := DerQ.ents (L0 := L0) ord [] [] ⟨rfl, fun e he => (by cases he), fun pre e post hD => (by cases pre <;> cases hD)⟩ h
  refine wp_region_any hm ?_
  have hget : ∀ j, (Array.replicate ops.toArray.size false).getD j true = !decide (j < ops.length) := by
    intro j
    simp [Array.getD_eq_getD_getElem?, Array.getElem?_replicate]
    split <;> simp_all
  have hD : (fun j => (Array.replicate ops.toArray.size false).getD j true) = fun j => !decide (j < ops.length) := funext hget
  refine StQ.wpAny c ok hl1 hl2 hE hK _ _ a _ (by simp) ?_ (fun i hi _ => by rw [hget]; simp [hi]) ?_
  · rw [hD]
    refine ⟨fun i o ho hd => ?_, ha.size, ha.defers, fun t v hv => ha.slot t v ?_, (Kp.refl S w).drew, ?_, ?_⟩
    · simp [(List.getElem?_eq_some_iff.1 ho).1] at hd
    · rw [curvF] at hv
      · exact hv
      · intro e he
        have := c.lt e.i (by rw [show ord = (Dv.map (·.i)).reverse from hE.idx.symm, List.mem_reverse]; exact List.mem_map.2 ⟨e, he, rfl⟩)
        simp
        omega
    · rw [if_neg (by simp; omega)]
      exact ok.p1 _ _ (Kp.refl [] w).drew h1
    · rw [if_neg (by simp; omega)]
      exact ok.p2 _ _ (Kp.refl [] w).drew h2
  · have : (List.range ops.length).countP (fun i => !(Array.replicate ops.toArray.size false).getD i true) = (List.range ops.length).length := by
      rw [List.countP_eq_length]
      intro i hi
      rw [hget]
      simp at hi
      simp [hi]
    rw [this]
    simp
theorem DerQ.tl {L : Env} (h : ∀ w', Kp S w0 w' → q1.post w' → q2.post w' → SG P n ops Q (ops.drop k) L w') : DerQ P S w0 ops q1 q2 (KQ n S w0 P ops Q k q1 q2) [] L := fun w' h1 h2 h3 => h w' h1 h2 h3
section
variable {K : Env → Prop} {i : Nat} {ord : List Nat} {L : Env} {ty : TypeId} {pos : String} {af : Array Edge} {g : Option (Nat × Bool)}
theorem DerQ.val {d : Nat} {op : Op} {v : Value} (hn : (!Nat.beq q1.i i && !Nat.beq q2.i i) = true) (ho : ops[i]? = some ⟨some d, op, ty, pos, af, g⟩) (hw : want ops L ⟨some d, op, ty, pos, af, g⟩ = some true) (hk : op.operands.toList.all (known L) = true) (hv : Vals P S w0 (fun _ => True) L ⟨some d, op, ty, pos, af, g⟩ v)
    (hd : DerQ P S w0 ops q1 q2 K ord ((d, v) :: L)) : DerQ P S w0 ops q1 q2 K (i :: ord) L := by
  simp only [Bool.and_eq_true, Bool.not_eq_true'] at hn
  exact ⟨_, ho, v, Or.inl ⟨Or.inr ⟨hw, hk, fun w h1 h2 => by unfold OpRun; rw [hv w h1 h2]; exact ⟨rfl, Kp.refl _ _⟩⟩, fun e => (by rw [e, Nat.beq_refl] at hn; cases hn.1), fun e => (by rw [e, Nat.beq_refl] at hn; cases hn.2)⟩, hd⟩
theorem DerQ.call {d : Nat} {f : FuncId} [Fnc P f] {args : List Operand} {vs : List Value} {tys : Array TypeId} {v : Value} (hn : (!Nat.beq q1.i i && !Nat.beq q2.i i) = true)
    (ho : ops[i]? = some ⟨some d, .call ⟨.value (.func f), args.toArray, tys⟩, ty, pos, af, g⟩) (hw : want ops L ⟨some d, .call ⟨.value (.func f), args.toArray, tys⟩, ty, pos, af, g⟩ = some true) (hk : (Op.call ⟨.value (.func f), args.toArray, tys⟩).operands.toList.all (known L) = true)
    (he : Evs L args vs) (hc : ∀ w, Kp S w0 w → Ret P f vs.toArray w v) (hd : DerQ P S w0 ops q1 q2 K ord ((d, v) :: L)) : DerQ P S w0 ops q1 q2 K (i :: ord) L := by
  simp only [Bool.and_eq_true, Bool.not_eq_true'] at hn
  exact ⟨_, ho, v, Or.inl ⟨Or.inr ⟨hw, hk, fun w h1 h2 => orun_call (by rw [he.arr]; exact (hc w h1).mono (fun e w' ⟨h1, h2⟩ => ⟨v, h1, rfl, h2⟩))⟩, fun e => (by rw [e, Nat.beq_refl] at hn; cases hn.1), fun e => (by rw [e, Nat.beq_refl] at hn; cases hn.2)⟩, hd⟩
/-- The call that is the first effect. -/
theorem DerQ.call1 {d : Nat} {f : FuncId} [Fnc P f] {args : List Operand} {vs : List Value} {tys : Array TypeId} {v : Value} (hi : q1.i = i)
    (ho : ops[i]? = some ⟨some d, .call ⟨.value (.func f), args.toArray, tys⟩, ty, pos, af, g⟩) (hw : want ops L ⟨some d, .call ⟨.value (.func f), args.toArray, tys⟩, ty, pos, af, g⟩ = some true) (hk : (Op.call ⟨.value (.func f), args.toArray, tys⟩).operands.toList.all (known L) = true)
    (he : Evs L args vs) (hc : ∀ w, Kp S w0 w → q1.pre w → Calls P f vs.toArray w (fun e w' => e = .returned v ∧ Kp q1.S w w' ∧ q1.post w')) (hd : DerQ P S w0 ops q1 q2 K ord ((d, v) :: L)) : DerQ P S w0 ops q1 q2 K (i :: ord) L :=
  ⟨_, ho, v, Or.inr ⟨hw, hk, Or.inl ⟨hi, fun w h1 h2 => orun_call (by rw [he.arr]; exact (hc w h1 h2).mono (fun e w' ⟨h1, h2⟩ => ⟨v, h1, rfl, h2⟩))⟩⟩, hd⟩
/-- The store that is the second one. -/
theorem DerQ.store2 {T T' : TypeId} {inf : TypeInfo} [f : Inf P T inf] {a x : Operand} {b : Nat} {old : List Value} {l : List Value} (hi : q2 = ⟨i, [b], fun w => Blk w b (.cells old.toArray T'), fun w => Blk w b (.cells l.toArray T')⟩)
    (ho : ops[i]? = some ⟨none, .store T a x, ty, pos, af, g⟩) (hw : want ops L ⟨none, .store T a x, ty, pos, af, g⟩ = some true) (hk : (Op.store T a x).operands.toList.all (known L) = true)
    (ha : rho L a = .pointer (some ⟨b, 0, none⟩)) (hx : rho L x = .agg l.toArray) (hl : l.length = inf.size) (hol : old.length = inf.size) (hone : allOne l = true) (hd : DerQ P S w0 ops q1 q2 K ord L) : DerQ P S w0 ops q1 q2 K (i :: ord) L := by
  subst hi
  refine ⟨_, ho, undef, Or.inr ⟨hw, hk, Or.inr ⟨rfl, fun w h1 h2 => ?_⟩⟩, hd⟩
  have h2 : Blk w b (.cells old.toArray T') := h2
  unfold OpRun
  have hsp : (spl old 0 (Value.agg l.toArray).cells.toList) = l := by
    simp only [Value.cells]
    exact spl_all (by omega)
  have hrun : (execOp (rho L) ⟨none, .store T a x, ty, pos, af, g⟩).run P w = .ok .skip { w with heap := w.heap.setIfInBounds b (.cells l.toArray T') } := by
    have := run_storeAt (P := P) (f := f) (off := 0) (v := .agg l.toArray) h2 (by simpa [Value.cells] using hl) (by simp [Value.cells]; omega) (by simpa [Value.cells] using hone)
    rw [List.toList_toArray, hsp] at this
    simp only [execOp, hx, ha, Sem.run_bind, this, Result.andThen, Sem.run_pure]
  rw [hrun]
  exact ⟨rfl, Kp.set w (o' := .cells l.toArray T') h2 rfl rfl, h2.set _⟩
end
end
end Go.Proofs.YtgbgnlboogalgaaGreat
namespace Go.Proofs.YtgbgnlboogalgaaGreat
open Go.Proofs
set_option linter.unusedVariables false
def zeroM : Tm := ⟨⟨zd, 0, 0, 0, [], []⟩, none, 0, none, 0⟩
theorem zeroM_in {n : Nat} {w : World} : zeroM.In n w := ⟨Bs.nil, Bs.nil, Or.inr (fun b off e => (by cases e)), Or.inr (fun b off e => (by cases e)), Nat.zero_le _, Nat.zero_le _⟩
def headM (ys : List Tm) : Tm := ys.headD zeroM
theorem headM_in {ys : List Tm} {n : Nat} {w : World} (h : ∀ x ∈ ys, x.In n w) : (headM ys).In n w := by
  cases ys with
  | nil => exact zeroM_in
  | cons x l => exact h x List.mem_cons_self
/-- A pool behind a call, its row its own or new. -/
def PostP (w0 : World) (n p : Nat) (v : Value) (room : Int) (L : List En) (W : World) : Prop := ∃ v' ms', Pl W n p v' room ms' ∧ ms'.map Em.en = L ∧ ∀ g, v'.ownBlock = some g → v.ownBlock = some g ∨ w0.heap.size ≤ g
def qP (i : Nat) (w0 : World) (n p : Nat) (v : Value) (room : Int) (ms : List Em) (L : List En) (a' : Option Addr) (c' : Nat) (ws' : List Wm) : QE := ⟨i, p :: ownB v, fun W => Pl W n p v room ms ∧ PD W n a' c' ws', fun W => PostP w0 n p v room L W ∧ PD W n a' c' ws'⟩
def qB (i b : Nat) (old l : List Value) : QE := ⟨i, [b], fun W => Blk W b (.cells old.toArray 29), fun W => Blk W b (.cells l.toArray 29)⟩
theorem q_ok {i j b : Nat} {w0 : World} {n p : Nat} {v : Value} {room : Int} {ms : List Em} {L : List En} {a' : Option Addr} {c' : Nat} {ws' : List Wm} {old l : List Value} (hij : Nat.beq i j = false) (hb : b ∉ p :: ownB v) (hn : n ≤ b) (hb0 : b < w0.heap.size) : QOk (b :: p :: ownB v) (qP i w0 n p v room ms L a' c' ws') (qB j b old l) := by
  have hbp : p ≠ b := fun e => hb (by rw [e]; exact List.mem_cons_self)
  have hbv : ∀ g, v.ownBlock = some g → g ∉ [b] := fun g hg => nm1 (fun e => hb (List.mem_cons_of_mem _ (by rw [← e]; exact ownB_of hg)))
  refine ⟨fun z hz => List.mem_cons_of_mem _ hz, fun z hz => by
    have hz : z ∈ [b] := hz
    rw [List.mem_singleton] at hz
    rw [hz]
    exact List.mem_cons_self, fun w w' hk h => ⟨h.1.kp0 hk, h.2.kp0 hk⟩, fun w w' hk ⟨⟨v', ms', h1, h2, h3⟩, h4⟩ => ⟨⟨v', ms', h1.kp0 hk, h2, h3⟩, h4.kp0 hk⟩, fun w w' hk h => h.kp0 hk, fun w w' hk h => h.kp0 hk, fun w w' _ hk => ⟨fun h => h.kp hk hb, fun h => h.kp hk hb⟩, fun w w' hB hk => ⟨fun h => ?_, fun ⟨⟨v', ms', h1, h2, h3⟩, h4⟩ => ?_⟩, hij⟩
  · exact ⟨h.1.kp hk (nm1 hbp) hbv (Oth.cons hn (Oth.cells hB (by decide)) Oth.nil), h.2.kpb hk hB (by decide) (by decide) hn⟩
  · refine ⟨⟨v', ms', h1.kp hk (nm1 hbp) (fun g hg => ?_) (Oth.cons hn (Oth.cells hB (by decide)) Oth.nil), h2, h3⟩, h4.kpb hk hB (by decide) (by decide) hn⟩
    rcases h3 g hg with h | h
    · exact hbv g h
    · exact nm1 (by omega)
/-- What an act leaves. -/
def StepQ (w : World) (n p : Nat) (v : Value) (room : Int) (e : Ending) (w' : World) : Prop := ∃ p' v' ms' a' c' ws', e = .returned (.tuple #[.pointer (some ⟨p', 0, none⟩), .agg (pdc room a' ws'.length c').toArray, .bool true]) ∧ Pl w' n p' v' room ms' ∧ PD w' n a' c' ws' ∧ ws'.map Wm.en = ms'.map Em.en ∧ PInv room (ms'.map Em.en) ∧ Kp (p :: ownB v) w w' ∧ (p' = p ∨ w.heap.size ≤ p') ∧ ∀ g, v'.ownBlock = some g → v.ownBlock = some g ∨ w.heap.size ≤ g
theorem zs_t {ys : List Tm} (h : ∀ x ∈ ys, cutT x.t = x.t) : (ys.map cutM).map (·.t) = ys.map (·.t) := by
  rw [List.map_map]
  exact List.map_congr_left (fun x hx => h x hx)
attribute [local irreducible] CG NG SG Vals Der Row Blk MapIs IterAt DerX DerR DerQ wrongT nameT
set_option maxHeartbeats 128000000 in
theorem step_spec {w : World} {n p : Nat} {v : Value} {room : Int} {ms : List Em} {a : Option Addr} {c : Nat} {ws : List Wm} {x : Am} (hP : Pl w n p v room ms) (hI : PInv room (ms.map Em.en)) (hr : room ≤ 1024) (hD : PD w n a c ws) (hw : ws.map Wm.en = ms.map Em.en) (hX : TxsR w n x.a x.xs) :
    Calls Tryz.prog 17 #[.pointer (some ⟨p, 0, none⟩), .agg (pdc room a ws.length c).toArray, amv x] w (StepQ w n p v room) := by
  refine enter3 Tryz.func17 rfl Tryz.ntmps17 rfl ?_
  have hlen := hI.len
  rw [List.length_map] at hlen
  have hwl : ws.length = ms.length := by have := congrArg List.length hw; rwa [List.length_map, List.length_map] at this
  have hlp := hP.blk.lt
  have hvp : ∀ b, v.ownBlock = some b → b < w.heap.size := own_lt hP.own
  have hn0 := hP.base_le
  repeat (first|apply cA|apply cB)
  refine SG.box rfl rfl rfl (by exact rho_of rfl) (fun b4 w1 hk1 hb4 hB4 => ?_)
  refine SG.box rfl rfl rfl (by exact rho_of rfl) (fun b5 w2 hk2 hb5 hB5 => ?_)
  have hB4 : Blk w1 b4 (.cells (pdc room a ws.length c).toArray 29) := hB4
  have hB5 : Blk w2 b5 (.cells (amc x).toArray 56) := hB5
  repeat (first|refine cV rfl rfl rfl rfl (by first|(apply qas<;>(exact rfl))|fail) ?_)
  refine SG.alloc rfl rfl rfl (fun b7 w3 hk3 hb7 hB7 => ?_)
  have hB7 : Blk w3 b7 (.cells (pdc 0 none 0 0).toArray 29) := hB7
  have s1 := hk1.size
  have s2 := hk2.size
  have l4 := hB4.lt
  have l5 := hB5.lt
  have l7 := hB7.lt
  have k3 := (hk1.trans hk2).trans hk3
  obtain ⟨p0, -, -⟩ := pdc_rows ((hB4.kp0 hk2).kp0 hk3)
  obtain ⟨r0, r1, r2⟩ := amc_rows (hB5.kp0 hk3)
  clear hB4 hB5
  repeat (first|apply cA|apply cB|apply cD|apply cE|refine cV rfl rfl rfl rfl (by first|((first|apply qas|apply qlc|apply qfa)<;>(first|exact rfl|assumption|exact List.not_mem_nil))|fail) ?_)
  refine SG.call rfl rfl rfl (vs := [.slice x.a x.xs.length x.c, .int .i64 ((4 : Nat) : Int)]) (by repeat' (first | exact True.intro | exact rho_of rfl | refine And.intro ?_ ?_)) ((cuts_spec (c := x.c) (hX.kp0 k3) (most := 4) (by omega) (by have := k3.size; omega)).mono (fun e w4 hh => ?_))
  obtain ⟨v9, he, hk4, hN⟩ := hh
  refine ⟨_, he, ?_⟩
  clear he r2
  obtain ⟨a9, c9, rfl, hc9, hY⟩ := hN.toI
  have hyc : ∀ y ∈ (x.xs.take 4).map cutM, cutT y.t = y.t := fun y hy => by
    obtain ⟨z, _, rfl⟩ := List.mem_map.1 hy
    exact cutT_two z.t
  generalize hys : (x.xs.take 4).map cutM = ys at hY hc9 hyc
  have hyl : ys.length ≤ 4 := by rw [← hys, List.length_map, List.length_take]; omega
  clear hN hys
  have k4 := k3.trans hk4
  repeat (first|apply cA|apply cB|apply cD|apply cE|refine cV rfl rfl rfl rfl (by first|(apply qas<;>(exact rfl))|fail) ?_)
  refine SG.alloc rfl rfl rfl (fun b10 w5 hk5 hb10 hB10 => ?_)
  have hB10 : Blk w5 b10 (.cells (txc zeroM).toArray 40) := hB10
  have l10 := hB10.lt
  have k35 := hk4.trans hk5
  have k5 := k4.trans hk5
  have s3 := hk3.size
  have s4 := hk4.size
  have p0 := p0.kp0 k35
  have r0 := r0.kp0 k35
  have r1 := r1.kp0 k35
  have hB7 := hB7.kp0 k35
  have hY5 := hY.kp0 hk5
  repeat (first|apply cA|apply cB|apply cD|apply cE|refine cV rfl rfl rfl rfl (by first|((first|apply qmv|apply qln|apply qgt)<;>(first|exact rfl|exact dcu))|fail) ?_)
  refine CG.cut_then (fun L w' => SubE [(0, .pointer (some ⟨p, 0, none⟩)), (4, .pointer (some ⟨b4, 0, none⟩)), (5, .pointer (some ⟨b5, 0, none⟩)), (6, .pointer none), (7, .pointer (some ⟨b7, 0, none⟩)), (9, .slice a9 ys.length c9), (10, .pointer (some ⟨b10, 0, none⟩))] L ∧ Kp [b10] w5 w' ∧ Blk w' b10 (.cells (txc (headM ys)).toArray 40)) ?_ ?_
  · by_cases h0 : 0 < ys.length
    · have g0 : (0 : Int) < (ys.length : Int) := by omega
      obtain ⟨b1, o1, rfl, ri⟩ := hY5.sl.at h0
      have e0 : headM ys = ys[0] := by
        cases ys with
        | nil => cases h0
        | cons y l => rfl
      rw [e0]
      have ri : Row w5 b1 o1 (txc ys[0]) := by rw [Nat.zero_mul, Nat.add_zero] at ri; exact ri
      rw [decide_eq_true g0]
      refine cZ rfl (by exact rho_of rfl) rfl ?_
      repeat (first|apply cB|refine cV rfl rfl rfl rfl (by first|((first|apply qmv|apply qla|apply qic)<;>(first|exact rfl|exact Ar.mk (by omega)|assumption|exact List.not_mem_nil|apply txc_length|fail))|fail) ?_)
      refine SG.setAll (l := txc ys[0]) rfl rfl (by exact rho_of rfl) (by exact rho_of rfl) hB10 (txc_length _) rfl (txc_one _) (fun w6 hk6 hB6 => ?_)
      repeat (first|apply cD)
      exact NG.cut ⟨by (repeat' (first | exact True.intro | exact rfl | refine And.intro ?_ ?_)), hk6, hB6⟩
    · have g0 : ¬ (0 : Int) < (ys.length : Int) := by omega
      have e0 : headM ys = zeroM := by
        cases ys with
        | nil => rfl
        | cons y l => exact absurd (Nat.succ_pos _) h0
      rw [e0, decide_eq_false g0]
      refine dA rfl (by exact rho_of rfl) rfl ?_
      repeat (first|apply cF)
      exact NG.cut ⟨by (repeat' (first | exact True.intro | exact rfl | refine And.intro ?_ ?_)), Kp.refl _ _, hB10⟩
  rintro L w6 ⟨hL, hk6, hB10⟩
  refine CG.to [(0, .pointer (some ⟨p, 0, none⟩)), (4, .pointer (some ⟨b4, 0, none⟩)), (5, .pointer (some ⟨b5, 0, none⟩)), (6, .pointer none), (7, .pointer (some ⟨b7, 0, none⟩)), (9, .slice a9 ys.length c9), (10, .pointer (some ⟨b10, 0, none⟩))] hL ?_
  clear hL L
  have k6 : Kp [] w w6 := k5.trans_new hk6 (new1 (by omega))
  have p0 := p0.kp hk6 (nm1 (by omega))
  have r0 := r0.kp hk6 (nm1 (by omega))
  have r1 := r1.kp hk6 (nm1 (by omega))
  have hB7 := hB7.kp hk6 (nm1 (by omega))
  have hY := hY.kp0 (hk5.trans_new hk6 (new1 hb10))
  clear hY5
  have hx6 := headM_in hY.ins
  generalize headM ys = x0 at hB10 hx6
  obtain ⟨r10, -⟩ := txc_rows hB10
  have hP6 := hP.kp0 k6
  have hD6 := hD.kp0 k6
  have s6 := k6.size
  have s56 := hk6.size
  have lt10 := hB10.lt
  have nb7 : b7 ∉ p :: ownB v := fun hm => by
    rcases List.mem_cons.1 hm with e | hm
    · omega
    · have := hvp b7 (ownB_mem hm); omega
  have nS : ∀ z, w.heap.size ≤ z → z ≠ b7 → z ∉ b7 :: p :: ownB v := fun z hz hne hm => by
    rcases List.mem_cons.1 hm with e | hm
    · exact hne e
    · rcases List.mem_cons.1 hm with e | hm
      · omega
      · have := hvp z (ownB_mem hm); omega
  have hOS : Oth n w6 (b7 :: p :: ownB v) := Oth.cons (by omega) (Oth.cells hB7 (by decide)) hP6.oth
  have n5 := nS b5 (by omega) (by omega)
  have n10 := nS b10 (by omega) (by omega)
  have nl : ∀ z, w6.heap.size ≤ z → z ∉ b7 :: p :: ownB v := fun z hz => nS z (by omega) (by omega)
  have kf : ∀ {w8 w9 : World}, Kp [] w6 w8 → Kp (b7 :: p :: ownB v) w8 w9 → Kp (p :: ownB v) w w9 := fun h1 h2 => (k6.trans h1).any.trans_new h2 (fun z hz => by
    rcases List.mem_cons.1 hz with e | hz
    · exact Or.inr (by omega)
    · exact Or.inl hz)
  clear hB10 hX
  by_cases hk0 : x.kind = 0
  · repeat (first|apply cA|apply cB|apply cD|apply cE|apply cG|refine cV rfl rfl rfl rfl (by first|((first|apply qas|apply qlc|apply qfa|apply qei)<;>(first|exact rfl|assumption|exact dct (by first|assumption|omega)|exact List.not_mem_nil|fail))|fail) ?_)
    refine cZ rfl (by exact rho_of rfl) rfl ?_
    repeat (first|apply cA)
    refine CG.free mixed 11 [0, 1, 2, 3, 4, 5, 6, 7, 8, 9, 10] [(5, gQ n room (.int .i64 (addZ room (ms.map Em.en) x.h x0.t)) (addE room (ms.map Em.en) x.h x0.t)), (9, gV w6.heap.size 29 2), (10, gP w6.heap.size 29)] (by kernel_rfl) (by intro p hp y; simp at hp; rcases hp with rfl | rfl | rfl; exact gQ_stab y; exact gV_stab y; exact gP_stab y) ?_
    repeat (refine DerX.val rfl rfl rfl rfl (by first|((first|apply qlc|apply qla|apply qfa)<;>(first|exact rfl|assumption|exact List.not_mem_nil|apply txc_length))|fail) ?_)
    refine DerX.call rfl rfl rfl rfl (vs := [txv x0]) (by repeat' (first | exact True.intro | exact rho_of rfl | refine And.intro ?_ ?_)) (fun W hk _ => tof_spec x0) ?_
    refine DerX.callE (vs := [.agg (pdc room a ws.length c).toArray, .int .i64 x.h, txv x0]) (gQ n room (.int .i64 (addZ room (ms.map Em.en) x.h x0.t)) (addE room (ms.map Em.en) x.h x0.t)) rfl rfl rfl rfl (by repeat' (first | exact True.intro | exact rho_of rfl | refine And.intro ?_ ?_)) (fun W hk _ => (radd_spec (hD6.kp0 hk) (hx6.kp0 hk) (by omega) hr (by have := hk.size; omega)).mono (fun e W' hh => ?_)) (fun q => ?_)
    · obtain ⟨a', c', ws', he, hk', hD', hw'⟩ := hh
      rw [hw] at he hw'
      exact ⟨(a', c', ws'), he, ⟨hD', hw'⟩, hk'⟩
    repeat (refine DerX.val rfl rfl rfl rfl (by first|((first|apply qmv|apply qxt)<;>(exact rfl))|fail) ?_)
    refine DerX.allocV rfl rfl rfl rfl rfl (Nat.le_refl _) (fun b11 => ?_)
    refine DerX.storeW (l := pdc room q.1 q.2.2.length q.2.1) rfl rfl rfl rfl (by kernel_rfl) (by exact rho_of rfl) (by exact rho_of rfl) rfl (Nat.le_refl _) (fun W hk hF => ⟨hF _ (.head _) (by kernel_rfl), rfl⟩) ?_ ?_
    · intro p hp hne y w w' cs g0 g1 g2 g3 g4 g5
      simp only [List.mem_cons, List.not_mem_nil, or_false] at hp
      rcases hp with rfl | rfl | rfl
      · exact gQ_keep g1 (by omega) g3 g5
      · exact gV_keep rfl g3 g4 g5
      · exact absurd rfl hne
    refine DerX.tl (fun w7 hk7 hF => ?_)
    obtain ⟨lb11, hB11⟩ : w6.heap.size ≤ b11 ∧ Blk w7 b11 (.cells (pdc room q.1 q.2.2.length q.2.1).toArray 29) := hF _ (.head _)
    obtain ⟨hD7, hw7⟩ : PD w7 n q.1 q.2.1 q.2.2 ∧ q.2.2.map Wm.en = (addE room (ms.map Em.en) x.h x0.t) := hF _ (.tail _ (.tail _ (.head _)))
    obtain ⟨a7, c7, ws7⟩ := q
    simp only at hB11 hD7 hw7
    clear hF p0
    obtain ⟨p0, -, -⟩ := pdc_rows hB11
    have n11 := nl b11 lb11
    have r1 := r1.kp0 hk7
    have r10 := r10.kp0 hk7
    have hB7 := hB7.kp0 hk7
    have hP7 := hP6.kp0 hk7
    have s7 := hk7.size
    have hOS7 : Oth n w7 (b7 :: p :: ownB v) := Oth.cons (by omega) (Oth.cells hB7 (by decide)) hP7.oth
    clear hB11 r0
    repeat (first|apply cA|apply cD|apply cE|refine cV rfl rfl rfl rfl (by first|(apply qas<;>(exact rfl))|fail) ?_)
    refine CG.quiet mixed 11 [0, 1, 2, 3, 4, 5, 7, 9, 10, 6, 8] (b7 :: p :: ownB v) (qP 6 w7 n p v room ms (addE room (ms.map Em.en) x.h x0.t) a7 c7 ws7) (qB 10 b7 (pdc 0 none 0 0) (pdc room a7 ws7.length c7)) (by kernel_rfl) rfl rfl (q_ok rfl nb7 (by omega) (by omega)) ⟨hP7, hD7⟩ hB7 ?_
    repeat (refine DerQ.val rfl rfl rfl rfl (by first|((first|apply qmv|apply qas|apply qlc|apply qla|apply qfa)<;>(first|exact rfl|assumption|apply txc_length))|fail) ?_)
    refine DerQ.store2 rfl rfl rfl rfl (by exact rho_of rfl) (by exact rho_of rfl) rfl rfl rfl ?_
    refine DerQ.call1 (v := .int .i64 (addZ room (ms.map Em.en) x.h x0.t)) rfl rfl rfl rfl (vs := [.pointer (some ⟨p, 0, none⟩), .int .i64 x.h, txv x0]) (by repeat' (first | exact True.intro | exact rho_of rfl | refine And.intro ?_ ?_)) (fun W hk hh => (add_spec (h := x.h) hh.1 ((hx6.kp0 hk7).kpO hk hOS7) hI hr).mono (fun e W' h2 => ?_)) ?_
    · obtain ⟨he, v', ms', hP', hm', hk', hv'⟩ := h2
      have hs := hk.size
      exact ⟨he, hk', ⟨v', ms', hP', hm', fun g hg => (hv' g hg).imp id (fun h => by omega)⟩, hh.2.kp hk' hh.1.oth (hh.1.noT (by decide) (by decide))⟩
    have g8 : addZ room (ms.map Em.en) x.h x0.t = addZ room (ms.map Em.en) x.h x0.t := rfl
    repeat (refine DerQ.val rfl rfl rfl rfl (by first|(apply qei<;>(first|exact rfl|exact dct (by first|assumption|omega)|fail))|fail) ?_)
    refine DerQ.tl (fun w8 hk8 h1 h2 => ?_)
    obtain ⟨⟨v8, ms8, hP8, hm8, hv8⟩, hD8⟩ := h1
    have hr8 : Row w8 b7 0 (pdc room a7 ws7.length c7) := Row.all h2 rfl
    repeat (first|apply cD|apply cE|apply cH|apply cK|apply NG.ret_block|refine cV rfl rfl rfl rfl (by first|(apply qas<;>(exact rfl))|fail) ?_)
    refine ret3 (Or.inl rfl) Tryz.results17 (by first | exact ResV.tmp rfl | exact ResV.agg rfl rfl (by assumption) (by first | exact dc_length _ | exact nc_length _ | exact rc_length _ _ _ | exact ec_length _ | exact dl_length _ _ _ _ | rfl) | exact ResV.cell rfl rfl (by assumption)) (ResV.agg rfl rfl hr8 (pdc_length _ _ _ _)) (by first | exact ResV.tmp rfl | exact ResV.agg rfl rfl (by assumption) (by first | exact dc_length _ | exact nc_length _ | exact rc_length _ _ _ | exact ec_length _ | exact dl_length _ _ _ _ | rfl) | exact ResV.cell rfl rfl (by assumption)) ?_
    refine ⟨p, v8, ms8, a7, c7, ws7, rfl, hP8, hD8, by rw [hm8, hw7], by rw [hm8]; exact addE_inv hI, kf hk7 hk8, Or.inl rfl, fun g hg => (hv8 g hg).imp id (fun h => by omega)⟩
  repeat (first|apply cA|apply cB|apply cD|apply cE|apply cG|refine cV rfl rfl rfl rfl (by first|((first|apply qas|apply qlc|apply qfa|apply qei)<;>(first|exact rfl|assumption|exact dcf (by first|assumption|omega)|exact List.not_mem_nil|fail))|fail) ?_)
  refine dA rfl (by exact rho_of rfl) rfl ?_
  by_cases hk1 : x.kind = 1
  · repeat (first|apply cA|apply cB|apply cD|apply cE|refine cV rfl rfl rfl rfl (by first|((first|apply qas|apply qei)<;>(first|exact rfl|exact dct (by first|assumption|omega)|fail))|fail) ?_)
    refine cZ rfl (by exact rho_of rfl) rfl ?_
    repeat (first|apply cA)
    refine CG.free mixed 10 [0, 1, 2, 3, 4, 5, 6, 7, 8, 9] [(4, gQ n room (.bool (findE (ms.map Em.en) (nameT x0.t)).isSome) (dropN (ms.map Em.en) (nameT x0.t))), (8, gV w6.heap.size 29 2), (9, gP w6.heap.size 29)] (by kernel_rfl) (by intro p hp y; simp at hp; rcases hp with rfl | rfl | rfl; exact gQ_stab y; exact gV_stab y; exact gP_stab y) ?_
    repeat (refine DerX.val rfl rfl rfl rfl (by first|(apply qla<;>(first|exact rfl|assumption|exact List.not_mem_nil|apply txc_length))|fail) ?_)
    refine DerX.call rfl rfl rfl rfl (vs := [txv x0]) (by repeat' (first | exact True.intro | exact rho_of rfl | refine And.intro ?_ ?_)) (fun W hk _ => tof_spec x0) ?_
    refine DerX.call rfl rfl rfl rfl (vs := [txv x0]) (by repeat' (first | exact True.intro | exact rho_of rfl | refine And.intro ?_ ?_)) (fun W hk _ => rname_spec (hx6.kp0 hk)) ?_
    refine DerX.callE (vs := [.agg (pdc room a ws.length c).toArray, dv (nameT x0.t)]) (gQ n room (.bool (findE (ms.map Em.en) (nameT x0.t)).isSome) (dropN (ms.map Em.en) (nameT x0.t))) rfl rfl rfl rfl (by repeat' (first | exact True.intro | exact rho_of rfl | refine And.intro ?_ ?_)) (fun W hk _ => (rdrop_spec (hD6.kp0 hk) (by omega) (by have := hk.size; omega) (nameT x0.t)).mono (fun e W' hh => ?_)) (fun q => ?_)
    · obtain ⟨a', c', ws', he, hk', hD', hw'⟩ := hh
      rw [hw] at he hw'
      exact ⟨(a', c', ws'), he, ⟨hD', hw'⟩, hk'⟩
    repeat (refine DerX.val rfl rfl rfl rfl (by first|((first|apply qmv|apply qxt)<;>(exact rfl))|fail) ?_)
    refine DerX.allocV rfl rfl rfl rfl rfl (Nat.le_refl _) (fun b11 => ?_)
    refine DerX.storeW (l := pdc room q.1 q.2.2.length q.2.1) rfl rfl rfl rfl (by kernel_rfl) (by exact rho_of rfl) (by exact rho_of rfl) rfl (Nat.le_refl _) (fun W hk hF => ⟨hF _ (.head _) (by kernel_rfl), rfl⟩) ?_ ?_
    · intro p hp hne y w w' cs g0 g1 g2 g3 g4 g5
      simp only [List.mem_cons, List.not_mem_nil, or_false] at hp
      rcases hp with rfl | rfl | rfl
      · exact gQ_keep g1 (by omega) g3 g5
      · exact gV_keep rfl g3 g4 g5
      · exact absurd rfl hne
    refine DerX.tl (fun w7 hk7 hF => ?_)
    obtain ⟨lb11, hB11⟩ : w6.heap.size ≤ b11 ∧ Blk w7 b11 (.cells (pdc room q.1 q.2.2.length q.2.1).toArray 29) := hF _ (.head _)
    obtain ⟨hD7, hw7⟩ : PD w7 n q.1 q.2.1 q.2.2 ∧ q.2.2.map Wm.en = (dropN (ms.map Em.en) (nameT x0.t)) := hF _ (.tail _ (.tail _ (.head _)))
    obtain ⟨a7, c7, ws7⟩ := q
    simp only at hB11 hD7 hw7
    clear hF p0
    obtain ⟨p0, -, -⟩ := pdc_rows hB11
    have n11 := nl b11 lb11
    have r1 := r1.kp0 hk7
    have r10 := r10.kp0 hk7
    have hB7 := hB7.kp0 hk7
    have hP7 := hP6.kp0 hk7
    have s7 := hk7.size
    have hOS7 : Oth n w7 (b7 :: p :: ownB v) := Oth.cons (by omega) (Oth.cells hB7 (by decide)) hP7.oth
    clear hB11 r0
    repeat (first|apply cA|apply cD|apply cE|refine cV rfl rfl rfl rfl (by first|(apply qas<;>(exact rfl))|fail) ?_)
    refine CG.quiet mixed 10 [0, 1, 2, 3, 6, 8, 9, 4, 5, 7] (b7 :: p :: ownB v) (qP 5 w7 n p v room ms (dropN (ms.map Em.en) (nameT x0.t)) a7 c7 ws7) (qB 9 b7 (pdc 0 none 0 0) (pdc room a7 ws7.length c7)) (by kernel_rfl) rfl rfl (q_ok rfl nb7 (by omega) (by omega)) ⟨hP7, hD7⟩ hB7 ?_
    repeat (refine DerQ.val rfl rfl rfl rfl (by first|((first|apply qmv|apply qas|apply qla)<;>(first|exact rfl|assumption|apply txc_length))|fail) ?_)
    refine DerQ.store2 rfl rfl rfl rfl (by exact rho_of rfl) (by exact rho_of rfl) rfl rfl rfl ?_
    refine DerQ.call rfl rfl rfl rfl (vs := [txv x0]) (by repeat' (first | exact True.intro | exact rho_of rfl | refine And.intro ?_ ?_)) (fun W hk => name_spec ((hx6.kp0 hk7).kpO hk hOS7)) ?_
    refine DerQ.call1 (v := .bool (findE (ms.map Em.en) (nameT x0.t)).isSome) rfl rfl rfl rfl (vs := [.pointer (some ⟨p, 0, none⟩), dv (nameT x0.t)]) (by repeat' (first | exact True.intro | exact rho_of rfl | refine And.intro ?_ ?_)) (fun W hk hh => (drop1_spec hh.1 hI hr (nameT x0.t)).mono (fun e W' h2 => ?_)) ?_
    · obtain ⟨he, v', ms', hP', hm', hk', hv'⟩ := h2
      have hs := hk.size
      exact ⟨he, hk', ⟨v', ms', hP', hm', fun g hg => (hv' g hg).imp id (fun h => by omega)⟩, hh.2.kp hk' hh.1.oth (hh.1.noT (by decide) (by decide))⟩
    repeat (refine DerQ.val rfl rfl rfl rfl (by first|(apply qeb<;>(exact rfl))|fail) ?_)
    refine DerQ.tl (fun w8 hk8 h1 h2 => ?_)
    obtain ⟨⟨v8, ms8, hP8, hm8, hv8⟩, hD8⟩ := h1
    have hr8 : Row w8 b7 0 (pdc room a7 ws7.length c7) := Row.all h2 rfl
    rw [beq_self_eq_true]
    repeat (first|apply cD|apply cE|apply cH|apply cK|apply NG.ret_block|refine cV rfl rfl rfl rfl (by first|(apply qas<;>(exact rfl))|fail) ?_)
    refine ret3 (Or.inl rfl) Tryz.results17 (by first | exact ResV.tmp rfl | exact ResV.agg rfl rfl (by assumption) (by first | exact dc_length _ | exact nc_length _ | exact rc_length _ _ _ | exact ec_length _ | exact dl_length _ _ _ _ | rfl) | exact ResV.cell rfl rfl (by assumption)) (ResV.agg rfl rfl hr8 (pdc_length _ _ _ _)) (by first | exact ResV.tmp rfl | exact ResV.agg rfl rfl (by assumption) (by first | exact dc_length _ | exact nc_length _ | exact rc_length _ _ _ | exact ec_length _ | exact dl_length _ _ _ _ | rfl) | exact ResV.cell rfl rfl (by assumption)) ?_
    refine ⟨p, v8, ms8, a7, c7, ws7, rfl, hP8, hD8, by rw [hm8, hw7], by rw [hm8]; exact dropN_inv hI, kf hk7 hk8, Or.inl rfl, fun g hg => (hv8 g hg).imp id (fun h => by omega)⟩
  repeat (first|apply cA|apply cB|apply cD|apply cE|refine cV rfl rfl rfl rfl (by first|((first|apply qas|apply qei)<;>(first|exact rfl|exact dcf (by first|assumption|omega)|fail))|fail) ?_)
  refine dA rfl (by exact rho_of rfl) rfl ?_
  by_cases hk2 : x.kind = 2
  · repeat (first|apply cA|apply cB|apply cD|apply cE|refine cV rfl rfl rfl rfl (by first|((first|apply qas|apply qei)<;>(first|exact rfl|exact dct (by first|assumption|omega)|fail))|fail) ?_)
    refine cZ rfl (by exact rho_of rfl) rfl ?_
    repeat (first|apply cA)
    refine CG.free mixed 9 [0, 1, 2, 3, 4, 5, 6, 7, 8] [(2, gOP w6.heap.size 36 txc 13 (ys.map cutM) (fun v => v)), (3, gQ n room (.int .i64 ((ms.length : Int) - ((doneL (ms.map Em.en) (ys.map (·.t))).length : Int))) (doneL (ms.map Em.en) (ys.map (·.t)))), (7, gV w6.heap.size 29 2), (8, gP w6.heap.size 29)] (by kernel_rfl) (by intro p hp y; simp at hp; rcases hp with rfl | rfl | rfl | rfl; exact gOP_stab y; exact gQ_stab y; exact gV_stab y; exact gP_stab y) ?_
    repeat (refine DerX.val rfl rfl rfl rfl (by first|((first|apply qmv|apply qla)<;>(first|exact rfl|assumption|exact List.not_mem_nil))|fail) ?_)
    refine DerX.callE (vs := [.slice a9 ys.length c9, .int .i64 4]) (gOP w6.heap.size 36 txc 13 (ys.map cutM) (fun v => v)) rfl rfl rfl rfl (by repeat' (first | exact True.intro | exact rho_of rfl | refine And.intro ?_ ?_)) (fun W hk _ => (of_law (c := c9) (hY.sl.kp0 hk) (fun y hy => ((hY.ins y hy).kp0 hk).rd) hyl).mono (fun e W' hh => ?_)) (fun qo => ?_)
    · obtain ⟨v', he, ho, hk'⟩ := hh
      obtain ⟨a', c', rfl, -, -⟩ := Sl.own txc_length ho rfl
      exact ⟨(a', c'), he, own_mono ho hk.size, hk'⟩
    refine DerX.callE (vs := [.agg (pdc room a ws.length c).toArray, .slice qo.1 (ys.map cutM).length qo.2]) (gQ n room (.int .i64 ((ms.length : Int) - ((doneL (ms.map Em.en) (ys.map (·.t))).length : Int))) (doneL (ms.map Em.en) (ys.map (·.t)))) rfl rfl rfl rfl (by repeat' (first | exact True.intro | exact rho_of rfl | refine And.intro ?_ ?_)) (fun W hk hF => ?_) (fun q => ?_)
    · have ho : W.ownsRow w6.heap.size 36 13 (.slice qo.1 (ys.map cutM).length qo.2) (ys.map cutM).length (flt txc (ys.map cutM)) := hF _ (.head _) (by kernel_rfl)
      obtain ⟨a', c', e', -, hS⟩ := Sl.own txc_length ho rfl
      cases e'
      refine (rdone_spec (ct := qo.2) (hD6.kp0 hk) (by omega) hS (by rw [List.length_map]; omega) (by have := hk.size; omega)).mono (fun e W' hh => ?_)
      obtain ⟨a', c', ws', he, hk', hD', hw'⟩ := hh
      rw [hw, zs_t hyc] at hw'
      have hl' := congrArg List.length hw'
      rw [List.length_map] at hl'
      have hz : (ws.length : Int) - (ws'.length : Int) = (ms.length : Int) - ((doneL (ms.map Em.en) (ys.map (·.t))).length : Int) := by rw [hwl, hl']
      rw [hz] at he
      exact ⟨(a', c', ws'), he, ⟨hD', hw'⟩, hk'⟩
    repeat (refine DerX.val rfl rfl rfl rfl (by first|((first|apply qmv|apply qxt)<;>(exact rfl))|fail) ?_)
    refine DerX.allocV rfl rfl rfl rfl rfl (Nat.le_refl _) (fun b11 => ?_)
    refine DerX.storeW (l := pdc room q.1 q.2.2.length q.2.1) rfl rfl rfl rfl (by kernel_rfl) (by exact rho_of rfl) (by exact rho_of rfl) rfl (Nat.le_refl _) (fun W hk hF => ⟨hF _ (.head _) (by kernel_rfl), rfl⟩) ?_ ?_
    · intro p hp hne y w w' cs g0 g1 g2 g3 g4 g5
      simp only [List.mem_cons, List.not_mem_nil, or_false] at hp
      rcases hp with rfl | rfl | rfl | rfl
      · exact own_kp g5 g3 (own_neb g5 (by decide) g1)
      · exact gQ_keep g1 (by omega) g3 g5
      · exact gV_keep rfl g3 g4 g5
      · exact absurd rfl hne
    refine DerX.tl (fun w7 hk7 hF => ?_)
    obtain ⟨lb11, hB11⟩ : w6.heap.size ≤ b11 ∧ Blk w7 b11 (.cells (pdc room q.1 q.2.2.length q.2.1).toArray 29) := hF _ (.head _)
    obtain ⟨hD7, hw7⟩ : PD w7 n q.1 q.2.1 q.2.2 ∧ q.2.2.map Wm.en = (doneL (ms.map Em.en) (ys.map (·.t))) := hF _ (.tail _ (.tail _ (.head _)))
    obtain ⟨a7, c7, ws7⟩ := q
    simp only at hB11 hD7 hw7
    clear hF p0
    obtain ⟨p0, -, -⟩ := pdc_rows hB11
    have n11 := nl b11 lb11
    have r1 := r1.kp0 hk7
    have r10 := r10.kp0 hk7
    have hB7 := hB7.kp0 hk7
    have hP7 := hP6.kp0 hk7
    have s7 := hk7.size
    have hOS7 : Oth n w7 (b7 :: p :: ownB v) := Oth.cons (by omega) (Oth.cells hB7 (by decide)) hP7.oth
    have hNS7 : NoT 40 n w7 (b7 :: p :: ownB v) := NoT.cons (by omega) (NoT.cells hB7 (by decide)) (hP7.noT (by decide) (by decide))
    clear hB11 r0
    repeat (first|apply cA|apply cD|apply cE|refine cV rfl rfl rfl rfl (by first|(apply qas<;>(exact rfl))|fail) ?_)
    refine CG.quiet mixed 9 [0, 1, 2, 3, 5, 7, 8, 4, 6] (b7 :: p :: ownB v) (qP 4 w7 n p v room ms (doneL (ms.map Em.en) (ys.map (·.t))) a7 c7 ws7) (qB 8 b7 (pdc 0 none 0 0) (pdc room a7 ws7.length c7)) (by kernel_rfl) rfl rfl (q_ok rfl nb7 (by omega) (by omega)) ⟨hP7, hD7⟩ hB7 ?_
    repeat (refine DerQ.val rfl rfl rfl rfl (by first|((first|apply qmv|apply qas|apply qla)<;>(first|exact rfl|assumption))|fail) ?_)
    refine DerQ.store2 rfl rfl rfl rfl (by exact rho_of rfl) (by exact rho_of rfl) rfl rfl rfl ?_
    refine DerQ.call1 (v := .int .i64 ((ms.length : Int) - ((doneL (ms.map Em.en) (ys.map (·.t))).length : Int))) rfl rfl rfl rfl (vs := [.pointer (some ⟨p, 0, none⟩), .slice a9 ys.length c9]) (by repeat' (first | exact True.intro | exact rho_of rfl | refine And.intro ?_ ?_)) (fun W hk hh => (done_spec (c := c9) hh.1 hI hr ((hY.kp0 hk7).kp hk hOS7 hNS7).sl (by omega)).mono (fun e W' h2 => ?_)) ?_
    · obtain ⟨he, v', ms', hP', hm', hk', hv'⟩ := h2
      exact ⟨he, hk', ⟨v', ms', hP', hm', fun g hg => Or.inl (hv' g hg)⟩, hh.2.kp hk' hh.1.oth (hh.1.noT (by decide) (by decide))⟩
    have g8 : (ms.length : Int) - ((doneL (ms.map Em.en) (ys.map (·.t))).length : Int) = (ms.length : Int) - ((doneL (ms.map Em.en) (ys.map (·.t))).length : Int) := rfl
    repeat (refine DerQ.val rfl rfl rfl rfl (by first|(apply qei<;>(first|exact rfl|exact dct (by first|assumption|omega)|fail))|fail) ?_)
    refine DerQ.tl (fun w8 hk8 h1 h2 => ?_)
    obtain ⟨⟨v8, ms8, hP8, hm8, hv8⟩, hD8⟩ := h1
    have hr8 : Row w8 b7 0 (pdc room a7 ws7.length c7) := Row.all h2 rfl
    repeat (first|apply cD|apply cE|apply cH|apply cK|apply NG.ret_block|refine cV rfl rfl rfl rfl (by first|(apply qas<;>(exact rfl))|fail) ?_)
    refine ret3 (Or.inl rfl) Tryz.results17 (by first | exact ResV.tmp rfl | exact ResV.agg rfl rfl (by assumption) (by first | exact dc_length _ | exact nc_length _ | exact rc_length _ _ _ | exact ec_length _ | exact dl_length _ _ _ _ | rfl) | exact ResV.cell rfl rfl (by assumption)) (ResV.agg rfl rfl hr8 (pdc_length _ _ _ _)) (by first | exact ResV.tmp rfl | exact ResV.agg rfl rfl (by assumption) (by first | exact dc_length _ | exact nc_length _ | exact rc_length _ _ _ | exact ec_length _ | exact dl_length _ _ _ _ | rfl) | exact ResV.cell rfl rfl (by assumption)) ?_
    refine ⟨p, v8, ms8, a7, c7, ws7, rfl, hP8, hD8, by rw [hm8, hw7], by rw [hm8]; exact doneL_inv hI, kf hk7 hk8, Or.inl rfl, fun g hg => (hv8 g hg).imp id (fun h => by omega)⟩
  repeat (first|apply cA|apply cB|apply cD|apply cE|refine cV rfl rfl rfl rfl (by first|((first|apply qas|apply qei)<;>(first|exact rfl|exact dcf (by first|assumption|omega)|fail))|fail) ?_)
  refine dA rfl (by exact rho_of rfl) rfl ?_
  by_cases hk3 : x.kind = 3
  · repeat (first|apply cA|apply cB|apply cD|apply cE|refine cV rfl rfl rfl rfl (by first|((first|apply qas|apply qei)<;>(first|exact rfl|exact dct (by first|assumption|omega)|fail))|fail) ?_)
    refine cZ rfl (by exact rho_of rfl) rfl ?_
    repeat (first|apply cA)
    refine CG.free mixed 11 [0, 1, 2, 3, 4, 5, 6, 7, 8, 9, 10] [(4, gOP w6.heap.size 36 txc 13 (ys.map cutM) (fun v => v)), (5, gQ n room (.int .i64 (backL room (ms.map Em.en) x.h (ys.map (·.t))).2) (backL room (ms.map Em.en) x.h (ys.map (·.t))).1), (9, gV w6.heap.size 29 2), (10, gP w6.heap.size 29)] (by kernel_rfl) (by intro p hp y; simp at hp; rcases hp with rfl | rfl | rfl | rfl; exact gOP_stab y; exact gQ_stab y; exact gV_stab y; exact gP_stab y) ?_
    repeat (refine DerX.val rfl rfl rfl rfl (by first|((first|apply qmv|apply qlc|apply qla|apply qfa)<;>(first|exact rfl|assumption|exact List.not_mem_nil))|fail) ?_)
    refine DerX.callE (vs := [.slice a9 ys.length c9, .int .i64 4]) (gOP w6.heap.size 36 txc 13 (ys.map cutM) (fun v => v)) rfl rfl rfl rfl (by repeat' (first | exact True.intro | exact rho_of rfl | refine And.intro ?_ ?_)) (fun W hk _ => (of_law (c := c9) (hY.sl.kp0 hk) (fun y hy => ((hY.ins y hy).kp0 hk).rd) hyl).mono (fun e W' hh => ?_)) (fun qo => ?_)
    · obtain ⟨v', he, ho, hk'⟩ := hh
      obtain ⟨a', c', rfl, -, -⟩ := Sl.own txc_length ho rfl
      exact ⟨(a', c'), he, own_mono ho hk.size, hk'⟩
    refine DerX.callE (vs := [.agg (pdc room a ws.length c).toArray, .int .i64 x.h, .slice qo.1 (ys.map cutM).length qo.2]) (gQ n room (.int .i64 (backL room (ms.map Em.en) x.h (ys.map (·.t))).2) (backL room (ms.map Em.en) x.h (ys.map (·.t))).1) rfl rfl rfl rfl (by repeat' (first | exact True.intro | exact rho_of rfl | refine And.intro ?_ ?_)) (fun W hk hF => ?_) (fun q => ?_)
    · have ho : W.ownsRow w6.heap.size 36 13 (.slice qo.1 (ys.map cutM).length qo.2) (ys.map cutM).length (flt txc (ys.map cutM)) := hF _ (.head _) (by kernel_rfl)
      obtain ⟨a', c', e', -, hS⟩ := Sl.own txc_length ho rfl
      cases e'
      refine (rback_spec (ct := qo.2) (hD6.kp0 hk) (by rw [hw]; exact hI) hr hS (fun y hy => ?_) (by rw [List.length_map]; omega) (by have := hk.size; omega)).mono (fun e W' hh => ?_)
      · obtain ⟨z, hz, rfl⟩ := List.mem_map.1 hy
        exact cutM_in ((hY.ins z hz).kp0 hk).rd
      obtain ⟨a', c', ws', he, hk', hD', hw'⟩ := hh
      rw [hw, zs_t hyc] at he hw'
      exact ⟨(a', c', ws'), he, ⟨hD', hw'⟩, hk'⟩
    repeat (refine DerX.val rfl rfl rfl rfl (by first|((first|apply qmv|apply qxt)<;>(exact rfl))|fail) ?_)
    refine DerX.allocV rfl rfl rfl rfl rfl (Nat.le_refl _) (fun b11 => ?_)
    refine DerX.storeW (l := pdc room q.1 q.2.2.length q.2.1) rfl rfl rfl rfl (by kernel_rfl) (by exact rho_of rfl) (by exact rho_of rfl) rfl (Nat.le_refl _) (fun W hk hF => ⟨hF _ (.head _) (by kernel_rfl), rfl⟩) ?_ ?_
    · intro p hp hne y w w' cs g0 g1 g2 g3 g4 g5
      simp only [List.mem_cons, List.not_mem_nil, or_false] at hp
      rcases hp with rfl | rfl | rfl | rfl
      · exact own_kp g5 g3 (own_neb g5 (by decide) g1)
      · exact gQ_keep g1 (by omega) g3 g5
      · exact gV_keep rfl g3 g4 g5
      · exact absurd rfl hne
    refine DerX.tl (fun w7 hk7 hF => ?_)
    obtain ⟨lb11, hB11⟩ : w6.heap.size ≤ b11 ∧ Blk w7 b11 (.cells (pdc room q.1 q.2.2.length q.2.1).toArray 29) := hF _ (.head _)
    obtain ⟨hD7, hw7⟩ : PD w7 n q.1 q.2.1 q.2.2 ∧ q.2.2.map Wm.en = (backL room (ms.map Em.en) x.h (ys.map (·.t))).1 := hF _ (.tail _ (.tail _ (.head _)))
    obtain ⟨a7, c7, ws7⟩ := q
    simp only at hB11 hD7 hw7
    clear hF p0
    obtain ⟨p0, -, -⟩ := pdc_rows hB11
    have n11 := nl b11 lb11
    have r1 := r1.kp0 hk7
    have r10 := r10.kp0 hk7
    have hB7 := hB7.kp0 hk7
    have hP7 := hP6.kp0 hk7
    have s7 := hk7.size
    have hOS7 : Oth n w7 (b7 :: p :: ownB v) := Oth.cons (by omega) (Oth.cells hB7 (by decide)) hP7.oth
    have hNS7 : NoT 40 n w7 (b7 :: p :: ownB v) := NoT.cons (by omega) (NoT.cells hB7 (by decide)) (hP7.noT (by decide) (by decide))
    clear hB11 r0
    repeat (first|apply cA|apply cD|apply cE|refine cV rfl rfl rfl rfl (by first|(apply qas<;>(exact rfl))|fail) ?_)
    refine CG.quiet mixed 11 [0, 1, 2, 3, 4, 5, 7, 9, 10, 6, 8] (b7 :: p :: ownB v) (qP 6 w7 n p v room ms (backL room (ms.map Em.en) x.h (ys.map (·.t))).1 a7 c7 ws7) (qB 10 b7 (pdc 0 none 0 0) (pdc room a7 ws7.length c7)) (by kernel_rfl) rfl rfl (q_ok rfl nb7 (by omega) (by omega)) ⟨hP7, hD7⟩ hB7 ?_
    repeat (refine DerQ.val rfl rfl rfl rfl (by first|((first|apply qmv|apply qas|apply qlc|apply qla|apply qfa)<;>(first|exact rfl|assumption))|fail) ?_)
    refine DerQ.store2 rfl rfl rfl rfl (by exact rho_of rfl) (by exact rho_of rfl) rfl rfl rfl ?_
    refine DerQ.call1 (v := .int .i64 (backL room (ms.map Em.en) x.h (ys.map (·.t))).2) rfl rfl rfl rfl (vs := [.pointer (some ⟨p, 0, none⟩), .int .i64 x.h, .slice a9 ys.length c9]) (by repeat' (first | exact True.intro | exact rho_of rfl | refine And.intro ?_ ?_)) (fun W hk hh => (back_spec (h := x.h) (c := c9) hh.1 hI hr ((hY.kp0 hk7).kp hk hOS7 hNS7) (by omega)).mono (fun e W' h2 => ?_)) ?_
    · obtain ⟨he, v', ms', hP', hm', hk', hv'⟩ := h2
      have hs := hk.size
      exact ⟨he, hk', ⟨v', ms', hP', hm', fun g hg => (hv' g hg).imp id (fun h => by omega)⟩, hh.2.kp hk' hh.1.oth (hh.1.noT (by decide) (by decide))⟩
    have g8 : (backL room (ms.map Em.en) x.h (ys.map (·.t))).2 = (backL room (ms.map Em.en) x.h (ys.map (·.t))).2 := rfl
    repeat (refine DerQ.val rfl rfl rfl rfl (by first|(apply qei<;>(first|exact rfl|exact dct (by first|assumption|omega)|fail))|fail) ?_)
    refine DerQ.tl (fun w8 hk8 h1 h2 => ?_)
    obtain ⟨⟨v8, ms8, hP8, hm8, hv8⟩, hD8⟩ := h1
    have hr8 : Row w8 b7 0 (pdc room a7 ws7.length c7) := Row.all h2 rfl
    repeat (first|apply cD|apply cE|apply cH|apply cK|apply NG.ret_block|refine cV rfl rfl rfl rfl (by first|(apply qas<;>(exact rfl))|fail) ?_)
    refine ret3 (Or.inl rfl) Tryz.results17 (by first | exact ResV.tmp rfl | exact ResV.agg rfl rfl (by assumption) (by first | exact dc_length _ | exact nc_length _ | exact rc_length _ _ _ | exact ec_length _ | exact dl_length _ _ _ _ | rfl) | exact ResV.cell rfl rfl (by assumption)) (ResV.agg rfl rfl hr8 (pdc_length _ _ _ _)) (by first | exact ResV.tmp rfl | exact ResV.agg rfl rfl (by assumption) (by first | exact dc_length _ | exact nc_length _ | exact rc_length _ _ _ | exact ec_length _ | exact dl_length _ _ _ _ | rfl) | exact ResV.cell rfl rfl (by assumption)) ?_
    refine ⟨p, v8, ms8, a7, c7, ws7, rfl, hP8, hD8, by rw [hm8, hw7], by rw [hm8]; exact backL_inv hI, kf hk7 hk8, Or.inl rfl, fun g hg => (hv8 g hg).imp id (fun h => by omega)⟩
  repeat (first|apply cA|apply cB|apply cD|apply cE|refine cV rfl rfl rfl rfl (by first|((first|apply qas|apply qei)<;>(first|exact rfl|exact dcf (by first|assumption|omega)|fail))|fail) ?_)
  refine dA rfl (by exact rho_of rfl) rfl ?_
  by_cases hk4 : x.kind = 4
  · repeat (first|apply cA|apply cB|apply cD|apply cE|refine cV rfl rfl rfl rfl (by first|((first|apply qas|apply qei)<;>(first|exact rfl|exact dct (by first|assumption|omega)|fail))|fail) ?_)
    refine cZ rfl (by exact rho_of rfl) rfl ?_
    repeat (first|apply cA|apply cB|refine cV rfl rfl rfl rfl (by first|(apply qmv<;>(exact rfl))|fail) ?_)
    refine SG.call rfl rfl rfl (vs := [.pointer (some ⟨p, 0, none⟩)]) (by repeat' (first | exact True.intro | exact rho_of rfl | refine And.intro ?_ ?_)) ((clone_spec hP6 hI hr).mono (fun e w7 hh => ?_))
    obtain ⟨p', v', ms', he, hp', hk7, hQ, hm'⟩ := hh
    refine ⟨_, he, ?_⟩
    clear he
    have hQn := hQ n (by omega)
    have hQ6 := hQ w6.heap.size (Nat.le_refl _)
    have hge : ∀ g, v'.ownBlock = some g → w6.heap.size ≤ g := own_geB hQ6.own
    clear hQ hQ6
    have hP7 := hP6.kp0 hk7
    have hml : ms'.length = ms.length := by have := congrArg List.length hm'; rwa [List.length_map, List.length_map] at this
    repeat (first|apply cA|apply cB|apply cD|apply cE|refine cV rfl rfl rfl rfl (by first|((first|apply qep|apply qmv|apply qas|apply qep)<;>(exact rfl))|fail) ?_)
    have e1 := same_spec hQn hP7 (by omega)
    rw [hm', decide_eq_true rfl, ensEq_t rfl] at e1
    refine SG.ret rfl rfl rfl (vs := [.pointer (some ⟨p', 0, none⟩), .pointer (some ⟨p, 0, none⟩)]) (by repeat' (first | exact True.intro | exact rho_of rfl | refine And.intro ?_ ?_)) e1 (fun w8 hk8 => ?_)
    have e2 := same_spec (hP7.kp0 hk8) (hQn.kp0 hk8) (by omega)
    rw [hm', decide_eq_true rfl, ensEq_t rfl] at e2
    repeat (first|refine cV rfl rfl rfl rfl (by first|((first|apply qmv|apply qpk|apply qnt)<;>(exact rfl))|fail) ?_)
    refine SG.ret rfl rfl rfl (vs := [.pointer (some ⟨p, 0, none⟩), .pointer (some ⟨p', 0, none⟩)]) (by repeat' (first | exact True.intro | exact rho_of rfl | refine And.intro ?_ ?_)) e2 (fun w9 hk9 => ?_)
    have k79 := hk8.trans hk9
    have k69 := hk7.trans k79
    have hP9 := hP7.kp0 k79
    have hQ9 := hQn.kp0 k79
    have hY9 := hY.kp0 k69
    repeat (first|apply cD|apply cE|refine cV rfl rfl rfl rfl (by first|((first|apply qpk|apply qnt)<;>(exact rfl))|fail) ?_)
    refine dA rfl (by exact rho_of rfl) rfl ?_
    repeat (first|apply cA|apply cB|apply cE|apply cF|refine cV rfl rfl rfl rfl (by first|(apply qmv<;>(exact rfl))|fail) ?_)
    refine SG.call rfl rfl rfl (vs := [.pointer (some ⟨p, 0, none⟩), .slice a9 ys.length c9]) (by repeat' (first | exact True.intro | exact rho_of rfl | refine And.intro ?_ ?_)) ((done_spec (c := c9) hP9 hI hr hY9.sl (by omega)).mono (fun e w10 hh => ?_))
    obtain ⟨he, v10, ms10, hP10, hm10, hk10, hv10⟩ := hh
    refine ⟨_, he, ?_⟩
    clear he
    have s7 := hk7.size
    have nq : ∀ z, w6.heap.size ≤ z → z ∉ p :: ownB v := fun z hz hm => nl z hz (List.mem_cons_of_mem _ hm)
    have sub : ∀ z ∈ p :: ownB v10, z ∈ p :: ownB v := fun z hz => by
      rcases List.mem_cons.1 hz with e | hz
      · rw [e]; exact List.mem_cons_self
      · exact List.mem_cons_of_mem _ (ownB_of (hv10 z (ownB_mem hz)))
    have hQ10 := hQ9.kp hk10 (nq p' hp') (fun g hg => nq g (hge g hg)) hP9.oth
    have r1 := (r1.kp0 k69).kp hk10 (fun hm => n5 (List.mem_cons_of_mem _ hm))
    have r10 := (r10.kp0 k69).kp hk10 (fun hm => n10 (List.mem_cons_of_mem _ hm))
    have hx10 := (hx6.kp0 k69).kpO hk10 hP9.oth
    have hD10 := (hD6.kp0 k69).kp hk10 hP9.oth (hP9.noT (by decide) (by decide))
    have hB710 := (hB7.kp0 k69).kp hk10 nb7
    have p0 := (p0.kp0 k69).kp hk10 (fun hm => nS b4 (by omega) (by omega) (List.mem_cons_of_mem _ hm))
    have hI10 : PInv room (ms10.map Em.en) := by rw [hm10]; exact doneL_inv hI
    repeat (first|apply cA|apply cB|apply cD|apply cE|refine cV rfl rfl rfl rfl (by first|((first|apply qmv|apply qlc|apply qla|apply qfa)<;>(first|exact rfl|assumption|exact List.not_mem_nil|apply txc_length))|fail) ?_)
    refine SG.call rfl rfl rfl (vs := [.pointer (some ⟨p, 0, none⟩), .int .i64 x.h, txv x0]) (by repeat' (first | exact True.intro | exact rho_of rfl | refine And.intro ?_ ?_)) ((add_spec (h := x.h) hP10 hx10 hI10 hr).mono (fun e w11 hh => ?_))
    obtain ⟨he, v11, ms11, hP11, hm11, hk11, hv11⟩ := hh
    refine ⟨_, he, ?_⟩
    clear he
    have hk11' := hk11.mono sub
    have hQ11 := hQ10.kp hk11 (fun hm => nq p' hp' (sub _ hm)) (fun g hg hm => nq g (hge g hg) (sub _ hm)) hP10.oth
    have hD11 := hD10.kp hk11 hP10.oth (hP10.noT (by decide) (by decide))
    have hB711 := hB710.kp hk11' nb7
    have p0 := p0.kp hk11' (fun hm => nS b4 (by omega) (by omega) (List.mem_cons_of_mem _ hm))
    have k611 : Kp (p :: ownB v) w6 w11 := (k69.any.trans hk10).trans hk11'
    have s611 := k611.size
    repeat (first|apply cA|apply cD|apply cE)
    refine CG.tail mixed 3 [0, 1, 2] (by kernel_rfl) ?_
    repeat (refine cY rfl rfl rfl (by first|((first|apply qmv|apply qas|apply qla)<;>(first|exact rfl|assumption|exact List.not_mem_nil))|fail) ?_)
    refine Der.tl (fun w12 hk12 _ _ => ?_)
    refine SG.setAll (l := pdc room a ws.length c) rfl rfl (by exact rho_of rfl) (by exact rho_of rfl) (hB711.kp0 hk12) rfl rfl rfl (fun w13 hk13 hB713 => ?_)
    have hr13 : Row w13 b7 0 (pdc room a ws.length c) := Row.all hB713 rfl
    have hB712 := hB711.kp0 hk12
    repeat (first|apply cD|apply cE|apply cH|apply cK|apply NG.ret_block|refine cV rfl rfl rfl rfl (by first|(apply qas<;>(exact rfl))|fail) ?_)
    refine ret3 (Or.inl rfl) Tryz.results17 (by first | exact ResV.tmp rfl | exact ResV.agg rfl rfl (by assumption) (by first | exact dc_length _ | exact nc_length _ | exact rc_length _ _ _ | exact ec_length _ | exact dl_length _ _ _ _ | rfl) | exact ResV.cell rfl rfl (by assumption)) (ResV.agg rfl rfl hr13 (pdc_length _ _ _ _)) (by first | exact ResV.tmp rfl | exact ResV.agg rfl rfl (by assumption) (by first | exact dc_length _ | exact nc_length _ | exact rc_length _ _ _ | exact ec_length _ | exact dl_length _ _ _ _ | rfl) | exact ResV.cell rfl rfl (by assumption)) ?_
    refine ⟨p', v', ms', a, c, ws, rfl, (hQ11.kp0 hk12).kp hk13 (nm1 (by omega)) (fun g hg => nm1 (by have := hge g hg; omega)) (Oth.cons (by omega) (Oth.cells hB712 (by decide)) Oth.nil), (hD11.kp0 hk12).kpb hk13 hB712 (by decide) (by decide) (by omega), by rw [hm', hw], by rw [hm']; exact hI, ?_, Or.inr (by omega), fun g hg => Or.inr (by have := hge g hg; omega)⟩
    exact ((k6.any.trans k611).trans hk12.any).trans_new hk13 (new1 (by omega))
  repeat (first|apply cA|apply cB|apply cD|apply cE|refine cV rfl rfl rfl rfl (by first|((first|apply qas|apply qei)<;>(first|exact rfl|exact dcf (by first|assumption|omega)|fail))|fail) ?_)
  refine dA rfl (by exact rho_of rfl) rfl ?_
  repeat (first|apply cA|apply cE|apply cF|apply cU)
  refine CG.tail mixed 3 [0, 1, 2] (by kernel_rfl) ?_
  repeat (refine cY rfl rfl rfl (by first|((first|apply qmv|apply qas|apply qla)<;>(first|exact rfl|assumption|exact List.not_mem_nil))|fail) ?_)
  refine Der.tl (fun w7 hk7 _ _ => ?_)
  refine SG.setAll (l := pdc room a ws.length c) rfl rfl (by exact rho_of rfl) (by exact rho_of rfl) (hB7.kp0 hk7) rfl rfl rfl (fun w8 hk8 hB78 => ?_)
  have hr8 : Row w8 b7 0 (pdc room a ws.length c) := Row.all hB78 rfl
  have hB77 := hB7.kp0 hk7
  repeat (first|apply cD|apply cE|apply cH|refine cV rfl rfl rfl rfl (by first|(apply qas<;>(exact rfl))|fail) ?_)
  refine ret3 (Or.inl rfl) Tryz.results17 (by first | exact ResV.tmp rfl | exact ResV.agg rfl rfl (by assumption) (by first | exact dc_length _ | exact nc_length _ | exact rc_length _ _ _ | exact ec_length _ | exact dl_length _ _ _ _ | rfl) | exact ResV.cell rfl rfl (by assumption)) (ResV.agg rfl rfl hr8 (pdc_length _ _ _ _)) (by first | exact ResV.tmp rfl | exact ResV.agg rfl rfl (by assumption) (by first | exact dc_length _ | exact nc_length _ | exact rc_length _ _ _ | exact ec_length _ | exact dl_length _ _ _ _ | rfl) | exact ResV.cell rfl rfl (by assumption)) ?_
  exact ⟨p, v, ms, a, c, ws, rfl, (hP6.kp0 hk7).kp hk8 (nm1 (by omega)) (fun g hg => nm1 (by have := hvp g hg; omega)) (Oth.cons (by omega) (Oth.cells hB77 (by decide)) Oth.nil), (hD6.kp0 hk7).kpb hk8 hB77 (by decide) (by decide) (by omega), hw, hI, ((k6.trans hk7).any).trans_new hk8 (new1 (by omega)), Or.inl rfl, fun g hg => Or.inl hg⟩
end Go.Proofs.YtgbgnlboogalgaaGreat
namespace Go.Proofs.YtgbgnlboogalgaaGreat
open Go.Proofs
set_option linter.unusedVariables false
section
variable {P : Program} {L : Env} {ty : TypeId} {pos : String} {af : Array Edge} {g : Option (Nat × Bool)} {S : List Nat} {w0 : World} {ops : List Oper} {gh : List Nat} {K : Env → (World → Prop) → (World → Prop) → Prop} {i : Nat} {ord : List Nat} {F R : World → Prop}
/-- the whole block written over, beside what stays -/
theorem Der.storeKeep {T T' : TypeId} {inf : TypeInfo} [f : Inf P T inf] {a x : Operand} {b : Nat} {old l : List Value} (R2 : World → Prop)
    (ho : ops[i]? = some ⟨none, .store T a x, ty, pos, af, g⟩) (hw : want ops L ⟨none, .store T a x, ty, pos, af, g⟩ = some true) (hg : gh.elem i = true) (hk : (known L a && known L x) = true) (ha : rho L a = .pointer (some ⟨b, 0, none⟩)) (hx : rho L x = .agg l.toArray)
    (hn : l.length = inf.size) (hold : old.length = inf.size) (hone : allOne l = true) (hb : b ∈ S) (hFs : Stab S F) (hs : Stab [] R2) (hk2 : ∀ w w', Blk w b (.cells old.toArray T') → Kp [b] w w' → R2 w → R2 w')
    (hd : Der P S w0 ops gh K ord L (fun w => F w ∧ True) (fun w => Blk w b (.cells l.toArray T') ∧ R2 w)) : Der P S w0 ops gh K (i :: ord) L F (fun w => Blk w b (.cells old.toArray T') ∧ R2 w) := by
  refine Der.storeR (fun w => Blk w b (.cells l.toArray T') ∧ R2 w) ho hw hg hk ha hx hFs (fun w w' hk h => ⟨h.1.kp0 hk, hs w w' hk h.2⟩) (fun w h => ?_) hd
  have hrun := run_storeAt (P := P) (f := f) (off := 0) (v := .agg l.toArray) h.1 (by simpa [Value.cells] using hn) (by simp [Value.cells]; omega) (by simpa [Value.cells] using hone)
  have hsp : (spl old 0 (Value.agg l.toArray).cells.toList) = l := by
    simp only [Value.cells]
    exact spl_all (by omega)
  rw [List.toList_toArray, hsp] at hrun
  have hk' := Kp.set w (o' := .cells l.toArray T') h.1 rfl rfl
  exact ⟨_, hrun, ⟨h.1.set _, hk2 w _ h.1 hk' h.2⟩, hk'.mono (by intro z hz; simp at hz; subst hz; exact hb)⟩
end
/-- What an act leaves, as facts. -/
def StepF (w0 : World) (n p : Nat) (v : Value) (room : Int) (q : Nat × Value × List Em × Option Addr × Nat × List Wm) (W : World) : Prop := Pl W n q.1 q.2.1 room q.2.2.1 ∧ PD W n q.2.2.2.1 q.2.2.2.2.1 q.2.2.2.2.2 ∧ q.2.2.2.2.2.map Wm.en = q.2.2.1.map Em.en ∧ PInv room (q.2.2.1.map Em.en) ∧ (q.1 = p ∨ w0.heap.size ≤ q.1) ∧ ∀ g, q.2.1.ownBlock = some g → v.ownBlock = some g ∨ w0.heap.size ≤ g
theorem Pl.kpb {w w' : World} {n p b : Nat} {v : Value} {room : Int} {ms : List Em} {cs : Array Value} (h : Pl w n p v room ms) (hB : Blk w b (.cells cs 29)) (hk : Kp [b] w w') (hn : n ≤ b) : Pl w' n p v room ms :=
  h.kp hk (fun hm => by
    rw [List.mem_singleton] at hm
    subst hm
    have := h.blk.uniq hB
    simp only [Obj.cells.injEq] at this
    exact absurd this.2.1 (by decide)) (own_neb h.own (by decide) hB) (Oth.cons hn (Oth.cells hB (by decide)) Oth.nil)
theorem StepF.kp0 {w0 : World} {n p : Nat} {v : Value} {room : Int} {q : Nat × Value × List Em × Option Addr × Nat × List Wm} : Stab [] (StepF w0 n p v room q) := fun w w' hk ⟨h1, h2, h3⟩ => ⟨h1.kp0 hk, h2.kp0 hk, h3⟩
attribute [local irreducible] CG NG SG Vals Der Row Blk MapIs IterAt DerX DerR DerQ wrongT nameT
set_option maxHeartbeats 64000000 in
theorem plays_walk (w : World) (room : Int) (ao : Option Addr) (co : Nat) (os : List Am) (hS : Sl amc 3 w ao os) (hin : ∀ x ∈ os, TxsR w w.heap.size x.a x.xs) : Ret Tryz.prog 4 #[.int .i64 room, .slice ao os.length co] w (.bool true) := by
  refine enter2 Tryz.func4 rfl Tryz.ntmps4 rfl ?_
  by_cases hbad : room < 1 ∨ 1024 < room
  · have h22 : (2 : Int) = 2 := rfl
    have fin : ∀ {w1 : World}, Kp [] w w1 → ∀ w2, Kp [] w1 w2 → True := fun _ _ _ => trivial
    repeat (first|apply cA|apply cB|apply cD|apply cE|refine cV rfl rfl rfl rfl (by first|((first|apply qmv|apply qas)<;>(exact rfl))|fail) ?_)
    refine SG.call rfl rfl rfl (vs := [.int .i64 room]) (by repeat' (first | exact True.intro | exact rho_of rfl | refine And.intro ?_ ?_)) ((newno_spec hbad).mono (fun e w1 hh => ?_))
    obtain ⟨he, hk1⟩ := hh
    refine ⟨_, he, ?_⟩
    clear he
    by_cases g1 : room < 1
    · repeat (first | first|apply cA|apply cB|apply cD|apply cE|refine cV rfl rfl rfl rfl (by first|((first|apply qmv|apply qas|apply qpk|apply qls|apply qxt)<;>(first|exact rfl|exact dct (by first|assumption|omega)|fail))|fail) ?_ | refine cX rfl rfl ?_)
      refine cZ rfl (by exact rho_of rfl) rfl ?_
      repeat (first|apply cA|apply cB)
      refine SG.ret rfl rfl rfl (vs := []) (by repeat' (first | exact True.intro | exact rho_of rfl | refine And.intro ?_ ?_)) (known_spec w1) (fun w2 hk2 => ?_)
      repeat (first|apply cD|apply cE|apply cH|apply cK|refine cV rfl rfl rfl rfl (by first|((first|apply qep|apply qmv|apply qas|apply qpk|apply qei|apply qep)<;>(first|exact rfl|exact dct (by first|assumption|omega)|fail))|fail) ?_)
      refine ret1 (Or.inl rfl) Tryz.results4 (by first | exact ResV.tmp rfl | exact ResV.agg rfl rfl (by assumption) (by first | exact dc_length _ | exact nc_length _ | exact rc_length _ _ _ | exact ec_length _ | exact dl_length _ _ _ _ | rfl) | exact ResV.cell rfl rfl (by assumption)) ?_
      exact ⟨rfl, hk1.trans hk2⟩
    · have g2 : 1024 < room := by omega
      repeat (first|apply cA|apply cB|apply cD|apply cE|refine cV rfl rfl rfl rfl (by first|((first|apply qmv|apply qas|apply qpk|apply qls|apply qgt|apply qxt)<;>(first|exact rfl|exact dct (by first|assumption|omega)|exact dcf (by first|assumption|omega)|fail))|fail) ?_)
      refine cZ rfl (by exact rho_of rfl) rfl ?_
      repeat (first|apply cA|apply cB)
      refine SG.ret rfl rfl rfl (vs := []) (by repeat' (first | exact True.intro | exact rho_of rfl | refine And.intro ?_ ?_)) (known_spec w1) (fun w2 hk2 => ?_)
      repeat (first|apply cD|apply cE|apply cH|apply cK|refine cV rfl rfl rfl rfl (by first|((first|apply qep|apply qmv|apply qas|apply qpk|apply qei|apply qep)<;>(first|exact rfl|exact dct (by first|assumption|omega)|fail))|fail) ?_)
      refine ret1 (Or.inl rfl) Tryz.results4 (by first | exact ResV.tmp rfl | exact ResV.agg rfl rfl (by assumption) (by first | exact dc_length _ | exact nc_length _ | exact rc_length _ _ _ | exact ec_length _ | exact dl_length _ _ _ _ | rfl) | exact ResV.cell rfl rfl (by assumption)) ?_
      exact ⟨rfl, hk1.trans hk2⟩
  have g1 : ¬ room < 1 := by omega
  have g2 : ¬ 1024 < room := by omega
  have h00 : (0 : Int) = 0 := rfl
  repeat (first|apply cA|apply cB|apply cD|apply cE|refine cV rfl rfl rfl rfl (by first|((first|apply qmv|apply qas)<;>(exact rfl))|fail) ?_)
  refine SG.call rfl rfl rfl (vs := [.int .i64 room]) (by repeat' (first | exact True.intro | exact rho_of rfl | refine And.intro ?_ ?_)) ((new_spec (w := w) (room := room) (by omega) (by omega)).mono (fun e w1 hh => ?_))
  obtain ⟨p0, he, hp0, hk1, hP1⟩ := hh
  refine ⟨_, he, ?_⟩
  clear he
  have hP1 := hP1 w.heap.size (Nat.le_refl _)
  have s1 := hk1.size
  repeat (first|apply cA|apply cB|apply cD|apply cE|refine cV rfl rfl rfl rfl (by first|((first|apply qmv|apply qas|apply qpk|apply qls|apply qgt|apply qxt)<;>(first|exact rfl|exact dcf (by first|assumption|omega)|fail))|fail) ?_)
  refine dA rfl (by exact rho_of rfl) rfl ?_
  repeat (first|apply cA|apply cB|apply cE|apply cF|refine cV rfl rfl rfl rfl (by first|(apply qmv<;>(exact rfl))|fail) ?_)
  refine cV rfl rfl rfl rfl (vals_build rfl (bPz room)) ?_
  refine SG.alloc rfl rfl rfl (fun b7 w2 hk2 hb7 hB7 => ?_)
  have hB7 : Blk w2 b7 (.cells (pdc 0 none 0 0).toArray 29) := hB7
  refine SG.setAll (l := pdc room none 0 0) rfl rfl (by exact rho_of rfl) (by exact rho_of rfl) hB7 rfl rfl rfl (fun w3 hk3 hB7 => ?_)
  have hB7 : Blk w3 b7 (.cells (pdc room none 0 0).toArray 29) := hB7
  have k13 : Kp [] w1 w3 := hk2.trans_new hk3 (new1 (by omega))
  have hP3 := hP1.kp0 k13
  have k3 := hk1.trans k13
  repeat (first|apply cA|apply cB|apply cD|apply cE|refine cV rfl rfl rfl rfl (by first|((first|apply qep|apply qmv|apply qpk|apply qni|apply qep)<;>(first|exact rfl|exact dct (by first|assumption|omega)|fail))|fail) ?_)
  refine dA rfl (by exact rho_of rfl) rfl ?_
  repeat (first|apply cA|apply cB|apply cD|apply cE|apply cF|apply cG|refine cV rfl rfl rfl rfl (by first|(apply qas<;>(exact rfl))|fail) ?_)
  refine CG.loop (X := Nat × Nat × Value × List Em × Option Addr × Nat × List Wm) (fun x => [(1, .slice ao os.length co), (5, .pointer (some ⟨x.2.1, 0, none⟩)), (7, .pointer (some ⟨b7, 0, none⟩)), (8, .int .i64 (x.1 : Int))])
    (fun x w' => x.1 ≤ os.length ∧ Kp [] w w' ∧ Pl w' w.heap.size x.2.1 x.2.2.1 room x.2.2.2.1 ∧ PD w' w.heap.size x.2.2.2.2.1 x.2.2.2.2.2.1 x.2.2.2.2.2.2 ∧ x.2.2.2.2.2.2.map Wm.en = x.2.2.2.1.map Em.en ∧ PInv room (x.2.2.2.1.map Em.en) ∧ Blk w' b7 (.cells (pdc room x.2.2.2.2.1 x.2.2.2.2.2.2.length x.2.2.2.2.2.1).toArray 29) ∧ ∀ g, x.2.2.1.ownBlock = some g → w.heap.size ≤ g)
    (fun x => os.length - x.1) (0, p0, .slice none 0 0, [], none, 0, []) ⟨Nat.zero_le _, k3, hP3, PD.nil, rfl, inv_nil (by omega), hB7, fun g hg => (by cases hg)⟩ (by (repeat' (first | exact True.intro | exact rfl | refine And.intro ?_ ?_))) ?_
  clear hB7 hP3 hP1 k3 k13 hk3 hk2
  rintro ⟨i, p, v, ms, a, c, ws⟩ w4 ⟨hi, hk4, hP4, hD4, hw4, hI4, hB4, hv4⟩
  simp only at hi hP4 hD4 hw4 hI4 hB4 hv4
  refine CG.to [(1, .slice ao os.length co), (5, .pointer (some ⟨p, 0, none⟩)), (7, .pointer (some ⟨b7, 0, none⟩)), (8, .int .i64 (i : Int))] (by (repeat' (first | exact True.intro | exact rfl | refine And.intro ?_ ?_))) ?_
  have s4 := hk4.size
  by_cases hc : i < os.length ∧ i < 24
  rotate_left
  · by_cases hlt : i < os.length
    · have g3 : (i : Int) < (os.length : Int) := by omega
      have g4 : ¬ (i : Int) < 24 := by omega
      repeat (first|apply cA|apply cB|apply cD|apply cE|refine cV rfl rfl rfl rfl (by first|((first|apply qmv|apply qpk|apply qls|apply qln)<;>(first|exact rfl|exact dct (by first|assumption|omega)|exact dcf (by first|assumption|omega)|fail))|fail) ?_)
      refine dA rfl (by exact rho_of rfl) rfl ?_
      repeat (first|apply cA|apply cB|apply cE|apply cJ|apply cM|refine cQ rfl ?_)
      refine SG.ret rfl rfl rfl (vs := []) (by repeat' (first | exact True.intro | exact rho_of rfl | refine And.intro ?_ ?_)) (known_spec w4) (fun w5 hk5 => ?_)
      repeat (first|apply cD|apply cE|apply cH|refine cV rfl rfl rfl rfl (by first|(apply qas<;>(exact rfl))|fail) ?_)
      refine ret1 (Or.inl rfl) Tryz.results4 (by first | exact ResV.tmp rfl | exact ResV.agg rfl rfl (by assumption) (by first | exact dc_length _ | exact nc_length _ | exact rc_length _ _ _ | exact ec_length _ | exact dl_length _ _ _ _ | rfl) | exact ResV.cell rfl rfl (by assumption)) ?_
      exact ⟨rfl, hk4.trans hk5⟩
    · have g3 : ¬ (i : Int) < (os.length : Int) := by omega
      repeat (first | first|apply cA|apply cB|apply cD|apply cE|refine cV rfl rfl rfl rfl (by first|((first|apply qmv|apply qpk|apply qls|apply qln)<;>(first|exact rfl|exact dcf (by first|assumption|omega)|fail))|fail) ?_ | refine cX rfl rfl ?_)
      refine dA rfl (by exact rho_of rfl) rfl ?_
      repeat (first|apply cA|apply cB|apply cE|apply cJ|apply cM|refine cQ rfl ?_)
      refine SG.ret rfl rfl rfl (vs := []) (by repeat' (first | exact True.intro | exact rho_of rfl | refine And.intro ?_ ?_)) (known_spec w4) (fun w5 hk5 => ?_)
      repeat (first|apply cD|apply cE|apply cH|refine cV rfl rfl rfl rfl (by first|(apply qas<;>(exact rfl))|fail) ?_)
      refine ret1 (Or.inl rfl) Tryz.results4 (by first | exact ResV.tmp rfl | exact ResV.agg rfl rfl (by assumption) (by first | exact dc_length _ | exact nc_length _ | exact rc_length _ _ _ | exact ec_length _ | exact dl_length _ _ _ _ | rfl) | exact ResV.cell rfl rfl (by assumption)) ?_
      exact ⟨rfl, hk4.trans hk5⟩
  obtain ⟨hlt, h24⟩ := hc
  have g3 : (i : Int) < (os.length : Int) := by omega
  have g4 : (i : Int) < 24 := by omega
  obtain ⟨b1, o1, rfl, hri⟩ := (hS.kp0 hk4).at hlt
  have hxi := hin _ (List.getElem_mem hlt)
  have l1 : b1 < w.heap.size := (hS.row (List.getElem?_eq_getElem hlt)).lt
  have lp := hP4.blk.lt
  have l7 := hB4.lt
  have hnp : b7 ∉ p :: ownB v := fun hm => by
    rcases List.mem_cons.1 hm with e | hm
    · subst e
      have := hP4.blk.uniq hB4
      simp only [Obj.cells.injEq] at this
      exact absurd this.2.1 (by decide)
    · exact own_neb hP4.own (by decide) hB4 b7 (ownB_mem hm) List.mem_cons_self
  have n1 : b1 ∉ b7 :: p :: ownB v := fun hm => by
    have hbp := hP4.bp
    rcases List.mem_cons.1 hm with e | hm
    · omega
    · rcases List.mem_cons.1 hm with e | hm
      · omega
      · have := hv4 b1 (ownB_mem hm); omega
  repeat (first|apply cA|apply cB|apply cD|apply cE|refine cV rfl rfl rfl rfl (by first|((first|apply qmv|apply qpk|apply qls|apply qln)<;>(first|exact rfl|exact dct (by first|assumption|omega)|fail))|fail) ?_)
  refine cZ rfl (by exact rho_of rfl) rfl ?_
  repeat (first|apply cA|apply cB|apply cD|apply cE|apply cF|apply cG|refine cV rfl rfl rfl rfl (by first|(apply qas<;>(exact rfl))|fail) ?_)
  refine CG.draw mixed [0, 1, 2, 3, 4, 5, 6, 7, 8, 9, 10, 11, 12, 13] [6, 12, 1001] [] (b7 :: p :: ownB v) (fun W => Blk W b7 (.cells (pdc room a ws.length c).toArray 29) ∧ Pl W w.heap.size p v room ms ∧ PD W w.heap.size a c ws) (by kernel_rfl) (by
    intro z hz
    rcases List.mem_cons.1 hz with e | hz
    · rw [e]; exact l7
    · rcases List.mem_cons.1 hz with e | hz
      · rw [e]; exact lp
      · exact own_lt hP4.own z (ownB_mem hz)) (by simp) ⟨hB4, hP4, hD4⟩ (fun _ _ hk h => ⟨h.1.kp0 hk, h.2.1.kp0 hk, h.2.2.kp0 hk⟩) (Or.inl rfl) ?_
  repeat (refine cY rfl rfl rfl (by first|(apply qmv<;>(exact rfl))|fail) ?_)
  refine Der.loadR (l := pdc room a ws.length c) rfl rfl rfl rfl (by exact rho_of rfl) rfl (fun W h => Row.all h.1 rfl) rfl ?_
  repeat (refine cY rfl rfl rfl (by first|((first|apply qmv|apply qla|apply qix)<;>(first|exact rfl|exact Ar.mk (by omega)|assumption|fail))|fail) ?_)
  refine Der.callGR (X := Nat × Value × List Em × Option Addr × Nat × List Wm) (vs := [.pointer (some ⟨p, 0, none⟩), .agg (pdc room a ws.length c).toArray, amv os[i]]) (fun q => .tuple #[.pointer (some ⟨q.1, 0, none⟩), .agg (pdc room q.2.2.2.1 q.2.2.2.2.2.length q.2.2.2.2.1).toArray, .bool true]) (fun q W => True) (fun q W => Blk W b7 (.cells (pdc room a ws.length c).toArray 29) ∧ StepF w4 w.heap.size p v room q W) rfl rfl rfl rfl (by repeat' (first | exact True.intro | exact rho_of rfl | refine And.intro ?_ ?_)) (fun _ _ _ _ _ => trivial) (fun q W W' hk h => ⟨h.1.kp0 hk, StepF.kp0 W W' hk h.2⟩) (fun _ _ _ _ => trivial) (fun W hk _ hR => ?_) (fun q => ?_)
  · have hxW : TxsR W w.heap.size os[i].a os[i].xs := by
      have hk0 : Kp [] w W := hk4.trans_new hk (fun z hz => by
        have hbp := hP4.bp
        rcases List.mem_cons.1 hz with e | hz
        · exact Or.inr (by omega)
        · rcases List.mem_cons.1 hz with e | hz
          · exact Or.inr (by omega)
          · exact Or.inr (hv4 z (ownB_mem hz)))
      exact hxi.kp0 hk0
    refine (step_spec (x := os[i]) hR.2.1 hI4 (by omega) hR.2.2 hw4 hxW).mono (fun e W' hh => ?_)
    obtain ⟨p', v', ms', a', c', ws', he, h1, h2, h3, h4, h5, h6, h7⟩ := hh
    have hs := hk.size
    exact ⟨(p', v', ms', a', c', ws'), he, trivial, ⟨hR.1.kp h5 hnp, h1, h2, h3, h4, h6.imp id (fun h => by omega), fun g hg => (h7 g hg).imp id (fun h => by omega)⟩, h5.mono (fun z hz => List.mem_cons_of_mem _ hz)⟩
  obtain ⟨p', v', ms', a', c', ws'⟩ := q
  repeat (refine cY rfl rfl rfl (by first|((first|apply qmv|apply qas|apply qxt)<;>(exact rfl))|fail) ?_)
  refine Der.storeKeep (old := pdc room a ws.length c) (l := pdc room a' ws'.length c') (b := b7) (StepF w4 w.heap.size p v room (p', v', ms', a', c', ws')) rfl rfl rfl rfl (by exact rho_of rfl) (by exact rho_of rfl) rfl rfl rfl List.mem_cons_self (fun _ _ _ _ => ⟨trivial, trivial⟩) StepF.kp0 (fun W W' hB hk ⟨h1, h2, h3⟩ => ⟨h1.kpb hB hk (by omega), h2.kpb hk hB (by decide) (by decide) (by omega), h3⟩) ?_
  repeat (refine cY rfl rfl rfl (by first|(apply qas<;>(exact rfl))|fail) ?_)
  refine Der.fin (fun w5 hk5 _ hR => ?_)
  obtain ⟨hB5, hP5, hD5, hw5, hI5, hp5, hv5⟩ := hR
  simp only at hP5 hD5 hw5 hI5 hp5 hv5
  have k5 : Kp [] w w5 := hk4.trans_new hk5 (fun z hz => by
    have hbp := hP4.bp
    rcases List.mem_cons.1 hz with e | hz
    · exact Or.inr (by omega)
    · rcases List.mem_cons.1 hz with e | hz
      · exact Or.inr (by omega)
      · exact Or.inr (hv4 z (ownB_mem hz)))
  obtain ⟨q0, -, -⟩ := pdc_rows hB5
  clear hri
  repeat (first|apply cA|apply cB|apply cE|refine cV rfl rfl rfl rfl (by first|((first|apply qep|apply qmv|apply qla|apply qpk|apply qnt|apply qep)<;>(first|exact rfl|assumption|exact List.not_mem_nil))|fail) ?_)
  refine SG.ret rfl rfl rfl (vs := [.pointer (some ⟨p', 0, none⟩), .agg (pdc room a' ws'.length c').toArray]) (by repeat' (first | exact True.intro | exact rho_of rfl | refine And.intro ?_ ?_)) (alike_spec hP5 hI5 (by omega) hD5 hw5) (fun w6 hk6 => ?_)
  repeat (first|apply cD|apply cE|refine cV rfl rfl rfl rfl (by first|((first|apply qpk|apply qnt)<;>(exact rfl))|fail) ?_)
  refine dA rfl (by exact rho_of rfl) rfl ?_
  repeat (first|apply cB|apply cD|apply cE|apply cF|apply cU|refine cV rfl rfl rfl rfl (by first|((first|apply qmv|apply qas|apply qad)<;>(first|exact rfl|exact Ar.mk (by omega)|fail))|fail) ?_)
  refine NG.round (i + 1, p', v', ms', a', c', ws') (by (repeat' (first | exact True.intro | exact rfl | refine And.intro ?_ ?_))) ⟨by simp only; omega, k5.trans hk6, hP5.kp0 hk6, hD5.kp0 hk6, hw5, hI5, hB5.kp0 hk6, fun g hg => ?_⟩ (by simp only; omega)
  rcases hv5 g hg with h | h
  · exact hv4 g h
  · omega
end Go.Proofs.YtgbgnlboogalgaaGreat

namespace Go.Proofs.YtgbgnlboogalgaaGreat
open Go.ChangeShapes Go.WideShapes Go.ChangeAt Go.RowKit
set_option linter.unusedVariables false
set_option maxRecDepth 100000 in
theorem poolPlays_lifted (os : Os) (started : os.Started) (H : Type) (enc : TypeId × Value → H) :
    ReturnsInHanded {} Tryz.checked os 4 .any (Rows.poolPlaysSpec.pre6 enc Tryz.prog Tryz.f4 Rows.poolPlaysRow.domain false) (Rows.poolPlaysSpec.post enc Tryz.prog Tryz.f4 false true false false) := by
  refine returnsInHanded_of_change (C := Tryz.checked) own started (by kernel_rfl) Tryz.func4
    (ChangeSpec.witness6 (enc := enc) (C := Tryz.checked) false ⟨#[], #[.int .i64 0, .slice none 0 0], []⟩ 8 (by kernel_rfl) (by kernel_rfl) (by kernel_rfl) (by kernel_rfl)) ?_
  intro W base args ds gs before hval0 hW hcnd _
  have hval : ∀ (j : Nat) t v, Tryz.f4.params[j]? = some t → args[j]? = some v → Value.okWide Tryz.prog W .any base t v := hval0
  have hW' : DataW.Whole enc Tryz.prog Tryz.f4.params.toList Rows.poolPlaysSpec.vars false W args.toList ds gs before := hW
  obtain ⟨p, q, hA0, hV, rfl, hfz, hnd⟩ := hW
  have hA : DataW.TrodAll enc Tryz.prog W 0 (fun _ => true) true Tryz.f4.params.toList args.toList ds p := hA0
  rw [Tryz.params4] at hA hval
  obtain ⟨v0, v1, d0, d1, p0, p1, rfl, rfl, rfl, h0, h1⟩ := trodAll_two hA
  obtain ⟨x0, rfl, hd0, _, wf0⟩ := open_int Tryz.underlying3 (hval 0 3 v0 rfl rfl) h0
  obtain ⟨a1, n1, c1, rfl, hn1, hc1, hs1⟩ := open_sl Tryz.underlying49 (by rw [cellsA]; omega) (hval 1 49 v1 rfl rfl) h1
  obtain ⟨l1, rfl, hS1, hin1⟩ := acts_of hs1
  refine (plays_walk W x0 a1 c1 l1 hS1 hin1).mono fun e W' ⟨he, hk⟩ => ⟨_, he, ?_⟩
  exact law_post laidOut (by rw [Tryz.params4]; exact of_decide_eq_true (by kernel_rfl)) rfl hW' rfl (by kernel_rfl) Tryz.underlying4 hk
theorem poolPlays_holds : Rows.PoolPlaysSaid :=
  OpenClaim.holds_of_wide 4 Tryz.f4 rfl rfl rfl rfl rfl rfl rfl ⟨rfl, rfl, rfl, rfl, rfl⟩ rfl rfl rfl rfl rfl (by kernel_rfl) Tryz.func4 (by kernel_rfl)
    (of_decide_eq_true (by kernel_rfl)) (by unfold Func.isWrapper; first | (rw [if_pos (by decide +kernel)]; kernel_rfl) | (rw [if_neg (by decide +kernel)]; exact ⟨rfl, rfl⟩))
    (fun os started H enc _ => poolPlays_lifted os started H enc)
end Go.Proofs.YtgbgnlboogalgaaGreat
