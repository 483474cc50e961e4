import Derived.Test.YtajllbdeoopimaaQe2
namespace Go.Proofs.Ytajllbdeoopimaa
set_option linter.unusedVariables false
def holdE (p : Pu) (h : Hd) : Int := if h.side < 0 ∨ 1 < h.side then 28 else if ¬ (someP h.amt ∧ farP h.til) then 2 else if placeN p.held h.name < p.held.length then 7 else if 16 ≤ p.held.length then 8 else if haveP p h.side < h.amt then 21 else 0
def holdQ (p : Pu) (h : Hd) : Pu := { addP p h.side (-h.amt) with held := p.held ++ [h] }
theorem bsH' (w : World) (a0 a1 a2 a3 a4 a5 a6 a7 : UInt8) (x y z : Int) : (Instr.buildSlice 32 1 #[(0, .agg #[bv a0, bv a1, bv a2, bv a3, bv a4, bv a5, bv a6, bv a7, .int .i64 x, .int .i64 y, .int .i64 z])]).run Try.prog w = .ok (.slice (some ⟨w.heap.size, 0, none⟩) 1 1) { w with heap := w.heap.push (.cells #[bv a0, bv a1, bv a2, bv a3, bv a4, bv a5, bv a6, bv a7, .int .i64 x, .int .i64 y, .int .i64 z] 56) } := by kernel_rfl
theorem bsH (h : Hd) (w : World) : (Instr.buildSlice 32 1 #[(0, hv h)]).run Try.prog w = .ok (.slice (some ⟨w.heap.size, 0, none⟩) 1 1) { w with heap := w.heap.push (.cells (hc h).toArray 56) } := by
  obtain ⟨⟨l, hl⟩, x, y, z⟩ := h
  match l, hl with
  | [a0, a1, a2, a3, a4, a5, a6, a7], _ => exact bsH' w a0 a1 a2 a3 a4 a5 a6 a7 x y z
/-- What is so of a purse that may be. -/
structure Pu.Ok (p : Pu) : Prop where
  n : farP p.num
  a : amtP p.h0
  b : amtP p.h1
  l : p.held.length ≤ 16
  s : amtP (sumP p)
  c : chkL [] p.held = 0
theorem pu_ok {p : Pu} (h : checkZ p = 0) : p.Ok := by
  by_cases h1 : farP p.num ∧ amtP p.h0 ∧ amtP p.h1
  · by_cases h2 : 16 < p.held.length
    · rw [checkZ_full h1 h2] at h
      cases h
    · by_cases h3 : chkL [] p.held = 0
      · rw [checkZ_sum h1 h2 h3] at h
        by_cases h4 : amtP (sumP p)
        · exact ⟨h1.1, h1.2.1, h1.2.2, by omega, h4, h3⟩
        · rw [if_neg h4] at h
          cases h
      · rw [checkZ_held h1 h2 rfl h3] at h
        exact absurd h h3
  · rw [checkZ_range h1] at h
    cases h
theorem pc_side {p : Pu} {s : Value} {j : Nat} (hj : j < 2) {z : Int} : spl (pc p s) (9 + j) [.int .i64 (haveP p (j : Int) + z)] = pc (addP p (j : Int) z) s := by
  have l8 : (dc p.name).length = 8 := dc_length _
  rcases (show j = 0 ∨ j = 1 by omega) with rfl | rfl
  · have := spl_mid (pre := dc p.name ++ [.int .i64 p.num]) (old := [.int .i64 p.h0]) (l := [.int .i64 (p.h0 + z)]) (post := [.int .i64 p.h1, s]) rfl
    simpa [pc, l8, addP, haveP] using this
  · have := spl_mid (pre := dc p.name ++ [.int .i64 p.num, .int .i64 p.h0]) (old := [.int .i64 p.h1]) (l := [.int .i64 (p.h1 + z)]) (post := [s]) rfl
    simpa [pc, l8, addP, haveP] using this
theorem row_side {w : World} {b : Nat} {T : TypeId} {p : Pu} {s : Value} (h : Blk w b (.cells (pc p s).toArray T)) {j : Nat} (hj : j < 2) : Row w b (0 + 9 + j * 1) [.int .i64 (haveP p (j : Int))] := by
  obtain ⟨-, -, r2, r3, -, -⟩ := pc_rows h
  rcases (show j = 0 ∨ j = 1 by omega) with rfl | rfl
  · exact r2
  · exact r3
theorem addP_held (p : Pu) (s d : Int) : (addP p s d).held = p.held := by
  unfold addP
  split <;> rfl
theorem addP_num (p : Pu) (s d : Int) : (addP p s d).num = p.num := by
  unfold addP
  split <;> rfl
theorem have_amt {p : Pu} (h : p.Ok) (s : Int) : 0 ≤ haveP p s ∧ haveP p s ≤ 1125899906842624 := by
  unfold haveP
  split
  · exact h.a
  · exact h.b
attribute [local irreducible] CG NG SG Vals Der Row Blk MapIs IterAt chkL DerR
set_option maxHeartbeats 16000000 in
theorem hold1_spec {w : World} {base bq b3 : Nat} {p : Pu} {s : Value} {h : Hd} (hB : Blk w bq (.cells (pc p s).toArray 34)) (hR : Blk w b3 (.cells (hc h).toArray 56)) (ho : w.ownsRow base 56 11 s p.held.length (flt hc p.held)) (hbase : base ≤ w.heap.size) (hok : p.Ok) (hb3 : b3 ∉ ownB s) :
    Calls Try.prog 56 #[.pointer (some ⟨bq, 0, none⟩), .pointer (some ⟨b3, 0, none⟩)] w (fun e w' => e = .returned (.int .i64 (holdE p h)) ∧ Kp (bq :: ownB s) w w' ∧ ∃ p' s', Blk w' bq (.cells (pc p' s').toArray 34) ∧ (holdE p h = 0 → p' = holdQ p h ∧ w'.ownsRow base 56 11 s' (holdQ p h).held.length (flt hc (holdQ p h).held))) := by
  refine enter2 Try.func56 rfl Try.ntmps56 rfl ?_
  obtain ⟨q0, q1, q2, q3, q4⟩ := hc_rows hR
  have hl16 := hok.l
  have fin : ∀ {z : Int} {w' : World}, Kp [] w w' → holdE p h = z → z ≠ 0 → ((Ending.returned (.int .i64 z) = .returned (.int .i64 (holdE p h))) ∧ Kp (bq :: ownB s) w w' ∧ ∃ p' s', Blk w' bq (.cells (pc p' s').toArray 34) ∧ (holdE p h = 0 → p' = holdQ p h ∧ w'.ownsRow base 56 11 s' (holdQ p h).held.length (flt hc (holdQ p h).held))) := fun hk e hz => ⟨by rw [e], hk.any, p, s, hB.kp0 hk, fun h0 => absurd (e.symm.trans h0) hz⟩
  by_cases g1 : h.side < 0
  · have e : holdE p h = 28 := if_pos (Or.inl g1)
    clear q4
    repeat (first | first|apply cA|apply cB|apply cD|apply cE|apply cF|apply cH|apply cM|refine cY rfl rfl rfl rfl (by first|((first|apply qia|apply qmf|apply qmv|apply qas|apply qlc|apply qla|apply qfa|apply qnc|apply qpk|apply qls|apply qln|apply qgt|apply qge|apply qxt|apply qsb|apply qnt)<;>(first|exact rfl|assumption|exact Ar.mk (by omega)|exact dct (by first|assumption|omega)|exact dcf (by first|assumption|omega)|exact List.not_mem_nil|apply dc_length|apply hc_length|apply pc_length|exact nm1 (by omega)|fail))|fail) ?_ | refine cZ rfl rfl ?_)
    refine dB rfl (by exact rho_of rfl) rfl ?_
    repeat (first|apply cA|apply cB|apply cD|apply cE|apply cF|apply cH|apply cM|refine cY rfl rfl rfl rfl (by first|((first|apply qia|apply qmf|apply qmv|apply qas|apply qlc|apply qla|apply qfa|apply qnc|apply qpk|apply qls|apply qln|apply qgt|apply qge|apply qxt|apply qsb|apply qnt)<;>(first|exact rfl|assumption|exact Ar.mk (by omega)|exact dct (by first|assumption|omega)|exact dcf (by first|assumption|omega)|exact List.not_mem_nil|apply dc_length|apply hc_length|apply pc_length|exact nm1 (by omega)|fail))|fail) ?_)
    refine ret1 (Or.inl rfl) Try.results56 (by first | exact ResV.tmp rfl | exact ResV.agg rfl rfl (by assumption) (by first | exact dc_length _ | exact nc_length _ | exact rc_length _ _ _ | exact ec_length _ | exact dl_length _ _ _ _ | rfl) | exact ResV.cell rfl rfl (by assumption)) ?_
    exact fin (Kp.refl _ _) e (by decide)
  by_cases g2 : 1 < h.side
  · have e : holdE p h = 28 := if_pos (Or.inr g2)
    clear q4
    repeat (first | first|apply cA|apply cB|apply cD|apply cE|apply cF|apply cH|apply cM|refine cY rfl rfl rfl rfl (by first|((first|apply qia|apply qmf|apply qmv|apply qas|apply qlc|apply qla|apply qfa|apply qnc|apply qpk|apply qls|apply qln|apply qgt|apply qge|apply qxt|apply qsb|apply qnt)<;>(first|exact rfl|assumption|exact Ar.mk (by omega)|exact dct (by first|assumption|omega)|exact dcf (by first|assumption|omega)|exact List.not_mem_nil|apply dc_length|apply hc_length|apply pc_length|exact nm1 (by omega)|fail))|fail) ?_ | refine cZ rfl rfl ?_)
    refine dB rfl (by exact rho_of rfl) rfl ?_
    repeat (first|apply cA|apply cB|apply cD|apply cE|apply cF|apply cH|apply cM|refine cY rfl rfl rfl rfl (by first|((first|apply qia|apply qmf|apply qmv|apply qas|apply qlc|apply qla|apply qfa|apply qnc|apply qpk|apply qls|apply qln|apply qgt|apply qge|apply qxt|apply qsb|apply qnt)<;>(first|exact rfl|assumption|exact Ar.mk (by omega)|exact dct (by first|assumption|omega)|exact dcf (by first|assumption|omega)|exact List.not_mem_nil|apply dc_length|apply hc_length|apply pc_length|exact nm1 (by omega)|fail))|fail) ?_)
    refine ret1 (Or.inl rfl) Try.results56 (by first | exact ResV.tmp rfl | exact ResV.agg rfl rfl (by assumption) (by first | exact dc_length _ | exact nc_length _ | exact rc_length _ _ _ | exact ec_length _ | exact dl_length _ _ _ _ | rfl) | exact ResV.cell rfl rfl (by assumption)) ?_
    exact fin (Kp.refl _ _) e (by decide)
  have hs1 : ¬ (h.side < 0 ∨ 1 < h.side) := fun k => k.elim g1 g2
  obtain ⟨j, hj, hj2⟩ : ∃ j : Nat, h.side = (j : Int) ∧ j < 2 := ⟨h.side.toNat, by omega, by omega⟩
  clear q4
  repeat (first | first|apply cA|apply cB|apply cD|apply cE|apply cF|apply cH|apply cM|refine cY rfl rfl rfl rfl (by first|((first|apply qia|apply qmf|apply qmv|apply qas|apply qlc|apply qla|apply qfa|apply qnc|apply qpk|apply qls|apply qln|apply qgt|apply qge|apply qxt|apply qsb|apply qnt)<;>(first|exact rfl|assumption|exact Ar.mk (by omega)|exact dct (by first|assumption|omega)|exact dcf (by first|assumption|omega)|exact List.not_mem_nil|apply dc_length|apply hc_length|apply pc_length|exact nm1 (by omega)|fail))|fail) ?_ | refine cZ rfl rfl ?_)
  refine dD rfl (by exact rho_of rfl) rfl ?_
  repeat (first|apply cA|apply cB|apply cD|apply cE|apply cF|apply cH|apply cM|refine cY rfl rfl rfl rfl (by first|((first|apply qia|apply qmf|apply qmv|apply qas|apply qlc|apply qla|apply qfa|apply qnc|apply qpk|apply qls|apply qln|apply qgt|apply qge|apply qxt|apply qsb|apply qnt)<;>(first|exact rfl|assumption|exact Ar.mk (by omega)|exact dct (by first|assumption|omega)|exact dcf (by first|assumption|omega)|exact List.not_mem_nil|apply dc_length|apply hc_length|apply pc_length|exact nm1 (by omega)|fail))|fail) ?_)
  refine SG.ret rfl rfl rfl (vs := [.int .i64 h.amt]) (by repeat' (first | exact True.intro | exact rho_of rfl | refine And.intro ?_ ?_)) (some_spec h.amt w) (fun w1 hk1 => ?_)
  have q3 := q3.kp0 hk1
  by_cases g3 : someP h.amt
  rotate_left
  · have e : holdE p h = 2 := by simp [holdE, hs1, g3]
    rw [decide_eq_false g3]
    repeat (first | first|apply cA|apply cB|apply cD|apply cE|apply cF|apply cH|apply cM|refine cY rfl rfl rfl rfl (by first|((first|apply qia|apply qmf|apply qmv|apply qas|apply qlc|apply qla|apply qfa|apply qnc|apply qpk|apply qls|apply qln|apply qgt|apply qge|apply qxt|apply qsb|apply qnt)<;>(first|exact rfl|assumption|exact Ar.mk (by omega)|exact dct (by first|assumption|omega)|exact dcf (by first|assumption|omega)|exact List.not_mem_nil|apply dc_length|apply hc_length|apply pc_length|exact nm1 (by omega)|fail))|fail) ?_ | refine cZ rfl rfl ?_)
    refine dB rfl (by exact rho_of rfl) rfl ?_
    repeat (first|apply cA|apply cB|apply cD|apply cE|apply cF|apply cH|apply cM|refine cY rfl rfl rfl rfl (by first|((first|apply qia|apply qmf|apply qmv|apply qas|apply qlc|apply qla|apply qfa|apply qnc|apply qpk|apply qls|apply qln|apply qgt|apply qge|apply qxt|apply qsb|apply qnt)<;>(first|exact rfl|assumption|exact Ar.mk (by omega)|exact dct (by first|assumption|omega)|exact dcf (by first|assumption|omega)|exact List.not_mem_nil|apply dc_length|apply hc_length|apply pc_length|exact nm1 (by omega)|fail))|fail) ?_)
    refine ret1 (Or.inl rfl) Try.results56 (by first | exact ResV.tmp rfl | exact ResV.agg rfl rfl (by assumption) (by first | exact dc_length _ | exact nc_length _ | exact rc_length _ _ _ | exact ec_length _ | exact dl_length _ _ _ _ | rfl) | exact ResV.cell rfl rfl (by assumption)) ?_
    exact fin hk1 e (by decide)
  rw [decide_eq_true g3]
  repeat (first | first|apply cA|apply cB|apply cD|apply cE|apply cF|apply cH|apply cM|refine cY rfl rfl rfl rfl (by first|((first|apply qia|apply qmf|apply qmv|apply qas|apply qlc|apply qla|apply qfa|apply qnc|apply qpk|apply qls|apply qln|apply qgt|apply qge|apply qxt|apply qsb|apply qnt)<;>(first|exact rfl|assumption|exact Ar.mk (by omega)|exact dct (by first|assumption|omega)|exact dcf (by first|assumption|omega)|exact List.not_mem_nil|apply dc_length|apply hc_length|apply pc_length|exact nm1 (by omega)|fail))|fail) ?_ | refine cZ rfl rfl ?_)
  refine SG.ret rfl rfl rfl (vs := [.int .i64 h.til]) (by repeat' (first | exact True.intro | exact rho_of rfl | refine And.intro ?_ ?_)) (far_spec h.til w1) (fun w2 hk2 => ?_)
  have k2 := hk1.trans hk2
  by_cases g4 : farP h.til
  rotate_left
  · have e : holdE p h = 2 := by simp [holdE, hs1, g4]
    rw [decide_eq_false g4]
    repeat (first | first|apply cA|apply cB|apply cD|apply cE|apply cF|apply cH|apply cM|refine cY rfl rfl rfl rfl (by first|((first|apply qia|apply qmf|apply qmv|apply qas|apply qlc|apply qla|apply qfa|apply qnc|apply qpk|apply qls|apply qln|apply qgt|apply qge|apply qxt|apply qsb|apply qnt)<;>(first|exact rfl|assumption|exact Ar.mk (by omega)|exact dct (by first|assumption|omega)|exact dcf (by first|assumption|omega)|exact List.not_mem_nil|apply dc_length|apply hc_length|apply pc_length|exact nm1 (by omega)|fail))|fail) ?_ | refine cZ rfl rfl ?_)
    refine dB rfl (by exact rho_of rfl) rfl ?_
    repeat (first|apply cA|apply cB|apply cD|apply cE|apply cF|apply cH|apply cM|refine cY rfl rfl rfl rfl (by first|((first|apply qia|apply qmf|apply qmv|apply qas|apply qlc|apply qla|apply qfa|apply qnc|apply qpk|apply qls|apply qln|apply qgt|apply qge|apply qxt|apply qsb|apply qnt)<;>(first|exact rfl|assumption|exact Ar.mk (by omega)|exact dct (by first|assumption|omega)|exact dcf (by first|assumption|omega)|exact List.not_mem_nil|apply dc_length|apply hc_length|apply pc_length|exact nm1 (by omega)|fail))|fail) ?_)
    refine ret1 (Or.inl rfl) Try.results56 (by first | exact ResV.tmp rfl | exact ResV.agg rfl rfl (by assumption) (by first | exact dc_length _ | exact nc_length _ | exact rc_length _ _ _ | exact ec_length _ | exact dl_length _ _ _ _ | rfl) | exact ResV.cell rfl rfl (by assumption)) ?_
    exact fin k2 e (by decide)
  rw [decide_eq_true g4]
  obtain ⟨a, c, rfl, hcap, hS⟩ := Sl.own hc_length ho rfl
  have hpl := fun W (k : Kp [] w2 W) => place_spec (c := c) p h.name ((hS.kp0 k2).kp0 k) (by omega)
  have hB2 := hB.kp0 k2
  have hR2 := hR.kp0 k2
  clear q0 q1 q2 q3
  obtain ⟨-, -, -, -, -, r5⟩ := pc_rows hB2
  obtain ⟨q0, -⟩ := hc_rows hR2
  repeat (first | first|apply cA|apply cB|apply cD|apply cE|apply cF|apply cH|apply cM|refine cY rfl rfl rfl rfl (by first|((first|apply qia|apply qmf|apply qmv|apply qas|apply qlc|apply qla|apply qfa|apply qnc|apply qpk|apply qls|apply qln|apply qgt|apply qge|apply qxt|apply qsb|apply qnt)<;>(first|exact rfl|assumption|exact Ar.mk (by omega)|exact dct (by first|assumption|omega)|exact dcf (by first|assumption|omega)|exact List.not_mem_nil|apply dc_length|apply hc_length|apply pc_length|exact nm1 (by omega)|fail))|fail) ?_ | refine cZ rfl rfl ?_)
  refine dD rfl (by exact rho_of rfl) rfl ?_
  by_cases g5 : placeN p.held h.name < p.held.length
  · have e : holdE p h = 7 := by simp [holdE, hs1, g3, g4, g5]
    have ez : placeZ p.held h.name = (placeN p.held h.name : Int) := if_pos g5
    rw [ez] at hpl
    have g6 : (0 : Int) ≤ (placeN p.held h.name : Int) := by omega
    repeat (first|apply cA|apply cB|apply cD|apply cE|apply cF|apply cH|apply cM|refine cY rfl rfl rfl rfl (by first|((first|apply qia|apply qmf|apply qmv|apply qas|apply qlc|apply qla|apply qfa|apply qnc|apply qpk|apply qls|apply qln|apply qgt|apply qge|apply qxt|apply qsb|apply qnt)<;>(first|exact rfl|assumption|exact Ar.mk (by omega)|exact dct (by first|assumption|omega)|exact dcf (by first|assumption|omega)|exact List.not_mem_nil|apply dc_length|apply hc_length|apply pc_length|exact nm1 (by omega)|fail))|fail) ?_)
    refine CG.draw0 mixed [0, 1, 2, 3, 4, 5, 6] [] (by kernel_rfl) ?_
    repeat (refine dA rfl rfl rfl (by first|((first|apply qia|apply qmf|apply qmv|apply qas|apply qlc|apply qla|apply qfa|apply qnc|apply qpk|apply qls|apply qln|apply qgt|apply qge|apply qxt|apply qsb|apply qnt)<;>(first|exact rfl|assumption|exact Ar.mk (by omega)|exact dct (by first|assumption|omega)|exact dcf (by first|assumption|omega)|exact List.not_mem_nil|apply dc_length|apply hc_length|apply pc_length|exact nm1 (by omega)|fail))|fail) ?_)
    refine Der.call rfl rfl rfl (vs := [pv p (.slice a p.held.length c), dv h.name]) (by repeat' (first | exact True.intro | exact rho_of rfl | refine And.intro ?_ ?_)) (fun W hk _ => hpl W hk) ?_
    repeat (refine dA rfl rfl rfl (by first|((first|apply qia|apply qmf|apply qmv|apply qas|apply qlc|apply qla|apply qfa|apply qnc|apply qpk|apply qls|apply qln|apply qgt|apply qge|apply qxt|apply qsb|apply qnt)<;>(first|exact rfl|assumption|exact Ar.mk (by omega)|exact dct (by first|assumption|omega)|exact dcf (by first|assumption|omega)|exact List.not_mem_nil|apply dc_length|apply hc_length|apply pc_length|exact nm1 (by omega)|fail))|fail) ?_)
    refine Der.fin (fun w3 hk3 _ _ => ?_)
    repeat (first|apply cA|apply cB|apply cD|apply cE|apply cF|apply cH|apply cM|refine cY rfl rfl rfl rfl (by first|((first|apply qia|apply qmf|apply qmv|apply qas|apply qlc|apply qla|apply qfa|apply qnc|apply qpk|apply qls|apply qln|apply qgt|apply qge|apply qxt|apply qsb|apply qnt)<;>(first|exact rfl|assumption|exact Ar.mk (by omega)|exact dct (by first|assumption|omega)|exact dcf (by first|assumption|omega)|exact List.not_mem_nil|apply dc_length|apply hc_length|apply pc_length|exact nm1 (by omega)|fail))|fail) ?_)
    refine dB rfl (by exact rho_of rfl) rfl ?_
    repeat (first|apply cA|apply cB|apply cD|apply cE|apply cF|apply cH|apply cM|refine cY rfl rfl rfl rfl (by first|((first|apply qia|apply qmf|apply qmv|apply qas|apply qlc|apply qla|apply qfa|apply qnc|apply qpk|apply qls|apply qln|apply qgt|apply qge|apply qxt|apply qsb|apply qnt)<;>(first|exact rfl|assumption|exact Ar.mk (by omega)|exact dct (by first|assumption|omega)|exact dcf (by first|assumption|omega)|exact List.not_mem_nil|apply dc_length|apply hc_length|apply pc_length|exact nm1 (by omega)|fail))|fail) ?_)
    refine ret1 (Or.inl rfl) Try.results56 (by first | exact ResV.tmp rfl | exact ResV.agg rfl rfl (by assumption) (by first | exact dc_length _ | exact nc_length _ | exact rc_length _ _ _ | exact ec_length _ | exact dl_length _ _ _ _ | rfl) | exact ResV.cell rfl rfl (by assumption)) ?_
    exact fin (k2.trans hk3) e (by decide)
  have ez : placeZ p.held h.name = -1 := if_neg g5
  rw [ez] at hpl
  have g6 : ¬ (0 : Int) ≤ -1 := by omega
  repeat (first|apply cA|apply cB|apply cD|apply cE|apply cF|apply cH|apply cM|refine cY rfl rfl rfl rfl (by first|((first|apply qia|apply qmf|apply qmv|apply qas|apply qlc|apply qla|apply qfa|apply qnc|apply qpk|apply qls|apply qln|apply qgt|apply qge|apply qxt|apply qsb|apply qnt)<;>(first|exact rfl|assumption|exact Ar.mk (by omega)|exact dct (by first|assumption|omega)|exact dcf (by first|assumption|omega)|exact List.not_mem_nil|apply dc_length|apply hc_length|apply pc_length|exact nm1 (by omega)|fail))|fail) ?_)
  refine CG.draw0 mixed [0, 1, 2, 3, 4, 5, 6] [] (by kernel_rfl) ?_
  repeat (refine dA rfl rfl rfl (by first|((first|apply qia|apply qmf|apply qmv|apply qas|apply qlc|apply qla|apply qfa|apply qnc|apply qpk|apply qls|apply qln|apply qgt|apply qge|apply qxt|apply qsb|apply qnt)<;>(first|exact rfl|assumption|exact Ar.mk (by omega)|exact dct (by first|assumption|omega)|exact dcf (by first|assumption|omega)|exact List.not_mem_nil|apply dc_length|apply hc_length|apply pc_length|exact nm1 (by omega)|fail))|fail) ?_)
  refine Der.call rfl rfl rfl (vs := [pv p (.slice a p.held.length c), dv h.name]) (by repeat' (first | exact True.intro | exact rho_of rfl | refine And.intro ?_ ?_)) (fun W hk _ => hpl W hk) ?_
  repeat (refine dA rfl rfl rfl (by first|((first|apply qia|apply qmf|apply qmv|apply qas|apply qlc|apply qla|apply qfa|apply qnc|apply qpk|apply qls|apply qln|apply qgt|apply qge|apply qxt|apply qsb|apply qnt)<;>(first|exact rfl|assumption|exact Ar.mk (by omega)|exact dct (by first|assumption|omega)|exact dcf (by first|assumption|omega)|exact List.not_mem_nil|apply dc_length|apply hc_length|apply pc_length|exact nm1 (by omega)|fail))|fail) ?_)
  refine Der.fin (fun w3 hk3 _ _ => ?_)
  have k3 := k2.trans hk3
  have hB3 := hB.kp0 k3
  have hR3 := hR.kp0 k3
  clear q0 r5 hpl
  obtain ⟨-, -, -, -, r4, -⟩ := pc_rows hB3
  repeat (first|apply cA|apply cB|apply cD|apply cE|apply cF|apply cH|apply cM|refine cY rfl rfl rfl rfl (by first|((first|apply qia|apply qmf|apply qmv|apply qas|apply qlc|apply qla|apply qfa|apply qnc|apply qpk|apply qls|apply qln|apply qgt|apply qge|apply qxt|apply qsb|apply qnt)<;>(first|exact rfl|assumption|exact Ar.mk (by omega)|exact dct (by first|assumption|omega)|exact dcf (by first|assumption|omega)|exact List.not_mem_nil|apply dc_length|apply hc_length|apply pc_length|exact nm1 (by omega)|fail))|fail) ?_)
  refine dD rfl (by exact rho_of rfl) rfl ?_
  by_cases g7 : 16 ≤ p.held.length
  · have e : holdE p h = 8 := by simp [holdE, hs1, g3, g4, g5, g7]
    have g8 : (16 : Int) ≤ (p.held.length : Int) := by omega
    repeat (first|apply cA|apply cB|apply cD|apply cE|apply cF|apply cH|apply cM|refine cY rfl rfl rfl rfl (by first|((first|apply qia|apply qmf|apply qmv|apply qas|apply qlc|apply qla|apply qfa|apply qnc|apply qpk|apply qls|apply qln|apply qgt|apply qge|apply qxt|apply qsb|apply qnt)<;>(first|exact rfl|assumption|exact Ar.mk (by omega)|exact dct (by first|assumption|omega)|exact dcf (by first|assumption|omega)|exact List.not_mem_nil|apply dc_length|apply hc_length|apply pc_length|exact nm1 (by omega)|fail))|fail) ?_)
    refine dB rfl (by exact rho_of rfl) rfl ?_
    repeat (first|apply cA|apply cB|apply cD|apply cE|apply cF|apply cH|apply cM|refine cY rfl rfl rfl rfl (by first|((first|apply qia|apply qmf|apply qmv|apply qas|apply qlc|apply qla|apply qfa|apply qnc|apply qpk|apply qls|apply qln|apply qgt|apply qge|apply qxt|apply qsb|apply qnt)<;>(first|exact rfl|assumption|exact Ar.mk (by omega)|exact dct (by first|assumption|omega)|exact dcf (by first|assumption|omega)|exact List.not_mem_nil|apply dc_length|apply hc_length|apply pc_length|exact nm1 (by omega)|fail))|fail) ?_)
    refine ret1 (Or.inl rfl) Try.results56 (by first | exact ResV.tmp rfl | exact ResV.agg rfl rfl (by assumption) (by first | exact dc_length _ | exact nc_length _ | exact rc_length _ _ _ | exact ec_length _ | exact dl_length _ _ _ _ | rfl) | exact ResV.cell rfl rfl (by assumption)) ?_
    exact fin k3 e (by decide)
  have g8 : ¬ (16 : Int) ≤ (p.held.length : Int) := by omega
  obtain ⟨-, q1, q2, -, -⟩ := hc_rows hR3
  have rj := row_side hB3 hj2
  rw [← hj] at rj
  have hav := have_amt hok h.side
  obtain ⟨g30, g31, g32⟩ := g3
  repeat (first|apply cA|apply cB|apply cD|apply cE|apply cF|apply cH|apply cM|refine cY rfl rfl rfl rfl (by first|((first|apply qia|apply qmf|apply qmv|apply qas|apply qlc|apply qla|apply qfa|apply qnc|apply qpk|apply qls|apply qln|apply qgt|apply qge|apply qxt|apply qsb|apply qnt)<;>(first|exact rfl|assumption|exact Ar.mk (by omega)|exact dct (by first|assumption|omega)|exact dcf (by first|assumption|omega)|exact List.not_mem_nil|apply dc_length|apply hc_length|apply pc_length|exact nm1 (by omega)|fail))|fail) ?_)
  refine dD rfl (by exact rho_of rfl) rfl ?_
  by_cases g9 : haveP p h.side < h.amt
  · have e : holdE p h = 21 := by simp [holdE, hs1, g30, g31, g32, someP, amtP, g4, g5, g7, g9]
    repeat (first|apply cA|apply cB|apply cD|apply cE|apply cF|apply cH|apply cM|refine cY rfl rfl rfl rfl (by first|((first|apply qia|apply qmf|apply qmv|apply qas|apply qlc|apply qla|apply qfa|apply qnc|apply qpk|apply qls|apply qln|apply qgt|apply qge|apply qxt|apply qsb|apply qnt)<;>(first|exact rfl|assumption|exact Ar.mk (by omega)|exact dct (by first|assumption|omega)|exact dcf (by first|assumption|omega)|exact List.not_mem_nil|apply dc_length|apply hc_length|apply pc_length|exact nm1 (by omega)|fail))|fail) ?_)
    refine CG.draw0 mixed [0, 1, 2, 3, 4, 5, 6, 7, 8, 9] [] (by kernel_rfl) ?_
    repeat (refine dA rfl rfl rfl (by first|((first|apply qia|apply qmf|apply qmv|apply qas|apply qlc|apply qla|apply qfa|apply qnc|apply qpk|apply qls|apply qln|apply qgt|apply qge|apply qxt|apply qsb|apply qnt)<;>(first|exact rfl|assumption|exact Ar.mk (by omega)|exact dct (by first|assumption|omega)|exact dcf (by first|assumption|omega)|exact List.not_mem_nil|apply dc_length|apply hc_length|apply pc_length|exact nm1 (by omega)|fail))|fail) ?_)
    refine Der.fin (fun w4 hk4 _ _ => ?_)
    repeat (first|apply cA|apply cB|apply cD|apply cE|apply cF|apply cH|apply cM|refine cY rfl rfl rfl rfl (by first|((first|apply qia|apply qmf|apply qmv|apply qas|apply qlc|apply qla|apply qfa|apply qnc|apply qpk|apply qls|apply qln|apply qgt|apply qge|apply qxt|apply qsb|apply qnt)<;>(first|exact rfl|assumption|exact Ar.mk (by omega)|exact dct (by first|assumption|omega)|exact dcf (by first|assumption|omega)|exact List.not_mem_nil|apply dc_length|apply hc_length|apply pc_length|exact nm1 (by omega)|fail))|fail) ?_)
    refine dB rfl (by exact rho_of rfl) rfl ?_
    repeat (first|apply cA|apply cB|apply cD|apply cE|apply cF|apply cH|apply cM|refine cY rfl rfl rfl rfl (by first|((first|apply qia|apply qmf|apply qmv|apply qas|apply qlc|apply qla|apply qfa|apply qnc|apply qpk|apply qls|apply qln|apply qgt|apply qge|apply qxt|apply qsb|apply qnt)<;>(first|exact rfl|assumption|exact Ar.mk (by omega)|exact dct (by first|assumption|omega)|exact dcf (by first|assumption|omega)|exact List.not_mem_nil|apply dc_length|apply hc_length|apply pc_length|exact nm1 (by omega)|fail))|fail) ?_)
    refine ret1 (Or.inl rfl) Try.results56 (by first | exact ResV.tmp rfl | exact ResV.agg rfl rfl (by assumption) (by first | exact dc_length _ | exact nc_length _ | exact rc_length _ _ _ | exact ec_length _ | exact dl_length _ _ _ _ | rfl) | exact ResV.cell rfl rfl (by assumption)) ?_
    exact fin (k3.trans hk4) e (by decide)
  have e : holdE p h = 0 := by simp [holdE, hs1, g30, g31, g32, someP, amtP, g4, g5, g7, g9]
  clear fin
  repeat (first|apply cA|apply cB|apply cD|apply cE|apply cF|apply cH|apply cM|refine cY rfl rfl rfl rfl (by first|((first|apply qia|apply qmf|apply qmv|apply qas|apply qlc|apply qla|apply qfa|apply qnc|apply qpk|apply qls|apply qln|apply qgt|apply qge|apply qxt|apply qsb|apply qnt)<;>(first|exact rfl|assumption|exact Ar.mk (by omega)|exact dct (by first|assumption|omega)|exact dcf (by first|assumption|omega)|exact List.not_mem_nil|apply dc_length|apply hc_length|apply pc_length|exact nm1 (by omega)|fail))|fail) ?_)
  refine CG.draw0 mixed [0, 1, 2, 3, 4, 5, 6, 7, 8, 9] [] (by kernel_rfl) ?_
  repeat (refine dA rfl rfl rfl (by first|((first|apply qia|apply qmf|apply qmv|apply qas|apply qlc|apply qla|apply qfa|apply qnc|apply qpk|apply qls|apply qln|apply qgt|apply qge|apply qxt|apply qsb|apply qnt)<;>(first|exact rfl|assumption|exact Ar.mk (by omega)|exact dct (by first|assumption|omega)|exact dcf (by first|assumption|omega)|exact List.not_mem_nil|apply dc_length|apply hc_length|apply pc_length|exact nm1 (by omega)|fail))|fail) ?_)
  refine Der.fin (fun w4 hk4 _ _ => ?_)
  have k4 := k3.trans hk4
  have hB4 := hB3.kp0 hk4
  have hR4 := hR3.kp0 hk4
  have rj := rj.kp0 hk4
  have q1 := q1.kp0 hk4
  have q2 := q2.kp0 hk4
  repeat (first|apply cA|apply cB|apply cD|apply cE|apply cF|apply cH|apply cM|refine cY rfl rfl rfl rfl (by first|((first|apply qia|apply qmf|apply qmv|apply qas|apply qlc|apply qla|apply qfa|apply qnc|apply qpk|apply qls|apply qln|apply qgt|apply qge|apply qxt|apply qsb|apply qnt)<;>(first|exact rfl|assumption|exact Ar.mk (by omega)|exact dct (by first|assumption|omega)|exact dcf (by first|assumption|omega)|exact List.not_mem_nil|apply dc_length|apply hc_length|apply pc_length|exact nm1 (by omega)|fail))|fail) ?_)
  refine dD rfl (by exact rho_of rfl) rfl ?_
  repeat (first|apply cA|apply cB|apply cD|apply cE|apply cF|apply cH|apply cM|refine cY rfl rfl rfl rfl (by first|((first|apply qia|apply qmf|apply qmv|apply qas|apply qlc|apply qla|apply qfa|apply qnc|apply qpk|apply qls|apply qln|apply qgt|apply qge|apply qxt|apply qsb|apply qnt)<;>(first|exact rfl|assumption|exact Ar.mk (by omega)|exact dct (by first|assumption|omega)|exact dcf (by first|assumption|omega)|exact List.not_mem_nil|apply dc_length|apply hc_length|apply pc_length|exact nm1 (by omega)|fail))|fail) ?_)
  refine CG.tail mixed 12 [0, 1, 2, 3, 4, 5, 6, 7, 8, 9, 10, 11] (by kernel_rfl) ?_
  repeat (refine dA rfl rfl rfl (by first|((first|apply qia|apply qmf|apply qmv|apply qas|apply qlc|apply qla|apply qfa|apply qnc|apply qpk|apply qls|apply qln|apply qgt|apply qge|apply qxt|apply qsb|apply qnt)<;>(first|exact rfl|assumption|exact Ar.mk (by omega)|exact dct (by first|assumption|omega)|exact dcf (by first|assumption|omega)|exact List.not_mem_nil|apply dc_length|apply hc_length|apply pc_length|exact nm1 (by omega)|fail))|fail) ?_)
  refine Der.tl (fun w5 hk5 _ _ => ?_)
  have hB5 := hB4.kp0 hk5
  have hR5 := hR4.kp0 hk5
  have k5 := k4.trans hk5
  have ho5 := own_kp0 ho k5
  clear rj q1 q2 r4
  repeat (first|apply cA|apply cB|apply cD|apply cE|apply cF|apply cH|apply cM|refine cY rfl rfl rfl rfl (by first|((first|apply qia|apply qmf|apply qmv|apply qas|apply qlc|apply qla|apply qfa|apply qnc|apply qpk|apply qls|apply qln|apply qgt|apply qge|apply qxt|apply qsb|apply qnt)<;>(first|exact rfl|assumption|exact Ar.mk (by omega)|exact dct (by first|assumption|omega)|exact dcf (by first|assumption|omega)|exact List.not_mem_nil|apply dc_length|apply hc_length|apply pc_length|exact nm1 (by omega)|fail))|fail) ?_)
  refine SG.store rfl rfl (by exact rho_of rfl) (by exact rho_of rfl) hB5 rfl (by show 0 + 9 + j * 1 + 1 ≤ _; simp [pc_length]; omega) rfl (fun w6 hk6 hB6 => ?_)
  have hB6 : Blk w6 bq (.cells (spl (pc p (.slice a p.held.length c)) (9 + j) [.int .i64 (haveP p h.side + (-h.amt))]).toArray 34) := by
    have e9 : 9 + j = 0 + 9 + j * 1 := by omega
    rw [e9]
    exact hB6
  rw [hj, pc_side hj2] at hB6
  have ho6 := own_kp ho5 hk6 (own_neb ho5 (by decide) hB5)
  have hb3q : b3 ≠ bq := fun e => by
    subst e
    have := hR.uniq hB
    simp only [Obj.cells.injEq] at this
    exact absurd this.2.1 (by decide)
  have hR6 := hR5.kp hk6 (nm1 hb3q)
  have hnb : bq ∉ ownB (.slice a p.held.length c) := fun hm => own_neb ho (by decide) hB bq (ownB_mem hm) (by simp)
  have hph := addP_held p (j : Int) (-h.amt)
  obtain ⟨-, -, -, -, r4, -⟩ := pc_rows hB6
  obtain ⟨-, -, -, -, q4⟩ := hc_rows hR6
  have s6 := (k5.any.trans hk6).size
  repeat (first|apply cA|apply cB|apply cD|apply cE|apply cF|apply cH|apply cM|refine cY rfl rfl rfl rfl (by first|((first|apply qia|apply qmf|apply qmv|apply qas|apply qlc|apply qla|apply qfa|apply qnc|apply qpk|apply qls|apply qln|apply qgt|apply qge|apply qxt|apply qsb|apply qnt)<;>(first|exact rfl|assumption|exact Ar.mk (by omega)|exact dct (by first|assumption|omega)|exact dcf (by first|assumption|omega)|exact List.not_mem_nil|apply dc_length|apply hc_length|apply pc_length|exact nm1 (by omega)|fail))|fail) ?_)
  refine CG.rows1 (base := base) (enc := hc) (E := 56) (sz := 11) (v := .slice a p.held.length c) (l := p.held) mixed 8 [0, 1, 2, 3, 4, 5, 6, 7] [⟨1000, 0, oP base 56 11 hc p.held⟩, ⟨6, 1, oP w6.heap.size 56 11 hc [h]⟩, ⟨7, 0, oP base 56 11 hc (p.held ++ [h])⟩] rfl ho6 (by kernel_rfl) (by kernel_rfl) (by repeat' (first | exact OkL.nil | refine OkL.cons ?_ ?_ | exact oP_ok | exact bP_ok)) ?_
  repeat (refine DerR.val rfl rfl rfl rfl (by first|((first|apply qia|apply qmf|apply qmv|apply qas|apply qlc|apply qla|apply qfa|apply qnc|apply qpk|apply qls|apply qln|apply qgt|apply qge|apply qxt|apply qsb|apply qnt)<;>(first|exact rfl|assumption|exact Ar.mk (by omega)|exact dct (by first|assumption|omega)|exact dcf (by first|assumption|omega)|exact List.not_mem_nil|apply dc_length|apply hc_length|apply pc_length|exact nm1 (by omega)|fail))|fail) ?_)
  refine DerR.buildO [h] hc_length rfl rfl rfl rfl rfl (by repeat' (first | exact OkL.nil | refine OkL.cons ?_ ?_ | exact oP_ok | exact bP_ok)) rfl (Nat.le_refl _) (by simp [maxLen]) (fun w => by rw [flt_one]; exact bsH h w) (fun v8 => ?_)
  refine DerR.append (src := 1000) p.held [h] [(1000, p.held)] hc_length hc_one rfl rfl (by kernel_rfl) ⟨Nat.le_refl _, trivial⟩ rfl rfl rfl (by repeat' (first | exact OkL.nil | refine OkL.cons ?_ ?_ | exact oP_ok | exact bP_ok)) (by exact rho_of rfl) (by exact rho_of rfl) rfl rfl rfl (by simp only [maxLen, List.length_cons, List.length_nil]; omega) (by show (p.held.length + 1) * 32 ≤ _; omega) (by omega) (.tail _ (.head _)) (by kernel_rfl) (fun w hk hF => oP.sl hc_length (hF.get (.head _) (by kernel_rfl) rfl)) (fun v9 => ?_)
  refine DerR.tl (fun w7 V hok2 hV => ?_)
  have ho7 : w7.ownsRow base 56 11 v9 (p.held ++ [h]).length (flt hc (p.held ++ [h])) := hok2.get hV (.head _) rfl
  have hk7 := hok2.kp
  have hB7 := hB6.kp hk7 hnb
  obtain ⟨a9, c9, rfl, _, _⟩ := Sl.own hc_length ho7 rfl
  repeat (first|apply cA|apply cB|apply cD|apply cE|apply cF|apply cH|apply cM|refine cY rfl rfl rfl rfl (by first|((first|apply qia|apply qmf|apply qmv|apply qas|apply qlc|apply qla|apply qfa|apply qnc|apply qpk|apply qls|apply qln|apply qgt|apply qge|apply qxt|apply qsb|apply qnt)<;>(first|exact rfl|assumption|exact Ar.mk (by omega)|exact dct (by first|assumption|omega)|exact dcf (by first|assumption|omega)|exact List.not_mem_nil|apply dc_length|apply hc_length|apply pc_length|exact nm1 (by omega)|fail))|fail) ?_)
  refine SG.store rfl rfl (by exact rho_of rfl) (by exact rho_of rfl) hB7 rfl (by show 0 + 11 + 1 ≤ _; simp [pc_length]) rfl (fun w8 hk8 hB8 => ?_)
  have hB8 : Blk w8 bq (.cells (spl (pc (addP p (j : Int) (-h.amt)) (.slice a p.held.length c)) 11 [.slice a9 (p.held ++ [h]).length c9]).toArray 34) := hB8
  rw [pc_held] at hB8
  have ho8 := own_kp ho7 hk8 (own_neb ho7 (by decide) hB7)
  repeat (first|apply cA|apply cB|apply cD|apply cE|apply cF|apply cH|apply cM|refine cY rfl rfl rfl rfl (by first|((first|apply qia|apply qmf|apply qmv|apply qas|apply qlc|apply qla|apply qfa|apply qnc|apply qpk|apply qls|apply qln|apply qgt|apply qge|apply qxt|apply qsb|apply qnt)<;>(first|exact rfl|assumption|exact Ar.mk (by omega)|exact dct (by first|assumption|omega)|exact dcf (by first|assumption|omega)|exact List.not_mem_nil|apply dc_length|apply hc_length|apply pc_length|exact nm1 (by omega)|fail))|fail) ?_)
  refine ret1 (Or.inl rfl) Try.results56 (by first | exact ResV.tmp rfl | exact ResV.agg rfl rfl (by assumption) (by first | exact dc_length _ | exact nc_length _ | exact rc_length _ _ _ | exact ec_length _ | exact dl_length _ _ _ _ | rfl) | exact ResV.cell rfl rfl (by assumption)) ?_
  refine ⟨by rw [e], ((k5.any.trans (hk6.mono (fun z hz => by rw [List.mem_singleton] at hz; subst hz; simp))).trans (hk7.mono (fun z hz => List.mem_cons_of_mem _ hz))).trans (hk8.mono (fun z hz => by rw [List.mem_singleton] at hz; subst hz; simp)), holdQ p h, _, ?_, fun _ => ⟨rfl, ho8⟩⟩
  rw [show pc (holdQ p h) (.slice a9 (p.held ++ [h]).length c9) = pc (addP p (j : Int) (-h.amt)) (.slice a9 (p.held ++ [h]).length c9) from by unfold holdQ; rw [hj]; rfl]
  exact hB8
set_option maxHeartbeats 16000000 in
theorem hold_spec {w : World} {a : Option Addr} {c : Nat} (p : Pu) (h : Hd) (hS : Sl hc 11 w a p.held) (hl : p.held.length ≤ 1000) (hcap : p.held.length ≤ c) : Calls Try.prog 36 #[pv p (.slice a p.held.length c), hv h] w (fun e w' => ∃ v, e = .returned (.tuple #[v, .int .i64 (chgZ p (holdE p h))]) ∧ Kp [] w w' ∧ (chgZ p (holdE p h) = 0 → PuAt w.heap.size w' v (nextP (holdQ p h))) ∧ (chgZ p (holdE p h) ≠ 0 → v = pv zPu (.slice none 0 0))) := by
  refine enter2 Try.func36 rfl Try.ntmps36 rfl ?_
  repeat (first|apply cA|apply cB|apply cD|apply cE|apply cF|apply cH|apply cM|refine cY rfl rfl rfl rfl (by first|((first|apply qia|apply qmf|apply qmv|apply qas|apply qlc|apply qla|apply qfa|apply qnc|apply qpk|apply qls|apply qln|apply qgt|apply qge|apply qxt|apply qsb|apply qnt)<;>(first|exact rfl|assumption|exact Ar.mk (by omega)|exact dct (by first|assumption|omega)|exact dcf (by first|assumption|omega)|exact List.not_mem_nil|apply dc_length|apply hc_length|apply pc_length|exact nm1 (by omega)|fail))|fail) ?_)
  refine SG.box rfl rfl rfl (by exact rho_of rfl) (fun b2 w1 hk1 hb2 hB2 => ?_)
  have hB2 : Blk w1 b2 (.cells (pc p (.slice a p.held.length c)).toArray 34) := hB2
  refine SG.box rfl rfl rfl (by exact rho_of rfl) (fun b3 w2 hk2 hb3 hB3 => ?_)
  have hB3 : Blk w2 b3 (.cells (hc h).toArray 56) := hB3
  refine SG.alloc rfl rfl rfl (fun b4 w3 hk3 hb4 hB4 => ?_)
  have hB3 := hB3.kp0 hk3
  have hB2 := (hB2.kp0 hk2).kp0 hk3
  have k3 := (hk1.trans hk2).trans hk3
  have s1 := hk1.size
  have s2 := hk2.size
  obtain ⟨-, -, -, -, -, r5⟩ := pc_rows hB2
  repeat (first|apply cA|apply cB|apply cD|apply cE|apply cF|apply cH|apply cM|refine cY rfl rfl rfl rfl (by first|((first|apply qia|apply qmf|apply qmv|apply qas|apply qlc|apply qla|apply qfa|apply qnc|apply qpk|apply qls|apply qln|apply qgt|apply qge|apply qxt|apply qsb|apply qnt)<;>(first|exact rfl|assumption|exact Ar.mk (by omega)|exact dct (by first|assumption|omega)|exact dcf (by first|assumption|omega)|exact List.not_mem_nil|apply dc_length|apply hc_length|apply pc_length|exact nm1 (by omega)|fail))|fail) ?_)
  refine cY rfl rfl rfl rfl (qmf (vs := [.pointer (some ⟨b3, 0, none⟩)]) rfl) ?_
  refine SG.call rfl rfl rfl (vs := [pv p (.slice a p.held.length c), fnv 56 [.pointer (some ⟨b3, 0, none⟩)]]) (by repeat' (first | exact True.intro | exact rho_of rfl | refine And.intro ?_ ?_)) ((changed_spec p (holdQ p h) (holdE p h) (hS.kp0 k3) hl hcap (addP_num _ _ _) (fun hc0 W bq s hk hbq hB ho => hold1_spec hB (hB3.kp0 hk) ho hk.size (pu_ok hc0) (fun hm => by have h1 := own_geB ho b3 (ownB_mem hm); have h2 := hB3.lt; omega))).mono (fun e w4 hh => ?_))
  obtain ⟨v, he, hk4, h1, h2⟩ := hh
  refine ⟨_, he, ?_⟩
  have hB4 := hB4.kp0 hk4
  by_cases hz : chgZ p (holdE p h) = 0
  · obtain ⟨s, rfl, ho⟩ := h1 hz
    obtain ⟨a5, c5, rfl, _, _⟩ := Sl.own hc_length ho rfl
    repeat (first|apply cA|apply cB|apply cD|apply cE|apply cF|apply cH|apply cM|refine cY rfl rfl rfl rfl (by first|((first|apply qia|apply qmf|apply qmv|apply qas|apply qlc|apply qla|apply qfa|apply qnc|apply qpk|apply qls|apply qln|apply qgt|apply qge|apply qxt|apply qsb|apply qnt)<;>(first|exact rfl|assumption|exact Ar.mk (by omega)|exact dct (by first|assumption|omega)|exact dcf (by first|assumption|omega)|exact List.not_mem_nil|apply dc_length|apply hc_length|apply pc_length|exact nm1 (by omega)|fail))|fail) ?_)
    refine SG.setAll (l := pc (nextP (holdQ p h)) (.slice a5 (nextP (holdQ p h)).held.length c5)) rfl rfl (by exact rho_of rfl) (by exact rho_of rfl) hB4 (pc_length _ _) rfl (pc_one _ _ _ _) (fun w5 hk5 hB5 => ?_)
    have hr : Row w5 b4 0 (pc (nextP (holdQ p h)) (.slice a5 (nextP (holdQ p h)).held.length c5)) := Row.all hB5 rfl
    have ho5 := own_kp (own_mono ho k3.size) hk5 (own_neb (own_mono ho k3.size) (by decide) hB4)
    repeat (first|apply cA|apply cB|apply cD|apply cE|apply cF|apply cH|apply cM|refine cY rfl rfl rfl rfl (by first|((first|apply qia|apply qmf|apply qmv|apply qas|apply qlc|apply qla|apply qfa|apply qnc|apply qpk|apply qls|apply qln|apply qgt|apply qge|apply qxt|apply qsb|apply qnt)<;>(first|exact rfl|assumption|exact Ar.mk (by omega)|exact dct (by first|assumption|omega)|exact dcf (by first|assumption|omega)|exact List.not_mem_nil|apply dc_length|apply hc_length|apply pc_length|exact nm1 (by omega)|fail))|fail) ?_)
    refine ret2 (Or.inl rfl) Try.results36 (ResV.agg rfl rfl hr (pc_length _ _)) (by first | exact ResV.tmp rfl | exact ResV.agg rfl rfl (by assumption) (by first | exact dc_length _ | exact nc_length _ | exact rc_length _ _ _ | exact ec_length _ | exact dl_length _ _ _ _ | rfl) | exact ResV.cell rfl rfl (by assumption)) ?_
    exact ⟨_, rfl, (k3.trans hk4).trans_new hk5 (new1 (by omega)), fun _ => ⟨_, rfl, ho5⟩, fun h => absurd hz h⟩
  · have hv2 := h2 hz
    subst hv2
    repeat (first|apply cA|apply cB|apply cD|apply cE|apply cF|apply cH|apply cM|refine cY rfl rfl rfl rfl (by first|((first|apply qia|apply qmf|apply qmv|apply qas|apply qlc|apply qla|apply qfa|apply qnc|apply qpk|apply qls|apply qln|apply qgt|apply qge|apply qxt|apply qsb|apply qnt)<;>(first|exact rfl|assumption|exact Ar.mk (by omega)|exact dct (by first|assumption|omega)|exact dcf (by first|assumption|omega)|exact List.not_mem_nil|apply dc_length|apply hc_length|apply pc_length|exact nm1 (by omega)|fail))|fail) ?_)
    refine SG.setAll (l := pc zPu (.slice none 0 0)) rfl rfl (by exact rho_of rfl) (by exact rho_of rfl) hB4 (pc_length _ _) rfl (pc_one _ _ _ _) (fun w5 hk5 hB5 => ?_)
    have hr : Row w5 b4 0 (pc zPu (.slice none 0 0)) := Row.all hB5 rfl
    repeat (first|apply cA|apply cB|apply cD|apply cE|apply cF|apply cH|apply cM|refine cY rfl rfl rfl rfl (by first|((first|apply qia|apply qmf|apply qmv|apply qas|apply qlc|apply qla|apply qfa|apply qnc|apply qpk|apply qls|apply qln|apply qgt|apply qge|apply qxt|apply qsb|apply qnt)<;>(first|exact rfl|assumption|exact Ar.mk (by omega)|exact dct (by first|assumption|omega)|exact dcf (by first|assumption|omega)|exact List.not_mem_nil|apply dc_length|apply hc_length|apply pc_length|exact nm1 (by omega)|fail))|fail) ?_)
    refine ret2 (Or.inl rfl) Try.results36 (ResV.agg rfl rfl hr (pc_length _ _)) (by first | exact ResV.tmp rfl | exact ResV.agg rfl rfl (by assumption) (by first | exact dc_length _ | exact nc_length _ | exact rc_length _ _ _ | exact ec_length _ | exact dl_length _ _ _ _ | rfl) | exact ResV.cell rfl rfl (by assumption)) ?_
    exact ⟨_, rfl, (k3.trans hk4).trans_new hk5 (new1 (by omega)), fun h => absurd h hz, fun _ => rfl⟩
end Go.Proofs.Ytajllbdeoopimaa
namespace Go.Proofs.Ytajllbdeoopimaa
set_option linter.unusedVariables false
section
variable {P : Program} {S : List Nat} {w0 : World} {F : World → Prop} {L : Env} {d : Option Nat} {ty : TypeId} {pos : String} {af : Array Edge} {g : Option (Nat × Bool)}
/-- 's[j:m]', where j stands before the end of what there is room for. -/
theorem qfh {T E : TypeId} [u : Ut P T (.slice E)] {sz : Nat} [f : Sz P E sz] {x lo hi : Operand} {b off n c : Nat} {k k' : IntKind} {z z' : Int} {j m : Nat} (hx : ro L x = some (.slice (some ⟨b, off, none⟩) n c)) (hlo : ro L lo = some (.int k z)) (hhi : ro L hi = some (.int k' z')) (hz : z = (j : Int)) (hz' : z' = (m : Int)) (hj : Ar (j ≤ m ∧ m ≤ c ∧ j < c)) :
    Vals P S w0 F L ⟨d, .slice T x (some lo) (some hi) none, ty, pos, af, g⟩ (.slice (some ⟨b, off + j * sz, none⟩) (m - j) (c - j)) := fun w _ _ => by
  obtain ⟨i, h2, h3⟩ := f.eq
  obtain ⟨q1, q2, q3⟩ := hj.h
  subst h3
  subst hz
  subst hz'
  simp only [execOp, rho_of hx, Option.map_some, Option.map_none, rho_of hlo, rho_of hhi, Instr.sliceAt, Sem.run_bind, run_underlying u.eq, Result.andThen, Instr.slice, Instr.sliceBounds, Instr.sliceBound, asIntOf, Sem.run_pure]
  have h5 : (0 : Int) ≤ (m : Int) ∧ (m : Int) ≤ (c : Int) := ⟨by omega, by omega⟩
  simp only [h5, and_self, if_true, Sem.run_pure, Int.toNat_natCast]
  have h6 : (0 : Int) ≤ (j : Int) ∧ (j : Int) ≤ (m : Int) := ⟨by omega, by omega⟩
  simp only [h6, and_self, if_true, Sem.run_pure, sizeOf, typeInfo, Sem.run_bind, run_program, Result.andThen, h2]
  have hc : c ≠ j := by omega
  simp [hc, add_none]
end
section
variable {P : Program} {n : Nat} {Q : Exit → Act → World → Prop} {L : Env} {w : World} {ops : List Oper} {rest : List Oper} {ty : TypeId} {pos : String} {af : Array Edge} {g : Option (Nat × Bool)}
end
end Go.Proofs.Ytajllbdeoopimaa
namespace Go.Proofs.Ytajllbdeoopimaa
set_option linter.unusedVariables false
theorem sl_drop {α : Type} {enc : α → List Value} {sz : Nat} {w : World} {b off c j : Nat} {l : List α} (hS : Sl enc sz w (some ⟨b, off, none⟩) l) (hc : l.length ≤ c) : Sl enc sz w (some ⟨b, if c = j then off else off + j * sz, none⟩) (l.drop j) := fun i x hx => by
  rw [List.getElem?_drop] at hx
  have hlt := (List.getElem?_eq_some_iff.1 hx).1
  obtain ⟨b', off', h, hr⟩ := hS _ x hx
  cases h
  rw [if_neg (by omega)]
  refine ⟨_, _, rfl, ?_⟩
  rw [Nat.add_mul, ← Nat.add_assoc] at hr
  exact hr
theorem chkL_all : ∀ {l s : List Hd}, chkL s l = 0 → ∀ h ∈ l, h.Ok
  | [], _, _, h, hm => by cases hm
  | x :: l, s, hc, h, hm => by
    by_cases hx : x.Ok
    · cases ha : s.any (fun o => decide (o.name = x.name)) with
      | true => rw [chkL_two hx ha] at hc; cases hc
      | false =>
        rw [chkL_on hx ha] at hc
        rcases List.mem_cons.1 hm with rfl | hm
        · exact hx
        · exact chkL_all hc h hm
    · rw [chkL_bad hx] at hc
      cases hc
attribute [local irreducible] CG NG SG Vals Der Row Blk MapIs IterAt chkL DerR
set_option maxHeartbeats 16000000 in
theorem hdel_spec {w : World} {base : Nat} {v : Value} {l : List Hd} {i : Nat} (ho : w.ownsRow base 56 11 v l.length (flt hc l)) (hl : l.length ≤ 1000) (hi : i < l.length) (hbase : base ≤ w.heap.size) : Calls Try.prog 73 #[v, .int .i64 (i : Int), .int .i64 ((i : Int) + 1)] w (fun e w' => ∃ v', e = .returned v' ∧ Kp (ownB v) w w' ∧ w'.ownsRow base 56 11 v' (cutL l i).length (flt hc (cutL l i))) := by
  refine enter3 Try.func73 rfl Try.ntmps73 rfl ?_
  obtain ⟨g, cap, rfl, hcp⟩ := own_slice ho (by omega)
  have hS : Sl hc 11 w (some ⟨g, 0, none⟩) l := by
    obtain ⟨_, _, e, _, h⟩ := Sl.own hc_length ho rfl
    cases e
    exact h
  have g1 : ¬ (i : Int) = (i : Int) + 1 := by omega
  repeat (first|apply cA|apply cB|apply cD|apply cE|apply cF|apply cH|refine cY rfl rfl rfl rfl (by first|((first|apply qia|apply qfh|apply qmv|apply qas|apply qlc|apply qla|apply qfa|apply qnc|apply qix|apply qei|apply qad|apply qln|apply qsb|apply qfr|apply qto)<;>(first|exact rfl|assumption|exact Ar.mk (by omega)|exact dcf (by first|assumption|omega)|exact List.not_mem_nil|apply hc_length|apply pc_length|exact nm1 (by omega)|fail))|fail) ?_)
  refine cY rfl rfl rfl rfl (qf3 (j := i) (m := i + 1) (r := l.length) rfl rfl rfl rfl rfl (by omega) rfl (by omega)) ?_
  repeat (first|apply cA|apply cB|apply cD|apply cE|apply cF|apply cH|refine cY rfl rfl rfl rfl (by first|((first|apply qia|apply qfh|apply qmv|apply qas|apply qlc|apply qla|apply qfa|apply qnc|apply qix|apply qei|apply qad|apply qln|apply qsb|apply qfr|apply qto)<;>(first|exact rfl|assumption|exact Ar.mk (by omega)|exact dcf (by first|assumption|omega)|exact List.not_mem_nil|apply hc_length|apply pc_length|exact nm1 (by omega)|fail))|fail) ?_)
  refine dD rfl (by exact rho_of rfl) rfl ?_
  repeat (first|apply cA|apply cB|apply cD|apply cE|apply cF|apply cH|refine cY rfl rfl rfl rfl (by first|((first|apply qia|apply qfh|apply qmv|apply qas|apply qlc|apply qla|apply qfa|apply qnc|apply qix|apply qei|apply qad|apply qln|apply qsb|apply qfr|apply qto)<;>(first|exact rfl|assumption|exact Ar.mk (by omega)|exact dcf (by first|assumption|omega)|exact List.not_mem_nil|apply hc_length|apply pc_length|exact nm1 (by omega)|fail))|fail) ?_)
  refine CG.tail mixed 6 [0, 1, 2, 3, 4, 5] (by kernel_rfl) ?_
  repeat (refine dA rfl rfl rfl (by first|((first|apply qia|apply qfh|apply qmv|apply qas|apply qlc|apply qla|apply qfa|apply qnc|apply qix|apply qei|apply qad|apply qln|apply qsb|apply qfr|apply qto)<;>(first|exact rfl|assumption|exact Ar.mk (by omega)|exact dcf (by first|assumption|omega)|exact List.not_mem_nil|apply hc_length|apply pc_length|exact nm1 (by omega)|fail))|fail) ?_)
  refine dA rfl rfl rfl (qfr (j := i + 1) rfl rfl (by omega) (Ar.mk (by omega))) ?_
  refine Der.tl (fun w1 hk1 _ _ => ?_)
  have ho1 := own_kp0 ho hk1
  refine SG.appRoom (enc := hc) (base := base) (xs := l.take i) (ys := l.drop (i + 1)) rfl rfl rfl (by exact rho_of rfl) (by exact rho_of rfl) List.length_drop.symm rfl rfl rfl hc_length hc_one (own_take hc_length ho1 rfl (by omega)) (by rw [List.length_take]; omega) (sl_drop (hS.kp0 hk1) hcp) (by rw [List.length_drop]; omega) (by rw [List.length_drop]; simp only [maxLen]; omega) (by rw [List.length_drop]; show (i + (l.length - (i + 1))) * 32 ≤ _; omega) (Nat.le_trans hbase hk1.size) (fun w2 hk2 ho2 => ?_)
  have ek : i + (l.length - (i + 1)) = l.length - 1 := by omega
  have hcl : (cutL l i).length = l.length - 1 := by
    unfold cutL
    rw [List.length_append, List.length_take, List.length_drop]
    omega
  rw [ek] at ho2 ⊢
  repeat (first|apply cA|apply cB|apply cD|apply cE|apply cF|apply cH|refine cY rfl rfl rfl rfl (by first|((first|apply qia|apply qfh|apply qmv|apply qas|apply qlc|apply qla|apply qfa|apply qnc|apply qix|apply qei|apply qad|apply qln|apply qsb|apply qfr|apply qto)<;>(first|exact rfl|assumption|exact Ar.mk (by omega)|exact dcf (by first|assumption|omega)|exact List.not_mem_nil|apply hc_length|apply pc_length|exact nm1 (by omega)|fail))|fail) ?_)
  refine SG.clearT (base := base) (g := g) (k := l.length - 1) (m := 0) (cap := cap) (xs := flt hc (cutL l i)) (z := .agg ((dc zd ++ [.int .i64 0, .int .i64 0, .int .i64 0] : List Value).toArray)) (T := 56) (c2 := cap - (l.length - 1)) rfl rfl ?_ rfl rfl rfl ho2 (by omega) (fun w3 hk3 ho3 => ?_)
  · refine (rho_of rfl).trans ?_
    rw [Nat.zero_add, show l.length - (l.length - 1) = 0 + 1 by omega]
    rfl
  repeat (first|apply cA|apply cB|apply cD|apply cE|apply cF|apply cH|refine cY rfl rfl rfl rfl (by first|((first|apply qia|apply qfh|apply qmv|apply qas|apply qlc|apply qla|apply qfa|apply qnc|apply qix|apply qei|apply qad|apply qln|apply qsb|apply qfr|apply qto)<;>(first|exact rfl|assumption|exact Ar.mk (by omega)|exact dcf (by first|assumption|omega)|exact List.not_mem_nil|apply hc_length|apply pc_length|exact nm1 (by omega)|fail))|fail) ?_)
  refine ret1 (Or.inl rfl) Try.results73 (by first | exact ResV.tmp rfl | exact ResV.agg rfl rfl (by assumption) (by first | exact dc_length _ | exact nc_length _ | exact rc_length _ _ _ | exact ec_length _ | exact dl_length _ _ _ _ | rfl) | exact ResV.cell rfl rfl (by assumption)) ?_
  exact ⟨_, rfl, (hk1.any.trans hk2).trans hk3, by rw [hcl]; exact ho3⟩
set_option maxHeartbeats 16000000 in
theorem part_spec {w : World} {base bq : Nat} {p : Pu} {s : Value} {i : Nat} {over : Int} (hB : Blk w bq (.cells (pc p s).toArray 34)) (ho : w.ownsRow base 56 11 s p.held.length (flt hc p.held)) (hbase : base ≤ w.heap.size) (hok : p.Ok) (hi : i < p.held.length) (h0 : 0 ≤ over) (h1 : over ≤ p.held[i].amt) :
    Calls Try.prog 58 #[.pointer (some ⟨bq, 0, none⟩), .int .i64 (i : Int), .int .i64 over] w (fun e w' => e = .returned (.tuple #[]) ∧ Kp (bq :: ownB s) w w' ∧ ∃ s', Blk w' bq (.cells (pc (partP p i p.held[i] over) s').toArray 34) ∧ w'.ownsRow base 56 11 s' (partP p i p.held[i] over).held.length (flt hc (partP p i p.held[i] over).held)) := by
  refine enter3 Try.func58 rfl Try.ntmps58 rfl ?_
  obtain ⟨g, cap, rfl, hcp⟩ := own_slice ho (by omega)
  have hl16 := hok.l
  have hrow := own_at hc_length ho rfl hi
  have hhk := chkL_all hok.c _ (List.getElem_mem hi)
  generalize p.held[i] = h at hrow hhk h1
  obtain ⟨j, hj, hj2⟩ : ∃ j : Nat, h.side = (j : Int) ∧ j < 2 := ⟨h.side.toNat, by have := hhk.s0; omega, by have := hhk.s0; have := hhk.s1; omega⟩
  have ha0 := hhk.a0
  have ha1 := hhk.a1
  obtain ⟨-, -, -, -, r4, -⟩ := pc_rows hB
  repeat (first|apply cA|apply cB|apply cD|apply cE|apply cF|apply cH|refine cY rfl rfl rfl rfl (by first|((first|apply qia|apply qfh|apply qmv|apply qas|apply qlc|apply qla|apply qfa|apply qnc|apply qix|apply qei|apply qad|apply qln|apply qsb|apply qfr|apply qto)<;>(first|exact rfl|assumption|exact Ar.mk (by omega)|exact dcf (by first|assumption|omega)|exact List.not_mem_nil|apply hc_length|apply pc_length|exact nm1 (by omega)|fail))|fail) ?_)
  refine SG.alloc rfl rfl rfl (fun b6 w1 hk1 hb6 hB6 => ?_)
  refine SG.setAll (l := hc h) rfl rfl (by exact rho_of rfl) (by exact rho_of rfl) hB6 (hc_length _) rfl (hc_one _) (fun w2 hk2 hB6 => ?_)
  have hB6 : Blk w2 b6 (.cells (hc h).toArray 56) := hB6
  have k2 : Kp [] w w2 := hk1.trans_new hk2 (new1 (by omega))
  have hB2 := hB.kp0 k2
  have ho2 := own_kp0 ho k2
  obtain ⟨-, q1, q2, -, -⟩ := hc_rows hB6
  have hb6q : b6 ≠ bq := by have := hB.lt; omega
  obtain ⟨j', hj', hj2'⟩ : ∃ j' : Nat, 1 - h.side = (j' : Int) ∧ j' < 2 := ⟨1 - j, by omega, by omega⟩
  have rj := row_side hB2 hj2'
  rw [← hj'] at rj
  have hav := have_amt hok (1 - h.side)
  clear r4 hrow
  repeat (first|apply cA|apply cB|apply cD|apply cE|apply cF|apply cH|refine cY rfl rfl rfl rfl (by first|((first|apply qia|apply qfh|apply qmv|apply qas|apply qlc|apply qla|apply qfa|apply qnc|apply qix|apply qei|apply qad|apply qln|apply qsb|apply qfr|apply qto)<;>(first|exact rfl|assumption|exact Ar.mk (by omega)|exact dcf (by first|assumption|omega)|exact List.not_mem_nil|apply hc_length|apply pc_length|exact nm1 (by omega)|fail))|fail) ?_)
  refine CG.tail mixed 12 [0, 1, 2, 3, 4, 5, 6, 7, 8, 9, 10, 11] (by kernel_rfl) ?_
  repeat (refine dA rfl rfl rfl (by first|((first|apply qia|apply qfh|apply qmv|apply qas|apply qlc|apply qla|apply qfa|apply qnc|apply qix|apply qei|apply qad|apply qln|apply qsb|apply qfr|apply qto)<;>(first|exact rfl|assumption|exact Ar.mk (by omega)|exact dcf (by first|assumption|omega)|exact List.not_mem_nil|apply hc_length|apply pc_length|exact nm1 (by omega)|fail))|fail) ?_)
  refine Der.tl (fun w3 hk3 _ _ => ?_)
  have hB3 := hB2.kp0 hk3
  have ho3 := own_kp0 ho2 hk3
  have hB6 := hB6.kp0 hk3
  clear rj q1 q2
  repeat (first|apply cA|apply cB|apply cD|apply cE|apply cF|apply cH|refine cY rfl rfl rfl rfl (by first|((first|apply qia|apply qfh|apply qmv|apply qas|apply qlc|apply qla|apply qfa|apply qnc|apply qix|apply qei|apply qad|apply qln|apply qsb|apply qfr|apply qto)<;>(first|exact rfl|assumption|exact Ar.mk (by omega)|exact dcf (by first|assumption|omega)|exact List.not_mem_nil|apply hc_length|apply pc_length|exact nm1 (by omega)|fail))|fail) ?_)
  refine SG.store rfl rfl (by exact rho_of rfl) (by exact rho_of rfl) hB3 rfl (by show 0 + 9 + j' * 1 + 1 ≤ _; simp [pc_length]; omega) rfl (fun w4 hk4 hB4 => ?_)
  have hB4 : Blk w4 bq (.cells (spl (pc p (.slice (some ⟨g, 0, none⟩) p.held.length cap)) (9 + j') [.int .i64 (haveP p (1 - h.side) + over)]).toArray 34) := by
    have e9 : 9 + j' = 0 + 9 + j' * 1 := by omega
    rw [e9]
    exact hB4
  rw [hj', pc_side hj2'] at hB4
  have ho4 := own_kp ho3 hk4 (own_neb ho3 (by decide) hB3)
  have hB6 := hB6.kp hk4 (nm1 hb6q)
  obtain ⟨-, q1, q2, -, -⟩ := hc_rows hB6
  have rj := row_side hB4 hj2
  rw [← hj] at rj
  have hav2 : 0 ≤ haveP (addP p (j' : Int) over) h.side ∧ haveP (addP p (j' : Int) over) h.side ≤ 2251799813685248 := by
    have h3 := have_amt hok 0
    have h4 := have_amt hok 1
    unfold addP haveP at *
    simp at h3 h4
    repeat' split
    all_goals (simp only; omega)
  have k24 : Kp (bq :: ownB (.slice (some ⟨g, 0, none⟩) p.held.length cap)) w w4 := (k2.trans hk3).any.trans (hk4.mono (fun z hz => by rw [List.mem_singleton] at hz; subst hz; simp))
  repeat (first|apply cA|apply cB|apply cD|apply cE|apply cF|apply cH|refine cY rfl rfl rfl rfl (by first|((first|apply qia|apply qfh|apply qmv|apply qas|apply qlc|apply qla|apply qfa|apply qnc|apply qix|apply qei|apply qad|apply qln|apply qsb|apply qfr|apply qto)<;>(first|exact rfl|assumption|exact Ar.mk (by omega)|exact dcf (by first|assumption|omega)|exact List.not_mem_nil|apply hc_length|apply pc_length|exact nm1 (by omega)|fail))|fail) ?_)
  refine CG.tail mixed 14 [0, 1, 2, 3, 4, 5, 6, 7, 8, 9, 10, 11, 12, 13] (by kernel_rfl) ?_
  repeat (refine dA rfl rfl rfl (by first|((first|apply qia|apply qfh|apply qmv|apply qas|apply qlc|apply qla|apply qfa|apply qnc|apply qix|apply qei|apply qad|apply qln|apply qsb|apply qfr|apply qto)<;>(first|exact rfl|assumption|exact Ar.mk (by omega)|exact dcf (by first|assumption|omega)|exact List.not_mem_nil|apply hc_length|apply pc_length|exact nm1 (by omega)|fail))|fail) ?_)
  refine Der.tl (fun w5 hk5 _ _ => ?_)
  have hB5 := hB4.kp0 hk5
  have ho5 := own_kp0 ho4 hk5
  clear rj q1 q2
  repeat (first|apply cA|apply cB|apply cD|apply cE|apply cF|apply cH|refine cY rfl rfl rfl rfl (by first|((first|apply qia|apply qfh|apply qmv|apply qas|apply qlc|apply qla|apply qfa|apply qnc|apply qix|apply qei|apply qad|apply qln|apply qsb|apply qfr|apply qto)<;>(first|exact rfl|assumption|exact Ar.mk (by omega)|exact dcf (by first|assumption|omega)|exact List.not_mem_nil|apply hc_length|apply pc_length|exact nm1 (by omega)|fail))|fail) ?_)
  refine SG.store rfl rfl (by exact rho_of rfl) (by exact rho_of rfl) hB5 rfl (by show 0 + 9 + j * 1 + 1 ≤ _; simp [pc_length]; omega) rfl (fun w6 hk6 hB6 => ?_)
  have hB6 : Blk w6 bq (.cells (spl (pc (addP p (j' : Int) over) (.slice (some ⟨g, 0, none⟩) p.held.length cap)) (9 + j) [.int .i64 (haveP (addP p (j' : Int) over) h.side + (h.amt - over))]).toArray 34) := by
    have e9 : 9 + j = 0 + 9 + j * 1 := by omega
    rw [e9]
    exact hB6
  rw [hj, pc_side hj2] at hB6
  have ho6 := own_kp ho5 hk6 (own_neb ho5 (by decide) hB5)
  obtain ⟨-, -, -, -, r4, -⟩ := pc_rows hB6
  have k6 : Kp (bq :: ownB (.slice (some ⟨g, 0, none⟩) p.held.length cap)) w w6 := (k24.trans hk5.any).trans (hk6.mono (fun z hz => by rw [List.mem_singleton] at hz; subst hz; simp))
  repeat (first|apply cA|apply cB|apply cD|apply cE|apply cF|apply cH|refine cY rfl rfl rfl rfl (by first|((first|apply qia|apply qfh|apply qmv|apply qas|apply qlc|apply qla|apply qfa|apply qnc|apply qix|apply qei|apply qad|apply qln|apply qsb|apply qfr|apply qto)<;>(first|exact rfl|assumption|exact Ar.mk (by omega)|exact dcf (by first|assumption|omega)|exact List.not_mem_nil|apply hc_length|apply pc_length|exact nm1 (by omega)|fail))|fail) ?_)
  refine SG.call rfl rfl rfl (vs := [.slice (some ⟨g, 0, none⟩) p.held.length cap, .int .i64 (i : Int), .int .i64 ((i : Int) + 1)]) (by repeat' (first | exact True.intro | exact rho_of rfl | refine And.intro ?_ ?_)) ((hdel_spec ho6 (by omega) hi (Nat.le_trans hbase k6.size)).mono (fun e w7 hh => ?_))
  obtain ⟨v7, he, hk7, ho7⟩ := hh
  refine ⟨_, he, ?_⟩
  have hB7 := blk_own ho6 (by decide) hB6 hk7
  obtain ⟨a7, c7, rfl, _, _⟩ := Sl.own hc_length ho7 rfl
  repeat (first|apply cA|apply cB|apply cD|apply cE|apply cF|apply cH|refine cY rfl rfl rfl rfl (by first|((first|apply qia|apply qfh|apply qmv|apply qas|apply qlc|apply qla|apply qfa|apply qnc|apply qix|apply qei|apply qad|apply qln|apply qsb|apply qfr|apply qto)<;>(first|exact rfl|assumption|exact Ar.mk (by omega)|exact dcf (by first|assumption|omega)|exact List.not_mem_nil|apply hc_length|apply pc_length|exact nm1 (by omega)|fail))|fail) ?_)
  refine SG.store rfl rfl (by exact rho_of rfl) (by exact rho_of rfl) hB7 rfl (by show 0 + 11 + 1 ≤ _; simp [pc_length]) rfl (fun w8 hk8 hB8 => ?_)
  have hB8 : Blk w8 bq (.cells (spl (pc (addP (addP p (j' : Int) over) (j : Int) (h.amt - over)) (.slice (some ⟨g, 0, none⟩) p.held.length cap)) 11 [.slice a7 (cutL p.held i).length c7]).toArray 34) := hB8
  rw [pc_held] at hB8
  have ho8 := own_kp ho7 hk8 (own_neb ho7 (by decide) hB7)
  repeat (first|apply cA|apply cB|apply cD|apply cE|apply cF|apply cH|refine cY rfl rfl rfl rfl (by first|((first|apply qia|apply qfh|apply qmv|apply qas|apply qlc|apply qla|apply qfa|apply qnc|apply qix|apply qei|apply qad|apply qln|apply qsb|apply qfr|apply qto)<;>(first|exact rfl|assumption|exact Ar.mk (by omega)|exact dcf (by first|assumption|omega)|exact List.not_mem_nil|apply hc_length|apply pc_length|exact nm1 (by omega)|fail))|fail) ?_)
  refine ret0 (Or.inr rfl) Try.results58 ?_
  refine ⟨rfl, (k6.trans (hk7.mono (fun z hz => List.mem_cons_of_mem _ hz))).trans (hk8.mono (fun z hz => by rw [List.mem_singleton] at hz; subst hz; simp)), .slice a7 (cutL p.held i).length c7, ?_, ho8⟩
  rw [show pc (partP p i h over) (.slice a7 (cutL p.held i).length c7) = pc (addP (addP p (j' : Int) over) (j : Int) (h.amt - over)) (.slice a7 (cutL p.held i).length c7) from by unfold partP; rw [← hj', ← hj]; rfl]
  exact hB8
end Go.Proofs.Ytajllbdeoopimaa
namespace Go.Proofs.Ytajllbdeoopimaa
set_option linter.unusedVariables false
def atP (p : Pu) (n : Dg) : Option Hd := p.held[placeN p.held n]?
def freeE (p : Pu) (n : Dg) (over : Int) : Int := match atP p n with
  | none => 9
  | some h => if over < 0 ∨ h.amt < over then 2 else 0
def freeQ (p : Pu) (n : Dg) (over : Int) : Pu := match atP p n with
  | none => p
  | some h => partP p (placeN p.held n) h over
def backE (p : Pu) (n : Dg) (now : Int) : Int := match atP p n with
  | none => 9
  | some h => if now ≤ h.til then 20 else 0
theorem atP_none {p : Pu} {n : Dg} (h : ¬ placeN p.held n < p.held.length) : atP p n = none := by
  unfold atP
  rw [List.getElem?_eq_none (by omega)]
theorem atP_some {p : Pu} {n : Dg} (h : placeN p.held n < p.held.length) : atP p n = some p.held[placeN p.held n] := by
  unfold atP
  rw [List.getElem?_eq_getElem h]
theorem partP_num (p : Pu) (k : Nat) (h : Hd) (over : Int) : (partP p k h over).num = p.num := by
  unfold partP
  simp only [addP_num]
theorem freeQ_num (p : Pu) (n : Dg) (over : Int) : (freeQ p n over).num = p.num := by
  unfold freeQ
  split
  · rfl
  · exact partP_num _ _ _ _
theorem Row.part {w : World} {b off : Nat} {l : List Value} (h : Row w b off l) (pre m post : List Value) (he : l = pre ++ (m ++ post)) : Row w b (off + pre.length) m := by
  obtain ⟨cs, T, f, h1, h2⟩ := h
  refine ⟨cs, T, f, h1, fun i v hv => ?_⟩
  have hi : i < m.length := (List.getElem?_eq_some_iff.1 hv).1
  rw [Nat.add_assoc]
  refine h2 (pre.length + i) v ?_
  rw [he, List.getElem?_append_right (by omega), Nat.add_sub_cancel_left, List.getElem?_append_left hi]
  exact hv
attribute [local irreducible] CG NG SG Vals Der Row Blk MapIs IterAt chkL DerR
set_option maxHeartbeats 16000000 in
theorem copied_spec {w : World} {a : Option Addr} {c : Nat} (p : Pu) (hS : Sl hc 11 w a p.held) (hl : p.held.length ≤ 100000) : Calls Try.prog 35 #[pv p (.slice a p.held.length c)] w (fun e w' => ∃ v, e = .returned v ∧ PuAt w.heap.size w' v p ∧ Kp [] w w') := by
  refine enter1 Try.func35 rfl Try.ntmps35 rfl ?_
  repeat (first|apply cA|apply cB|apply cD|apply cE|apply cF|apply cH|apply cM|refine cY rfl rfl rfl rfl (by first|((first|apply qmf|apply qmv|apply qas|apply qlc|apply qla|apply qfa|apply qnc|apply qix|apply qpk|apply qls|apply qle|apply qgt|apply qxt)<;>(first|exact rfl|assumption|exact Ar.mk (by omega)|exact dct (by first|assumption|omega)|exact dcf (by first|assumption|omega)|exact List.not_mem_nil|apply dc_length|apply hc_length|apply pc_length|exact nm1 (by omega)|fail))|fail) ?_)
  refine SG.box rfl rfl rfl (by exact rho_of rfl) (fun b1 w1 hk1 hb1 hB1 => ?_)
  have hB1 : Blk w1 b1 (.cells (pc p (.slice a p.held.length c)).toArray 34) := hB1
  have l1 := hB1.lt
  refine SG.alloc rfl rfl rfl (fun b2 w2 hk2 hb2 hB2 => ?_)
  have hB1 := hB1.kp0 hk2
  obtain ⟨-, -, -, -, r4, -⟩ := pc_rows hB1
  have s1 := hk1.size
  repeat (first|apply cA|apply cB|apply cD|apply cE|apply cF|apply cH|apply cM|refine cY rfl rfl rfl rfl (by first|((first|apply qmf|apply qmv|apply qas|apply qlc|apply qla|apply qfa|apply qnc|apply qix|apply qpk|apply qls|apply qle|apply qgt|apply qxt)<;>(first|exact rfl|assumption|exact Ar.mk (by omega)|exact dct (by first|assumption|omega)|exact dcf (by first|assumption|omega)|exact List.not_mem_nil|apply dc_length|apply hc_length|apply pc_length|exact nm1 (by omega)|fail))|fail) ?_)
  refine SG.call rfl rfl rfl (vs := [.slice a p.held.length c]) (by repeat' (first | exact True.intro | exact rho_of rfl | refine And.intro ?_ ?_)) ((hclone_spec c (hS.kp0 (hk1.trans hk2)) hl).mono (fun e w3 hh => ?_))
  obtain ⟨v3, he, ho3, hk3⟩ := hh
  refine ⟨_, he, ?_⟩
  obtain ⟨a3, c3, rfl, _, _⟩ := Sl.own hc_length ho3 rfl
  have hB1 := hB1.kp0 hk3
  have hB2 := hB2.kp0 hk3
  repeat (first|apply cA|apply cB|apply cD|apply cE|apply cF|apply cH|apply cM|refine cY rfl rfl rfl rfl (by first|((first|apply qmf|apply qmv|apply qas|apply qlc|apply qla|apply qfa|apply qnc|apply qix|apply qpk|apply qls|apply qle|apply qgt|apply qxt)<;>(first|exact rfl|assumption|exact Ar.mk (by omega)|exact dct (by first|assumption|omega)|exact dcf (by first|assumption|omega)|exact List.not_mem_nil|apply dc_length|apply hc_length|apply pc_length|exact nm1 (by omega)|fail))|fail) ?_)
  refine SG.store rfl rfl (by exact rho_of rfl) (by exact rho_of rfl) hB1 rfl (by show 11 + 1 ≤ _; simp [pc_length]) rfl (fun w4 hk4 hB4 => ?_)
  have hB4 : Blk w4 b1 (.cells (spl (pc p (.slice a p.held.length c)) 11 [.slice a3 p.held.length c3]).toArray 34) := hB4
  rw [pc_held] at hB4
  have ho4 := own_kp ho3 hk4 (own_neb ho3 (by decide) hB1)
  have hB2' := hB2.kp hk4 (nm1 (by omega))
  clear r4
  obtain ⟨-, -, -, -, -, r5⟩ := pc_rows hB4
  repeat (first|apply cA|apply cB|apply cD|apply cE|apply cF|apply cH|apply cM|refine cY rfl rfl rfl rfl (by first|((first|apply qmf|apply qmv|apply qas|apply qlc|apply qla|apply qfa|apply qnc|apply qix|apply qpk|apply qls|apply qle|apply qgt|apply qxt)<;>(first|exact rfl|assumption|exact Ar.mk (by omega)|exact dct (by first|assumption|omega)|exact dcf (by first|assumption|omega)|exact List.not_mem_nil|apply dc_length|apply hc_length|apply pc_length|exact nm1 (by omega)|fail))|fail) ?_)
  refine SG.setAll (l := pc p (.slice a3 p.held.length c3)) rfl rfl (by exact rho_of rfl) (by exact rho_of rfl) hB2' (pc_length _ _) rfl (pc_one _ _ _ _) (fun w5 hk5 hB5 => ?_)
  have hr : Row w5 b2 0 (pc p (.slice a3 p.held.length c3)) := Row.all hB5 rfl
  have ho5 := own_kp ho4 hk5 (own_neb ho4 (by decide) hB2')
  repeat (first|apply cA|apply cB|apply cD|apply cE|apply cF|apply cH|apply cM|refine cY rfl rfl rfl rfl (by first|((first|apply qmf|apply qmv|apply qas|apply qlc|apply qla|apply qfa|apply qnc|apply qix|apply qpk|apply qls|apply qle|apply qgt|apply qxt)<;>(first|exact rfl|assumption|exact Ar.mk (by omega)|exact dct (by first|assumption|omega)|exact dcf (by first|assumption|omega)|exact List.not_mem_nil|apply dc_length|apply hc_length|apply pc_length|exact nm1 (by omega)|fail))|fail) ?_)
  refine ret1 (Or.inl rfl) Try.results35 (ResV.agg rfl rfl hr (pc_length _ _)) ?_
  exact ⟨_, rfl, ⟨_, rfl, own_mono ho5 (hk1.trans hk2).size⟩, (((hk1.trans hk2).trans hk3).trans_new hk4 (new1 (by omega))).trans_new hk5 (new1 (by omega))⟩
set_option maxHeartbeats 16000000 in
theorem free1_spec {w : World} {base bq bn bo : Nat} {p : Pu} {s : Value} {n : Dg} {over : Int} (hB : Blk w bq (.cells (pc p s).toArray 34)) (hN : Row w bn 0 (dc n)) (hO : Row w bo 0 [.int .i64 over]) (ho : w.ownsRow base 56 11 s p.held.length (flt hc p.held)) (hbase : base ≤ w.heap.size) (hok : p.Ok) :
    Calls Try.prog 57 #[.pointer (some ⟨bq, 0, none⟩), .pointer (some ⟨bn, 0, none⟩), .pointer (some ⟨bo, 0, none⟩)] w (fun e w' => e = .returned (.int .i64 (freeE p n over)) ∧ Kp (bq :: ownB s) w w' ∧ ∃ p' s', Blk w' bq (.cells (pc p' s').toArray 34) ∧ (freeE p n over = 0 → p' = freeQ p n over ∧ w'.ownsRow base 56 11 s' (freeQ p n over).held.length (flt hc (freeQ p n over).held))) := by
  refine enter3 Try.func57 rfl Try.ntmps57 rfl ?_
  have hl16 := hok.l
  have fin : ∀ {z : Int} {w' : World}, Kp [] w w' → freeE p n over = z → z ≠ 0 → ((Ending.returned (.int .i64 z) = .returned (.int .i64 (freeE p n over))) ∧ Kp (bq :: ownB s) w w' ∧ ∃ p' s', Blk w' bq (.cells (pc p' s').toArray 34) ∧ (freeE p n over = 0 → p' = freeQ p n over ∧ w'.ownsRow base 56 11 s' (freeQ p n over).held.length (flt hc (freeQ p n over).held))) := fun hk e hz => ⟨by rw [e], hk.any, p, s, hB.kp0 hk, fun h0 => absurd (e.symm.trans h0) hz⟩
  obtain ⟨a, c, rfl, hcap, hS⟩ := Sl.own hc_length ho rfl
  have hpl := fun W (k : Kp [] w W) => place_spec (c := c) p n (hS.kp0 k) (by omega)
  obtain ⟨-, -, -, -, -, r5⟩ := pc_rows hB
  by_cases g5 : placeN p.held n < p.held.length
  rotate_left
  · have e : freeE p n over = 9 := by simp [freeE, atP_none g5]
    have ez : placeZ p.held n = -1 := if_neg g5
    rw [ez] at hpl
    have g6 : (-1 : Int) < 0 := by omega
    repeat (first|apply cA|apply cB|apply cD|apply cE|apply cF|apply cH|apply cM|refine cY rfl rfl rfl rfl (by first|((first|apply qmf|apply qmv|apply qas|apply qlc|apply qla|apply qfa|apply qnc|apply qix|apply qpk|apply qls|apply qle|apply qgt|apply qxt)<;>(first|exact rfl|assumption|exact Ar.mk (by omega)|exact dct (by first|assumption|omega)|exact dcf (by first|assumption|omega)|exact List.not_mem_nil|apply dc_length|apply hc_length|apply pc_length|exact nm1 (by omega)|fail))|fail) ?_)
    refine CG.draw0 mixed [0, 1, 2, 3, 4, 5] [] (by kernel_rfl) ?_
    repeat (refine dA rfl rfl rfl (by first|((first|apply qmf|apply qmv|apply qas|apply qlc|apply qla|apply qfa|apply qnc|apply qix|apply qpk|apply qls|apply qle|apply qgt|apply qxt)<;>(first|exact rfl|assumption|exact Ar.mk (by omega)|exact dct (by first|assumption|omega)|exact dcf (by first|assumption|omega)|exact List.not_mem_nil|apply dc_length|apply hc_length|apply pc_length|exact nm1 (by omega)|fail))|fail) ?_)
    refine Der.call rfl rfl rfl (vs := [pv p (.slice a p.held.length c), dv n]) (by repeat' (first | exact True.intro | exact rho_of rfl | refine And.intro ?_ ?_)) (fun W hk _ => hpl W hk) ?_
    repeat (refine dA rfl rfl rfl (by first|((first|apply qmf|apply qmv|apply qas|apply qlc|apply qla|apply qfa|apply qnc|apply qix|apply qpk|apply qls|apply qle|apply qgt|apply qxt)<;>(first|exact rfl|assumption|exact Ar.mk (by omega)|exact dct (by first|assumption|omega)|exact dcf (by first|assumption|omega)|exact List.not_mem_nil|apply dc_length|apply hc_length|apply pc_length|exact nm1 (by omega)|fail))|fail) ?_)
    refine Der.fin (fun w3 hk3 _ _ => ?_)
    repeat (first|apply cA|apply cB|apply cD|apply cE|apply cF|apply cH|apply cM|refine cY rfl rfl rfl rfl (by first|((first|apply qmf|apply qmv|apply qas|apply qlc|apply qla|apply qfa|apply qnc|apply qix|apply qpk|apply qls|apply qle|apply qgt|apply qxt)<;>(first|exact rfl|assumption|exact Ar.mk (by omega)|exact dct (by first|assumption|omega)|exact dcf (by first|assumption|omega)|exact List.not_mem_nil|apply dc_length|apply hc_length|apply pc_length|exact nm1 (by omega)|fail))|fail) ?_)
    refine dB rfl (by exact rho_of rfl) rfl ?_
    repeat (first|apply cA|apply cB|apply cD|apply cE|apply cF|apply cH|apply cM|refine cY rfl rfl rfl rfl (by first|((first|apply qmf|apply qmv|apply qas|apply qlc|apply qla|apply qfa|apply qnc|apply qix|apply qpk|apply qls|apply qle|apply qgt|apply qxt)<;>(first|exact rfl|assumption|exact Ar.mk (by omega)|exact dct (by first|assumption|omega)|exact dcf (by first|assumption|omega)|exact List.not_mem_nil|apply dc_length|apply hc_length|apply pc_length|exact nm1 (by omega)|fail))|fail) ?_)
    refine ret1 (Or.inl rfl) Try.results57 (by first | exact ResV.tmp rfl | exact ResV.agg rfl rfl (by assumption) (by first | exact dc_length _ | exact nc_length _ | exact rc_length _ _ _ | exact ec_length _ | exact dl_length _ _ _ _ | rfl) | exact ResV.cell rfl rfl (by assumption)) ?_
    exact fin hk3 e (by decide)
  have ez : placeZ p.held n = (placeN p.held n : Int) := if_pos g5
  rw [ez] at hpl
  have eat := atP_some g5
  have hhk := chkL_all hok.c _ (List.getElem_mem g5)
  have hpart := fun W (over : Int) (hB : Blk W bq (.cells (pc p (.slice a p.held.length c)).toArray 34)) (ho : W.ownsRow base 56 11 (.slice a p.held.length c) p.held.length (flt hc p.held)) (hb : base ≤ W.heap.size) => part_spec (over := over) hB ho hb hok g5
  have hrow := hS.at g5
  generalize hk0 : placeN p.held n = k at g5 ez hpl eat hhk hpart hrow
  generalize p.held[k] = h at eat hhk hpart hrow
  have ha0 := hhk.a0
  obtain ⟨ba, oa, rfl, hrk⟩ := hrow
  have qa := Row.part hrk (dc h.name) [.int .i64 h.amt] [.int .i64 h.side, .int .i64 h.til] (by simp [hc])
  have qt := Row.part hrk (dc h.name ++ [.int .i64 h.amt, .int .i64 h.side]) [.int .i64 h.til] [] (by simp [hc])
  rw [dc_length] at qa
  rw [List.length_append, dc_length] at qt
  have qt : Row w ba (oa + k * 11 + 10) [.int .i64 h.til] := qt
  clear hrk
  have g6 : ¬ (k : Int) < 0 := by omega
  repeat (first|apply cA|apply cB|apply cD|apply cE|apply cF|apply cH|apply cM|refine cY rfl rfl rfl rfl (by first|((first|apply qmf|apply qmv|apply qas|apply qlc|apply qla|apply qfa|apply qnc|apply qix|apply qpk|apply qls|apply qle|apply qgt|apply qxt)<;>(first|exact rfl|assumption|exact Ar.mk (by omega)|exact dct (by first|assumption|omega)|exact dcf (by first|assumption|omega)|exact List.not_mem_nil|apply dc_length|apply hc_length|apply pc_length|exact nm1 (by omega)|fail))|fail) ?_)
  refine CG.draw0 mixed [0, 1, 2, 3, 4, 5] [] (by kernel_rfl) ?_
  repeat (refine dA rfl rfl rfl (by first|((first|apply qmf|apply qmv|apply qas|apply qlc|apply qla|apply qfa|apply qnc|apply qix|apply qpk|apply qls|apply qle|apply qgt|apply qxt)<;>(first|exact rfl|assumption|exact Ar.mk (by omega)|exact dct (by first|assumption|omega)|exact dcf (by first|assumption|omega)|exact List.not_mem_nil|apply dc_length|apply hc_length|apply pc_length|exact nm1 (by omega)|fail))|fail) ?_)
  refine Der.call rfl rfl rfl (vs := [pv p (.slice (some ⟨ba, oa, none⟩) p.held.length c), dv n]) (by repeat' (first | exact True.intro | exact rho_of rfl | refine And.intro ?_ ?_)) (fun W hk _ => hpl W hk) ?_
  repeat (refine dA rfl rfl rfl (by first|((first|apply qmf|apply qmv|apply qas|apply qlc|apply qla|apply qfa|apply qnc|apply qix|apply qpk|apply qls|apply qle|apply qgt|apply qxt)<;>(first|exact rfl|assumption|exact Ar.mk (by omega)|exact dct (by first|assumption|omega)|exact dcf (by first|assumption|omega)|exact List.not_mem_nil|apply dc_length|apply hc_length|apply pc_length|exact nm1 (by omega)|fail))|fail) ?_)
  refine Der.fin (fun w3 hk3 _ _ => ?_)
  have hB3 := hB.kp0 hk3
  have hO3 := hO.kp0 hk3
  have qa := qa.kp0 hk3
  have qt := qt.kp0 hk3
  clear r5 hpl
  obtain ⟨-, -, -, -, r4, -⟩ := pc_rows hB3
  repeat (first|apply cA|apply cB|apply cD|apply cE|apply cF|apply cH|apply cM|refine cY rfl rfl rfl rfl (by first|((first|apply qmf|apply qmv|apply qas|apply qlc|apply qla|apply qfa|apply qnc|apply qix|apply qpk|apply qls|apply qle|apply qgt|apply qxt)<;>(first|exact rfl|assumption|exact Ar.mk (by omega)|exact dct (by first|assumption|omega)|exact dcf (by first|assumption|omega)|exact List.not_mem_nil|apply dc_length|apply hc_length|apply pc_length|exact nm1 (by omega)|fail))|fail) ?_)
  refine dD rfl (by exact rho_of rfl) rfl ?_
  by_cases g7 : over < 0
  · have e : freeE p n over = 2 := by simp [freeE, eat, g7]
    repeat (first|apply cA|apply cB|apply cD|apply cE|apply cF|apply cH|apply cM|refine cY rfl rfl rfl rfl (by first|((first|apply qmf|apply qmv|apply qas|apply qlc|apply qla|apply qfa|apply qnc|apply qix|apply qpk|apply qls|apply qle|apply qgt|apply qxt)<;>(first|exact rfl|assumption|exact Ar.mk (by omega)|exact dct (by first|assumption|omega)|exact dcf (by first|assumption|omega)|exact List.not_mem_nil|apply dc_length|apply hc_length|apply pc_length|exact nm1 (by omega)|fail))|fail) ?_)
    refine CG.draw0 mixed [0, 1, 2, 3, 4, 5, 6, 7, 8, 9, 10, 11, 12, 13] [] (by kernel_rfl) ?_
    repeat (first | refine dA rfl rfl rfl (by first|((first|apply qmf|apply qmv|apply qas|apply qlc|apply qla|apply qfa|apply qnc|apply qix|apply qpk|apply qls|apply qle|apply qgt|apply qxt)<;>(first|exact rfl|assumption|exact Ar.mk (by omega)|exact dct (by first|assumption|omega)|exact dcf (by first|assumption|omega)|exact List.not_mem_nil|apply dc_length|apply hc_length|apply pc_length|exact nm1 (by omega)|fail))|fail) ?_ | refine Der.skip rfl rfl ?_)
    refine Der.fin (fun w4 hk4 _ _ => ?_)
    repeat (first|apply cA|apply cB|apply cD|apply cE|apply cF|apply cH|apply cM|refine cY rfl rfl rfl rfl (by first|((first|apply qmf|apply qmv|apply qas|apply qlc|apply qla|apply qfa|apply qnc|apply qix|apply qpk|apply qls|apply qle|apply qgt|apply qxt)<;>(first|exact rfl|assumption|exact Ar.mk (by omega)|exact dct (by first|assumption|omega)|exact dcf (by first|assumption|omega)|exact List.not_mem_nil|apply dc_length|apply hc_length|apply pc_length|exact nm1 (by omega)|fail))|fail) ?_)
    refine dB rfl (by exact rho_of rfl) rfl ?_
    repeat (first|apply cA|apply cB|apply cD|apply cE|apply cF|apply cH|apply cM|refine cY rfl rfl rfl rfl (by first|((first|apply qmf|apply qmv|apply qas|apply qlc|apply qla|apply qfa|apply qnc|apply qix|apply qpk|apply qls|apply qle|apply qgt|apply qxt)<;>(first|exact rfl|assumption|exact Ar.mk (by omega)|exact dct (by first|assumption|omega)|exact dcf (by first|assumption|omega)|exact List.not_mem_nil|apply dc_length|apply hc_length|apply pc_length|exact nm1 (by omega)|fail))|fail) ?_)
    refine ret1 (Or.inl rfl) Try.results57 (by first | exact ResV.tmp rfl | exact ResV.agg rfl rfl (by assumption) (by first | exact dc_length _ | exact nc_length _ | exact rc_length _ _ _ | exact ec_length _ | exact dl_length _ _ _ _ | rfl) | exact ResV.cell rfl rfl (by assumption)) ?_
    exact fin (hk3.trans hk4) e (by decide)
  by_cases g8 : h.amt < over
  · have e : freeE p n over = 2 := by simp [freeE, eat, g8]
    repeat (first|apply cA|apply cB|apply cD|apply cE|apply cF|apply cH|apply cM|refine cY rfl rfl rfl rfl (by first|((first|apply qmf|apply qmv|apply qas|apply qlc|apply qla|apply qfa|apply qnc|apply qix|apply qpk|apply qls|apply qle|apply qgt|apply qxt)<;>(first|exact rfl|assumption|exact Ar.mk (by omega)|exact dct (by first|assumption|omega)|exact dcf (by first|assumption|omega)|exact List.not_mem_nil|apply dc_length|apply hc_length|apply pc_length|exact nm1 (by omega)|fail))|fail) ?_)
    refine CG.draw0 mixed [0, 1, 2, 3, 4, 5, 6, 7, 8, 9, 10, 11, 12, 13] [] (by kernel_rfl) ?_
    repeat (first | refine dA rfl rfl rfl (by first|((first|apply qmf|apply qmv|apply qas|apply qlc|apply qla|apply qfa|apply qnc|apply qix|apply qpk|apply qls|apply qle|apply qgt|apply qxt)<;>(first|exact rfl|assumption|exact Ar.mk (by omega)|exact dct (by first|assumption|omega)|exact dcf (by first|assumption|omega)|exact List.not_mem_nil|apply dc_length|apply hc_length|apply pc_length|exact nm1 (by omega)|fail))|fail) ?_ | refine Der.skip rfl rfl ?_)
    refine Der.fin (fun w4 hk4 _ _ => ?_)
    repeat (first|apply cA|apply cB|apply cD|apply cE|apply cF|apply cH|apply cM|refine cY rfl rfl rfl rfl (by first|((first|apply qmf|apply qmv|apply qas|apply qlc|apply qla|apply qfa|apply qnc|apply qix|apply qpk|apply qls|apply qle|apply qgt|apply qxt)<;>(first|exact rfl|assumption|exact Ar.mk (by omega)|exact dct (by first|assumption|omega)|exact dcf (by first|assumption|omega)|exact List.not_mem_nil|apply dc_length|apply hc_length|apply pc_length|exact nm1 (by omega)|fail))|fail) ?_)
    refine dB rfl (by exact rho_of rfl) rfl ?_
    repeat (first|apply cA|apply cB|apply cD|apply cE|apply cF|apply cH|apply cM|refine cY rfl rfl rfl rfl (by first|((first|apply qmf|apply qmv|apply qas|apply qlc|apply qla|apply qfa|apply qnc|apply qix|apply qpk|apply qls|apply qle|apply qgt|apply qxt)<;>(first|exact rfl|assumption|exact Ar.mk (by omega)|exact dct (by first|assumption|omega)|exact dcf (by first|assumption|omega)|exact List.not_mem_nil|apply dc_length|apply hc_length|apply pc_length|exact nm1 (by omega)|fail))|fail) ?_)
    refine ret1 (Or.inl rfl) Try.results57 (by first | exact ResV.tmp rfl | exact ResV.agg rfl rfl (by assumption) (by first | exact dc_length _ | exact nc_length _ | exact rc_length _ _ _ | exact ec_length _ | exact dl_length _ _ _ _ | rfl) | exact ResV.cell rfl rfl (by assumption)) ?_
    exact fin (hk3.trans hk4) e (by decide)
  have e : freeE p n over = 0 := by simp [freeE, eat, g7, g8]
  clear fin
  repeat (first|apply cA|apply cB|apply cD|apply cE|apply cF|apply cH|apply cM|refine cY rfl rfl rfl rfl (by first|((first|apply qmf|apply qmv|apply qas|apply qlc|apply qla|apply qfa|apply qnc|apply qix|apply qpk|apply qls|apply qle|apply qgt|apply qxt)<;>(first|exact rfl|assumption|exact Ar.mk (by omega)|exact dct (by first|assumption|omega)|exact dcf (by first|assumption|omega)|exact List.not_mem_nil|apply dc_length|apply hc_length|apply pc_length|exact nm1 (by omega)|fail))|fail) ?_)
  refine CG.draw0 mixed [0, 1, 2, 3, 4, 5, 6, 7, 8, 9, 10, 11, 12, 13] [] (by kernel_rfl) ?_
  repeat (first | refine dA rfl rfl rfl (by first|((first|apply qmf|apply qmv|apply qas|apply qlc|apply qla|apply qfa|apply qnc|apply qix|apply qpk|apply qls|apply qle|apply qgt|apply qxt)<;>(first|exact rfl|assumption|exact Ar.mk (by omega)|exact dct (by first|assumption|omega)|exact dcf (by first|assumption|omega)|exact List.not_mem_nil|apply dc_length|apply hc_length|apply pc_length|exact nm1 (by omega)|fail))|fail) ?_ | refine Der.skip rfl rfl ?_)
  refine Der.fin (fun w4 hk4 _ _ => ?_)
  have k4 := hk3.trans hk4
  clear r4 qa qt hO3
  have ho4 := own_kp0 ho k4
  have hB4 := hB.kp0 k4
  have hO4 := hO.kp0 k4
  repeat (first|apply cA|apply cB|apply cD|apply cE|apply cF|apply cH|apply cM|refine cY rfl rfl rfl rfl (by first|((first|apply qmf|apply qmv|apply qas|apply qlc|apply qla|apply qfa|apply qnc|apply qix|apply qpk|apply qls|apply qle|apply qgt|apply qxt)<;>(first|exact rfl|assumption|exact Ar.mk (by omega)|exact dct (by first|assumption|omega)|exact dcf (by first|assumption|omega)|exact List.not_mem_nil|apply dc_length|apply hc_length|apply pc_length|exact nm1 (by omega)|fail))|fail) ?_)
  refine dD rfl (by exact rho_of rfl) rfl ?_
  repeat (first|apply cA|apply cB|apply cD|apply cE|apply cF|apply cH|apply cM|refine cY rfl rfl rfl rfl (by first|((first|apply qmf|apply qmv|apply qas|apply qlc|apply qla|apply qfa|apply qnc|apply qix|apply qpk|apply qls|apply qle|apply qgt|apply qxt)<;>(first|exact rfl|assumption|exact Ar.mk (by omega)|exact dct (by first|assumption|omega)|exact dcf (by first|assumption|omega)|exact List.not_mem_nil|apply dc_length|apply hc_length|apply pc_length|exact nm1 (by omega)|fail))|fail) ?_)
  refine SG.call rfl rfl rfl (vs := [.pointer (some ⟨bq, 0, none⟩), .int .i64 (k : Int), .int .i64 over]) (by repeat' (first | exact True.intro | exact rho_of rfl | refine And.intro ?_ ?_)) ((hpart w4 over hB4 ho4 (Nat.le_trans hbase k4.size) (by omega) (by omega)).mono (fun e5 w5 hh => ?_))
  obtain ⟨he, hk5, s5, hB5, ho5⟩ := hh
  refine ⟨_, he, ?_⟩
  have eq : freeQ p n over = partP p k h over := by simp [freeQ, eat, hk0]
  rw [← eq] at hB5 ho5
  repeat (first|apply cA|apply cB|apply cD|apply cE|apply cF|apply cH|apply cM|refine cY rfl rfl rfl rfl (by first|((first|apply qmf|apply qmv|apply qas|apply qlc|apply qla|apply qfa|apply qnc|apply qix|apply qpk|apply qls|apply qle|apply qgt|apply qxt)<;>(first|exact rfl|assumption|exact Ar.mk (by omega)|exact dct (by first|assumption|omega)|exact dcf (by first|assumption|omega)|exact List.not_mem_nil|apply dc_length|apply hc_length|apply pc_length|exact nm1 (by omega)|fail))|fail) ?_)
  refine ret1 (Or.inl rfl) Try.results57 (by first | exact ResV.tmp rfl | exact ResV.agg rfl rfl (by assumption) (by first | exact dc_length _ | exact nc_length _ | exact rc_length _ _ _ | exact ec_length _ | exact dl_length _ _ _ _ | rfl) | exact ResV.cell rfl rfl (by assumption)) ?_
  exact ⟨by rw [e], k4.any.trans hk5, _, s5, hB5, fun _ => ⟨rfl, ho5⟩⟩
set_option maxHeartbeats 16000000 in
theorem free_spec {w : World} {a : Option Addr} {c : Nat} (p : Pu) (n : Dg) (over : Int) (hS : Sl hc 11 w a p.held) (hl : p.held.length ≤ 1000) (hcap : p.held.length ≤ c) : Calls Try.prog 38 #[pv p (.slice a p.held.length c), dv n, .int .i64 over] w (fun e w' => ∃ v, e = .returned (.tuple #[v, .int .i64 (chgZ p (freeE p n over))]) ∧ Kp [] w w' ∧ (chgZ p (freeE p n over) = 0 → PuAt w.heap.size w' v (nextP (freeQ p n over))) ∧ (chgZ p (freeE p n over) ≠ 0 → v = pv zPu (.slice none 0 0))) := by
  refine enter3 Try.func38 rfl Try.ntmps38 rfl ?_
  repeat (first|apply cA|apply cB|apply cD|apply cE|apply cF|apply cH|apply cM|refine cY rfl rfl rfl rfl (by first|((first|apply qmf|apply qmv|apply qas|apply qlc|apply qla|apply qfa|apply qnc|apply qix|apply qpk|apply qls|apply qle|apply qgt|apply qxt)<;>(first|exact rfl|assumption|exact Ar.mk (by omega)|exact dct (by first|assumption|omega)|exact dcf (by first|assumption|omega)|exact List.not_mem_nil|apply dc_length|apply hc_length|apply pc_length|exact nm1 (by omega)|fail))|fail) ?_)
  refine SG.box rfl rfl rfl (by exact rho_of rfl) (fun b2 w1 hk1 hb2 hB2 => ?_)
  have hB2 : Blk w1 b2 (.cells (pc p (.slice a p.held.length c)).toArray 34) := hB2
  refine SG.box rfl rfl rfl (by exact rho_of rfl) (fun b3 w2 hk2 hb3 hB3 => ?_)
  have hB3 : Blk w2 b3 (.cells (dc n).toArray 25) := hB3
  have hN : Row w2 b3 0 (dc n) := Row.all hB3 rfl
  refine SG.box rfl rfl rfl (by exact rho_of rfl) (fun b5 w3 hk3 hb5 hB5 => ?_)
  have hO : Row w3 b5 0 [.int .i64 over] := Row.of hB5 [] [] rfl rfl
  refine SG.alloc rfl rfl rfl (fun b6 w4 hk4 hb6 hB6 => ?_)
  have hN := (hN.kp0 hk3).kp0 hk4
  have hO := hO.kp0 hk4
  have hB2 := ((hB2.kp0 hk2).kp0 hk3).kp0 hk4
  have k4 := ((hk1.trans hk2).trans hk3).trans hk4
  have s3 := ((hk1.trans hk2).trans hk3).size
  obtain ⟨-, -, -, -, -, r5⟩ := pc_rows hB2
  repeat (first|apply cA|apply cB|apply cD|apply cE|apply cF|apply cH|apply cM|refine cY rfl rfl rfl rfl (by first|((first|apply qmf|apply qmv|apply qas|apply qlc|apply qla|apply qfa|apply qnc|apply qix|apply qpk|apply qls|apply qle|apply qgt|apply qxt)<;>(first|exact rfl|assumption|exact Ar.mk (by omega)|exact dct (by first|assumption|omega)|exact dcf (by first|assumption|omega)|exact List.not_mem_nil|apply dc_length|apply hc_length|apply pc_length|exact nm1 (by omega)|fail))|fail) ?_)
  refine cY rfl rfl rfl rfl (qmf (vs := [.pointer (some ⟨b3, 0, none⟩), .pointer (some ⟨b5, 0, none⟩)]) rfl) ?_
  refine SG.call rfl rfl rfl (vs := [pv p (.slice a p.held.length c), fnv 57 [.pointer (some ⟨b3, 0, none⟩), .pointer (some ⟨b5, 0, none⟩)]]) (by repeat' (first | exact True.intro | exact rho_of rfl | refine And.intro ?_ ?_)) ((changed_spec p (freeQ p n over) (freeE p n over) (hS.kp0 k4) hl hcap (freeQ_num _ _ _) (fun hc0 W bq s hk hbq hB ho => free1_spec hB (hN.kp0 hk) (hO.kp0 hk) ho hk.size (pu_ok hc0))).mono (fun e w5 hh => ?_))
  obtain ⟨v, he, hk5, h1, h2⟩ := hh
  refine ⟨_, he, ?_⟩
  have hB6 := hB6.kp0 hk5
  by_cases hz : chgZ p (freeE p n over) = 0
  · obtain ⟨s, rfl, ho⟩ := h1 hz
    obtain ⟨a5, c5, rfl, _, _⟩ := Sl.own hc_length ho rfl
    repeat (first|apply cA|apply cB|apply cD|apply cE|apply cF|apply cH|apply cM|refine cY rfl rfl rfl rfl (by first|((first|apply qmf|apply qmv|apply qas|apply qlc|apply qla|apply qfa|apply qnc|apply qix|apply qpk|apply qls|apply qle|apply qgt|apply qxt)<;>(first|exact rfl|assumption|exact Ar.mk (by omega)|exact dct (by first|assumption|omega)|exact dcf (by first|assumption|omega)|exact List.not_mem_nil|apply dc_length|apply hc_length|apply pc_length|exact nm1 (by omega)|fail))|fail) ?_)
    refine SG.setAll (l := pc (nextP (freeQ p n over)) (.slice a5 (nextP (freeQ p n over)).held.length c5)) rfl rfl (by exact rho_of rfl) (by exact rho_of rfl) hB6 (pc_length _ _) rfl (pc_one _ _ _ _) (fun w6 hk6 hB7 => ?_)
    have hr : Row w6 b6 0 (pc (nextP (freeQ p n over)) (.slice a5 (nextP (freeQ p n over)).held.length c5)) := Row.all hB7 rfl
    have ho6 := own_kp (own_mono ho k4.size) hk6 (own_neb (own_mono ho k4.size) (by decide) hB6)
    repeat (first|apply cA|apply cB|apply cD|apply cE|apply cF|apply cH|apply cM|refine cY rfl rfl rfl rfl (by first|((first|apply qmf|apply qmv|apply qas|apply qlc|apply qla|apply qfa|apply qnc|apply qix|apply qpk|apply qls|apply qle|apply qgt|apply qxt)<;>(first|exact rfl|assumption|exact Ar.mk (by omega)|exact dct (by first|assumption|omega)|exact dcf (by first|assumption|omega)|exact List.not_mem_nil|apply dc_length|apply hc_length|apply pc_length|exact nm1 (by omega)|fail))|fail) ?_)
    refine ret2 (Or.inl rfl) Try.results38 (ResV.agg rfl rfl hr (pc_length _ _)) (by first | exact ResV.tmp rfl | exact ResV.agg rfl rfl (by assumption) (by first | exact dc_length _ | exact nc_length _ | exact rc_length _ _ _ | exact ec_length _ | exact dl_length _ _ _ _ | rfl) | exact ResV.cell rfl rfl (by assumption)) ?_
    exact ⟨_, rfl, (k4.trans hk5).trans_new hk6 (new1 (by omega)), fun _ => ⟨_, rfl, ho6⟩, fun h => absurd hz h⟩
  · have hv2 := h2 hz
    subst hv2
    repeat (first|apply cA|apply cB|apply cD|apply cE|apply cF|apply cH|apply cM|refine cY rfl rfl rfl rfl (by first|((first|apply qmf|apply qmv|apply qas|apply qlc|apply qla|apply qfa|apply qnc|apply qix|apply qpk|apply qls|apply qle|apply qgt|apply qxt)<;>(first|exact rfl|assumption|exact Ar.mk (by omega)|exact dct (by first|assumption|omega)|exact dcf (by first|assumption|omega)|exact List.not_mem_nil|apply dc_length|apply hc_length|apply pc_length|exact nm1 (by omega)|fail))|fail) ?_)
    refine SG.setAll (l := pc zPu (.slice none 0 0)) rfl rfl (by exact rho_of rfl) (by exact rho_of rfl) hB6 (pc_length _ _) rfl (pc_one _ _ _ _) (fun w6 hk6 hB7 => ?_)
    have hr : Row w6 b6 0 (pc zPu (.slice none 0 0)) := Row.all hB7 rfl
    repeat (first|apply cA|apply cB|apply cD|apply cE|apply cF|apply cH|apply cM|refine cY rfl rfl rfl rfl (by first|((first|apply qmf|apply qmv|apply qas|apply qlc|apply qla|apply qfa|apply qnc|apply qix|apply qpk|apply qls|apply qle|apply qgt|apply qxt)<;>(first|exact rfl|assumption|exact Ar.mk (by omega)|exact dct (by first|assumption|omega)|exact dcf (by first|assumption|omega)|exact List.not_mem_nil|apply dc_length|apply hc_length|apply pc_length|exact nm1 (by omega)|fail))|fail) ?_)
    refine ret2 (Or.inl rfl) Try.results38 (ResV.agg rfl rfl hr (pc_length _ _)) (by first | exact ResV.tmp rfl | exact ResV.agg rfl rfl (by assumption) (by first | exact dc_length _ | exact nc_length _ | exact rc_length _ _ _ | exact ec_length _ | exact dl_length _ _ _ _ | rfl) | exact ResV.cell rfl rfl (by assumption)) ?_
    exact ⟨_, rfl, (k4.trans hk5).trans_new hk6 (new1 (by omega)), fun h => absurd h hz, fun _ => rfl⟩
set_option maxHeartbeats 16000000 in
theorem back1_spec {w : World} {base bq bn bo : Nat} {p : Pu} {s : Value} {n : Dg} {over : Int} (hB : Blk w bq (.cells (pc p s).toArray 34)) (hN : Row w bn 0 (dc n)) (hO : Row w bo 0 [.int .i64 over]) (ho : w.ownsRow base 56 11 s p.held.length (flt hc p.held)) (hbase : base ≤ w.heap.size) (hok : p.Ok) :
    Calls Try.prog 89 #[.pointer (some ⟨bq, 0, none⟩), .pointer (some ⟨bn, 0, none⟩), .pointer (some ⟨bo, 0, none⟩)] w (fun e w' => e = .returned (.int .i64 (backE p n over)) ∧ Kp (bq :: ownB s) w w' ∧ ∃ p' s', Blk w' bq (.cells (pc p' s').toArray 34) ∧ (backE p n over = 0 → p' = freeQ p n 0 ∧ w'.ownsRow base 56 11 s' (freeQ p n 0).held.length (flt hc (freeQ p n 0).held))) := by
  refine enter3 Try.func89 rfl Try.ntmps89 rfl ?_
  have hl16 := hok.l
  have fin : ∀ {z : Int} {w' : World}, Kp [] w w' → backE p n over = z → z ≠ 0 → ((Ending.returned (.int .i64 z) = .returned (.int .i64 (backE p n over))) ∧ Kp (bq :: ownB s) w w' ∧ ∃ p' s', Blk w' bq (.cells (pc p' s').toArray 34) ∧ (backE p n over = 0 → p' = freeQ p n 0 ∧ w'.ownsRow base 56 11 s' (freeQ p n 0).held.length (flt hc (freeQ p n 0).held))) := fun hk e hz => ⟨by rw [e], hk.any, p, s, hB.kp0 hk, fun h0 => absurd (e.symm.trans h0) hz⟩
  obtain ⟨a, c, rfl, hcap, hS⟩ := Sl.own hc_length ho rfl
  have hpl := fun W (k : Kp [] w W) => place_spec (c := c) p n (hS.kp0 k) (by omega)
  obtain ⟨-, -, -, -, -, r5⟩ := pc_rows hB
  by_cases g5 : placeN p.held n < p.held.length
  rotate_left
  · have e : backE p n over = 9 := by simp [backE, atP_none g5]
    have ez : placeZ p.held n = -1 := if_neg g5
    rw [ez] at hpl
    have g6 : (-1 : Int) < 0 := by omega
    repeat (first|apply cA|apply cB|apply cD|apply cE|apply cF|apply cH|apply cM|refine cY rfl rfl rfl rfl (by first|((first|apply qmf|apply qmv|apply qas|apply qlc|apply qla|apply qfa|apply qnc|apply qix|apply qpk|apply qls|apply qle|apply qgt|apply qxt)<;>(first|exact rfl|assumption|exact Ar.mk (by omega)|exact dct (by first|assumption|omega)|exact dcf (by first|assumption|omega)|exact List.not_mem_nil|apply dc_length|apply hc_length|apply pc_length|exact nm1 (by omega)|fail))|fail) ?_)
    refine CG.draw0 mixed [0, 1, 2, 3, 4, 5] [] (by kernel_rfl) ?_
    repeat (refine dA rfl rfl rfl (by first|((first|apply qmf|apply qmv|apply qas|apply qlc|apply qla|apply qfa|apply qnc|apply qix|apply qpk|apply qls|apply qle|apply qgt|apply qxt)<;>(first|exact rfl|assumption|exact Ar.mk (by omega)|exact dct (by first|assumption|omega)|exact dcf (by first|assumption|omega)|exact List.not_mem_nil|apply dc_length|apply hc_length|apply pc_length|exact nm1 (by omega)|fail))|fail) ?_)
    refine Der.call rfl rfl rfl (vs := [pv p (.slice a p.held.length c), dv n]) (by repeat' (first | exact True.intro | exact rho_of rfl | refine And.intro ?_ ?_)) (fun W hk _ => hpl W hk) ?_
    repeat (refine dA rfl rfl rfl (by first|((first|apply qmf|apply qmv|apply qas|apply qlc|apply qla|apply qfa|apply qnc|apply qix|apply qpk|apply qls|apply qle|apply qgt|apply qxt)<;>(first|exact rfl|assumption|exact Ar.mk (by omega)|exact dct (by first|assumption|omega)|exact dcf (by first|assumption|omega)|exact List.not_mem_nil|apply dc_length|apply hc_length|apply pc_length|exact nm1 (by omega)|fail))|fail) ?_)
    refine Der.fin (fun w3 hk3 _ _ => ?_)
    repeat (first|apply cA|apply cB|apply cD|apply cE|apply cF|apply cH|apply cM|refine cY rfl rfl rfl rfl (by first|((first|apply qmf|apply qmv|apply qas|apply qlc|apply qla|apply qfa|apply qnc|apply qix|apply qpk|apply qls|apply qle|apply qgt|apply qxt)<;>(first|exact rfl|assumption|exact Ar.mk (by omega)|exact dct (by first|assumption|omega)|exact dcf (by first|assumption|omega)|exact List.not_mem_nil|apply dc_length|apply hc_length|apply pc_length|exact nm1 (by omega)|fail))|fail) ?_)
    refine dB rfl (by exact rho_of rfl) rfl ?_
    repeat (first|apply cA|apply cB|apply cD|apply cE|apply cF|apply cH|apply cM|refine cY rfl rfl rfl rfl (by first|((first|apply qmf|apply qmv|apply qas|apply qlc|apply qla|apply qfa|apply qnc|apply qix|apply qpk|apply qls|apply qle|apply qgt|apply qxt)<;>(first|exact rfl|assumption|exact Ar.mk (by omega)|exact dct (by first|assumption|omega)|exact dcf (by first|assumption|omega)|exact List.not_mem_nil|apply dc_length|apply hc_length|apply pc_length|exact nm1 (by omega)|fail))|fail) ?_)
    refine ret1 (Or.inl rfl) Try.results89 (by first | exact ResV.tmp rfl | exact ResV.agg rfl rfl (by assumption) (by first | exact dc_length _ | exact nc_length _ | exact rc_length _ _ _ | exact ec_length _ | exact dl_length _ _ _ _ | rfl) | exact ResV.cell rfl rfl (by assumption)) ?_
    exact fin hk3 e (by decide)
  have ez : placeZ p.held n = (placeN p.held n : Int) := if_pos g5
  rw [ez] at hpl
  have eat := atP_some g5
  have hhk := chkL_all hok.c _ (List.getElem_mem g5)
  have hpart := fun W (over : Int) (hB : Blk W bq (.cells (pc p (.slice a p.held.length c)).toArray 34)) (ho : W.ownsRow base 56 11 (.slice a p.held.length c) p.held.length (flt hc p.held)) (hb : base ≤ W.heap.size) => part_spec (over := over) hB ho hb hok g5
  have hrow := hS.at g5
  generalize hk0 : placeN p.held n = k at g5 ez hpl eat hhk hpart hrow
  generalize p.held[k] = h at eat hhk hpart hrow
  have ha0 := hhk.a0
  obtain ⟨ba, oa, rfl, hrk⟩ := hrow
  have qa := Row.part hrk (dc h.name) [.int .i64 h.amt] [.int .i64 h.side, .int .i64 h.til] (by simp [hc])
  have qt := Row.part hrk (dc h.name ++ [.int .i64 h.amt, .int .i64 h.side]) [.int .i64 h.til] [] (by simp [hc])
  rw [dc_length] at qa
  rw [List.length_append, dc_length] at qt
  have qt : Row w ba (oa + k * 11 + 10) [.int .i64 h.til] := qt
  clear hrk
  have g6 : ¬ (k : Int) < 0 := by omega
  repeat (first|apply cA|apply cB|apply cD|apply cE|apply cF|apply cH|apply cM|refine cY rfl rfl rfl rfl (by first|((first|apply qmf|apply qmv|apply qas|apply qlc|apply qla|apply qfa|apply qnc|apply qix|apply qpk|apply qls|apply qle|apply qgt|apply qxt)<;>(first|exact rfl|assumption|exact Ar.mk (by omega)|exact dct (by first|assumption|omega)|exact dcf (by first|assumption|omega)|exact List.not_mem_nil|apply dc_length|apply hc_length|apply pc_length|exact nm1 (by omega)|fail))|fail) ?_)
  refine CG.draw0 mixed [0, 1, 2, 3, 4, 5] [] (by kernel_rfl) ?_
  repeat (refine dA rfl rfl rfl (by first|((first|apply qmf|apply qmv|apply qas|apply qlc|apply qla|apply qfa|apply qnc|apply qix|apply qpk|apply qls|apply qle|apply qgt|apply qxt)<;>(first|exact rfl|assumption|exact Ar.mk (by omega)|exact dct (by first|assumption|omega)|exact dcf (by first|assumption|omega)|exact List.not_mem_nil|apply dc_length|apply hc_length|apply pc_length|exact nm1 (by omega)|fail))|fail) ?_)
  refine Der.call rfl rfl rfl (vs := [pv p (.slice (some ⟨ba, oa, none⟩) p.held.length c), dv n]) (by repeat' (first | exact True.intro | exact rho_of rfl | refine And.intro ?_ ?_)) (fun W hk _ => hpl W hk) ?_
  repeat (refine dA rfl rfl rfl (by first|((first|apply qmf|apply qmv|apply qas|apply qlc|apply qla|apply qfa|apply qnc|apply qix|apply qpk|apply qls|apply qle|apply qgt|apply qxt)<;>(first|exact rfl|assumption|exact Ar.mk (by omega)|exact dct (by first|assumption|omega)|exact dcf (by first|assumption|omega)|exact List.not_mem_nil|apply dc_length|apply hc_length|apply pc_length|exact nm1 (by omega)|fail))|fail) ?_)
  refine Der.fin (fun w3 hk3 _ _ => ?_)
  have hB3 := hB.kp0 hk3
  have hO3 := hO.kp0 hk3
  have qa := qa.kp0 hk3
  have qt := qt.kp0 hk3
  clear r5 hpl
  obtain ⟨-, -, -, -, r4, -⟩ := pc_rows hB3
  repeat (first|apply cA|apply cB|apply cD|apply cE|apply cF|apply cH|apply cM|refine cY rfl rfl rfl rfl (by first|((first|apply qmf|apply qmv|apply qas|apply qlc|apply qla|apply qfa|apply qnc|apply qix|apply qpk|apply qls|apply qle|apply qgt|apply qxt)<;>(first|exact rfl|assumption|exact Ar.mk (by omega)|exact dct (by first|assumption|omega)|exact dcf (by first|assumption|omega)|exact List.not_mem_nil|apply dc_length|apply hc_length|apply pc_length|exact nm1 (by omega)|fail))|fail) ?_)
  refine dD rfl (by exact rho_of rfl) rfl ?_
  by_cases g7 : over ≤ h.til
  · have e : backE p n over = 20 := by simp [backE, eat, g7]
    repeat (first|apply cA|apply cB|apply cD|apply cE|apply cF|apply cH|apply cM|refine cY rfl rfl rfl rfl (by first|((first|apply qmf|apply qmv|apply qas|apply qlc|apply qla|apply qfa|apply qnc|apply qix|apply qpk|apply qls|apply qle|apply qgt|apply qxt)<;>(first|exact rfl|assumption|exact Ar.mk (by omega)|exact dct (by first|assumption|omega)|exact dcf (by first|assumption|omega)|exact List.not_mem_nil|apply dc_length|apply hc_length|apply pc_length|exact nm1 (by omega)|fail))|fail) ?_)
    refine CG.draw0 mixed [0, 1, 2, 3, 4, 5, 6, 7, 8, 9] [] (by kernel_rfl) ?_
    repeat (first | refine dA rfl rfl rfl (by first|((first|apply qmf|apply qmv|apply qas|apply qlc|apply qla|apply qfa|apply qnc|apply qix|apply qpk|apply qls|apply qle|apply qgt|apply qxt)<;>(first|exact rfl|assumption|exact Ar.mk (by omega)|exact dct (by first|assumption|omega)|exact dcf (by first|assumption|omega)|exact List.not_mem_nil|apply dc_length|apply hc_length|apply pc_length|exact nm1 (by omega)|fail))|fail) ?_ | refine Der.skip rfl rfl ?_)
    refine Der.fin (fun w4 hk4 _ _ => ?_)
    repeat (first|apply cA|apply cB|apply cD|apply cE|apply cF|apply cH|apply cM|refine cY rfl rfl rfl rfl (by first|((first|apply qmf|apply qmv|apply qas|apply qlc|apply qla|apply qfa|apply qnc|apply qix|apply qpk|apply qls|apply qle|apply qgt|apply qxt)<;>(first|exact rfl|assumption|exact Ar.mk (by omega)|exact dct (by first|assumption|omega)|exact dcf (by first|assumption|omega)|exact List.not_mem_nil|apply dc_length|apply hc_length|apply pc_length|exact nm1 (by omega)|fail))|fail) ?_)
    refine dB rfl (by exact rho_of rfl) rfl ?_
    repeat (first|apply cA|apply cB|apply cD|apply cE|apply cF|apply cH|apply cM|refine cY rfl rfl rfl rfl (by first|((first|apply qmf|apply qmv|apply qas|apply qlc|apply qla|apply qfa|apply qnc|apply qix|apply qpk|apply qls|apply qle|apply qgt|apply qxt)<;>(first|exact rfl|assumption|exact Ar.mk (by omega)|exact dct (by first|assumption|omega)|exact dcf (by first|assumption|omega)|exact List.not_mem_nil|apply dc_length|apply hc_length|apply pc_length|exact nm1 (by omega)|fail))|fail) ?_)
    refine ret1 (Or.inl rfl) Try.results89 (by first | exact ResV.tmp rfl | exact ResV.agg rfl rfl (by assumption) (by first | exact dc_length _ | exact nc_length _ | exact rc_length _ _ _ | exact ec_length _ | exact dl_length _ _ _ _ | rfl) | exact ResV.cell rfl rfl (by assumption)) ?_
    exact fin (hk3.trans hk4) e (by decide)
  have e : backE p n over = 0 := by simp [backE, eat, g7]
  clear fin
  repeat (first|apply cA|apply cB|apply cD|apply cE|apply cF|apply cH|apply cM|refine cY rfl rfl rfl rfl (by first|((first|apply qmf|apply qmv|apply qas|apply qlc|apply qla|apply qfa|apply qnc|apply qix|apply qpk|apply qls|apply qle|apply qgt|apply qxt)<;>(first|exact rfl|assumption|exact Ar.mk (by omega)|exact dct (by first|assumption|omega)|exact dcf (by first|assumption|omega)|exact List.not_mem_nil|apply dc_length|apply hc_length|apply pc_length|exact nm1 (by omega)|fail))|fail) ?_)
  refine CG.draw0 mixed [0, 1, 2, 3, 4, 5, 6, 7, 8, 9] [] (by kernel_rfl) ?_
  repeat (first | refine dA rfl rfl rfl (by first|((first|apply qmf|apply qmv|apply qas|apply qlc|apply qla|apply qfa|apply qnc|apply qix|apply qpk|apply qls|apply qle|apply qgt|apply qxt)<;>(first|exact rfl|assumption|exact Ar.mk (by omega)|exact dct (by first|assumption|omega)|exact dcf (by first|assumption|omega)|exact List.not_mem_nil|apply dc_length|apply hc_length|apply pc_length|exact nm1 (by omega)|fail))|fail) ?_ | refine Der.skip rfl rfl ?_)
  refine Der.fin (fun w4 hk4 _ _ => ?_)
  have k4 := hk3.trans hk4
  clear r4 qa qt hO3
  have ho4 := own_kp0 ho k4
  have hB4 := hB.kp0 k4
  have hO4 := hO.kp0 k4
  repeat (first|apply cA|apply cB|apply cD|apply cE|apply cF|apply cH|apply cM|refine cY rfl rfl rfl rfl (by first|((first|apply qmf|apply qmv|apply qas|apply qlc|apply qla|apply qfa|apply qnc|apply qix|apply qpk|apply qls|apply qle|apply qgt|apply qxt)<;>(first|exact rfl|assumption|exact Ar.mk (by omega)|exact dct (by first|assumption|omega)|exact dcf (by first|assumption|omega)|exact List.not_mem_nil|apply dc_length|apply hc_length|apply pc_length|exact nm1 (by omega)|fail))|fail) ?_)
  refine dD rfl (by exact rho_of rfl) rfl ?_
  repeat (first|apply cA|apply cB|apply cD|apply cE|apply cF|apply cH|apply cM|refine cY rfl rfl rfl rfl (by first|((first|apply qmf|apply qmv|apply qas|apply qlc|apply qla|apply qfa|apply qnc|apply qix|apply qpk|apply qls|apply qle|apply qgt|apply qxt)<;>(first|exact rfl|assumption|exact Ar.mk (by omega)|exact dct (by first|assumption|omega)|exact dcf (by first|assumption|omega)|exact List.not_mem_nil|apply dc_length|apply hc_length|apply pc_length|exact nm1 (by omega)|fail))|fail) ?_)
  refine SG.call rfl rfl rfl (vs := [.pointer (some ⟨bq, 0, none⟩), .int .i64 (k : Int), .int .i64 0]) (by repeat' (first | exact True.intro | exact rho_of rfl | refine And.intro ?_ ?_)) ((hpart w4 0 hB4 ho4 (Nat.le_trans hbase k4.size) (by omega) (by omega)).mono (fun e5 w5 hh => ?_))
  obtain ⟨he, hk5, s5, hB5, ho5⟩ := hh
  refine ⟨_, he, ?_⟩
  have eq : freeQ p n 0 = partP p k h 0 := by simp [freeQ, eat, hk0]
  rw [← eq] at hB5 ho5
  repeat (first|apply cA|apply cB|apply cD|apply cE|apply cF|apply cH|apply cM|refine cY rfl rfl rfl rfl (by first|((first|apply qmf|apply qmv|apply qas|apply qlc|apply qla|apply qfa|apply qnc|apply qix|apply qpk|apply qls|apply qle|apply qgt|apply qxt)<;>(first|exact rfl|assumption|exact Ar.mk (by omega)|exact dct (by first|assumption|omega)|exact dcf (by first|assumption|omega)|exact List.not_mem_nil|apply dc_length|apply hc_length|apply pc_length|exact nm1 (by omega)|fail))|fail) ?_)
  refine ret1 (Or.inl rfl) Try.results89 (by first | exact ResV.tmp rfl | exact ResV.agg rfl rfl (by assumption) (by first | exact dc_length _ | exact nc_length _ | exact rc_length _ _ _ | exact ec_length _ | exact dl_length _ _ _ _ | rfl) | exact ResV.cell rfl rfl (by assumption)) ?_
  exact ⟨by rw [e], k4.any.trans hk5, _, s5, hB5, fun _ => ⟨rfl, ho5⟩⟩
set_option maxHeartbeats 16000000 in
theorem back_spec {w : World} {a : Option Addr} {c : Nat} (p : Pu) (n : Dg) (over : Int) (hS : Sl hc 11 w a p.held) (hl : p.held.length ≤ 1000) (hcap : p.held.length ≤ c) : Calls Try.prog 69 #[pv p (.slice a p.held.length c), dv n, .int .i64 over] w (fun e w' => ∃ v, e = .returned (.tuple #[v, .int .i64 (chgZ p (backE p n over))]) ∧ Kp [] w w' ∧ (chgZ p (backE p n over) = 0 → PuAt w.heap.size w' v (nextP (freeQ p n 0))) ∧ (chgZ p (backE p n over) ≠ 0 → v = pv zPu (.slice none 0 0))) := by
  refine enter3 Try.func69 rfl Try.ntmps69 rfl ?_
  repeat (first|apply cA|apply cB|apply cD|apply cE|apply cF|apply cH|apply cM|refine cY rfl rfl rfl rfl (by first|((first|apply qmf|apply qmv|apply qas|apply qlc|apply qla|apply qfa|apply qnc|apply qix|apply qpk|apply qls|apply qle|apply qgt|apply qxt)<;>(first|exact rfl|assumption|exact Ar.mk (by omega)|exact dct (by first|assumption|omega)|exact dcf (by first|assumption|omega)|exact List.not_mem_nil|apply dc_length|apply hc_length|apply pc_length|exact nm1 (by omega)|fail))|fail) ?_)
  refine SG.box rfl rfl rfl (by exact rho_of rfl) (fun b2 w1 hk1 hb2 hB2 => ?_)
  have hB2 : Blk w1 b2 (.cells (pc p (.slice a p.held.length c)).toArray 34) := hB2
  refine SG.box rfl rfl rfl (by exact rho_of rfl) (fun b3 w2 hk2 hb3 hB3 => ?_)
  have hB3 : Blk w2 b3 (.cells (dc n).toArray 25) := hB3
  have hN : Row w2 b3 0 (dc n) := Row.all hB3 rfl
  refine SG.box rfl rfl rfl (by exact rho_of rfl) (fun b5 w3 hk3 hb5 hB5 => ?_)
  have hO : Row w3 b5 0 [.int .i64 over] := Row.of hB5 [] [] rfl rfl
  refine SG.alloc rfl rfl rfl (fun b6 w4 hk4 hb6 hB6 => ?_)
  have hN := (hN.kp0 hk3).kp0 hk4
  have hO := hO.kp0 hk4
  have hB2 := ((hB2.kp0 hk2).kp0 hk3).kp0 hk4
  have k4 := ((hk1.trans hk2).trans hk3).trans hk4
  have s3 := ((hk1.trans hk2).trans hk3).size
  obtain ⟨-, -, -, -, -, r5⟩ := pc_rows hB2
  repeat (first|apply cA|apply cB|apply cD|apply cE|apply cF|apply cH|apply cM|refine cY rfl rfl rfl rfl (by first|((first|apply qmf|apply qmv|apply qas|apply qlc|apply qla|apply qfa|apply qnc|apply qix|apply qpk|apply qls|apply qle|apply qgt|apply qxt)<;>(first|exact rfl|assumption|exact Ar.mk (by omega)|exact dct (by first|assumption|omega)|exact dcf (by first|assumption|omega)|exact List.not_mem_nil|apply dc_length|apply hc_length|apply pc_length|exact nm1 (by omega)|fail))|fail) ?_)
  refine cY rfl rfl rfl rfl (qmf (vs := [.pointer (some ⟨b3, 0, none⟩), .pointer (some ⟨b5, 0, none⟩)]) rfl) ?_
  refine SG.call rfl rfl rfl (vs := [pv p (.slice a p.held.length c), fnv 89 [.pointer (some ⟨b3, 0, none⟩), .pointer (some ⟨b5, 0, none⟩)]]) (by repeat' (first | exact True.intro | exact rho_of rfl | refine And.intro ?_ ?_)) ((changed_spec p (freeQ p n 0) (backE p n over) (hS.kp0 k4) hl hcap (freeQ_num _ _ _) (fun hc0 W bq s hk hbq hB ho => back1_spec hB (hN.kp0 hk) (hO.kp0 hk) ho hk.size (pu_ok hc0))).mono (fun e w5 hh => ?_))
  obtain ⟨v, he, hk5, h1, h2⟩ := hh
  refine ⟨_, he, ?_⟩
  have hB6 := hB6.kp0 hk5
  by_cases hz : chgZ p (backE p n over) = 0
  · obtain ⟨s, rfl, ho⟩ := h1 hz
    obtain ⟨a5, c5, rfl, _, _⟩ := Sl.own hc_length ho rfl
    repeat (first|apply cA|apply cB|apply cD|apply cE|apply cF|apply cH|apply cM|refine cY rfl rfl rfl rfl (by first|((first|apply qmf|apply qmv|apply qas|apply qlc|apply qla|apply qfa|apply qnc|apply qix|apply qpk|apply qls|apply qle|apply qgt|apply qxt)<;>(first|exact rfl|assumption|exact Ar.mk (by omega)|exact dct (by first|assumption|omega)|exact dcf (by first|assumption|omega)|exact List.not_mem_nil|apply dc_length|apply hc_length|apply pc_length|exact nm1 (by omega)|fail))|fail) ?_)
    refine SG.setAll (l := pc (nextP (freeQ p n 0)) (.slice a5 (nextP (freeQ p n 0)).held.length c5)) rfl rfl (by exact rho_of rfl) (by exact rho_of rfl) hB6 (pc_length _ _) rfl (pc_one _ _ _ _) (fun w6 hk6 hB7 => ?_)
    have hr : Row w6 b6 0 (pc (nextP (freeQ p n 0)) (.slice a5 (nextP (freeQ p n 0)).held.length c5)) := Row.all hB7 rfl
    have ho6 := own_kp (own_mono ho k4.size) hk6 (own_neb (own_mono ho k4.size) (by decide) hB6)
    repeat (first|apply cA|apply cB|apply cD|apply cE|apply cF|apply cH|apply cM|refine cY rfl rfl rfl rfl (by first|((first|apply qmf|apply qmv|apply qas|apply qlc|apply qla|apply qfa|apply qnc|apply qix|apply qpk|apply qls|apply qle|apply qgt|apply qxt)<;>(first|exact rfl|assumption|exact Ar.mk (by omega)|exact dct (by first|assumption|omega)|exact dcf (by first|assumption|omega)|exact List.not_mem_nil|apply dc_length|apply hc_length|apply pc_length|exact nm1 (by omega)|fail))|fail) ?_)
    refine ret2 (Or.inl rfl) Try.results69 (ResV.agg rfl rfl hr (pc_length _ _)) (by first | exact ResV.tmp rfl | exact ResV.agg rfl rfl (by assumption) (by first | exact dc_length _ | exact nc_length _ | exact rc_length _ _ _ | exact ec_length _ | exact dl_length _ _ _ _ | rfl) | exact ResV.cell rfl rfl (by assumption)) ?_
    exact ⟨_, rfl, (k4.trans hk5).trans_new hk6 (new1 (by omega)), fun _ => ⟨_, rfl, ho6⟩, fun h => absurd hz h⟩
  · have hv2 := h2 hz
    subst hv2
    repeat (first|apply cA|apply cB|apply cD|apply cE|apply cF|apply cH|apply cM|refine cY rfl rfl rfl rfl (by first|((first|apply qmf|apply qmv|apply qas|apply qlc|apply qla|apply qfa|apply qnc|apply qix|apply qpk|apply qls|apply qle|apply qgt|apply qxt)<;>(first|exact rfl|assumption|exact Ar.mk (by omega)|exact dct (by first|assumption|omega)|exact dcf (by first|assumption|omega)|exact List.not_mem_nil|apply dc_length|apply hc_length|apply pc_length|exact nm1 (by omega)|fail))|fail) ?_)
    refine SG.setAll (l := pc zPu (.slice none 0 0)) rfl rfl (by exact rho_of rfl) (by exact rho_of rfl) hB6 (pc_length _ _) rfl (pc_one _ _ _ _) (fun w6 hk6 hB7 => ?_)
    have hr : Row w6 b6 0 (pc zPu (.slice none 0 0)) := Row.all hB7 rfl
    repeat (first|apply cA|apply cB|apply cD|apply cE|apply cF|apply cH|apply cM|refine cY rfl rfl rfl rfl (by first|((first|apply qmf|apply qmv|apply qas|apply qlc|apply qla|apply qfa|apply qnc|apply qix|apply qpk|apply qls|apply qle|apply qgt|apply qxt)<;>(first|exact rfl|assumption|exact Ar.mk (by omega)|exact dct (by first|assumption|omega)|exact dcf (by first|assumption|omega)|exact List.not_mem_nil|apply dc_length|apply hc_length|apply pc_length|exact nm1 (by omega)|fail))|fail) ?_)
    refine ret2 (Or.inl rfl) Try.results69 (ResV.agg rfl rfl hr (pc_length _ _)) (by first | exact ResV.tmp rfl | exact ResV.agg rfl rfl (by assumption) (by first | exact dc_length _ | exact nc_length _ | exact rc_length _ _ _ | exact ec_length _ | exact dl_length _ _ _ _ | rfl) | exact ResV.cell rfl rfl (by assumption)) ?_
    exact ⟨_, rfl, (k4.trans hk5).trans_new hk6 (new1 (by omega)), fun h => absurd h hz, fun _ => rfl⟩
end Go.Proofs.Ytajllbdeoopimaa
namespace Go.Proofs.Ytajllbdeoopimaa
set_option linter.unusedVariables false
/-- A purse with a neighbour: the slice of what is held stands in it. -/
structure Sh where
  p : Pu
  a : Option Addr
  c : Nat
  side : Int
structure Pr where
  name : Dg
  frm : Dg
  to : Dg
  amt : Int
  inn : Int
  out : Int
def Sh.s (x : Sh) : Value := .slice x.a x.p.held.length x.c
def shc (x : Sh) : List Value := pc x.p x.s ++ [.int .i64 x.side]
theorem shc_length (x : Sh) : (shc x).length = 13 := by simp [shc, pc_length]
theorem shc_one (x : Sh) : allOne (shc x) = true := by simp [shc, allOne, pc, dc, oneB, Sh.s]
def shv (x : Sh) : Value := .agg (shc x).toArray
def prc (x : Pr) : List Value := dc x.name ++ (dc x.frm ++ (dc x.to ++ [.int .i64 x.amt, .int .i64 x.inn, .int .i64 x.out]))
theorem prc_length (x : Pr) : (prc x).length = 27 := by simp [prc, dc_length]
theorem prc_one (x : Pr) : allOne (prc x) = true := by simp [prc, allOne, dc, oneB]
def prv (x : Pr) : Value := .agg (prc x).toArray
abbrev Ms := List (Dg × Sh)
abbrev Mp := List (Dg × Pr)
/-- What is held lies in memory. -/
structure Sh.At (x : Sh) (w : World) : Prop where
  sl : Sl hc 11 w x.a x.p.held
  cap : x.p.held.length ≤ x.c
  ty : Ty 56 w x.a x.p.held
theorem Sh.At.kp {x : Sh} {S : List Nat} {w w' : World} (h : x.At w) (hk : Kp S w w') (hS : x.p.held ≠ [] → ∀ b off, x.a = some ⟨b, off, none⟩ → b ∉ S) : x.At w' := ⟨h.sl.kpN hk hS, h.cap, h.ty.kp hk hS⟩
theorem Sh.At.kp0 {x : Sh} {w w' : World} (h : x.At w) (hk : Kp [] w w') : x.At w' := h.kp hk (by simp)
structure HubAt (w : World) (bh bs bp : Nat) (win : Int) (ms : Ms) (mp : Mp) : Prop where
  blk : Blk w bh (.cells #[.int .i64 win, .map (some bs), .map (some bp)] 87)
  sh : MapIs w bs (dv (n := 8)) shv ms
  pr : MapIs w bp (dv (n := 8)) prv mp
  ne : bs ≠ bp
  at' : ∀ x ∈ ms, x.2.At w
  few : ∀ x ∈ ms, x.2.p.held.length ≤ 16
theorem MapIs.blk {κ ν : Type} {w : World} {b : Nat} {enc : κ → Value} {V : ν → Value} {m : List (κ × ν)} (h : MapIs w b enc V m) : ∃ es c, Blk w b (.map es c) := by
  obtain ⟨es, c, hb, _⟩ := h
  exact ⟨es, c, hb⟩
/-- A map's block is no row's. -/
theorem MapIs.nb {κ ν : Type} {w : World} {b z : Nat} {enc : κ → Value} {V : ν → Value} {m : List (κ × ν)} {cs : Array Value} {T : TypeId} {f : Nat × Nat} (h : MapIs w b enc V m) (hz : w.heap[z]? = some (.cells cs T f)) : z ≠ b := fun e => by
  obtain ⟨es, c, hb⟩ := h.blk
  have hb : w.heap[b]? = _ := hb
  rw [← e, hz] at hb
  cases hb
theorem Blk.raw {w : World} {b : Nat} {cs : Array Value} {T : TypeId} (h : Blk w b (.cells cs T)) : w.heap[b]? = some (.cells cs T) := h
theorem HubAt.kp0 {w w' : World} {bh bs bp : Nat} {win : Int} {ms : Ms} {mp : Mp} (h : HubAt w bh bs bp win ms mp) (hk : Kp [] w w') : HubAt w' bh bs bp win ms mp :=
  ⟨h.blk.kp0 hk, h.sh.kp0 hk, h.pr.kp0 hk, h.ne, fun x hx => (h.at' x hx).kp0 hk, h.few⟩
theorem Sh.At.map {x : Sh} {κ ν : Type} {w w' : World} {b : Nat} {enc : κ → Value} {V : ν → Value} {m : List (κ × ν)} (h : x.At w) (hm : MapIs w b enc V m) (hk : Kp [b] w w') : x.At w' :=
  h.kp hk (fun hn z off e => by
    obtain ⟨cs, f, hz⟩ := h.ty hn z off e
    exact nm1 (hm.nb hz))
/-- The purses written over. -/
theorem HubAt.setS {w w' : World} {bh bs bp : Nat} {win : Int} {ms ms' : Ms} {mp : Mp} (h : HubAt w bh bs bp win ms mp) (hk : Kp [bs] w w') (hm : MapIs w' bs (dv (n := 8)) shv ms') (hat : ∀ x ∈ ms', x.2.At w) (hf : ∀ x ∈ ms', x.2.p.held.length ≤ 16) : HubAt w' bh bs bp win ms' mp :=
  ⟨h.blk.kp hk (nm1 (h.sh.nb h.blk.raw)), hm, h.pr.kp hk (nm1 (fun e => h.ne e.symm)), h.ne, fun x hx => (hat x hx).map h.sh hk, hf⟩
/-- What is forwarded written over. -/
theorem HubAt.setP {w w' : World} {bh bs bp : Nat} {win : Int} {ms : Ms} {mp mp' : Mp} (h : HubAt w bh bs bp win ms mp) (hk : Kp [bp] w w') (hm : MapIs w' bp (dv (n := 8)) prv mp') : HubAt w' bh bs bp win ms mp' :=
  ⟨h.blk.kp hk (nm1 (h.pr.nb h.blk.raw)), h.sh.kp hk (nm1 h.ne), hm, h.ne, fun x hx => (h.at' x hx).map h.pr hk, h.few⟩
theorem HubAt.rows {w : World} {bh bs bp : Nat} {win : Int} {ms : Ms} {mp : Mp} (h : HubAt w bh bs bp win ms mp) : Row w bh 0 [.int .i64 win] ∧ Row w bh 1 [.map (some bs)] ∧ Row w bh 2 [.map (some bp)] :=
  ⟨Row.of h.blk [] [.map (some bs), .map (some bp)] rfl rfl, Row.of h.blk [.int .i64 win] [.map (some bp)] rfl rfl, Row.of h.blk [.int .i64 win, .map (some bs)] [] rfl rfl⟩
theorem shc_rows {w : World} {b : Nat} {T : TypeId} {x : Sh} (h : Blk w b (.cells (shc x).toArray T)) : Row w b 0 (dc x.p.name) ∧ Row w b 0 (pc x.p x.s) ∧ Row w b 12 [.int .i64 x.side] ∧ Row w b 0 (shc x) := by
  have l8 : (dc x.p.name).length = 8 := dc_length _
  refine ⟨Row.of h [] ([.int .i64 x.p.num, .int .i64 x.p.h0, .int .i64 x.p.h1, x.s] ++ [.int .i64 x.side]) (by simp [shc, pc]) rfl, Row.of h [] [.int .i64 x.side] (by simp [shc]) rfl, Row.of h (pc x.p x.s) [] (by simp [shc]) (pc_length _ _), Row.all h rfl⟩
theorem bhub (z : Int) (a b : Nat) (w : World) : (Instr.build 87 #[(0, .int .i64 z), (1, .map (some a)), (2, .map (some b))]).run Try.prog w = .ok (.agg #[.int .i64 z, .map (some a), .map (some b)]) w := by kernel_rfl
abbrev np : Value := .pointer none
attribute [local irreducible] CG NG SG Vals Der Row Blk MapIs IterAt chkL DerR
set_option maxHeartbeats 16000000 in
theorem new_spec (z : Int) (h1 : 1 ≤ z) (h2 : z ≤ 1048576) (w : World) : Calls Try.prog 11 #[.int .i64 z] w (fun e w' => ∃ bh bs bp, e = .returned (.tuple #[.pointer (some ⟨bh, 0, none⟩), .int .i64 0]) ∧ Kp [] w w' ∧ w.heap.size ≤ bh ∧ w.heap.size ≤ bs ∧ w.heap.size ≤ bp ∧ HubAt w' bh bs bp z [] []) := by
  refine enter1 Try.func11 rfl Try.ntmps11 rfl ?_
  have g1 : ¬ z < 1 := by omega
  have g2 : ¬ 1048576 < z := by omega
  repeat (first | first|apply cA|apply cB|apply cD|apply cE|apply cF|apply cG|apply cH|apply cJ|apply cM|apply cN|apply cU|refine cV rfl ?_|apply cX|refine cY rfl rfl rfl rfl (by first|((first|apply qen|apply qmv|apply qas|apply qlc|apply qla|apply qfa|apply qnc|apply qpk|apply qls|apply qed|apply qgt|apply qxt|apply qen)<;>(first|exact rfl|assumption|exact dct (by first|assumption|omega)|exact dcf (by first|assumption|omega)|exact List.not_mem_nil|apply dc_length|apply pc_length|apply shc_length|exact nm1 (by omega)|fail))|fail) ?_ | refine cZ rfl rfl ?_)
  refine dD rfl (by exact rho_of rfl) rfl ?_
  repeat (first|apply cA|apply cB|apply cD|apply cE|apply cF|apply cG|apply cH|apply cJ|apply cM|apply cN|apply cU|refine cV rfl ?_|apply cX|refine cY rfl rfl rfl rfl (by first|((first|apply qen|apply qmv|apply qas|apply qlc|apply qla|apply qfa|apply qnc|apply qpk|apply qls|apply qed|apply qgt|apply qxt|apply qen)<;>(first|exact rfl|assumption|exact dct (by first|assumption|omega)|exact dcf (by first|assumption|omega)|exact List.not_mem_nil|apply dc_length|apply pc_length|apply shc_length|exact nm1 (by omega)|fail))|fail) ?_)
  refine SG.makeMap (dv (n := 8)) shv rfl rfl (fun bs w1 hk1 hbs hms => ?_)
  refine SG.makeMap (dv (n := 8)) prv rfl rfl (fun bp w2 hk2 hbp hmp => ?_)
  repeat (first|apply cA|apply cB|apply cD|apply cE|apply cF|apply cG|apply cH|apply cJ|apply cM|apply cN|apply cU|refine cV rfl ?_|apply cX|refine cY rfl rfl rfl rfl (by first|((first|apply qen|apply qmv|apply qas|apply qlc|apply qla|apply qfa|apply qnc|apply qpk|apply qls|apply qed|apply qgt|apply qxt|apply qen)<;>(first|exact rfl|assumption|exact dct (by first|assumption|omega)|exact dcf (by first|assumption|omega)|exact List.not_mem_nil|apply dc_length|apply pc_length|apply shc_length|exact nm1 (by omega)|fail))|fail) ?_)
  refine cY rfl rfl rfl rfl (vals_build rfl (bhub z bs bp)) ?_
  refine SG.box rfl rfl rfl (by exact rho_of rfl) (fun bh w3 hk3 hbh hB => ?_)
  repeat (first|apply cA|apply cB|apply cD|apply cE|apply cF|apply cG|apply cH|apply cJ|apply cM|apply cN|apply cU|refine cV rfl ?_|apply cX|refine cY rfl rfl rfl rfl (by first|((first|apply qen|apply qmv|apply qas|apply qlc|apply qla|apply qfa|apply qnc|apply qpk|apply qls|apply qed|apply qgt|apply qxt|apply qen)<;>(first|exact rfl|assumption|exact dct (by first|assumption|omega)|exact dcf (by first|assumption|omega)|exact List.not_mem_nil|apply dc_length|apply pc_length|apply shc_length|exact nm1 (by omega)|fail))|fail) ?_)
  refine ret2 (Or.inl rfl) Try.results11 (by first | exact ResV.tmp rfl | exact ResV.agg rfl rfl (by assumption) (by first | exact dc_length _ | exact nc_length _ | exact rc_length _ _ _ | exact ec_length _ | exact dl_length _ _ _ _ | rfl) | exact ResV.cell rfl rfl (by assumption)) (by first | exact ResV.tmp rfl | exact ResV.agg rfl rfl (by assumption) (by first | exact dc_length _ | exact nc_length _ | exact rc_length _ _ _ | exact ec_length _ | exact dl_length _ _ _ _ | rfl) | exact ResV.cell rfl rfl (by assumption)) ?_
  have s1 := hk1.size
  have s2 := hk2.size
  have l1 := hms.lt
  exact ⟨bh, bs, bp, rfl, (hk1.trans hk2).trans hk3, by omega, hbs, by omega, hB, (hms.kp0 hk2).kp0 hk3, hmp.kp0 hk3, by omega, fun x hx => (by cases hx), fun x hx => (by cases hx)⟩
def namedB (ms : Ms) (n : Dg) : Bool := ms.any (fun x => decide (x.2.p.name = n))
set_option maxHeartbeats 16000000 in
theorem named_spec {w : World} {bh bs bp : Nat} {win : Int} {ms : Ms} {mp : Mp} (hH : HubAt w bh bs bp win ms mp) (n : Dg) : Ret Try.prog 34 #[.pointer (some ⟨bh, 0, none⟩), dv n] w (.bool (namedB ms n)) := by
  refine enter2 Try.func34 rfl Try.ntmps34 rfl ?_
  repeat (first|apply cA|apply cB|apply cD|apply cE|apply cF|apply cG|apply cH|apply cJ|apply cM|apply cN|apply cU|refine cV rfl ?_|apply cX|refine cY rfl rfl rfl rfl (by first|((first|apply qen|apply qmv|apply qas|apply qlc|apply qla|apply qfa|apply qnc|apply qpk|apply qls|apply qed|apply qgt|apply qxt|apply qen)<;>(first|exact rfl|assumption|exact dct (by first|assumption|omega)|exact dcf (by first|assumption|omega)|exact List.not_mem_nil|apply dc_length|apply pc_length|apply shc_length|exact nm1 (by omega)|fail))|fail) ?_)
  refine SG.box rfl rfl rfl (by exact rho_of rfl) (fun b3 w1 hk1 hb3 hB3 => ?_)
  have hB3 : Blk w1 b3 (.cells (dc n).toArray 25) := hB3
  have hN : Row w1 b3 0 (dc n) := Row.all hB3 rfl
  have l3 := hB3.lt
  have hH1 := hH.kp0 hk1
  obtain ⟨-, r1, -⟩ := hH1.rows
  repeat (first|apply cA|apply cB|apply cD|apply cE|apply cF|apply cG|apply cH|apply cJ|apply cM|apply cN|apply cU|refine cV rfl ?_|apply cX|refine cY rfl rfl rfl rfl (by first|((first|apply qen|apply qmv|apply qas|apply qlc|apply qla|apply qfa|apply qnc|apply qpk|apply qls|apply qed|apply qgt|apply qxt|apply qen)<;>(first|exact rfl|assumption|exact dct (by first|assumption|omega)|exact dcf (by first|assumption|omega)|exact List.not_mem_nil|apply dc_length|apply pc_length|apply shc_length|exact nm1 (by omega)|fail))|fail) ?_)
  refine SG.range rfl rfl rfl (by exact rho_of rfl) hH1.sh (fun r w2 hk2 hr2 hI => ?_)
  repeat (first|apply cA|apply cB|apply cD|apply cE|apply cF|apply cG|apply cH|apply cJ|apply cM|apply cN|apply cU|refine cV rfl ?_|apply cX|refine cY rfl rfl rfl rfl (by first|((first|apply qen|apply qmv|apply qas|apply qlc|apply qla|apply qfa|apply qnc|apply qpk|apply qls|apply qed|apply qgt|apply qxt|apply qen)<;>(first|exact rfl|assumption|exact dct (by first|assumption|omega)|exact dcf (by first|assumption|omega)|exact List.not_mem_nil|apply dc_length|apply pc_length|apply shc_length|exact nm1 (by omega)|fail))|fail) ?_)
  refine CG.loop (X := Ms × Ms × Option (Dg × Sh)) (fun x => [(3, .pointer (some ⟨b3, 0, none⟩)), (11, .pointer (some ⟨r, 0, none⟩))])
    (fun x w' => Kp [r] w2 w' ∧ IterAt w' r bs (dv (n := 8)) shv ms x.2.1 x.2.2 ∧ (x.1 ++ x.2.1).Perm ms ∧ namedB x.1 n = false) (fun x => x.2.1.length) ([], ms, none) ⟨Kp.refl _ _, hI, by simp, rfl⟩ (by (repeat' (first | exact True.intro | exact rfl | refine And.intro ?_ ?_))) ?_
  rintro ⟨done, left, cur⟩ w3 ⟨hk3, hI, hp, hd⟩
  simp only at hI hp hd
  have k3 : Kp [] w1 w3 := hk2.trans_new hk3 (new1 (by omega))
  have hN3 := hN.kp0 k3
  repeat (first|apply cA|apply cB|apply cD|apply cE|apply cF|apply cG|apply cH|apply cJ|apply cM|apply cN|apply cU|refine cV rfl ?_|apply cX|refine cY rfl rfl rfl rfl (by first|((first|apply qen|apply qmv|apply qas|apply qlc|apply qla|apply qfa|apply qnc|apply qpk|apply qls|apply qed|apply qgt|apply qxt|apply qen)<;>(first|exact rfl|assumption|exact dct (by first|assumption|omega)|exact dcf (by first|assumption|omega)|exact List.not_mem_nil|apply dc_length|apply pc_length|apply shc_length|exact nm1 (by omega)|fail))|fail) ?_)
  refine SG.next rfl rfl rfl (by exact rho_of rfl) hI (fun h0 => ?_) (fun pre x post w4 hl4 hk4 hI4 => ?_)
  · subst h0
    rw [List.append_nil] at hp
    have e : namedB ms n = false := by
      rw [← hd]
      unfold namedB
      rw [Bool.eq_iff_iff, List.any_eq_true, List.any_eq_true]
      exact ⟨fun ⟨x, h1, h2⟩ => ⟨x, hp.mem_iff.2 h1, h2⟩, fun ⟨x, h1, h2⟩ => ⟨x, hp.mem_iff.1 h1, h2⟩⟩
    rw [e]
    repeat (first|apply cA|apply cB|apply cD|apply cE|apply cF|apply cG|apply cH|apply cJ|apply cM|apply cN|apply cU|refine cV rfl ?_|apply cX|refine cY rfl rfl rfl rfl (by first|((first|apply qen|apply qmv|apply qas|apply qlc|apply qla|apply qfa|apply qnc|apply qpk|apply qls|apply qed|apply qgt|apply qxt|apply qen)<;>(first|exact rfl|assumption|exact dct (by first|assumption|omega)|exact dcf (by first|assumption|omega)|exact List.not_mem_nil|apply dc_length|apply pc_length|apply shc_length|exact nm1 (by omega)|fail))|fail) ?_)
    refine dD rfl (by exact rho_of rfl) rfl ?_
    repeat (first|apply cA|apply cB|apply cD|apply cE|apply cF|apply cG|apply cH|apply cJ|apply cM|apply cN|apply cU|refine cV rfl ?_|apply cX|refine cY rfl rfl rfl rfl (by first|((first|apply qen|apply qmv|apply qas|apply qlc|apply qla|apply qfa|apply qnc|apply qpk|apply qls|apply qed|apply qgt|apply qxt|apply qen)<;>(first|exact rfl|assumption|exact dct (by first|assumption|omega)|exact dcf (by first|assumption|omega)|exact List.not_mem_nil|apply dc_length|apply pc_length|apply shc_length|exact nm1 (by omega)|fail))|fail) ?_)
    refine ret1 (Or.inl rfl) Try.results34 (by first | exact ResV.tmp rfl | exact ResV.agg rfl rfl (by assumption) (by first | exact dc_length _ | exact nc_length _ | exact rc_length _ _ _ | exact ec_length _ | exact dl_length _ _ _ _ | rfl) | exact ResV.cell rfl rfl (by assumption)) ?_
    exact ⟨rfl, hk1.trans k3⟩
  · have hxm : x ∈ ms := hp.mem_iff.1 (by rw [hl4]; simp)
    repeat (first|apply cA|apply cB|apply cD|apply cE|apply cF|apply cG|apply cH|apply cJ|apply cM|apply cN|apply cU|refine cV rfl ?_|apply cX|refine cY rfl rfl rfl rfl (by first|((first|apply qen|apply qmv|apply qas|apply qlc|apply qla|apply qfa|apply qnc|apply qpk|apply qls|apply qed|apply qgt|apply qxt|apply qen)<;>(first|exact rfl|assumption|exact dct (by first|assumption|omega)|exact dcf (by first|assumption|omega)|exact List.not_mem_nil|apply dc_length|apply pc_length|apply shc_length|exact nm1 (by omega)|fail))|fail) ?_)
    refine dB rfl (by exact rho_of rfl) rfl ?_
    have s4 := hk4.size
    have k4 : Kp [] w1 w4 := k3.trans_new hk4 (new1 (by have := hk1.size; omega))
    repeat (first|apply cA|apply cB|apply cD|apply cE|apply cF|apply cG|apply cH|apply cJ|apply cM|apply cN|apply cU|refine cV rfl ?_|apply cX|refine cY rfl rfl rfl rfl (by first|((first|apply qen|apply qmv|apply qas|apply qlc|apply qla|apply qfa|apply qnc|apply qpk|apply qls|apply qed|apply qgt|apply qxt|apply qen)<;>(first|exact rfl|assumption|exact dct (by first|assumption|omega)|exact dcf (by first|assumption|omega)|exact List.not_mem_nil|apply dc_length|apply pc_length|apply shc_length|exact nm1 (by omega)|fail))|fail) ?_)
    refine SG.alloc rfl rfl rfl (fun b6 w5 hk5 hb6 hB6 => ?_)
    refine SG.setAll (l := shc x.2) rfl rfl (by exact rho_of rfl) (by exact rho_of rfl) hB6 (shc_length _) rfl (shc_one _) (fun w6 hk6 hB7 => ?_)
    have hB7 : Blk w6 b6 (.cells (shc x.2).toArray 89) := hB7
    obtain ⟨q0, -, -, -⟩ := shc_rows hB7
    have k46 : Kp [] w4 w6 := hk5.trans_new hk6 (new1 (by omega))
    have k6 := k4.trans k46
    have hN6 := hN.kp0 k6
    by_cases he : x.2.p.name = n
    · have e : namedB ms n = true := List.any_eq_true.2 ⟨x, hxm, decide_eq_true he⟩
      rw [e]
      repeat (first|apply cA|apply cB|apply cD|apply cE|apply cF|apply cG|apply cH|apply cJ|apply cM|apply cN|apply cU|refine cV rfl ?_|apply cX|refine cY rfl rfl rfl rfl (by first|((first|apply qen|apply qmv|apply qas|apply qlc|apply qla|apply qfa|apply qnc|apply qpk|apply qls|apply qed|apply qgt|apply qxt|apply qen)<;>(first|exact rfl|assumption|exact dct (by first|assumption|omega)|exact dcf (by first|assumption|omega)|exact List.not_mem_nil|apply dc_length|apply pc_length|apply shc_length|exact nm1 (by omega)|fail))|fail) ?_)
      refine dB rfl (by exact rho_of rfl) rfl ?_
      repeat (first|apply cA|apply cB|apply cD|apply cE|apply cF|apply cG|apply cH|apply cJ|apply cM|apply cN|apply cU|refine cV rfl ?_|apply cX|refine cY rfl rfl rfl rfl (by first|((first|apply qen|apply qmv|apply qas|apply qlc|apply qla|apply qfa|apply qnc|apply qpk|apply qls|apply qed|apply qgt|apply qxt|apply qen)<;>(first|exact rfl|assumption|exact dct (by first|assumption|omega)|exact dcf (by first|assumption|omega)|exact List.not_mem_nil|apply dc_length|apply pc_length|apply shc_length|exact nm1 (by omega)|fail))|fail) ?_)
      refine ret1 (Or.inl rfl) Try.results34 (by first | exact ResV.tmp rfl | exact ResV.agg rfl rfl (by assumption) (by first | exact dc_length _ | exact nc_length _ | exact rc_length _ _ _ | exact ec_length _ | exact dl_length _ _ _ _ | rfl) | exact ResV.cell rfl rfl (by assumption)) ?_
      exact ⟨rfl, hk1.trans k6⟩
    · repeat (first|apply cA|apply cB|apply cD|apply cE|apply cF|apply cG|apply cH|apply cJ|apply cM|apply cN|apply cU|refine cV rfl ?_|apply cX|refine cY rfl rfl rfl rfl (by first|((first|apply qen|apply qmv|apply qas|apply qlc|apply qla|apply qfa|apply qnc|apply qpk|apply qls|apply qed|apply qgt|apply qxt|apply qen)<;>(first|exact rfl|assumption|exact dct (by first|assumption|omega)|exact dcf (by first|assumption|omega)|exact List.not_mem_nil|apply dc_length|apply pc_length|apply shc_length|exact nm1 (by omega)|fail))|fail) ?_)
      refine dD rfl (by exact rho_of rfl) rfl ?_
      repeat (first|apply cA|apply cB|apply cD|apply cE|apply cF|apply cG|apply cH|apply cJ|apply cM|apply cN|apply cU|refine cV rfl ?_|apply cX|refine cY rfl rfl rfl rfl (by first|((first|apply qen|apply qmv|apply qas|apply qlc|apply qla|apply qfa|apply qnc|apply qpk|apply qls|apply qed|apply qgt|apply qxt|apply qen)<;>(first|exact rfl|assumption|exact dct (by first|assumption|omega)|exact dcf (by first|assumption|omega)|exact List.not_mem_nil|apply dc_length|apply pc_length|apply shc_length|exact nm1 (by omega)|fail))|fail) ?_)
      refine NG.round (done ++ [x], pre ++ post, some x) (by (repeat' (first | exact True.intro | exact rfl | refine And.intro ?_ ?_))) ⟨(hk3.trans hk4).trans k46.any, hI4.kp0 k46, ?_, ?_⟩ (by simp only; rw [hl4]; simp)
      · simp only
        rw [hl4] at hp
        refine List.Perm.trans ?_ hp
        rw [List.append_assoc, List.singleton_append]
        exact List.Perm.append_left _ List.perm_middle.symm
      · simp only
        unfold namedB at hd ⊢
        rw [List.any_append, hd]
        simp [he]
end Go.Proofs.Ytajllbdeoopimaa
namespace Go.Proofs.Ytajllbdeoopimaa
open Go.ChangeShapes Go.WideShapes Go.ChangeAt Go.RowKit
set_option linter.unusedVariables false
theorem own : ownKnob Try.prog.godebug = none := by kernel_rfl
theorem laidOut : laidOutB Try.prog = true := by kernel_rfl
theorem cells5 : Try.prog.cellsOf 5 = 1 := by kernel_rfl
theorem cells3 : Try.prog.cellsOf 3 = 1 := by kernel_rfl
end Go.Proofs.Ytajllbdeoopimaa
namespace Go.Proofs.Ytajllbdeoopimaa
set_option linter.unusedVariables false
/-- No purse at all, as a map that lacks one answers it. -/
def zSh : Sh := ⟨zPu, none, 0, 0⟩
theorem bsh' (w : World) (a0 a1 a2 a3 a4 a5 a6 a7 : UInt8) (n h0 h1 side : Int) (s : Value) : (Instr.build 89 #[(0, .agg #[bv a0, bv a1, bv a2, bv a3, bv a4, bv a5, bv a6, bv a7, .int .i64 n, .int .i64 h0, .int .i64 h1, s]), (1, .int .i64 side)]).run Try.prog w = .ok (.agg #[bv a0, bv a1, bv a2, bv a3, bv a4, bv a5, bv a6, bv a7, .int .i64 n, .int .i64 h0, .int .i64 h1, s, .int .i64 side]) w := by kernel_rfl
theorem bsh (p : Pu) (a : Option Addr) (c : Nat) (side : Int) (w : World) : (Instr.build 89 #[(0, pv p (.slice a p.held.length c)), (1, .int .i64 side)]).run Try.prog w = .ok (shv ⟨p, a, c, side⟩) w := by
  obtain ⟨⟨l, hl⟩, n, h0, h1, held⟩ := p
  match l, hl with
  | [a0, a1, a2, a3, a4, a5, a6, a7], _ => exact bsh' w a0 a1 a2 a3 a4 a5 a6 a7 n h0 h1 side (.slice a held.length c)
theorem aput_mem {ms : Ms} {k : Dg} {x y : Dg × Sh} {v : Sh} (h : y ∈ aput ms k v) : y ∈ ms ∨ y.2 = v := by
  induction ms with
  | nil =>
    simp [aput] at h
    exact Or.inr (by rw [h])
  | cons z ms ih =>
    unfold aput at h
    split at h
    · rcases List.mem_cons.1 h with h | h
      · exact Or.inr (by rw [h])
      · exact Or.inl (List.mem_cons_of_mem _ h)
    · rcases List.mem_cons.1 h with h | h
      · exact Or.inl (h ▸ List.mem_cons_self)
      · exact (ih h).imp (List.mem_cons_of_mem _) id
attribute [local irreducible] CG NG SG Vals Der Row Blk MapIs IterAt chkL DerR
set_option maxHeartbeats 16000000 in
theorem put_spec {w : World} {bh bs bp : Nat} {win : Int} {ms : Ms} {mp : Mp} (hH : HubAt w bh bs bp win ms mp) (k : Dg) (p : Pu) (a : Option Addr) (c : Nat) {old : Sh} (hk0 : alook ms k = some old) (hat : (⟨p, a, c, old.side⟩ : Sh).At w) (hl : p.held.length ≤ 16) :
    Calls Try.prog 37 #[.pointer (some ⟨bh, 0, none⟩), dv k, pv p (.slice a p.held.length c)] w (fun e w' => e = .returned (.tuple #[]) ∧ Kp [bs] w w' ∧ HubAt w' bh bs bp win (aput ms k ⟨p, a, c, old.side⟩) mp) := by
  refine enter3 Try.func37 rfl Try.ntmps37 rfl ?_
  repeat (first|apply cA|apply cB|apply cD|apply cE|apply cF|apply cH|apply cM|refine cY rfl rfl rfl rfl (by first|((first|apply qep|apply qmv|apply qas|apply qlc|apply qla|apply qfa|apply qnc|apply qlk|apply qlv|apply qxt|apply qnt|apply qep)<;>(first|exact rfl|assumption|exact List.not_mem_nil|apply dc_length|apply hc_length|apply pc_length|apply shc_length|exact lk1 (by assumption)|exact lk0 (by assumption)|fail))|fail) ?_)
  refine SG.box rfl rfl rfl (by exact rho_of rfl) (fun b4 w1 hk1 hb4 hB4 => ?_)
  have hB4 : Blk w1 b4 (.cells (dc k).toArray 25) := hB4
  have hK : Row w1 b4 0 (dc k) := Row.all hB4 rfl
  refine SG.box rfl rfl rfl (by exact rho_of rfl) (fun b5 w2 hk2 hb5 hB5 => ?_)
  have hB5 : Blk w2 b5 (.cells (pc p (.slice a p.held.length c)).toArray 34) := hB5
  have k2 := hk1.trans hk2
  have hH2 := hH.kp0 k2
  have hK2 := hK.kp0 hk2
  obtain ⟨-, r1, -⟩ := hH2.rows
  have hm2 := hH2.sh
  repeat (first|apply cA|apply cB|apply cD|apply cE|apply cF|apply cH|apply cM|refine cY rfl rfl rfl rfl (by first|((first|apply qep|apply qmv|apply qas|apply qlc|apply qla|apply qfa|apply qnc|apply qlk|apply qlv|apply qxt|apply qnt|apply qep)<;>(first|exact rfl|assumption|exact List.not_mem_nil|apply dc_length|apply hc_length|apply pc_length|apply shc_length|exact lk1 (by assumption)|exact lk0 (by assumption)|fail))|fail) ?_)
  refine CG.drawv mixed [0, 1, 2, 3, 4, 5] [(6, 7, 6, .tmp 12)] (by kernel_rfl) (by kernel_rfl) ?_
  repeat (refine dA rfl rfl rfl (by first|((first|apply qep|apply qmv|apply qas|apply qlc|apply qla|apply qfa|apply qnc|apply qlk|apply qlv|apply qxt|apply qnt|apply qep)<;>(first|exact rfl|assumption|exact List.not_mem_nil|apply dc_length|apply hc_length|apply pc_length|apply shc_length|exact lk1 (by assumption)|exact lk0 (by assumption)|fail))|fail) ?_)
  refine Der.one (VrOk.of (by rfl) rfl rfl rfl (by exact rho_of rfl) (by exact shc_length old) (by rfl) (by exact shc_one old)) (fun b6 w3 hk3 hb6 hB6 => ?_)
  have hB6 : Blk w3 b6 (.cells (shc old).toArray 89) := hB6
  have hB5 := hB5.kp0 hk3
  obtain ⟨-, -, -, -, -, r5⟩ := pc_rows hB5
  clear r1 hm2
  repeat (first|apply cA|apply cB|apply cD|apply cE|apply cF|apply cH|apply cM|refine cY rfl rfl rfl rfl (by first|((first|apply qep|apply qmv|apply qas|apply qlc|apply qla|apply qfa|apply qnc|apply qlk|apply qlv|apply qxt|apply qnt|apply qep)<;>(first|exact rfl|assumption|exact List.not_mem_nil|apply dc_length|apply hc_length|apply pc_length|apply shc_length|exact lk1 (by assumption)|exact lk0 (by assumption)|fail))|fail) ?_)
  refine SG.setMid [] (pc old.p old.s) [.int .i64 old.side] rfl rfl (by exact rho_of rfl) (by exact rho_of rfl) hB6 rfl (by exact pc_length _ _) (pc_length _ _) rfl (by exact pc_one _ _ _ _) (fun w4 hk4 hB7 => ?_)
  have hB7 : Blk w4 b6 (.cells (shc ⟨p, a, c, old.side⟩).toArray 89) := hB7
  have k24 : Kp [] w2 w4 := hk3.trans_new hk4 (new1 (by omega))
  have hH4 := hH2.kp0 k24
  have hK4 := hK2.kp0 k24
  obtain ⟨-, r1, -⟩ := hH4.rows
  obtain ⟨-, -, -, r6⟩ := shc_rows hB7
  clear r5
  repeat (first|apply cA|apply cB|apply cD|apply cE|apply cF|apply cH|apply cM|refine cY rfl rfl rfl rfl (by first|((first|apply qep|apply qmv|apply qas|apply qlc|apply qla|apply qfa|apply qnc|apply qlk|apply qlv|apply qxt|apply qnt|apply qep)<;>(first|exact rfl|assumption|exact List.not_mem_nil|apply dc_length|apply hc_length|apply pc_length|apply shc_length|exact lk1 (by assumption)|exact lk0 (by assumption)|fail))|fail) ?_)
  refine CG.tail mixed 6 [0, 1, 2, 3, 4, 5] (by kernel_rfl) ?_
  repeat (refine dA rfl rfl rfl (by first|((first|apply qep|apply qmv|apply qas|apply qlc|apply qla|apply qfa|apply qnc|apply qlk|apply qlv|apply qxt|apply qnt|apply qep)<;>(first|exact rfl|assumption|exact List.not_mem_nil|apply dc_length|apply hc_length|apply pc_length|apply shc_length|exact lk1 (by assumption)|exact lk0 (by assumption)|fail))|fail) ?_)
  refine Der.tl (fun w5 hk5 _ _ => ?_)
  have hH5 := hH4.kp0 hk5
  have k5 := (k2.trans k24).trans hk5
  refine SG.mapUpdate (enc := dv (n := 8)) (V := shv) (kx := k) (vy := ⟨p, a, c, old.side⟩) rfl rfl (by exact rho_of rfl) (by exact rho_of rfl) (by exact rho_of rfl) hH5.sh BArr.key (fun w6 hk6 hm6 => ?_)
  repeat (first|apply cA|apply cB|apply cD|apply cE|apply cF|apply cH|apply cM|refine cY rfl rfl rfl rfl (by first|((first|apply qep|apply qmv|apply qas|apply qlc|apply qla|apply qfa|apply qnc|apply qlk|apply qlv|apply qxt|apply qnt|apply qep)<;>(first|exact rfl|assumption|exact List.not_mem_nil|apply dc_length|apply hc_length|apply pc_length|apply shc_length|exact lk1 (by assumption)|exact lk0 (by assumption)|fail))|fail) ?_)
  refine ret0 (Or.inr rfl) Try.results37 ?_
  refine ⟨rfl, k5.any.trans hk6, hH5.setS hk6 hm6 (fun x hx => ?_) (fun x hx => ?_)⟩
  · rcases aput_mem (x := x) hx with h | h
    · exact hH5.at' x h
    · rw [h]; exact hat.kp0 k5
  · rcases aput_mem (x := x) hx with h | h
    · exact hH5.few x h
    · rw [h]; exact hl
set_option maxHeartbeats 16000000 in
theorem purse_some {w : World} {bh bs bp : Nat} {win : Int} {ms : Ms} {mp : Mp} (hH : HubAt w bh bs bp win ms mp) (k : Dg) {x : Sh} (hk0 : alook ms k = some x) (hat : x.At w) (hl : x.p.held.length ≤ 16) : Calls Try.prog 16 #[.pointer (some ⟨bh, 0, none⟩), dv k] w (fun e w' => ∃ v, e = .returned (.tuple #[v, .bool true]) ∧ PuAt w.heap.size w' v x.p ∧ Kp [] w w') := by
  refine enter2 Try.func16 rfl Try.ntmps16 rfl ?_
  repeat (first|apply cA|apply cB|apply cD|apply cE|apply cF|apply cH|apply cM|refine cY rfl rfl rfl rfl (by first|((first|apply qep|apply qmv|apply qas|apply qlc|apply qla|apply qfa|apply qnc|apply qlk|apply qlv|apply qxt|apply qnt|apply qep)<;>(first|exact rfl|assumption|exact List.not_mem_nil|apply dc_length|apply hc_length|apply pc_length|apply shc_length|exact lk1 (by assumption)|exact lk0 (by assumption)|fail))|fail) ?_)
  refine SG.box rfl rfl rfl (by exact rho_of rfl) (fun b3 w1 hk1 hb3 hB3 => ?_)
  have hB3 : Blk w1 b3 (.cells (dc k).toArray 25) := hB3
  have hK : Row w1 b3 0 (dc k) := Row.all hB3 rfl
  refine SG.alloc rfl rfl rfl (fun b4 w2 hk2 hb4 hB4 => ?_)
  have hB4 : Blk w2 b4 (.cells (pc zPu (.slice none 0 0)).toArray 34) := hB4
  have k2 := hk1.trans hk2
  have s1 := hk1.size
  have hH2 := hH.kp0 k2
  have hK2 := hK.kp0 hk2
  obtain ⟨-, r1, -⟩ := hH2.rows
  have hm2 := hH2.sh
  repeat (first|apply cA|apply cB|apply cD|apply cE|apply cF|apply cH|apply cM|refine cY rfl rfl rfl rfl (by first|((first|apply qep|apply qmv|apply qas|apply qlc|apply qla|apply qfa|apply qnc|apply qlk|apply qlv|apply qxt|apply qnt|apply qep)<;>(first|exact rfl|assumption|exact List.not_mem_nil|apply dc_length|apply hc_length|apply pc_length|apply shc_length|exact lk1 (by assumption)|exact lk0 (by assumption)|fail))|fail) ?_)
  refine dD rfl (by exact rho_of rfl) rfl ?_
  repeat (first|apply cA|apply cB|apply cD|apply cE|apply cF|apply cH|apply cM|refine cY rfl rfl rfl rfl (by first|((first|apply qep|apply qmv|apply qas|apply qlc|apply qla|apply qfa|apply qnc|apply qlk|apply qlv|apply qxt|apply qnt|apply qep)<;>(first|exact rfl|assumption|exact List.not_mem_nil|apply dc_length|apply hc_length|apply pc_length|apply shc_length|exact lk1 (by assumption)|exact lk0 (by assumption)|fail))|fail) ?_)
  refine CG.drawv mixed [0, 1, 2, 3, 4, 5, 6, 7, 8, 11] [(9, 10, 6, .tmp 18)] (by kernel_rfl) (by kernel_rfl) ?_
  repeat (refine dA rfl rfl rfl (by first|((first|apply qep|apply qmv|apply qas|apply qlc|apply qla|apply qfa|apply qnc|apply qlk|apply qlv|apply qxt|apply qnt|apply qep)<;>(first|exact rfl|assumption|exact List.not_mem_nil|apply dc_length|apply hc_length|apply pc_length|apply shc_length|exact lk1 (by assumption)|exact lk0 (by assumption)|fail))|fail) ?_)
  refine Der.one (VrOk.of (by rfl) rfl rfl rfl (by exact rho_of rfl) (by exact shc_length x) (by rfl) (by exact shc_one x)) (fun b6 w3 hk3 hb6 hB6 => ?_)
  have hB6 : Blk w3 b6 (.cells (shc x).toArray 89) := hB6
  have hB4 := hB4.kp0 hk3
  have k3 := k2.trans hk3
  obtain ⟨-, q1, -, -⟩ := shc_rows hB6
  repeat (first|apply cA|apply cB|apply cD|apply cE|apply cF|apply cH|apply cM|refine cY rfl rfl rfl rfl (by first|((first|apply qep|apply qmv|apply qas|apply qlc|apply qla|apply qfa|apply qnc|apply qlk|apply qlv|apply qxt|apply qnt|apply qep)<;>(first|exact rfl|assumption|exact List.not_mem_nil|apply dc_length|apply hc_length|apply pc_length|apply shc_length|exact lk1 (by assumption)|exact lk0 (by assumption)|fail))|fail) ?_)
  refine dD rfl (by exact rho_of rfl) rfl ?_
  repeat (first|apply cA|apply cB|apply cD|apply cE|apply cF|apply cH|apply cM|refine cY rfl rfl rfl rfl (by first|((first|apply qep|apply qmv|apply qas|apply qlc|apply qla|apply qfa|apply qnc|apply qlk|apply qlv|apply qxt|apply qnt|apply qep)<;>(first|exact rfl|assumption|exact List.not_mem_nil|apply dc_length|apply hc_length|apply pc_length|apply shc_length|exact lk1 (by assumption)|exact lk0 (by assumption)|fail))|fail) ?_)
  refine SG.call rfl rfl rfl (vs := [pv x.p (.slice x.a x.p.held.length x.c)]) (by repeat' (first | exact True.intro | exact rho_of rfl | refine And.intro ?_ ?_)) ((copied_spec x.p (hat.sl.kp0 k3) (by omega)).mono (fun e w4 hh => ?_))
  obtain ⟨v, he, ⟨s, rfl, ho⟩, hk4⟩ := hh
  refine ⟨_, he, ?_⟩
  obtain ⟨a5, c5, rfl, _, _⟩ := Sl.own hc_length ho rfl
  have hB4 := hB4.kp0 hk4
  repeat (first|apply cA|apply cB|apply cD|apply cE|apply cF|apply cH|apply cM|refine cY rfl rfl rfl rfl (by first|((first|apply qep|apply qmv|apply qas|apply qlc|apply qla|apply qfa|apply qnc|apply qlk|apply qlv|apply qxt|apply qnt|apply qep)<;>(first|exact rfl|assumption|exact List.not_mem_nil|apply dc_length|apply hc_length|apply pc_length|apply shc_length|exact lk1 (by assumption)|exact lk0 (by assumption)|fail))|fail) ?_)
  refine SG.setAll (l := pc x.p (.slice a5 x.p.held.length c5)) rfl rfl (by exact rho_of rfl) (by exact rho_of rfl) hB4 (pc_length _ _) (pc_length _ _) (pc_one _ _ _ _) (fun w5 hk5 hB5 => ?_)
  have hr : Row w5 b4 0 (pc x.p (.slice a5 x.p.held.length c5)) := Row.all hB5 rfl
  have ho5 := own_kp (own_mono ho k3.size) hk5 (own_neb (own_mono ho k3.size) (by decide) hB4)
  repeat (first|apply cA|apply cB|apply cD|apply cE|apply cF|apply cH|apply cM|refine cY rfl rfl rfl rfl (by first|((first|apply qep|apply qmv|apply qas|apply qlc|apply qla|apply qfa|apply qnc|apply qlk|apply qlv|apply qxt|apply qnt|apply qep)<;>(first|exact rfl|assumption|exact List.not_mem_nil|apply dc_length|apply hc_length|apply pc_length|apply shc_length|exact lk1 (by assumption)|exact lk0 (by assumption)|fail))|fail) ?_)
  refine ret2 (Or.inl rfl) Try.results16 (ResV.agg rfl rfl hr (pc_length _ _)) (by first | exact ResV.tmp rfl | exact ResV.agg rfl rfl (by assumption) (by first | exact dc_length _ | exact nc_length _ | exact rc_length _ _ _ | exact ec_length _ | exact dl_length _ _ _ _ | rfl) | exact ResV.cell rfl rfl (by assumption)) ?_
  exact ⟨_, rfl, ⟨_, rfl, ho5⟩, (k3.trans hk4).trans_new hk5 (new1 (by omega))⟩
end Go.Proofs.Ytajllbdeoopimaa
namespace Go.Proofs.Ytajllbdeoopimaa
set_option linter.unusedVariables false
def openE (ms : Ms) (k : Dg) (p : Pu) (side : Int) : Int := if checkZ p ≠ 0 then checkZ p else if side ≠ 0 ∧ side ≠ 1 then 28 else if p.held.length ≠ 0 then 10 else if (alook ms k).isSome ∨ namedB ms p.name = true then 7 else if 16 ≤ ms.length then 8 else 0
attribute [local irreducible] CG NG SG Vals Der Row Blk MapIs IterAt chkL DerR
set_option maxHeartbeats 16000000 in
theorem open_spec {w : World} {bh bs bp : Nat} {win : Int} {ms : Ms} {mp : Mp} (hH : HubAt w bh bs bp win ms mp) (k : Dg) (p : Pu) {a : Option Addr} {c : Nat} (side : Int) (hS : Sl hc 11 w a p.held) (hl : p.held.length ≤ 1000) (hcap : p.held.length ≤ c) :
    Calls Try.prog 12 #[.pointer (some ⟨bh, 0, none⟩), dv k, pv p (.slice a p.held.length c), .int .i64 side] w (fun e w' => e = .returned (.int .i64 (openE ms k p side)) ∧ ((openE ms k p side ≠ 0 ∧ Kp [] w w') ∨ (openE ms k p side = 0 ∧ Kp [bs] w w' ∧ ∃ a' c', HubAt w' bh bs bp win (aput ms k ⟨p, a', c', side⟩) mp))) := by
  refine enter4 Try.func12 rfl Try.ntmps12 rfl ?_
  have fin : ∀ {z : Int} {w' : World}, Kp [] w w' → openE ms k p side = z → z ≠ 0 → ((Ending.returned (.int .i64 z) = .returned (.int .i64 (openE ms k p side))) ∧ ((openE ms k p side ≠ 0 ∧ Kp [] w w') ∨ (openE ms k p side = 0 ∧ Kp [bs] w w' ∧ ∃ a' c', HubAt w' bh bs bp win (aput ms k ⟨p, a', c', side⟩) mp))) := fun hk e hz => ⟨by rw [e], Or.inl ⟨by rw [e]; exact hz, hk⟩⟩
  repeat (first|apply cA|apply cB|apply cD|apply cE|apply cF|apply cH|apply cM|refine cY rfl rfl rfl rfl (by first|((first|apply qep|apply qmv|apply qas|apply qlc|apply qla|apply qfa|apply qnc|apply qpk|apply qni|apply qln|apply qge|apply qlk|apply qxt|apply qep|apply qlm)<;>(first|exact rfl|assumption|exact dct (by first|assumption|omega)|exact dcf (by first|assumption|omega)|exact List.not_mem_nil|apply dc_length|apply hc_length|apply pc_length|apply shc_length|exact lk1 (by assumption)|exact lk0 (by assumption)|fail))|fail) ?_)
  refine SG.box rfl rfl rfl (by exact rho_of rfl) (fun b5 w1 hk1 hb5 hB5 => ?_)
  have hB5 : Blk w1 b5 (.cells (dc k).toArray 25) := hB5
  have hK : Row w1 b5 0 (dc k) := Row.all hB5 rfl
  refine SG.box rfl rfl rfl (by exact rho_of rfl) (fun b6 w2 hk2 hb6 hB6 => ?_)
  have hB6 : Blk w2 b6 (.cells (pc p (.slice a p.held.length c)).toArray 34) := hB6
  have k2 := hk1.trans hk2
  obtain ⟨-, -, -, -, -, r5⟩ := pc_rows hB6
  repeat (first|apply cA|apply cB|apply cD|apply cE|apply cF|apply cH|apply cM|refine cY rfl rfl rfl rfl (by first|((first|apply qep|apply qmv|apply qas|apply qlc|apply qla|apply qfa|apply qnc|apply qpk|apply qni|apply qln|apply qge|apply qlk|apply qxt|apply qep|apply qlm)<;>(first|exact rfl|assumption|exact dct (by first|assumption|omega)|exact dcf (by first|assumption|omega)|exact List.not_mem_nil|apply dc_length|apply hc_length|apply pc_length|apply shc_length|exact lk1 (by assumption)|exact lk0 (by assumption)|fail))|fail) ?_)
  refine dD rfl (by exact rho_of rfl) rfl ?_
  repeat (first|apply cA|apply cB|apply cD|apply cE|apply cF|apply cH|apply cM|refine cY rfl rfl rfl rfl (by first|((first|apply qep|apply qmv|apply qas|apply qlc|apply qla|apply qfa|apply qnc|apply qpk|apply qni|apply qln|apply qge|apply qlk|apply qxt|apply qep|apply qlm)<;>(first|exact rfl|assumption|exact dct (by first|assumption|omega)|exact dcf (by first|assumption|omega)|exact List.not_mem_nil|apply dc_length|apply hc_length|apply pc_length|apply shc_length|exact lk1 (by assumption)|exact lk0 (by assumption)|fail))|fail) ?_)
  refine SG.ret rfl rfl rfl (vs := [pv p (.slice a p.held.length c)]) (by repeat' (first | exact True.intro | exact rho_of rfl | refine And.intro ?_ ?_)) (check_spec p (hS.kp0 k2) hl hcap) (fun w3 hk3 => ?_)
  have k3 := k2.trans hk3
  have hB3 := hB6.kp0 hk3
  have hK3 := (hK.kp0 hk2).kp0 hk3
  have hH3 := hH.kp0 k3
  clear r5
  by_cases hc0 : checkZ p = 0
  rotate_left
  · have e : openE ms k p side = checkZ p := by simp [openE, hc0]
    generalize checkZ p = z at hc0 e
    repeat (first|apply cA|apply cB|apply cD|apply cE|apply cF|apply cH|apply cM|refine cY rfl rfl rfl rfl (by first|((first|apply qep|apply qmv|apply qas|apply qlc|apply qla|apply qfa|apply qnc|apply qpk|apply qni|apply qln|apply qge|apply qlk|apply qxt|apply qep|apply qlm)<;>(first|exact rfl|assumption|exact dct (by first|assumption|omega)|exact dcf (by first|assumption|omega)|exact List.not_mem_nil|apply dc_length|apply hc_length|apply pc_length|apply shc_length|exact lk1 (by assumption)|exact lk0 (by assumption)|fail))|fail) ?_)
    refine dB rfl (by exact rho_of rfl) rfl ?_
    repeat (first|apply cA|apply cB|apply cD|apply cE|apply cF|apply cH|apply cM|refine cY rfl rfl rfl rfl (by first|((first|apply qep|apply qmv|apply qas|apply qlc|apply qla|apply qfa|apply qnc|apply qpk|apply qni|apply qln|apply qge|apply qlk|apply qxt|apply qep|apply qlm)<;>(first|exact rfl|assumption|exact dct (by first|assumption|omega)|exact dcf (by first|assumption|omega)|exact List.not_mem_nil|apply dc_length|apply hc_length|apply pc_length|apply shc_length|exact lk1 (by assumption)|exact lk0 (by assumption)|fail))|fail) ?_)
    refine ret1 (Or.inl rfl) Try.results12 (by first | exact ResV.tmp rfl | exact ResV.agg rfl rfl (by assumption) (by first | exact dc_length _ | exact nc_length _ | exact rc_length _ _ _ | exact ec_length _ | exact dl_length _ _ _ _ | rfl) | exact ResV.cell rfl rfl (by assumption)) ?_
    exact fin k3 e hc0
  rw [hc0]
  have h00 : (0 : Int) = 0 := rfl
  repeat (first|apply cA|apply cB|apply cD|apply cE|apply cF|apply cH|apply cM|refine cY rfl rfl rfl rfl (by first|((first|apply qep|apply qmv|apply qas|apply qlc|apply qla|apply qfa|apply qnc|apply qpk|apply qni|apply qln|apply qge|apply qlk|apply qxt|apply qep|apply qlm)<;>(first|exact rfl|assumption|exact dct (by first|assumption|omega)|exact dcf (by first|assumption|omega)|exact List.not_mem_nil|apply dc_length|apply hc_length|apply pc_length|apply shc_length|exact lk1 (by assumption)|exact lk0 (by assumption)|fail))|fail) ?_)
  refine dD rfl (by exact rho_of rfl) rfl ?_
  by_cases hsd : side ≠ 0 ∧ side ≠ 1
  · obtain ⟨g1, g2⟩ := hsd
    have e : openE ms k p side = 28 := by simp [openE, hc0, g1, g2]
    repeat (first | first|apply cA|apply cB|apply cD|apply cE|apply cF|apply cH|apply cM|refine cY rfl rfl rfl rfl (by first|((first|apply qep|apply qmv|apply qas|apply qlc|apply qla|apply qfa|apply qnc|apply qpk|apply qni|apply qln|apply qge|apply qlk|apply qxt|apply qep|apply qlm)<;>(first|exact rfl|assumption|exact dct (by first|assumption|omega)|exact dcf (by first|assumption|omega)|exact List.not_mem_nil|apply dc_length|apply hc_length|apply pc_length|apply shc_length|exact lk1 (by assumption)|exact lk0 (by assumption)|fail))|fail) ?_ | refine cZ rfl rfl ?_)
    refine dB rfl (by exact rho_of rfl) rfl ?_
    repeat (first|apply cA|apply cB|apply cD|apply cE|apply cF|apply cH|apply cM|refine cY rfl rfl rfl rfl (by first|((first|apply qep|apply qmv|apply qas|apply qlc|apply qla|apply qfa|apply qnc|apply qpk|apply qni|apply qln|apply qge|apply qlk|apply qxt|apply qep|apply qlm)<;>(first|exact rfl|assumption|exact dct (by first|assumption|omega)|exact dcf (by first|assumption|omega)|exact List.not_mem_nil|apply dc_length|apply hc_length|apply pc_length|apply shc_length|exact lk1 (by assumption)|exact lk0 (by assumption)|fail))|fail) ?_)
    refine ret1 (Or.inl rfl) Try.results12 (by first | exact ResV.tmp rfl | exact ResV.agg rfl rfl (by assumption) (by first | exact dc_length _ | exact nc_length _ | exact rc_length _ _ _ | exact ec_length _ | exact dl_length _ _ _ _ | rfl) | exact ResV.cell rfl rfl (by assumption)) ?_
    exact fin k3 e (by decide)
  refine cF ?_
  refine cE ?_
  repeat (first | refine cK ?_ | refine cA ?_)
  refine CG.cut_then (fun L w' => SubE [(0, .pointer (some ⟨bh, 0, none⟩)), (3, .int .i64 side), (5, .pointer (some ⟨b5, 0, none⟩)), (6, .pointer (some ⟨b6, 0, none⟩)), (24, .bool false)] L ∧ w' = w3) ?_ ?_
  · by_cases g1 : side = 0
    · repeat (first | first|apply cA|apply cB|apply cD|apply cE|apply cF|apply cH|apply cM|refine cY rfl rfl rfl rfl (by first|((first|apply qep|apply qmv|apply qas|apply qlc|apply qla|apply qfa|apply qnc|apply qpk|apply qni|apply qln|apply qge|apply qlk|apply qxt|apply qep|apply qlm)<;>(first|exact rfl|assumption|exact dct (by first|assumption|omega)|exact dcf (by first|assumption|omega)|exact List.not_mem_nil|apply dc_length|apply hc_length|apply pc_length|apply shc_length|exact lk1 (by assumption)|exact lk0 (by assumption)|fail))|fail) ?_ | refine cZ rfl rfl ?_)
      exact NG.cut ⟨by (repeat' (first | exact True.intro | exact rfl | refine And.intro ?_ ?_)), rfl⟩
    · have g2 : side = 1 := Classical.byContradiction (fun h => hsd ⟨g1, h⟩)
      repeat (first | first|apply cA|apply cB|apply cD|apply cE|apply cF|apply cH|apply cM|refine cY rfl rfl rfl rfl (by first|((first|apply qep|apply qmv|apply qas|apply qlc|apply qla|apply qfa|apply qnc|apply qpk|apply qni|apply qln|apply qge|apply qlk|apply qxt|apply qep|apply qlm)<;>(first|exact rfl|assumption|exact dct (by first|assumption|omega)|exact dcf (by first|assumption|omega)|exact List.not_mem_nil|apply dc_length|apply hc_length|apply pc_length|apply shc_length|exact lk1 (by assumption)|exact lk0 (by assumption)|fail))|fail) ?_ | refine cZ rfl rfl ?_)
      exact NG.cut ⟨by (repeat' (first | exact True.intro | exact rfl | refine And.intro ?_ ?_)), rfl⟩
  rintro L wz ⟨hLL, rfl⟩
  refine CG.to _ hLL ?_
  clear hLL L
  obtain ⟨q0, -, -, -, r4, -⟩ := pc_rows hB3
  refine dD rfl (by exact rho_of rfl) rfl ?_
  by_cases hh0 : p.held.length = 0
  rotate_left
  · have e : openE ms k p side = 10 := by
      unfold openE
      rw [if_neg (fun h => h hc0), if_neg hsd, if_pos hh0]
    have g1 : ¬ (p.held.length : Int) = 0 := by omega
    repeat (first|apply cA|apply cB|apply cD|apply cE|apply cF|apply cH|apply cM|refine cY rfl rfl rfl rfl (by first|((first|apply qep|apply qmv|apply qas|apply qlc|apply qla|apply qfa|apply qnc|apply qpk|apply qni|apply qln|apply qge|apply qlk|apply qxt|apply qep|apply qlm)<;>(first|exact rfl|assumption|exact dct (by first|assumption|omega)|exact dcf (by first|assumption|omega)|exact List.not_mem_nil|apply dc_length|apply hc_length|apply pc_length|apply shc_length|exact lk1 (by assumption)|exact lk0 (by assumption)|fail))|fail) ?_)
    refine dB rfl (by exact rho_of rfl) rfl ?_
    repeat (first|apply cA|apply cB|apply cD|apply cE|apply cF|apply cH|apply cM|refine cY rfl rfl rfl rfl (by first|((first|apply qep|apply qmv|apply qas|apply qlc|apply qla|apply qfa|apply qnc|apply qpk|apply qni|apply qln|apply qge|apply qlk|apply qxt|apply qep|apply qlm)<;>(first|exact rfl|assumption|exact dct (by first|assumption|omega)|exact dcf (by first|assumption|omega)|exact List.not_mem_nil|apply dc_length|apply hc_length|apply pc_length|apply shc_length|exact lk1 (by assumption)|exact lk0 (by assumption)|fail))|fail) ?_)
    refine ret1 (Or.inl rfl) Try.results12 (by first | exact ResV.tmp rfl | exact ResV.agg rfl rfl (by assumption) (by first | exact dc_length _ | exact nc_length _ | exact rc_length _ _ _ | exact ec_length _ | exact dl_length _ _ _ _ | rfl) | exact ResV.cell rfl rfl (by assumption)) ?_
    exact fin k3 e (by decide)
  have g1 : (p.held.length : Int) = 0 := by omega
  have hoe : openE ms k p side = if (alook ms k).isSome ∨ namedB ms p.name = true then 7 else if 16 ≤ ms.length then 8 else 0 := by
    unfold openE
    rw [if_neg (fun h => h hc0), if_neg hsd, if_neg (fun h => h hh0)]
  obtain ⟨-, r1, -⟩ := hH3.rows
  have hm3 := hH3.sh
  repeat (first|apply cA|apply cB|apply cD|apply cE|apply cF|apply cH|apply cM|refine cY rfl rfl rfl rfl (by first|((first|apply qep|apply qmv|apply qas|apply qlc|apply qla|apply qfa|apply qnc|apply qpk|apply qni|apply qln|apply qge|apply qlk|apply qxt|apply qep|apply qlm)<;>(first|exact rfl|assumption|exact dct (by first|assumption|omega)|exact dcf (by first|assumption|omega)|exact List.not_mem_nil|apply dc_length|apply hc_length|apply pc_length|apply shc_length|exact lk1 (by assumption)|exact lk0 (by assumption)|fail))|fail) ?_)
  refine dD rfl (by exact rho_of rfl) rfl ?_
  cases hal : alook ms k with
  | some x =>
    have e : openE ms k p side = 7 := by rw [hoe, hal]; simp
    repeat (first|apply cA|apply cB|apply cD|apply cE|apply cF|apply cH|apply cM|refine cY rfl rfl rfl rfl (by first|((first|apply qep|apply qmv|apply qas|apply qlc|apply qla|apply qfa|apply qnc|apply qpk|apply qni|apply qln|apply qge|apply qlk|apply qxt|apply qep|apply qlm)<;>(first|exact rfl|assumption|exact dct (by first|assumption|omega)|exact dcf (by first|assumption|omega)|exact List.not_mem_nil|apply dc_length|apply hc_length|apply pc_length|apply shc_length|exact lk1 (by assumption)|exact lk0 (by assumption)|fail))|fail) ?_)
    refine CG.drawv mixed [0, 1, 2, 3, 4, 5, 6, 7, 8, 11] [(9, 10, 10, .tmp 36)] (by kernel_rfl) (by kernel_rfl) ?_
    repeat (refine dA rfl rfl rfl (by first|((first|apply qep|apply qmv|apply qas|apply qlc|apply qla|apply qfa|apply qnc|apply qpk|apply qni|apply qln|apply qge|apply qlk|apply qxt|apply qep|apply qlm)<;>(first|exact rfl|assumption|exact dct (by first|assumption|omega)|exact dcf (by first|assumption|omega)|exact List.not_mem_nil|apply dc_length|apply hc_length|apply pc_length|apply shc_length|exact lk1 (by assumption)|exact lk0 (by assumption)|fail))|fail) ?_)
    refine Der.one (VrOk.of (by rfl) rfl rfl rfl (by exact rho_of rfl) (by exact shc_length x) (by rfl) (by exact shc_one x)) (fun b10 w4 hk4 hb10 hB10 => ?_)
    repeat (first | first|apply cA|apply cB|apply cD|apply cE|apply cF|apply cH|apply cM|refine cY rfl rfl rfl rfl (by first|((first|apply qep|apply qmv|apply qas|apply qlc|apply qla|apply qfa|apply qnc|apply qpk|apply qni|apply qln|apply qge|apply qlk|apply qxt|apply qep|apply qlm)<;>(first|exact rfl|assumption|exact dct (by first|assumption|omega)|exact dcf (by first|assumption|omega)|exact List.not_mem_nil|apply dc_length|apply hc_length|apply pc_length|apply shc_length|exact lk1 (by assumption)|exact lk0 (by assumption)|fail))|fail) ?_ | refine cZ rfl rfl ?_)
    refine dB rfl (by exact rho_of rfl) rfl ?_
    repeat (first|apply cA|apply cB|apply cD|apply cE|apply cF|apply cH|apply cM|refine cY rfl rfl rfl rfl (by first|((first|apply qep|apply qmv|apply qas|apply qlc|apply qla|apply qfa|apply qnc|apply qpk|apply qni|apply qln|apply qge|apply qlk|apply qxt|apply qep|apply qlm)<;>(first|exact rfl|assumption|exact dct (by first|assumption|omega)|exact dcf (by first|assumption|omega)|exact List.not_mem_nil|apply dc_length|apply hc_length|apply pc_length|apply shc_length|exact lk1 (by assumption)|exact lk0 (by assumption)|fail))|fail) ?_)
    refine ret1 (Or.inl rfl) Try.results12 (by first | exact ResV.tmp rfl | exact ResV.agg rfl rfl (by assumption) (by first | exact dc_length _ | exact nc_length _ | exact rc_length _ _ _ | exact ec_length _ | exact dl_length _ _ _ _ | rfl) | exact ResV.cell rfl rfl (by assumption)) ?_
    exact fin (k3.trans hk4) e (by decide)
  | none =>
    repeat (first|apply cA|apply cB|apply cD|apply cE|apply cF|apply cH|apply cM|refine cY rfl rfl rfl rfl (by first|((first|apply qep|apply qmv|apply qas|apply qlc|apply qla|apply qfa|apply qnc|apply qpk|apply qni|apply qln|apply qge|apply qlk|apply qxt|apply qep|apply qlm)<;>(first|exact rfl|assumption|exact dct (by first|assumption|omega)|exact dcf (by first|assumption|omega)|exact List.not_mem_nil|apply dc_length|apply hc_length|apply pc_length|apply shc_length|exact lk1 (by assumption)|exact lk0 (by assumption)|fail))|fail) ?_)
    refine CG.drawv mixed [0, 1, 2, 3, 4, 5, 6, 7, 8, 11] [(9, 10, 10, .tmp 36)] (by kernel_rfl) (by kernel_rfl) ?_
    repeat (refine dA rfl rfl rfl (by first|((first|apply qep|apply qmv|apply qas|apply qlc|apply qla|apply qfa|apply qnc|apply qpk|apply qni|apply qln|apply qge|apply qlk|apply qxt|apply qep|apply qlm)<;>(first|exact rfl|assumption|exact dct (by first|assumption|omega)|exact dcf (by first|assumption|omega)|exact List.not_mem_nil|apply dc_length|apply hc_length|apply pc_length|apply shc_length|exact lk1 (by assumption)|exact lk0 (by assumption)|fail))|fail) ?_)
    refine Der.one (VrOk.of (by rfl) rfl rfl rfl (by exact rho_of rfl) (by rfl) (by rfl) (by rfl)) (fun b10 w4 hk4 hb10 hB10 => ?_)
    have q0 := q0.kp0 hk4
    have k4 := k3.trans hk4
    have hH4 := hH3.kp0 hk4
    clear r1 hm3 r4
    repeat (first | first|apply cA|apply cB|apply cD|apply cE|apply cF|apply cH|apply cM|refine cY rfl rfl rfl rfl (by first|((first|apply qep|apply qmv|apply qas|apply qlc|apply qla|apply qfa|apply qnc|apply qpk|apply qni|apply qln|apply qge|apply qlk|apply qxt|apply qep|apply qlm)<;>(first|exact rfl|assumption|exact dct (by first|assumption|omega)|exact dcf (by first|assumption|omega)|exact List.not_mem_nil|apply dc_length|apply hc_length|apply pc_length|apply shc_length|exact lk1 (by assumption)|exact lk0 (by assumption)|fail))|fail) ?_ | refine cZ rfl rfl ?_)
    refine SG.ret rfl rfl rfl (vs := [.pointer (some ⟨bh, 0, none⟩), dv p.name]) (by repeat' (first | exact True.intro | exact rho_of rfl | refine And.intro ?_ ?_)) (named_spec hH4 p.name) (fun w5 hk5 => ?_)
    have k5 := k4.trans hk5
    have hH5 := hH4.kp0 hk5
    have hB5' := (hB3.kp0 hk4).kp0 hk5
    have hK5 := (hK3.kp0 hk4).kp0 hk5
    clear q0
    cases hnm : namedB ms p.name with
    | true =>
      have e : openE ms k p side = 7 := by rw [hoe, hnm]; simp
      repeat (first | first|apply cA|apply cB|apply cD|apply cE|apply cF|apply cH|apply cM|refine cY rfl rfl rfl rfl (by first|((first|apply qep|apply qmv|apply qas|apply qlc|apply qla|apply qfa|apply qnc|apply qpk|apply qni|apply qln|apply qge|apply qlk|apply qxt|apply qep|apply qlm)<;>(first|exact rfl|assumption|exact dct (by first|assumption|omega)|exact dcf (by first|assumption|omega)|exact List.not_mem_nil|apply dc_length|apply hc_length|apply pc_length|apply shc_length|exact lk1 (by assumption)|exact lk0 (by assumption)|fail))|fail) ?_ | refine cZ rfl rfl ?_)
      refine dB rfl (by exact rho_of rfl) rfl ?_
      repeat (first|apply cA|apply cB|apply cD|apply cE|apply cF|apply cH|apply cM|refine cY rfl rfl rfl rfl (by first|((first|apply qep|apply qmv|apply qas|apply qlc|apply qla|apply qfa|apply qnc|apply qpk|apply qni|apply qln|apply qge|apply qlk|apply qxt|apply qep|apply qlm)<;>(first|exact rfl|assumption|exact dct (by first|assumption|omega)|exact dcf (by first|assumption|omega)|exact List.not_mem_nil|apply dc_length|apply hc_length|apply pc_length|apply shc_length|exact lk1 (by assumption)|exact lk0 (by assumption)|fail))|fail) ?_)
      refine ret1 (Or.inl rfl) Try.results12 (by first | exact ResV.tmp rfl | exact ResV.agg rfl rfl (by assumption) (by first | exact dc_length _ | exact nc_length _ | exact rc_length _ _ _ | exact ec_length _ | exact dl_length _ _ _ _ | rfl) | exact ResV.cell rfl rfl (by assumption)) ?_
      exact fin k5 e (by decide)
    | false =>
      obtain ⟨-, r1, -⟩ := hH5.rows
      have hm5 := hH5.sh
      repeat (first | first|apply cA|apply cB|apply cD|apply cE|apply cF|apply cH|apply cM|refine cY rfl rfl rfl rfl (by first|((first|apply qep|apply qmv|apply qas|apply qlc|apply qla|apply qfa|apply qnc|apply qpk|apply qni|apply qln|apply qge|apply qlk|apply qxt|apply qep|apply qlm)<;>(first|exact rfl|assumption|exact dct (by first|assumption|omega)|exact dcf (by first|assumption|omega)|exact List.not_mem_nil|apply dc_length|apply hc_length|apply pc_length|apply shc_length|exact lk1 (by assumption)|exact lk0 (by assumption)|fail))|fail) ?_ | refine cZ rfl rfl ?_)
      refine dD rfl (by exact rho_of rfl) rfl ?_
      by_cases h16 : 16 ≤ ms.length
      · have e : openE ms k p side = 8 := by rw [hoe, hnm, hal]; simp [h16]
        have g2 : (16 : Int) ≤ (ms.length : Int) := by omega
        repeat (first|apply cA|apply cB|apply cD|apply cE|apply cF|apply cH|apply cM|refine cY rfl rfl rfl rfl (by first|((first|apply qep|apply qmv|apply qas|apply qlc|apply qla|apply qfa|apply qnc|apply qpk|apply qni|apply qln|apply qge|apply qlk|apply qxt|apply qep|apply qlm)<;>(first|exact rfl|assumption|exact dct (by first|assumption|omega)|exact dcf (by first|assumption|omega)|exact List.not_mem_nil|apply dc_length|apply hc_length|apply pc_length|apply shc_length|exact lk1 (by assumption)|exact lk0 (by assumption)|fail))|fail) ?_)
        refine dB rfl (by exact rho_of rfl) rfl ?_
        repeat (first|apply cA|apply cB|apply cD|apply cE|apply cF|apply cH|apply cM|refine cY rfl rfl rfl rfl (by first|((first|apply qep|apply qmv|apply qas|apply qlc|apply qla|apply qfa|apply qnc|apply qpk|apply qni|apply qln|apply qge|apply qlk|apply qxt|apply qep|apply qlm)<;>(first|exact rfl|assumption|exact dct (by first|assumption|omega)|exact dcf (by first|assumption|omega)|exact List.not_mem_nil|apply dc_length|apply hc_length|apply pc_length|apply shc_length|exact lk1 (by assumption)|exact lk0 (by assumption)|fail))|fail) ?_)
        refine ret1 (Or.inl rfl) Try.results12 (by first | exact ResV.tmp rfl | exact ResV.agg rfl rfl (by assumption) (by first | exact dc_length _ | exact nc_length _ | exact rc_length _ _ _ | exact ec_length _ | exact dl_length _ _ _ _ | rfl) | exact ResV.cell rfl rfl (by assumption)) ?_
        exact fin k5 e (by decide)
      have e : openE ms k p side = 0 := by rw [hoe, hnm, hal]; simp [h16]
      have g2 : ¬ (16 : Int) ≤ (ms.length : Int) := by omega
      repeat (first|apply cA|apply cB|apply cD|apply cE|apply cF|apply cH|apply cM|refine cY rfl rfl rfl rfl (by first|((first|apply qep|apply qmv|apply qas|apply qlc|apply qla|apply qfa|apply qnc|apply qpk|apply qni|apply qln|apply qge|apply qlk|apply qxt|apply qep|apply qlm)<;>(first|exact rfl|assumption|exact dct (by first|assumption|omega)|exact dcf (by first|assumption|omega)|exact List.not_mem_nil|apply dc_length|apply hc_length|apply pc_length|apply shc_length|exact lk1 (by assumption)|exact lk0 (by assumption)|fail))|fail) ?_)
      refine dD rfl (by exact rho_of rfl) rfl ?_
      clear fin hm5
      obtain ⟨-, -, -, -, -, r5⟩ := pc_rows hB5'
      repeat (first|apply cA|apply cB|apply cD|apply cE|apply cF|apply cH|apply cM|refine cY rfl rfl rfl rfl (by first|((first|apply qep|apply qmv|apply qas|apply qlc|apply qla|apply qfa|apply qnc|apply qpk|apply qni|apply qln|apply qge|apply qlk|apply qxt|apply qep|apply qlm)<;>(first|exact rfl|assumption|exact dct (by first|assumption|omega)|exact dcf (by first|assumption|omega)|exact List.not_mem_nil|apply dc_length|apply hc_length|apply pc_length|apply shc_length|exact lk1 (by assumption)|exact lk0 (by assumption)|fail))|fail) ?_)
      refine CG.tailg mixed 9 [0, 1, 2, 3, 4, 5, 7, 6, 8] [6] [] (fun _ => True) (by kernel_rfl) trivial (fun _ _ _ h => h) ?_
      repeat (refine dA rfl rfl rfl (by first|((first|apply qep|apply qmv|apply qas|apply qlc|apply qla|apply qfa|apply qnc|apply qpk|apply qni|apply qln|apply qge|apply qlk|apply qxt|apply qep|apply qlm)<;>(first|exact rfl|assumption|exact dct (by first|assumption|omega)|exact dcf (by first|assumption|omega)|exact List.not_mem_nil|apply dc_length|apply hc_length|apply pc_length|apply shc_length|exact lk1 (by assumption)|exact lk0 (by assumption)|fail))|fail) ?_)
      refine Der.callG (X := Option Addr × Nat) (vs := [pv p (.slice a p.held.length c)]) (fun q => pv p (.slice q.1 p.held.length q.2)) (fun q w' => (⟨p, q.1, q.2, side⟩ : Sh).At w') rfl rfl rfl rfl (by repeat' (first | exact True.intro | exact rho_of rfl | refine And.intro ?_ ?_)) (fun q w w' hk h => h.kp0 hk) (fun _ _ _ h => h) (fun W hk _ => (copied_spec (c := c) p ((hS.kp0 k5).kp0 hk) (by omega)).mono (fun e w' hh => ?_)) (fun q => ?_)
      · obtain ⟨v, he, ⟨s, rfl, ho⟩, hk'⟩ := hh
        obtain ⟨a', c', rfl, hc', hS'⟩ := Sl.own hc_length ho rfl
        exact ⟨(a', c'), he, ⟨hS', hc', Ty.own ho⟩, hk'⟩
      obtain ⟨q1, q2⟩ := q
      refine dA rfl rfl rfl (vals_build rfl (bsh p q1 q2 side)) ?_
      refine Der.tl (fun w6 hk6 hF _ => ?_)
      have hat : (⟨p, q1, q2, side⟩ : Sh).At w6 := hF.2
      have hH6 := hH5.kp0 hk6
      refine SG.mapUpdate (enc := dv (n := 8)) (V := shv) (kx := k) (vy := ⟨p, q1, q2, side⟩) rfl rfl (by exact rho_of rfl) (by exact rho_of rfl) (by exact rho_of rfl) hH6.sh BArr.key (fun w7 hk7 hm7 => ?_)
      repeat (first|apply cA|apply cB|apply cD|apply cE|apply cF|apply cH|apply cM|refine cY rfl rfl rfl rfl (by first|((first|apply qep|apply qmv|apply qas|apply qlc|apply qla|apply qfa|apply qnc|apply qpk|apply qni|apply qln|apply qge|apply qlk|apply qxt|apply qep|apply qlm)<;>(first|exact rfl|assumption|exact dct (by first|assumption|omega)|exact dcf (by first|assumption|omega)|exact List.not_mem_nil|apply dc_length|apply hc_length|apply pc_length|apply shc_length|exact lk1 (by assumption)|exact lk0 (by assumption)|fail))|fail) ?_)
      refine ret1 (Or.inl rfl) Try.results12 (by first | exact ResV.tmp rfl | exact ResV.agg rfl rfl (by assumption) (by first | exact dc_length _ | exact nc_length _ | exact rc_length _ _ _ | exact ec_length _ | exact dl_length _ _ _ _ | rfl) | exact ResV.cell rfl rfl (by assumption)) ?_
      refine ⟨by rw [e], Or.inr ⟨e, (k5.trans hk6).any.trans hk7, q1, q2, hH6.setS hk7 hm7 (fun x hx => ?_) (fun x hx => ?_)⟩⟩
      · rcases aput_mem (x := x) hx with h | h
        · exact hH6.at' x h
        · rw [h]; exact hat
      · rcases aput_mem (x := x) hx with h | h
        · exact hH6.few x h
        · rw [h]; show p.held.length ≤ 16; omega
end Go.Proofs.Ytajllbdeoopimaa
namespace Go.Proofs.Ytajllbdeoopimaa
set_option linter.unusedVariables false
/-- A call that answers a purse, or a number that says why not. -/
abbrev Cl12 := {l : List Value // l.length = 12}
def zC : Cl12 := ⟨pc zPu (.slice none 0 0), pc_length _ _⟩
def gH (m : Nat) (p : Pu) (z : Int) : GD := ⟨Cl12, zC, fun l => .tuple #[.agg l.1.toArray, .int .i64 z], fun l w => (z = 0 → ∃ s, l.1 = pc p s ∧ w.ownsRow m 56 11 s p.held.length (flt hc p.held)) ∧ (z ≠ 0 → l.1 = pc zPu (.slice none 0 0))⟩
theorem gH_stab {m : Nat} {p : Pu} {z : Int} (x : (gH m p z).X) : Stab [] ((gH m p z).phi x) := fun w w' hk h => ⟨fun e => by
  obtain ⟨s, h1, h2⟩ := h.1 e
  exact ⟨s, h1, own_kp0 h2 hk⟩, h.2⟩
theorem gH_of {m : Nat} {p : Pu} {z : Int} {w : World} {v : Value} (h1 : z = 0 → PuAt m w v p) (h2 : z ≠ 0 → v = pv zPu (.slice none 0 0)) : ∃ x : Cl12, v = .agg x.1.toArray ∧ (gH m p z).phi x w := by
  by_cases e : z = 0
  · obtain ⟨s, h3, h4⟩ := h1 e
    exact ⟨⟨pc p s, pc_length _ _⟩, h3, fun _ => ⟨s, rfl, h4⟩, fun h => absurd e h⟩
  · exact ⟨zC, h2 e, fun h => absurd h e, fun _ => rfl⟩
theorem gH_one {m : Nat} {p : Pu} {z : Int} {w : World} {x : Cl12} (h : (gH m p z).phi x w) : allOne x.1 = true := by
  by_cases e : z = 0
  · obtain ⟨s, h3, h4⟩ := h.1 e
    obtain ⟨a, c, rfl, _, _⟩ := Sl.own hc_length h4 rfl
    rw [h3]
    exact pc_one _ _ _ _
  · rw [h.2 e]
    exact pc_one _ _ _ _
theorem gH_keep {m b : Nat} {p : Pu} {z : Int} {x : Cl12} {w w' : World} {cs : Array Value} (hb : Blk w b (.cells cs 34)) (hk : Kp [b] w w') (h : (gH m p z).phi x w) : (gH m p z).phi x w' := ⟨fun e => by
  obtain ⟨s, h1, h2⟩ := h.1 e
  exact ⟨s, h1, own_kp h2 hk (own_neb h2 (by decide) hb)⟩, h.2⟩
theorem nextP_held (p : Pu) : (nextP p).held = p.held := rfl
theorem chgZ_zero {p : Pu} {z : Int} (h : chgZ p z = 0) : z = 0 := by
  unfold chgZ at h
  split at h
  · contradiction
  · exact h
theorem hold_few {p : Pu} {h : Hd} (hz : chgZ p (holdE p h) = 0) : (nextP (holdQ p h)).held.length ≤ 16 := by
  have e := chgZ_zero hz
  have h1 : ¬ 16 ≤ p.held.length := by
    intro hc0
    unfold holdE at e
    rw [if_pos hc0] at e
    repeat (split at e; · cases e)
    cases e
  show (p.held ++ [h]).length ≤ 16
  rw [List.length_append]
  show p.held.length + 1 ≤ 16
  omega
theorem bhd' (w : World) (a0 a1 a2 a3 a4 a5 a6 a7 : UInt8) (x y z : Int) : (Instr.build 56 #[(0, .agg #[bv a0, bv a1, bv a2, bv a3, bv a4, bv a5, bv a6, bv a7]), (1, .int .i64 x), (2, .int .i64 y), (3, .int .i64 z)]).run Try.prog w = .ok (.agg #[bv a0, bv a1, bv a2, bv a3, bv a4, bv a5, bv a6, bv a7, .int .i64 x, .int .i64 y, .int .i64 z]) w := by kernel_rfl
theorem bhd (h : Hd) (w : World) : (Instr.build 56 #[(0, dv h.name), (1, .int .i64 h.amt), (2, .int .i64 h.side), (3, .int .i64 h.til)]).run Try.prog w = .ok (hv h) w := by
  obtain ⟨⟨l, hl⟩, x, y, z⟩ := h
  match l, hl with
  | [a0, a1, a2, a3, a4, a5, a6, a7], _ => exact bhd' w a0 a1 a2 a3 a4 a5 a6 a7 x y z
theorem bpr' (w : World) (a0 a1 a2 a3 a4 a5 a6 a7 b0 b1 b2 b3 b4 b5 b6 b7 c0 c1 c2 c3 c4 c5 c6 c7 : UInt8) (x y z : Int) : (Instr.build 54 #[(0, .agg #[bv a0, bv a1, bv a2, bv a3, bv a4, bv a5, bv a6, bv a7]), (1, .agg #[bv b0, bv b1, bv b2, bv b3, bv b4, bv b5, bv b6, bv b7]), (2, .agg #[bv c0, bv c1, bv c2, bv c3, bv c4, bv c5, bv c6, bv c7]), (3, .int .i64 x), (4, .int .i64 y), (5, .int .i64 z)]).run Try.prog w = .ok (.agg #[bv a0, bv a1, bv a2, bv a3, bv a4, bv a5, bv a6, bv a7, bv b0, bv b1, bv b2, bv b3, bv b4, bv b5, bv b6, bv b7, bv c0, bv c1, bv c2, bv c3, bv c4, bv c5, bv c6, bv c7, .int .i64 x, .int .i64 y, .int .i64 z]) w := by kernel_rfl
theorem bpr (r : Pr) (w : World) : (Instr.build 54 #[(0, dv r.name), (1, dv r.frm), (2, dv r.to), (3, .int .i64 r.amt), (4, .int .i64 r.inn), (5, .int .i64 r.out)]).run Try.prog w = .ok (prv r) w := by
  obtain ⟨⟨l, hl⟩, ⟨m, hm⟩, ⟨n, hn⟩, x, y, z⟩ := r
  match l, hl, m, hm, n, hn with
  | [a0, a1, a2, a3, a4, a5, a6, a7], _, [b0, b1, b2, b3, b4, b5, b6, b7], _, [c0, c1, c2, c3, c4, c5, c6, c7], _ => exact bpr' w a0 a1 a2 a3 a4 a5 a6 a7 b0 b1 b2 b3 b4 b5 b6 b7 c0 c1 c2 c3 c4 c5 c6 c7 x y z
def nearH (x : Sh) (n : Dg) (amt til : Int) : Hd := ⟨n, amt, 1 - x.side, til⟩
def farH (win : Int) (y : Sh) (n : Dg) (amt til : Int) : Hd := ⟨n, amt, y.side, til - win⟩
def fwdE (win : Int) (ms : Ms) (mp : Mp) (now : Int) (f t n : Dg) (amt til : Int) : Int :=
  if now < 0 ∨ 1099511627776 < now then 2 else match alook ms f, alook ms t with
  | some x, some y => if f = t then 1 else if (alook mp n).isSome then 7 else if til < now + win then 20
      else if chgZ x.p (holdE x.p (nearH x n amt til)) ≠ 0 then chgZ x.p (holdE x.p (nearH x n amt til)) else chgZ y.p (holdE y.p (farH win y n amt til))
  | _, _ => 9
def fwdX (x : Sh) (n : Dg) (amt til : Int) : Pu := nextP (holdQ x.p (nearH x n amt til))
def fwdY (win : Int) (y : Sh) (n : Dg) (amt til : Int) : Pu := nextP (holdQ y.p (farH win y n amt til))
def fwdR (win : Int) (f t n : Dg) (amt til : Int) : Pr := ⟨n, f, t, amt, til, til - win⟩
theorem alook_mem {κ ν : Type} [DecidableEq κ] {m : List (κ × ν)} {x : κ} {y : ν} (h : alook m x = some y) : (x, y) ∈ m := by
  induction m with
  | nil => cases h
  | cons p m ih =>
    obtain ⟨k, v⟩ := p
    simp only [alook] at h
    by_cases hk : k = x
    · rw [if_pos hk] at h
      cases h
      rw [hk]
      exact List.mem_cons_self
    · rw [if_neg hk] at h
      exact List.mem_cons_of_mem _ (ih h)
def FwdAt (w' : World) (bh bs bp : Nat) (win : Int) (ms : Ms) (mp : Mp) (f t n : Dg) (amt til : Int) : Prop := ∃ x y a1 c1 a2 c2, alook ms f = some x ∧ alook ms t = some y ∧ HubAt w' bh bs bp win (aput (aput ms f ⟨fwdX x n amt til, a1, c1, x.side⟩) t ⟨fwdY win y n amt til, a2, c2, y.side⟩) (aput mp n (fwdR win f t n amt til))
attribute [local irreducible] CG NG SG Vals Der Row Blk MapIs IterAt chkL DerR DerX
set_option maxHeartbeats 32000000 in
theorem forward_spec {w : World} {bh bs bp : Nat} {win : Int} {ms : Ms} {mp : Mp} (hH : HubAt w bh bs bp win ms mp) (now : Int) (f t n : Dg) (amt til : Int) (hwin : 0 ≤ win ∧ win ≤ 1048576) (hsd : ∀ x ∈ ms, 0 ≤ x.2.side ∧ x.2.side ≤ 1) (ht : til ≤ 9223372036854775807) :
    Calls Try.prog 14 #[.pointer (some ⟨bh, 0, none⟩), .int .i64 now, dv f, dv t, dv n, .int .i64 amt, .int .i64 til] w (fun e w' => e = .returned (.int .i64 (fwdE win ms mp now f t n amt til)) ∧ ((fwdE win ms mp now f t n amt til ≠ 0 ∧ Kp [] w w') ∨
      (fwdE win ms mp now f t n amt til = 0 ∧ Kp [bs, bp] w w' ∧ FwdAt w' bh bs bp win ms mp f t n amt til))) := by
  refine enterL (args := [.pointer (some ⟨bh, 0, none⟩), .int .i64 now, dv f, dv t, dv n, .int .i64 amt, .int .i64 til]) Try.func14 rfl Try.ntmps14 rfl ?_
  have fin : ∀ {z : Int} {w' : World}, Kp [] w w' → fwdE win ms mp now f t n amt til = z → z ≠ 0 → ((Ending.returned (.int .i64 z) = .returned (.int .i64 (fwdE win ms mp now f t n amt til))) ∧ ((fwdE win ms mp now f t n amt til ≠ 0 ∧ Kp [] w w') ∨
      (fwdE win ms mp now f t n amt til = 0 ∧ Kp [bs, bp] w w' ∧ FwdAt w' bh bs bp win ms mp f t n amt til))) := fun hk e hz => ⟨by rw [e], Or.inl ⟨by rw [e]; exact hz, hk⟩⟩
  have hwin' : Ar (0 ≤ win ∧ win ≤ 1048576) := ⟨hwin⟩
  clear hwin
  have ht' : Ar (til ≤ 9223372036854775807) := ⟨ht⟩
  clear ht
  repeat (first|apply cA|apply cB|apply cD|apply cE|apply cF|apply cH|apply cM|refine cY rfl rfl rfl rfl (by first|((first|apply qep|apply qmv|apply qas|apply qlc|apply qla|apply qfa|apply qnc|apply qpk|apply qls|apply qni|apply qed|apply qad|apply qgt|apply qlk|apply qxt|apply qsb|apply qnt|apply qep)<;>(first|exact rfl|assumption|exact Ar.mk (by omega)|exact dct (by first|assumption|omega)|exact dcf (by first|assumption|omega)|exact List.not_mem_nil|apply dc_length|apply hc_length|apply pc_length|apply shc_length|exact lk1 (by assumption)|exact lk0 (by assumption)|exact nm1 (by omega)|fail))|fail) ?_)
  refine SG.box rfl rfl rfl (by exact rho_of rfl) (fun b9 w1 hk1 hb9 hB9 => ?_)
  have hB9 : Blk w1 b9 (.cells (dc f).toArray 25) := hB9
  refine SG.box rfl rfl rfl (by exact rho_of rfl) (fun b10 w2 hk2 hb10 hB10 => ?_)
  have hB10 : Blk w2 b10 (.cells (dc t).toArray 25) := hB10
  refine SG.box rfl rfl rfl (by exact rho_of rfl) (fun b11 w3 hk3 hb11 hB11 => ?_)
  have hB11 : Blk w3 b11 (.cells (dc n).toArray 25) := hB11
  have k3 := (hk1.trans hk2).trans hk3
  have hB9 := (hB9.kp0 hk2).kp0 hk3
  have hB10 := hB10.kp0 hk3
  have hH3 := hH.kp0 k3
  clear hk1 hk2 hk3 hb9 hb10 hb11
  by_cases g1 : now < 0
  · have e : fwdE win ms mp now f t n amt til = 2 := if_pos (Or.inl g1)
    repeat (first | first|apply cA|apply cB|apply cD|apply cE|apply cF|apply cH|apply cM|refine cY rfl rfl rfl rfl (by first|((first|apply qep|apply qmv|apply qas|apply qlc|apply qla|apply qfa|apply qnc|apply qpk|apply qls|apply qni|apply qed|apply qad|apply qgt|apply qlk|apply qxt|apply qsb|apply qnt|apply qep)<;>(first|exact rfl|assumption|exact Ar.mk (by omega)|exact dct (by first|assumption|omega)|exact dcf (by first|assumption|omega)|exact List.not_mem_nil|apply dc_length|apply hc_length|apply pc_length|apply shc_length|exact lk1 (by assumption)|exact lk0 (by assumption)|exact nm1 (by omega)|fail))|fail) ?_ | refine cZ rfl rfl ?_)
    refine dD rfl (by exact rho_of rfl) rfl ?_
    repeat (first | first|apply cA|apply cB|apply cD|apply cE|apply cF|apply cH|apply cM|refine cY rfl rfl rfl rfl (by first|((first|apply qep|apply qmv|apply qas|apply qlc|apply qla|apply qfa|apply qnc|apply qpk|apply qls|apply qni|apply qed|apply qad|apply qgt|apply qlk|apply qxt|apply qsb|apply qnt|apply qep)<;>(first|exact rfl|assumption|exact Ar.mk (by omega)|exact dct (by first|assumption|omega)|exact dcf (by first|assumption|omega)|exact List.not_mem_nil|apply dc_length|apply hc_length|apply pc_length|apply shc_length|exact lk1 (by assumption)|exact lk0 (by assumption)|exact nm1 (by omega)|fail))|fail) ?_ | refine cZ rfl rfl ?_)
    refine dB rfl (by exact rho_of rfl) rfl ?_
    repeat (first|apply cA|apply cB|apply cD|apply cE|apply cF|apply cH|apply cM|refine cY rfl rfl rfl rfl (by first|((first|apply qep|apply qmv|apply qas|apply qlc|apply qla|apply qfa|apply qnc|apply qpk|apply qls|apply qni|apply qed|apply qad|apply qgt|apply qlk|apply qxt|apply qsb|apply qnt|apply qep)<;>(first|exact rfl|assumption|exact Ar.mk (by omega)|exact dct (by first|assumption|omega)|exact dcf (by first|assumption|omega)|exact List.not_mem_nil|apply dc_length|apply hc_length|apply pc_length|apply shc_length|exact lk1 (by assumption)|exact lk0 (by assumption)|exact nm1 (by omega)|fail))|fail) ?_)
    refine ret1 (Or.inl rfl) Try.results14 (by first | exact ResV.tmp rfl | exact ResV.agg rfl rfl (by assumption) (by first | exact dc_length _ | exact nc_length _ | exact rc_length _ _ _ | exact ec_length _ | exact dl_length _ _ _ _ | rfl) | exact ResV.cell rfl rfl (by assumption)) ?_
    exact fin k3 e (by decide)
  by_cases g2 : 1099511627776 < now
  · have e : fwdE win ms mp now f t n amt til = 2 := if_pos (Or.inr g2)
    repeat (first | first|apply cA|apply cB|apply cD|apply cE|apply cF|apply cH|apply cM|refine cY rfl rfl rfl rfl (by first|((first|apply qep|apply qmv|apply qas|apply qlc|apply qla|apply qfa|apply qnc|apply qpk|apply qls|apply qni|apply qed|apply qad|apply qgt|apply qlk|apply qxt|apply qsb|apply qnt|apply qep)<;>(first|exact rfl|assumption|exact Ar.mk (by omega)|exact dct (by first|assumption|omega)|exact dcf (by first|assumption|omega)|exact List.not_mem_nil|apply dc_length|apply hc_length|apply pc_length|apply shc_length|exact lk1 (by assumption)|exact lk0 (by assumption)|exact nm1 (by omega)|fail))|fail) ?_ | refine cZ rfl rfl ?_)
    refine dD rfl (by exact rho_of rfl) rfl ?_
    repeat (first | first|apply cA|apply cB|apply cD|apply cE|apply cF|apply cH|apply cM|refine cY rfl rfl rfl rfl (by first|((first|apply qep|apply qmv|apply qas|apply qlc|apply qla|apply qfa|apply qnc|apply qpk|apply qls|apply qni|apply qed|apply qad|apply qgt|apply qlk|apply qxt|apply qsb|apply qnt|apply qep)<;>(first|exact rfl|assumption|exact Ar.mk (by omega)|exact dct (by first|assumption|omega)|exact dcf (by first|assumption|omega)|exact List.not_mem_nil|apply dc_length|apply hc_length|apply pc_length|apply shc_length|exact lk1 (by assumption)|exact lk0 (by assumption)|exact nm1 (by omega)|fail))|fail) ?_ | refine cZ rfl rfl ?_)
    refine dB rfl (by exact rho_of rfl) rfl ?_
    repeat (first|apply cA|apply cB|apply cD|apply cE|apply cF|apply cH|apply cM|refine cY rfl rfl rfl rfl (by first|((first|apply qep|apply qmv|apply qas|apply qlc|apply qla|apply qfa|apply qnc|apply qpk|apply qls|apply qni|apply qed|apply qad|apply qgt|apply qlk|apply qxt|apply qsb|apply qnt|apply qep)<;>(first|exact rfl|assumption|exact Ar.mk (by omega)|exact dct (by first|assumption|omega)|exact dcf (by first|assumption|omega)|exact List.not_mem_nil|apply dc_length|apply hc_length|apply pc_length|apply shc_length|exact lk1 (by assumption)|exact lk0 (by assumption)|exact nm1 (by omega)|fail))|fail) ?_)
    refine ret1 (Or.inl rfl) Try.results14 (by first | exact ResV.tmp rfl | exact ResV.agg rfl rfl (by assumption) (by first | exact dc_length _ | exact nc_length _ | exact rc_length _ _ _ | exact ec_length _ | exact dl_length _ _ _ _ | rfl) | exact ResV.cell rfl rfl (by assumption)) ?_
    exact fin k3 e (by decide)
  have e0 : fwdE win ms mp now f t n amt til = (match alook ms f, alook ms t with
  | some x, some y => if f = t then 1 else if (alook mp n).isSome then 7 else if til < now + win then 20
      else if chgZ x.p (holdE x.p (nearH x n amt til)) ≠ 0 then chgZ x.p (holdE x.p (nearH x n amt til)) else chgZ y.p (holdE y.p (farH win y n amt til))
  | _, _ => 9) := if_neg (fun h => h.elim g1 g2)
  obtain ⟨-, r1, -⟩ := hH3.rows
  have hm3 := hH3.sh
  have hR9 : Row w3 b9 0 (dc f) := Row.all hB9 rfl
  repeat (first | first|apply cA|apply cB|apply cD|apply cE|apply cF|apply cH|apply cM|refine cY rfl rfl rfl rfl (by first|((first|apply qep|apply qmv|apply qas|apply qlc|apply qla|apply qfa|apply qnc|apply qpk|apply qls|apply qni|apply qed|apply qad|apply qgt|apply qlk|apply qxt|apply qsb|apply qnt|apply qep)<;>(first|exact rfl|assumption|exact Ar.mk (by omega)|exact dct (by first|assumption|omega)|exact dcf (by first|assumption|omega)|exact List.not_mem_nil|apply dc_length|apply hc_length|apply pc_length|apply shc_length|exact lk1 (by assumption)|exact lk0 (by assumption)|exact nm1 (by omega)|fail))|fail) ?_ | refine cZ rfl rfl ?_)
  refine dD rfl (by exact rho_of rfl) rfl ?_
  repeat (first | first|apply cA|apply cB|apply cD|apply cE|apply cF|apply cH|apply cM|refine cY rfl rfl rfl rfl (by first|((first|apply qep|apply qmv|apply qas|apply qlc|apply qla|apply qfa|apply qnc|apply qpk|apply qls|apply qni|apply qed|apply qad|apply qgt|apply qlk|apply qxt|apply qsb|apply qnt|apply qep)<;>(first|exact rfl|assumption|exact Ar.mk (by omega)|exact dct (by first|assumption|omega)|exact dcf (by first|assumption|omega)|exact List.not_mem_nil|apply dc_length|apply hc_length|apply pc_length|apply shc_length|exact lk1 (by assumption)|exact lk0 (by assumption)|exact nm1 (by omega)|fail))|fail) ?_ | refine cZ rfl rfl ?_)
  refine dD rfl (by exact rho_of rfl) rfl ?_
  cases hf : alook ms f with
  | none =>
    have e : fwdE win ms mp now f t n amt til = 9 := by rw [e0, hf]
    repeat (first|apply cA|apply cB|apply cD|apply cE|apply cF|apply cH|apply cM|refine cY rfl rfl rfl rfl (by first|((first|apply qep|apply qmv|apply qas|apply qlc|apply qla|apply qfa|apply qnc|apply qpk|apply qls|apply qni|apply qed|apply qad|apply qgt|apply qlk|apply qxt|apply qsb|apply qnt|apply qep)<;>(first|exact rfl|assumption|exact Ar.mk (by omega)|exact dct (by first|assumption|omega)|exact dcf (by first|assumption|omega)|exact List.not_mem_nil|apply dc_length|apply hc_length|apply pc_length|apply shc_length|exact lk1 (by assumption)|exact lk0 (by assumption)|exact nm1 (by omega)|fail))|fail) ?_)
    refine CG.drawv mixed [0, 1, 2, 3, 4, 5, 6, 7, 8, 11] [(9, 10, 15, .tmp 39)] (by kernel_rfl) (by kernel_rfl) ?_
    repeat (refine dA rfl rfl rfl (by first|((first|apply qep|apply qmv|apply qas|apply qlc|apply qla|apply qfa|apply qnc|apply qpk|apply qls|apply qni|apply qed|apply qad|apply qgt|apply qlk|apply qxt|apply qsb|apply qnt|apply qep)<;>(first|exact rfl|assumption|exact Ar.mk (by omega)|exact dct (by first|assumption|omega)|exact dcf (by first|assumption|omega)|exact List.not_mem_nil|apply dc_length|apply hc_length|apply pc_length|apply shc_length|exact lk1 (by assumption)|exact lk0 (by assumption)|exact nm1 (by omega)|fail))|fail) ?_)
    refine Der.one (VrOk.of (by rfl) rfl rfl rfl (by exact rho_of rfl) (by rfl) (by rfl) (by rfl)) (fun b15 w4 hk4 hb15 hB15 => ?_)
    have hH4 := hH3.kp0 hk4
    have hR10 : Row w4 b10 0 (dc t) := Row.all (hB10.kp0 hk4) rfl
    clear r1 hm3
    obtain ⟨-, r1, -⟩ := hH4.rows
    have hm4 := hH4.sh
    cases ht2 : alook ms t with
    | none =>
      repeat (first|apply cA|apply cB|apply cD|apply cE|apply cF|apply cH|apply cM|refine cY rfl rfl rfl rfl (by first|((first|apply qep|apply qmv|apply qas|apply qlc|apply qla|apply qfa|apply qnc|apply qpk|apply qls|apply qni|apply qed|apply qad|apply qgt|apply qlk|apply qxt|apply qsb|apply qnt|apply qep)<;>(first|exact rfl|assumption|exact Ar.mk (by omega)|exact dct (by first|assumption|omega)|exact dcf (by first|assumption|omega)|exact List.not_mem_nil|apply dc_length|apply hc_length|apply pc_length|apply shc_length|exact lk1 (by assumption)|exact lk0 (by assumption)|exact nm1 (by omega)|fail))|fail) ?_)
      refine CG.drawv mixed [0, 1, 2, 3, 4, 5, 6, 7, 8, 11] [(9, 10, 17, .tmp 48)] (by kernel_rfl) (by kernel_rfl) ?_
      repeat (refine dA rfl rfl rfl (by first|((first|apply qep|apply qmv|apply qas|apply qlc|apply qla|apply qfa|apply qnc|apply qpk|apply qls|apply qni|apply qed|apply qad|apply qgt|apply qlk|apply qxt|apply qsb|apply qnt|apply qep)<;>(first|exact rfl|assumption|exact Ar.mk (by omega)|exact dct (by first|assumption|omega)|exact dcf (by first|assumption|omega)|exact List.not_mem_nil|apply dc_length|apply hc_length|apply pc_length|apply shc_length|exact lk1 (by assumption)|exact lk0 (by assumption)|exact nm1 (by omega)|fail))|fail) ?_)
      refine Der.one (VrOk.of (by rfl) rfl rfl rfl (by exact rho_of rfl) (by rfl) (by rfl) (by rfl)) (fun b17 w5 hk5 hb17 hB17 => ?_)
      repeat (first | first|apply cA|apply cB|apply cD|apply cE|apply cF|apply cH|apply cM|refine cY rfl rfl rfl rfl (by first|((first|apply qep|apply qmv|apply qas|apply qlc|apply qla|apply qfa|apply qnc|apply qpk|apply qls|apply qni|apply qed|apply qad|apply qgt|apply qlk|apply qxt|apply qsb|apply qnt|apply qep)<;>(first|exact rfl|assumption|exact Ar.mk (by omega)|exact dct (by first|assumption|omega)|exact dcf (by first|assumption|omega)|exact List.not_mem_nil|apply dc_length|apply hc_length|apply pc_length|apply shc_length|exact lk1 (by assumption)|exact lk0 (by assumption)|exact nm1 (by omega)|fail))|fail) ?_ | refine cZ rfl rfl ?_)
      refine dB rfl (by exact rho_of rfl) rfl ?_
      repeat (first|apply cA|apply cB|apply cD|apply cE|apply cF|apply cH|apply cM|refine cY rfl rfl rfl rfl (by first|((first|apply qep|apply qmv|apply qas|apply qlc|apply qla|apply qfa|apply qnc|apply qpk|apply qls|apply qni|apply qed|apply qad|apply qgt|apply qlk|apply qxt|apply qsb|apply qnt|apply qep)<;>(first|exact rfl|assumption|exact Ar.mk (by omega)|exact dct (by first|assumption|omega)|exact dcf (by first|assumption|omega)|exact List.not_mem_nil|apply dc_length|apply hc_length|apply pc_length|apply shc_length|exact lk1 (by assumption)|exact lk0 (by assumption)|exact nm1 (by omega)|fail))|fail) ?_)
      refine ret1 (Or.inl rfl) Try.results14 (by first | exact ResV.tmp rfl | exact ResV.agg rfl rfl (by assumption) (by first | exact dc_length _ | exact nc_length _ | exact rc_length _ _ _ | exact ec_length _ | exact dl_length _ _ _ _ | rfl) | exact ResV.cell rfl rfl (by assumption)) ?_
      exact fin ((k3.trans hk4).trans hk5) e (by decide)
    | some y =>
      repeat (first|apply cA|apply cB|apply cD|apply cE|apply cF|apply cH|apply cM|refine cY rfl rfl rfl rfl (by first|((first|apply qep|apply qmv|apply qas|apply qlc|apply qla|apply qfa|apply qnc|apply qpk|apply qls|apply qni|apply qed|apply qad|apply qgt|apply qlk|apply qxt|apply qsb|apply qnt|apply qep)<;>(first|exact rfl|assumption|exact Ar.mk (by omega)|exact dct (by first|assumption|omega)|exact dcf (by first|assumption|omega)|exact List.not_mem_nil|apply dc_length|apply hc_length|apply pc_length|apply shc_length|exact lk1 (by assumption)|exact lk0 (by assumption)|exact nm1 (by omega)|fail))|fail) ?_)
      refine CG.drawv mixed [0, 1, 2, 3, 4, 5, 6, 7, 8, 11] [(9, 10, 17, .tmp 48)] (by kernel_rfl) (by kernel_rfl) ?_
      repeat (refine dA rfl rfl rfl (by first|((first|apply qep|apply qmv|apply qas|apply qlc|apply qla|apply qfa|apply qnc|apply qpk|apply qls|apply qni|apply qed|apply qad|apply qgt|apply qlk|apply qxt|apply qsb|apply qnt|apply qep)<;>(first|exact rfl|assumption|exact Ar.mk (by omega)|exact dct (by first|assumption|omega)|exact dcf (by first|assumption|omega)|exact List.not_mem_nil|apply dc_length|apply hc_length|apply pc_length|apply shc_length|exact lk1 (by assumption)|exact lk0 (by assumption)|exact nm1 (by omega)|fail))|fail) ?_)
      refine Der.one (VrOk.of (by rfl) rfl rfl rfl (by exact rho_of rfl) (by exact shc_length y) (by rfl) (by exact shc_one y)) (fun b17 w5 hk5 hb17 hB17 => ?_)
      repeat (first | first|apply cA|apply cB|apply cD|apply cE|apply cF|apply cH|apply cM|refine cY rfl rfl rfl rfl (by first|((first|apply qep|apply qmv|apply qas|apply qlc|apply qla|apply qfa|apply qnc|apply qpk|apply qls|apply qni|apply qed|apply qad|apply qgt|apply qlk|apply qxt|apply qsb|apply qnt|apply qep)<;>(first|exact rfl|assumption|exact Ar.mk (by omega)|exact dct (by first|assumption|omega)|exact dcf (by first|assumption|omega)|exact List.not_mem_nil|apply dc_length|apply hc_length|apply pc_length|apply shc_length|exact lk1 (by assumption)|exact lk0 (by assumption)|exact nm1 (by omega)|fail))|fail) ?_ | refine cZ rfl rfl ?_)
      refine dB rfl (by exact rho_of rfl) rfl ?_
      repeat (first|apply cA|apply cB|apply cD|apply cE|apply cF|apply cH|apply cM|refine cY rfl rfl rfl rfl (by first|((first|apply qep|apply qmv|apply qas|apply qlc|apply qla|apply qfa|apply qnc|apply qpk|apply qls|apply qni|apply qed|apply qad|apply qgt|apply qlk|apply qxt|apply qsb|apply qnt|apply qep)<;>(first|exact rfl|assumption|exact Ar.mk (by omega)|exact dct (by first|assumption|omega)|exact dcf (by first|assumption|omega)|exact List.not_mem_nil|apply dc_length|apply hc_length|apply pc_length|apply shc_length|exact lk1 (by assumption)|exact lk0 (by assumption)|exact nm1 (by omega)|fail))|fail) ?_)
      refine ret1 (Or.inl rfl) Try.results14 (by first | exact ResV.tmp rfl | exact ResV.agg rfl rfl (by assumption) (by first | exact dc_length _ | exact nc_length _ | exact rc_length _ _ _ | exact ec_length _ | exact dl_length _ _ _ _ | rfl) | exact ResV.cell rfl rfl (by assumption)) ?_
      exact fin ((k3.trans hk4).trans hk5) e (by decide)
  | some x =>
  repeat (first|apply cA|apply cB|apply cD|apply cE|apply cF|apply cH|apply cM|refine cY rfl rfl rfl rfl (by first|((first|apply qep|apply qmv|apply qas|apply qlc|apply qla|apply qfa|apply qnc|apply qpk|apply qls|apply qni|apply qed|apply qad|apply qgt|apply qlk|apply qxt|apply qsb|apply qnt|apply qep)<;>(first|exact rfl|assumption|exact Ar.mk (by omega)|exact dct (by first|assumption|omega)|exact dcf (by first|assumption|omega)|exact List.not_mem_nil|apply dc_length|apply hc_length|apply pc_length|apply shc_length|exact lk1 (by assumption)|exact lk0 (by assumption)|exact nm1 (by omega)|fail))|fail) ?_)
  refine CG.drawv mixed [0, 1, 2, 3, 4, 5, 6, 7, 8, 11] [(9, 10, 15, .tmp 39)] (by kernel_rfl) (by kernel_rfl) ?_
  repeat (refine dA rfl rfl rfl (by first|((first|apply qep|apply qmv|apply qas|apply qlc|apply qla|apply qfa|apply qnc|apply qpk|apply qls|apply qni|apply qed|apply qad|apply qgt|apply qlk|apply qxt|apply qsb|apply qnt|apply qep)<;>(first|exact rfl|assumption|exact Ar.mk (by omega)|exact dct (by first|assumption|omega)|exact dcf (by first|assumption|omega)|exact List.not_mem_nil|apply dc_length|apply hc_length|apply pc_length|apply shc_length|exact lk1 (by assumption)|exact lk0 (by assumption)|exact nm1 (by omega)|fail))|fail) ?_)
  refine Der.one (VrOk.of (by rfl) rfl rfl rfl (by exact rho_of rfl) (by exact shc_length x) (by rfl) (by exact shc_one x)) (fun b15 w4 hk4 hb15 hB15 => ?_)
  have hB15 : Blk w4 b15 (.cells (shc x).toArray 89) := hB15
  have hH4 := hH3.kp0 hk4
  have hB10 := hB10.kp0 hk4
  have hB9 := hB9.kp0 hk4
  have hB11 := hB11.kp0 hk4
  have k4 := k3.trans hk4
  have hR10 : Row w4 b10 0 (dc t) := Row.all hB10 rfl
  clear r1 hm3 hR9
  obtain ⟨-, r1, -⟩ := hH4.rows
  have hm4 := hH4.sh
  cases ht2 : alook ms t with
  | none =>
    have e : fwdE win ms mp now f t n amt til = 9 := by rw [e0, hf, ht2]
    repeat (first|apply cA|apply cB|apply cD|apply cE|apply cF|apply cH|apply cM|refine cY rfl rfl rfl rfl (by first|((first|apply qep|apply qmv|apply qas|apply qlc|apply qla|apply qfa|apply qnc|apply qpk|apply qls|apply qni|apply qed|apply qad|apply qgt|apply qlk|apply qxt|apply qsb|apply qnt|apply qep)<;>(first|exact rfl|assumption|exact Ar.mk (by omega)|exact dct (by first|assumption|omega)|exact dcf (by first|assumption|omega)|exact List.not_mem_nil|apply dc_length|apply hc_length|apply pc_length|apply shc_length|exact lk1 (by assumption)|exact lk0 (by assumption)|exact nm1 (by omega)|fail))|fail) ?_)
    refine CG.drawv mixed [0, 1, 2, 3, 4, 5, 6, 7, 8, 11] [(9, 10, 17, .tmp 48)] (by kernel_rfl) (by kernel_rfl) ?_
    repeat (refine dA rfl rfl rfl (by first|((first|apply qep|apply qmv|apply qas|apply qlc|apply qla|apply qfa|apply qnc|apply qpk|apply qls|apply qni|apply qed|apply qad|apply qgt|apply qlk|apply qxt|apply qsb|apply qnt|apply qep)<;>(first|exact rfl|assumption|exact Ar.mk (by omega)|exact dct (by first|assumption|omega)|exact dcf (by first|assumption|omega)|exact List.not_mem_nil|apply dc_length|apply hc_length|apply pc_length|apply shc_length|exact lk1 (by assumption)|exact lk0 (by assumption)|exact nm1 (by omega)|fail))|fail) ?_)
    refine Der.one (VrOk.of (by rfl) rfl rfl rfl (by exact rho_of rfl) (by rfl) (by rfl) (by rfl)) (fun b17 w5 hk5 hb17 hB17 => ?_)
    repeat (first | first|apply cA|apply cB|apply cD|apply cE|apply cF|apply cH|apply cM|refine cY rfl rfl rfl rfl (by first|((first|apply qep|apply qmv|apply qas|apply qlc|apply qla|apply qfa|apply qnc|apply qpk|apply qls|apply qni|apply qed|apply qad|apply qgt|apply qlk|apply qxt|apply qsb|apply qnt|apply qep)<;>(first|exact rfl|assumption|exact Ar.mk (by omega)|exact dct (by first|assumption|omega)|exact dcf (by first|assumption|omega)|exact List.not_mem_nil|apply dc_length|apply hc_length|apply pc_length|apply shc_length|exact lk1 (by assumption)|exact lk0 (by assumption)|exact nm1 (by omega)|fail))|fail) ?_ | refine cZ rfl rfl ?_)
    refine dB rfl (by exact rho_of rfl) rfl ?_
    repeat (first|apply cA|apply cB|apply cD|apply cE|apply cF|apply cH|apply cM|refine cY rfl rfl rfl rfl (by first|((first|apply qep|apply qmv|apply qas|apply qlc|apply qla|apply qfa|apply qnc|apply qpk|apply qls|apply qni|apply qed|apply qad|apply qgt|apply qlk|apply qxt|apply qsb|apply qnt|apply qep)<;>(first|exact rfl|assumption|exact Ar.mk (by omega)|exact dct (by first|assumption|omega)|exact dcf (by first|assumption|omega)|exact List.not_mem_nil|apply dc_length|apply hc_length|apply pc_length|apply shc_length|exact lk1 (by assumption)|exact lk0 (by assumption)|exact nm1 (by omega)|fail))|fail) ?_)
    refine ret1 (Or.inl rfl) Try.results14 (by first | exact ResV.tmp rfl | exact ResV.agg rfl rfl (by assumption) (by first | exact dc_length _ | exact nc_length _ | exact rc_length _ _ _ | exact ec_length _ | exact dl_length _ _ _ _ | rfl) | exact ResV.cell rfl rfl (by assumption)) ?_
    exact fin (k4.trans hk5) e (by decide)
  | some y =>
  repeat (first|apply cA|apply cB|apply cD|apply cE|apply cF|apply cH|apply cM|refine cY rfl rfl rfl rfl (by first|((first|apply qep|apply qmv|apply qas|apply qlc|apply qla|apply qfa|apply qnc|apply qpk|apply qls|apply qni|apply qed|apply qad|apply qgt|apply qlk|apply qxt|apply qsb|apply qnt|apply qep)<;>(first|exact rfl|assumption|exact Ar.mk (by omega)|exact dct (by first|assumption|omega)|exact dcf (by first|assumption|omega)|exact List.not_mem_nil|apply dc_length|apply hc_length|apply pc_length|apply shc_length|exact lk1 (by assumption)|exact lk0 (by assumption)|exact nm1 (by omega)|fail))|fail) ?_)
  refine CG.drawv mixed [0, 1, 2, 3, 4, 5, 6, 7, 8, 11] [(9, 10, 17, .tmp 48)] (by kernel_rfl) (by kernel_rfl) ?_
  repeat (refine dA rfl rfl rfl (by first|((first|apply qep|apply qmv|apply qas|apply qlc|apply qla|apply qfa|apply qnc|apply qpk|apply qls|apply qni|apply qed|apply qad|apply qgt|apply qlk|apply qxt|apply qsb|apply qnt|apply qep)<;>(first|exact rfl|assumption|exact Ar.mk (by omega)|exact dct (by first|assumption|omega)|exact dcf (by first|assumption|omega)|exact List.not_mem_nil|apply dc_length|apply hc_length|apply pc_length|apply shc_length|exact lk1 (by assumption)|exact lk0 (by assumption)|exact nm1 (by omega)|fail))|fail) ?_)
  refine Der.one (VrOk.of (by rfl) rfl rfl rfl (by exact rho_of rfl) (by exact shc_length y) (by rfl) (by exact shc_one y)) (fun b17 w5 hk5 hb17 hB17 => ?_)
  have hB17 : Blk w5 b17 (.cells (shc y).toArray 89) := hB17
  have hH5 := hH4.kp0 hk5
  have hB9 := hB9.kp0 hk5
  have hB10 := hB10.kp0 hk5
  have hB11 := hB11.kp0 hk5
  have hB15 := hB15.kp0 hk5
  have k5 := k4.trans hk5
  clear r1 hm4 hR10
  have hR9 : Row w5 b9 0 (dc f) := Row.all hB9 rfl
  have hR10 : Row w5 b10 0 (dc t) := Row.all hB10 rfl
  repeat (first | first|apply cA|apply cB|apply cD|apply cE|apply cF|apply cH|apply cM|refine cY rfl rfl rfl rfl (by first|((first|apply qep|apply qmv|apply qas|apply qlc|apply qla|apply qfa|apply qnc|apply qpk|apply qls|apply qni|apply qed|apply qad|apply qgt|apply qlk|apply qxt|apply qsb|apply qnt|apply qep)<;>(first|exact rfl|assumption|exact Ar.mk (by omega)|exact dct (by first|assumption|omega)|exact dcf (by first|assumption|omega)|exact List.not_mem_nil|apply dc_length|apply hc_length|apply pc_length|apply shc_length|exact lk1 (by assumption)|exact lk0 (by assumption)|exact nm1 (by omega)|fail))|fail) ?_ | refine cZ rfl rfl ?_)
  refine dD rfl (by exact rho_of rfl) rfl ?_
  by_cases gft : f = t
  · have e : fwdE win ms mp now f t n amt til = 1 := by rw [e0, hf, ht2]; exact if_pos gft
    repeat (first|apply cA|apply cB|apply cD|apply cE|apply cF|apply cH|apply cM|refine cY rfl rfl rfl rfl (by first|((first|apply qep|apply qmv|apply qas|apply qlc|apply qla|apply qfa|apply qnc|apply qpk|apply qls|apply qni|apply qed|apply qad|apply qgt|apply qlk|apply qxt|apply qsb|apply qnt|apply qep)<;>(first|exact rfl|assumption|exact Ar.mk (by omega)|exact dct (by first|assumption|omega)|exact dcf (by first|assumption|omega)|exact List.not_mem_nil|apply dc_length|apply hc_length|apply pc_length|apply shc_length|exact lk1 (by assumption)|exact lk0 (by assumption)|exact nm1 (by omega)|fail))|fail) ?_)
    refine dB rfl (by exact rho_of rfl) rfl ?_
    repeat (first|apply cA|apply cB|apply cD|apply cE|apply cF|apply cH|apply cM|refine cY rfl rfl rfl rfl (by first|((first|apply qep|apply qmv|apply qas|apply qlc|apply qla|apply qfa|apply qnc|apply qpk|apply qls|apply qni|apply qed|apply qad|apply qgt|apply qlk|apply qxt|apply qsb|apply qnt|apply qep)<;>(first|exact rfl|assumption|exact Ar.mk (by omega)|exact dct (by first|assumption|omega)|exact dcf (by first|assumption|omega)|exact List.not_mem_nil|apply dc_length|apply hc_length|apply pc_length|apply shc_length|exact lk1 (by assumption)|exact lk0 (by assumption)|exact nm1 (by omega)|fail))|fail) ?_)
    refine ret1 (Or.inl rfl) Try.results14 (by first | exact ResV.tmp rfl | exact ResV.agg rfl rfl (by assumption) (by first | exact dc_length _ | exact nc_length _ | exact rc_length _ _ _ | exact ec_length _ | exact dl_length _ _ _ _ | rfl) | exact ResV.cell rfl rfl (by assumption)) ?_
    exact fin k5 e (by decide)
  have gft' : ¬ dc f = dc t := fun h => gft (dc_inj h)
  obtain ⟨-, -, r2⟩ := hH5.rows
  have hm5 := hH5.pr
  have hR11 : Row w5 b11 0 (dc n) := Row.all hB11 rfl
  repeat (first|apply cA|apply cB|apply cD|apply cE|apply cF|apply cH|apply cM|refine cY rfl rfl rfl rfl (by first|((first|apply qep|apply qmv|apply qas|apply qlc|apply qla|apply qfa|apply qnc|apply qpk|apply qls|apply qni|apply qed|apply qad|apply qgt|apply qlk|apply qxt|apply qsb|apply qnt|apply qep)<;>(first|exact rfl|assumption|exact Ar.mk (by omega)|exact dct (by first|assumption|omega)|exact dcf (by first|assumption|omega)|exact List.not_mem_nil|apply dc_length|apply hc_length|apply pc_length|apply shc_length|exact lk1 (by assumption)|exact lk0 (by assumption)|exact nm1 (by omega)|fail))|fail) ?_)
  refine dD rfl (by exact rho_of rfl) rfl ?_
  cases hn2 : alook mp n with
  | some r =>
    have e : fwdE win ms mp now f t n amt til = 7 := by rw [e0, hf, ht2, hn2]; simp [gft]
    repeat (first|apply cA|apply cB|apply cD|apply cE|apply cF|apply cH|apply cM|refine cY rfl rfl rfl rfl (by first|((first|apply qep|apply qmv|apply qas|apply qlc|apply qla|apply qfa|apply qnc|apply qpk|apply qls|apply qni|apply qed|apply qad|apply qgt|apply qlk|apply qxt|apply qsb|apply qnt|apply qep)<;>(first|exact rfl|assumption|exact Ar.mk (by omega)|exact dct (by first|assumption|omega)|exact dcf (by first|assumption|omega)|exact List.not_mem_nil|apply dc_length|apply hc_length|apply pc_length|apply shc_length|exact lk1 (by assumption)|exact lk0 (by assumption)|exact nm1 (by omega)|fail))|fail) ?_)
    refine CG.drawv mixed [0, 1, 2, 3, 4, 5, 6, 7, 8, 11] [(9, 10, 19, .tmp 66)] (by kernel_rfl) (by kernel_rfl) ?_
    repeat (refine dA rfl rfl rfl (by first|((first|apply qep|apply qmv|apply qas|apply qlc|apply qla|apply qfa|apply qnc|apply qpk|apply qls|apply qni|apply qed|apply qad|apply qgt|apply qlk|apply qxt|apply qsb|apply qnt|apply qep)<;>(first|exact rfl|assumption|exact Ar.mk (by omega)|exact dct (by first|assumption|omega)|exact dcf (by first|assumption|omega)|exact List.not_mem_nil|apply dc_length|apply hc_length|apply pc_length|apply shc_length|exact lk1 (by assumption)|exact lk0 (by assumption)|exact nm1 (by omega)|fail))|fail) ?_)
    refine Der.one (VrOk.of (by rfl) rfl rfl rfl (by exact rho_of rfl) (by exact prc_length r) (by rfl) (by exact prc_one r)) (fun b19 w6 hk6 hb19 hB19 => ?_)
    repeat (first | first|apply cA|apply cB|apply cD|apply cE|apply cF|apply cH|apply cM|refine cY rfl rfl rfl rfl (by first|((first|apply qep|apply qmv|apply qas|apply qlc|apply qla|apply qfa|apply qnc|apply qpk|apply qls|apply qni|apply qed|apply qad|apply qgt|apply qlk|apply qxt|apply qsb|apply qnt|apply qep)<;>(first|exact rfl|assumption|exact Ar.mk (by omega)|exact dct (by first|assumption|omega)|exact dcf (by first|assumption|omega)|exact List.not_mem_nil|apply dc_length|apply hc_length|apply pc_length|apply shc_length|exact lk1 (by assumption)|exact lk0 (by assumption)|exact nm1 (by omega)|fail))|fail) ?_ | refine cZ rfl rfl ?_)
    refine dB rfl (by exact rho_of rfl) rfl ?_
    repeat (first|apply cA|apply cB|apply cD|apply cE|apply cF|apply cH|apply cM|refine cY rfl rfl rfl rfl (by first|((first|apply qep|apply qmv|apply qas|apply qlc|apply qla|apply qfa|apply qnc|apply qpk|apply qls|apply qni|apply qed|apply qad|apply qgt|apply qlk|apply qxt|apply qsb|apply qnt|apply qep)<;>(first|exact rfl|assumption|exact Ar.mk (by omega)|exact dct (by first|assumption|omega)|exact dcf (by first|assumption|omega)|exact List.not_mem_nil|apply dc_length|apply hc_length|apply pc_length|apply shc_length|exact lk1 (by assumption)|exact lk0 (by assumption)|exact nm1 (by omega)|fail))|fail) ?_)
    refine ret1 (Or.inl rfl) Try.results14 (by first | exact ResV.tmp rfl | exact ResV.agg rfl rfl (by assumption) (by first | exact dc_length _ | exact nc_length _ | exact rc_length _ _ _ | exact ec_length _ | exact dl_length _ _ _ _ | rfl) | exact ResV.cell rfl rfl (by assumption)) ?_
    exact fin (k5.trans hk6) e (by decide)
  | none =>
  repeat (first|apply cA|apply cB|apply cD|apply cE|apply cF|apply cH|apply cM|refine cY rfl rfl rfl rfl (by first|((first|apply qep|apply qmv|apply qas|apply qlc|apply qla|apply qfa|apply qnc|apply qpk|apply qls|apply qni|apply qed|apply qad|apply qgt|apply qlk|apply qxt|apply qsb|apply qnt|apply qep)<;>(first|exact rfl|assumption|exact Ar.mk (by omega)|exact dct (by first|assumption|omega)|exact dcf (by first|assumption|omega)|exact List.not_mem_nil|apply dc_length|apply hc_length|apply pc_length|apply shc_length|exact lk1 (by assumption)|exact lk0 (by assumption)|exact nm1 (by omega)|fail))|fail) ?_)
  refine CG.drawv mixed [0, 1, 2, 3, 4, 5, 6, 7, 8, 11] [(9, 10, 19, .tmp 66)] (by kernel_rfl) (by kernel_rfl) ?_
  repeat (refine dA rfl rfl rfl (by first|((first|apply qep|apply qmv|apply qas|apply qlc|apply qla|apply qfa|apply qnc|apply qpk|apply qls|apply qni|apply qed|apply qad|apply qgt|apply qlk|apply qxt|apply qsb|apply qnt|apply qep)<;>(first|exact rfl|assumption|exact Ar.mk (by omega)|exact dct (by first|assumption|omega)|exact dcf (by first|assumption|omega)|exact List.not_mem_nil|apply dc_length|apply hc_length|apply pc_length|apply shc_length|exact lk1 (by assumption)|exact lk0 (by assumption)|exact nm1 (by omega)|fail))|fail) ?_)
  refine Der.one (VrOk.of (by rfl) rfl rfl rfl (by exact rho_of rfl) (by rfl) (by rfl) (by rfl)) (fun b19 w6 hk6 hb19 hB19 => ?_)
  clear r2 hm5 hR9 hR10 hR11 hb19 hB19
  have hH6 := hH5.kp0 hk6
  have hB9 := hB9.kp0 hk6
  have hB10 := hB10.kp0 hk6
  have hB11 := hB11.kp0 hk6
  have hB15 := hB15.kp0 hk6
  have hB17 := hB17.kp0 hk6
  have k6 := k5.trans hk6
  obtain ⟨r0, -, -⟩ := hH6.rows
  obtain ⟨w1', w2'⟩ := hwin'.1
  have ht3 := ht'.1
  repeat (first | first|apply cA|apply cB|apply cD|apply cE|apply cF|apply cH|apply cM|refine cY rfl rfl rfl rfl (by first|((first|apply qep|apply qmv|apply qas|apply qlc|apply qla|apply qfa|apply qnc|apply qpk|apply qls|apply qni|apply qed|apply qad|apply qgt|apply qlk|apply qxt|apply qsb|apply qnt|apply qep)<;>(first|exact rfl|assumption|exact Ar.mk (by omega)|exact dct (by first|assumption|omega)|exact dcf (by first|assumption|omega)|exact List.not_mem_nil|apply dc_length|apply hc_length|apply pc_length|apply shc_length|exact lk1 (by assumption)|exact lk0 (by assumption)|exact nm1 (by omega)|fail))|fail) ?_ | refine cZ rfl rfl ?_)
  refine dD rfl (by exact rho_of rfl) rfl ?_
  by_cases g3 : til < now + win
  · have e : fwdE win ms mp now f t n amt til = 20 := by rw [e0, hf, ht2, hn2]; simp [gft, g3]
    repeat (first|apply cA|apply cB|apply cD|apply cE|apply cF|apply cH|apply cM|refine cY rfl rfl rfl rfl (by first|((first|apply qep|apply qmv|apply qas|apply qlc|apply qla|apply qfa|apply qnc|apply qpk|apply qls|apply qni|apply qed|apply qad|apply qgt|apply qlk|apply qxt|apply qsb|apply qnt|apply qep)<;>(first|exact rfl|assumption|exact Ar.mk (by omega)|exact dct (by first|assumption|omega)|exact dcf (by first|assumption|omega)|exact List.not_mem_nil|apply dc_length|apply hc_length|apply pc_length|apply shc_length|exact lk1 (by assumption)|exact lk0 (by assumption)|exact nm1 (by omega)|fail))|fail) ?_)
    refine dB rfl (by exact rho_of rfl) rfl ?_
    repeat (first|apply cA|apply cB|apply cD|apply cE|apply cF|apply cH|apply cM|refine cY rfl rfl rfl rfl (by first|((first|apply qep|apply qmv|apply qas|apply qlc|apply qla|apply qfa|apply qnc|apply qpk|apply qls|apply qni|apply qed|apply qad|apply qgt|apply qlk|apply qxt|apply qsb|apply qnt|apply qep)<;>(first|exact rfl|assumption|exact Ar.mk (by omega)|exact dct (by first|assumption|omega)|exact dcf (by first|assumption|omega)|exact List.not_mem_nil|apply dc_length|apply hc_length|apply pc_length|apply shc_length|exact lk1 (by assumption)|exact lk0 (by assumption)|exact nm1 (by omega)|fail))|fail) ?_)
    refine ret1 (Or.inl rfl) Try.results14 (by first | exact ResV.tmp rfl | exact ResV.agg rfl rfl (by assumption) (by first | exact dc_length _ | exact nc_length _ | exact rc_length _ _ _ | exact ec_length _ | exact dl_length _ _ _ _ | rfl) | exact ResV.cell rfl rfl (by assumption)) ?_
    exact fin k6 e (by decide)
  have e1 : fwdE win ms mp now f t n amt til = if chgZ x.p (holdE x.p (nearH x n amt til)) ≠ 0 then chgZ x.p (holdE x.p (nearH x n amt til)) else chgZ y.p (holdE y.p (farH win y n amt til)) := by rw [e0, hf, ht2, hn2]; simp [gft, g3]
  have hx := hH6.at' (f, x) (alook_mem hf)
  have hy := hH6.at' (t, y) (alook_mem ht2)
  have hx16 := hH6.few (f, x) (alook_mem hf)
  have hy16 := hH6.few (t, y) (alook_mem ht2)
  obtain ⟨hs1, hs2⟩ := hsd (f, x) (alook_mem hf)
  simp only at hx hy hx16 hy16 hs1 hs2
  have hR11 : Row w6 b11 0 (dc n) := Row.all hB11 rfl
  obtain ⟨-, q1, q2, -⟩ := shc_rows hB15
  repeat (first|apply cA|apply cB|apply cD|apply cE|apply cF|apply cH|apply cM|refine cY rfl rfl rfl rfl (by first|((first|apply qep|apply qmv|apply qas|apply qlc|apply qla|apply qfa|apply qnc|apply qpk|apply qls|apply qni|apply qed|apply qad|apply qgt|apply qlk|apply qxt|apply qsb|apply qnt|apply qep)<;>(first|exact rfl|assumption|exact Ar.mk (by omega)|exact dct (by first|assumption|omega)|exact dcf (by first|assumption|omega)|exact List.not_mem_nil|apply dc_length|apply hc_length|apply pc_length|apply shc_length|exact lk1 (by assumption)|exact lk0 (by assumption)|exact nm1 (by omega)|fail))|fail) ?_)
  refine dD rfl (by exact rho_of rfl) rfl ?_
  repeat (first|apply cA|apply cB|apply cD|apply cE|apply cF|apply cH|apply cM|refine cY rfl rfl rfl rfl (by first|((first|apply qep|apply qmv|apply qas|apply qlc|apply qla|apply qfa|apply qnc|apply qpk|apply qls|apply qni|apply qed|apply qad|apply qgt|apply qlk|apply qxt|apply qsb|apply qnt|apply qep)<;>(first|exact rfl|assumption|exact Ar.mk (by omega)|exact dct (by first|assumption|omega)|exact dcf (by first|assumption|omega)|exact List.not_mem_nil|apply dc_length|apply hc_length|apply pc_length|apply shc_length|exact lk1 (by assumption)|exact lk0 (by assumption)|exact nm1 (by omega)|fail))|fail) ?_)
  refine cY rfl rfl rfl rfl (vals_build rfl (bhd (nearH x n amt til))) ?_
  refine SG.call rfl rfl rfl (vs := [pv x.p (.slice x.a x.p.held.length x.c), hv (nearH x n amt til)]) (by repeat' (first | exact True.intro | exact rho_of rfl | refine And.intro ?_ ?_)) ((hold_spec x.p (nearH x n amt til) hx.sl (by omega) hx.cap).mono (fun e' w7 hh => ?_))
  obtain ⟨v7, he, hk7, h1, h2⟩ := hh
  refine ⟨_, he, ?_⟩
  clear he
  have k7 := k6.trans hk7
  have hH7 := hH6.kp0 hk7
  have hB9 := hB9.kp0 hk7
  have hB10 := hB10.kp0 hk7
  have hB11 := hB11.kp0 hk7
  have hB17 := hB17.kp0 hk7
  clear q1 q2 hR11 r0
  by_cases gz : chgZ x.p (holdE x.p (nearH x n amt til)) = 0
  rotate_left
  · have e : fwdE win ms mp now f t n amt til = chgZ x.p (holdE x.p (nearH x n amt til)) := by rw [e1, if_pos gz]
    have hv := h2 gz
    subst hv
    generalize chgZ x.p (holdE x.p (nearH x n amt til)) = z at gz e
    repeat (first|apply cA|apply cB|apply cD|apply cE|apply cF|apply cH|apply cM|refine cY rfl rfl rfl rfl (by first|((first|apply qep|apply qmv|apply qas|apply qlc|apply qla|apply qfa|apply qnc|apply qpk|apply qls|apply qni|apply qed|apply qad|apply qgt|apply qlk|apply qxt|apply qsb|apply qnt|apply qep)<;>(first|exact rfl|assumption|exact Ar.mk (by omega)|exact dct (by first|assumption|omega)|exact dcf (by first|assumption|omega)|exact List.not_mem_nil|apply dc_length|apply hc_length|apply pc_length|apply shc_length|exact lk1 (by assumption)|exact lk0 (by assumption)|exact nm1 (by omega)|fail))|fail) ?_)
    refine SG.alloc rfl rfl rfl (fun b21 w8 hk8 hb21 hB21 => ?_)
    refine SG.setAll (l := pc zPu (.slice none 0 0)) rfl rfl (by exact rho_of rfl) (by exact rho_of rfl) hB21 (pc_length _ _) rfl (pc_one _ _ _ _) (fun w9 hk9 hB21 => ?_)
    repeat (first|apply cA|apply cB|apply cD|apply cE|apply cF|apply cH|apply cM|refine cY rfl rfl rfl rfl (by first|((first|apply qep|apply qmv|apply qas|apply qlc|apply qla|apply qfa|apply qnc|apply qpk|apply qls|apply qni|apply qed|apply qad|apply qgt|apply qlk|apply qxt|apply qsb|apply qnt|apply qep)<;>(first|exact rfl|assumption|exact Ar.mk (by omega)|exact dct (by first|assumption|omega)|exact dcf (by first|assumption|omega)|exact List.not_mem_nil|apply dc_length|apply hc_length|apply pc_length|apply shc_length|exact lk1 (by assumption)|exact lk0 (by assumption)|exact nm1 (by omega)|fail))|fail) ?_)
    refine dB rfl (by exact rho_of rfl) rfl ?_
    repeat (first|apply cA|apply cB|apply cD|apply cE|apply cF|apply cH|apply cM|refine cY rfl rfl rfl rfl (by first|((first|apply qep|apply qmv|apply qas|apply qlc|apply qla|apply qfa|apply qnc|apply qpk|apply qls|apply qni|apply qed|apply qad|apply qgt|apply qlk|apply qxt|apply qsb|apply qnt|apply qep)<;>(first|exact rfl|assumption|exact Ar.mk (by omega)|exact dct (by first|assumption|omega)|exact dcf (by first|assumption|omega)|exact List.not_mem_nil|apply dc_length|apply hc_length|apply pc_length|apply shc_length|exact lk1 (by assumption)|exact lk0 (by assumption)|exact nm1 (by omega)|fail))|fail) ?_)
    refine ret1 (Or.inl rfl) Try.results14 (by first | exact ResV.tmp rfl | exact ResV.agg rfl rfl (by assumption) (by first | exact dc_length _ | exact nc_length _ | exact rc_length _ _ _ | exact ec_length _ | exact dl_length _ _ _ _ | rfl) | exact ResV.cell rfl rfl (by assumption)) ?_
    exact fin (k7.trans (hk8.trans_new hk9 (new1 (by omega)))) e gz
  obtain ⟨s7, rfl, ho7⟩ := h1 gz
  obtain ⟨a7, c7, rfl, hc7, hS7⟩ := Sl.own hc_length ho7 rfl
  have hT7 : Ty 56 w7 a7 (fwdX x n amt til).held := Ty.own ho7
  rw [gz]
  clear h1 h2
  repeat (first|apply cA|apply cB|apply cD|apply cE|apply cF|apply cH|apply cM|refine cY rfl rfl rfl rfl (by first|((first|apply qep|apply qmv|apply qas|apply qlc|apply qla|apply qfa|apply qnc|apply qpk|apply qls|apply qni|apply qed|apply qad|apply qgt|apply qlk|apply qxt|apply qsb|apply qnt|apply qep)<;>(first|exact rfl|assumption|exact Ar.mk (by omega)|exact dct (by first|assumption|omega)|exact dcf (by first|assumption|omega)|exact List.not_mem_nil|apply dc_length|apply hc_length|apply pc_length|apply shc_length|exact lk1 (by assumption)|exact lk0 (by assumption)|exact nm1 (by omega)|fail))|fail) ?_)
  refine SG.alloc rfl rfl rfl (fun b21 w8 hk8 hb21 hB21 => ?_)
  refine SG.setAll (l := pc (fwdX x n amt til) (.slice a7 (fwdX x n amt til).held.length c7)) rfl rfl (by exact rho_of rfl) (by exact rho_of rfl) hB21 (pc_length _ _) rfl (pc_one _ _ _ _) (fun w9 hk9 hB21 => ?_)
  have k79 : Kp [] w7 w9 := hk8.trans_new hk9 (new1 (by omega))
  have hB21 : Blk w9 b21 (.cells (pc (fwdX x n amt til) (.slice a7 (fwdX x n amt til).held.length c7)).toArray 34) := hB21
  have hat9 : (⟨fwdX x n amt til, a7, c7, x.side⟩ : Sh).At w9 := (Sh.At.mk hS7 hc7 hT7).kp0 k79
  have k9 := k7.trans k79
  have hH9 := hH7.kp0 k79
  have hB9 := hB9.kp0 k79
  have hB10 := hB10.kp0 k79
  have hB11 := hB11.kp0 k79
  have hB17 := hB17.kp0 k79
  clear hS7 hT7 ho7 hb21 hk8 hk9
  obtain ⟨r0, -, -⟩ := hH9.rows
  have hR11 : Row w9 b11 0 (dc n) := Row.all hB11 rfl
  obtain ⟨-, q1, q2, -⟩ := shc_rows hB17
  have hy9 := hy.kp0 (hk7.trans k79)
  have g3' : now + win ≤ til := by omega
  repeat (first|apply cA|apply cB|apply cD|apply cE|apply cF|apply cH|apply cM|refine cY rfl rfl rfl rfl (by first|((first|apply qep|apply qmv|apply qas|apply qlc|apply qla|apply qfa|apply qnc|apply qpk|apply qls|apply qni|apply qed|apply qad|apply qgt|apply qlk|apply qxt|apply qsb|apply qnt|apply qep)<;>(first|exact rfl|assumption|exact Ar.mk (by omega)|exact dct (by first|assumption|omega)|exact dcf (by first|assumption|omega)|exact List.not_mem_nil|apply dc_length|apply hc_length|apply pc_length|apply shc_length|exact lk1 (by assumption)|exact lk0 (by assumption)|exact nm1 (by omega)|fail))|fail) ?_)
  refine dD rfl (by exact rho_of rfl) rfl ?_
  repeat (first|apply cA|apply cB|apply cD|apply cE|apply cF|apply cH|apply cM|refine cY rfl rfl rfl rfl (by first|((first|apply qep|apply qmv|apply qas|apply qlc|apply qla|apply qfa|apply qnc|apply qpk|apply qls|apply qni|apply qed|apply qad|apply qgt|apply qlk|apply qxt|apply qsb|apply qnt|apply qep)<;>(first|exact rfl|assumption|exact Ar.mk (by omega)|exact dct (by first|assumption|omega)|exact dcf (by first|assumption|omega)|exact List.not_mem_nil|apply dc_length|apply hc_length|apply pc_length|apply shc_length|exact lk1 (by assumption)|exact lk0 (by assumption)|exact nm1 (by omega)|fail))|fail) ?_)
  refine CG.free mixed 19 [0, 1, 2, 3, 4, 5, 6, 7, 8, 9, 10, 11, 12, 13, 14, 15, 16, 17, 18] [(13, gH w9.heap.size (fwdY win y n amt til) (chgZ y.p (holdE y.p (farH win y n amt til)))), (17, gV w9.heap.size 34 12), (18, gP w9.heap.size 34)] (by kernel_rfl) (by intro p hp y; simp at hp; rcases hp with rfl | rfl | rfl; exact gH_stab y; exact gV_stab y; exact gP_stab y) ?_
  repeat (refine DerX.val rfl rfl rfl rfl (by first|((first|apply qep|apply qmv|apply qas|apply qlc|apply qla|apply qfa|apply qnc|apply qpk|apply qls|apply qni|apply qed|apply qad|apply qgt|apply qlk|apply qxt|apply qsb|apply qnt|apply qep)<;>(first|exact rfl|assumption|exact Ar.mk (by omega)|exact dct (by first|assumption|omega)|exact dcf (by first|assumption|omega)|exact List.not_mem_nil|apply dc_length|apply hc_length|apply pc_length|apply shc_length|exact lk1 (by assumption)|exact lk0 (by assumption)|exact nm1 (by omega)|fail))|fail) ?_)
  refine DerX.val rfl rfl rfl rfl (vals_build rfl (bhd (farH win y n amt til))) ?_
  refine DerX.callE (vs := [pv y.p (.slice y.a y.p.held.length y.c), hv (farH win y n amt til)]) (gH w9.heap.size (fwdY win y n amt til) (chgZ y.p (holdE y.p (farH win y n amt til)))) rfl rfl rfl rfl (by repeat' (first | exact True.intro | exact rho_of rfl | refine And.intro ?_ ?_)) (fun W hk _ => (hold_spec y.p (farH win y n amt til) (hy9.sl.kp0 hk) (by omega) hy9.cap).mono (fun e w' hh => ?_)) (fun v' => ?_)
  · obtain ⟨v, he, hk', h1, h2⟩ := hh
    obtain ⟨x', h3, h4⟩ := gH_of (m := w9.heap.size) (p := fwdY win y n amt til) (fun hz => by obtain ⟨s, h5, h6⟩ := h1 hz; exact ⟨s, h5, own_mono h6 hk.size⟩) h2
    exact ⟨x', by rw [he, h3]; rfl, h4, hk'⟩
  repeat (refine DerX.val rfl rfl rfl rfl (by first|((first|apply qep|apply qmv|apply qas|apply qlc|apply qla|apply qfa|apply qnc|apply qpk|apply qls|apply qni|apply qed|apply qad|apply qgt|apply qlk|apply qxt|apply qsb|apply qnt|apply qep)<;>(first|exact rfl|assumption|exact Ar.mk (by omega)|exact dct (by first|assumption|omega)|exact dcf (by first|assumption|omega)|exact List.not_mem_nil|apply dc_length|apply hc_length|apply pc_length|apply shc_length|exact lk1 (by assumption)|exact lk0 (by assumption)|exact nm1 (by omega)|fail))|fail) ?_)
  refine DerX.allocV rfl rfl rfl rfl rfl (Nat.le_refl _) (fun b23 => ?_)
  refine DerX.storeV (l := v'.1) rfl rfl rfl rfl (by kernel_rfl) (by exact rho_of rfl) (by exact rho_of rfl) v'.2 (Nat.le_refl _) (fun w hk hF => ⟨hF _ (.head _) (by kernel_rfl), gH_one (w := w) (hF _ (.tail _ (.head _)) (by kernel_rfl))⟩) ?_ ?_
  · intro p hp hne y w w' cs g1 g2 g3 g4 g5
    simp only [List.mem_cons, List.not_mem_nil, or_false] at hp
    rcases hp with rfl | rfl | rfl
    · exact gH_keep g1 g3 g5
    · exact gV_keep v'.2 g3 g4 g5
    · exact absurd rfl hne
  refine DerX.tl (fun w10 hk10 hF => ?_)
  have hB23 : w9.heap.size ≤ b23 ∧ Blk w10 b23 (.cells v'.1.toArray 34) := hF _ (.head _)
  have hg10 := hF _ (.tail _ (.tail _ (.head _)))
  clear hF
  have k10 := k9.trans hk10
  have hH10 := hH9.kp0 hk10
  have hB9 := hB9.kp0 hk10
  have hB10 := hB10.kp0 hk10
  have hB11 := hB11.kp0 hk10
  have hB21 := hB21.kp0 hk10
  have hB23 := hB23.2
  have hat10 := hat9.kp0 hk10
  clear q1 q2 hR11 r0
  by_cases gy : chgZ y.p (holdE y.p (farH win y n amt til)) = 0
  rotate_left
  · have e : fwdE win ms mp now f t n amt til = chgZ y.p (holdE y.p (farH win y n amt til)) := by rw [e1, if_neg (fun h => h gz)]
    generalize chgZ y.p (holdE y.p (farH win y n amt til)) = z at gy e
    repeat (first|apply cA|apply cB|apply cD|apply cE|apply cF|apply cH|apply cM|refine cY rfl rfl rfl rfl (by first|((first|apply qep|apply qmv|apply qas|apply qlc|apply qla|apply qfa|apply qnc|apply qpk|apply qls|apply qni|apply qed|apply qad|apply qgt|apply qlk|apply qxt|apply qsb|apply qnt|apply qep)<;>(first|exact rfl|assumption|exact Ar.mk (by omega)|exact dct (by first|assumption|omega)|exact dcf (by first|assumption|omega)|exact List.not_mem_nil|apply dc_length|apply hc_length|apply pc_length|apply shc_length|exact lk1 (by assumption)|exact lk0 (by assumption)|exact nm1 (by omega)|fail))|fail) ?_)
    refine dB rfl (by exact rho_of rfl) rfl ?_
    repeat (first|apply cA|apply cB|apply cD|apply cE|apply cF|apply cH|apply cM|refine cY rfl rfl rfl rfl (by first|((first|apply qep|apply qmv|apply qas|apply qlc|apply qla|apply qfa|apply qnc|apply qpk|apply qls|apply qni|apply qed|apply qad|apply qgt|apply qlk|apply qxt|apply qsb|apply qnt|apply qep)<;>(first|exact rfl|assumption|exact Ar.mk (by omega)|exact dct (by first|assumption|omega)|exact dcf (by first|assumption|omega)|exact List.not_mem_nil|apply dc_length|apply hc_length|apply pc_length|apply shc_length|exact lk1 (by assumption)|exact lk0 (by assumption)|exact nm1 (by omega)|fail))|fail) ?_)
    refine ret1 (Or.inl rfl) Try.results14 (by first | exact ResV.tmp rfl | exact ResV.agg rfl rfl (by assumption) (by first | exact dc_length _ | exact nc_length _ | exact rc_length _ _ _ | exact ec_length _ | exact dl_length _ _ _ _ | rfl) | exact ResV.cell rfl rfl (by assumption)) ?_
    exact fin k10 e gy
  have e : fwdE win ms mp now f t n amt til = 0 := by rw [e1, if_neg (fun h => h gz), gy]
  obtain ⟨s10, h3, ho10⟩ := hg10.1 gy
  obtain ⟨a10, c10, rfl, hc10, hS10⟩ := Sl.own hc_length ho10 rfl
  have hT10 : Ty 56 w10 a10 (fwdY win y n amt til).held := Ty.own ho10
  have hat10' : (⟨fwdY win y n amt til, a10, c10, y.side⟩ : Sh).At w10 := ⟨hS10, hc10, hT10⟩
  rw [h3] at hB23
  rw [gy]
  clear hg10 h3 fin ho10 hT10 hS10
  have lx : (fwdX x n amt til).held.length ≤ 16 := hold_few gz
  have ly : (fwdY win y n amt til).held.length ≤ 16 := hold_few gy
  have hR9 : Row w10 b9 0 (dc f) := Row.all hB9 rfl
  have hR21 : Row w10 b21 0 (pc (fwdX x n amt til) (.slice a7 (fwdX x n amt til).held.length c7)) := Row.all hB21 rfl
  repeat (first|apply cA|apply cB|apply cD|apply cE|apply cF|apply cH|apply cM|refine cY rfl rfl rfl rfl (by first|((first|apply qep|apply qmv|apply qas|apply qlc|apply qla|apply qfa|apply qnc|apply qpk|apply qls|apply qni|apply qed|apply qad|apply qgt|apply qlk|apply qxt|apply qsb|apply qnt|apply qep)<;>(first|exact rfl|assumption|exact Ar.mk (by omega)|exact dct (by first|assumption|omega)|exact dcf (by first|assumption|omega)|exact List.not_mem_nil|apply dc_length|apply hc_length|apply pc_length|apply shc_length|exact lk1 (by assumption)|exact lk0 (by assumption)|exact nm1 (by omega)|fail))|fail) ?_)
  refine dD rfl (by exact rho_of rfl) rfl ?_
  repeat (first|apply cA|apply cB|apply cD|apply cE|apply cF|apply cH|apply cM|refine cY rfl rfl rfl rfl (by first|((first|apply qep|apply qmv|apply qas|apply qlc|apply qla|apply qfa|apply qnc|apply qpk|apply qls|apply qni|apply qed|apply qad|apply qgt|apply qlk|apply qxt|apply qsb|apply qnt|apply qep)<;>(first|exact rfl|assumption|exact Ar.mk (by omega)|exact dct (by first|assumption|omega)|exact dcf (by first|assumption|omega)|exact List.not_mem_nil|apply dc_length|apply hc_length|apply pc_length|apply shc_length|exact lk1 (by assumption)|exact lk0 (by assumption)|exact nm1 (by omega)|fail))|fail) ?_)
  refine SG.call rfl rfl rfl (vs := [.pointer (some ⟨bh, 0, none⟩), dv f, pv (fwdX x n amt til) (.slice a7 (fwdX x n amt til).held.length c7)]) (by repeat' (first | exact True.intro | exact rho_of rfl | refine And.intro ?_ ?_)) ((put_spec hH10 f (fwdX x n amt til) a7 c7 hf hat10 lx).mono (fun e' w11 hh => ?_))
  obtain ⟨he, hk11, hH11⟩ := hh
  refine ⟨_, he, ?_⟩
  clear he hR9 hR21
  have nbs : ∀ {z : Nat} {cs : Array Value} {T : TypeId}, Blk w10 z (.cells cs T) → z ≠ bs := fun h => hH10.sh.nb h.raw
  have hB9 := hB9.kp hk11 (nm1 (nbs hB9))
  have hB10 := hB10.kp hk11 (nm1 (nbs hB10))
  have hB11 := hB11.kp hk11 (nm1 (nbs hB11))
  have hB23 := hB23.kp hk11 (nm1 (nbs hB23))
  have hat11 := hat10'.map hH10.sh hk11
  have hR10 : Row w11 b10 0 (dc t) := Row.all hB10 rfl
  have hR23 : Row w11 b23 0 (pc (fwdY win y n amt til) (.slice a10 (fwdY win y n amt til).held.length c10)) := Row.all hB23 rfl
  have ht3' : alook (aput ms f ⟨fwdX x n amt til, a7, c7, x.side⟩) t = some y := by rw [alook_put, if_neg gft, ht2]
  repeat (first|apply cA|apply cB|apply cD|apply cE|apply cF|apply cH|apply cM|refine cY rfl rfl rfl rfl (by first|((first|apply qep|apply qmv|apply qas|apply qlc|apply qla|apply qfa|apply qnc|apply qpk|apply qls|apply qni|apply qed|apply qad|apply qgt|apply qlk|apply qxt|apply qsb|apply qnt|apply qep)<;>(first|exact rfl|assumption|exact Ar.mk (by omega)|exact dct (by first|assumption|omega)|exact dcf (by first|assumption|omega)|exact List.not_mem_nil|apply dc_length|apply hc_length|apply pc_length|apply shc_length|exact lk1 (by assumption)|exact lk0 (by assumption)|exact nm1 (by omega)|fail))|fail) ?_)
  refine SG.call rfl rfl rfl (vs := [.pointer (some ⟨bh, 0, none⟩), dv t, pv (fwdY win y n amt til) (.slice a10 (fwdY win y n amt til).held.length c10)]) (by repeat' (first | exact True.intro | exact rho_of rfl | refine And.intro ?_ ?_)) ((put_spec hH11 t (fwdY win y n amt til) a10 c10 ht3' hat11 ly).mono (fun e' w12 hh => ?_))
  obtain ⟨he, hk12, hH12⟩ := hh
  refine ⟨_, he, ?_⟩
  clear he hR10 hR23
  have nbs : ∀ {z : Nat} {cs : Array Value} {T : TypeId}, Blk w11 z (.cells cs T) → z ≠ bs := fun h => hH11.sh.nb h.raw
  have hB9 := hB9.kp hk12 (nm1 (nbs hB9))
  have hB10 := hB10.kp hk12 (nm1 (nbs hB10))
  have hB11 := hB11.kp hk12 (nm1 (nbs hB11))
  have hR9 : Row w12 b9 0 (dc f) := Row.all hB9 rfl
  have hR10 : Row w12 b10 0 (dc t) := Row.all hB10 rfl
  have hR11 : Row w12 b11 0 (dc n) := Row.all hB11 rfl
  obtain ⟨r0, -, r2⟩ := hH12.rows
  repeat (first|apply cA|apply cB|apply cD|apply cE|apply cF|apply cH|apply cM|refine cY rfl rfl rfl rfl (by first|((first|apply qep|apply qmv|apply qas|apply qlc|apply qla|apply qfa|apply qnc|apply qpk|apply qls|apply qni|apply qed|apply qad|apply qgt|apply qlk|apply qxt|apply qsb|apply qnt|apply qep)<;>(first|exact rfl|assumption|exact Ar.mk (by omega)|exact dct (by first|assumption|omega)|exact dcf (by first|assumption|omega)|exact List.not_mem_nil|apply dc_length|apply hc_length|apply pc_length|apply shc_length|exact lk1 (by assumption)|exact lk0 (by assumption)|exact nm1 (by omega)|fail))|fail) ?_)
  refine CG.tail mixed 17 [0, 1, 2, 3, 4, 5, 6, 7, 8, 9, 10, 11, 12, 13, 14, 15, 16] (by kernel_rfl) ?_
  repeat (refine dA rfl rfl rfl (by first|((first|apply qep|apply qmv|apply qas|apply qlc|apply qla|apply qfa|apply qnc|apply qpk|apply qls|apply qni|apply qed|apply qad|apply qgt|apply qlk|apply qxt|apply qsb|apply qnt|apply qep)<;>(first|exact rfl|assumption|exact Ar.mk (by omega)|exact dct (by first|assumption|omega)|exact dcf (by first|assumption|omega)|exact List.not_mem_nil|apply dc_length|apply hc_length|apply pc_length|apply shc_length|exact lk1 (by assumption)|exact lk0 (by assumption)|exact nm1 (by omega)|fail))|fail) ?_)
  refine dA rfl rfl rfl (vals_build rfl (bpr (fwdR win f t n amt til))) ?_
  refine Der.tl (fun w13 hk13 _ _ => ?_)
  have hH13 := hH12.kp0 hk13
  refine SG.mapUpdate (enc := dv (n := 8)) (V := prv) (kx := n) (vy := fwdR win f t n amt til) rfl rfl (by exact rho_of rfl) (by exact rho_of rfl) (by exact rho_of rfl) hH13.pr BArr.key (fun w14 hk14 hm14 => ?_)
  repeat (first|apply cA|apply cB|apply cD|apply cE|apply cF|apply cH|apply cM|refine cY rfl rfl rfl rfl (by first|((first|apply qep|apply qmv|apply qas|apply qlc|apply qla|apply qfa|apply qnc|apply qpk|apply qls|apply qni|apply qed|apply qad|apply qgt|apply qlk|apply qxt|apply qsb|apply qnt|apply qep)<;>(first|exact rfl|assumption|exact Ar.mk (by omega)|exact dct (by first|assumption|omega)|exact dcf (by first|assumption|omega)|exact List.not_mem_nil|apply dc_length|apply hc_length|apply pc_length|apply shc_length|exact lk1 (by assumption)|exact lk0 (by assumption)|exact nm1 (by omega)|fail))|fail) ?_)
  refine ret1 (Or.inl rfl) Try.results14 (by first | exact ResV.tmp rfl | exact ResV.agg rfl rfl (by assumption) (by first | exact dc_length _ | exact nc_length _ | exact rc_length _ _ _ | exact ec_length _ | exact dl_length _ _ _ _ | rfl) | exact ResV.cell rfl rfl (by assumption)) ?_
  have kk : ∀ {u u' : World} {z : Nat}, Kp [z] u u' → z = bs ∨ z = bp → Kp [bs, bp] u u' := fun h hz => h.mono (fun v hv => by rw [List.mem_singleton] at hv; subst hv; rcases hz with rfl | rfl <;> simp)
  exact ⟨by rw [e], Or.inr ⟨e, (((k10.any.trans (kk hk11 (Or.inl rfl))).trans (kk hk12 (Or.inl rfl))).trans hk13.any).trans (kk hk14 (Or.inr rfl)), x, y, a7, c7, a10, c10, hf, ht2, hH13.setP hk14 hm14⟩⟩
end Go.Proofs.Ytajllbdeoopimaa
namespace Go.Proofs.Ytajllbdeoopimaa
set_option linter.unusedVariables false
theorem prc_rows {w : World} {b : Nat} {T : TypeId} {r : Pr} (h : Blk w b (.cells (prc r).toArray T)) : Row w b 8 (dc r.frm) ∧ Row w b 16 (dc r.to) ∧ Row w b 24 [.int .i64 r.amt] ∧ Row w b 25 [.int .i64 r.inn] ∧ Row w b 26 [.int .i64 r.out] := by
  have l1 : (dc r.name).length = 8 := dc_length _
  have l2 : (dc r.frm).length = 8 := dc_length _
  have l3 : (dc r.to).length = 8 := dc_length _
  refine ⟨Row.of h (dc r.name) (dc r.to ++ [.int .i64 r.amt, .int .i64 r.inn, .int .i64 r.out]) (by simp [prc]) l1, Row.of h (dc r.name ++ dc r.frm) [.int .i64 r.amt, .int .i64 r.inn, .int .i64 r.out] (by simp [prc]) (by rw [List.length_append, l1, l2]), Row.of h (dc r.name ++ (dc r.frm ++ dc r.to)) [.int .i64 r.inn, .int .i64 r.out] (by simp [prc]) (by simp [l1, l2, l3]), Row.of h (dc r.name ++ (dc r.frm ++ (dc r.to ++ [.int .i64 r.amt]))) [.int .i64 r.out] (by simp [prc]) (by simp [l1, l2, l3]), Row.of h (dc r.name ++ (dc r.frm ++ (dc r.to ++ [.int .i64 r.amt, .int .i64 r.inn]))) [] (by simp [prc]) (by simp [l1, l2, l3])⟩
theorem freeQ_few (p : Pu) (n : Dg) (over : Int) : (nextP (freeQ p n over)).held.length ≤ p.held.length := by
  rw [nextP_held]
  unfold freeQ
  split
  · exact Nat.le_refl _
  · show (cutL p.held _).length ≤ _
    unfold cutL
    rw [List.length_append, List.length_take, List.length_drop]
    omega
def setE (ms : Ms) (mp : Mp) (now : Int) (n : Dg) (over : Int) : Int :=
  if now < 0 ∨ 1099511627776 < now then 2 else match alook mp n with
  | none => 9
  | some r => if r.out = -1 then 10 else if r.out < now then 19 else match alook ms r.frm, alook ms r.to with
    | some x, some y => if chgZ y.p (freeE y.p n over) ≠ 0 then chgZ y.p (freeE y.p n over) else chgZ x.p (freeE x.p n over)
    | _, _ => 0
def SetAt (w' : World) (bh bs bp : Nat) (win : Int) (ms : Ms) (mp : Mp) (n : Dg) (over : Int) : Prop := ∃ r x y a1 c1 a2 c2, alook mp n = some r ∧ alook ms r.frm = some x ∧ alook ms r.to = some y ∧ HubAt w' bh bs bp win (aput (aput ms r.to ⟨nextP (freeQ y.p n over), a1, c1, y.side⟩) r.frm ⟨nextP (freeQ x.p n over), a2, c2, x.side⟩) (mp.filter (fun q => decide (q.1 ≠ n)))
attribute [local irreducible] CG NG SG Vals Der Row Blk MapIs IterAt chkL DerR DerX
set_option maxHeartbeats 32000000 in
theorem settle_spec {w : World} {bh bs bp : Nat} {win : Int} {ms : Ms} {mp : Mp} (hH : HubAt w bh bs bp win ms mp) (now : Int) (n : Dg) (over : Int) (hin : ∀ r, alook mp n = some r → (∃ x, alook ms r.frm = some x) ∧ (∃ y, alook ms r.to = some y) ∧ r.frm ≠ r.to) :
    Calls Try.prog 15 #[.pointer (some ⟨bh, 0, none⟩), .int .i64 now, dv n, .int .i64 over] w (fun e w' => e = .returned (.int .i64 (setE ms mp now n over)) ∧ ((setE ms mp now n over ≠ 0 ∧ Kp [] w w') ∨ (setE ms mp now n over = 0 ∧ Kp [bs, bp] w w' ∧ SetAt w' bh bs bp win ms mp n over))) := by
  refine enter4 Try.func15 rfl Try.ntmps15 rfl ?_
  have fin : ∀ {z : Int} {w' : World}, Kp [] w w' → setE ms mp now n over = z → z ≠ 0 → ((Ending.returned (.int .i64 z) = .returned (.int .i64 (setE ms mp now n over))) ∧ ((setE ms mp now n over ≠ 0 ∧ Kp [] w w') ∨ (setE ms mp now n over = 0 ∧ Kp [bs, bp] w w' ∧ SetAt w' bh bs bp win ms mp n over))) := fun hk e hz => ⟨by rw [e], Or.inl ⟨by rw [e]; exact hz, hk⟩⟩
  repeat (first|apply cA|apply cB|apply cD|apply cE|apply cF|apply cH|apply cM|refine cY rfl rfl rfl rfl (by first|((first|apply qep|apply qmv|apply qas|apply qlc|apply qla|apply qfa|apply qnc|apply qpk|apply qls|apply qei|apply qni|apply qgt|apply qlk|apply qlv|apply qxt|apply qnt|apply qep)<;>(first|exact rfl|assumption|exact dct (by first|assumption|omega)|exact dcf (by first|assumption|omega)|exact List.not_mem_nil|apply dc_length|apply hc_length|apply pc_length|exact lk1 (by assumption)|exact lk0 (by assumption)|exact nm1 (by omega)|fail))|fail) ?_)
  refine SG.box rfl rfl rfl (by exact rho_of rfl) (fun b6 w1 hk1 hb6 hB6 => ?_)
  have hB6 : Blk w1 b6 (.cells (dc n).toArray 25) := hB6
  have hH1 := hH.kp0 hk1
  by_cases g1 : now < 0
  · have e : setE ms mp now n over = 2 := if_pos (Or.inl g1)
    repeat (first | first|apply cA|apply cB|apply cD|apply cE|apply cF|apply cH|apply cM|refine cY rfl rfl rfl rfl (by first|((first|apply qep|apply qmv|apply qas|apply qlc|apply qla|apply qfa|apply qnc|apply qpk|apply qls|apply qei|apply qni|apply qgt|apply qlk|apply qlv|apply qxt|apply qnt|apply qep)<;>(first|exact rfl|assumption|exact dct (by first|assumption|omega)|exact dcf (by first|assumption|omega)|exact List.not_mem_nil|apply dc_length|apply hc_length|apply pc_length|exact lk1 (by assumption)|exact lk0 (by assumption)|exact nm1 (by omega)|fail))|fail) ?_ | refine cZ rfl rfl ?_)
    refine dD rfl (by exact rho_of rfl) rfl ?_
    repeat (first | first|apply cA|apply cB|apply cD|apply cE|apply cF|apply cH|apply cM|refine cY rfl rfl rfl rfl (by first|((first|apply qep|apply qmv|apply qas|apply qlc|apply qla|apply qfa|apply qnc|apply qpk|apply qls|apply qei|apply qni|apply qgt|apply qlk|apply qlv|apply qxt|apply qnt|apply qep)<;>(first|exact rfl|assumption|exact dct (by first|assumption|omega)|exact dcf (by first|assumption|omega)|exact List.not_mem_nil|apply dc_length|apply hc_length|apply pc_length|exact lk1 (by assumption)|exact lk0 (by assumption)|exact nm1 (by omega)|fail))|fail) ?_ | refine cZ rfl rfl ?_)
    refine dB rfl (by exact rho_of rfl) rfl ?_
    repeat (first|apply cA|apply cB|apply cD|apply cE|apply cF|apply cH|apply cM|refine cY rfl rfl rfl rfl (by first|((first|apply qep|apply qmv|apply qas|apply qlc|apply qla|apply qfa|apply qnc|apply qpk|apply qls|apply qei|apply qni|apply qgt|apply qlk|apply qlv|apply qxt|apply qnt|apply qep)<;>(first|exact rfl|assumption|exact dct (by first|assumption|omega)|exact dcf (by first|assumption|omega)|exact List.not_mem_nil|apply dc_length|apply hc_length|apply pc_length|exact lk1 (by assumption)|exact lk0 (by assumption)|exact nm1 (by omega)|fail))|fail) ?_)
    refine ret1 (Or.inl rfl) Try.results15 (by first | exact ResV.tmp rfl | exact ResV.agg rfl rfl (by assumption) (by first | exact dc_length _ | exact nc_length _ | exact rc_length _ _ _ | exact ec_length _ | exact dl_length _ _ _ _ | rfl) | exact ResV.cell rfl rfl (by assumption)) ?_
    exact fin hk1 e (by decide)
  by_cases g2 : 1099511627776 < now
  · have e : setE ms mp now n over = 2 := if_pos (Or.inr g2)
    repeat (first | first|apply cA|apply cB|apply cD|apply cE|apply cF|apply cH|apply cM|refine cY rfl rfl rfl rfl (by first|((first|apply qep|apply qmv|apply qas|apply qlc|apply qla|apply qfa|apply qnc|apply qpk|apply qls|apply qei|apply qni|apply qgt|apply qlk|apply qlv|apply qxt|apply qnt|apply qep)<;>(first|exact rfl|assumption|exact dct (by first|assumption|omega)|exact dcf (by first|assumption|omega)|exact List.not_mem_nil|apply dc_length|apply hc_length|apply pc_length|exact lk1 (by assumption)|exact lk0 (by assumption)|exact nm1 (by omega)|fail))|fail) ?_ | refine cZ rfl rfl ?_)
    refine dD rfl (by exact rho_of rfl) rfl ?_
    repeat (first | first|apply cA|apply cB|apply cD|apply cE|apply cF|apply cH|apply cM|refine cY rfl rfl rfl rfl (by first|((first|apply qep|apply qmv|apply qas|apply qlc|apply qla|apply qfa|apply qnc|apply qpk|apply qls|apply qei|apply qni|apply qgt|apply qlk|apply qlv|apply qxt|apply qnt|apply qep)<;>(first|exact rfl|assumption|exact dct (by first|assumption|omega)|exact dcf (by first|assumption|omega)|exact List.not_mem_nil|apply dc_length|apply hc_length|apply pc_length|exact lk1 (by assumption)|exact lk0 (by assumption)|exact nm1 (by omega)|fail))|fail) ?_ | refine cZ rfl rfl ?_)
    refine dB rfl (by exact rho_of rfl) rfl ?_
    repeat (first|apply cA|apply cB|apply cD|apply cE|apply cF|apply cH|apply cM|refine cY rfl rfl rfl rfl (by first|((first|apply qep|apply qmv|apply qas|apply qlc|apply qla|apply qfa|apply qnc|apply qpk|apply qls|apply qei|apply qni|apply qgt|apply qlk|apply qlv|apply qxt|apply qnt|apply qep)<;>(first|exact rfl|assumption|exact dct (by first|assumption|omega)|exact dcf (by first|assumption|omega)|exact List.not_mem_nil|apply dc_length|apply hc_length|apply pc_length|exact lk1 (by assumption)|exact lk0 (by assumption)|exact nm1 (by omega)|fail))|fail) ?_)
    refine ret1 (Or.inl rfl) Try.results15 (by first | exact ResV.tmp rfl | exact ResV.agg rfl rfl (by assumption) (by first | exact dc_length _ | exact nc_length _ | exact rc_length _ _ _ | exact ec_length _ | exact dl_length _ _ _ _ | rfl) | exact ResV.cell rfl rfl (by assumption)) ?_
    exact fin hk1 e (by decide)
  have e0 : setE ms mp now n over = (match alook mp n with
  | none => 9
  | some r => if r.out = -1 then 10 else if r.out < now then 19 else match alook ms r.frm, alook ms r.to with
    | some x, some y => if chgZ y.p (freeE y.p n over) ≠ 0 then chgZ y.p (freeE y.p n over) else chgZ x.p (freeE x.p n over)
    | _, _ => 0) := if_neg (fun h => h.elim g1 g2)
  obtain ⟨-, -, r2⟩ := hH1.rows
  have hm1 := hH1.pr
  have hR6 : Row w1 b6 0 (dc n) := Row.all hB6 rfl
  repeat (first | first|apply cA|apply cB|apply cD|apply cE|apply cF|apply cH|apply cM|refine cY rfl rfl rfl rfl (by first|((first|apply qep|apply qmv|apply qas|apply qlc|apply qla|apply qfa|apply qnc|apply qpk|apply qls|apply qei|apply qni|apply qgt|apply qlk|apply qlv|apply qxt|apply qnt|apply qep)<;>(first|exact rfl|assumption|exact dct (by first|assumption|omega)|exact dcf (by first|assumption|omega)|exact List.not_mem_nil|apply dc_length|apply hc_length|apply pc_length|exact lk1 (by assumption)|exact lk0 (by assumption)|exact nm1 (by omega)|fail))|fail) ?_ | refine cZ rfl rfl ?_)
  refine dD rfl (by exact rho_of rfl) rfl ?_
  repeat (first | first|apply cA|apply cB|apply cD|apply cE|apply cF|apply cH|apply cM|refine cY rfl rfl rfl rfl (by first|((first|apply qep|apply qmv|apply qas|apply qlc|apply qla|apply qfa|apply qnc|apply qpk|apply qls|apply qei|apply qni|apply qgt|apply qlk|apply qlv|apply qxt|apply qnt|apply qep)<;>(first|exact rfl|assumption|exact dct (by first|assumption|omega)|exact dcf (by first|assumption|omega)|exact List.not_mem_nil|apply dc_length|apply hc_length|apply pc_length|exact lk1 (by assumption)|exact lk0 (by assumption)|exact nm1 (by omega)|fail))|fail) ?_ | refine cZ rfl rfl ?_)
  refine dD rfl (by exact rho_of rfl) rfl ?_
  cases hn : alook mp n with
  | none =>
    have e : setE ms mp now n over = 9 := by rw [e0, hn]
    repeat (first|apply cA|apply cB|apply cD|apply cE|apply cF|apply cH|apply cM|refine cY rfl rfl rfl rfl (by first|((first|apply qep|apply qmv|apply qas|apply qlc|apply qla|apply qfa|apply qnc|apply qpk|apply qls|apply qei|apply qni|apply qgt|apply qlk|apply qlv|apply qxt|apply qnt|apply qep)<;>(first|exact rfl|assumption|exact dct (by first|assumption|omega)|exact dcf (by first|assumption|omega)|exact List.not_mem_nil|apply dc_length|apply hc_length|apply pc_length|exact lk1 (by assumption)|exact lk0 (by assumption)|exact nm1 (by omega)|fail))|fail) ?_)
    refine CG.drawv mixed [0, 1, 2, 3, 4, 5, 6, 7, 8, 11] [(9, 10, 9, .tmp 29)] (by kernel_rfl) (by kernel_rfl) ?_
    repeat (refine dA rfl rfl rfl (by first|((first|apply qep|apply qmv|apply qas|apply qlc|apply qla|apply qfa|apply qnc|apply qpk|apply qls|apply qei|apply qni|apply qgt|apply qlk|apply qlv|apply qxt|apply qnt|apply qep)<;>(first|exact rfl|assumption|exact dct (by first|assumption|omega)|exact dcf (by first|assumption|omega)|exact List.not_mem_nil|apply dc_length|apply hc_length|apply pc_length|exact lk1 (by assumption)|exact lk0 (by assumption)|exact nm1 (by omega)|fail))|fail) ?_)
    refine Der.one (VrOk.of (by rfl) rfl rfl rfl (by exact rho_of rfl) (by rfl) (by rfl) (by rfl)) (fun b9 w2 hk2 hb9 hB9 => ?_)
    repeat (first|apply cA|apply cB|apply cD|apply cE|apply cF|apply cH|apply cM|refine cY rfl rfl rfl rfl (by first|((first|apply qep|apply qmv|apply qas|apply qlc|apply qla|apply qfa|apply qnc|apply qpk|apply qls|apply qei|apply qni|apply qgt|apply qlk|apply qlv|apply qxt|apply qnt|apply qep)<;>(first|exact rfl|assumption|exact dct (by first|assumption|omega)|exact dcf (by first|assumption|omega)|exact List.not_mem_nil|apply dc_length|apply hc_length|apply pc_length|exact lk1 (by assumption)|exact lk0 (by assumption)|exact nm1 (by omega)|fail))|fail) ?_)
    refine dB rfl (by exact rho_of rfl) rfl ?_
    repeat (first|apply cA|apply cB|apply cD|apply cE|apply cF|apply cH|apply cM|refine cY rfl rfl rfl rfl (by first|((first|apply qep|apply qmv|apply qas|apply qlc|apply qla|apply qfa|apply qnc|apply qpk|apply qls|apply qei|apply qni|apply qgt|apply qlk|apply qlv|apply qxt|apply qnt|apply qep)<;>(first|exact rfl|assumption|exact dct (by first|assumption|omega)|exact dcf (by first|assumption|omega)|exact List.not_mem_nil|apply dc_length|apply hc_length|apply pc_length|exact lk1 (by assumption)|exact lk0 (by assumption)|exact nm1 (by omega)|fail))|fail) ?_)
    refine ret1 (Or.inl rfl) Try.results15 (by first | exact ResV.tmp rfl | exact ResV.agg rfl rfl (by assumption) (by first | exact dc_length _ | exact nc_length _ | exact rc_length _ _ _ | exact ec_length _ | exact dl_length _ _ _ _ | rfl) | exact ResV.cell rfl rfl (by assumption)) ?_
    exact fin (hk1.trans hk2) e (by decide)
  | some r =>
  obtain ⟨⟨x, hx0⟩, ⟨y, hy0⟩, hne⟩ := hin r hn
  repeat (first|apply cA|apply cB|apply cD|apply cE|apply cF|apply cH|apply cM|refine cY rfl rfl rfl rfl (by first|((first|apply qep|apply qmv|apply qas|apply qlc|apply qla|apply qfa|apply qnc|apply qpk|apply qls|apply qei|apply qni|apply qgt|apply qlk|apply qlv|apply qxt|apply qnt|apply qep)<;>(first|exact rfl|assumption|exact dct (by first|assumption|omega)|exact dcf (by first|assumption|omega)|exact List.not_mem_nil|apply dc_length|apply hc_length|apply pc_length|exact lk1 (by assumption)|exact lk0 (by assumption)|exact nm1 (by omega)|fail))|fail) ?_)
  refine CG.drawv mixed [0, 1, 2, 3, 4, 5, 6, 7, 8, 11] [(9, 10, 9, .tmp 29)] (by kernel_rfl) (by kernel_rfl) ?_
  repeat (refine dA rfl rfl rfl (by first|((first|apply qep|apply qmv|apply qas|apply qlc|apply qla|apply qfa|apply qnc|apply qpk|apply qls|apply qei|apply qni|apply qgt|apply qlk|apply qlv|apply qxt|apply qnt|apply qep)<;>(first|exact rfl|assumption|exact dct (by first|assumption|omega)|exact dcf (by first|assumption|omega)|exact List.not_mem_nil|apply dc_length|apply hc_length|apply pc_length|exact lk1 (by assumption)|exact lk0 (by assumption)|exact nm1 (by omega)|fail))|fail) ?_)
  refine Der.one (VrOk.of (by rfl) rfl rfl rfl (by exact rho_of rfl) (by exact prc_length r) (by rfl) (by exact prc_one r)) (fun b9 w2 hk2 hb9 hB9 => ?_)
  have hB9 : Blk w2 b9 (.cells (prc r).toArray 54) := hB9
  have k2 := hk1.trans hk2
  have hH2 := hH1.kp0 hk2
  have hB6 := hB6.kp0 hk2
  clear r2 hm1 hR6
  obtain ⟨q1, q2, -, -, q5⟩ := prc_rows hB9
  repeat (first|apply cA|apply cB|apply cD|apply cE|apply cF|apply cH|apply cM|refine cY rfl rfl rfl rfl (by first|((first|apply qep|apply qmv|apply qas|apply qlc|apply qla|apply qfa|apply qnc|apply qpk|apply qls|apply qei|apply qni|apply qgt|apply qlk|apply qlv|apply qxt|apply qnt|apply qep)<;>(first|exact rfl|assumption|exact dct (by first|assumption|omega)|exact dcf (by first|assumption|omega)|exact List.not_mem_nil|apply dc_length|apply hc_length|apply pc_length|exact lk1 (by assumption)|exact lk0 (by assumption)|exact nm1 (by omega)|fail))|fail) ?_)
  refine dD rfl (by exact rho_of rfl) rfl ?_
  by_cases g3 : r.out = -1
  · have e : setE ms mp now n over = 10 := by rw [e0, hn]; exact if_pos g3
    repeat (first|apply cA|apply cB|apply cD|apply cE|apply cF|apply cH|apply cM|refine cY rfl rfl rfl rfl (by first|((first|apply qep|apply qmv|apply qas|apply qlc|apply qla|apply qfa|apply qnc|apply qpk|apply qls|apply qei|apply qni|apply qgt|apply qlk|apply qlv|apply qxt|apply qnt|apply qep)<;>(first|exact rfl|assumption|exact dct (by first|assumption|omega)|exact dcf (by first|assumption|omega)|exact List.not_mem_nil|apply dc_length|apply hc_length|apply pc_length|exact lk1 (by assumption)|exact lk0 (by assumption)|exact nm1 (by omega)|fail))|fail) ?_)
    refine dB rfl (by exact rho_of rfl) rfl ?_
    repeat (first|apply cA|apply cB|apply cD|apply cE|apply cF|apply cH|apply cM|refine cY rfl rfl rfl rfl (by first|((first|apply qep|apply qmv|apply qas|apply qlc|apply qla|apply qfa|apply qnc|apply qpk|apply qls|apply qei|apply qni|apply qgt|apply qlk|apply qlv|apply qxt|apply qnt|apply qep)<;>(first|exact rfl|assumption|exact dct (by first|assumption|omega)|exact dcf (by first|assumption|omega)|exact List.not_mem_nil|apply dc_length|apply hc_length|apply pc_length|exact lk1 (by assumption)|exact lk0 (by assumption)|exact nm1 (by omega)|fail))|fail) ?_)
    refine ret1 (Or.inl rfl) Try.results15 (by first | exact ResV.tmp rfl | exact ResV.agg rfl rfl (by assumption) (by first | exact dc_length _ | exact nc_length _ | exact rc_length _ _ _ | exact ec_length _ | exact dl_length _ _ _ _ | rfl) | exact ResV.cell rfl rfl (by assumption)) ?_
    exact fin k2 e (by decide)
  repeat (first|apply cA|apply cB|apply cD|apply cE|apply cF|apply cH|apply cM|refine cY rfl rfl rfl rfl (by first|((first|apply qep|apply qmv|apply qas|apply qlc|apply qla|apply qfa|apply qnc|apply qpk|apply qls|apply qei|apply qni|apply qgt|apply qlk|apply qlv|apply qxt|apply qnt|apply qep)<;>(first|exact rfl|assumption|exact dct (by first|assumption|omega)|exact dcf (by first|assumption|omega)|exact List.not_mem_nil|apply dc_length|apply hc_length|apply pc_length|exact lk1 (by assumption)|exact lk0 (by assumption)|exact nm1 (by omega)|fail))|fail) ?_)
  refine dD rfl (by exact rho_of rfl) rfl ?_
  by_cases g4 : r.out < now
  · have e : setE ms mp now n over = 19 := by rw [e0, hn]; simp only; rw [if_neg g3, if_pos g4]
    repeat (first|apply cA|apply cB|apply cD|apply cE|apply cF|apply cH|apply cM|refine cY rfl rfl rfl rfl (by first|((first|apply qep|apply qmv|apply qas|apply qlc|apply qla|apply qfa|apply qnc|apply qpk|apply qls|apply qei|apply qni|apply qgt|apply qlk|apply qlv|apply qxt|apply qnt|apply qep)<;>(first|exact rfl|assumption|exact dct (by first|assumption|omega)|exact dcf (by first|assumption|omega)|exact List.not_mem_nil|apply dc_length|apply hc_length|apply pc_length|exact lk1 (by assumption)|exact lk0 (by assumption)|exact nm1 (by omega)|fail))|fail) ?_)
    refine dB rfl (by exact rho_of rfl) rfl ?_
    repeat (first|apply cA|apply cB|apply cD|apply cE|apply cF|apply cH|apply cM|refine cY rfl rfl rfl rfl (by first|((first|apply qep|apply qmv|apply qas|apply qlc|apply qla|apply qfa|apply qnc|apply qpk|apply qls|apply qei|apply qni|apply qgt|apply qlk|apply qlv|apply qxt|apply qnt|apply qep)<;>(first|exact rfl|assumption|exact dct (by first|assumption|omega)|exact dcf (by first|assumption|omega)|exact List.not_mem_nil|apply dc_length|apply hc_length|apply pc_length|exact lk1 (by assumption)|exact lk0 (by assumption)|exact nm1 (by omega)|fail))|fail) ?_)
    refine ret1 (Or.inl rfl) Try.results15 (by first | exact ResV.tmp rfl | exact ResV.agg rfl rfl (by assumption) (by first | exact dc_length _ | exact nc_length _ | exact rc_length _ _ _ | exact ec_length _ | exact dl_length _ _ _ _ | rfl) | exact ResV.cell rfl rfl (by assumption)) ?_
    exact fin k2 e (by decide)
  have e1 : setE ms mp now n over = if chgZ y.p (freeE y.p n over) ≠ 0 then chgZ y.p (freeE y.p n over) else chgZ x.p (freeE x.p n over) := by rw [e0, hn]; simp only; rw [if_neg g3, if_neg g4, hx0, hy0]
  have hx := hH2.at' (r.frm, x) (alook_mem hx0)
  have hy := hH2.at' (r.to, y) (alook_mem hy0)
  have hx16 := hH2.few (r.frm, x) (alook_mem hx0)
  have hy16 := hH2.few (r.to, y) (alook_mem hy0)
  simp only at hx hy hx16 hy16
  obtain ⟨-, r1, -⟩ := hH2.rows
  have hm2 := hH2.sh
  have hR6 : Row w2 b6 0 (dc n) := Row.all hB6 rfl
  repeat (first|apply cA|apply cB|apply cD|apply cE|apply cF|apply cH|apply cM|refine cY rfl rfl rfl rfl (by first|((first|apply qep|apply qmv|apply qas|apply qlc|apply qla|apply qfa|apply qnc|apply qpk|apply qls|apply qei|apply qni|apply qgt|apply qlk|apply qlv|apply qxt|apply qnt|apply qep)<;>(first|exact rfl|assumption|exact dct (by first|assumption|omega)|exact dcf (by first|assumption|omega)|exact List.not_mem_nil|apply dc_length|apply hc_length|apply pc_length|exact lk1 (by assumption)|exact lk0 (by assumption)|exact nm1 (by omega)|fail))|fail) ?_)
  refine dD rfl (by exact rho_of rfl) rfl ?_
  repeat (first|apply cA|apply cB|apply cD|apply cE|apply cF|apply cH|apply cM|refine cY rfl rfl rfl rfl (by first|((first|apply qep|apply qmv|apply qas|apply qlc|apply qla|apply qfa|apply qnc|apply qpk|apply qls|apply qei|apply qni|apply qgt|apply qlk|apply qlv|apply qxt|apply qnt|apply qep)<;>(first|exact rfl|assumption|exact dct (by first|assumption|omega)|exact dcf (by first|assumption|omega)|exact List.not_mem_nil|apply dc_length|apply hc_length|apply pc_length|exact lk1 (by assumption)|exact lk0 (by assumption)|exact nm1 (by omega)|fail))|fail) ?_)
  refine CG.free mixed 16 [0, 1, 2, 3, 4, 5, 6, 7, 8, 9, 10, 11, 12, 13, 14, 15] [(10, gH w2.heap.size (nextP (freeQ y.p n over)) (chgZ y.p (freeE y.p n over))), (14, gV w2.heap.size 34 12), (15, gP w2.heap.size 34)] (by kernel_rfl) (by intro p hp y; simp at hp; rcases hp with rfl | rfl | rfl; exact gH_stab y; exact gV_stab y; exact gP_stab y) ?_
  repeat (refine DerX.val rfl rfl rfl rfl (by first|((first|apply qep|apply qmv|apply qas|apply qlc|apply qla|apply qfa|apply qnc|apply qpk|apply qls|apply qei|apply qni|apply qgt|apply qlk|apply qlv|apply qxt|apply qnt|apply qep)<;>(first|exact rfl|assumption|exact dct (by first|assumption|omega)|exact dcf (by first|assumption|omega)|exact List.not_mem_nil|apply dc_length|apply hc_length|apply pc_length|exact lk1 (by assumption)|exact lk0 (by assumption)|exact nm1 (by omega)|fail))|fail) ?_)
  refine DerX.val rfl rfl rfl rfl (vals_field_agg [] (pc y.p y.s) [.int .i64 y.side] (by exact rho_of rfl) rfl rfl rfl (pc_length _ _)) ?_
  repeat (refine DerX.val rfl rfl rfl rfl (by first|((first|apply qep|apply qmv|apply qas|apply qlc|apply qla|apply qfa|apply qnc|apply qpk|apply qls|apply qei|apply qni|apply qgt|apply qlk|apply qlv|apply qxt|apply qnt|apply qep)<;>(first|exact rfl|assumption|exact dct (by first|assumption|omega)|exact dcf (by first|assumption|omega)|exact List.not_mem_nil|apply dc_length|apply hc_length|apply pc_length|exact lk1 (by assumption)|exact lk0 (by assumption)|exact nm1 (by omega)|fail))|fail) ?_)
  refine DerX.callE (vs := [pv y.p (.slice y.a y.p.held.length y.c), dv n, .int .i64 over]) (gH w2.heap.size (nextP (freeQ y.p n over)) (chgZ y.p (freeE y.p n over))) rfl rfl rfl rfl (by repeat' (first | exact True.intro | exact rho_of rfl | refine And.intro ?_ ?_)) (fun W hk _ => (free_spec y.p n over (hy.sl.kp0 hk) (by omega) hy.cap).mono (fun e w' hh => ?_)) (fun v' => ?_)
  · obtain ⟨v, he, hk', h1, h2⟩ := hh
    obtain ⟨x', h3, h4⟩ := gH_of (m := w2.heap.size) (p := nextP (freeQ y.p n over)) (fun hz => by obtain ⟨s, h5, h6⟩ := h1 hz; exact ⟨s, h5, own_mono h6 hk.size⟩) h2
    exact ⟨x', by rw [he, h3]; rfl, h4, hk'⟩
  repeat (refine DerX.val rfl rfl rfl rfl (by first|((first|apply qep|apply qmv|apply qas|apply qlc|apply qla|apply qfa|apply qnc|apply qpk|apply qls|apply qei|apply qni|apply qgt|apply qlk|apply qlv|apply qxt|apply qnt|apply qep)<;>(first|exact rfl|assumption|exact dct (by first|assumption|omega)|exact dcf (by first|assumption|omega)|exact List.not_mem_nil|apply dc_length|apply hc_length|apply pc_length|exact lk1 (by assumption)|exact lk0 (by assumption)|exact nm1 (by omega)|fail))|fail) ?_)
  refine DerX.allocV rfl rfl rfl rfl rfl (Nat.le_refl _) (fun b11 => ?_)
  refine DerX.storeV (l := v'.1) rfl rfl rfl rfl (by kernel_rfl) (by exact rho_of rfl) (by exact rho_of rfl) v'.2 (Nat.le_refl _) (fun w hk hF => ⟨hF _ (.head _) (by kernel_rfl), gH_one (w := w) (hF _ (.tail _ (.head _)) (by kernel_rfl))⟩) ?_ ?_
  · intro p hp hne y w w' cs g1 g2 g3 g4 g5
    simp only [List.mem_cons, List.not_mem_nil, or_false] at hp
    rcases hp with rfl | rfl | rfl
    · exact gH_keep g1 g3 g5
    · exact gV_keep v'.2 g3 g4 g5
    · exact absurd rfl hne
  refine DerX.tl (fun w3 hk3 hF => ?_)
  have hB11 : w2.heap.size ≤ b11 ∧ Blk w3 b11 (.cells v'.1.toArray 34) := hF _ (.head _)
  have hg3 := hF _ (.tail _ (.tail _ (.head _)))
  clear hF
  have hB11 := hB11.2
  have k3 := k2.trans hk3
  have hH3 := hH2.kp0 hk3
  have hB6 := hB6.kp0 hk3
  have hB9 := hB9.kp0 hk3
  have hx3 := hx.kp0 hk3
  clear r1 hm2 hR6 q1 q2 q5 hx hy
  by_cases gy : chgZ y.p (freeE y.p n over) = 0
  rotate_left
  · have e : setE ms mp now n over = chgZ y.p (freeE y.p n over) := by rw [e1, if_pos gy]
    generalize chgZ y.p (freeE y.p n over) = z at gy e
    repeat (first|apply cA|apply cB|apply cD|apply cE|apply cF|apply cH|apply cM|refine cY rfl rfl rfl rfl (by first|((first|apply qep|apply qmv|apply qas|apply qlc|apply qla|apply qfa|apply qnc|apply qpk|apply qls|apply qei|apply qni|apply qgt|apply qlk|apply qlv|apply qxt|apply qnt|apply qep)<;>(first|exact rfl|assumption|exact dct (by first|assumption|omega)|exact dcf (by first|assumption|omega)|exact List.not_mem_nil|apply dc_length|apply hc_length|apply pc_length|exact lk1 (by assumption)|exact lk0 (by assumption)|exact nm1 (by omega)|fail))|fail) ?_)
    refine dB rfl (by exact rho_of rfl) rfl ?_
    repeat (first|apply cA|apply cB|apply cD|apply cE|apply cF|apply cH|apply cM|refine cY rfl rfl rfl rfl (by first|((first|apply qep|apply qmv|apply qas|apply qlc|apply qla|apply qfa|apply qnc|apply qpk|apply qls|apply qei|apply qni|apply qgt|apply qlk|apply qlv|apply qxt|apply qnt|apply qep)<;>(first|exact rfl|assumption|exact dct (by first|assumption|omega)|exact dcf (by first|assumption|omega)|exact List.not_mem_nil|apply dc_length|apply hc_length|apply pc_length|exact lk1 (by assumption)|exact lk0 (by assumption)|exact nm1 (by omega)|fail))|fail) ?_)
    refine ret1 (Or.inl rfl) Try.results15 (by first | exact ResV.tmp rfl | exact ResV.agg rfl rfl (by assumption) (by first | exact dc_length _ | exact nc_length _ | exact rc_length _ _ _ | exact ec_length _ | exact dl_length _ _ _ _ | rfl) | exact ResV.cell rfl rfl (by assumption)) ?_
    exact fin k3 e gy
  obtain ⟨s3, h3, ho3⟩ := hg3.1 gy
  obtain ⟨a3, c3, rfl, hc3, hS3⟩ := Sl.own hc_length ho3 rfl
  have hat3 : (⟨nextP (freeQ y.p n over), a3, c3, y.side⟩ : Sh).At w3 := ⟨hS3, hc3, Ty.own ho3⟩
  rw [h3] at hB11
  rw [gy]
  clear hg3 h3 ho3 hS3
  obtain ⟨-, r1, -⟩ := hH3.rows
  have hm3 := hH3.sh
  have hR6 : Row w3 b6 0 (dc n) := Row.all hB6 rfl
  obtain ⟨q1, q2, -, -, q5⟩ := prc_rows hB9
  repeat (first|apply cA|apply cB|apply cD|apply cE|apply cF|apply cH|apply cM|refine cY rfl rfl rfl rfl (by first|((first|apply qep|apply qmv|apply qas|apply qlc|apply qla|apply qfa|apply qnc|apply qpk|apply qls|apply qei|apply qni|apply qgt|apply qlk|apply qlv|apply qxt|apply qnt|apply qep)<;>(first|exact rfl|assumption|exact dct (by first|assumption|omega)|exact dcf (by first|assumption|omega)|exact List.not_mem_nil|apply dc_length|apply hc_length|apply pc_length|exact lk1 (by assumption)|exact lk0 (by assumption)|exact nm1 (by omega)|fail))|fail) ?_)
  refine dD rfl (by exact rho_of rfl) rfl ?_
  repeat (first|apply cA|apply cB|apply cD|apply cE|apply cF|apply cH|apply cM|refine cY rfl rfl rfl rfl (by first|((first|apply qep|apply qmv|apply qas|apply qlc|apply qla|apply qfa|apply qnc|apply qpk|apply qls|apply qei|apply qni|apply qgt|apply qlk|apply qlv|apply qxt|apply qnt|apply qep)<;>(first|exact rfl|assumption|exact dct (by first|assumption|omega)|exact dcf (by first|assumption|omega)|exact List.not_mem_nil|apply dc_length|apply hc_length|apply pc_length|exact lk1 (by assumption)|exact lk0 (by assumption)|exact nm1 (by omega)|fail))|fail) ?_)
  refine CG.free mixed 16 [0, 1, 2, 3, 4, 5, 6, 7, 8, 9, 10, 11, 12, 13, 14, 15] [(10, gH w3.heap.size (nextP (freeQ x.p n over)) (chgZ x.p (freeE x.p n over))), (14, gV w3.heap.size 34 12), (15, gP w3.heap.size 34)] (by kernel_rfl) (by intro p hp y; simp at hp; rcases hp with rfl | rfl | rfl; exact gH_stab y; exact gV_stab y; exact gP_stab y) ?_
  repeat (refine DerX.val rfl rfl rfl rfl (by first|((first|apply qep|apply qmv|apply qas|apply qlc|apply qla|apply qfa|apply qnc|apply qpk|apply qls|apply qei|apply qni|apply qgt|apply qlk|apply qlv|apply qxt|apply qnt|apply qep)<;>(first|exact rfl|assumption|exact dct (by first|assumption|omega)|exact dcf (by first|assumption|omega)|exact List.not_mem_nil|apply dc_length|apply hc_length|apply pc_length|exact lk1 (by assumption)|exact lk0 (by assumption)|exact nm1 (by omega)|fail))|fail) ?_)
  refine DerX.val rfl rfl rfl rfl (vals_field_agg [] (pc x.p x.s) [.int .i64 x.side] (by exact rho_of rfl) rfl rfl rfl (pc_length _ _)) ?_
  repeat (refine DerX.val rfl rfl rfl rfl (by first|((first|apply qep|apply qmv|apply qas|apply qlc|apply qla|apply qfa|apply qnc|apply qpk|apply qls|apply qei|apply qni|apply qgt|apply qlk|apply qlv|apply qxt|apply qnt|apply qep)<;>(first|exact rfl|assumption|exact dct (by first|assumption|omega)|exact dcf (by first|assumption|omega)|exact List.not_mem_nil|apply dc_length|apply hc_length|apply pc_length|exact lk1 (by assumption)|exact lk0 (by assumption)|exact nm1 (by omega)|fail))|fail) ?_)
  refine DerX.callE (vs := [pv x.p (.slice x.a x.p.held.length x.c), dv n, .int .i64 over]) (gH w3.heap.size (nextP (freeQ x.p n over)) (chgZ x.p (freeE x.p n over))) rfl rfl rfl rfl (by repeat' (first | exact True.intro | exact rho_of rfl | refine And.intro ?_ ?_)) (fun W hk _ => (free_spec x.p n over (hx3.sl.kp0 hk) (by omega) hx3.cap).mono (fun e w' hh => ?_)) (fun v' => ?_)
  · obtain ⟨v, he, hk', h1, h2⟩ := hh
    obtain ⟨x', h3, h4⟩ := gH_of (m := w3.heap.size) (p := nextP (freeQ x.p n over)) (fun hz => by obtain ⟨s, h5, h6⟩ := h1 hz; exact ⟨s, h5, own_mono h6 hk.size⟩) h2
    exact ⟨x', by rw [he, h3]; rfl, h4, hk'⟩
  repeat (refine DerX.val rfl rfl rfl rfl (by first|((first|apply qep|apply qmv|apply qas|apply qlc|apply qla|apply qfa|apply qnc|apply qpk|apply qls|apply qei|apply qni|apply qgt|apply qlk|apply qlv|apply qxt|apply qnt|apply qep)<;>(first|exact rfl|assumption|exact dct (by first|assumption|omega)|exact dcf (by first|assumption|omega)|exact List.not_mem_nil|apply dc_length|apply hc_length|apply pc_length|exact lk1 (by assumption)|exact lk0 (by assumption)|exact nm1 (by omega)|fail))|fail) ?_)
  refine DerX.allocV rfl rfl rfl rfl rfl (Nat.le_refl _) (fun b13 => ?_)
  refine DerX.storeV (l := v'.1) rfl rfl rfl rfl (by kernel_rfl) (by exact rho_of rfl) (by exact rho_of rfl) v'.2 (Nat.le_refl _) (fun w hk hF => ⟨hF _ (.head _) (by kernel_rfl), gH_one (w := w) (hF _ (.tail _ (.head _)) (by kernel_rfl))⟩) ?_ ?_
  · intro p hp hne y w w' cs g1 g2 g3 g4 g5
    simp only [List.mem_cons, List.not_mem_nil, or_false] at hp
    rcases hp with rfl | rfl | rfl
    · exact gH_keep g1 g3 g5
    · exact gV_keep v'.2 g3 g4 g5
    · exact absurd rfl hne
  refine DerX.tl (fun w4 hk4 hF => ?_)
  have hB13 : w3.heap.size ≤ b13 ∧ Blk w4 b13 (.cells v'.1.toArray 34) := hF _ (.head _)
  have hg4 := hF _ (.tail _ (.tail _ (.head _)))
  clear hF
  have hB13 := hB13.2
  have k4 := k3.trans hk4
  have hH4 := hH3.kp0 hk4
  have hB6 := hB6.kp0 hk4
  have hB9 := hB9.kp0 hk4
  have hB11 := hB11.kp0 hk4
  have hat4 := hat3.kp0 hk4
  clear r1 hm3 hR6 q1 q2 q5 hx3
  by_cases gx : chgZ x.p (freeE x.p n over) = 0
  rotate_left
  · have e : setE ms mp now n over = chgZ x.p (freeE x.p n over) := by rw [e1, if_neg (fun h => h gy)]
    generalize chgZ x.p (freeE x.p n over) = z at gx e
    repeat (first|apply cA|apply cB|apply cD|apply cE|apply cF|apply cH|apply cM|refine cY rfl rfl rfl rfl (by first|((first|apply qep|apply qmv|apply qas|apply qlc|apply qla|apply qfa|apply qnc|apply qpk|apply qls|apply qei|apply qni|apply qgt|apply qlk|apply qlv|apply qxt|apply qnt|apply qep)<;>(first|exact rfl|assumption|exact dct (by first|assumption|omega)|exact dcf (by first|assumption|omega)|exact List.not_mem_nil|apply dc_length|apply hc_length|apply pc_length|exact lk1 (by assumption)|exact lk0 (by assumption)|exact nm1 (by omega)|fail))|fail) ?_)
    refine dB rfl (by exact rho_of rfl) rfl ?_
    repeat (first|apply cA|apply cB|apply cD|apply cE|apply cF|apply cH|apply cM|refine cY rfl rfl rfl rfl (by first|((first|apply qep|apply qmv|apply qas|apply qlc|apply qla|apply qfa|apply qnc|apply qpk|apply qls|apply qei|apply qni|apply qgt|apply qlk|apply qlv|apply qxt|apply qnt|apply qep)<;>(first|exact rfl|assumption|exact dct (by first|assumption|omega)|exact dcf (by first|assumption|omega)|exact List.not_mem_nil|apply dc_length|apply hc_length|apply pc_length|exact lk1 (by assumption)|exact lk0 (by assumption)|exact nm1 (by omega)|fail))|fail) ?_)
    refine ret1 (Or.inl rfl) Try.results15 (by first | exact ResV.tmp rfl | exact ResV.agg rfl rfl (by assumption) (by first | exact dc_length _ | exact nc_length _ | exact rc_length _ _ _ | exact ec_length _ | exact dl_length _ _ _ _ | rfl) | exact ResV.cell rfl rfl (by assumption)) ?_
    exact fin k4 e gx
  have e : setE ms mp now n over = 0 := by rw [e1, if_neg (fun h => h gy), gx]
  obtain ⟨s4, h3, ho4⟩ := hg4.1 gx
  obtain ⟨a4, c4, rfl, hc4, hS4⟩ := Sl.own hc_length ho4 rfl
  have hat4' : (⟨nextP (freeQ x.p n over), a4, c4, x.side⟩ : Sh).At w4 := ⟨hS4, hc4, Ty.own ho4⟩
  rw [h3] at hB13
  rw [gx]
  clear hg4 h3 ho4 hS4 fin
  have lx : (nextP (freeQ x.p n over)).held.length ≤ 16 := Nat.le_trans (freeQ_few _ _ _) hx16
  have ly : (nextP (freeQ y.p n over)).held.length ≤ 16 := Nat.le_trans (freeQ_few _ _ _) hy16
  obtain ⟨q1, q2, -, -, q5⟩ := prc_rows hB9
  have hR11 : Row w4 b11 0 (pc (nextP (freeQ y.p n over)) (.slice a3 (nextP (freeQ y.p n over)).held.length c3)) := Row.all hB11 rfl
  repeat (first|apply cA|apply cB|apply cD|apply cE|apply cF|apply cH|apply cM|refine cY rfl rfl rfl rfl (by first|((first|apply qep|apply qmv|apply qas|apply qlc|apply qla|apply qfa|apply qnc|apply qpk|apply qls|apply qei|apply qni|apply qgt|apply qlk|apply qlv|apply qxt|apply qnt|apply qep)<;>(first|exact rfl|assumption|exact dct (by first|assumption|omega)|exact dcf (by first|assumption|omega)|exact List.not_mem_nil|apply dc_length|apply hc_length|apply pc_length|exact lk1 (by assumption)|exact lk0 (by assumption)|exact nm1 (by omega)|fail))|fail) ?_)
  refine dD rfl (by exact rho_of rfl) rfl ?_
  repeat (first|apply cA|apply cB|apply cD|apply cE|apply cF|apply cH|apply cM|refine cY rfl rfl rfl rfl (by first|((first|apply qep|apply qmv|apply qas|apply qlc|apply qla|apply qfa|apply qnc|apply qpk|apply qls|apply qei|apply qni|apply qgt|apply qlk|apply qlv|apply qxt|apply qnt|apply qep)<;>(first|exact rfl|assumption|exact dct (by first|assumption|omega)|exact dcf (by first|assumption|omega)|exact List.not_mem_nil|apply dc_length|apply hc_length|apply pc_length|exact lk1 (by assumption)|exact lk0 (by assumption)|exact nm1 (by omega)|fail))|fail) ?_)
  refine SG.call rfl rfl rfl (vs := [.pointer (some ⟨bh, 0, none⟩), dv r.to, pv (nextP (freeQ y.p n over)) (.slice a3 (nextP (freeQ y.p n over)).held.length c3)]) (by repeat' (first | exact True.intro | exact rho_of rfl | refine And.intro ?_ ?_)) ((put_spec hH4 r.to (nextP (freeQ y.p n over)) a3 c3 hy0 hat4 ly).mono (fun e' w5 hh => ?_))
  obtain ⟨he, hk5, hH5⟩ := hh
  refine ⟨_, he, ?_⟩
  clear he hR11 q1 q2 q5
  have nbs : ∀ {z : Nat} {cs : Array Value} {T : TypeId}, Blk w4 z (.cells cs T) → z ≠ bs := fun h => hH4.sh.nb h.raw
  have hB6 := hB6.kp hk5 (nm1 (nbs hB6))
  have hB9 := hB9.kp hk5 (nm1 (nbs hB9))
  have hB13 := hB13.kp hk5 (nm1 (nbs hB13))
  have hat5 := hat4'.map hH4.sh hk5
  obtain ⟨q1, q2, -, -, q5⟩ := prc_rows hB9
  have hR13 : Row w5 b13 0 (pc (nextP (freeQ x.p n over)) (.slice a4 (nextP (freeQ x.p n over)).held.length c4)) := Row.all hB13 rfl
  have hx0' : alook (aput ms r.to ⟨nextP (freeQ y.p n over), a3, c3, y.side⟩) r.frm = some x := by rw [alook_put, if_neg (fun h => hne h.symm), hx0]
  repeat (first|apply cA|apply cB|apply cD|apply cE|apply cF|apply cH|apply cM|refine cY rfl rfl rfl rfl (by first|((first|apply qep|apply qmv|apply qas|apply qlc|apply qla|apply qfa|apply qnc|apply qpk|apply qls|apply qei|apply qni|apply qgt|apply qlk|apply qlv|apply qxt|apply qnt|apply qep)<;>(first|exact rfl|assumption|exact dct (by first|assumption|omega)|exact dcf (by first|assumption|omega)|exact List.not_mem_nil|apply dc_length|apply hc_length|apply pc_length|exact lk1 (by assumption)|exact lk0 (by assumption)|exact nm1 (by omega)|fail))|fail) ?_)
  refine SG.call rfl rfl rfl (vs := [.pointer (some ⟨bh, 0, none⟩), dv r.frm, pv (nextP (freeQ x.p n over)) (.slice a4 (nextP (freeQ x.p n over)).held.length c4)]) (by repeat' (first | exact True.intro | exact rho_of rfl | refine And.intro ?_ ?_)) ((put_spec hH5 r.frm (nextP (freeQ x.p n over)) a4 c4 hx0' hat5 lx).mono (fun e' w6 hh => ?_))
  obtain ⟨he, hk6, hH6⟩ := hh
  refine ⟨_, he, ?_⟩
  clear he hR13 q1 q2 q5
  have nbs : ∀ {z : Nat} {cs : Array Value} {T : TypeId}, Blk w5 z (.cells cs T) → z ≠ bs := fun h => hH5.sh.nb h.raw
  have hB6 := hB6.kp hk6 (nm1 (nbs hB6))
  have hR6 : Row w6 b6 0 (dc n) := Row.all hB6 rfl
  obtain ⟨-, -, r2⟩ := hH6.rows
  repeat (first|apply cA|apply cB|apply cD|apply cE|apply cF|apply cH|apply cM|refine cY rfl rfl rfl rfl (by first|((first|apply qep|apply qmv|apply qas|apply qlc|apply qla|apply qfa|apply qnc|apply qpk|apply qls|apply qei|apply qni|apply qgt|apply qlk|apply qlv|apply qxt|apply qnt|apply qep)<;>(first|exact rfl|assumption|exact dct (by first|assumption|omega)|exact dcf (by first|assumption|omega)|exact List.not_mem_nil|apply dc_length|apply hc_length|apply pc_length|exact lk1 (by assumption)|exact lk0 (by assumption)|exact nm1 (by omega)|fail))|fail) ?_)
  refine CG.tail mixed 5 [0, 1, 2, 3, 4] (by kernel_rfl) ?_
  repeat (refine dA rfl rfl rfl (by first|((first|apply qep|apply qmv|apply qas|apply qlc|apply qla|apply qfa|apply qnc|apply qpk|apply qls|apply qei|apply qni|apply qgt|apply qlk|apply qlv|apply qxt|apply qnt|apply qep)<;>(first|exact rfl|assumption|exact dct (by first|assumption|omega)|exact dcf (by first|assumption|omega)|exact List.not_mem_nil|apply dc_length|apply hc_length|apply pc_length|exact lk1 (by assumption)|exact lk0 (by assumption)|exact nm1 (by omega)|fail))|fail) ?_)
  refine Der.tl (fun w7 hk7 _ _ => ?_)
  have hH7 := hH6.kp0 hk7
  refine SG.delete (enc := dv (n := 8)) (V := prv) (kx := n) rfl rfl (by exact rho_of rfl) (by exact rho_of rfl) hH7.pr (fun w8 hk8 hm8 => ?_)
  repeat (first|apply cA|apply cB|apply cD|apply cE|apply cF|apply cH|apply cM|refine cY rfl rfl rfl rfl (by first|((first|apply qep|apply qmv|apply qas|apply qlc|apply qla|apply qfa|apply qnc|apply qpk|apply qls|apply qei|apply qni|apply qgt|apply qlk|apply qlv|apply qxt|apply qnt|apply qep)<;>(first|exact rfl|assumption|exact dct (by first|assumption|omega)|exact dcf (by first|assumption|omega)|exact List.not_mem_nil|apply dc_length|apply hc_length|apply pc_length|exact lk1 (by assumption)|exact lk0 (by assumption)|exact nm1 (by omega)|fail))|fail) ?_)
  refine ret1 (Or.inl rfl) Try.results15 (by first | exact ResV.tmp rfl | exact ResV.agg rfl rfl (by assumption) (by first | exact dc_length _ | exact nc_length _ | exact rc_length _ _ _ | exact ec_length _ | exact dl_length _ _ _ _ | rfl) | exact ResV.cell rfl rfl (by assumption)) ?_
  have kk : ∀ {u u' : World} {z : Nat}, Kp [z] u u' → z = bs ∨ z = bp → Kp [bs, bp] u u' := fun h hz => h.mono (fun v hv => by rw [List.mem_singleton] at hv; subst hv; rcases hz with rfl | rfl <;> simp)
  exact ⟨by rw [e], Or.inr ⟨e, (((k4.any.trans (kk hk5 (Or.inl rfl))).trans (kk hk6 (Or.inl rfl))).trans hk7.any).trans (kk hk8 (Or.inr rfl)), r, x, y, a3, c3, a4, c4, hn, hx0, hy0, hH7.setP hk8 hm8⟩⟩
end Go.Proofs.Ytajllbdeoopimaa
