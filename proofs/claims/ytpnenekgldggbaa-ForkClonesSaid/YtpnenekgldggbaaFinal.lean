/-
  The fork: what is final; ForkFinal's walk.
-/
import Derived.Test.YtpnenekgldggbaaBegin
import Derived.Test.YtpnenekgldggbaaComs
namespace Go.Proofs.Ytpnenekgldggbaa
set_option linter.unusedVariables false

theorem Tr.WF.line_anc {t : Tr} (wf : t.WF) : ∀ (i : Nat) {a : Dg}, t.has a = true → i ≤ t.ht a → t.line (t.anc i a) = (t.line a).take (t.ht a + 1 - i)
  | 0, a, ha, _ => by
    rw [List.take_of_length_le (by rw [Tr.line_length ha]; omega)]
    rfl
  | i + 1, a, ha, hi => by
    have hne : a ≠ t.first := fun e => by rw [e, wf.h0] at hi; omega
    obtain ⟨h1, h2⟩ := wf.up a ha hne
    rw [Tr.anc, wf.line_anc i h1 (by omega), wf.line_up ha hne, List.take_append_of_le_length (by rw [Tr.line_length h1]; omega)]
    congr 1
    omega
/-- Up to where they part two lines are the same. -/
theorem part_line {t : Tr} (wf : t.WF) {a b : Dg} (ha : t.has a = true) (hb : t.has b = true) {n : Nat} (hn : n ≤ t.ht (t.part a b) + 1) : (t.line a).take n = (t.line b).take n ∧ t.ht (t.part a b) ≤ t.ht a ∧ t.ht (t.part a b) ≤ t.ht b := by
  obtain ⟨i, j, h1, h2, h3, h4⟩ := partF_anc wf (t.ht a + t.ht b + 1) ha hb (by omega)
  have e3 : t.part a b = t.anc i a := h3
  have e4 : t.part a b = t.anc j b := h4
  have k1 := wf.line_anc i ha h1
  have k2 := wf.line_anc j hb h2
  have m1 := (wf.anc i ha h1).2
  have m2 := (wf.anc j hb h2).2
  rw [← e3] at k1 m1
  rw [← e4] at k2 m2
  have g1 : (t.line a).take n = ((t.line a).take (t.ht a + 1 - i)).take n := by rw [List.take_take, Nat.min_eq_left (by omega)]
  have g2 : (t.line b).take n = ((t.line b).take (t.ht b + 1 - j)).take n := by rw [List.take_take, Nat.min_eq_left (by omega)]
  refine ⟨?_, by omega, by omega⟩
  rw [g1, g2, ← k1, ← k2]

theorem put_climb {t : Tr} (wf : t.WF) {x p : Dg} (hx : t.has x = false) : ∀ (k : Nat) {z : Dg}, t.has z = true → k ≤ t.ht z → (t.put x p).climb k z = t.climb k z
  | 0, z, hz, _ => rfl
  | k + 1, z, hz, hk => by
    have hnx : x ≠ z := fun e => by rw [e, hz] at hx; cases hx
    have hne : z ≠ t.first := fun e => by rw [e, wf.h0] at hk; omega
    obtain ⟨h1, h2⟩ := wf.up z hz hne
    rw [Tr.climb, Tr.climb, put_par_old t hnx, put_climb wf hx k h1 (by omega)]
/-- Lines stay. -/
theorem put_line {t : Tr} (wf : t.WF) {x p z : Dg} (hx : t.has x = false) (hz : t.has z = true) : (t.put x p).line z = t.line z := by
  have hnx : x ≠ z := fun e => by rw [e, hz] at hx; cases hx
  have hz' : (t.put x p).has z = true := by rw [put_has, hz]; simp
  simp only [Tr.line, hz, hz', if_true]
  rw [put_ht_old t hnx, put_climb wf hx _ hz (Nat.le_refl _)]

def Tr.finN (t : Tr) : Nat := max 1 (t.ht t.tip + 1 - t.depth)
/-- What is final. -/
def Tr.fin (t : Tr) : List Dg := (t.line t.tip).take t.finN
theorem Tr.WF.fin_length {t : Tr} (wf : t.WF) : t.fin.length = t.finN := by
  unfold Tr.fin Tr.finN
  rw [List.length_take, Tr.line_length wf.tip]
  omega
theorem add_addE {t : Tr} {x p : Dg} (he : t.addE x p = 0) : t.has x = false ∧ t.has p = true ∧ t.nodes.length < 4096 ∧ t.ht t.tip ≤ t.depth + t.ht (t.part p t.tip) := by
  have hx : t.has x = false := by
    cases h : t.has x with
    | false => rfl
    | true => simp [Tr.addE, h] at he
  have hp : t.has p = true := by
    cases h : t.has p with
    | true => rfl
    | false => simp [Tr.addE, hx, h] at he
  have hl : t.nodes.length < 4096 := by
    by_cases h : 4096 ≤ t.nodes.length
    · simp [Tr.addE, hx, hp, h] at he
    · omega
  refine ⟨hx, hp, hl, ?_⟩
  by_cases h : t.ht t.tip ≤ t.depth + t.ht (t.part p t.tip)
  · exact h
  · have h' : ¬ 4096 ≤ t.nodes.length := by omega
    have h2 : t.depth + t.ht (t.part p t.tip) < t.ht t.tip := by omega
    simp [Tr.addE, hx, hp, h', Tr.deep, h2] at he
/-- What is final stays. -/
theorem fin_stays {t : Tr} (wf : t.WF) (x p : Dg) : t.finN ≤ (t.add x p).finN ∧ (t.add x p).fin.take t.finN = t.fin := by
  unfold Tr.add
  by_cases he : t.addE x p = 0
  · rw [if_pos he]
    obtain ⟨hx, hp, hl, hd⟩ := add_addE he
    have wf' := put_wf wf hx hp hl
    have hnx : ∀ {z : Dg}, t.has z = true → x ≠ z := fun hz e => by rw [e, hz] at hx; cases hx
    by_cases hup : t.ht t.tip < t.ht p + 1
    · have ht : (t.put x p).tip = x := by rw [put_tip, if_pos hup]
      have hpt := wf.top p hp
      have hn : (t.put x p).finN = max 1 (t.ht p + 1 + 1 - t.depth) := by unfold Tr.finN; rw [ht, put_ht_new]; rfl
      obtain ⟨h1, h2, h3⟩ := part_line wf hp wf.tip (n := t.finN) (by unfold Tr.finN; omega)
      refine ⟨by rw [hn]; unfold Tr.finN; omega, ?_⟩
      have hll : (t.put x p).line x = t.line p ++ [x] := by
        have hx' : (t.put x p).has x = true := by rw [put_has]; simp
        have := wf'.line_up hx' (fun e => hnx wf.first e)
        rw [put_par_new, put_line wf hx hp] at this
        exact this
      unfold Tr.fin
      rw [ht, hll, List.take_take, Nat.min_eq_left (by rw [hn]; unfold Tr.finN; omega), List.take_append_of_le_length (by rw [Tr.line_length hp]; unfold Tr.finN; omega)]
      exact h1
    · have ht : (t.put x p).tip = t.tip := by rw [put_tip, if_neg hup]
      have hn : (t.put x p).finN = t.finN := by unfold Tr.finN; rw [ht, put_ht_old t (hnx wf.tip)]; rfl
      refine ⟨Nat.le_of_eq hn.symm, ?_⟩
      unfold Tr.fin
      rw [hn, ht, put_line wf hx wf.tip, List.take_take, Nat.min_self]
  · rw [if_neg he]
    refine ⟨Nat.le_refl _, ?_⟩
    unfold Tr.fin
    rw [List.take_take, Nat.min_self]

attribute [local irreducible] CG NG SG Vals Der Row Blk MapIs
set_option maxHeartbeats 8000000 in
theorem final_spec {w : World} {bt bm : Nat} {t : Tr} (hT : TreeAt w bt bm t) (wf : t.WF) (hdep : t.depth ≤ 1000) : RetL 27 #[.pointer (some ⟨bt, 0, none⟩)] w t.fin := by
  refine enter1 Try.func27 rfl Try.ntmps27 rfl ?_
  repeat (first|apply CG.seq|apply CG.region|apply SG.nil|apply NG.next|apply CG.skip|apply CG.block|apply CG.ret|apply CG.exit|apply CG.scope|apply NG.ret_then|apply NG.ret_block|apply NG.ret_scope|apply NG.exit_then|refine NG.exit_block rfl ?_|refine NG.exit_other rfl ?_|apply NG.exit_scope|apply NG.normal_block|apply NG.normal_scope|refine SG.val rfl rfl rfl rfl (by first|((first|apply qmv|apply qas|apply qlc|apply qla|apply qfa|apply qnc|apply qic|apply qix|apply qpk|apply qls|apply qei|apply qni|apply qed|apply qnd|apply qad|apply qln|apply qle|apply qgt|apply qge|apply qlk|apply qlv|apply qxt|apply qsb|apply qnt|apply qep|apply qnp|apply qeb|apply qnb|apply qcv|apply qlm|apply qfr|apply qto|apply qmx|apply qen|apply qx0|apply qx1)<;>(first|exact rfl|exact Ar.mk (by omega)|assumption|exact dct (by assumption)|exact dcf (by assumption)|exact dct (by omega)|exact dcf (by omega)|exact List.not_mem_nil|exact dc_length _|exact nc_length _|exact rc_length _ _ _|exact nm1 (by omega)|exact nm2 (by omega) (by omega)|exact dct rfl|exact dct (by decide)|exact dcf (by decide)|exact (Int.toNat_of_nonneg (by omega)).symm|exact dcu|exact lk1 (by assumption)|exact lk0 (by assumption)))|fail) ?_)
  refine CG.cond_f rfl (by exact rho_of rfl) rfl ?_
  have hr8 := hT.r8
  repeat (first|apply CG.seq|apply CG.region|apply SG.nil|apply NG.next|apply CG.skip|apply CG.block|apply CG.ret|apply CG.exit|apply CG.scope|apply NG.ret_then|apply NG.ret_block|apply NG.ret_scope|apply NG.exit_then|refine NG.exit_block rfl ?_|refine NG.exit_other rfl ?_|apply NG.exit_scope|apply NG.normal_block|apply NG.normal_scope|refine SG.val rfl rfl rfl rfl (by first|((first|apply qmv|apply qas|apply qlc|apply qla|apply qfa|apply qnc|apply qic|apply qix|apply qpk|apply qls|apply qei|apply qni|apply qed|apply qnd|apply qad|apply qln|apply qle|apply qgt|apply qge|apply qlk|apply qlv|apply qxt|apply qsb|apply qnt|apply qep|apply qnp|apply qeb|apply qnb|apply qcv|apply qlm|apply qfr|apply qto|apply qmx|apply qen|apply qx0|apply qx1)<;>(first|exact rfl|exact Ar.mk (by omega)|assumption|exact dct (by assumption)|exact dcf (by assumption)|exact dct (by omega)|exact dcf (by omega)|exact List.not_mem_nil|exact dc_length _|exact nc_length _|exact rc_length _ _ _|exact nm1 (by omega)|exact nm2 (by omega) (by omega)|exact dct rfl|exact dct (by decide)|exact dcf (by decide)|exact (Int.toNat_of_nonneg (by omega)).symm|exact dcu|exact lk1 (by assumption)|exact lk0 (by assumption)))|fail) ?_)
  refine SG.callS rfl rfl rfl (by repeat' (first | exact True.intro | exact rho_of rfl | refine And.intro ?_ ?_)) (line_spec hT wf t.tip) (fun a c w1 hS hk => ?_)
  have hc := hS.len
  have hT := hT.kp0 hk
  have hr16 := hT.r16
  have hlen := Tr.line_length wf.tip
  have hb := wf.bound wf.tip
  have hfl := wf.fin_length
  have hfn : t.finN = max 1 (t.ht t.tip + 1 - t.depth) := rfl
  by_cases hg : (1 : Int) < ((t.line t.tip).length : Int) - (t.depth : Int)
  · repeat (first|apply CG.seq|apply CG.region|apply SG.nil|apply NG.next|apply CG.skip|apply CG.block|apply CG.ret|apply CG.exit|apply CG.scope|apply NG.ret_then|apply NG.ret_block|apply NG.ret_scope|apply NG.exit_then|refine NG.exit_block rfl ?_|refine NG.exit_other rfl ?_|apply NG.exit_scope|apply NG.normal_block|apply NG.normal_scope|refine SG.val rfl rfl rfl rfl (by first|((first|apply qmv|apply qas|apply qlc|apply qla|apply qfa|apply qnc|apply qic|apply qix|apply qpk|apply qls|apply qei|apply qni|apply qed|apply qnd|apply qad|apply qln|apply qle|apply qgt|apply qge|apply qlk|apply qlv|apply qxt|apply qsb|apply qnt|apply qep|apply qnp|apply qeb|apply qnb|apply qcv|apply qlm|apply qfr|apply qto|apply qmx|apply qen|apply qx0|apply qx1)<;>(first|exact rfl|exact Ar.mk (by omega)|assumption|exact dct (by assumption)|exact dcf (by assumption)|exact dct (by omega)|exact dcf (by omega)|exact List.not_mem_nil|exact dc_length _|exact nc_length _|exact rc_length _ _ _|exact nm1 (by omega)|exact nm2 (by omega) (by omega)|exact dct rfl|exact dct (by decide)|exact dcf (by decide)|exact (Int.toNat_of_nonneg (by omega)).symm|exact dcu|exact lk1 (by assumption)|exact lk0 (by assumption)))|fail) ?_)
    rw [if_pos hg]
    repeat (first|apply CG.seq|apply CG.region|apply SG.nil|apply NG.next|apply CG.skip|apply CG.block|apply CG.ret|apply CG.exit|apply CG.scope|apply NG.ret_then|apply NG.ret_block|apply NG.ret_scope|apply NG.exit_then|refine NG.exit_block rfl ?_|refine NG.exit_other rfl ?_|apply NG.exit_scope|apply NG.normal_block|apply NG.normal_scope|refine SG.val rfl rfl rfl rfl (by first|((first|apply qmv|apply qas|apply qlc|apply qla|apply qfa|apply qnc|apply qic|apply qix|apply qpk|apply qls|apply qei|apply qni|apply qed|apply qnd|apply qad|apply qln|apply qle|apply qgt|apply qge|apply qlk|apply qlv|apply qxt|apply qsb|apply qnt|apply qep|apply qnp|apply qeb|apply qnb|apply qcv|apply qlm|apply qfr|apply qto|apply qmx|apply qen|apply qx0|apply qx1)<;>(first|exact rfl|exact Ar.mk (by omega)|assumption|exact dct (by assumption)|exact dcf (by assumption)|exact dct (by omega)|exact dcf (by omega)|exact List.not_mem_nil|exact dc_length _|exact nc_length _|exact rc_length _ _ _|exact nm1 (by omega)|exact nm2 (by omega) (by omega)|exact dct rfl|exact dct (by decide)|exact dcf (by decide)|exact (Int.toNat_of_nonneg (by omega)).symm|exact dcu|exact lk1 (by assumption)|exact lk0 (by assumption)))|fail) ?_)
    refine ret1 (Or.inl rfl) Try.results27 (by first | exact ResV.tmp rfl | exact ResV.agg rfl rfl (by assumption) (by first | exact dc_length _ | exact nc_length _ | exact rc_length _ _ _ | rfl) | exact ResV.cell rfl rfl (by assumption)) ?_
    refine ⟨a, c, ?_, hS.take _, hk⟩
    rw [show (((t.line t.tip).length : Int) - (t.depth : Int)).toNat = t.fin.length by omega]
  · repeat (first|apply CG.seq|apply CG.region|apply SG.nil|apply NG.next|apply CG.skip|apply CG.block|apply CG.ret|apply CG.exit|apply CG.scope|apply NG.ret_then|apply NG.ret_block|apply NG.ret_scope|apply NG.exit_then|refine NG.exit_block rfl ?_|refine NG.exit_other rfl ?_|apply NG.exit_scope|apply NG.normal_block|apply NG.normal_scope|refine SG.val rfl rfl rfl rfl (by first|((first|apply qmv|apply qas|apply qlc|apply qla|apply qfa|apply qnc|apply qic|apply qix|apply qpk|apply qls|apply qei|apply qni|apply qed|apply qnd|apply qad|apply qln|apply qle|apply qgt|apply qge|apply qlk|apply qlv|apply qxt|apply qsb|apply qnt|apply qep|apply qnp|apply qeb|apply qnb|apply qcv|apply qlm|apply qfr|apply qto|apply qmx|apply qen|apply qx0|apply qx1)<;>(first|exact rfl|exact Ar.mk (by omega)|assumption|exact dct (by assumption)|exact dcf (by assumption)|exact dct (by omega)|exact dcf (by omega)|exact List.not_mem_nil|exact dc_length _|exact nc_length _|exact rc_length _ _ _|exact nm1 (by omega)|exact nm2 (by omega) (by omega)|exact dct rfl|exact dct (by decide)|exact dcf (by decide)|exact (Int.toNat_of_nonneg (by omega)).symm|exact dcu|exact lk1 (by assumption)|exact lk0 (by assumption)))|fail) ?_)
    rw [if_neg hg]
    repeat (first|apply CG.seq|apply CG.region|apply SG.nil|apply NG.next|apply CG.skip|apply CG.block|apply CG.ret|apply CG.exit|apply CG.scope|apply NG.ret_then|apply NG.ret_block|apply NG.ret_scope|apply NG.exit_then|refine NG.exit_block rfl ?_|refine NG.exit_other rfl ?_|apply NG.exit_scope|apply NG.normal_block|apply NG.normal_scope|refine SG.val rfl rfl rfl rfl (by first|((first|apply qmv|apply qas|apply qlc|apply qla|apply qfa|apply qnc|apply qic|apply qix|apply qpk|apply qls|apply qei|apply qni|apply qed|apply qnd|apply qad|apply qln|apply qle|apply qgt|apply qge|apply qlk|apply qlv|apply qxt|apply qsb|apply qnt|apply qep|apply qnp|apply qeb|apply qnb|apply qcv|apply qlm|apply qfr|apply qto|apply qmx|apply qen|apply qx0|apply qx1)<;>(first|exact rfl|exact Ar.mk (by omega)|assumption|exact dct (by assumption)|exact dcf (by assumption)|exact dct (by omega)|exact dcf (by omega)|exact List.not_mem_nil|exact dc_length _|exact nc_length _|exact rc_length _ _ _|exact nm1 (by omega)|exact nm2 (by omega) (by omega)|exact dct rfl|exact dct (by decide)|exact dcf (by decide)|exact (Int.toNat_of_nonneg (by omega)).symm|exact dcu|exact lk1 (by assumption)|exact lk0 (by assumption)))|fail) ?_)
    refine ret1 (Or.inl rfl) Try.results27 (by first | exact ResV.tmp rfl | exact ResV.agg rfl rfl (by assumption) (by first | exact dc_length _ | exact nc_length _ | exact rc_length _ _ _ | rfl) | exact ResV.cell rfl rfl (by assumption)) ?_
    refine ⟨a, c, ?_, hS.take _, hk⟩
    rw [show (1 : Int).toNat = t.fin.length by omega]

set_option maxHeartbeats 16000000 in
theorem lawfinal_spec (w : World) (depth : Int) (a : Option Addr) (n c : Nat) (l : Nat → UInt8 × UInt8) (hl : Coms w a n l) : Ret Try.prog 6 #[.int .i64 depth, .slice a n c] w (.bool true) := by
  refine enter2 Try.func6 rfl Try.ntmps6 rfl ?_
  repeat (first|apply CG.seq|apply CG.region|apply SG.nil|apply NG.next|apply CG.skip|apply CG.block|apply CG.ret|apply CG.exit|apply CG.scope|apply NG.ret_then|apply NG.ret_block|apply NG.ret_scope|apply NG.exit_then|refine NG.exit_block rfl ?_|refine NG.exit_other rfl ?_|apply NG.exit_scope|apply NG.normal_block|apply NG.normal_scope|refine SG.val rfl rfl rfl rfl (by first|((first|apply qmv|apply qas|apply qlc|apply qla|apply qfa|apply qnc|apply qic|apply qix|apply qpk|apply qls|apply qei|apply qni|apply qed|apply qnd|apply qad|apply qln|apply qle|apply qgt|apply qge|apply qlk|apply qlv|apply qxt|apply qsb|apply qnt|apply qep|apply qnp|apply qeb|apply qnb|apply qcv|apply qlm|apply qfr|apply qto|apply qmx|apply qen|apply qx0|apply qx1)<;>(first|exact rfl|exact Ar.mk (by omega)|assumption|exact dct (by assumption)|exact dcf (by assumption)|exact dct (by omega)|exact dcf (by omega)|exact List.not_mem_nil|exact dc_length _|exact nc_length _|exact rc_length _ _ _|exact nm1 (by omega)|exact nm2 (by omega) (by omega)|exact dct rfl|exact dct (by decide)|exact dcf (by decide)|exact (Int.toNat_of_nonneg (by omega)).symm|exact dcu|exact lk1 (by assumption)|exact lk0 (by assumption)))|fail) ?_)
  refine SG.call rfl rfl rfl (vs := [.int .i64 depth]) ⟨rfl, True.intro⟩ ((begin_spec w depth).mono (fun e w1 h => ?_))
  obtain ⟨bt, bm, D, ar, cr, hD, he, hT, hbt, hbm, hne, hfr, hcr, hS, hk⟩ := h
  refine ⟨_, he, ?_⟩
  repeat (first|apply CG.seq|apply CG.region|apply SG.nil|apply NG.next|apply CG.skip|apply CG.block|apply CG.ret|apply CG.exit|apply CG.scope|apply NG.ret_then|apply NG.ret_block|apply NG.ret_scope|apply NG.exit_then|refine NG.exit_block rfl ?_|refine NG.exit_other rfl ?_|apply NG.exit_scope|apply NG.normal_block|apply NG.normal_scope|refine SG.val rfl rfl rfl rfl (by first|((first|apply qmv|apply qas|apply qlc|apply qla|apply qfa|apply qnc|apply qic|apply qix|apply qpk|apply qls|apply qei|apply qni|apply qed|apply qnd|apply qad|apply qln|apply qle|apply qgt|apply qge|apply qlk|apply qlv|apply qxt|apply qsb|apply qnt|apply qep|apply qnp|apply qeb|apply qnb|apply qcv|apply qlm|apply qfr|apply qto|apply qmx|apply qen|apply qx0|apply qx1)<;>(first|exact rfl|exact Ar.mk (by omega)|assumption|exact dct (by assumption)|exact dcf (by assumption)|exact dct (by omega)|exact dcf (by omega)|exact List.not_mem_nil|exact dc_length _|exact nc_length _|exact rc_length _ _ _|exact nm1 (by omega)|exact nm2 (by omega) (by omega)|exact dct rfl|exact dct (by decide)|exact dcf (by decide)|exact (Int.toNat_of_nonneg (by omega)).symm|exact dcu|exact lk1 (by assumption)|exact lk0 (by assumption)))|fail) ?_)
  refine SG.alloc rfl rfl rfl (fun b6 w2 hk2 hb6 hB6 => ?_)
  repeat (first|apply CG.seq|apply CG.region|apply SG.nil|apply NG.next|apply CG.skip|apply CG.block|apply CG.ret|apply CG.exit|apply CG.scope|apply NG.ret_then|apply NG.ret_block|apply NG.ret_scope|apply NG.exit_then|refine NG.exit_block rfl ?_|refine NG.exit_other rfl ?_|apply NG.exit_scope|apply NG.normal_block|apply NG.normal_scope|refine SG.val rfl rfl rfl rfl (by first|((first|apply qmv|apply qas|apply qlc|apply qla|apply qfa|apply qnc|apply qic|apply qix|apply qpk|apply qls|apply qei|apply qni|apply qed|apply qnd|apply qad|apply qln|apply qle|apply qgt|apply qge|apply qlk|apply qlv|apply qxt|apply qsb|apply qnt|apply qep|apply qnp|apply qeb|apply qnb|apply qcv|apply qlm|apply qfr|apply qto|apply qmx|apply qen|apply qx0|apply qx1)<;>(first|exact rfl|exact Ar.mk (by omega)|assumption|exact dct (by assumption)|exact dcf (by assumption)|exact dct (by omega)|exact dcf (by omega)|exact List.not_mem_nil|exact dc_length _|exact nc_length _|exact rc_length _ _ _|exact nm1 (by omega)|exact nm2 (by omega) (by omega)|exact dct rfl|exact dct (by decide)|exact dcf (by decide)|exact (Int.toNat_of_nonneg (by omega)).symm|exact dcu|exact lk1 (by assumption)|exact lk0 (by assumption)))|fail) ?_)
  have eT := hT.blk.lt
  have eM := hT.map.lt
  have s1 := hk.size
  refine SG.setAll (old := [.int .i64 0, .slice none 0 0, bv 0, bv 0, bv 0, bv 0, bv 0, bv 0, bv 0, bv 0]) rfl rfl (by exact rho_of rfl) (by exact rho_of rfl) hB6 (rc_length (RT.new (idD 0) D) ar cr) rfl (rc_one (RT.new (idD 0) D) ar cr) (fun w3 hk3 hB6 => ?_)
  have hT := (hT.kp0 hk2).kp hk3 (by first | exact List.not_mem_nil | exact nm1 (by omega) | exact nm2 (by omega) (by omega) | exact nm3 (by omega) (by omega) (by omega)) (by first | exact List.not_mem_nil | exact nm1 (by omega) | exact nm2 (by omega) (by omega) | exact nm3 (by omega) (by omega) (by omega))
  have hk := (hk.trans hk2).trans_new hk3 (by first | exact new1 (by omega) | exact new2 (by omega) (by omega))
  repeat (first|apply CG.seq|apply CG.region|apply SG.nil|apply NG.next|apply CG.skip|apply CG.block|apply CG.ret|apply CG.exit|apply CG.scope|apply NG.ret_then|apply NG.ret_block|apply NG.ret_scope|apply NG.exit_then|refine NG.exit_block rfl ?_|refine NG.exit_other rfl ?_|apply NG.exit_scope|apply NG.normal_block|apply NG.normal_scope|refine SG.val rfl rfl rfl rfl (by first|((first|apply qmv|apply qas|apply qlc|apply qla|apply qfa|apply qnc|apply qic|apply qix|apply qpk|apply qls|apply qei|apply qni|apply qed|apply qnd|apply qad|apply qln|apply qle|apply qgt|apply qge|apply qlk|apply qlv|apply qxt|apply qsb|apply qnt|apply qep|apply qnp|apply qeb|apply qnb|apply qcv|apply qlm|apply qfr|apply qto|apply qmx|apply qen|apply qx0|apply qx1)<;>(first|exact rfl|exact Ar.mk (by omega)|assumption|exact dct (by assumption)|exact dcf (by assumption)|exact dct (by omega)|exact dcf (by omega)|exact List.not_mem_nil|exact dc_length _|exact nc_length _|exact rc_length _ _ _|exact nm1 (by omega)|exact nm2 (by omega) (by omega)|exact dct rfl|exact dct (by decide)|exact dcf (by decide)|exact (Int.toNat_of_nonneg (by omega)).symm|exact dcu|exact lk1 (by assumption)|exact lk0 (by assumption)))|fail) ?_)
  refine SG.ret rfl rfl rfl (vs := []) True.intro (told_spec w3) (fun w4 hk4 => ?_)
  have hT := hT.kp0 hk4
  have hk := hk.trans hk4
  repeat (first|apply CG.seq|apply CG.region|apply SG.nil|apply NG.next|apply CG.skip|apply CG.block|apply CG.ret|apply CG.exit|apply CG.scope|apply NG.ret_then|apply NG.ret_block|apply NG.ret_scope|apply NG.exit_then|refine NG.exit_block rfl ?_|refine NG.exit_other rfl ?_|apply NG.exit_scope|apply NG.normal_block|apply NG.normal_scope|refine SG.val rfl rfl rfl rfl (by first|((first|apply qmv|apply qas|apply qlc|apply qla|apply qfa|apply qnc|apply qic|apply qix|apply qpk|apply qls|apply qei|apply qni|apply qed|apply qnd|apply qad|apply qln|apply qle|apply qgt|apply qge|apply qlk|apply qlv|apply qxt|apply qsb|apply qnt|apply qep|apply qnp|apply qeb|apply qnb|apply qcv|apply qlm|apply qfr|apply qto|apply qmx|apply qen|apply qx0|apply qx1)<;>(first|exact rfl|exact Ar.mk (by omega)|assumption|exact dct (by assumption)|exact dcf (by assumption)|exact dct (by omega)|exact dcf (by omega)|exact List.not_mem_nil|exact dc_length _|exact nc_length _|exact rc_length _ _ _|exact nm1 (by omega)|exact nm2 (by omega) (by omega)|exact dct rfl|exact dct (by decide)|exact dcf (by decide)|exact (Int.toNat_of_nonneg (by omega)).symm|exact dcu|exact lk1 (by assumption)|exact lk0 (by assumption)))|fail) ?_)
  refine CG.cond_f rfl (by exact rho_of rfl) rfl ?_
  repeat (first|apply CG.seq|apply CG.region|apply SG.nil|apply NG.next|apply CG.skip|apply CG.block|apply CG.ret|apply CG.exit|apply CG.scope|apply NG.ret_then|apply NG.ret_block|apply NG.ret_scope|apply NG.exit_then|refine NG.exit_block rfl ?_|refine NG.exit_other rfl ?_|apply NG.exit_scope|apply NG.normal_block|apply NG.normal_scope|refine SG.val rfl rfl rfl rfl (by first|((first|apply qmv|apply qas|apply qlc|apply qla|apply qfa|apply qnc|apply qic|apply qix|apply qpk|apply qls|apply qei|apply qni|apply qed|apply qnd|apply qad|apply qln|apply qle|apply qgt|apply qge|apply qlk|apply qlv|apply qxt|apply qsb|apply qnt|apply qep|apply qnp|apply qeb|apply qnb|apply qcv|apply qlm|apply qfr|apply qto|apply qmx|apply qen|apply qx0|apply qx1)<;>(first|exact rfl|exact Ar.mk (by omega)|assumption|exact dct (by assumption)|exact dcf (by assumption)|exact dct (by omega)|exact dcf (by omega)|exact List.not_mem_nil|exact dc_length _|exact nc_length _|exact rc_length _ _ _|exact nm1 (by omega)|exact nm2 (by omega) (by omega)|exact dct rfl|exact dct (by decide)|exact dcf (by decide)|exact (Int.toNat_of_nonneg (by omega)).symm|exact dcu|exact lk1 (by assumption)|exact lk0 (by assumption)))|fail) ?_)
  refine SG.callS rfl rfl rfl (by repeat' (first | exact True.intro | exact rho_of rfl | refine And.intro ?_ ?_)) (final_spec hT (new_wf _ _) hD) (fun a0 c0 w5 hS0 hk5 => ?_)
  have eT := hT.blk.lt
  have eM := hT.map.lt
  have hT := hT.kp0 hk5
  have hk := hk.trans hk5
  repeat (first|apply CG.seq|apply CG.region|apply SG.nil|apply NG.next|apply CG.skip|apply CG.block|apply CG.ret|apply CG.exit|apply CG.scope|apply NG.ret_then|apply NG.ret_block|apply NG.ret_scope|apply NG.exit_then|refine NG.exit_block rfl ?_|refine NG.exit_other rfl ?_|apply NG.exit_scope|apply NG.normal_block|apply NG.normal_scope|refine SG.val rfl rfl rfl rfl (by first|((first|apply qmv|apply qas|apply qlc|apply qla|apply qfa|apply qnc|apply qic|apply qix|apply qpk|apply qls|apply qei|apply qni|apply qed|apply qnd|apply qad|apply qln|apply qle|apply qgt|apply qge|apply qlk|apply qlv|apply qxt|apply qsb|apply qnt|apply qep|apply qnp|apply qeb|apply qnb|apply qcv|apply qlm|apply qfr|apply qto|apply qmx|apply qen|apply qx0|apply qx1)<;>(first|exact rfl|exact Ar.mk (by omega)|assumption|exact dct (by assumption)|exact dcf (by assumption)|exact dct (by omega)|exact dcf (by omega)|exact List.not_mem_nil|exact dc_length _|exact nc_length _|exact rc_length _ _ _|exact nm1 (by omega)|exact nm2 (by omega) (by omega)|exact dct rfl|exact dct (by decide)|exact dcf (by decide)|exact (Int.toNat_of_nonneg (by omega)).symm|exact dcu|exact lk1 (by assumption)|exact lk0 (by assumption)))|fail) ?_)
  refine CG.loop (X := Tr × Nat × Option Addr × Nat) (fun x => [(1, .slice a n c), (5, .pointer (some ⟨bt, 0, none⟩)), (7, .slice x.2.2.1 x.1.fin.length x.2.2.2), (8, .int .i64 (x.2.1 : Int))])
    (fun x w' => Kp [] w w' ∧ TreeAt w' bt bm x.1 ∧ x.1.WF ∧ x.1.depth ≤ 1000 ∧ x.2.1 ≤ n ∧ SlF w4.heap.size dc 8 w' x.2.2.1 x.2.2.2 x.1.fin ∧ w4.heap.size ≤ w'.heap.size)
    (fun x => n - x.2.1) (Tr.new (idD 0) D, 0, a0, c0) ⟨hk, hT, new_wf _ _, hD, Nat.zero_le _, hS0, hk5.size⟩ (by (repeat' (first | exact True.intro | exact rfl | refine And.intro ?_ ?_))) ?_
  rintro ⟨t, i, aw, cw⟩ w7 ⟨hk, hT, wf, hdep, hi, hSw, hsz⟩
  simp only at hT wf hdep hi hSw
  refine CG.to [(1, .slice a n c), (5, .pointer (some ⟨bt, 0, none⟩)), (7, .slice aw t.fin.length cw), (8, .int .i64 (i : Int))] (by (repeat' (first | exact True.intro | exact rfl | refine And.intro ?_ ?_))) ?_
  have fin : ∀ {L : Env} {w' : World}, Kp [] w w' → look L 4 = some (.bool true) → NG 71 .ret (bodyPost Try.prog Try.f6 (fun e w' => e = .returned (.bool true) ∧ Kp [] w w')) L w' :=
    fun hk' hL => ret1 (Or.inl rfl) Try.results6 (ResV.tmp hL) ⟨rfl, hk'⟩
  by_cases h1 : i < n
  case neg =>
    have g1 : ¬ (i : Int) < (n : Int) := by omega
    repeat (first|apply CG.seq|apply CG.region|apply SG.nil|apply NG.next|apply CG.skip|apply CG.block|apply CG.ret|apply CG.exit|apply CG.scope|apply NG.ret_then|apply NG.ret_block|apply NG.ret_scope|apply NG.exit_then|refine NG.exit_block rfl ?_|refine NG.exit_other rfl ?_|apply NG.exit_scope|apply NG.normal_block|apply NG.normal_scope|refine SG.val rfl rfl rfl rfl (by first|((first|apply qmv|apply qas|apply qlc|apply qla|apply qfa|apply qnc|apply qic|apply qix|apply qpk|apply qls|apply qei|apply qni|apply qed|apply qnd|apply qad|apply qln|apply qle|apply qgt|apply qge|apply qlk|apply qlv|apply qxt|apply qsb|apply qnt|apply qep|apply qnp|apply qeb|apply qnb|apply qcv|apply qlm|apply qfr|apply qto|apply qmx|apply qen|apply qx0|apply qx1)<;>(first|exact rfl|exact Ar.mk (by omega)|assumption|exact dct (by assumption)|exact dcf (by assumption)|exact dct (by omega)|exact dcf (by omega)|exact List.not_mem_nil|exact dc_length _|exact nc_length _|exact rc_length _ _ _|exact nm1 (by omega)|exact nm2 (by omega) (by omega)|exact dct rfl|exact dct (by decide)|exact dcf (by decide)|exact (Int.toNat_of_nonneg (by omega)).symm|exact dcu|exact lk1 (by assumption)|exact lk0 (by assumption)))|fail) ?_)
    refine SG.skip rfl rfl ?_
    refine SG.skip rfl rfl ?_
    repeat (first|apply CG.seq|apply CG.region|apply SG.nil|apply NG.next|apply CG.skip|apply CG.block|apply CG.ret|apply CG.exit|apply CG.scope|apply NG.ret_then|apply NG.ret_block|apply NG.ret_scope|apply NG.exit_then|refine NG.exit_block rfl ?_|refine NG.exit_other rfl ?_|apply NG.exit_scope|apply NG.normal_block|apply NG.normal_scope|refine SG.val rfl rfl rfl rfl (by first|((first|apply qmv|apply qas|apply qlc|apply qla|apply qfa|apply qnc|apply qic|apply qix|apply qpk|apply qls|apply qei|apply qni|apply qed|apply qnd|apply qad|apply qln|apply qle|apply qgt|apply qge|apply qlk|apply qlv|apply qxt|apply qsb|apply qnt|apply qep|apply qnp|apply qeb|apply qnb|apply qcv|apply qlm|apply qfr|apply qto|apply qmx|apply qen|apply qx0|apply qx1)<;>(first|exact rfl|exact Ar.mk (by omega)|assumption|exact dct (by assumption)|exact dcf (by assumption)|exact dct (by omega)|exact dcf (by omega)|exact List.not_mem_nil|exact dc_length _|exact nc_length _|exact rc_length _ _ _|exact nm1 (by omega)|exact nm2 (by omega) (by omega)|exact dct rfl|exact dct (by decide)|exact dcf (by decide)|exact (Int.toNat_of_nonneg (by omega)).symm|exact dcu|exact lk1 (by assumption)|exact lk0 (by assumption)))|fail) ?_)
    refine CG.cond_f rfl (by exact rho_of rfl) rfl ?_
    repeat (first|apply CG.seq|apply CG.region|apply SG.nil|apply NG.next|apply CG.skip|apply CG.block|apply CG.ret|apply CG.exit|apply CG.scope|apply NG.ret_then|apply NG.ret_block|apply NG.ret_scope|apply NG.exit_then|refine NG.exit_block rfl ?_|refine NG.exit_other rfl ?_|apply NG.exit_scope|apply NG.normal_block|apply NG.normal_scope|refine SG.val rfl rfl rfl rfl (by first|((first|apply qmv|apply qas|apply qlc|apply qla|apply qfa|apply qnc|apply qic|apply qix|apply qpk|apply qls|apply qei|apply qni|apply qed|apply qnd|apply qad|apply qln|apply qle|apply qgt|apply qge|apply qlk|apply qlv|apply qxt|apply qsb|apply qnt|apply qep|apply qnp|apply qeb|apply qnb|apply qcv|apply qlm|apply qfr|apply qto|apply qmx|apply qen|apply qx0|apply qx1)<;>(first|exact rfl|exact Ar.mk (by omega)|assumption|exact dct (by assumption)|exact dcf (by assumption)|exact dct (by omega)|exact dcf (by omega)|exact List.not_mem_nil|exact dc_length _|exact nc_length _|exact rc_length _ _ _|exact nm1 (by omega)|exact nm2 (by omega) (by omega)|exact dct rfl|exact dct (by decide)|exact dcf (by decide)|exact (Int.toNat_of_nonneg (by omega)).symm|exact dcu|exact lk1 (by assumption)|exact lk0 (by assumption)))|fail) ?_)
    exact fin hk rfl
  have g1 : (i : Int) < (n : Int) := by omega
  by_cases h2 : i < 80
  case neg =>
    have g2 : ¬ (i : Int) < 80 := by omega
    repeat (first|apply CG.seq|apply CG.region|apply SG.nil|apply NG.next|apply CG.skip|apply CG.block|apply CG.ret|apply CG.exit|apply CG.scope|apply NG.ret_then|apply NG.ret_block|apply NG.ret_scope|apply NG.exit_then|refine NG.exit_block rfl ?_|refine NG.exit_other rfl ?_|apply NG.exit_scope|apply NG.normal_block|apply NG.normal_scope|refine SG.val rfl rfl rfl rfl (by first|((first|apply qmv|apply qas|apply qlc|apply qla|apply qfa|apply qnc|apply qic|apply qix|apply qpk|apply qls|apply qei|apply qni|apply qed|apply qnd|apply qad|apply qln|apply qle|apply qgt|apply qge|apply qlk|apply qlv|apply qxt|apply qsb|apply qnt|apply qep|apply qnp|apply qeb|apply qnb|apply qcv|apply qlm|apply qfr|apply qto|apply qmx|apply qen|apply qx0|apply qx1)<;>(first|exact rfl|exact Ar.mk (by omega)|assumption|exact dct (by assumption)|exact dcf (by assumption)|exact dct (by omega)|exact dcf (by omega)|exact List.not_mem_nil|exact dc_length _|exact nc_length _|exact rc_length _ _ _|exact nm1 (by omega)|exact nm2 (by omega) (by omega)|exact dct rfl|exact dct (by decide)|exact dcf (by decide)|exact (Int.toNat_of_nonneg (by omega)).symm|exact dcu|exact lk1 (by assumption)|exact lk0 (by assumption)))|fail) ?_)
    refine CG.cond_f rfl (by exact rho_of rfl) rfl ?_
    repeat (first|apply CG.seq|apply CG.region|apply SG.nil|apply NG.next|apply CG.skip|apply CG.block|apply CG.ret|apply CG.exit|apply CG.scope|apply NG.ret_then|apply NG.ret_block|apply NG.ret_scope|apply NG.exit_then|refine NG.exit_block rfl ?_|refine NG.exit_other rfl ?_|apply NG.exit_scope|apply NG.normal_block|apply NG.normal_scope|refine SG.val rfl rfl rfl rfl (by first|((first|apply qmv|apply qas|apply qlc|apply qla|apply qfa|apply qnc|apply qic|apply qix|apply qpk|apply qls|apply qei|apply qni|apply qed|apply qnd|apply qad|apply qln|apply qle|apply qgt|apply qge|apply qlk|apply qlv|apply qxt|apply qsb|apply qnt|apply qep|apply qnp|apply qeb|apply qnb|apply qcv|apply qlm|apply qfr|apply qto|apply qmx|apply qen|apply qx0|apply qx1)<;>(first|exact rfl|exact Ar.mk (by omega)|assumption|exact dct (by assumption)|exact dcf (by assumption)|exact dct (by omega)|exact dcf (by omega)|exact List.not_mem_nil|exact dc_length _|exact nc_length _|exact rc_length _ _ _|exact nm1 (by omega)|exact nm2 (by omega) (by omega)|exact dct rfl|exact dct (by decide)|exact dcf (by decide)|exact (Int.toNat_of_nonneg (by omega)).symm|exact dcu|exact lk1 (by assumption)|exact lk0 (by assumption)))|fail) ?_)
    exact fin hk rfl
  have g2 : (i : Int) < 80 := by omega
  repeat (first|apply CG.seq|apply CG.region|apply SG.nil|apply NG.next|apply CG.skip|apply CG.block|apply CG.ret|apply CG.exit|apply CG.scope|apply NG.ret_then|apply NG.ret_block|apply NG.ret_scope|apply NG.exit_then|refine NG.exit_block rfl ?_|refine NG.exit_other rfl ?_|apply NG.exit_scope|apply NG.normal_block|apply NG.normal_scope|refine SG.val rfl rfl rfl rfl (by first|((first|apply qmv|apply qas|apply qlc|apply qla|apply qfa|apply qnc|apply qic|apply qix|apply qpk|apply qls|apply qei|apply qni|apply qed|apply qnd|apply qad|apply qln|apply qle|apply qgt|apply qge|apply qlk|apply qlv|apply qxt|apply qsb|apply qnt|apply qep|apply qnp|apply qeb|apply qnb|apply qcv|apply qlm|apply qfr|apply qto|apply qmx|apply qen|apply qx0|apply qx1)<;>(first|exact rfl|exact Ar.mk (by omega)|assumption|exact dct (by assumption)|exact dcf (by assumption)|exact dct (by omega)|exact dcf (by omega)|exact List.not_mem_nil|exact dc_length _|exact nc_length _|exact rc_length _ _ _|exact nm1 (by omega)|exact nm2 (by omega) (by omega)|exact dct rfl|exact dct (by decide)|exact dcf (by decide)|exact (Int.toNat_of_nonneg (by omega)).symm|exact dcu|exact lk1 (by assumption)|exact lk0 (by assumption)))|fail) ?_)
  refine CG.cond_t rfl (by exact rho_of rfl) rfl ?_
  repeat (first|apply CG.seq|apply CG.region|apply SG.nil|apply NG.next|apply CG.skip|apply CG.block|apply CG.ret|apply CG.exit|apply CG.scope|apply NG.ret_then|apply NG.ret_block|apply NG.ret_scope|apply NG.exit_then|refine NG.exit_block rfl ?_|refine NG.exit_other rfl ?_|apply NG.exit_scope|apply NG.normal_block|apply NG.normal_scope|refine SG.val rfl rfl rfl rfl (by first|((first|apply qmv|apply qas|apply qlc|apply qla|apply qfa|apply qnc|apply qic|apply qix|apply qpk|apply qls|apply qei|apply qni|apply qed|apply qnd|apply qad|apply qln|apply qle|apply qgt|apply qge|apply qlk|apply qlv|apply qxt|apply qsb|apply qnt|apply qep|apply qnp|apply qeb|apply qnb|apply qcv|apply qlm|apply qfr|apply qto|apply qmx|apply qen|apply qx0|apply qx1)<;>(first|exact rfl|exact Ar.mk (by omega)|assumption|exact dct (by assumption)|exact dcf (by assumption)|exact dct (by omega)|exact dcf (by omega)|exact List.not_mem_nil|exact dc_length _|exact nc_length _|exact rc_length _ _ _|exact nm1 (by omega)|exact nm2 (by omega) (by omega)|exact dct rfl|exact dct (by decide)|exact dcf (by decide)|exact (Int.toNat_of_nonneg (by omega)).symm|exact dcu|exact lk1 (by assumption)|exact lk0 (by assumption)))|fail) ?_)
  obtain ⟨b, off, rfl, r1, r2⟩ := (hl.kp0 hk) i h1
  refine CG.tail mixed 13 [0, 1, 2, 3, 4, 5, 6, 7, 8, 9, 10, 11, 12] (by kernel_rfl) ?_
  repeat (refine Der.val rfl rfl rfl (by first|((first|apply qmv|apply qas|apply qlc|apply qla|apply qfa|apply qnc|apply qic|apply qix|apply qpk|apply qls|apply qei|apply qni|apply qed|apply qnd|apply qad|apply qln|apply qle|apply qgt|apply qge|apply qlk|apply qlv|apply qxt|apply qsb|apply qnt|apply qep|apply qnp|apply qeb|apply qnb|apply qcv|apply qlm|apply qfr|apply qto|apply qmx|apply qen|apply qx0|apply qx1)<;>(first|exact rfl|exact Ar.mk (by omega)|assumption|exact dct (by assumption)|exact dcf (by assumption)|exact dct (by omega)|exact dcf (by omega)|exact List.not_mem_nil|exact dc_length _|exact nc_length _|exact rc_length _ _ _|exact nm1 (by omega)|exact nm2 (by omega) (by omega)|exact dct rfl|exact dct (by decide)|exact dcf (by decide)|exact (Int.toNat_of_nonneg (by omega)).symm|exact dcu|exact lk1 (by assumption)|exact lk0 (by assumption)))|fail) ?_)
  refine Der.call rfl rfl rfl (vs := [bv (l i).1]) ⟨rfl, True.intro⟩ (fun w hk _ => id_spec (l i).1 w) ?_
  repeat (refine Der.val rfl rfl rfl (by first|((first|apply qmv|apply qas|apply qlc|apply qla|apply qfa|apply qnc|apply qic|apply qix|apply qpk|apply qls|apply qei|apply qni|apply qed|apply qnd|apply qad|apply qln|apply qle|apply qgt|apply qge|apply qlk|apply qlv|apply qxt|apply qsb|apply qnt|apply qep|apply qnp|apply qeb|apply qnb|apply qcv|apply qlm|apply qfr|apply qto|apply qmx|apply qen|apply qx0|apply qx1)<;>(first|exact rfl|exact Ar.mk (by omega)|assumption|exact dct (by assumption)|exact dcf (by assumption)|exact dct (by omega)|exact dcf (by omega)|exact List.not_mem_nil|exact dc_length _|exact nc_length _|exact rc_length _ _ _|exact nm1 (by omega)|exact nm2 (by omega) (by omega)|exact dct rfl|exact dct (by decide)|exact dcf (by decide)|exact (Int.toNat_of_nonneg (by omega)).symm|exact dcu|exact lk1 (by assumption)|exact lk0 (by assumption)))|fail) ?_)
  refine Der.call rfl rfl rfl (vs := [bv (l i).2]) ⟨rfl, True.intro⟩ (fun w hk _ => id_spec (l i).2 w) ?_
  generalize idD (l i).1 = x
  generalize idD (l i).2 = p
  refine Der.tl (fun w8 hk8 _ _ => ?_)
  have hT := hT.kp0 hk8
  have hk := hk.trans hk8
  have hSw := hSw.kp0 hk8
  have s8 := hk8.size
  refine SG.add rfl rfl rfl (by exact rho_of rfl) (by exact rho_of rfl) (by exact rho_of rfl) hT hne wf hdep (fun w9 hT hk9 => ?_)
  have hk := hk.trans_new hk9 (new2 (by omega) (by omega))
  have hSw := hSw.kp hk9 (by intro z hz; simp at hz; omega)
  have s9 := hk9.size
  obtain ⟨wf', hdep', hfst', _⟩ := add_step wf x p
  have inv : (t.add x p).depth ≤ 1000 := by rw [hdep']; exact hdep
  obtain ⟨hst, hsame⟩ := fin_stays wf x p
  generalize t.add x p = t' at *
  repeat (first|apply CG.seq|apply CG.region|apply SG.nil|apply NG.next|apply CG.skip|apply CG.block|apply CG.ret|apply CG.exit|apply CG.scope|apply NG.ret_then|apply NG.ret_block|apply NG.ret_scope|apply NG.exit_then|refine NG.exit_block rfl ?_|refine NG.exit_other rfl ?_|apply NG.exit_scope|apply NG.normal_block|apply NG.normal_scope|refine SG.val rfl rfl rfl rfl (by first|((first|apply qmv|apply qas|apply qlc|apply qla|apply qfa|apply qnc|apply qic|apply qix|apply qpk|apply qls|apply qei|apply qni|apply qed|apply qnd|apply qad|apply qln|apply qle|apply qgt|apply qge|apply qlk|apply qlv|apply qxt|apply qsb|apply qnt|apply qep|apply qnp|apply qeb|apply qnb|apply qcv|apply qlm|apply qfr|apply qto|apply qmx|apply qen|apply qx0|apply qx1)<;>(first|exact rfl|exact Ar.mk (by omega)|assumption|exact dct (by assumption)|exact dcf (by assumption)|exact dct (by omega)|exact dcf (by omega)|exact List.not_mem_nil|exact dc_length _|exact nc_length _|exact rc_length _ _ _|exact nm1 (by omega)|exact nm2 (by omega) (by omega)|exact dct rfl|exact dct (by decide)|exact dcf (by decide)|exact (Int.toNat_of_nonneg (by omega)).symm|exact dcu|exact lk1 (by assumption)|exact lk0 (by assumption)))|fail) ?_)
  refine SG.callS rfl rfl rfl (by repeat' (first | exact True.intro | exact rho_of rfl | refine And.intro ?_ ?_)) (final_spec hT wf' inv) (fun an cn w10 hSn hk10 => ?_)
  have hT := hT.kp0 hk10
  have hk := hk.trans hk10
  have hSw := hSw.kp0 hk10
  have s10 := hk10.size
  have hl1 := wf.fin_length
  have hl2 := wf'.fin_length
  have hcn := hSn.len
  have hb' := wf'.bound wf'.tip
  have f1 : t.finN = max 1 (t.ht t.tip + 1 - t.depth) := rfl
  have f2 : t'.finN = max 1 (t'.ht t'.tip + 1 - t'.depth) := rfl
  have g3 : ¬ (t.fin.length : Int) < 1 := by omega
  have g4 : ¬ (t'.fin.length : Int) < (t.fin.length : Int) := by omega
  have hAt : SlD w10 an t.fin := by
    have := hSn.sl.take t.finN
    rwa [hsame] at this
  repeat (first|apply CG.seq|apply CG.region|apply SG.nil|apply NG.next|apply CG.skip|apply CG.block|apply CG.ret|apply CG.exit|apply CG.scope|apply NG.ret_then|apply NG.ret_block|apply NG.ret_scope|apply NG.exit_then|refine NG.exit_block rfl ?_|refine NG.exit_other rfl ?_|apply NG.exit_scope|apply NG.normal_block|apply NG.normal_scope|refine SG.val rfl rfl rfl rfl (by first|((first|apply qmv|apply qas|apply qlc|apply qla|apply qfa|apply qnc|apply qic|apply qix|apply qpk|apply qls|apply qei|apply qni|apply qed|apply qnd|apply qad|apply qln|apply qle|apply qgt|apply qge|apply qlk|apply qlv|apply qxt|apply qsb|apply qnt|apply qep|apply qnp|apply qeb|apply qnb|apply qcv|apply qlm|apply qfr|apply qto|apply qmx|apply qen|apply qx0|apply qx1)<;>(first|exact rfl|exact Ar.mk (by omega)|assumption|exact dct (by assumption)|exact dcf (by assumption)|exact dct (by omega)|exact dcf (by omega)|exact List.not_mem_nil|exact dc_length _|exact nc_length _|exact rc_length _ _ _|exact nm1 (by omega)|exact nm2 (by omega) (by omega)|exact dct rfl|exact dct (by decide)|exact dcf (by decide)|exact (Int.toNat_of_nonneg (by omega)).symm|exact dcu|exact lk1 (by assumption)|exact lk0 (by assumption)))|fail) ?_)
  refine SG.callS rfl rfl rfl (vs := [.slice an t.fin.length cn]) (by repeat' (first | exact True.intro | exact rho_of rfl | refine And.intro ?_ ?_)) (plain_spec cn hAt (by omega)) (fun a1 c1 w11 hS1 hk11 => ?_)
  have hSw := hSw.kp0 hk11
  repeat (first|apply CG.seq|apply CG.region|apply SG.nil|apply NG.next|apply CG.skip|apply CG.block|apply CG.ret|apply CG.exit|apply CG.scope|apply NG.ret_then|apply NG.ret_block|apply NG.ret_scope|apply NG.exit_then|refine NG.exit_block rfl ?_|refine NG.exit_other rfl ?_|apply NG.exit_scope|apply NG.normal_block|apply NG.normal_scope|refine SG.val rfl rfl rfl rfl (by first|((first|apply qmv|apply qas|apply qlc|apply qla|apply qfa|apply qnc|apply qic|apply qix|apply qpk|apply qls|apply qei|apply qni|apply qed|apply qnd|apply qad|apply qln|apply qle|apply qgt|apply qge|apply qlk|apply qlv|apply qxt|apply qsb|apply qnt|apply qep|apply qnp|apply qeb|apply qnb|apply qcv|apply qlm|apply qfr|apply qto|apply qmx|apply qen|apply qx0|apply qx1)<;>(first|exact rfl|exact Ar.mk (by omega)|assumption|exact dct (by assumption)|exact dcf (by assumption)|exact dct (by omega)|exact dcf (by omega)|exact List.not_mem_nil|exact dc_length _|exact nc_length _|exact rc_length _ _ _|exact nm1 (by omega)|exact nm2 (by omega) (by omega)|exact dct rfl|exact dct (by decide)|exact dcf (by decide)|exact (Int.toNat_of_nonneg (by omega)).symm|exact dcu|exact lk1 (by assumption)|exact lk0 (by assumption)))|fail) ?_)
  refine SG.callS rfl rfl rfl (vs := [.slice aw t.fin.length cw]) (by repeat' (first | exact True.intro | exact rho_of rfl | refine And.intro ?_ ?_)) (plain_spec cw hSw.sl (by omega)) (fun a2 c2 w12 hS2 hk12 => ?_)
  refine SG.ret rfl rfl rfl (by repeat' (first | exact True.intro | exact rho_of rfl | refine And.intro ?_ ?_)) (same_spec c1 c2 (hS1.sl.kp0 hk12) hS2.sl (by omega)) (fun w13 hk13 => ?_)
  rw [decide_eq_true (rfl : t.fin = t.fin)]
  repeat (first|apply CG.seq|apply CG.region|apply SG.nil|apply NG.next|apply CG.skip|apply CG.block|apply CG.ret|apply CG.exit|apply CG.scope|apply NG.ret_then|apply NG.ret_block|apply NG.ret_scope|apply NG.exit_then|refine NG.exit_block rfl ?_|refine NG.exit_other rfl ?_|apply NG.exit_scope|apply NG.normal_block|apply NG.normal_scope|refine SG.val rfl rfl rfl rfl (by first|((first|apply qmv|apply qas|apply qlc|apply qla|apply qfa|apply qnc|apply qic|apply qix|apply qpk|apply qls|apply qei|apply qni|apply qed|apply qnd|apply qad|apply qln|apply qle|apply qgt|apply qge|apply qlk|apply qlv|apply qxt|apply qsb|apply qnt|apply qep|apply qnp|apply qeb|apply qnb|apply qcv|apply qlm|apply qfr|apply qto|apply qmx|apply qen|apply qx0|apply qx1)<;>(first|exact rfl|exact Ar.mk (by omega)|assumption|exact dct (by assumption)|exact dcf (by assumption)|exact dct (by omega)|exact dcf (by omega)|exact List.not_mem_nil|exact dc_length _|exact nc_length _|exact rc_length _ _ _|exact nm1 (by omega)|exact nm2 (by omega) (by omega)|exact dct rfl|exact dct (by decide)|exact dcf (by decide)|exact (Int.toNat_of_nonneg (by omega)).symm|exact dcu|exact lk1 (by assumption)|exact lk0 (by assumption)))|fail) ?_)
  refine CG.cond_f rfl (by exact rho_of rfl) rfl ?_
  repeat (first|apply CG.seq|apply CG.region|apply SG.nil|apply NG.next|apply CG.skip|apply CG.block|apply CG.ret|apply CG.exit|apply CG.scope|apply NG.ret_then|apply NG.ret_block|apply NG.ret_scope|apply NG.exit_then|refine NG.exit_block rfl ?_|refine NG.exit_other rfl ?_|apply NG.exit_scope|apply NG.normal_block|apply NG.normal_scope|refine SG.val rfl rfl rfl rfl (by first|((first|apply qmv|apply qas|apply qlc|apply qla|apply qfa|apply qnc|apply qic|apply qix|apply qpk|apply qls|apply qei|apply qni|apply qed|apply qnd|apply qad|apply qln|apply qle|apply qgt|apply qge|apply qlk|apply qlv|apply qxt|apply qsb|apply qnt|apply qep|apply qnp|apply qeb|apply qnb|apply qcv|apply qlm|apply qfr|apply qto|apply qmx|apply qen|apply qx0|apply qx1)<;>(first|exact rfl|exact Ar.mk (by omega)|assumption|exact dct (by assumption)|exact dcf (by assumption)|exact dct (by omega)|exact dcf (by omega)|exact List.not_mem_nil|exact dc_length _|exact nc_length _|exact rc_length _ _ _|exact nm1 (by omega)|exact nm2 (by omega) (by omega)|exact dct rfl|exact dct (by decide)|exact dcf (by decide)|exact (Int.toNat_of_nonneg (by omega)).symm|exact dcu|exact lk1 (by assumption)|exact lk0 (by assumption)))|fail) ?_)
  have hkk := (hk11.trans hk12).trans hk13
  exact NG.round (t', i + 1, an, cn) (by (repeat' (first | exact True.intro | exact rfl | refine And.intro ?_ ?_))) ⟨hk.trans hkk, hT.kp0 hkk, wf', inv, by show i + 1 ≤ n; omega, (hSn.kp0 hkk).mono (by omega), by have := hkk.size; omega⟩ (by show n - (i + 1) < n - i; omega)
end Go.Proofs.Ytpnenekgldggbaa
