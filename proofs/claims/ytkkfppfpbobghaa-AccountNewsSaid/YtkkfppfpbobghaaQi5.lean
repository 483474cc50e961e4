import Derived.Test.YtkkfppfpbobghaaQi4
/-
  The document's accounts: moved, used, all money.
-/
namespace Go.Proofs.Ytkkfppfpbobghaa
set_option linter.unusedVariables false

def rmE (l : List En) (f : Dg) (n : Int) : Int := if n < 0 ∨ 1125899906842624 < n then 2 else if (ofL l f).money < n then 21 else 0
def rm1 (l : List En) (f : Dg) (n : Int) : List En := setL l ⟨f, (ofL l f).money - n, (ofL l f).nonce⟩
def rm2 (l : List En) (t : Dg) (n : Int) : List En := setL l ⟨t, (ofL l t).money + n, (ofL l t).nonce⟩
def rmL (l : List En) (f t : Dg) (n : Int) : List En := if rmE l f n = 0 then rm2 (rm1 l f n) t n else l
def ruE (l : List En) (k : Dg) (n : Int) : Int := if n < (ofL l k).nonce then 17 else if (ofL l k).nonce < n then 20 else if n = 1099511627776 then 2 else 0
def ruL (l : List En) (k : Dg) (n : Int) : List En := if ruE l k n = 0 then setL l ⟨k, (ofL l k).money, (ofL l k).nonce + 1⟩ else l
/-- All its numbers are small. -/
def LGood (l : List En) : Prop := ∀ k, 0 ≤ (ofL l k).money ∧ (ofL l k).money ≤ 2000000000000000000 ∧ 0 ≤ (ofL l k).nonce ∧ (ofL l k).nonce ≤ 2000000000000000000

attribute [local irreducible] CG NG SG Vals Der Row Blk MapIs IterAt DerX
set_option maxHeartbeats 16000000 in
theorem rmove_spec {w : World} {a : Option Addr} {l : List En} (c : Nat) (h : SlE w a l) (hl : l.length ≤ 90000) (hn : (l.map (·.key)).Nodup) (hg : LGood l) (f t : Dg) (n : Int) : Calls Try.prog 29 #[.slice a l.length c, dv f, dv t, .int .i64 n] w (fun r w' => ∃ a' c', r = .returned (.tuple #[.slice a' (rmL l f t n).length c', .int .i64 (rmE l f n)]) ∧ SlE w' a' (rmL l f t n) ∧ Kp [] w w') := by
  refine enter4 Try.func29 rfl Try.ntmps29 rfl ?_
  have hgf := hg f
  have hgt := hg t
  repeat (first|apply CG.seq|apply CG.region|apply SG.nil|apply NG.next|apply CG.skip|apply CG.block|apply CG.ret|apply CG.exit|apply CG.scope|apply NG.ret_then|apply NG.ret_block|apply NG.ret_scope|apply NG.exit_then|refine NG.exit_block rfl ?_|refine NG.exit_other rfl ?_|apply NG.exit_scope|apply NG.normal_block|apply NG.normal_scope|refine SG.val rfl rfl rfl rfl (by first|((first|apply qmv|apply qas|apply qlc|apply qla|apply qfa|apply qnc|apply qic|apply qix|apply qpk|apply qls|apply qei|apply qni|apply qed|apply qnd|apply qad|apply qln|apply qle|apply qgt|apply qge|apply qlk|apply qlv|apply qxt|apply qsb|apply qnt|apply qep|apply qnp|apply qeb|apply qnb|apply qx2|apply qx4|apply qcv|apply qlm|apply qfr|apply qto|apply qmx|apply qen|apply qsn|apply qx8|apply qx7|apply qx6|apply qx5|apply qx4|apply qx3|apply qx2|apply qx1|apply qx0)<;>(first|exact rfl|exact Ar.mk (by omega)|assumption|exact dct (by assumption)|exact dcf (by assumption)|exact dct (by omega)|exact dcf (by omega)|exact List.not_mem_nil|exact dc_length _|exact nc_length _|exact rc_length _ _ _|exact ec_length _|exact nm1 (by omega)|exact nm2 (by omega) (by omega)|exact dct rfl|exact dct (by decide)|exact dcf (by decide)|exact (Int.toNat_of_nonneg (by omega)).symm|exact dcu|exact lk1 (by assumption)|exact lk0 (by assumption)|exact lkb|fail))|fail) ?_)
  refine SG.box rfl rfl rfl (by exact rho_of rfl) (fun b5 w1 hk1 hb5 hB5 => ?_)
  refine SG.box rfl rfl rfl (by exact rho_of rfl) (fun b6 w2 hk2 hb6 hB6 => ?_)
  have hR5 : Row w2 b5 0 (dc f) := Row.all (hB5.kp0 hk2) rfl
  have hR6 : Row w2 b6 0 (dc t) := Row.all hB6 rfl
  have h2 := (h.kp0 hk1).kp0 hk2
  have s1 := hk1.size
  have s2 := hk2.size
  by_cases hbad : n < 0 ∨ 1125899906842624 < n
  · have hcase : n < 0 ∨ (¬ n < 0 ∧ 1125899906842624 < n) := by omega
    have e2 : rmE l f n = 2 := by unfold rmE; rw [if_pos hbad]
    have eM : rmL l f t n = l := by unfold rmL; rw [if_neg (by rw [e2]; decide)]
    rw [e2, eM]
    rcases hcase with g1 | ⟨g1, g2⟩
    all_goals
      repeat (first | first|apply CG.seq|apply CG.region|apply SG.nil|apply NG.next|apply CG.skip|apply CG.block|apply CG.ret|apply CG.exit|apply CG.scope|apply NG.ret_then|apply NG.ret_block|apply NG.ret_scope|apply NG.exit_then|refine NG.exit_block rfl ?_|refine NG.exit_other rfl ?_|apply NG.exit_scope|apply NG.normal_block|apply NG.normal_scope|refine SG.val rfl rfl rfl rfl (by first|((first|apply qmv|apply qas|apply qlc|apply qla|apply qfa|apply qnc|apply qic|apply qix|apply qpk|apply qls|apply qei|apply qni|apply qed|apply qnd|apply qad|apply qln|apply qle|apply qgt|apply qge|apply qlk|apply qlv|apply qxt|apply qsb|apply qnt|apply qep|apply qnp|apply qeb|apply qnb|apply qx2|apply qx4|apply qcv|apply qlm|apply qfr|apply qto|apply qmx|apply qen|apply qsn|apply qx8|apply qx7|apply qx6|apply qx5|apply qx4|apply qx3|apply qx2|apply qx1|apply qx0)<;>(first|exact rfl|exact Ar.mk (by omega)|assumption|exact dct (by assumption)|exact dcf (by assumption)|exact dct (by omega)|exact dcf (by omega)|exact List.not_mem_nil|exact dc_length _|exact nc_length _|exact rc_length _ _ _|exact ec_length _|exact nm1 (by omega)|exact nm2 (by omega) (by omega)|exact dct rfl|exact dct (by decide)|exact dcf (by decide)|exact (Int.toNat_of_nonneg (by omega)).symm|exact dcu|exact lk1 (by assumption)|exact lk0 (by assumption)|exact lkb|fail))|fail) ?_ | refine SG.skip rfl rfl ?_)
      refine CG.cond_t rfl (by exact rho_of rfl) rfl ?_
      repeat (first|apply CG.seq|apply CG.region|apply SG.nil|apply NG.next|apply CG.skip|apply CG.block|apply CG.ret|apply CG.exit|apply CG.scope|apply NG.ret_then|apply NG.ret_block|apply NG.ret_scope|apply NG.exit_then|refine NG.exit_block rfl ?_|refine NG.exit_other rfl ?_|apply NG.exit_scope|apply NG.normal_block|apply NG.normal_scope|refine SG.val rfl rfl rfl rfl (by first|((first|apply qmv|apply qas|apply qlc|apply qla|apply qfa|apply qnc|apply qic|apply qix|apply qpk|apply qls|apply qei|apply qni|apply qed|apply qnd|apply qad|apply qln|apply qle|apply qgt|apply qge|apply qlk|apply qlv|apply qxt|apply qsb|apply qnt|apply qep|apply qnp|apply qeb|apply qnb|apply qx2|apply qx4|apply qcv|apply qlm|apply qfr|apply qto|apply qmx|apply qen|apply qsn|apply qx8|apply qx7|apply qx6|apply qx5|apply qx4|apply qx3|apply qx2|apply qx1|apply qx0)<;>(first|exact rfl|exact Ar.mk (by omega)|assumption|exact dct (by assumption)|exact dcf (by assumption)|exact dct (by omega)|exact dcf (by omega)|exact List.not_mem_nil|exact dc_length _|exact nc_length _|exact rc_length _ _ _|exact ec_length _|exact nm1 (by omega)|exact nm2 (by omega) (by omega)|exact dct rfl|exact dct (by decide)|exact dcf (by decide)|exact (Int.toNat_of_nonneg (by omega)).symm|exact dcu|exact lk1 (by assumption)|exact lk0 (by assumption)|exact lkb|fail))|fail) ?_)
      refine ret2 (Or.inl rfl) Try.results29 (by first | exact ResV.tmp rfl | exact ResV.agg rfl rfl (by assumption) (by first | exact dc_length _ | exact nc_length _ | exact rc_length _ _ _ | exact ec_length _ | rfl) | exact ResV.cell rfl rfl (by assumption)) (by first | exact ResV.tmp rfl | exact ResV.agg rfl rfl (by assumption) (by first | exact dc_length _ | exact nc_length _ | exact rc_length _ _ _ | exact ec_length _ | rfl) | exact ResV.cell rfl rfl (by assumption)) ?_
      exact ⟨_, _, rfl, h2, hk1.trans hk2⟩
  have g1 : ¬ n < 0 := fun h => hbad (Or.inl h)
  have g2 : ¬ 1125899906842624 < n := fun h => hbad (Or.inr h)
  repeat (first|apply CG.seq|apply CG.region|apply SG.nil|apply NG.next|apply CG.skip|apply CG.block|apply CG.ret|apply CG.exit|apply CG.scope|apply NG.ret_then|apply NG.ret_block|apply NG.ret_scope|apply NG.exit_then|refine NG.exit_block rfl ?_|refine NG.exit_other rfl ?_|apply NG.exit_scope|apply NG.normal_block|apply NG.normal_scope|refine SG.val rfl rfl rfl rfl (by first|((first|apply qmv|apply qas|apply qlc|apply qla|apply qfa|apply qnc|apply qic|apply qix|apply qpk|apply qls|apply qei|apply qni|apply qed|apply qnd|apply qad|apply qln|apply qle|apply qgt|apply qge|apply qlk|apply qlv|apply qxt|apply qsb|apply qnt|apply qep|apply qnp|apply qeb|apply qnb|apply qx2|apply qx4|apply qcv|apply qlm|apply qfr|apply qto|apply qmx|apply qen|apply qsn|apply qx8|apply qx7|apply qx6|apply qx5|apply qx4|apply qx3|apply qx2|apply qx1|apply qx0)<;>(first|exact rfl|exact Ar.mk (by omega)|assumption|exact dct (by assumption)|exact dcf (by assumption)|exact dct (by omega)|exact dcf (by omega)|exact List.not_mem_nil|exact dc_length _|exact nc_length _|exact rc_length _ _ _|exact ec_length _|exact nm1 (by omega)|exact nm2 (by omega) (by omega)|exact dct rfl|exact dct (by decide)|exact dcf (by decide)|exact (Int.toNat_of_nonneg (by omega)).symm|exact dcu|exact lk1 (by assumption)|exact lk0 (by assumption)|exact lkb|fail))|fail) ?_)
  refine CG.cond_f rfl (by exact rho_of rfl) rfl ?_
  repeat (first|apply CG.seq|apply CG.region|apply SG.nil|apply NG.next|apply CG.skip|apply CG.block|apply CG.ret|apply CG.exit|apply CG.scope|apply NG.ret_then|apply NG.ret_block|apply NG.ret_scope|apply NG.exit_then|refine NG.exit_block rfl ?_|refine NG.exit_other rfl ?_|apply NG.exit_scope|apply NG.normal_block|apply NG.normal_scope|refine SG.val rfl rfl rfl rfl (by first|((first|apply qmv|apply qas|apply qlc|apply qla|apply qfa|apply qnc|apply qic|apply qix|apply qpk|apply qls|apply qei|apply qni|apply qed|apply qnd|apply qad|apply qln|apply qle|apply qgt|apply qge|apply qlk|apply qlv|apply qxt|apply qsb|apply qnt|apply qep|apply qnp|apply qeb|apply qnb|apply qx2|apply qx4|apply qcv|apply qlm|apply qfr|apply qto|apply qmx|apply qen|apply qsn|apply qx8|apply qx7|apply qx6|apply qx5|apply qx4|apply qx3|apply qx2|apply qx1|apply qx0)<;>(first|exact rfl|exact Ar.mk (by omega)|assumption|exact dct (by assumption)|exact dcf (by assumption)|exact dct (by omega)|exact dcf (by omega)|exact List.not_mem_nil|exact dc_length _|exact nc_length _|exact rc_length _ _ _|exact ec_length _|exact nm1 (by omega)|exact nm2 (by omega) (by omega)|exact dct rfl|exact dct (by decide)|exact dcf (by decide)|exact (Int.toNat_of_nonneg (by omega)).symm|exact dcu|exact lk1 (by assumption)|exact lk0 (by assumption)|exact lkb|fail))|fail) ?_)
  refine SG.ret rfl rfl rfl (by repeat' (first | exact True.intro | exact rho_of rfl | refine And.intro ?_ ?_)) (rof_spec c h2 (by omega) f) (fun w3 hk3 => ?_)
  obtain ⟨p, hp⟩ : ∃ p, p = enOf f (ofL l f) := ⟨_, rfl⟩
  have hpm : p.money = (ofL l f).money := by rw [hp]; rfl
  have hpn : p.nonce = (ofL l f).nonce := by rw [hp]; rfl
  have hpk : p.key = f := by rw [hp]; rfl
  rw [← hp]
  refine SG.alloc rfl rfl rfl (fun b10 w4 hk4 hb10 hB10 => ?_)
  refine SG.setAll (old := ec ⟨zk, 0, 0⟩) (l := ec p) rfl rfl (by exact rho_of rfl) (by exact rho_of rfl) hB10 (by first | exact dc_length _ | exact nc_length _ | exact rc_length _ _ _ | exact ec_length _ | rfl) (by first | exact dc_length _ | exact nc_length _ | exact rc_length _ _ _ | exact ec_length _ | rfl) (by first | exact dc_one _ | exact nc_one _ | exact rc_one _ _ _ | exact ec_one _ | rfl) (fun w5 hk5 hB10 => ?_)
  have s3 := hk3.size
  have s4 := hk4.size
  have k25 : Kp [] w2 w5 := (hk3.trans hk4).trans_new hk5 (new1 (by omega))
  obtain ⟨q0, q1, q2, q3⟩ := en_rows hB10
  have h5 := h2.kp0 k25
  by_cases g3 : p.money < n
  · have e2 : rmE l f n = 21 := by unfold rmE; rw [if_neg hbad, if_pos (by omega)]
    have eM : rmL l f t n = l := by unfold rmL; rw [if_neg (by rw [e2]; decide)]
    rw [e2, eM]
    repeat (first|apply CG.seq|apply CG.region|apply SG.nil|apply NG.next|apply CG.skip|apply CG.block|apply CG.ret|apply CG.exit|apply CG.scope|apply NG.ret_then|apply NG.ret_block|apply NG.ret_scope|apply NG.exit_then|refine NG.exit_block rfl ?_|refine NG.exit_other rfl ?_|apply NG.exit_scope|apply NG.normal_block|apply NG.normal_scope|refine SG.val rfl rfl rfl rfl (by first|((first|apply qmv|apply qas|apply qlc|apply qla|apply qfa|apply qnc|apply qic|apply qix|apply qpk|apply qls|apply qei|apply qni|apply qed|apply qnd|apply qad|apply qln|apply qle|apply qgt|apply qge|apply qlk|apply qlv|apply qxt|apply qsb|apply qnt|apply qep|apply qnp|apply qeb|apply qnb|apply qx2|apply qx4|apply qcv|apply qlm|apply qfr|apply qto|apply qmx|apply qen|apply qsn|apply qx8|apply qx7|apply qx6|apply qx5|apply qx4|apply qx3|apply qx2|apply qx1|apply qx0)<;>(first|exact rfl|exact Ar.mk (by omega)|assumption|exact dct (by assumption)|exact dcf (by assumption)|exact dct (by omega)|exact dcf (by omega)|exact List.not_mem_nil|exact dc_length _|exact nc_length _|exact rc_length _ _ _|exact ec_length _|exact nm1 (by omega)|exact nm2 (by omega) (by omega)|exact dct rfl|exact dct (by decide)|exact dcf (by decide)|exact (Int.toNat_of_nonneg (by omega)).symm|exact dcu|exact lk1 (by assumption)|exact lk0 (by assumption)|exact lkb|fail))|fail) ?_)
    refine CG.cond_t rfl (by exact rho_of rfl) rfl ?_
    repeat (first|apply CG.seq|apply CG.region|apply SG.nil|apply NG.next|apply CG.skip|apply CG.block|apply CG.ret|apply CG.exit|apply CG.scope|apply NG.ret_then|apply NG.ret_block|apply NG.ret_scope|apply NG.exit_then|refine NG.exit_block rfl ?_|refine NG.exit_other rfl ?_|apply NG.exit_scope|apply NG.normal_block|apply NG.normal_scope|refine SG.val rfl rfl rfl rfl (by first|((first|apply qmv|apply qas|apply qlc|apply qla|apply qfa|apply qnc|apply qic|apply qix|apply qpk|apply qls|apply qei|apply qni|apply qed|apply qnd|apply qad|apply qln|apply qle|apply qgt|apply qge|apply qlk|apply qlv|apply qxt|apply qsb|apply qnt|apply qep|apply qnp|apply qeb|apply qnb|apply qx2|apply qx4|apply qcv|apply qlm|apply qfr|apply qto|apply qmx|apply qen|apply qsn|apply qx8|apply qx7|apply qx6|apply qx5|apply qx4|apply qx3|apply qx2|apply qx1|apply qx0)<;>(first|exact rfl|exact Ar.mk (by omega)|assumption|exact dct (by assumption)|exact dcf (by assumption)|exact dct (by omega)|exact dcf (by omega)|exact List.not_mem_nil|exact dc_length _|exact nc_length _|exact rc_length _ _ _|exact ec_length _|exact nm1 (by omega)|exact nm2 (by omega) (by omega)|exact dct rfl|exact dct (by decide)|exact dcf (by decide)|exact (Int.toNat_of_nonneg (by omega)).symm|exact dcu|exact lk1 (by assumption)|exact lk0 (by assumption)|exact lkb|fail))|fail) ?_)
    refine ret2 (Or.inl rfl) Try.results29 (by first | exact ResV.tmp rfl | exact ResV.agg rfl rfl (by assumption) (by first | exact dc_length _ | exact nc_length _ | exact rc_length _ _ _ | exact ec_length _ | rfl) | exact ResV.cell rfl rfl (by assumption)) (by first | exact ResV.tmp rfl | exact ResV.agg rfl rfl (by assumption) (by first | exact dc_length _ | exact nc_length _ | exact rc_length _ _ _ | exact ec_length _ | rfl) | exact ResV.cell rfl rfl (by assumption)) ?_
    exact ⟨_, _, rfl, h5, (hk1.trans hk2).trans k25⟩
  have e0 : rmE l f n = 0 := by unfold rmE; rw [if_neg hbad, if_neg (by omega)]
  have eM : rmL l f t n = rm2 (rm1 l f n) t n := by unfold rmL; rw [if_pos e0]
  rw [e0, eM]
  have l5 := hB5.lt
  have l6 := hB6.lt
  have l10 := hB10.lt
  repeat (first|apply CG.seq|apply CG.region|apply SG.nil|apply NG.next|apply CG.skip|apply CG.block|apply CG.ret|apply CG.exit|apply CG.scope|apply NG.ret_then|apply NG.ret_block|apply NG.ret_scope|apply NG.exit_then|refine NG.exit_block rfl ?_|refine NG.exit_other rfl ?_|apply NG.exit_scope|apply NG.normal_block|apply NG.normal_scope|refine SG.val rfl rfl rfl rfl (by first|((first|apply qmv|apply qas|apply qlc|apply qla|apply qfa|apply qnc|apply qic|apply qix|apply qpk|apply qls|apply qei|apply qni|apply qed|apply qnd|apply qad|apply qln|apply qle|apply qgt|apply qge|apply qlk|apply qlv|apply qxt|apply qsb|apply qnt|apply qep|apply qnp|apply qeb|apply qnb|apply qx2|apply qx4|apply qcv|apply qlm|apply qfr|apply qto|apply qmx|apply qen|apply qsn|apply qx8|apply qx7|apply qx6|apply qx5|apply qx4|apply qx3|apply qx2|apply qx1|apply qx0)<;>(first|exact rfl|exact Ar.mk (by omega)|assumption|exact dct (by assumption)|exact dcf (by assumption)|exact dct (by omega)|exact dcf (by omega)|exact List.not_mem_nil|exact dc_length _|exact nc_length _|exact rc_length _ _ _|exact ec_length _|exact nm1 (by omega)|exact nm2 (by omega) (by omega)|exact dct rfl|exact dct (by decide)|exact dcf (by decide)|exact (Int.toNat_of_nonneg (by omega)).symm|exact dcu|exact lk1 (by assumption)|exact lk0 (by assumption)|exact lkb|fail))|fail) ?_)
  refine CG.cond_f rfl (by exact rho_of rfl) rfl ?_
  repeat (first|apply CG.seq|apply CG.region|apply SG.nil|apply NG.next|apply CG.skip|apply CG.block|apply CG.ret|apply CG.exit|apply CG.scope|apply NG.ret_then|apply NG.ret_block|apply NG.ret_scope|apply NG.exit_then|refine NG.exit_block rfl ?_|refine NG.exit_other rfl ?_|apply NG.exit_scope|apply NG.normal_block|apply NG.normal_scope|refine SG.val rfl rfl rfl rfl (by first|((first|apply qmv|apply qas|apply qlc|apply qla|apply qfa|apply qnc|apply qic|apply qix|apply qpk|apply qls|apply qei|apply qni|apply qed|apply qnd|apply qad|apply qln|apply qle|apply qgt|apply qge|apply qlk|apply qlv|apply qxt|apply qsb|apply qnt|apply qep|apply qnp|apply qeb|apply qnb|apply qx2|apply qx4|apply qcv|apply qlm|apply qfr|apply qto|apply qmx|apply qen|apply qsn|apply qx8|apply qx7|apply qx6|apply qx5|apply qx4|apply qx3|apply qx2|apply qx1|apply qx0)<;>(first|exact rfl|exact Ar.mk (by omega)|assumption|exact dct (by assumption)|exact dcf (by assumption)|exact dct (by omega)|exact dcf (by omega)|exact List.not_mem_nil|exact dc_length _|exact nc_length _|exact rc_length _ _ _|exact ec_length _|exact nm1 (by omega)|exact nm2 (by omega) (by omega)|exact dct rfl|exact dct (by decide)|exact dcf (by decide)|exact (Int.toNat_of_nonneg (by omega)).symm|exact dcu|exact lk1 (by assumption)|exact lk0 (by assumption)|exact lkb|fail))|fail) ?_)
  refine SG.setMid (dc p.key) [.int .i64 p.money] [.int .i64 p.nonce] rfl rfl (by exact rho_of rfl) (by exact rho_of rfl) hB10 rfl rfl rfl (dc_length _) rfl (fun w6 hk6 hB10 => ?_)
  have hB10 : Blk w6 b10 (.cells (ec ⟨p.key, p.money - n, p.nonce⟩).toArray 62) := hB10
  have e1 : (⟨p.key, p.money - n, p.nonce⟩ : En) = ⟨f, (ofL l f).money - n, (ofL l f).nonce⟩ := by rw [hpk, hpm, hpn]
  rw [e1] at hB10
  have k26 : Kp [] w2 w6 := k25.trans_new hk6 (new1 (by omega))
  obtain ⟨_, _, _, r3⟩ := en_rows hB10
  repeat (first|apply CG.seq|apply CG.region|apply SG.nil|apply NG.next|apply CG.skip|apply CG.block|apply CG.ret|apply CG.exit|apply CG.scope|apply NG.ret_then|apply NG.ret_block|apply NG.ret_scope|apply NG.exit_then|refine NG.exit_block rfl ?_|refine NG.exit_other rfl ?_|apply NG.exit_scope|apply NG.normal_block|apply NG.normal_scope|refine SG.val rfl rfl rfl rfl (by first|((first|apply qmv|apply qas|apply qlc|apply qla|apply qfa|apply qnc|apply qic|apply qix|apply qpk|apply qls|apply qei|apply qni|apply qed|apply qnd|apply qad|apply qln|apply qle|apply qgt|apply qge|apply qlk|apply qlv|apply qxt|apply qsb|apply qnt|apply qep|apply qnp|apply qeb|apply qnb|apply qx2|apply qx4|apply qcv|apply qlm|apply qfr|apply qto|apply qmx|apply qen|apply qsn|apply qx8|apply qx7|apply qx6|apply qx5|apply qx4|apply qx3|apply qx2|apply qx1|apply qx0)<;>(first|exact rfl|exact Ar.mk (by omega)|assumption|exact dct (by assumption)|exact dcf (by assumption)|exact dct (by omega)|exact dcf (by omega)|exact List.not_mem_nil|exact dc_length _|exact nc_length _|exact rc_length _ _ _|exact ec_length _|exact nm1 (by omega)|exact nm2 (by omega) (by omega)|exact dct rfl|exact dct (by decide)|exact dcf (by decide)|exact (Int.toNat_of_nonneg (by omega)).symm|exact dcu|exact lk1 (by assumption)|exact lk0 (by assumption)|exact lkb|fail))|fail) ?_)
  refine SG.call rfl rfl rfl (by repeat' (first | exact True.intro | exact rho_of rfl | refine And.intro ?_ ?_)) ((set_spec c (h2.kp0 k26) (by omega) ⟨f, (ofL l f).money - n, (ofL l f).nonce⟩).mono (fun e w7 hh => ?_))
  obtain ⟨a7, c7, he7, h7, hk7⟩ := hh
  refine ⟨_, he7, ?_⟩
  have hlen1 := setL_length l ⟨f, (ofL l f).money - n, (ofL l f).nonce⟩
  have hof1 := ofL_set hn ⟨f, (ofL l f).money - n, (ofL l f).nonce⟩ t
  have hrm1 : setL l ⟨f, (ofL l f).money - n, (ofL l f).nonce⟩ = rm1 l f n := rfl
  rw [hrm1] at h7 hlen1 hof1 ⊢
  have hb1 : 0 ≤ (ofL (rm1 l f n) t).money ∧ (ofL (rm1 l f n) t).money ≤ 2000000000000000000 := by
    rw [hof1]
    split
    · simp only; omega
    · omega
  obtain ⟨l1, hl1⟩ : ∃ l1, l1 = rm1 l f n := ⟨_, rfl⟩
  rw [← hl1] at h7 hlen1 hb1 ⊢
  have k27 := k26.trans hk7
  have hR6 := hR6.kp0 k27
  have s7 := hk7.size
  have s6 := k26.size
  repeat (first|apply CG.seq|apply CG.region|apply SG.nil|apply NG.next|apply CG.skip|apply CG.block|apply CG.ret|apply CG.exit|apply CG.scope|apply NG.ret_then|apply NG.ret_block|apply NG.ret_scope|apply NG.exit_then|refine NG.exit_block rfl ?_|refine NG.exit_other rfl ?_|apply NG.exit_scope|apply NG.normal_block|apply NG.normal_scope|refine SG.val rfl rfl rfl rfl (by first|((first|apply qmv|apply qas|apply qlc|apply qla|apply qfa|apply qnc|apply qic|apply qix|apply qpk|apply qls|apply qei|apply qni|apply qed|apply qnd|apply qad|apply qln|apply qle|apply qgt|apply qge|apply qlk|apply qlv|apply qxt|apply qsb|apply qnt|apply qep|apply qnp|apply qeb|apply qnb|apply qx2|apply qx4|apply qcv|apply qlm|apply qfr|apply qto|apply qmx|apply qen|apply qsn|apply qx8|apply qx7|apply qx6|apply qx5|apply qx4|apply qx3|apply qx2|apply qx1|apply qx0)<;>(first|exact rfl|exact Ar.mk (by omega)|assumption|exact dct (by assumption)|exact dcf (by assumption)|exact dct (by omega)|exact dcf (by omega)|exact List.not_mem_nil|exact dc_length _|exact nc_length _|exact rc_length _ _ _|exact ec_length _|exact nm1 (by omega)|exact nm2 (by omega) (by omega)|exact dct rfl|exact dct (by decide)|exact dcf (by decide)|exact (Int.toNat_of_nonneg (by omega)).symm|exact dcu|exact lk1 (by assumption)|exact lk0 (by assumption)|exact lkb|fail))|fail) ?_)
  refine SG.ret rfl rfl rfl (by repeat' (first | exact True.intro | exact rho_of rfl | refine And.intro ?_ ?_)) (rof_spec c7 h7 (by omega) t) (fun w8 hk8 => ?_)
  obtain ⟨q, hq⟩ : ∃ q, q = enOf t (ofL l1 t) := ⟨_, rfl⟩
  have hqm : q.money = (ofL l1 t).money := by rw [hq]; rfl
  have hqn : q.nonce = (ofL l1 t).nonce := by rw [hq]; rfl
  have hqk : q.key = t := by rw [hq]; rfl
  rw [← hq]
  refine SG.alloc rfl rfl rfl (fun b11 w9 hk9 hb11 hB11 => ?_)
  refine SG.setAll (old := ec ⟨zk, 0, 0⟩) (l := ec q) rfl rfl (by exact rho_of rfl) (by exact rho_of rfl) hB11 (by first | exact dc_length _ | exact nc_length _ | exact rc_length _ _ _ | exact ec_length _ | rfl) (by first | exact dc_length _ | exact nc_length _ | exact rc_length _ _ _ | exact ec_length _ | rfl) (by first | exact dc_one _ | exact nc_one _ | exact rc_one _ _ _ | exact ec_one _ | rfl) (fun w10 hk10 hB11 => ?_)
  have s8 := hk8.size
  have s9 := hk9.size
  have k710 : Kp [] w7 w10 := (hk8.trans hk9).trans_new hk10 (new1 (by omega))
  obtain ⟨_, t1, _, _⟩ := en_rows hB11
  repeat (first|apply CG.seq|apply CG.region|apply SG.nil|apply NG.next|apply CG.skip|apply CG.block|apply CG.ret|apply CG.exit|apply CG.scope|apply NG.ret_then|apply NG.ret_block|apply NG.ret_scope|apply NG.exit_then|refine NG.exit_block rfl ?_|refine NG.exit_other rfl ?_|apply NG.exit_scope|apply NG.normal_block|apply NG.normal_scope|refine SG.val rfl rfl rfl rfl (by first|((first|apply qmv|apply qas|apply qlc|apply qla|apply qfa|apply qnc|apply qic|apply qix|apply qpk|apply qls|apply qei|apply qni|apply qed|apply qnd|apply qad|apply qln|apply qle|apply qgt|apply qge|apply qlk|apply qlv|apply qxt|apply qsb|apply qnt|apply qep|apply qnp|apply qeb|apply qnb|apply qx2|apply qx4|apply qcv|apply qlm|apply qfr|apply qto|apply qmx|apply qen|apply qsn|apply qx8|apply qx7|apply qx6|apply qx5|apply qx4|apply qx3|apply qx2|apply qx1|apply qx0)<;>(first|exact rfl|exact Ar.mk (by omega)|assumption|exact dct (by assumption)|exact dcf (by assumption)|exact dct (by omega)|exact dcf (by omega)|exact List.not_mem_nil|exact dc_length _|exact nc_length _|exact rc_length _ _ _|exact ec_length _|exact nm1 (by omega)|exact nm2 (by omega) (by omega)|exact dct rfl|exact dct (by decide)|exact dcf (by decide)|exact (Int.toNat_of_nonneg (by omega)).symm|exact dcu|exact lk1 (by assumption)|exact lk0 (by assumption)|exact lkb|fail))|fail) ?_)
  refine SG.setMid (dc q.key) [.int .i64 q.money] [.int .i64 q.nonce] rfl rfl (by exact rho_of rfl) (by exact rho_of rfl) hB11 rfl rfl rfl (dc_length _) rfl (fun w11 hk11 hB11 => ?_)
  have hB11 : Blk w11 b11 (.cells (ec ⟨q.key, q.money + n, q.nonce⟩).toArray 62) := hB11
  have e1 : (⟨q.key, q.money + n, q.nonce⟩ : En) = ⟨t, (ofL l1 t).money + n, (ofL l1 t).nonce⟩ := by rw [hqk, hqm, hqn]
  rw [e1] at hB11
  have k711 : Kp [] w7 w11 := k710.trans_new hk11 (new1 (by omega))
  obtain ⟨_, _, _, u3⟩ := en_rows hB11
  repeat (first|apply CG.seq|apply CG.region|apply SG.nil|apply NG.next|apply CG.skip|apply CG.block|apply CG.ret|apply CG.exit|apply CG.scope|apply NG.ret_then|apply NG.ret_block|apply NG.ret_scope|apply NG.exit_then|refine NG.exit_block rfl ?_|refine NG.exit_other rfl ?_|apply NG.exit_scope|apply NG.normal_block|apply NG.normal_scope|refine SG.val rfl rfl rfl rfl (by first|((first|apply qmv|apply qas|apply qlc|apply qla|apply qfa|apply qnc|apply qic|apply qix|apply qpk|apply qls|apply qei|apply qni|apply qed|apply qnd|apply qad|apply qln|apply qle|apply qgt|apply qge|apply qlk|apply qlv|apply qxt|apply qsb|apply qnt|apply qep|apply qnp|apply qeb|apply qnb|apply qx2|apply qx4|apply qcv|apply qlm|apply qfr|apply qto|apply qmx|apply qen|apply qsn|apply qx8|apply qx7|apply qx6|apply qx5|apply qx4|apply qx3|apply qx2|apply qx1|apply qx0)<;>(first|exact rfl|exact Ar.mk (by omega)|assumption|exact dct (by assumption)|exact dcf (by assumption)|exact dct (by omega)|exact dcf (by omega)|exact List.not_mem_nil|exact dc_length _|exact nc_length _|exact rc_length _ _ _|exact ec_length _|exact nm1 (by omega)|exact nm2 (by omega) (by omega)|exact dct rfl|exact dct (by decide)|exact dcf (by decide)|exact (Int.toNat_of_nonneg (by omega)).symm|exact dcu|exact lk1 (by assumption)|exact lk0 (by assumption)|exact lkb|fail))|fail) ?_)
  refine SG.call rfl rfl rfl (by repeat' (first | exact True.intro | exact rho_of rfl | refine And.intro ?_ ?_)) ((set_spec c7 (h7.kp0 k711) (by omega) ⟨t, (ofL l1 t).money + n, (ofL l1 t).nonce⟩).mono (fun e w12 hh => ?_))
  obtain ⟨a12, c12, he12, h12, hk12⟩ := hh
  refine ⟨_, he12, ?_⟩
  repeat (first|apply CG.seq|apply CG.region|apply SG.nil|apply NG.next|apply CG.skip|apply CG.block|apply CG.ret|apply CG.exit|apply CG.scope|apply NG.ret_then|apply NG.ret_block|apply NG.ret_scope|apply NG.exit_then|refine NG.exit_block rfl ?_|refine NG.exit_other rfl ?_|apply NG.exit_scope|apply NG.normal_block|apply NG.normal_scope|refine SG.val rfl rfl rfl rfl (by first|((first|apply qmv|apply qas|apply qlc|apply qla|apply qfa|apply qnc|apply qic|apply qix|apply qpk|apply qls|apply qei|apply qni|apply qed|apply qnd|apply qad|apply qln|apply qle|apply qgt|apply qge|apply qlk|apply qlv|apply qxt|apply qsb|apply qnt|apply qep|apply qnp|apply qeb|apply qnb|apply qx2|apply qx4|apply qcv|apply qlm|apply qfr|apply qto|apply qmx|apply qen|apply qsn|apply qx8|apply qx7|apply qx6|apply qx5|apply qx4|apply qx3|apply qx2|apply qx1|apply qx0)<;>(first|exact rfl|exact Ar.mk (by omega)|assumption|exact dct (by assumption)|exact dcf (by assumption)|exact dct (by omega)|exact dcf (by omega)|exact List.not_mem_nil|exact dc_length _|exact nc_length _|exact rc_length _ _ _|exact ec_length _|exact nm1 (by omega)|exact nm2 (by omega) (by omega)|exact dct rfl|exact dct (by decide)|exact dcf (by decide)|exact (Int.toNat_of_nonneg (by omega)).symm|exact dcu|exact lk1 (by assumption)|exact lk0 (by assumption)|exact lkb|fail))|fail) ?_)
  refine ret2 (Or.inl rfl) Try.results29 (by first | exact ResV.tmp rfl | exact ResV.agg rfl rfl (by assumption) (by first | exact dc_length _ | exact nc_length _ | exact rc_length _ _ _ | exact ec_length _ | rfl) | exact ResV.cell rfl rfl (by assumption)) (by first | exact ResV.tmp rfl | exact ResV.agg rfl rfl (by assumption) (by first | exact dc_length _ | exact nc_length _ | exact rc_length _ _ _ | exact ec_length _ | rfl) | exact ResV.cell rfl rfl (by assumption)) ?_
  exact ⟨a12, c12, rfl, h12, (((hk1.trans hk2).trans k27).trans k711).trans hk12⟩
set_option maxHeartbeats 16000000 in
theorem ruse_spec {w : World} {a : Option Addr} {l : List En} (c : Nat) (h : SlE w a l) (hl : l.length ≤ 90000) (hg : LGood l) (k : Dg) (n : Int) : Calls Try.prog 30 #[.slice a l.length c, dv k, .int .i64 n] w (fun r w' => ∃ a' c', r = .returned (.tuple #[.slice a' (ruL l k n).length c', .int .i64 (ruE l k n)]) ∧ SlE w' a' (ruL l k n) ∧ Kp [] w w') := by
  refine enter3 Try.func30 rfl Try.ntmps30 rfl ?_
  have hgk := hg k
  repeat (first|apply CG.seq|apply CG.region|apply SG.nil|apply NG.next|apply CG.skip|apply CG.block|apply CG.ret|apply CG.exit|apply CG.scope|apply NG.ret_then|apply NG.ret_block|apply NG.ret_scope|apply NG.exit_then|refine NG.exit_block rfl ?_|refine NG.exit_other rfl ?_|apply NG.exit_scope|apply NG.normal_block|apply NG.normal_scope|refine SG.val rfl rfl rfl rfl (by first|((first|apply qmv|apply qas|apply qlc|apply qla|apply qfa|apply qnc|apply qic|apply qix|apply qpk|apply qls|apply qei|apply qni|apply qed|apply qnd|apply qad|apply qln|apply qle|apply qgt|apply qge|apply qlk|apply qlv|apply qxt|apply qsb|apply qnt|apply qep|apply qnp|apply qeb|apply qnb|apply qx2|apply qx4|apply qcv|apply qlm|apply qfr|apply qto|apply qmx|apply qen|apply qsn|apply qx8|apply qx7|apply qx6|apply qx5|apply qx4|apply qx3|apply qx2|apply qx1|apply qx0)<;>(first|exact rfl|exact Ar.mk (by omega)|assumption|exact dct (by assumption)|exact dcf (by assumption)|exact dct (by omega)|exact dcf (by omega)|exact List.not_mem_nil|exact dc_length _|exact nc_length _|exact rc_length _ _ _|exact ec_length _|exact nm1 (by omega)|exact nm2 (by omega) (by omega)|exact dct rfl|exact dct (by decide)|exact dcf (by decide)|exact (Int.toNat_of_nonneg (by omega)).symm|exact dcu|exact lk1 (by assumption)|exact lk0 (by assumption)|exact lkb|fail))|fail) ?_)
  refine SG.box rfl rfl rfl (by exact rho_of rfl) (fun b4 w1 hk1 hb4 hB4 => ?_)
  have hR4 : Row w1 b4 0 (dc k) := Row.all hB4 rfl
  have h1 := h.kp0 hk1
  have s1 := hk1.size
  repeat (first|apply CG.seq|apply CG.region|apply SG.nil|apply NG.next|apply CG.skip|apply CG.block|apply CG.ret|apply CG.exit|apply CG.scope|apply NG.ret_then|apply NG.ret_block|apply NG.ret_scope|apply NG.exit_then|refine NG.exit_block rfl ?_|refine NG.exit_other rfl ?_|apply NG.exit_scope|apply NG.normal_block|apply NG.normal_scope|refine SG.val rfl rfl rfl rfl (by first|((first|apply qmv|apply qas|apply qlc|apply qla|apply qfa|apply qnc|apply qic|apply qix|apply qpk|apply qls|apply qei|apply qni|apply qed|apply qnd|apply qad|apply qln|apply qle|apply qgt|apply qge|apply qlk|apply qlv|apply qxt|apply qsb|apply qnt|apply qep|apply qnp|apply qeb|apply qnb|apply qx2|apply qx4|apply qcv|apply qlm|apply qfr|apply qto|apply qmx|apply qen|apply qsn|apply qx8|apply qx7|apply qx6|apply qx5|apply qx4|apply qx3|apply qx2|apply qx1|apply qx0)<;>(first|exact rfl|exact Ar.mk (by omega)|assumption|exact dct (by assumption)|exact dcf (by assumption)|exact dct (by omega)|exact dcf (by omega)|exact List.not_mem_nil|exact dc_length _|exact nc_length _|exact rc_length _ _ _|exact ec_length _|exact nm1 (by omega)|exact nm2 (by omega) (by omega)|exact dct rfl|exact dct (by decide)|exact dcf (by decide)|exact (Int.toNat_of_nonneg (by omega)).symm|exact dcu|exact lk1 (by assumption)|exact lk0 (by assumption)|exact lkb|fail))|fail) ?_)
  refine SG.ret rfl rfl rfl (by repeat' (first | exact True.intro | exact rho_of rfl | refine And.intro ?_ ?_)) (rof_spec c h1 (by omega) k) (fun w3 hk3 => ?_)
  obtain ⟨p, hp⟩ : ∃ p, p = enOf k (ofL l k) := ⟨_, rfl⟩
  have hpm : p.money = (ofL l k).money := by rw [hp]; rfl
  have hpn : p.nonce = (ofL l k).nonce := by rw [hp]; rfl
  have hpk : p.key = k := by rw [hp]; rfl
  rw [← hp]
  refine SG.alloc rfl rfl rfl (fun b8 w4 hk4 hb8 hB8 => ?_)
  refine SG.setAll (old := ec ⟨zk, 0, 0⟩) (l := ec p) rfl rfl (by exact rho_of rfl) (by exact rho_of rfl) hB8 (by first | exact dc_length _ | exact nc_length _ | exact rc_length _ _ _ | exact ec_length _ | rfl) (by first | exact dc_length _ | exact nc_length _ | exact rc_length _ _ _ | exact ec_length _ | rfl) (by first | exact dc_one _ | exact nc_one _ | exact rc_one _ _ _ | exact ec_one _ | rfl) (fun w5 hk5 hB8 => ?_)
  have s3 := hk3.size
  have s4 := hk4.size
  have k15 : Kp [] w1 w5 := (hk3.trans hk4).trans_new hk5 (new1 (by omega))
  obtain ⟨q0, q1, q2, q3⟩ := en_rows hB8
  have h5 := h1.kp0 k15
  by_cases g1 : n < p.nonce
  · have e2 : ruE l k n = 17 := by unfold ruE; rw [if_pos (by omega)]
    have eM : ruL l k n = l := by unfold ruL; rw [if_neg (by rw [e2]; decide)]
    rw [e2, eM]
    repeat (first|apply CG.seq|apply CG.region|apply SG.nil|apply NG.next|apply CG.skip|apply CG.block|apply CG.ret|apply CG.exit|apply CG.scope|apply NG.ret_then|apply NG.ret_block|apply NG.ret_scope|apply NG.exit_then|refine NG.exit_block rfl ?_|refine NG.exit_other rfl ?_|apply NG.exit_scope|apply NG.normal_block|apply NG.normal_scope|refine SG.val rfl rfl rfl rfl (by first|((first|apply qmv|apply qas|apply qlc|apply qla|apply qfa|apply qnc|apply qic|apply qix|apply qpk|apply qls|apply qei|apply qni|apply qed|apply qnd|apply qad|apply qln|apply qle|apply qgt|apply qge|apply qlk|apply qlv|apply qxt|apply qsb|apply qnt|apply qep|apply qnp|apply qeb|apply qnb|apply qx2|apply qx4|apply qcv|apply qlm|apply qfr|apply qto|apply qmx|apply qen|apply qsn|apply qx8|apply qx7|apply qx6|apply qx5|apply qx4|apply qx3|apply qx2|apply qx1|apply qx0)<;>(first|exact rfl|exact Ar.mk (by omega)|assumption|exact dct (by assumption)|exact dcf (by assumption)|exact dct (by omega)|exact dcf (by omega)|exact List.not_mem_nil|exact dc_length _|exact nc_length _|exact rc_length _ _ _|exact ec_length _|exact nm1 (by omega)|exact nm2 (by omega) (by omega)|exact dct rfl|exact dct (by decide)|exact dcf (by decide)|exact (Int.toNat_of_nonneg (by omega)).symm|exact dcu|exact lk1 (by assumption)|exact lk0 (by assumption)|exact lkb|fail))|fail) ?_)
    refine CG.cond_t rfl (by exact rho_of rfl) rfl ?_
    repeat (first|apply CG.seq|apply CG.region|apply SG.nil|apply NG.next|apply CG.skip|apply CG.block|apply CG.ret|apply CG.exit|apply CG.scope|apply NG.ret_then|apply NG.ret_block|apply NG.ret_scope|apply NG.exit_then|refine NG.exit_block rfl ?_|refine NG.exit_other rfl ?_|apply NG.exit_scope|apply NG.normal_block|apply NG.normal_scope|refine SG.val rfl rfl rfl rfl (by first|((first|apply qmv|apply qas|apply qlc|apply qla|apply qfa|apply qnc|apply qic|apply qix|apply qpk|apply qls|apply qei|apply qni|apply qed|apply qnd|apply qad|apply qln|apply qle|apply qgt|apply qge|apply qlk|apply qlv|apply qxt|apply qsb|apply qnt|apply qep|apply qnp|apply qeb|apply qnb|apply qx2|apply qx4|apply qcv|apply qlm|apply qfr|apply qto|apply qmx|apply qen|apply qsn|apply qx8|apply qx7|apply qx6|apply qx5|apply qx4|apply qx3|apply qx2|apply qx1|apply qx0)<;>(first|exact rfl|exact Ar.mk (by omega)|assumption|exact dct (by assumption)|exact dcf (by assumption)|exact dct (by omega)|exact dcf (by omega)|exact List.not_mem_nil|exact dc_length _|exact nc_length _|exact rc_length _ _ _|exact ec_length _|exact nm1 (by omega)|exact nm2 (by omega) (by omega)|exact dct rfl|exact dct (by decide)|exact dcf (by decide)|exact (Int.toNat_of_nonneg (by omega)).symm|exact dcu|exact lk1 (by assumption)|exact lk0 (by assumption)|exact lkb|fail))|fail) ?_)
    refine ret2 (Or.inl rfl) Try.results30 (by first | exact ResV.tmp rfl | exact ResV.agg rfl rfl (by assumption) (by first | exact dc_length _ | exact nc_length _ | exact rc_length _ _ _ | exact ec_length _ | rfl) | exact ResV.cell rfl rfl (by assumption)) (by first | exact ResV.tmp rfl | exact ResV.agg rfl rfl (by assumption) (by first | exact dc_length _ | exact nc_length _ | exact rc_length _ _ _ | exact ec_length _ | rfl) | exact ResV.cell rfl rfl (by assumption)) ?_
    exact ⟨_, _, rfl, h5, hk1.trans k15⟩
  repeat (first|apply CG.seq|apply CG.region|apply SG.nil|apply NG.next|apply CG.skip|apply CG.block|apply CG.ret|apply CG.exit|apply CG.scope|apply NG.ret_then|apply NG.ret_block|apply NG.ret_scope|apply NG.exit_then|refine NG.exit_block rfl ?_|refine NG.exit_other rfl ?_|apply NG.exit_scope|apply NG.normal_block|apply NG.normal_scope|refine SG.val rfl rfl rfl rfl (by first|((first|apply qmv|apply qas|apply qlc|apply qla|apply qfa|apply qnc|apply qic|apply qix|apply qpk|apply qls|apply qei|apply qni|apply qed|apply qnd|apply qad|apply qln|apply qle|apply qgt|apply qge|apply qlk|apply qlv|apply qxt|apply qsb|apply qnt|apply qep|apply qnp|apply qeb|apply qnb|apply qx2|apply qx4|apply qcv|apply qlm|apply qfr|apply qto|apply qmx|apply qen|apply qsn|apply qx8|apply qx7|apply qx6|apply qx5|apply qx4|apply qx3|apply qx2|apply qx1|apply qx0)<;>(first|exact rfl|exact Ar.mk (by omega)|assumption|exact dct (by assumption)|exact dcf (by assumption)|exact dct (by omega)|exact dcf (by omega)|exact List.not_mem_nil|exact dc_length _|exact nc_length _|exact rc_length _ _ _|exact ec_length _|exact nm1 (by omega)|exact nm2 (by omega) (by omega)|exact dct rfl|exact dct (by decide)|exact dcf (by decide)|exact (Int.toNat_of_nonneg (by omega)).symm|exact dcu|exact lk1 (by assumption)|exact lk0 (by assumption)|exact lkb|fail))|fail) ?_)
  refine CG.cond_f rfl (by exact rho_of rfl) rfl ?_
  by_cases g2 : p.nonce < n
  · have e2 : ruE l k n = 20 := by unfold ruE; rw [if_neg (by omega), if_pos (by omega)]
    have eM : ruL l k n = l := by unfold ruL; rw [if_neg (by rw [e2]; decide)]
    rw [e2, eM]
    repeat (first|apply CG.seq|apply CG.region|apply SG.nil|apply NG.next|apply CG.skip|apply CG.block|apply CG.ret|apply CG.exit|apply CG.scope|apply NG.ret_then|apply NG.ret_block|apply NG.ret_scope|apply NG.exit_then|refine NG.exit_block rfl ?_|refine NG.exit_other rfl ?_|apply NG.exit_scope|apply NG.normal_block|apply NG.normal_scope|refine SG.val rfl rfl rfl rfl (by first|((first|apply qmv|apply qas|apply qlc|apply qla|apply qfa|apply qnc|apply qic|apply qix|apply qpk|apply qls|apply qei|apply qni|apply qed|apply qnd|apply qad|apply qln|apply qle|apply qgt|apply qge|apply qlk|apply qlv|apply qxt|apply qsb|apply qnt|apply qep|apply qnp|apply qeb|apply qnb|apply qx2|apply qx4|apply qcv|apply qlm|apply qfr|apply qto|apply qmx|apply qen|apply qsn|apply qx8|apply qx7|apply qx6|apply qx5|apply qx4|apply qx3|apply qx2|apply qx1|apply qx0)<;>(first|exact rfl|exact Ar.mk (by omega)|assumption|exact dct (by assumption)|exact dcf (by assumption)|exact dct (by omega)|exact dcf (by omega)|exact List.not_mem_nil|exact dc_length _|exact nc_length _|exact rc_length _ _ _|exact ec_length _|exact nm1 (by omega)|exact nm2 (by omega) (by omega)|exact dct rfl|exact dct (by decide)|exact dcf (by decide)|exact (Int.toNat_of_nonneg (by omega)).symm|exact dcu|exact lk1 (by assumption)|exact lk0 (by assumption)|exact lkb|fail))|fail) ?_)
    refine CG.cond_t rfl (by exact rho_of rfl) rfl ?_
    repeat (first|apply CG.seq|apply CG.region|apply SG.nil|apply NG.next|apply CG.skip|apply CG.block|apply CG.ret|apply CG.exit|apply CG.scope|apply NG.ret_then|apply NG.ret_block|apply NG.ret_scope|apply NG.exit_then|refine NG.exit_block rfl ?_|refine NG.exit_other rfl ?_|apply NG.exit_scope|apply NG.normal_block|apply NG.normal_scope|refine SG.val rfl rfl rfl rfl (by first|((first|apply qmv|apply qas|apply qlc|apply qla|apply qfa|apply qnc|apply qic|apply qix|apply qpk|apply qls|apply qei|apply qni|apply qed|apply qnd|apply qad|apply qln|apply qle|apply qgt|apply qge|apply qlk|apply qlv|apply qxt|apply qsb|apply qnt|apply qep|apply qnp|apply qeb|apply qnb|apply qx2|apply qx4|apply qcv|apply qlm|apply qfr|apply qto|apply qmx|apply qen|apply qsn|apply qx8|apply qx7|apply qx6|apply qx5|apply qx4|apply qx3|apply qx2|apply qx1|apply qx0)<;>(first|exact rfl|exact Ar.mk (by omega)|assumption|exact dct (by assumption)|exact dcf (by assumption)|exact dct (by omega)|exact dcf (by omega)|exact List.not_mem_nil|exact dc_length _|exact nc_length _|exact rc_length _ _ _|exact ec_length _|exact nm1 (by omega)|exact nm2 (by omega) (by omega)|exact dct rfl|exact dct (by decide)|exact dcf (by decide)|exact (Int.toNat_of_nonneg (by omega)).symm|exact dcu|exact lk1 (by assumption)|exact lk0 (by assumption)|exact lkb|fail))|fail) ?_)
    refine ret2 (Or.inl rfl) Try.results30 (by first | exact ResV.tmp rfl | exact ResV.agg rfl rfl (by assumption) (by first | exact dc_length _ | exact nc_length _ | exact rc_length _ _ _ | exact ec_length _ | rfl) | exact ResV.cell rfl rfl (by assumption)) (by first | exact ResV.tmp rfl | exact ResV.agg rfl rfl (by assumption) (by first | exact dc_length _ | exact nc_length _ | exact rc_length _ _ _ | exact ec_length _ | rfl) | exact ResV.cell rfl rfl (by assumption)) ?_
    exact ⟨_, _, rfl, h5, hk1.trans k15⟩
  repeat (first|apply CG.seq|apply CG.region|apply SG.nil|apply NG.next|apply CG.skip|apply CG.block|apply CG.ret|apply CG.exit|apply CG.scope|apply NG.ret_then|apply NG.ret_block|apply NG.ret_scope|apply NG.exit_then|refine NG.exit_block rfl ?_|refine NG.exit_other rfl ?_|apply NG.exit_scope|apply NG.normal_block|apply NG.normal_scope|refine SG.val rfl rfl rfl rfl (by first|((first|apply qmv|apply qas|apply qlc|apply qla|apply qfa|apply qnc|apply qic|apply qix|apply qpk|apply qls|apply qei|apply qni|apply qed|apply qnd|apply qad|apply qln|apply qle|apply qgt|apply qge|apply qlk|apply qlv|apply qxt|apply qsb|apply qnt|apply qep|apply qnp|apply qeb|apply qnb|apply qx2|apply qx4|apply qcv|apply qlm|apply qfr|apply qto|apply qmx|apply qen|apply qsn|apply qx8|apply qx7|apply qx6|apply qx5|apply qx4|apply qx3|apply qx2|apply qx1|apply qx0)<;>(first|exact rfl|exact Ar.mk (by omega)|assumption|exact dct (by assumption)|exact dcf (by assumption)|exact dct (by omega)|exact dcf (by omega)|exact List.not_mem_nil|exact dc_length _|exact nc_length _|exact rc_length _ _ _|exact ec_length _|exact nm1 (by omega)|exact nm2 (by omega) (by omega)|exact dct rfl|exact dct (by decide)|exact dcf (by decide)|exact (Int.toNat_of_nonneg (by omega)).symm|exact dcu|exact lk1 (by assumption)|exact lk0 (by assumption)|exact lkb|fail))|fail) ?_)
  refine CG.cond_f rfl (by exact rho_of rfl) rfl ?_
  by_cases g3 : n = 1099511627776
  · have e2 : ruE l k n = 2 := by unfold ruE; rw [if_neg (by omega), if_neg (by omega), if_pos g3]
    have eM : ruL l k n = l := by unfold ruL; rw [if_neg (by rw [e2]; decide)]
    rw [e2, eM]
    repeat (first|apply CG.seq|apply CG.region|apply SG.nil|apply NG.next|apply CG.skip|apply CG.block|apply CG.ret|apply CG.exit|apply CG.scope|apply NG.ret_then|apply NG.ret_block|apply NG.ret_scope|apply NG.exit_then|refine NG.exit_block rfl ?_|refine NG.exit_other rfl ?_|apply NG.exit_scope|apply NG.normal_block|apply NG.normal_scope|refine SG.val rfl rfl rfl rfl (by first|((first|apply qmv|apply qas|apply qlc|apply qla|apply qfa|apply qnc|apply qic|apply qix|apply qpk|apply qls|apply qei|apply qni|apply qed|apply qnd|apply qad|apply qln|apply qle|apply qgt|apply qge|apply qlk|apply qlv|apply qxt|apply qsb|apply qnt|apply qep|apply qnp|apply qeb|apply qnb|apply qx2|apply qx4|apply qcv|apply qlm|apply qfr|apply qto|apply qmx|apply qen|apply qsn|apply qx8|apply qx7|apply qx6|apply qx5|apply qx4|apply qx3|apply qx2|apply qx1|apply qx0)<;>(first|exact rfl|exact Ar.mk (by omega)|assumption|exact dct (by assumption)|exact dcf (by assumption)|exact dct (by omega)|exact dcf (by omega)|exact List.not_mem_nil|exact dc_length _|exact nc_length _|exact rc_length _ _ _|exact ec_length _|exact nm1 (by omega)|exact nm2 (by omega) (by omega)|exact dct rfl|exact dct (by decide)|exact dcf (by decide)|exact (Int.toNat_of_nonneg (by omega)).symm|exact dcu|exact lk1 (by assumption)|exact lk0 (by assumption)|exact lkb|fail))|fail) ?_)
    refine CG.cond_t rfl (by exact rho_of rfl) rfl ?_
    repeat (first|apply CG.seq|apply CG.region|apply SG.nil|apply NG.next|apply CG.skip|apply CG.block|apply CG.ret|apply CG.exit|apply CG.scope|apply NG.ret_then|apply NG.ret_block|apply NG.ret_scope|apply NG.exit_then|refine NG.exit_block rfl ?_|refine NG.exit_other rfl ?_|apply NG.exit_scope|apply NG.normal_block|apply NG.normal_scope|refine SG.val rfl rfl rfl rfl (by first|((first|apply qmv|apply qas|apply qlc|apply qla|apply qfa|apply qnc|apply qic|apply qix|apply qpk|apply qls|apply qei|apply qni|apply qed|apply qnd|apply qad|apply qln|apply qle|apply qgt|apply qge|apply qlk|apply qlv|apply qxt|apply qsb|apply qnt|apply qep|apply qnp|apply qeb|apply qnb|apply qx2|apply qx4|apply qcv|apply qlm|apply qfr|apply qto|apply qmx|apply qen|apply qsn|apply qx8|apply qx7|apply qx6|apply qx5|apply qx4|apply qx3|apply qx2|apply qx1|apply qx0)<;>(first|exact rfl|exact Ar.mk (by omega)|assumption|exact dct (by assumption)|exact dcf (by assumption)|exact dct (by omega)|exact dcf (by omega)|exact List.not_mem_nil|exact dc_length _|exact nc_length _|exact rc_length _ _ _|exact ec_length _|exact nm1 (by omega)|exact nm2 (by omega) (by omega)|exact dct rfl|exact dct (by decide)|exact dcf (by decide)|exact (Int.toNat_of_nonneg (by omega)).symm|exact dcu|exact lk1 (by assumption)|exact lk0 (by assumption)|exact lkb|fail))|fail) ?_)
    refine ret2 (Or.inl rfl) Try.results30 (by first | exact ResV.tmp rfl | exact ResV.agg rfl rfl (by assumption) (by first | exact dc_length _ | exact nc_length _ | exact rc_length _ _ _ | exact ec_length _ | rfl) | exact ResV.cell rfl rfl (by assumption)) (by first | exact ResV.tmp rfl | exact ResV.agg rfl rfl (by assumption) (by first | exact dc_length _ | exact nc_length _ | exact rc_length _ _ _ | exact ec_length _ | rfl) | exact ResV.cell rfl rfl (by assumption)) ?_
    exact ⟨_, _, rfl, h5, hk1.trans k15⟩
  have e0 : ruE l k n = 0 := by unfold ruE; rw [if_neg (by omega), if_neg (by omega), if_neg g3]
  have eM : ruL l k n = setL l ⟨k, (ofL l k).money, (ofL l k).nonce + 1⟩ := by unfold ruL; rw [if_pos e0]
  rw [e0, eM]
  repeat (first|apply CG.seq|apply CG.region|apply SG.nil|apply NG.next|apply CG.skip|apply CG.block|apply CG.ret|apply CG.exit|apply CG.scope|apply NG.ret_then|apply NG.ret_block|apply NG.ret_scope|apply NG.exit_then|refine NG.exit_block rfl ?_|refine NG.exit_other rfl ?_|apply NG.exit_scope|apply NG.normal_block|apply NG.normal_scope|refine SG.val rfl rfl rfl rfl (by first|((first|apply qmv|apply qas|apply qlc|apply qla|apply qfa|apply qnc|apply qic|apply qix|apply qpk|apply qls|apply qei|apply qni|apply qed|apply qnd|apply qad|apply qln|apply qle|apply qgt|apply qge|apply qlk|apply qlv|apply qxt|apply qsb|apply qnt|apply qep|apply qnp|apply qeb|apply qnb|apply qx2|apply qx4|apply qcv|apply qlm|apply qfr|apply qto|apply qmx|apply qen|apply qsn|apply qx8|apply qx7|apply qx6|apply qx5|apply qx4|apply qx3|apply qx2|apply qx1|apply qx0)<;>(first|exact rfl|exact Ar.mk (by omega)|assumption|exact dct (by assumption)|exact dcf (by assumption)|exact dct (by omega)|exact dcf (by omega)|exact List.not_mem_nil|exact dc_length _|exact nc_length _|exact rc_length _ _ _|exact ec_length _|exact nm1 (by omega)|exact nm2 (by omega) (by omega)|exact dct rfl|exact dct (by decide)|exact dcf (by decide)|exact (Int.toNat_of_nonneg (by omega)).symm|exact dcu|exact lk1 (by assumption)|exact lk0 (by assumption)|exact lkb|fail))|fail) ?_)
  refine CG.cond_f rfl (by exact rho_of rfl) rfl ?_
  repeat (first|apply CG.seq|apply CG.region|apply SG.nil|apply NG.next|apply CG.skip|apply CG.block|apply CG.ret|apply CG.exit|apply CG.scope|apply NG.ret_then|apply NG.ret_block|apply NG.ret_scope|apply NG.exit_then|refine NG.exit_block rfl ?_|refine NG.exit_other rfl ?_|apply NG.exit_scope|apply NG.normal_block|apply NG.normal_scope|refine SG.val rfl rfl rfl rfl (by first|((first|apply qmv|apply qas|apply qlc|apply qla|apply qfa|apply qnc|apply qic|apply qix|apply qpk|apply qls|apply qei|apply qni|apply qed|apply qnd|apply qad|apply qln|apply qle|apply qgt|apply qge|apply qlk|apply qlv|apply qxt|apply qsb|apply qnt|apply qep|apply qnp|apply qeb|apply qnb|apply qx2|apply qx4|apply qcv|apply qlm|apply qfr|apply qto|apply qmx|apply qen|apply qsn|apply qx8|apply qx7|apply qx6|apply qx5|apply qx4|apply qx3|apply qx2|apply qx1|apply qx0)<;>(first|exact rfl|exact Ar.mk (by omega)|assumption|exact dct (by assumption)|exact dcf (by assumption)|exact dct (by omega)|exact dcf (by omega)|exact List.not_mem_nil|exact dc_length _|exact nc_length _|exact rc_length _ _ _|exact ec_length _|exact nm1 (by omega)|exact nm2 (by omega) (by omega)|exact dct rfl|exact dct (by decide)|exact dcf (by decide)|exact (Int.toNat_of_nonneg (by omega)).symm|exact dcu|exact lk1 (by assumption)|exact lk0 (by assumption)|exact lkb|fail))|fail) ?_)
  refine SG.setMid (dc p.key ++ [.int .i64 p.money]) [.int .i64 p.nonce] [] rfl rfl (by exact rho_of rfl) (by exact rho_of rfl) hB8 (by simp [ec]) rfl rfl (by simp [dc_length]) rfl (fun w6 hk6 hB8 => ?_)
  have hB8 : Blk w6 b8 (.cells (ec ⟨p.key, p.money, p.nonce + 1⟩).toArray 62) := by simpa [ec, Value.cells] using hB8
  have e1 : (⟨p.key, p.money, p.nonce + 1⟩ : En) = ⟨k, (ofL l k).money, (ofL l k).nonce + 1⟩ := by rw [hpk, hpm, hpn]
  rw [e1] at hB8
  have k16 : Kp [] w1 w6 := k15.trans_new hk6 (new1 (by omega))
  obtain ⟨_, _, _, r3⟩ := en_rows hB8
  repeat (first|apply CG.seq|apply CG.region|apply SG.nil|apply NG.next|apply CG.skip|apply CG.block|apply CG.ret|apply CG.exit|apply CG.scope|apply NG.ret_then|apply NG.ret_block|apply NG.ret_scope|apply NG.exit_then|refine NG.exit_block rfl ?_|refine NG.exit_other rfl ?_|apply NG.exit_scope|apply NG.normal_block|apply NG.normal_scope|refine SG.val rfl rfl rfl rfl (by first|((first|apply qmv|apply qas|apply qlc|apply qla|apply qfa|apply qnc|apply qic|apply qix|apply qpk|apply qls|apply qei|apply qni|apply qed|apply qnd|apply qad|apply qln|apply qle|apply qgt|apply qge|apply qlk|apply qlv|apply qxt|apply qsb|apply qnt|apply qep|apply qnp|apply qeb|apply qnb|apply qx2|apply qx4|apply qcv|apply qlm|apply qfr|apply qto|apply qmx|apply qen|apply qsn|apply qx8|apply qx7|apply qx6|apply qx5|apply qx4|apply qx3|apply qx2|apply qx1|apply qx0)<;>(first|exact rfl|exact Ar.mk (by omega)|assumption|exact dct (by assumption)|exact dcf (by assumption)|exact dct (by omega)|exact dcf (by omega)|exact List.not_mem_nil|exact dc_length _|exact nc_length _|exact rc_length _ _ _|exact ec_length _|exact nm1 (by omega)|exact nm2 (by omega) (by omega)|exact dct rfl|exact dct (by decide)|exact dcf (by decide)|exact (Int.toNat_of_nonneg (by omega)).symm|exact dcu|exact lk1 (by assumption)|exact lk0 (by assumption)|exact lkb|fail))|fail) ?_)
  refine SG.call rfl rfl rfl (by repeat' (first | exact True.intro | exact rho_of rfl | refine And.intro ?_ ?_)) ((set_spec c (h1.kp0 k16) (by omega) ⟨k, (ofL l k).money, (ofL l k).nonce + 1⟩).mono (fun e w7 hh => ?_))
  obtain ⟨a7, c7, he7, h7, hk7⟩ := hh
  refine ⟨_, he7, ?_⟩
  repeat (first|apply CG.seq|apply CG.region|apply SG.nil|apply NG.next|apply CG.skip|apply CG.block|apply CG.ret|apply CG.exit|apply CG.scope|apply NG.ret_then|apply NG.ret_block|apply NG.ret_scope|apply NG.exit_then|refine NG.exit_block rfl ?_|refine NG.exit_other rfl ?_|apply NG.exit_scope|apply NG.normal_block|apply NG.normal_scope|refine SG.val rfl rfl rfl rfl (by first|((first|apply qmv|apply qas|apply qlc|apply qla|apply qfa|apply qnc|apply qic|apply qix|apply qpk|apply qls|apply qei|apply qni|apply qed|apply qnd|apply qad|apply qln|apply qle|apply qgt|apply qge|apply qlk|apply qlv|apply qxt|apply qsb|apply qnt|apply qep|apply qnp|apply qeb|apply qnb|apply qx2|apply qx4|apply qcv|apply qlm|apply qfr|apply qto|apply qmx|apply qen|apply qsn|apply qx8|apply qx7|apply qx6|apply qx5|apply qx4|apply qx3|apply qx2|apply qx1|apply qx0)<;>(first|exact rfl|exact Ar.mk (by omega)|assumption|exact dct (by assumption)|exact dcf (by assumption)|exact dct (by omega)|exact dcf (by omega)|exact List.not_mem_nil|exact dc_length _|exact nc_length _|exact rc_length _ _ _|exact ec_length _|exact nm1 (by omega)|exact nm2 (by omega) (by omega)|exact dct rfl|exact dct (by decide)|exact dcf (by decide)|exact (Int.toNat_of_nonneg (by omega)).symm|exact dcu|exact lk1 (by assumption)|exact lk0 (by assumption)|exact lkb|fail))|fail) ?_)
  refine ret2 (Or.inl rfl) Try.results30 (by first | exact ResV.tmp rfl | exact ResV.agg rfl rfl (by assumption) (by first | exact dc_length _ | exact nc_length _ | exact rc_length _ _ _ | exact ec_length _ | rfl) | exact ResV.cell rfl rfl (by assumption)) (by first | exact ResV.tmp rfl | exact ResV.agg rfl rfl (by assumption) (by first | exact dc_length _ | exact nc_length _ | exact rc_length _ _ _ | exact ec_length _ | rfl) | exact ResV.cell rfl rfl (by assumption)) ?_
  exact ⟨a7, c7, rfl, h7, (hk1.trans k16).trans hk7⟩
set_option maxHeartbeats 16000000 in
theorem rtotal_spec {w : World} {a : Option Addr} {l : List En} (c : Nat) (h : SlE w a l) (hl : l.length ≤ 100000) (hp : ∀ e ∈ l, 0 ≤ e.money) (ht : esum l ≤ 4000000000000000000) : Ret Try.prog 19 #[.slice a l.length c] w (.int .i64 (esum l)) := by
  refine enter1 Try.func19 rfl Try.ntmps19 rfl ?_
  repeat (first|apply CG.seq|apply CG.region|apply SG.nil|apply NG.next|apply CG.skip|apply CG.block|apply CG.ret|apply CG.exit|apply CG.scope|apply NG.ret_then|apply NG.ret_block|apply NG.ret_scope|apply NG.exit_then|refine NG.exit_block rfl ?_|refine NG.exit_other rfl ?_|apply NG.exit_scope|apply NG.normal_block|apply NG.normal_scope|refine SG.val rfl rfl rfl rfl (by first|((first|apply qmv|apply qas|apply qlc|apply qla|apply qfa|apply qnc|apply qic|apply qix|apply qpk|apply qls|apply qei|apply qni|apply qed|apply qnd|apply qad|apply qln|apply qle|apply qgt|apply qge|apply qlk|apply qlv|apply qxt|apply qsb|apply qnt|apply qep|apply qnp|apply qeb|apply qnb|apply qx2|apply qx4|apply qcv|apply qlm|apply qfr|apply qto|apply qmx|apply qen|apply qsn|apply qx8|apply qx7|apply qx6|apply qx5|apply qx4|apply qx3|apply qx2|apply qx1|apply qx0)<;>(first|exact rfl|exact Ar.mk (by omega)|assumption|exact dct (by assumption)|exact dcf (by assumption)|exact dct (by omega)|exact dcf (by omega)|exact List.not_mem_nil|exact dc_length _|exact nc_length _|exact rc_length _ _ _|exact ec_length _|exact nm1 (by omega)|exact nm2 (by omega) (by omega)|exact dct rfl|exact dct (by decide)|exact dcf (by decide)|exact (Int.toNat_of_nonneg (by omega)).symm|exact dcu|exact lk1 (by assumption)|exact lk0 (by assumption)|exact lkb|fail))|fail) ?_)
  refine CG.loop (X := Nat) (fun q => [(0, .slice a l.length c), (3, .int .i64 (esum (l.take q))), (4, .int .i64 (q : Int))])
    (fun q w' => q ≤ l.length ∧ w' = w)
    (fun q => l.length - q) 0 ⟨Nat.zero_le _, rfl⟩ (by (repeat' (first | exact True.intro | exact rfl | refine And.intro ?_ ?_))) ?_
  rintro i w1 ⟨hi, rfl⟩
  by_cases hlt : i < l.length
  · have g1 : (i : Int) < (l.length : Int) := by omega
    obtain ⟨b, off, rfl, hr⟩ := h.at hlt
    obtain ⟨x, hx⟩ : ∃ x, x = l[i] := ⟨_, rfl⟩
    rw [← hx] at hr
    obtain ⟨q0, q1, q2⟩ := en_sub hr
    have et : l.take (i + 1) = l.take i ++ [x] := by rw [List.take_add_one, List.getElem?_eq_getElem hlt, hx]; rfl
    have es1 : esum (l.take (i + 1)) = esum (l.take i) + x.money := by rw [et, esum_append]; simp [esum]
    have hs1 := esum_nonneg (l := l.take i) (fun e he => hp e (List.mem_of_mem_take he))
    have hs2 := esum_nonneg (l := l.drop (i + 1)) (fun e he => hp e (List.mem_of_mem_drop he))
    have hs3 : esum (l.take (i + 1)) + esum (l.drop (i + 1)) = esum l := by rw [← esum_append, List.take_append_drop]
    have hs4 : 0 ≤ x.money := hp x (by rw [hx]; exact List.getElem_mem hlt)
    repeat (first|apply CG.seq|apply CG.region|apply SG.nil|apply NG.next|apply CG.skip|apply CG.block|apply CG.ret|apply CG.exit|apply CG.scope|apply NG.ret_then|apply NG.ret_block|apply NG.ret_scope|apply NG.exit_then|refine NG.exit_block rfl ?_|refine NG.exit_other rfl ?_|apply NG.exit_scope|apply NG.normal_block|apply NG.normal_scope|refine SG.val rfl rfl rfl rfl (by first|((first|apply qmv|apply qas|apply qlc|apply qla|apply qfa|apply qnc|apply qic|apply qix|apply qpk|apply qls|apply qei|apply qni|apply qed|apply qnd|apply qad|apply qln|apply qle|apply qgt|apply qge|apply qlk|apply qlv|apply qxt|apply qsb|apply qnt|apply qep|apply qnp|apply qeb|apply qnb|apply qx2|apply qx4|apply qcv|apply qlm|apply qfr|apply qto|apply qmx|apply qen|apply qsn|apply qx8|apply qx7|apply qx6|apply qx5|apply qx4|apply qx3|apply qx2|apply qx1|apply qx0)<;>(first|exact rfl|exact Ar.mk (by omega)|assumption|exact dct (by assumption)|exact dcf (by assumption)|exact dct (by omega)|exact dcf (by omega)|exact List.not_mem_nil|exact dc_length _|exact nc_length _|exact rc_length _ _ _|exact ec_length _|exact nm1 (by omega)|exact nm2 (by omega) (by omega)|exact dct rfl|exact dct (by decide)|exact dcf (by decide)|exact (Int.toNat_of_nonneg (by omega)).symm|exact dcu|exact lk1 (by assumption)|exact lk0 (by assumption)|exact lkb|fail))|fail) ?_)
    refine CG.cond_t rfl (by exact rho_of rfl) rfl ?_
    repeat (first|apply CG.seq|apply CG.region|apply SG.nil|apply NG.next|apply CG.skip|apply CG.block|apply CG.ret|apply CG.exit|apply CG.scope|apply NG.ret_then|apply NG.ret_block|apply NG.ret_scope|apply NG.exit_then|refine NG.exit_block rfl ?_|refine NG.exit_other rfl ?_|apply NG.exit_scope|apply NG.normal_block|apply NG.normal_scope|refine SG.val rfl rfl rfl rfl (by first|((first|apply qmv|apply qas|apply qlc|apply qla|apply qfa|apply qnc|apply qic|apply qix|apply qpk|apply qls|apply qei|apply qni|apply qed|apply qnd|apply qad|apply qln|apply qle|apply qgt|apply qge|apply qlk|apply qlv|apply qxt|apply qsb|apply qnt|apply qep|apply qnp|apply qeb|apply qnb|apply qx2|apply qx4|apply qcv|apply qlm|apply qfr|apply qto|apply qmx|apply qen|apply qsn|apply qx8|apply qx7|apply qx6|apply qx5|apply qx4|apply qx3|apply qx2|apply qx1|apply qx0)<;>(first|exact rfl|exact Ar.mk (by omega)|assumption|exact dct (by assumption)|exact dcf (by assumption)|exact dct (by omega)|exact dcf (by omega)|exact List.not_mem_nil|exact dc_length _|exact nc_length _|exact rc_length _ _ _|exact ec_length _|exact nm1 (by omega)|exact nm2 (by omega) (by omega)|exact dct rfl|exact dct (by decide)|exact dcf (by decide)|exact (Int.toNat_of_nonneg (by omega)).symm|exact dcu|exact lk1 (by assumption)|exact lk0 (by assumption)|exact lkb|fail))|fail) ?_)
    exact NG.round (i + 1) (by rw [es1]; (repeat' (first | exact True.intro | exact rfl | refine And.intro ?_ ?_))) ⟨by omega, rfl⟩ (by omega)
  · have g1 : ¬ (i : Int) < (l.length : Int) := by omega
    have ek : l.take i = l := List.take_of_length_le (by omega)
    rw [ek]
    repeat (first|apply CG.seq|apply CG.region|apply SG.nil|apply NG.next|apply CG.skip|apply CG.block|apply CG.ret|apply CG.exit|apply CG.scope|apply NG.ret_then|apply NG.ret_block|apply NG.ret_scope|apply NG.exit_then|refine NG.exit_block rfl ?_|refine NG.exit_other rfl ?_|apply NG.exit_scope|apply NG.normal_block|apply NG.normal_scope|refine SG.val rfl rfl rfl rfl (by first|((first|apply qmv|apply qas|apply qlc|apply qla|apply qfa|apply qnc|apply qic|apply qix|apply qpk|apply qls|apply qei|apply qni|apply qed|apply qnd|apply qad|apply qln|apply qle|apply qgt|apply qge|apply qlk|apply qlv|apply qxt|apply qsb|apply qnt|apply qep|apply qnp|apply qeb|apply qnb|apply qx2|apply qx4|apply qcv|apply qlm|apply qfr|apply qto|apply qmx|apply qen|apply qsn|apply qx8|apply qx7|apply qx6|apply qx5|apply qx4|apply qx3|apply qx2|apply qx1|apply qx0)<;>(first|exact rfl|exact Ar.mk (by omega)|assumption|exact dct (by assumption)|exact dcf (by assumption)|exact dct (by omega)|exact dcf (by omega)|exact List.not_mem_nil|exact dc_length _|exact nc_length _|exact rc_length _ _ _|exact ec_length _|exact nm1 (by omega)|exact nm2 (by omega) (by omega)|exact dct rfl|exact dct (by decide)|exact dcf (by decide)|exact (Int.toNat_of_nonneg (by omega)).symm|exact dcu|exact lk1 (by assumption)|exact lk0 (by assumption)|exact lkb|fail))|fail) ?_)
    refine CG.cond_f rfl (by exact rho_of rfl) rfl ?_
    repeat (first|apply CG.seq|apply CG.region|apply SG.nil|apply NG.next|apply CG.skip|apply CG.block|apply CG.ret|apply CG.exit|apply CG.scope|apply NG.ret_then|apply NG.ret_block|apply NG.ret_scope|apply NG.exit_then|refine NG.exit_block rfl ?_|refine NG.exit_other rfl ?_|apply NG.exit_scope|apply NG.normal_block|apply NG.normal_scope|refine SG.val rfl rfl rfl rfl (by first|((first|apply qmv|apply qas|apply qlc|apply qla|apply qfa|apply qnc|apply qic|apply qix|apply qpk|apply qls|apply qei|apply qni|apply qed|apply qnd|apply qad|apply qln|apply qle|apply qgt|apply qge|apply qlk|apply qlv|apply qxt|apply qsb|apply qnt|apply qep|apply qnp|apply qeb|apply qnb|apply qx2|apply qx4|apply qcv|apply qlm|apply qfr|apply qto|apply qmx|apply qen|apply qsn|apply qx8|apply qx7|apply qx6|apply qx5|apply qx4|apply qx3|apply qx2|apply qx1|apply qx0)<;>(first|exact rfl|exact Ar.mk (by omega)|assumption|exact dct (by assumption)|exact dcf (by assumption)|exact dct (by omega)|exact dcf (by omega)|exact List.not_mem_nil|exact dc_length _|exact nc_length _|exact rc_length _ _ _|exact ec_length _|exact nm1 (by omega)|exact nm2 (by omega) (by omega)|exact dct rfl|exact dct (by decide)|exact dcf (by decide)|exact (Int.toNat_of_nonneg (by omega)).symm|exact dcu|exact lk1 (by assumption)|exact lk0 (by assumption)|exact lkb|fail))|fail) ?_)
    refine ret1 (Or.inl rfl) Try.results19 (by first | exact ResV.tmp rfl | exact ResV.agg rfl rfl (by assumption) (by first | exact dc_length _ | exact nc_length _ | exact rc_length _ _ _ | exact ec_length _ | rfl) | exact ResV.cell rfl rfl (by assumption)) ?_
    exact ⟨rfl, Kp.refl _ _⟩
end Go.Proofs.Ytkkfppfpbobghaa
/-
  Addresses of an array's elements.
-/
namespace Go.Proofs.Ytkkfppfpbobghaa
set_option linter.unusedVariables false

section
variable {P : Program} {S : List Nat} {w0 : World} {F : World → Prop} {L : Env} {d : Option Nat} {ty : TypeId} {pos : String} {af : Array Edge} {g : Option (Nat × Bool)}
theorem vals_ia {T E : TypeId} {n : Nat} [u : Ut P T (.array n E)] {sz : Nat} [f : Sz P E sz] {x y : Operand} {b off : Nat} {k : IntKind} {j : Nat} (hx : rho L x = .pointer (some ⟨b, off, none⟩)) (hy : rho L y = .int k (j : Int)) (h1 : j < n) :
    Vals P S w0 F L ⟨d, .indexAddr T x y, ty, pos, af, g⟩ (.pointer (some ⟨b, off + j * sz, none⟩)) := fun w _ _ => by
  obtain ⟨i, h2, h3⟩ := f.eq
  have h4 : (j : Int) < n := by omega
  subst h3
  simp [execOp, hx, hy, Instr.indexAt, asIntOf, run_underlying u.eq, sizeOf, typeInfo, Instr.sureAddr, h2, h1, add_none]
theorem qia {T E : TypeId} {n : Nat} [u : Ut P T (.array n E)] {sz : Nat} [f : Sz P E sz] {x y : Operand} {b off : Nat} {k : IntKind} {z : Int} {j : Nat} (hx : ro L x = some (.pointer (some ⟨b, off, none⟩))) (hy : ro L y = some (.int k z)) (hz : z = (j : Int)) (h1 : Ar (j < n)) :
    Vals P S w0 F L ⟨d, .indexAddr T x y, ty, pos, af, g⟩ (.pointer (some ⟨b, off + j * sz, none⟩)) := vals_ia (u := u) (f := f) (rho_of hx) (by rw [rho_of hy, hz]) h1.h
end
end Go.Proofs.Ytkkfppfpbobghaa
/-
  The document's accounts: two the same; keys compared.
-/
namespace Go.Proofs.Ytkkfppfpbobghaa
set_option linter.unusedVariables false

theorem cel5 : Try.prog.cellsOf 5 = 1 := by kernel_rfl
theorem cel44 : Try.prog.cellsOf 44 = 8 := by kernel_rfl
theorem cel62 : Try.prog.cellsOf 62 = 10 := by kernel_rfl
def En.Fit (e : En) : Prop := -4000000000000000000 ≤ e.money ∧ e.money ≤ 4000000000000000000 ∧ -4000000000000000000 ≤ e.nonce ∧ e.nonce ≤ 4000000000000000000
theorem en_lits' (m : Nat) (a0 a1 a2 a3 a4 a5 a6 a7 : UInt8) (x y : Int) (hx : (Lit.int .i64 x).wf = true) (hy : (Lit.int .i64 y).wf = true) : (Try.prog.keyLits (m + 3 + 1) 62 [bv a0, bv a1, bv a2, bv a3, bv a4, bv a5, bv a6, bv a7, .int .i64 x, .int .i64 y]).isSome = true := by
  simp [Program.keyLits, Try.underlying62, Try.underlying44, Try.underlying5, Try.underlying3, cel5, cel44, cel3, cel62, wf_byte, hx, hy, List.range, List.range.loop]
theorem en_lits (e : En) (h : e.Fit) : (Try.prog.keyLits (Try.prog.types.size + 1) 62 (ec e)).isSome = true := by
  obtain ⟨m, hm⟩ := pu_sz
  rw [hm]
  obtain ⟨⟨l, hl⟩, x, y⟩ := e
  obtain ⟨h1, h2, h3, h4⟩ := h
  match l, hl with
  | [a0, a1, a2, a3, a4, a5, a6, a7], _ => exact en_lits' m a0 a1 a2 a3 a4 a5 a6 a7 x y (wf_int x h1 h2) (wf_int y h3 h4)
theorem en_formed (e : En) : (ev e).formed Try.prog 62 = true := by
  simp [Value.formed, Try.underlying62, cel62, ec_length]
theorem ec_inj {a b : En} (h : ec a = ec b) : a = b := by
  obtain ⟨p, n, k⟩ := a
  obtain ⟨q, m, j⟩ := b
  have h' := List.append_inj h (by simp [dc_length])
  have h1 := dc_inj h'.1
  have h2 := h'.2
  simp at h2
  obtain ⟨rfl, rfl⟩ := h2
  simp only at h1
  subst h1
  rfl
theorem equal_en {a b : En} (ha : a.Fit) (hb : b.Fit) (w : World) : (Op.equal 62 (ev a) (ev b)).run Try.prog w = .ok (decide (a = b)) w := by
  obtain ⟨r, h1, h2⟩ := equal_agg (P := Try.prog) (T := 62) 3 (by omega) (by kernel_rfl) (by kernel_rfl) (by rw [Try.underlying62]) (by kernel_rfl) (en_formed a) (en_formed b) (en_lits a ha) (en_lits b hb) w
  have h3 : r = decide (a = b) := by
    by_cases e : a = b
    · rw [decide_eq_true e]
      exact h2.2 (by rw [e])
    · rw [decide_eq_false e]
      cases r with
      | false => rfl
      | true => exact absurd (ec_inj (h2.1 rfl)) e
  rw [h3] at h1
  exact h1
theorem vals_nen {S : List Nat} {w0 : World} {F : World → Prop} {L : Env} {d : Option Nat} {ty : TypeId} {pos : String} {af : Array Edge} {g : Option (Nat × Bool)} {x y : Operand} {T' : TypeId} {a b : En} {c : Bool} (hx : ro L x = some (ev a)) (hy : ro L y = some (ev b)) (ha : a.Fit) (hb : b.Fit) (h : Dc (a = b) c) :
    Vals Try.prog S w0 F L ⟨d, .binOp .neq 62 x y T', ty, pos, af, g⟩ (.bool (!c)) := fun w _ _ => by
  rw [← h.eq]
  simp [execOp, rho_of hx, rho_of hy, eqGuard, binOp, equal_en ha hb]

attribute [local irreducible] CG NG SG Vals Der Row Blk MapIs IterAt DerX
set_option maxHeartbeats 16000000 in
theorem rsame_spec {w : World} {a b : Option Addr} {l m : List En} (c c' : Nat) (h : SlE w a l) (h' : SlE w b m) (hl : l.length ≤ 100000) (hf : ∀ e ∈ l, e.Fit) (hf' : ∀ e ∈ m, e.Fit) : Ret Try.prog 14 #[.slice a l.length c, .slice b m.length c'] w (.bool (decide (l = m))) := by
  refine enter2 Try.func14 rfl Try.ntmps14 rfl ?_
  by_cases hlen : (l.length : Int) = (m.length : Int)
  case neg =>
    repeat (first|apply CG.seq|apply CG.region|apply SG.nil|apply NG.next|apply CG.skip|apply CG.block|apply CG.ret|apply CG.exit|apply CG.scope|apply NG.ret_then|apply NG.ret_block|apply NG.ret_scope|apply NG.exit_then|refine NG.exit_block rfl ?_|refine NG.exit_other rfl ?_|apply NG.exit_scope|apply NG.normal_block|apply NG.normal_scope|refine SG.val rfl rfl rfl rfl (by first|((first|apply qmv|apply qas|apply qlc|apply qla|apply qfa|apply qnc|apply qic|apply qix|apply qpk|apply qls|apply qei|apply qni|apply qed|apply qnd|apply qad|apply qln|apply qle|apply qgt|apply qge|apply qlk|apply qlv|apply qxt|apply qsb|apply qnt|apply qep|apply qnp|apply qeb|apply qnb|apply qx2|apply qx4|apply qcv|apply qlm|apply qfr|apply qto|apply qmx|apply qen|apply qsn|apply qx8|apply qx7|apply qx6|apply qx5|apply qx4|apply qx3|apply qx2|apply qx1|apply qx0)<;>(first|exact rfl|exact Ar.mk (by omega)|assumption|exact dct (by assumption)|exact dcf (by assumption)|exact dct (by omega)|exact dcf (by omega)|exact List.not_mem_nil|exact dc_length _|exact nc_length _|exact rc_length _ _ _|exact ec_length _|exact nm1 (by omega)|exact nm2 (by omega) (by omega)|exact dct rfl|exact dct (by decide)|exact dcf (by decide)|exact (Int.toNat_of_nonneg (by omega)).symm|exact dcu|exact lk1 (by assumption)|exact lk0 (by assumption)|exact lkb|fail))|fail) ?_)
    refine CG.cond_t rfl (by exact rho_of rfl) rfl ?_
    repeat (first|apply CG.seq|apply CG.region|apply SG.nil|apply NG.next|apply CG.skip|apply CG.block|apply CG.ret|apply CG.exit|apply CG.scope|apply NG.ret_then|apply NG.ret_block|apply NG.ret_scope|apply NG.exit_then|refine NG.exit_block rfl ?_|refine NG.exit_other rfl ?_|apply NG.exit_scope|apply NG.normal_block|apply NG.normal_scope|refine SG.val rfl rfl rfl rfl (by first|((first|apply qmv|apply qas|apply qlc|apply qla|apply qfa|apply qnc|apply qic|apply qix|apply qpk|apply qls|apply qei|apply qni|apply qed|apply qnd|apply qad|apply qln|apply qle|apply qgt|apply qge|apply qlk|apply qlv|apply qxt|apply qsb|apply qnt|apply qep|apply qnp|apply qeb|apply qnb|apply qx2|apply qx4|apply qcv|apply qlm|apply qfr|apply qto|apply qmx|apply qen|apply qsn|apply qx8|apply qx7|apply qx6|apply qx5|apply qx4|apply qx3|apply qx2|apply qx1|apply qx0)<;>(first|exact rfl|exact Ar.mk (by omega)|assumption|exact dct (by assumption)|exact dcf (by assumption)|exact dct (by omega)|exact dcf (by omega)|exact List.not_mem_nil|exact dc_length _|exact nc_length _|exact rc_length _ _ _|exact ec_length _|exact nm1 (by omega)|exact nm2 (by omega) (by omega)|exact dct rfl|exact dct (by decide)|exact dcf (by decide)|exact (Int.toNat_of_nonneg (by omega)).symm|exact dcu|exact lk1 (by assumption)|exact lk0 (by assumption)|exact lkb|fail))|fail) ?_)
    refine ret1 (Or.inl rfl) Try.results14 (by first | exact ResV.tmp rfl | exact ResV.agg rfl rfl (by assumption) (by first | exact dc_length _ | exact nc_length _ | exact rc_length _ _ _ | exact ec_length _ | rfl) | exact ResV.cell rfl rfl (by assumption)) ?_
    have : ¬ l = m := fun e => hlen (by rw [e])
    exact ⟨by simp [this], Kp.refl _ _⟩
  repeat (first|apply CG.seq|apply CG.region|apply SG.nil|apply NG.next|apply CG.skip|apply CG.block|apply CG.ret|apply CG.exit|apply CG.scope|apply NG.ret_then|apply NG.ret_block|apply NG.ret_scope|apply NG.exit_then|refine NG.exit_block rfl ?_|refine NG.exit_other rfl ?_|apply NG.exit_scope|apply NG.normal_block|apply NG.normal_scope|refine SG.val rfl rfl rfl rfl (by first|((first|apply qmv|apply qas|apply qlc|apply qla|apply qfa|apply qnc|apply qic|apply qix|apply qpk|apply qls|apply qei|apply qni|apply qed|apply qnd|apply qad|apply qln|apply qle|apply qgt|apply qge|apply qlk|apply qlv|apply qxt|apply qsb|apply qnt|apply qep|apply qnp|apply qeb|apply qnb|apply qx2|apply qx4|apply qcv|apply qlm|apply qfr|apply qto|apply qmx|apply qen|apply qsn|apply qx8|apply qx7|apply qx6|apply qx5|apply qx4|apply qx3|apply qx2|apply qx1|apply qx0)<;>(first|exact rfl|exact Ar.mk (by omega)|assumption|exact dct (by assumption)|exact dcf (by assumption)|exact dct (by omega)|exact dcf (by omega)|exact List.not_mem_nil|exact dc_length _|exact nc_length _|exact rc_length _ _ _|exact ec_length _|exact nm1 (by omega)|exact nm2 (by omega) (by omega)|exact dct rfl|exact dct (by decide)|exact dcf (by decide)|exact (Int.toNat_of_nonneg (by omega)).symm|exact dcu|exact lk1 (by assumption)|exact lk0 (by assumption)|exact lkb|fail))|fail) ?_)
  refine CG.cond_f rfl (by exact rho_of rfl) rfl ?_
  repeat (first|apply CG.seq|apply CG.region|apply SG.nil|apply NG.next|apply CG.skip|apply CG.block|apply CG.ret|apply CG.exit|apply CG.scope|apply NG.ret_then|apply NG.ret_block|apply NG.ret_scope|apply NG.exit_then|refine NG.exit_block rfl ?_|refine NG.exit_other rfl ?_|apply NG.exit_scope|apply NG.normal_block|apply NG.normal_scope|refine SG.val rfl rfl rfl rfl (by first|((first|apply qmv|apply qas|apply qlc|apply qla|apply qfa|apply qnc|apply qic|apply qix|apply qpk|apply qls|apply qei|apply qni|apply qed|apply qnd|apply qad|apply qln|apply qle|apply qgt|apply qge|apply qlk|apply qlv|apply qxt|apply qsb|apply qnt|apply qep|apply qnp|apply qeb|apply qnb|apply qx2|apply qx4|apply qcv|apply qlm|apply qfr|apply qto|apply qmx|apply qen|apply qsn|apply qx8|apply qx7|apply qx6|apply qx5|apply qx4|apply qx3|apply qx2|apply qx1|apply qx0)<;>(first|exact rfl|exact Ar.mk (by omega)|assumption|exact dct (by assumption)|exact dcf (by assumption)|exact dct (by omega)|exact dcf (by omega)|exact List.not_mem_nil|exact dc_length _|exact nc_length _|exact rc_length _ _ _|exact ec_length _|exact nm1 (by omega)|exact nm2 (by omega) (by omega)|exact dct rfl|exact dct (by decide)|exact dcf (by decide)|exact (Int.toNat_of_nonneg (by omega)).symm|exact dcu|exact lk1 (by assumption)|exact lk0 (by assumption)|exact lkb|fail))|fail) ?_)
  refine CG.loop (X := Nat) (fun q => [(0, .slice a l.length c), (1, .slice b m.length c'), (5, .int .i64 (q : Int))])
    (fun q w' => q ≤ l.length ∧ Kp [] w w' ∧ l.take q = m.take q)
    (fun q => l.length - q) 0 ⟨Nat.zero_le _, Kp.refl _ _, by simp⟩ (by (repeat' (first | exact True.intro | exact rfl | refine And.intro ?_ ?_))) ?_
  rintro i w1 ⟨hi, hk, heq⟩
  by_cases hlt : i < l.length
  · have g1 : (i : Int) < (l.length : Int) := by omega
    have hltm : i < m.length := by omega
    obtain ⟨ba, oa, rfl, hr⟩ := (h.kp0 hk).at hlt
    obtain ⟨bb, ob, rfl, hr'⟩ := (h'.kp0 hk).at hltm
    obtain ⟨x, hx⟩ : ∃ x, x = l[i] := ⟨_, rfl⟩
    obtain ⟨y, hy⟩ : ∃ y, y = m[i] := ⟨_, rfl⟩
    rw [← hx] at hr
    rw [← hy] at hr'
    have fx := hf x (by rw [hx]; exact List.getElem_mem hlt)
    have fy := hf' y (by rw [hy]; exact List.getElem_mem hltm)
    repeat (first|apply CG.seq|apply CG.region|apply SG.nil|apply NG.next|apply CG.skip|apply CG.block|apply CG.ret|apply CG.exit|apply CG.scope|apply NG.ret_then|apply NG.ret_block|apply NG.ret_scope|apply NG.exit_then|refine NG.exit_block rfl ?_|refine NG.exit_other rfl ?_|apply NG.exit_scope|apply NG.normal_block|apply NG.normal_scope|refine SG.val rfl rfl rfl rfl (by first|((first|apply qmv|apply qas|apply qlc|apply qla|apply qfa|apply qnc|apply qic|apply qix|apply qpk|apply qls|apply qei|apply qni|apply qed|apply qnd|apply qad|apply qln|apply qle|apply qgt|apply qge|apply qlk|apply qlv|apply qxt|apply qsb|apply qnt|apply qep|apply qnp|apply qeb|apply qnb|apply qx2|apply qx4|apply qcv|apply qlm|apply qfr|apply qto|apply qmx|apply qen|apply qsn|apply qx8|apply qx7|apply qx6|apply qx5|apply qx4|apply qx3|apply qx2|apply qx1|apply qx0)<;>(first|exact rfl|exact Ar.mk (by omega)|assumption|exact dct (by assumption)|exact dcf (by assumption)|exact dct (by omega)|exact dcf (by omega)|exact List.not_mem_nil|exact dc_length _|exact nc_length _|exact rc_length _ _ _|exact ec_length _|exact nm1 (by omega)|exact nm2 (by omega) (by omega)|exact dct rfl|exact dct (by decide)|exact dcf (by decide)|exact (Int.toNat_of_nonneg (by omega)).symm|exact dcu|exact lk1 (by assumption)|exact lk0 (by assumption)|exact lkb|fail))|fail) ?_)
    refine CG.cond_t rfl (by exact rho_of rfl) rfl ?_
    repeat (first|apply CG.seq|apply CG.region|apply SG.nil|apply NG.next|apply CG.skip|apply CG.block|apply CG.ret|apply CG.exit|apply CG.scope|apply NG.ret_then|apply NG.ret_block|apply NG.ret_scope|apply NG.exit_then|refine NG.exit_block rfl ?_|refine NG.exit_other rfl ?_|apply NG.exit_scope|apply NG.normal_block|apply NG.normal_scope|refine SG.val rfl rfl rfl rfl (by first|((first|apply qmv|apply qas|apply qlc|apply qla|apply qfa|apply qnc|apply qic|apply qix|apply qpk|apply qls|apply qei|apply qni|apply qed|apply qnd|apply qad|apply qln|apply qle|apply qgt|apply qge|apply qlk|apply qlv|apply qxt|apply qsb|apply qnt|apply qep|apply qnp|apply qeb|apply qnb|apply qx2|apply qx4|apply qcv|apply qlm|apply qfr|apply qto|apply qmx|apply qen|apply qsn|apply qx8|apply qx7|apply qx6|apply qx5|apply qx4|apply qx3|apply qx2|apply qx1|apply qx0)<;>(first|exact rfl|exact Ar.mk (by omega)|assumption|exact dct (by assumption)|exact dcf (by assumption)|exact dct (by omega)|exact dcf (by omega)|exact List.not_mem_nil|exact dc_length _|exact nc_length _|exact rc_length _ _ _|exact ec_length _|exact nm1 (by omega)|exact nm2 (by omega) (by omega)|exact dct rfl|exact dct (by decide)|exact dcf (by decide)|exact (Int.toNat_of_nonneg (by omega)).symm|exact dcu|exact lk1 (by assumption)|exact lk0 (by assumption)|exact lkb|fail))|fail) ?_)
    refine CG.draw0 mixed [0, 1, 2, 3, 4, 5, 6, 7, 8] [] (by kernel_rfl) ?_
    by_cases e : x = y
    · repeat (refine Der.val rfl rfl rfl (by first|((first|apply qmv|apply qas|apply qlc|apply qla|apply qfa|apply qnc|apply qic|apply qix|apply qpk|apply qls|apply qei|apply qni|apply qed|apply qnd|apply qad|apply qln|apply qle|apply qgt|apply qge|apply qlk|apply qlv|apply qxt|apply qsb|apply qnt|apply qep|apply qnp|apply qeb|apply qnb|apply qx2|apply qx4|apply qcv|apply qlm|apply qfr|apply qto|apply qmx|apply qen|apply qsn|apply qx8|apply qx7|apply qx6|apply qx5|apply qx4|apply qx3|apply qx2|apply qx1|apply qx0)<;>(first|exact rfl|exact Ar.mk (by omega)|assumption|exact dct (by assumption)|exact dcf (by assumption)|exact dct (by omega)|exact dcf (by omega)|exact List.not_mem_nil|exact dc_length _|exact nc_length _|exact rc_length _ _ _|exact ec_length _|exact nm1 (by omega)|exact nm2 (by omega) (by omega)|exact dct rfl|exact dct (by decide)|exact dcf (by decide)|exact (Int.toNat_of_nonneg (by omega)).symm|exact dcu|exact lk1 (by assumption)|exact lk0 (by assumption)|exact lkb|fail))|fail) ?_)
      refine Der.val rfl rfl rfl (vals_nen (a := x) (b := y) rfl rfl fx fy (dct e)) ?_
      refine Der.fin (fun w3 hk3 _ _ => ?_)
      repeat (first|apply CG.seq|apply CG.region|apply SG.nil|apply NG.next|apply CG.skip|apply CG.block|apply CG.ret|apply CG.exit|apply CG.scope|apply NG.ret_then|apply NG.ret_block|apply NG.ret_scope|apply NG.exit_then|refine NG.exit_block rfl ?_|refine NG.exit_other rfl ?_|apply NG.exit_scope|apply NG.normal_block|apply NG.normal_scope|refine SG.val rfl rfl rfl rfl (by first|((first|apply qmv|apply qas|apply qlc|apply qla|apply qfa|apply qnc|apply qic|apply qix|apply qpk|apply qls|apply qei|apply qni|apply qed|apply qnd|apply qad|apply qln|apply qle|apply qgt|apply qge|apply qlk|apply qlv|apply qxt|apply qsb|apply qnt|apply qep|apply qnp|apply qeb|apply qnb|apply qx2|apply qx4|apply qcv|apply qlm|apply qfr|apply qto|apply qmx|apply qen|apply qsn|apply qx8|apply qx7|apply qx6|apply qx5|apply qx4|apply qx3|apply qx2|apply qx1|apply qx0)<;>(first|exact rfl|exact Ar.mk (by omega)|assumption|exact dct (by assumption)|exact dcf (by assumption)|exact dct (by omega)|exact dcf (by omega)|exact List.not_mem_nil|exact dc_length _|exact nc_length _|exact rc_length _ _ _|exact ec_length _|exact nm1 (by omega)|exact nm2 (by omega) (by omega)|exact dct rfl|exact dct (by decide)|exact dcf (by decide)|exact (Int.toNat_of_nonneg (by omega)).symm|exact dcu|exact lk1 (by assumption)|exact lk0 (by assumption)|exact lkb|fail))|fail) ?_)
      refine CG.cond_f rfl (by exact rho_of rfl) rfl ?_
      repeat (first|apply CG.seq|apply CG.region|apply SG.nil|apply NG.next|apply CG.skip|apply CG.block|apply CG.ret|apply CG.exit|apply CG.scope|apply NG.ret_then|apply NG.ret_block|apply NG.ret_scope|apply NG.exit_then|refine NG.exit_block rfl ?_|refine NG.exit_other rfl ?_|apply NG.exit_scope|apply NG.normal_block|apply NG.normal_scope|refine SG.val rfl rfl rfl rfl (by first|((first|apply qmv|apply qas|apply qlc|apply qla|apply qfa|apply qnc|apply qic|apply qix|apply qpk|apply qls|apply qei|apply qni|apply qed|apply qnd|apply qad|apply qln|apply qle|apply qgt|apply qge|apply qlk|apply qlv|apply qxt|apply qsb|apply qnt|apply qep|apply qnp|apply qeb|apply qnb|apply qx2|apply qx4|apply qcv|apply qlm|apply qfr|apply qto|apply qmx|apply qen|apply qsn|apply qx8|apply qx7|apply qx6|apply qx5|apply qx4|apply qx3|apply qx2|apply qx1|apply qx0)<;>(first|exact rfl|exact Ar.mk (by omega)|assumption|exact dct (by assumption)|exact dcf (by assumption)|exact dct (by omega)|exact dcf (by omega)|exact List.not_mem_nil|exact dc_length _|exact nc_length _|exact rc_length _ _ _|exact ec_length _|exact nm1 (by omega)|exact nm2 (by omega) (by omega)|exact dct rfl|exact dct (by decide)|exact dcf (by decide)|exact (Int.toNat_of_nonneg (by omega)).symm|exact dcu|exact lk1 (by assumption)|exact lk0 (by assumption)|exact lkb|fail))|fail) ?_)
      refine NG.round (i + 1) (by (repeat' (first | exact True.intro | exact rfl | refine And.intro ?_ ?_))) ⟨hlt, hk.trans hk3, ?_⟩ (by omega)
      rw [List.take_add_one, List.take_add_one, heq, List.getElem?_eq_getElem hlt, List.getElem?_eq_getElem hltm, ← hx, ← hy, e]
    · repeat (refine Der.val rfl rfl rfl (by first|((first|apply qmv|apply qas|apply qlc|apply qla|apply qfa|apply qnc|apply qic|apply qix|apply qpk|apply qls|apply qei|apply qni|apply qed|apply qnd|apply qad|apply qln|apply qle|apply qgt|apply qge|apply qlk|apply qlv|apply qxt|apply qsb|apply qnt|apply qep|apply qnp|apply qeb|apply qnb|apply qx2|apply qx4|apply qcv|apply qlm|apply qfr|apply qto|apply qmx|apply qen|apply qsn|apply qx8|apply qx7|apply qx6|apply qx5|apply qx4|apply qx3|apply qx2|apply qx1|apply qx0)<;>(first|exact rfl|exact Ar.mk (by omega)|assumption|exact dct (by assumption)|exact dcf (by assumption)|exact dct (by omega)|exact dcf (by omega)|exact List.not_mem_nil|exact dc_length _|exact nc_length _|exact rc_length _ _ _|exact ec_length _|exact nm1 (by omega)|exact nm2 (by omega) (by omega)|exact dct rfl|exact dct (by decide)|exact dcf (by decide)|exact (Int.toNat_of_nonneg (by omega)).symm|exact dcu|exact lk1 (by assumption)|exact lk0 (by assumption)|exact lkb|fail))|fail) ?_)
      refine Der.val rfl rfl rfl (vals_nen (a := x) (b := y) rfl rfl fx fy (dcf e)) ?_
      refine Der.fin (fun w3 hk3 _ _ => ?_)
      repeat (first|apply CG.seq|apply CG.region|apply SG.nil|apply NG.next|apply CG.skip|apply CG.block|apply CG.ret|apply CG.exit|apply CG.scope|apply NG.ret_then|apply NG.ret_block|apply NG.ret_scope|apply NG.exit_then|refine NG.exit_block rfl ?_|refine NG.exit_other rfl ?_|apply NG.exit_scope|apply NG.normal_block|apply NG.normal_scope|refine SG.val rfl rfl rfl rfl (by first|((first|apply qmv|apply qas|apply qlc|apply qla|apply qfa|apply qnc|apply qic|apply qix|apply qpk|apply qls|apply qei|apply qni|apply qed|apply qnd|apply qad|apply qln|apply qle|apply qgt|apply qge|apply qlk|apply qlv|apply qxt|apply qsb|apply qnt|apply qep|apply qnp|apply qeb|apply qnb|apply qx2|apply qx4|apply qcv|apply qlm|apply qfr|apply qto|apply qmx|apply qen|apply qsn|apply qx8|apply qx7|apply qx6|apply qx5|apply qx4|apply qx3|apply qx2|apply qx1|apply qx0)<;>(first|exact rfl|exact Ar.mk (by omega)|assumption|exact dct (by assumption)|exact dcf (by assumption)|exact dct (by omega)|exact dcf (by omega)|exact List.not_mem_nil|exact dc_length _|exact nc_length _|exact rc_length _ _ _|exact ec_length _|exact nm1 (by omega)|exact nm2 (by omega) (by omega)|exact dct rfl|exact dct (by decide)|exact dcf (by decide)|exact (Int.toNat_of_nonneg (by omega)).symm|exact dcu|exact lk1 (by assumption)|exact lk0 (by assumption)|exact lkb|fail))|fail) ?_)
      refine CG.cond_t rfl (by exact rho_of rfl) rfl ?_
      repeat (first|apply CG.seq|apply CG.region|apply SG.nil|apply NG.next|apply CG.skip|apply CG.block|apply CG.ret|apply CG.exit|apply CG.scope|apply NG.ret_then|apply NG.ret_block|apply NG.ret_scope|apply NG.exit_then|refine NG.exit_block rfl ?_|refine NG.exit_other rfl ?_|apply NG.exit_scope|apply NG.normal_block|apply NG.normal_scope|refine SG.val rfl rfl rfl rfl (by first|((first|apply qmv|apply qas|apply qlc|apply qla|apply qfa|apply qnc|apply qic|apply qix|apply qpk|apply qls|apply qei|apply qni|apply qed|apply qnd|apply qad|apply qln|apply qle|apply qgt|apply qge|apply qlk|apply qlv|apply qxt|apply qsb|apply qnt|apply qep|apply qnp|apply qeb|apply qnb|apply qx2|apply qx4|apply qcv|apply qlm|apply qfr|apply qto|apply qmx|apply qen|apply qsn|apply qx8|apply qx7|apply qx6|apply qx5|apply qx4|apply qx3|apply qx2|apply qx1|apply qx0)<;>(first|exact rfl|exact Ar.mk (by omega)|assumption|exact dct (by assumption)|exact dcf (by assumption)|exact dct (by omega)|exact dcf (by omega)|exact List.not_mem_nil|exact dc_length _|exact nc_length _|exact rc_length _ _ _|exact ec_length _|exact nm1 (by omega)|exact nm2 (by omega) (by omega)|exact dct rfl|exact dct (by decide)|exact dcf (by decide)|exact (Int.toNat_of_nonneg (by omega)).symm|exact dcu|exact lk1 (by assumption)|exact lk0 (by assumption)|exact lkb|fail))|fail) ?_)
      refine ret1 (Or.inl rfl) Try.results14 (by first | exact ResV.tmp rfl | exact ResV.agg rfl rfl (by assumption) (by first | exact dc_length _ | exact nc_length _ | exact rc_length _ _ _ | exact ec_length _ | rfl) | exact ResV.cell rfl rfl (by assumption)) ?_
      have : ¬ l = m := fun ee => e (by rw [hx, hy]; simp [ee])
      exact ⟨by simp [this], hk.trans hk3⟩
  · have g1 : ¬ (i : Int) < (l.length : Int) := by omega
    repeat (first|apply CG.seq|apply CG.region|apply SG.nil|apply NG.next|apply CG.skip|apply CG.block|apply CG.ret|apply CG.exit|apply CG.scope|apply NG.ret_then|apply NG.ret_block|apply NG.ret_scope|apply NG.exit_then|refine NG.exit_block rfl ?_|refine NG.exit_other rfl ?_|apply NG.exit_scope|apply NG.normal_block|apply NG.normal_scope|refine SG.val rfl rfl rfl rfl (by first|((first|apply qmv|apply qas|apply qlc|apply qla|apply qfa|apply qnc|apply qic|apply qix|apply qpk|apply qls|apply qei|apply qni|apply qed|apply qnd|apply qad|apply qln|apply qle|apply qgt|apply qge|apply qlk|apply qlv|apply qxt|apply qsb|apply qnt|apply qep|apply qnp|apply qeb|apply qnb|apply qx2|apply qx4|apply qcv|apply qlm|apply qfr|apply qto|apply qmx|apply qen|apply qsn|apply qx8|apply qx7|apply qx6|apply qx5|apply qx4|apply qx3|apply qx2|apply qx1|apply qx0)<;>(first|exact rfl|exact Ar.mk (by omega)|assumption|exact dct (by assumption)|exact dcf (by assumption)|exact dct (by omega)|exact dcf (by omega)|exact List.not_mem_nil|exact dc_length _|exact nc_length _|exact rc_length _ _ _|exact ec_length _|exact nm1 (by omega)|exact nm2 (by omega) (by omega)|exact dct rfl|exact dct (by decide)|exact dcf (by decide)|exact (Int.toNat_of_nonneg (by omega)).symm|exact dcu|exact lk1 (by assumption)|exact lk0 (by assumption)|exact lkb|fail))|fail) ?_)
    refine CG.cond_f rfl (by exact rho_of rfl) rfl ?_
    repeat (first|apply CG.seq|apply CG.region|apply SG.nil|apply NG.next|apply CG.skip|apply CG.block|apply CG.ret|apply CG.exit|apply CG.scope|apply NG.ret_then|apply NG.ret_block|apply NG.ret_scope|apply NG.exit_then|refine NG.exit_block rfl ?_|refine NG.exit_other rfl ?_|apply NG.exit_scope|apply NG.normal_block|apply NG.normal_scope|refine SG.val rfl rfl rfl rfl (by first|((first|apply qmv|apply qas|apply qlc|apply qla|apply qfa|apply qnc|apply qic|apply qix|apply qpk|apply qls|apply qei|apply qni|apply qed|apply qnd|apply qad|apply qln|apply qle|apply qgt|apply qge|apply qlk|apply qlv|apply qxt|apply qsb|apply qnt|apply qep|apply qnp|apply qeb|apply qnb|apply qx2|apply qx4|apply qcv|apply qlm|apply qfr|apply qto|apply qmx|apply qen|apply qsn|apply qx8|apply qx7|apply qx6|apply qx5|apply qx4|apply qx3|apply qx2|apply qx1|apply qx0)<;>(first|exact rfl|exact Ar.mk (by omega)|assumption|exact dct (by assumption)|exact dcf (by assumption)|exact dct (by omega)|exact dcf (by omega)|exact List.not_mem_nil|exact dc_length _|exact nc_length _|exact rc_length _ _ _|exact ec_length _|exact nm1 (by omega)|exact nm2 (by omega) (by omega)|exact dct rfl|exact dct (by decide)|exact dcf (by decide)|exact (Int.toNat_of_nonneg (by omega)).symm|exact dcu|exact lk1 (by assumption)|exact lk0 (by assumption)|exact lkb|fail))|fail) ?_)
    refine ret1 (Or.inl rfl) Try.results14 (by first | exact ResV.tmp rfl | exact ResV.agg rfl rfl (by assumption) (by first | exact dc_length _ | exact nc_length _ | exact rc_length _ _ _ | exact ec_length _ | rfl) | exact ResV.cell rfl rfl (by assumption)) ?_
    have : l = m := by rw [List.take_of_length_le (by omega), List.take_of_length_le (by omega)] at heq; exact heq
    exact ⟨by simp [this], hk⟩

theorem cb_at : ∀ {x y : List UInt8} {i : Nat} {a b : UInt8}, (∀ j < i, x[j]? = y[j]?) → x[i]? = some a → y[i]? = some b → a ≠ b → (cb x y < 0 ↔ a.toNat < b.toNat)
  | [], _, _, _, _, _, h, _, _ => by simp at h
  | _ :: _, [], _, _, _, _, _, h, _ => by simp at h
  | u :: x, v :: y, 0, a, b, _, h1, h2, h3 => by
    simp at h1 h2
    subst h1
    subst h2
    rw [cb_cons]
    by_cases h4 : u.toNat < v.toNat
    · rw [if_pos h4]; simp [h4]
    · have h5 : v.toNat < u.toNat := by
        have : u.toNat ≠ v.toNat := fun e => h3 (UInt8.toNat_inj.1 e)
        omega
      rw [if_neg h4, if_pos h5]
      simp [h4]
  | u :: x, v :: y, i + 1, a, b, h0, h1, h2, h3 => by
    have e : u = v := by have := h0 0 (by omega); simpa using this
    subst e
    rw [cb_cons, if_neg (by omega), if_neg (by omega)]
    exact cb_at (i := i) (fun j hj => by have := h0 (j + 1) (by omega); simpa using this) (by simpa using h1) (by simpa using h2) h3
theorem row_byte {w : World} {b : Nat} {x : Dg} (h : Row w b 0 (dc x)) {i : Nat} (hi : i < 8) : Row w b (0 + i * 1) [.int .u8 ((x.1[i]'(by rw [x.2]; exact hi)).toNat : Int)] := by
  have hl : i < x.1.length := by rw [x.2]; exact hi
  have := h.sub ((x.1.take i).map bv) [bv x.1[i]] ((x.1.drop (i + 1)).map bv) (by
    unfold dc
    rw [← List.map_singleton, ← List.map_append, ← List.map_append]
    congr 1
    rw [List.singleton_append, List.getElem_cons_drop, List.take_append_drop])
  rw [List.length_map, List.length_take, Nat.min_eq_left (by omega)] at this
  rw [Nat.mul_one]
  exact this
set_option maxHeartbeats 16000000 in
theorem rless_spec (w : World) (x y : Dg) : Ret Try.prog 34 #[dv x, dv y] w (.bool (decide (cb x.1 y.1 < 0))) := by
  refine enter2 Try.func34 rfl Try.ntmps34 rfl ?_
  repeat (first|apply CG.seq|apply CG.region|apply SG.nil|apply NG.next|apply CG.skip|apply CG.block|apply CG.ret|apply CG.exit|apply CG.scope|apply NG.ret_then|apply NG.ret_block|apply NG.ret_scope|apply NG.exit_then|refine NG.exit_block rfl ?_|refine NG.exit_other rfl ?_|apply NG.exit_scope|apply NG.normal_block|apply NG.normal_scope|refine SG.val rfl rfl rfl rfl (by first|((first|apply qmv|apply qas|apply qlc|apply qla|apply qfa|apply qnc|apply qic|apply qix|apply qpk|apply qls|apply qei|apply qni|apply qed|apply qnd|apply qad|apply qln|apply qle|apply qgt|apply qge|apply qlk|apply qlv|apply qxt|apply qsb|apply qnt|apply qep|apply qnp|apply qeb|apply qnb|apply qx2|apply qx4|apply qcv|apply qlm|apply qfr|apply qto|apply qmx|apply qen|apply qsn|apply qx8|apply qx7|apply qx6|apply qx5|apply qx4|apply qx3|apply qx2|apply qx1|apply qx0)<;>(first|exact rfl|exact Ar.mk (by omega)|assumption|exact dct (by assumption)|exact dcf (by assumption)|exact dct (by omega)|exact dcf (by omega)|exact List.not_mem_nil|exact dc_length _|exact nc_length _|exact rc_length _ _ _|exact ec_length _|exact nm1 (by omega)|exact nm2 (by omega) (by omega)|exact dct rfl|exact dct (by decide)|exact dcf (by decide)|exact (Int.toNat_of_nonneg (by omega)).symm|exact dcu|exact lk1 (by assumption)|exact lk0 (by assumption)|exact lkb|fail))|fail) ?_)
  refine SG.box rfl rfl rfl (by exact rho_of rfl) (fun b2 w1 hk1 hb2 hB2 => ?_)
  refine SG.box rfl rfl rfl (by exact rho_of rfl) (fun b3 w2 hk2 hb3 hB3 => ?_)
  have hR2 : Row w2 b2 0 (dc x) := Row.all (hB2.kp0 hk2) rfl
  have hR3 : Row w2 b3 0 (dc y) := Row.all hB3 rfl
  have hk12 := hk1.trans hk2
  repeat (first|apply CG.seq|apply CG.region|apply SG.nil|apply NG.next|apply CG.skip|apply CG.block|apply CG.ret|apply CG.exit|apply CG.scope|apply NG.ret_then|apply NG.ret_block|apply NG.ret_scope|apply NG.exit_then|refine NG.exit_block rfl ?_|refine NG.exit_other rfl ?_|apply NG.exit_scope|apply NG.normal_block|apply NG.normal_scope|refine SG.val rfl rfl rfl rfl (by first|((first|apply qmv|apply qas|apply qlc|apply qla|apply qfa|apply qnc|apply qic|apply qix|apply qpk|apply qls|apply qei|apply qni|apply qed|apply qnd|apply qad|apply qln|apply qle|apply qgt|apply qge|apply qlk|apply qlv|apply qxt|apply qsb|apply qnt|apply qep|apply qnp|apply qeb|apply qnb|apply qx2|apply qx4|apply qcv|apply qlm|apply qfr|apply qto|apply qmx|apply qen|apply qsn|apply qx8|apply qx7|apply qx6|apply qx5|apply qx4|apply qx3|apply qx2|apply qx1|apply qx0)<;>(first|exact rfl|exact Ar.mk (by omega)|assumption|exact dct (by assumption)|exact dcf (by assumption)|exact dct (by omega)|exact dcf (by omega)|exact List.not_mem_nil|exact dc_length _|exact nc_length _|exact rc_length _ _ _|exact ec_length _|exact nm1 (by omega)|exact nm2 (by omega) (by omega)|exact dct rfl|exact dct (by decide)|exact dcf (by decide)|exact (Int.toNat_of_nonneg (by omega)).symm|exact dcu|exact lk1 (by assumption)|exact lk0 (by assumption)|exact lkb|fail))|fail) ?_)
  refine CG.loop (X := Nat) (fun q => [(2, .pointer (some ⟨b2, 0, none⟩)), (3, .pointer (some ⟨b3, 0, none⟩)), (5, .int .i64 (q : Int))])
    (fun q w' => q ≤ 8 ∧ Kp [] w2 w' ∧ ∀ j < q, x.1[j]? = y.1[j]?)
    (fun q => 8 - q) 0 ⟨Nat.zero_le _, Kp.refl _ _, fun j hj => absurd hj (by omega)⟩ (by (repeat' (first | exact True.intro | exact rfl | refine And.intro ?_ ?_))) ?_
  rintro i w3 ⟨hi, hk, heq⟩
  by_cases hlt : i < 8
  · have g1 : (i : Int) < 8 := by omega
    have hlx : i < x.1.length := by rw [x.2]; exact hlt
    have hly : i < y.1.length := by rw [y.2]; exact hlt
    have r2 := row_byte (hR2.kp0 hk) hlt
    have r3 := row_byte (hR3.kp0 hk) hlt
    obtain ⟨u, hu⟩ : ∃ u, u = x.1[i] := ⟨_, rfl⟩
    obtain ⟨v, hv⟩ : ∃ v, v = y.1[i] := ⟨_, rfl⟩
    rw [← hu] at r2
    rw [← hv] at r3
    have hxu : x.1[i]? = some u := by rw [List.getElem?_eq_getElem hlx, hu]
    have hyv : y.1[i]? = some v := by rw [List.getElem?_eq_getElem hly, hv]
    repeat (first|apply CG.seq|apply CG.region|apply SG.nil|apply NG.next|apply CG.skip|apply CG.block|apply CG.ret|apply CG.exit|apply CG.scope|apply NG.ret_then|apply NG.ret_block|apply NG.ret_scope|apply NG.exit_then|refine NG.exit_block rfl ?_|refine NG.exit_other rfl ?_|apply NG.exit_scope|apply NG.normal_block|apply NG.normal_scope|refine SG.val rfl rfl rfl rfl (by first|((first|apply qmv|apply qas|apply qlc|apply qla|apply qfa|apply qnc|apply qic|apply qix|apply qpk|apply qls|apply qei|apply qni|apply qed|apply qnd|apply qad|apply qln|apply qle|apply qgt|apply qge|apply qlk|apply qlv|apply qxt|apply qsb|apply qnt|apply qep|apply qnp|apply qeb|apply qnb|apply qx2|apply qx4|apply qcv|apply qlm|apply qfr|apply qto|apply qmx|apply qen|apply qsn|apply qx8|apply qx7|apply qx6|apply qx5|apply qx4|apply qx3|apply qx2|apply qx1|apply qx0)<;>(first|exact rfl|exact Ar.mk (by omega)|assumption|exact dct (by assumption)|exact dcf (by assumption)|exact dct (by omega)|exact dcf (by omega)|exact List.not_mem_nil|exact dc_length _|exact nc_length _|exact rc_length _ _ _|exact ec_length _|exact nm1 (by omega)|exact nm2 (by omega) (by omega)|exact dct rfl|exact dct (by decide)|exact dcf (by decide)|exact (Int.toNat_of_nonneg (by omega)).symm|exact dcu|exact lk1 (by assumption)|exact lk0 (by assumption)|exact lkb|fail))|fail) ?_)
    refine CG.cond_t rfl (by exact rho_of rfl) rfl ?_
    repeat (first|apply CG.seq|apply CG.region|apply SG.nil|apply NG.next|apply CG.skip|apply CG.block|apply CG.ret|apply CG.exit|apply CG.scope|apply NG.ret_then|apply NG.ret_block|apply NG.ret_scope|apply NG.exit_then|refine NG.exit_block rfl ?_|refine NG.exit_other rfl ?_|apply NG.exit_scope|apply NG.normal_block|apply NG.normal_scope|refine SG.val rfl rfl rfl rfl (by first|((first|apply qmv|apply qas|apply qlc|apply qla|apply qfa|apply qnc|apply qic|apply qix|apply qpk|apply qls|apply qei|apply qni|apply qed|apply qnd|apply qad|apply qln|apply qle|apply qgt|apply qge|apply qlk|apply qlv|apply qxt|apply qsb|apply qnt|apply qep|apply qnp|apply qeb|apply qnb|apply qx2|apply qx4|apply qcv|apply qlm|apply qfr|apply qto|apply qmx|apply qen|apply qsn|apply qx8|apply qx7|apply qx6|apply qx5|apply qx4|apply qx3|apply qx2|apply qx1|apply qx0)<;>(first|exact rfl|exact Ar.mk (by omega)|assumption|exact dct (by assumption)|exact dcf (by assumption)|exact dct (by omega)|exact dcf (by omega)|exact List.not_mem_nil|exact dc_length _|exact nc_length _|exact rc_length _ _ _|exact ec_length _|exact nm1 (by omega)|exact nm2 (by omega) (by omega)|exact dct rfl|exact dct (by decide)|exact dcf (by decide)|exact (Int.toNat_of_nonneg (by omega)).symm|exact dcu|exact lk1 (by assumption)|exact lk0 (by assumption)|exact lkb|fail))|fail) ?_)
    refine CG.draw0 mixed [0, 1, 2, 3, 4, 5, 6] [] (by kernel_rfl) ?_
    by_cases e : (u.toNat : Int) = (v.toNat : Int)
    · repeat (refine Der.val rfl rfl rfl (by first|((first|apply qmv|apply qas|apply qlc|apply qla|apply qfa|apply qnc|apply qic|apply qix|apply qpk|apply qls|apply qei|apply qni|apply qed|apply qnd|apply qad|apply qln|apply qle|apply qgt|apply qge|apply qlk|apply qlv|apply qxt|apply qsb|apply qnt|apply qep|apply qnp|apply qeb|apply qnb|apply qx2|apply qx4|apply qcv|apply qlm|apply qfr|apply qto|apply qmx|apply qen|apply qsn|apply qx8|apply qx7|apply qx6|apply qx5|apply qx4|apply qx3|apply qx2|apply qx1|apply qx0)<;>(first|exact rfl|exact Ar.mk (by omega)|assumption|exact dct (by assumption)|exact dcf (by assumption)|exact dct (by omega)|exact dcf (by omega)|exact List.not_mem_nil|exact dc_length _|exact nc_length _|exact rc_length _ _ _|exact ec_length _|exact nm1 (by omega)|exact nm2 (by omega) (by omega)|exact dct rfl|exact dct (by decide)|exact dcf (by decide)|exact (Int.toNat_of_nonneg (by omega)).symm|exact dcu|exact lk1 (by assumption)|exact lk0 (by assumption)|exact lkb|fail))|fail) ?_)
      refine Der.val rfl rfl rfl (qia (j := i) rfl rfl rfl ⟨hlt⟩) ?_
      repeat (refine Der.val rfl rfl rfl (by first|((first|apply qmv|apply qas|apply qlc|apply qla|apply qfa|apply qnc|apply qic|apply qix|apply qpk|apply qls|apply qei|apply qni|apply qed|apply qnd|apply qad|apply qln|apply qle|apply qgt|apply qge|apply qlk|apply qlv|apply qxt|apply qsb|apply qnt|apply qep|apply qnp|apply qeb|apply qnb|apply qx2|apply qx4|apply qcv|apply qlm|apply qfr|apply qto|apply qmx|apply qen|apply qsn|apply qx8|apply qx7|apply qx6|apply qx5|apply qx4|apply qx3|apply qx2|apply qx1|apply qx0)<;>(first|exact rfl|exact Ar.mk (by omega)|assumption|exact dct (by assumption)|exact dcf (by assumption)|exact dct (by omega)|exact dcf (by omega)|exact List.not_mem_nil|exact dc_length _|exact nc_length _|exact rc_length _ _ _|exact ec_length _|exact nm1 (by omega)|exact nm2 (by omega) (by omega)|exact dct rfl|exact dct (by decide)|exact dcf (by decide)|exact (Int.toNat_of_nonneg (by omega)).symm|exact dcu|exact lk1 (by assumption)|exact lk0 (by assumption)|exact lkb|fail))|fail) ?_)
      refine Der.val rfl rfl rfl (qia (j := i) rfl rfl rfl ⟨hlt⟩) ?_
      repeat (refine Der.val rfl rfl rfl (by first|((first|apply qmv|apply qas|apply qlc|apply qla|apply qfa|apply qnc|apply qic|apply qix|apply qpk|apply qls|apply qei|apply qni|apply qed|apply qnd|apply qad|apply qln|apply qle|apply qgt|apply qge|apply qlk|apply qlv|apply qxt|apply qsb|apply qnt|apply qep|apply qnp|apply qeb|apply qnb|apply qx2|apply qx4|apply qcv|apply qlm|apply qfr|apply qto|apply qmx|apply qen|apply qsn|apply qx8|apply qx7|apply qx6|apply qx5|apply qx4|apply qx3|apply qx2|apply qx1|apply qx0)<;>(first|exact rfl|exact Ar.mk (by omega)|assumption|exact dct (by assumption)|exact dcf (by assumption)|exact dct (by omega)|exact dcf (by omega)|exact List.not_mem_nil|exact dc_length _|exact nc_length _|exact rc_length _ _ _|exact ec_length _|exact nm1 (by omega)|exact nm2 (by omega) (by omega)|exact dct rfl|exact dct (by decide)|exact dcf (by decide)|exact (Int.toNat_of_nonneg (by omega)).symm|exact dcu|exact lk1 (by assumption)|exact lk0 (by assumption)|exact lkb|fail))|fail) ?_)
      refine Der.fin (fun w4 hk4 _ _ => ?_)
      repeat (first|apply CG.seq|apply CG.region|apply SG.nil|apply NG.next|apply CG.skip|apply CG.block|apply CG.ret|apply CG.exit|apply CG.scope|apply NG.ret_then|apply NG.ret_block|apply NG.ret_scope|apply NG.exit_then|refine NG.exit_block rfl ?_|refine NG.exit_other rfl ?_|apply NG.exit_scope|apply NG.normal_block|apply NG.normal_scope|refine SG.val rfl rfl rfl rfl (by first|((first|apply qmv|apply qas|apply qlc|apply qla|apply qfa|apply qnc|apply qic|apply qix|apply qpk|apply qls|apply qei|apply qni|apply qed|apply qnd|apply qad|apply qln|apply qle|apply qgt|apply qge|apply qlk|apply qlv|apply qxt|apply qsb|apply qnt|apply qep|apply qnp|apply qeb|apply qnb|apply qx2|apply qx4|apply qcv|apply qlm|apply qfr|apply qto|apply qmx|apply qen|apply qsn|apply qx8|apply qx7|apply qx6|apply qx5|apply qx4|apply qx3|apply qx2|apply qx1|apply qx0)<;>(first|exact rfl|exact Ar.mk (by omega)|assumption|exact dct (by assumption)|exact dcf (by assumption)|exact dct (by omega)|exact dcf (by omega)|exact List.not_mem_nil|exact dc_length _|exact nc_length _|exact rc_length _ _ _|exact ec_length _|exact nm1 (by omega)|exact nm2 (by omega) (by omega)|exact dct rfl|exact dct (by decide)|exact dcf (by decide)|exact (Int.toNat_of_nonneg (by omega)).symm|exact dcu|exact lk1 (by assumption)|exact lk0 (by assumption)|exact lkb|fail))|fail) ?_)
      refine CG.cond_f rfl (by exact rho_of rfl) rfl ?_
      repeat (first|apply CG.seq|apply CG.region|apply SG.nil|apply NG.next|apply CG.skip|apply CG.block|apply CG.ret|apply CG.exit|apply CG.scope|apply NG.ret_then|apply NG.ret_block|apply NG.ret_scope|apply NG.exit_then|refine NG.exit_block rfl ?_|refine NG.exit_other rfl ?_|apply NG.exit_scope|apply NG.normal_block|apply NG.normal_scope|refine SG.val rfl rfl rfl rfl (by first|((first|apply qmv|apply qas|apply qlc|apply qla|apply qfa|apply qnc|apply qic|apply qix|apply qpk|apply qls|apply qei|apply qni|apply qed|apply qnd|apply qad|apply qln|apply qle|apply qgt|apply qge|apply qlk|apply qlv|apply qxt|apply qsb|apply qnt|apply qep|apply qnp|apply qeb|apply qnb|apply qx2|apply qx4|apply qcv|apply qlm|apply qfr|apply qto|apply qmx|apply qen|apply qsn|apply qx8|apply qx7|apply qx6|apply qx5|apply qx4|apply qx3|apply qx2|apply qx1|apply qx0)<;>(first|exact rfl|exact Ar.mk (by omega)|assumption|exact dct (by assumption)|exact dcf (by assumption)|exact dct (by omega)|exact dcf (by omega)|exact List.not_mem_nil|exact dc_length _|exact nc_length _|exact rc_length _ _ _|exact ec_length _|exact nm1 (by omega)|exact nm2 (by omega) (by omega)|exact dct rfl|exact dct (by decide)|exact dcf (by decide)|exact (Int.toNat_of_nonneg (by omega)).symm|exact dcu|exact lk1 (by assumption)|exact lk0 (by assumption)|exact lkb|fail))|fail) ?_)
      refine NG.round (i + 1) (by (repeat' (first | exact True.intro | exact rfl | refine And.intro ?_ ?_))) ⟨by omega, hk.trans hk4, fun j hj => ?_⟩ (by omega)
      by_cases ej : j = i
      · subst ej
        rw [hxu, hyv, UInt8.toNat_inj.1 (show u.toNat = v.toNat by omega)]
      · exact heq j (by omega)
    · have hne : u ≠ v := fun ee => e (by rw [ee])
      have hcb := cb_at heq hxu hyv hne
      repeat (refine Der.val rfl rfl rfl (by first|((first|apply qmv|apply qas|apply qlc|apply qla|apply qfa|apply qnc|apply qic|apply qix|apply qpk|apply qls|apply qei|apply qni|apply qed|apply qnd|apply qad|apply qln|apply qle|apply qgt|apply qge|apply qlk|apply qlv|apply qxt|apply qsb|apply qnt|apply qep|apply qnp|apply qeb|apply qnb|apply qx2|apply qx4|apply qcv|apply qlm|apply qfr|apply qto|apply qmx|apply qen|apply qsn|apply qx8|apply qx7|apply qx6|apply qx5|apply qx4|apply qx3|apply qx2|apply qx1|apply qx0)<;>(first|exact rfl|exact Ar.mk (by omega)|assumption|exact dct (by assumption)|exact dcf (by assumption)|exact dct (by omega)|exact dcf (by omega)|exact List.not_mem_nil|exact dc_length _|exact nc_length _|exact rc_length _ _ _|exact ec_length _|exact nm1 (by omega)|exact nm2 (by omega) (by omega)|exact dct rfl|exact dct (by decide)|exact dcf (by decide)|exact (Int.toNat_of_nonneg (by omega)).symm|exact dcu|exact lk1 (by assumption)|exact lk0 (by assumption)|exact lkb|fail))|fail) ?_)
      refine Der.val rfl rfl rfl (qia (j := i) rfl rfl rfl ⟨hlt⟩) ?_
      repeat (refine Der.val rfl rfl rfl (by first|((first|apply qmv|apply qas|apply qlc|apply qla|apply qfa|apply qnc|apply qic|apply qix|apply qpk|apply qls|apply qei|apply qni|apply qed|apply qnd|apply qad|apply qln|apply qle|apply qgt|apply qge|apply qlk|apply qlv|apply qxt|apply qsb|apply qnt|apply qep|apply qnp|apply qeb|apply qnb|apply qx2|apply qx4|apply qcv|apply qlm|apply qfr|apply qto|apply qmx|apply qen|apply qsn|apply qx8|apply qx7|apply qx6|apply qx5|apply qx4|apply qx3|apply qx2|apply qx1|apply qx0)<;>(first|exact rfl|exact Ar.mk (by omega)|assumption|exact dct (by assumption)|exact dcf (by assumption)|exact dct (by omega)|exact dcf (by omega)|exact List.not_mem_nil|exact dc_length _|exact nc_length _|exact rc_length _ _ _|exact ec_length _|exact nm1 (by omega)|exact nm2 (by omega) (by omega)|exact dct rfl|exact dct (by decide)|exact dcf (by decide)|exact (Int.toNat_of_nonneg (by omega)).symm|exact dcu|exact lk1 (by assumption)|exact lk0 (by assumption)|exact lkb|fail))|fail) ?_)
      refine Der.val rfl rfl rfl (qia (j := i) rfl rfl rfl ⟨hlt⟩) ?_
      repeat (refine Der.val rfl rfl rfl (by first|((first|apply qmv|apply qas|apply qlc|apply qla|apply qfa|apply qnc|apply qic|apply qix|apply qpk|apply qls|apply qei|apply qni|apply qed|apply qnd|apply qad|apply qln|apply qle|apply qgt|apply qge|apply qlk|apply qlv|apply qxt|apply qsb|apply qnt|apply qep|apply qnp|apply qeb|apply qnb|apply qx2|apply qx4|apply qcv|apply qlm|apply qfr|apply qto|apply qmx|apply qen|apply qsn|apply qx8|apply qx7|apply qx6|apply qx5|apply qx4|apply qx3|apply qx2|apply qx1|apply qx0)<;>(first|exact rfl|exact Ar.mk (by omega)|assumption|exact dct (by assumption)|exact dcf (by assumption)|exact dct (by omega)|exact dcf (by omega)|exact List.not_mem_nil|exact dc_length _|exact nc_length _|exact rc_length _ _ _|exact ec_length _|exact nm1 (by omega)|exact nm2 (by omega) (by omega)|exact dct rfl|exact dct (by decide)|exact dcf (by decide)|exact (Int.toNat_of_nonneg (by omega)).symm|exact dcu|exact lk1 (by assumption)|exact lk0 (by assumption)|exact lkb|fail))|fail) ?_)
      refine Der.fin (fun w4 hk4 _ _ => ?_)
      repeat (first|apply CG.seq|apply CG.region|apply SG.nil|apply NG.next|apply CG.skip|apply CG.block|apply CG.ret|apply CG.exit|apply CG.scope|apply NG.ret_then|apply NG.ret_block|apply NG.ret_scope|apply NG.exit_then|refine NG.exit_block rfl ?_|refine NG.exit_other rfl ?_|apply NG.exit_scope|apply NG.normal_block|apply NG.normal_scope|refine SG.val rfl rfl rfl rfl (by first|((first|apply qmv|apply qas|apply qlc|apply qla|apply qfa|apply qnc|apply qic|apply qix|apply qpk|apply qls|apply qei|apply qni|apply qed|apply qnd|apply qad|apply qln|apply qle|apply qgt|apply qge|apply qlk|apply qlv|apply qxt|apply qsb|apply qnt|apply qep|apply qnp|apply qeb|apply qnb|apply qx2|apply qx4|apply qcv|apply qlm|apply qfr|apply qto|apply qmx|apply qen|apply qsn|apply qx8|apply qx7|apply qx6|apply qx5|apply qx4|apply qx3|apply qx2|apply qx1|apply qx0)<;>(first|exact rfl|exact Ar.mk (by omega)|assumption|exact dct (by assumption)|exact dcf (by assumption)|exact dct (by omega)|exact dcf (by omega)|exact List.not_mem_nil|exact dc_length _|exact nc_length _|exact rc_length _ _ _|exact ec_length _|exact nm1 (by omega)|exact nm2 (by omega) (by omega)|exact dct rfl|exact dct (by decide)|exact dcf (by decide)|exact (Int.toNat_of_nonneg (by omega)).symm|exact dcu|exact lk1 (by assumption)|exact lk0 (by assumption)|exact lkb|fail))|fail) ?_)
      refine CG.cond_t rfl (by exact rho_of rfl) rfl ?_
      have r2 := r2.kp0 hk4
      have r3 := r3.kp0 hk4
      repeat (first|apply CG.seq|apply CG.region|apply SG.nil|apply NG.next|apply CG.skip|apply CG.block|apply CG.ret|apply CG.exit|apply CG.scope|apply NG.ret_then|apply NG.ret_block|apply NG.ret_scope|apply NG.exit_then|refine NG.exit_block rfl ?_|refine NG.exit_other rfl ?_|apply NG.exit_scope|apply NG.normal_block|apply NG.normal_scope|refine SG.val rfl rfl rfl rfl (by first|((first|apply qmv|apply qas|apply qlc|apply qla|apply qfa|apply qnc|apply qic|apply qix|apply qpk|apply qls|apply qei|apply qni|apply qed|apply qnd|apply qad|apply qln|apply qle|apply qgt|apply qge|apply qlk|apply qlv|apply qxt|apply qsb|apply qnt|apply qep|apply qnp|apply qeb|apply qnb|apply qx2|apply qx4|apply qcv|apply qlm|apply qfr|apply qto|apply qmx|apply qen|apply qsn|apply qx8|apply qx7|apply qx6|apply qx5|apply qx4|apply qx3|apply qx2|apply qx1|apply qx0)<;>(first|exact rfl|exact Ar.mk (by omega)|assumption|exact dct (by assumption)|exact dcf (by assumption)|exact dct (by omega)|exact dcf (by omega)|exact List.not_mem_nil|exact dc_length _|exact nc_length _|exact rc_length _ _ _|exact ec_length _|exact nm1 (by omega)|exact nm2 (by omega) (by omega)|exact dct rfl|exact dct (by decide)|exact dcf (by decide)|exact (Int.toNat_of_nonneg (by omega)).symm|exact dcu|exact lk1 (by assumption)|exact lk0 (by assumption)|exact lkb|fail))|fail) ?_)
      refine CG.draw0 mixed [0, 1, 2, 3, 4, 5, 6, 7] [] (by kernel_rfl) ?_
      by_cases e2 : (u.toNat : Int) < (v.toNat : Int)
      · repeat (refine Der.val rfl rfl rfl (by first|((first|apply qmv|apply qas|apply qlc|apply qla|apply qfa|apply qnc|apply qic|apply qix|apply qpk|apply qls|apply qei|apply qni|apply qed|apply qnd|apply qad|apply qln|apply qle|apply qgt|apply qge|apply qlk|apply qlv|apply qxt|apply qsb|apply qnt|apply qep|apply qnp|apply qeb|apply qnb|apply qx2|apply qx4|apply qcv|apply qlm|apply qfr|apply qto|apply qmx|apply qen|apply qsn|apply qx8|apply qx7|apply qx6|apply qx5|apply qx4|apply qx3|apply qx2|apply qx1|apply qx0)<;>(first|exact rfl|exact Ar.mk (by omega)|assumption|exact dct (by assumption)|exact dcf (by assumption)|exact dct (by omega)|exact dcf (by omega)|exact List.not_mem_nil|exact dc_length _|exact nc_length _|exact rc_length _ _ _|exact ec_length _|exact nm1 (by omega)|exact nm2 (by omega) (by omega)|exact dct rfl|exact dct (by decide)|exact dcf (by decide)|exact (Int.toNat_of_nonneg (by omega)).symm|exact dcu|exact lk1 (by assumption)|exact lk0 (by assumption)|exact lkb|fail))|fail) ?_)
        refine Der.val rfl rfl rfl (qia (j := i) rfl rfl rfl ⟨hlt⟩) ?_
        repeat (refine Der.val rfl rfl rfl (by first|((first|apply qmv|apply qas|apply qlc|apply qla|apply qfa|apply qnc|apply qic|apply qix|apply qpk|apply qls|apply qei|apply qni|apply qed|apply qnd|apply qad|apply qln|apply qle|apply qgt|apply qge|apply qlk|apply qlv|apply qxt|apply qsb|apply qnt|apply qep|apply qnp|apply qeb|apply qnb|apply qx2|apply qx4|apply qcv|apply qlm|apply qfr|apply qto|apply qmx|apply qen|apply qsn|apply qx8|apply qx7|apply qx6|apply qx5|apply qx4|apply qx3|apply qx2|apply qx1|apply qx0)<;>(first|exact rfl|exact Ar.mk (by omega)|assumption|exact dct (by assumption)|exact dcf (by assumption)|exact dct (by omega)|exact dcf (by omega)|exact List.not_mem_nil|exact dc_length _|exact nc_length _|exact rc_length _ _ _|exact ec_length _|exact nm1 (by omega)|exact nm2 (by omega) (by omega)|exact dct rfl|exact dct (by decide)|exact dcf (by decide)|exact (Int.toNat_of_nonneg (by omega)).symm|exact dcu|exact lk1 (by assumption)|exact lk0 (by assumption)|exact lkb|fail))|fail) ?_)
        refine Der.val rfl rfl rfl (qia (j := i) rfl rfl rfl ⟨hlt⟩) ?_
        repeat (refine Der.val rfl rfl rfl (by first|((first|apply qmv|apply qas|apply qlc|apply qla|apply qfa|apply qnc|apply qic|apply qix|apply qpk|apply qls|apply qei|apply qni|apply qed|apply qnd|apply qad|apply qln|apply qle|apply qgt|apply qge|apply qlk|apply qlv|apply qxt|apply qsb|apply qnt|apply qep|apply qnp|apply qeb|apply qnb|apply qx2|apply qx4|apply qcv|apply qlm|apply qfr|apply qto|apply qmx|apply qen|apply qsn|apply qx8|apply qx7|apply qx6|apply qx5|apply qx4|apply qx3|apply qx2|apply qx1|apply qx0)<;>(first|exact rfl|exact Ar.mk (by omega)|assumption|exact dct (by assumption)|exact dcf (by assumption)|exact dct (by omega)|exact dcf (by omega)|exact List.not_mem_nil|exact dc_length _|exact nc_length _|exact rc_length _ _ _|exact ec_length _|exact nm1 (by omega)|exact nm2 (by omega) (by omega)|exact dct rfl|exact dct (by decide)|exact dcf (by decide)|exact (Int.toNat_of_nonneg (by omega)).symm|exact dcu|exact lk1 (by assumption)|exact lk0 (by assumption)|exact lkb|fail))|fail) ?_)
        refine Der.fin (fun w5 hk5 _ _ => ?_)
        repeat (first|apply CG.seq|apply CG.region|apply SG.nil|apply NG.next|apply CG.skip|apply CG.block|apply CG.ret|apply CG.exit|apply CG.scope|apply NG.ret_then|apply NG.ret_block|apply NG.ret_scope|apply NG.exit_then|refine NG.exit_block rfl ?_|refine NG.exit_other rfl ?_|apply NG.exit_scope|apply NG.normal_block|apply NG.normal_scope|refine SG.val rfl rfl rfl rfl (by first|((first|apply qmv|apply qas|apply qlc|apply qla|apply qfa|apply qnc|apply qic|apply qix|apply qpk|apply qls|apply qei|apply qni|apply qed|apply qnd|apply qad|apply qln|apply qle|apply qgt|apply qge|apply qlk|apply qlv|apply qxt|apply qsb|apply qnt|apply qep|apply qnp|apply qeb|apply qnb|apply qx2|apply qx4|apply qcv|apply qlm|apply qfr|apply qto|apply qmx|apply qen|apply qsn|apply qx8|apply qx7|apply qx6|apply qx5|apply qx4|apply qx3|apply qx2|apply qx1|apply qx0)<;>(first|exact rfl|exact Ar.mk (by omega)|assumption|exact dct (by assumption)|exact dcf (by assumption)|exact dct (by omega)|exact dcf (by omega)|exact List.not_mem_nil|exact dc_length _|exact nc_length _|exact rc_length _ _ _|exact ec_length _|exact nm1 (by omega)|exact nm2 (by omega) (by omega)|exact dct rfl|exact dct (by decide)|exact dcf (by decide)|exact (Int.toNat_of_nonneg (by omega)).symm|exact dcu|exact lk1 (by assumption)|exact lk0 (by assumption)|exact lkb|fail))|fail) ?_)
        refine ret1 (Or.inl rfl) Try.results34 (by first | exact ResV.tmp rfl | exact ResV.agg rfl rfl (by assumption) (by first | exact dc_length _ | exact nc_length _ | exact rc_length _ _ _ | exact ec_length _ | rfl) | exact ResV.cell rfl rfl (by assumption)) ?_
        exact ⟨by rw [decide_eq_true (hcb.2 (by omega))], ((hk12.trans hk).trans hk4).trans hk5⟩
      · repeat (refine Der.val rfl rfl rfl (by first|((first|apply qmv|apply qas|apply qlc|apply qla|apply qfa|apply qnc|apply qic|apply qix|apply qpk|apply qls|apply qei|apply qni|apply qed|apply qnd|apply qad|apply qln|apply qle|apply qgt|apply qge|apply qlk|apply qlv|apply qxt|apply qsb|apply qnt|apply qep|apply qnp|apply qeb|apply qnb|apply qx2|apply qx4|apply qcv|apply qlm|apply qfr|apply qto|apply qmx|apply qen|apply qsn|apply qx8|apply qx7|apply qx6|apply qx5|apply qx4|apply qx3|apply qx2|apply qx1|apply qx0)<;>(first|exact rfl|exact Ar.mk (by omega)|assumption|exact dct (by assumption)|exact dcf (by assumption)|exact dct (by omega)|exact dcf (by omega)|exact List.not_mem_nil|exact dc_length _|exact nc_length _|exact rc_length _ _ _|exact ec_length _|exact nm1 (by omega)|exact nm2 (by omega) (by omega)|exact dct rfl|exact dct (by decide)|exact dcf (by decide)|exact (Int.toNat_of_nonneg (by omega)).symm|exact dcu|exact lk1 (by assumption)|exact lk0 (by assumption)|exact lkb|fail))|fail) ?_)
        refine Der.val rfl rfl rfl (qia (j := i) rfl rfl rfl ⟨hlt⟩) ?_
        repeat (refine Der.val rfl rfl rfl (by first|((first|apply qmv|apply qas|apply qlc|apply qla|apply qfa|apply qnc|apply qic|apply qix|apply qpk|apply qls|apply qei|apply qni|apply qed|apply qnd|apply qad|apply qln|apply qle|apply qgt|apply qge|apply qlk|apply qlv|apply qxt|apply qsb|apply qnt|apply qep|apply qnp|apply qeb|apply qnb|apply qx2|apply qx4|apply qcv|apply qlm|apply qfr|apply qto|apply qmx|apply qen|apply qsn|apply qx8|apply qx7|apply qx6|apply qx5|apply qx4|apply qx3|apply qx2|apply qx1|apply qx0)<;>(first|exact rfl|exact Ar.mk (by omega)|assumption|exact dct (by assumption)|exact dcf (by assumption)|exact dct (by omega)|exact dcf (by omega)|exact List.not_mem_nil|exact dc_length _|exact nc_length _|exact rc_length _ _ _|exact ec_length _|exact nm1 (by omega)|exact nm2 (by omega) (by omega)|exact dct rfl|exact dct (by decide)|exact dcf (by decide)|exact (Int.toNat_of_nonneg (by omega)).symm|exact dcu|exact lk1 (by assumption)|exact lk0 (by assumption)|exact lkb|fail))|fail) ?_)
        refine Der.val rfl rfl rfl (qia (j := i) rfl rfl rfl ⟨hlt⟩) ?_
        repeat (refine Der.val rfl rfl rfl (by first|((first|apply qmv|apply qas|apply qlc|apply qla|apply qfa|apply qnc|apply qic|apply qix|apply qpk|apply qls|apply qei|apply qni|apply qed|apply qnd|apply qad|apply qln|apply qle|apply qgt|apply qge|apply qlk|apply qlv|apply qxt|apply qsb|apply qnt|apply qep|apply qnp|apply qeb|apply qnb|apply qx2|apply qx4|apply qcv|apply qlm|apply qfr|apply qto|apply qmx|apply qen|apply qsn|apply qx8|apply qx7|apply qx6|apply qx5|apply qx4|apply qx3|apply qx2|apply qx1|apply qx0)<;>(first|exact rfl|exact Ar.mk (by omega)|assumption|exact dct (by assumption)|exact dcf (by assumption)|exact dct (by omega)|exact dcf (by omega)|exact List.not_mem_nil|exact dc_length _|exact nc_length _|exact rc_length _ _ _|exact ec_length _|exact nm1 (by omega)|exact nm2 (by omega) (by omega)|exact dct rfl|exact dct (by decide)|exact dcf (by decide)|exact (Int.toNat_of_nonneg (by omega)).symm|exact dcu|exact lk1 (by assumption)|exact lk0 (by assumption)|exact lkb|fail))|fail) ?_)
        refine Der.fin (fun w5 hk5 _ _ => ?_)
        repeat (first|apply CG.seq|apply CG.region|apply SG.nil|apply NG.next|apply CG.skip|apply CG.block|apply CG.ret|apply CG.exit|apply CG.scope|apply NG.ret_then|apply NG.ret_block|apply NG.ret_scope|apply NG.exit_then|refine NG.exit_block rfl ?_|refine NG.exit_other rfl ?_|apply NG.exit_scope|apply NG.normal_block|apply NG.normal_scope|refine SG.val rfl rfl rfl rfl (by first|((first|apply qmv|apply qas|apply qlc|apply qla|apply qfa|apply qnc|apply qic|apply qix|apply qpk|apply qls|apply qei|apply qni|apply qed|apply qnd|apply qad|apply qln|apply qle|apply qgt|apply qge|apply qlk|apply qlv|apply qxt|apply qsb|apply qnt|apply qep|apply qnp|apply qeb|apply qnb|apply qx2|apply qx4|apply qcv|apply qlm|apply qfr|apply qto|apply qmx|apply qen|apply qsn|apply qx8|apply qx7|apply qx6|apply qx5|apply qx4|apply qx3|apply qx2|apply qx1|apply qx0)<;>(first|exact rfl|exact Ar.mk (by omega)|assumption|exact dct (by assumption)|exact dcf (by assumption)|exact dct (by omega)|exact dcf (by omega)|exact List.not_mem_nil|exact dc_length _|exact nc_length _|exact rc_length _ _ _|exact ec_length _|exact nm1 (by omega)|exact nm2 (by omega) (by omega)|exact dct rfl|exact dct (by decide)|exact dcf (by decide)|exact (Int.toNat_of_nonneg (by omega)).symm|exact dcu|exact lk1 (by assumption)|exact lk0 (by assumption)|exact lkb|fail))|fail) ?_)
        refine ret1 (Or.inl rfl) Try.results34 (by first | exact ResV.tmp rfl | exact ResV.agg rfl rfl (by assumption) (by first | exact dc_length _ | exact nc_length _ | exact rc_length _ _ _ | exact ec_length _ | rfl) | exact ResV.cell rfl rfl (by assumption)) ?_
        exact ⟨by rw [decide_eq_false (fun hh => e2 (by have := hcb.1 hh; omega))], ((hk12.trans hk).trans hk4).trans hk5⟩
  · have g1 : ¬ (i : Int) < 8 := by omega
    repeat (first|apply CG.seq|apply CG.region|apply SG.nil|apply NG.next|apply CG.skip|apply CG.block|apply CG.ret|apply CG.exit|apply CG.scope|apply NG.ret_then|apply NG.ret_block|apply NG.ret_scope|apply NG.exit_then|refine NG.exit_block rfl ?_|refine NG.exit_other rfl ?_|apply NG.exit_scope|apply NG.normal_block|apply NG.normal_scope|refine SG.val rfl rfl rfl rfl (by first|((first|apply qmv|apply qas|apply qlc|apply qla|apply qfa|apply qnc|apply qic|apply qix|apply qpk|apply qls|apply qei|apply qni|apply qed|apply qnd|apply qad|apply qln|apply qle|apply qgt|apply qge|apply qlk|apply qlv|apply qxt|apply qsb|apply qnt|apply qep|apply qnp|apply qeb|apply qnb|apply qx2|apply qx4|apply qcv|apply qlm|apply qfr|apply qto|apply qmx|apply qen|apply qsn|apply qx8|apply qx7|apply qx6|apply qx5|apply qx4|apply qx3|apply qx2|apply qx1|apply qx0)<;>(first|exact rfl|exact Ar.mk (by omega)|assumption|exact dct (by assumption)|exact dcf (by assumption)|exact dct (by omega)|exact dcf (by omega)|exact List.not_mem_nil|exact dc_length _|exact nc_length _|exact rc_length _ _ _|exact ec_length _|exact nm1 (by omega)|exact nm2 (by omega) (by omega)|exact dct rfl|exact dct (by decide)|exact dcf (by decide)|exact (Int.toNat_of_nonneg (by omega)).symm|exact dcu|exact lk1 (by assumption)|exact lk0 (by assumption)|exact lkb|fail))|fail) ?_)
    refine CG.cond_f rfl (by exact rho_of rfl) rfl ?_
    repeat (first|apply CG.seq|apply CG.region|apply SG.nil|apply NG.next|apply CG.skip|apply CG.block|apply CG.ret|apply CG.exit|apply CG.scope|apply NG.ret_then|apply NG.ret_block|apply NG.ret_scope|apply NG.exit_then|refine NG.exit_block rfl ?_|refine NG.exit_other rfl ?_|apply NG.exit_scope|apply NG.normal_block|apply NG.normal_scope|refine SG.val rfl rfl rfl rfl (by first|((first|apply qmv|apply qas|apply qlc|apply qla|apply qfa|apply qnc|apply qic|apply qix|apply qpk|apply qls|apply qei|apply qni|apply qed|apply qnd|apply qad|apply qln|apply qle|apply qgt|apply qge|apply qlk|apply qlv|apply qxt|apply qsb|apply qnt|apply qep|apply qnp|apply qeb|apply qnb|apply qx2|apply qx4|apply qcv|apply qlm|apply qfr|apply qto|apply qmx|apply qen|apply qsn|apply qx8|apply qx7|apply qx6|apply qx5|apply qx4|apply qx3|apply qx2|apply qx1|apply qx0)<;>(first|exact rfl|exact Ar.mk (by omega)|assumption|exact dct (by assumption)|exact dcf (by assumption)|exact dct (by omega)|exact dcf (by omega)|exact List.not_mem_nil|exact dc_length _|exact nc_length _|exact rc_length _ _ _|exact ec_length _|exact nm1 (by omega)|exact nm2 (by omega) (by omega)|exact dct rfl|exact dct (by decide)|exact dcf (by decide)|exact (Int.toNat_of_nonneg (by omega)).symm|exact dcu|exact lk1 (by assumption)|exact lk0 (by assumption)|exact lkb|fail))|fail) ?_)
    refine ret1 (Or.inl rfl) Try.results34 (by first | exact ResV.tmp rfl | exact ResV.agg rfl rfl (by assumption) (by first | exact dc_length _ | exact nc_length _ | exact rc_length _ _ _ | exact ec_length _ | rfl) | exact ResV.cell rfl rfl (by assumption)) ?_
    have : x.1 = y.1 := by
      apply List.ext_getElem?
      intro j
      by_cases hj : j < 8
      · exact heq j (by omega)
      · rw [List.getElem?_eq_none (by rw [x.2]; omega), List.getElem?_eq_none (by rw [y.2]; omega)]
    exact ⟨by rw [this, cb_self]; rfl, hk12.trans hk⟩
end Go.Proofs.Ytkkfppfpbobghaa
/-
  append: what stays of other rows and blocks.
-/
namespace Go.Proofs.Ytkkfppfpbobghaa
set_option linter.unusedVariables false

/-- In place. -/
def Room (e : TypeId) (w : World) (v v' : Value) (n m : Nat) : Prop := ∃ g cap cur, v = .slice (some ⟨g, 0, none⟩) n cap ∧ Blk w g (.cells cur e) ∧ n + m ≤ cap ∧ v' = .slice (some ⟨g, 0, none⟩) (n + m) cap
theorem run_appendR {P : Program} {w : World} {base : Nat} {t ty e : TypeId} {i : TypeInfo} [u : Ut P t (.slice e)] [f : Inf P e i] {z : Value} (hz : i.zero = some z) (hzs : z.cells.size = i.size) (hsz : 0 < i.size)
    {v : Value} {n : Nat} {xs : List Value} (hown : w.ownsRow base e i.size v n xs) {b off m c : Nat} {news : List Value} (hl : news.length = m * i.size) (hr : Row w b off news) (h1 : allOne news = true) (hm : 0 < m)
    (h63 : n + m ≤ maxLen) (hbytes : (n + m) * i.bytes ≤ 140737488355328) (hbase : base ≤ w.heap.size) :
    ∃ v' w', (Builtin.append_ #[t, t] ty #[v, .slice (some ⟨b, off, none⟩) m c]).run P w = .ok v' w' ∧ w'.ownsRow base e i.size v' (n + m) (xs ++ news) ∧ Kp (ownB v) w w' ∧ (Kp [] w w' ∨ Room e w v v' n m) := by
  obtain ⟨v', w', hrun, hown', hkp⟩ := run_append (P := P) (ty := ty) (d := .bool) (c := c) (u := u) (f := f) hz hzs hsz hown hl hr h1 h63 hbytes hbase
  refine ⟨v', w', hrun, hown', hkp, ?_⟩
  have hnews : ∀ j u, news[j]? = some u → w.cell? ((⟨b, off, none⟩ : Addr).add j) = some u := fun j u hu => by rw [add_none]; exact hr.cell hu
  have h1' : ∀ u ∈ news, u.oneCell' = true := fun u hu => by rw [one_iff]; exact List.all_eq_true.1 h1 u hu
  rcases hown.2 with ⟨rfl, rfl⟩ | ⟨g, cap, cur, rfl, hbg, hg, hnc, hcm, hcs, htake⟩
  · exact Or.inl (by simpa [ownB, Value.ownBlock] using hkp)
  · by_cases hroom : n + m ≤ cap
    · have hfit : n * i.size + news.length ≤ cur.size := by rw [hl, hcs, ← Nat.add_mul]; exact Nat.mul_le_mul_right _ hroom
      have hr2 := run_append_room (P := P) w t ty e i u.eq f.eq g n cap cur hg ⟨b, off, none⟩ m c news hl hnews h1' hroom hfit
      rw [hr2] at hrun
      cases hrun
      exact Or.inr ⟨g, cap, cur, rfl, hg, hroom, rfl⟩
    · have holds : ∀ j u, xs[j]? = some u → w.cell? ((⟨g, 0, none⟩ : Addr).add j) = some u := hown.cells (g := g) rfl
      have hr2 := run_append_grow (P := P) w t ty e i z u.eq f.eq hz ⟨g, 0, none⟩ n cap xs hown.1 holds ⟨b, off, none⟩ m c news hl hnews (by omega) (by simp only [maxLen] at h63; omega) (growslice_fits (by omega) hbytes)
      rw [hr2] at hrun
      cases hrun
      exact Or.inl (Kp.alloc_drew w _ rfl)
section
variable {w w' : World} {base n m sz : Nat} {e : TypeId} {v v' : Value} {xs news : List Value}
/-- Rows as long as the elder one stay. -/
theorem app_kept (hown : w.ownsRow base e sz v n xs) (hown' : w'.ownsRow base e sz v' (n + m) (xs ++ news)) (hk : Kp (ownB v) w w') (h : Kp [] w w' ∨ Room e w v v' n m) {base2 : Nat} {v2 : Value} {xs2 : List Value} (h2 : w.ownsRow base2 e sz v2 n xs2) : w'.ownsRow base2 e sz v2 n xs2 := by
  rcases h with h | ⟨g, cap, cur, rfl, hB, hroom, rfl⟩
  · exact own_kp0 h2 h
  · have hk : Kp [g] w w' := hk
    obtain ⟨h20, ⟨rfl, h21⟩ | ⟨g2, cap2, cur2, rfl, hb2, hh2, hc1, hc2, hc3, hc4⟩⟩ := h2
    · exact ⟨h20, Or.inl ⟨rfl, h21⟩⟩
    · by_cases eg : g2 = g
      · subst eg
        have hu := hB.uniq hh2
        simp only [Obj.cells.injEq] at hu
        obtain ⟨rfl, _, _⟩ := hu
        obtain ⟨hx0, ⟨hx, _⟩ | ⟨g3, cap3, cur3, hx, hb3, hh3, d1, d2, d3, d4⟩⟩ := hown
        · cases hx
        · simp only [Value.slice.injEq, Option.some.injEq, Addr.mk.injEq] at hx
          obtain ⟨⟨rfl, _⟩, _, rfl⟩ := hx
          have hu := hB.uniq hh3
          simp only [Obj.cells.injEq] at hu
          obtain ⟨rfl, _, _⟩ := hu
          obtain ⟨hy0, ⟨hy, _⟩ | ⟨g4, cap4, cur4, hy, hb4, hh4, f1, f2, f3, f4⟩⟩ := hown'
          · cases hy
          · simp only [Value.slice.injEq, Option.some.injEq, Addr.mk.injEq] at hy
            obtain ⟨⟨rfl, _⟩, _, rfl⟩ := hy
            refine ⟨h20, Or.inr ⟨g2, cap2, cur4, rfl, hb2, hh4, hc1, hc2, by rw [f3, ← d3, hc3], ?_⟩⟩
            have h5 := congrArg (List.take (n * sz)) f4
            rw [List.take_take, Nat.min_eq_left (Nat.mul_le_mul_right sz (by omega)), List.take_append_of_le_length (by omega), ← hx0, List.take_length, hx0] at h5
            rw [h5, ← d4, hc4]
      · exact ⟨h20, Or.inr ⟨g2, cap2, cur2, rfl, hb2, by rw [hk.blk g2 (Array.getElem?_eq_some_iff.1 hh2).1 (by simp [eg])]; exact hh2, hc1, hc2, hc3, hc4⟩⟩
theorem app_blk (hown : w.ownsRow base e sz v n xs) (hown' : w'.ownsRow base e sz v' (n + m) (xs ++ news)) (hk : Kp (ownB v) w w') (h : Kp [] w w' ∨ Room e w v v' n m) {b : Nat} {cs : Array Value} (hB : Blk w b (.cells cs e)) (hs : cs.size < (n + m) * sz ∨ cs.toList = xs ++ news) : Blk w' b (.cells cs e) := by
  rcases h with h | ⟨g, cap, cur, rfl, hBg, hroom, rfl⟩
  · exact hB.kp0 h
  · have hk : Kp [g] w w' := hk
    by_cases eg : b = g
    · subst eg
      have hu := hB.uniq hBg
      simp only [Obj.cells.injEq] at hu
      obtain ⟨rfl, _, _⟩ := hu
      obtain ⟨hx0, ⟨hx, _⟩ | ⟨g3, cap3, cur3, hx, hb3, hh3, d1, d2, d3, d4⟩⟩ := hown
      · cases hx
      · simp only [Value.slice.injEq, Option.some.injEq, Addr.mk.injEq] at hx
        obtain ⟨⟨rfl, _⟩, _, rfl⟩ := hx
        have hu := hB.uniq hh3
        simp only [Obj.cells.injEq] at hu
        obtain ⟨rfl, _, _⟩ := hu
        have hge : (n + m) * sz ≤ cap * sz := Nat.mul_le_mul_right sz hroom
        rcases hs with hs | hs
        · omega
        · obtain ⟨hy0, ⟨hy, _⟩ | ⟨g4, cap4, cur4, hy, hb4, hh4, f1, f2, f3, f4⟩⟩ := hown'
          · cases hy
          · simp only [Value.slice.injEq, Option.some.injEq, Addr.mk.injEq] at hy
            obtain ⟨⟨rfl, _⟩, _, rfl⟩ := hy
            have hlen : cs.size = (n + m) * sz := by rw [← hy0, ← hs]; simp
            have hc : cur4.toList = cs.toList := by
              rw [hs, ← f4, List.take_of_length_le (by simp; omega)]
            have hcc : cur4 = cs := Array.toList_inj.1 hc
            rw [← hcc]
            exact hh4
    · exact hB.kp hk (nm1 eg)
end
/-- 'append(s, nil...)' of an owned row: nothing turns. -/
theorem SG.appendNil {P : Program} {n : Nat} {Q : Exit → Act → World → Prop} {L : Env} {w : World} {ops : List Oper} {rest : List Oper} {ty : TypeId} {pos : String} {af : Array Edge} {g : Option (Nat × Bool)} {t e : TypeId} {i : TypeInfo} [u : Ut P t (.slice e)] [f : Inf P e i] {d : Nat} {s x : Operand} {b nn cap : Nat}
    (hd : Nat.blt d n = true) (hw : want ops L ⟨some d, .call { callee := .builtin .append, args := #[s, x], argTypes := #[t, t] }, ty, pos, af, g⟩ = some true) (hk : (known L s && known L x) = true)
    (hs : rho L s = .slice (some ⟨b, 0, none⟩) nn cap) (hx : rho L x = .slice none 0 0) (hnc : nn ≤ cap)
    (h : SG P n ops Q rest ((d, .slice (some ⟨b, 0, none⟩) nn cap) :: L) w) : SG P n ops Q (⟨some d, .call { callee := .builtin .append, args := #[s, x], argTypes := #[t, t] }, ty, pos, af, g⟩ :: rest) L w := by
  refine SG.op (by simpa using hd) rfl hw (by simpa [Op.operands, Call.operands] using hk) ?_
  unfold OpRun
  have hrun : (Builtin.append_ #[t, t] ty #[.slice (some ⟨b, 0, none⟩) nn cap, .slice none 0 0]).run P w = .ok (.slice (some ⟨b, 0, none⟩) nn cap) w := by
    simp [Builtin.append_, run_underlying u.eq, sizeOf, typeInfo, f.eq, Builtin.lenOf, Builtin.firstCells, loadCells, loadCellsFrom, hnc, storeCells]
  have : (execOp (rho L) ⟨some d, .call { callee := .builtin .append, args := #[s, x], argTypes := #[t, t] }, ty, pos, af, g⟩).run P w = .ok (.value (.slice (some ⟨b, 0, none⟩) nn cap)) w := by
    simp only [execOp, resolve, invoke, builtin, Sem.run_bind, Sem.run_pure, Result.andThen_ok, List.map_toArray, List.map_cons, List.map_nil, hs, hx, hrun]
  rw [this]
  exact h
/-- A nil slice from 0 on. -/
theorem vals_fromnil {P : Program} {S : List Nat} {w0 : World} {F : World → Prop} {L : Env} {d : Option Nat} {ty : TypeId} {pos : String} {af : Array Edge} {g : Option (Nat × Bool)} {T E : TypeId} [u : Ut P T (.slice E)] {sz : Nat} [f : Sz P E sz] {x lo : Operand} (hx : ro L x = some (.slice none 0 0)) (hlo : ro L lo = some (.int .i64 0)) :
    Vals P S w0 F L ⟨d, .slice T x (some lo) none none, ty, pos, af, g⟩ (.slice none 0 0) := fun w _ _ => by
  obtain ⟨i, h2, h3⟩ := f.eq
  simp [execOp, rho_of hx, rho_of hlo, Instr.sliceAt, run_underlying u.eq, Instr.slice, Instr.sliceBounds, Instr.sliceBound, asIntOf, sizeOf, typeInfo, h2]
section
variable {P : Program} {n : Nat} {ops : List Oper} {Q : Exit → Act → World → Prop} {w0 : World} {L : Env} {G : List (Nat × GD)} {K : Env → List Fact → Prop} {Γ : List Fact} {i : Nat} {ord : List Nat} {ty : TypeId} {pos : String} {af : Array Edge} {g : Option (Nat × Bool)}
/-- 'append' to a row that the region made. -/
theorem DerX.appendK {α : Type} {enc : α → List Value} {mm d : Nat} {t e : TypeId} {inf : TypeInfo} [u : Ut P t (.slice e)] [f : Inf P e inf] {z : Value} {s y : Operand} {a4 : Option Addr} {c4 b9 cc : Nat} (l l2 : List α) (hel : ∀ x, (enc x).length = inf.size) (hone : ∀ x, allOne (enc x) = true) (hg : gdLook G i = some (gO mm e enc inf.size (l ++ l2)))
    (ho : ops[i]? = some ⟨some d, .call { callee := .builtin .append, args := #[s, y], argTypes := #[t, t] }, ty, pos, af, g⟩) (hw : want ops L ⟨some d, .call { callee := .builtin .append, args := #[s, y], argTypes := #[t, t] }, ty, pos, af, g⟩ = some true) (hk : (known L s && known L y) = true)
    (hs : rho L s = .slice a4 l.length c4) (hx : rho L y = .slice (some ⟨b9, 0, none⟩) l2.length cc) (hz : inf.zero = some z) (hzs : Nat.beq z.cells.size inf.size = true) (hsz : Nat.blt 0 inf.size = true) (hl2 : 0 < l2.length) (h63 : l.length + l2.length ≤ maxLen) (hbytes : (l.length + l2.length) * inf.bytes ≤ 140737488355328) (hmm : mm = w0.heap.size)
    (hc : ∀ w, Kp [] w0 w → Facts ops i Γ w → w.ownsRow mm e inf.size (.slice a4 l.length c4) l.length (flt enc l) ∧ Row w b9 0 (flt enc l2))
    (hkeep : ∀ p ∈ G, p.1 ≠ i → ∀ y w w' v', w.ownsRow mm e inf.size (.slice a4 l.length c4) l.length (flt enc l) → w'.ownsRow mm e inf.size v' (l.length + l2.length) (flt enc l ++ flt enc l2) → Kp (ownB (.slice a4 l.length c4)) w w' → (Kp [] w w' ∨ Room e w (.slice a4 l.length c4) v' l.length l2.length) → p.2.phi y w → p.2.phi y w')
    (h : ∀ v : Value, DerX P w0 ops G K ord ((d, v) :: L) ((i, fun w => w.ownsRow mm e inf.size v (l ++ l2).length (flt enc (l ++ l2))) :: Γ)) : DerX P w0 ops G K (i :: ord) L Γ := by
  refine DerX.effN (gO mm e enc inf.size (l ++ l2)) hg ho hw (by simpa [Op.operands, Call.operands] using hk) (fun w h1 h2 => ?_) h
  obtain ⟨g1, g2⟩ := hc w h1 h2
  obtain ⟨v', w', e1, e2, e3, e4⟩ := run_appendR (P := P) (ty := ty) (c := cc) (u := u) (f := f) hz (Nat.eq_of_beq_eq_true hzs) (by simpa [Nat.blt_eq] using hsz) g1 (m := l2.length) (flt_length hel l2) g2 (flt_all hone l2) hl2 h63 hbytes (by have := h1.size; omega)
  unfold OpRun
  have : (execOp (rho L) ⟨some d, .call { callee := .builtin .append, args := #[s, y], argTypes := #[t, t] }, ty, pos, af, g⟩).run P w = .ok (.value v') w' := by
    simp only [execOp, resolve, invoke, builtin, Sem.run_bind, Sem.run_pure, Result.andThen_ok, List.map_toArray, List.map_cons, List.map_nil, hs, hx, e1]
  rw [this]
  refine ⟨v', rfl, ?_, h1.trans_new e3 (own_new g1 (by omega)), fun j y hj hp => gd_all (q := fun D => ∀ y, D.phi y w → D.phi y w') (fun _ _ => trivial) (fun p hp hne y hy => hkeep p hp hne y w w' v' g1 e2 e3 e4 hy) j hj y hp⟩
  show w'.ownsRow mm e inf.size v' (l ++ l2).length (flt enc (l ++ l2))
  rw [List.length_append, flt_append]
  exact e2
end
end Go.Proofs.Ytkkfppfpbobghaa
/-
  The document's accounts: all, by their keys.
-/
namespace Go.Proofs.Ytkkfppfpbobghaa
set_option linter.unusedVariables false

def ltK (x e : En) : Bool := decide (cb e.key.1 x.key.1 < 0)
def insE (out : List En) (x : En) : List En := out.takeWhile (ltK x) ++ x :: out.dropWhile (ltK x)
def nz (e : En) : Bool := !(decide (e.money = 0) && decide (e.nonce = 0))
/-- All that have something, by their keys. -/
def allL (l : List En) : List En := (l.filter nz).foldl insE []
theorem insE_perm (out : List En) (x : En) : (insE out x).Perm (x :: out) := by
  unfold insE
  refine List.perm_middle.trans ?_
  rw [List.takeWhile_append_dropWhile]
theorem allL_snoc (l : List En) (x : En) : allL (l ++ [x]) = if nz x = true then insE (allL l) x else allL l := by
  unfold allL
  rw [List.filter_append, List.foldl_append]
  by_cases h : nz x = true
  · rw [if_pos h]; simp [h]
  · rw [if_neg h]; simp [h]
theorem foldl_perm : ∀ (l out : List En), (l.foldl insE out).Perm (l ++ out)
  | [], out => List.Perm.refl _
  | x :: l, out => (foldl_perm l (insE out x)).trans ((List.Perm.append_left l (insE_perm out x)).trans List.perm_middle)
theorem allL_perm (l : List En) : (allL l).Perm (l.filter nz) := by
  have := foldl_perm (l.filter nz) []
  rwa [List.append_nil] at this
theorem allL_length (l : List En) : (allL l).length ≤ l.length := by
  rw [(allL_perm l).length_eq]
  exact List.length_filter_le _ _
theorem span_at : ∀ {out : List En} {p : En → Bool} {k : Nat}, k ≤ out.length → (∀ j (hj : j < out.length), j < k → p out[j] = true) → (∀ hk : k < out.length, p out[k] = false) → out.takeWhile p = out.take k ∧ out.dropWhile p = out.drop k
  | [], p, k, h, _, _ => by simp
  | e :: out, p, 0, _, _, h2 => by
    have := h2 (by simp)
    simp at this
    simp [this]
  | e :: out, p, k + 1, h, h1, h2 => by
    have h0 : p e = true := h1 0 (by simp) (by omega)
    have ih := span_at (out := out) (p := p) (k := k) (by simpa using h) (fun j hj hjk => h1 (j + 1) (by simpa using hj) (by omega)) (fun hk => h2 (by simpa using hk))
    simp [h0, ih.1, ih.2]

attribute [local irreducible] CG NG SG Vals Der Row Blk MapIs IterAt DerX
set_option maxHeartbeats 64000000 in
theorem rall_spec {w : World} {a : Option Addr} {l : List En} (c : Nat) (h : SlE w a l) (hl : l.length ≤ 90000) : Calls Try.prog 17 #[.slice a l.length c] w (fun r w' => ∃ a' c', r = .returned (.slice a' (allL l).length c') ∧ SlE w' a' (allL l) ∧ Kp [] w w') := by
  refine enter1 Try.func17 rfl Try.ntmps17 rfl ?_
  repeat (first|apply CG.seq|apply CG.region|apply SG.nil|apply NG.next|apply CG.skip|apply CG.block|apply CG.ret|apply CG.exit|apply CG.scope|apply NG.ret_then|apply NG.ret_block|apply NG.ret_scope|apply NG.exit_then|refine NG.exit_block rfl ?_|refine NG.exit_other rfl ?_|apply NG.exit_scope|apply NG.normal_block|apply NG.normal_scope|refine SG.val rfl rfl rfl rfl (by first|((first|apply qmv|apply qas|apply qlc|apply qla|apply qfa|apply qnc|apply qic|apply qix|apply qpk|apply qls|apply qei|apply qni|apply qed|apply qnd|apply qad|apply qln|apply qle|apply qgt|apply qge|apply qlk|apply qlv|apply qxt|apply qsb|apply qnt|apply qep|apply qnp|apply qeb|apply qnb|apply qx2|apply qx4|apply qcv|apply qlm|apply qfr|apply qto|apply qmx|apply qen|apply qsn|apply qx8|apply qx7|apply qx6|apply qx5|apply qx4|apply qx3|apply qx2|apply qx1|apply qx0)<;>(first|exact rfl|exact Ar.mk (by omega)|assumption|exact dct (by assumption)|exact dcf (by assumption)|exact dct (by omega)|exact dcf (by omega)|exact List.not_mem_nil|exact dc_length _|exact nc_length _|exact rc_length _ _ _|exact ec_length _|exact nm1 (by omega)|exact nm2 (by omega) (by omega)|exact dct rfl|exact dct (by decide)|exact dcf (by decide)|exact (Int.toNat_of_nonneg (by omega)).symm|exact dcu|exact lk1 (by assumption)|exact lk0 (by assumption)|exact lkb|fail))|fail) ?_)
  refine CG.loop (X := Nat × Value) (fun q => [(0, .slice a l.length c), (3, q.2), (4, .int .i64 (q.1 : Int))])
    (fun q w' => q.1 ≤ l.length ∧ Kp [] w w' ∧ w'.ownsRow w.heap.size 62 10 q.2 (allL (l.take q.1)).length (flt ec (allL (l.take q.1))))
    (fun q => l.length - q.1) (0, .slice none 0 0) ⟨Nat.zero_le _, Kp.refl _ _, rfl, Or.inl ⟨rfl, rfl⟩⟩ (by (repeat' (first | exact True.intro | exact rfl | refine And.intro ?_ ?_))) ?_
  rintro ⟨i, v⟩ w1 ⟨hi, hk, ho⟩
  simp only at hi ho
  refine CG.to [(0, .slice a l.length c), (3, v), (4, .int .i64 (i : Int))] (by (repeat' (first | exact True.intro | exact rfl | refine And.intro ?_ ?_))) ?_
  obtain ⟨out, hout⟩ : ∃ out, out = allL (l.take i) := ⟨_, rfl⟩
  have hol := allL_length (l.take i)
  rw [← hout] at ho hol
  rw [List.length_take] at hol
  by_cases hlt : i < l.length
  case neg =>
    have g1 : ¬ (i : Int) < (l.length : Int) := by omega
    repeat (first|apply CG.seq|apply CG.region|apply SG.nil|apply NG.next|apply CG.skip|apply CG.block|apply CG.ret|apply CG.exit|apply CG.scope|apply NG.ret_then|apply NG.ret_block|apply NG.ret_scope|apply NG.exit_then|refine NG.exit_block rfl ?_|refine NG.exit_other rfl ?_|apply NG.exit_scope|apply NG.normal_block|apply NG.normal_scope|refine SG.val rfl rfl rfl rfl (by first|((first|apply qmv|apply qas|apply qlc|apply qla|apply qfa|apply qnc|apply qic|apply qix|apply qpk|apply qls|apply qei|apply qni|apply qed|apply qnd|apply qad|apply qln|apply qle|apply qgt|apply qge|apply qlk|apply qlv|apply qxt|apply qsb|apply qnt|apply qep|apply qnp|apply qeb|apply qnb|apply qx2|apply qx4|apply qcv|apply qlm|apply qfr|apply qto|apply qmx|apply qen|apply qsn|apply qx8|apply qx7|apply qx6|apply qx5|apply qx4|apply qx3|apply qx2|apply qx1|apply qx0)<;>(first|exact rfl|exact Ar.mk (by omega)|assumption|exact dct (by assumption)|exact dcf (by assumption)|exact dct (by omega)|exact dcf (by omega)|exact List.not_mem_nil|exact dc_length _|exact nc_length _|exact rc_length _ _ _|exact ec_length _|exact nm1 (by omega)|exact nm2 (by omega) (by omega)|exact dct rfl|exact dct (by decide)|exact dcf (by decide)|exact (Int.toNat_of_nonneg (by omega)).symm|exact dcu|exact lk1 (by assumption)|exact lk0 (by assumption)|exact lkb|fail))|fail) ?_)
    refine CG.cond_f rfl (by exact rho_of rfl) rfl ?_
    repeat (first|apply CG.seq|apply CG.region|apply SG.nil|apply NG.next|apply CG.skip|apply CG.block|apply CG.ret|apply CG.exit|apply CG.scope|apply NG.ret_then|apply NG.ret_block|apply NG.ret_scope|apply NG.exit_then|refine NG.exit_block rfl ?_|refine NG.exit_other rfl ?_|apply NG.exit_scope|apply NG.normal_block|apply NG.normal_scope|refine SG.val rfl rfl rfl rfl (by first|((first|apply qmv|apply qas|apply qlc|apply qla|apply qfa|apply qnc|apply qic|apply qix|apply qpk|apply qls|apply qei|apply qni|apply qed|apply qnd|apply qad|apply qln|apply qle|apply qgt|apply qge|apply qlk|apply qlv|apply qxt|apply qsb|apply qnt|apply qep|apply qnp|apply qeb|apply qnb|apply qx2|apply qx4|apply qcv|apply qlm|apply qfr|apply qto|apply qmx|apply qen|apply qsn|apply qx8|apply qx7|apply qx6|apply qx5|apply qx4|apply qx3|apply qx2|apply qx1|apply qx0)<;>(first|exact rfl|exact Ar.mk (by omega)|assumption|exact dct (by assumption)|exact dcf (by assumption)|exact dct (by omega)|exact dcf (by omega)|exact List.not_mem_nil|exact dc_length _|exact nc_length _|exact rc_length _ _ _|exact ec_length _|exact nm1 (by omega)|exact nm2 (by omega) (by omega)|exact dct rfl|exact dct (by decide)|exact dcf (by decide)|exact (Int.toNat_of_nonneg (by omega)).symm|exact dcu|exact lk1 (by assumption)|exact lk0 (by assumption)|exact lkb|fail))|fail) ?_)
    refine ret1 (Or.inl rfl) Try.results17 (by first | exact ResV.tmp rfl | exact ResV.agg rfl rfl (by assumption) (by first | exact dc_length _ | exact nc_length _ | exact rc_length _ _ _ | exact ec_length _ | rfl) | exact ResV.cell rfl rfl (by assumption)) ?_
    rw [List.take_of_length_le (by omega)] at hout
    rw [← hout]
    obtain ⟨a', c', rfl, hS'⟩ := SlF.own ec_length ho rfl
    exact ⟨a', c', rfl, hS'.sl, hk⟩
  have g1 : (i : Int) < (l.length : Int) := by omega
  obtain ⟨x, hx⟩ : ∃ x, x = l[i] := ⟨_, rfl⟩
  have htk : l.take (i + 1) = l.take i ++ [x] := by rw [List.take_add_one, List.getElem?_eq_getElem hlt, hx]; rfl
  have hall : allL (l.take (i + 1)) = if nz x = true then insE out x else out := by rw [htk, allL_snoc, hout]
  have h1 := h.kp0 hk
  obtain ⟨ba, oa, rfl, hr⟩ := h1.at hlt
  rw [← hx] at hr
  obtain ⟨q0, q1, q2⟩ := en_sub hr
  have s0 := hk.size
  by_cases hnz : nz x = true
  case neg =>
    rw [if_neg hnz] at hall
    have hzz : x.money = 0 ∧ x.nonce = 0 := by
      unfold nz at hnz
      simp at hnz
      exact hnz
    obtain ⟨z1, z2⟩ := hzz
    repeat (first|apply CG.seq|apply CG.region|apply SG.nil|apply NG.next|apply CG.skip|apply CG.block|apply CG.ret|apply CG.exit|apply CG.scope|apply NG.ret_then|apply NG.ret_block|apply NG.ret_scope|apply NG.exit_then|refine NG.exit_block rfl ?_|refine NG.exit_other rfl ?_|apply NG.exit_scope|apply NG.normal_block|apply NG.normal_scope|refine SG.val rfl rfl rfl rfl (by first|((first|apply qmv|apply qas|apply qlc|apply qla|apply qfa|apply qnc|apply qic|apply qix|apply qpk|apply qls|apply qei|apply qni|apply qed|apply qnd|apply qad|apply qln|apply qle|apply qgt|apply qge|apply qlk|apply qlv|apply qxt|apply qsb|apply qnt|apply qep|apply qnp|apply qeb|apply qnb|apply qx2|apply qx4|apply qcv|apply qlm|apply qfr|apply qto|apply qmx|apply qen|apply qsn|apply qx8|apply qx7|apply qx6|apply qx5|apply qx4|apply qx3|apply qx2|apply qx1|apply qx0)<;>(first|exact rfl|exact Ar.mk (by omega)|assumption|exact dct (by assumption)|exact dcf (by assumption)|exact dct (by omega)|exact dcf (by omega)|exact List.not_mem_nil|exact dc_length _|exact nc_length _|exact rc_length _ _ _|exact ec_length _|exact nm1 (by omega)|exact nm2 (by omega) (by omega)|exact dct rfl|exact dct (by decide)|exact dcf (by decide)|exact (Int.toNat_of_nonneg (by omega)).symm|exact dcu|exact lk1 (by assumption)|exact lk0 (by assumption)|exact lkb|fail))|fail) ?_)
    refine CG.cond_t rfl (by exact rho_of rfl) rfl ?_
    repeat (first|apply CG.seq|apply CG.region|apply SG.nil|apply NG.next|apply CG.skip|apply CG.block|apply CG.ret|apply CG.exit|apply CG.scope|apply NG.ret_then|apply NG.ret_block|apply NG.ret_scope|apply NG.exit_then|refine NG.exit_block rfl ?_|refine NG.exit_other rfl ?_|apply NG.exit_scope|apply NG.normal_block|apply NG.normal_scope|refine SG.val rfl rfl rfl rfl (by first|((first|apply qmv|apply qas|apply qlc|apply qla|apply qfa|apply qnc|apply qic|apply qix|apply qpk|apply qls|apply qei|apply qni|apply qed|apply qnd|apply qad|apply qln|apply qle|apply qgt|apply qge|apply qlk|apply qlv|apply qxt|apply qsb|apply qnt|apply qep|apply qnp|apply qeb|apply qnb|apply qx2|apply qx4|apply qcv|apply qlm|apply qfr|apply qto|apply qmx|apply qen|apply qsn|apply qx8|apply qx7|apply qx6|apply qx5|apply qx4|apply qx3|apply qx2|apply qx1|apply qx0)<;>(first|exact rfl|exact Ar.mk (by omega)|assumption|exact dct (by assumption)|exact dcf (by assumption)|exact dct (by omega)|exact dcf (by omega)|exact List.not_mem_nil|exact dc_length _|exact nc_length _|exact rc_length _ _ _|exact ec_length _|exact nm1 (by omega)|exact nm2 (by omega) (by omega)|exact dct rfl|exact dct (by decide)|exact dcf (by decide)|exact (Int.toNat_of_nonneg (by omega)).symm|exact dcu|exact lk1 (by assumption)|exact lk0 (by assumption)|exact lkb|fail))|fail) ?_)
    refine CG.cond_t rfl (by exact rho_of rfl) rfl ?_
    repeat (first|apply CG.seq|apply CG.region|apply SG.nil|apply NG.next|apply CG.skip|apply CG.block|apply CG.ret|apply CG.exit|apply CG.scope|apply NG.ret_then|apply NG.ret_block|apply NG.ret_scope|apply NG.exit_then|refine NG.exit_block rfl ?_|refine NG.exit_other rfl ?_|apply NG.exit_scope|apply NG.normal_block|apply NG.normal_scope|refine SG.val rfl rfl rfl rfl (by first|((first|apply qmv|apply qas|apply qlc|apply qla|apply qfa|apply qnc|apply qic|apply qix|apply qpk|apply qls|apply qei|apply qni|apply qed|apply qnd|apply qad|apply qln|apply qle|apply qgt|apply qge|apply qlk|apply qlv|apply qxt|apply qsb|apply qnt|apply qep|apply qnp|apply qeb|apply qnb|apply qx2|apply qx4|apply qcv|apply qlm|apply qfr|apply qto|apply qmx|apply qen|apply qsn|apply qx8|apply qx7|apply qx6|apply qx5|apply qx4|apply qx3|apply qx2|apply qx1|apply qx0)<;>(first|exact rfl|exact Ar.mk (by omega)|assumption|exact dct (by assumption)|exact dcf (by assumption)|exact dct (by omega)|exact dcf (by omega)|exact List.not_mem_nil|exact dc_length _|exact nc_length _|exact rc_length _ _ _|exact ec_length _|exact nm1 (by omega)|exact nm2 (by omega) (by omega)|exact dct rfl|exact dct (by decide)|exact dcf (by decide)|exact (Int.toNat_of_nonneg (by omega)).symm|exact dcu|exact lk1 (by assumption)|exact lk0 (by assumption)|exact lkb|fail))|fail) ?_)
    exact NG.round (i + 1, v) (by (repeat' (first | exact True.intro | exact rfl | refine And.intro ?_ ?_))) ⟨hlt, hk, by simp only; rw [hall]; exact ho⟩ (by simp only; omega)
  rw [if_pos hnz] at hall
  have hzz : ¬ x.money = 0 ∨ (x.money = 0 ∧ ¬ x.nonce = 0) := by
    unfold nz at hnz
    by_cases e1 : x.money = 0
    · by_cases e2 : x.nonce = 0
      · simp [e1, e2] at hnz
      · exact Or.inr ⟨e1, e2⟩
    · exact Or.inl e1
  repeat (first|apply CG.seq|apply CG.region|apply SG.nil|apply NG.next|apply CG.skip|apply CG.block|apply CG.ret|apply CG.exit|apply CG.scope|apply NG.ret_then|apply NG.ret_block|apply NG.ret_scope|apply NG.exit_then|refine NG.exit_block rfl ?_|refine NG.exit_other rfl ?_|apply NG.exit_scope|apply NG.normal_block|apply NG.normal_scope|refine SG.val rfl rfl rfl rfl (by first|((first|apply qmv|apply qas|apply qlc|apply qla|apply qfa|apply qnc|apply qic|apply qix|apply qpk|apply qls|apply qei|apply qni|apply qed|apply qnd|apply qad|apply qln|apply qle|apply qgt|apply qge|apply qlk|apply qlv|apply qxt|apply qsb|apply qnt|apply qep|apply qnp|apply qeb|apply qnb|apply qx2|apply qx4|apply qcv|apply qlm|apply qfr|apply qto|apply qmx|apply qen|apply qsn|apply qx8|apply qx7|apply qx6|apply qx5|apply qx4|apply qx3|apply qx2|apply qx1|apply qx0)<;>(first|exact rfl|exact Ar.mk (by omega)|assumption|exact dct (by assumption)|exact dcf (by assumption)|exact dct (by omega)|exact dcf (by omega)|exact List.not_mem_nil|exact dc_length _|exact nc_length _|exact rc_length _ _ _|exact ec_length _|exact nm1 (by omega)|exact nm2 (by omega) (by omega)|exact dct rfl|exact dct (by decide)|exact dcf (by decide)|exact (Int.toNat_of_nonneg (by omega)).symm|exact dcu|exact lk1 (by assumption)|exact lk0 (by assumption)|exact lkb|fail))|fail) ?_)
  refine CG.cond_t rfl (by exact rho_of rfl) rfl ?_
  apply CG.skip
  apply NG.next
  apply CG.seq
  apply CG.block
  refine CG.seq_cut (fun L w' => SubE [(0, .slice (some ⟨ba, oa, none⟩) l.length c), (3, v), (4, .int .i64 (i : Int))] L ∧ w' = w1) ?_ ?_
  · rcases hzz with z1 | ⟨z1, z2⟩
    all_goals
      repeat (first | first|apply CG.seq|apply CG.region|apply SG.nil|apply NG.next|apply CG.skip|apply CG.block|apply CG.ret|apply CG.exit|apply CG.scope|apply NG.ret_then|apply NG.ret_block|apply NG.ret_scope|apply NG.exit_then|refine NG.exit_block rfl ?_|refine NG.exit_other rfl ?_|apply NG.exit_scope|apply NG.normal_block|apply NG.normal_scope|refine SG.val rfl rfl rfl rfl (by first|((first|apply qmv|apply qas|apply qlc|apply qla|apply qfa|apply qnc|apply qic|apply qix|apply qpk|apply qls|apply qei|apply qni|apply qed|apply qnd|apply qad|apply qln|apply qle|apply qgt|apply qge|apply qlk|apply qlv|apply qxt|apply qsb|apply qnt|apply qep|apply qnp|apply qeb|apply qnb|apply qx2|apply qx4|apply qcv|apply qlm|apply qfr|apply qto|apply qmx|apply qen|apply qsn|apply qx8|apply qx7|apply qx6|apply qx5|apply qx4|apply qx3|apply qx2|apply qx1|apply qx0)<;>(first|exact rfl|exact Ar.mk (by omega)|assumption|exact dct (by assumption)|exact dcf (by assumption)|exact dct (by omega)|exact dcf (by omega)|exact List.not_mem_nil|exact dc_length _|exact nc_length _|exact rc_length _ _ _|exact ec_length _|exact nm1 (by omega)|exact nm2 (by omega) (by omega)|exact dct rfl|exact dct (by decide)|exact dcf (by decide)|exact (Int.toNat_of_nonneg (by omega)).symm|exact dcu|exact lk1 (by assumption)|exact lk0 (by assumption)|exact lkb|fail))|fail) ?_ | refine SG.skip rfl rfl ?_)
      refine CG.cond_f rfl (by exact rho_of rfl) rfl ?_
      repeat (first|apply CG.seq|apply CG.region|apply SG.nil|apply NG.next|apply CG.skip|apply CG.block|apply CG.ret|apply CG.exit|apply CG.scope|apply NG.ret_then|apply NG.ret_block|apply NG.ret_scope|apply NG.exit_then|refine NG.exit_block rfl ?_|refine NG.exit_other rfl ?_|apply NG.exit_scope|apply NG.normal_block|apply NG.normal_scope|refine SG.val rfl rfl rfl rfl (by first|((first|apply qmv|apply qas|apply qlc|apply qla|apply qfa|apply qnc|apply qic|apply qix|apply qpk|apply qls|apply qei|apply qni|apply qed|apply qnd|apply qad|apply qln|apply qle|apply qgt|apply qge|apply qlk|apply qlv|apply qxt|apply qsb|apply qnt|apply qep|apply qnp|apply qeb|apply qnb|apply qx2|apply qx4|apply qcv|apply qlm|apply qfr|apply qto|apply qmx|apply qen|apply qsn|apply qx8|apply qx7|apply qx6|apply qx5|apply qx4|apply qx3|apply qx2|apply qx1|apply qx0)<;>(first|exact rfl|exact Ar.mk (by omega)|assumption|exact dct (by assumption)|exact dcf (by assumption)|exact dct (by omega)|exact dcf (by omega)|exact List.not_mem_nil|exact dc_length _|exact nc_length _|exact rc_length _ _ _|exact ec_length _|exact nm1 (by omega)|exact nm2 (by omega) (by omega)|exact dct rfl|exact dct (by decide)|exact dcf (by decide)|exact (Int.toNat_of_nonneg (by omega)).symm|exact dcu|exact lk1 (by assumption)|exact lk0 (by assumption)|exact lkb|fail))|fail) ?_)
      exact NG.cut ⟨by (repeat' (first | exact True.intro | exact rfl | refine And.intro ?_ ?_)), rfl⟩
  rintro L w1' ⟨hL, rfl⟩
  refine CG.to _ hL ?_
  have hlt2 : out.length ≤ 90000 := by omega
  repeat (first|apply CG.seq|apply CG.region|apply SG.nil|apply NG.next|apply CG.skip|apply CG.block|apply CG.ret|apply CG.exit|apply CG.scope|apply NG.ret_then|apply NG.ret_block|apply NG.ret_scope|apply NG.exit_then|refine NG.exit_block rfl ?_|refine NG.exit_other rfl ?_|apply NG.exit_scope|apply NG.normal_block|apply NG.normal_scope|refine SG.val rfl rfl rfl rfl (by first|((first|apply qmv|apply qas|apply qlc|apply qla|apply qfa|apply qnc|apply qic|apply qix|apply qpk|apply qls|apply qei|apply qni|apply qed|apply qnd|apply qad|apply qln|apply qle|apply qgt|apply qge|apply qlk|apply qlv|apply qxt|apply qsb|apply qnt|apply qep|apply qnp|apply qeb|apply qnb|apply qx2|apply qx4|apply qcv|apply qlm|apply qfr|apply qto|apply qmx|apply qen|apply qsn|apply qx8|apply qx7|apply qx6|apply qx5|apply qx4|apply qx3|apply qx2|apply qx1|apply qx0)<;>(first|exact rfl|exact Ar.mk (by omega)|assumption|exact dct (by assumption)|exact dcf (by assumption)|exact dct (by omega)|exact dcf (by omega)|exact List.not_mem_nil|exact dc_length _|exact nc_length _|exact rc_length _ _ _|exact ec_length _|exact nm1 (by omega)|exact nm2 (by omega) (by omega)|exact dct rfl|exact dct (by decide)|exact dcf (by decide)|exact (Int.toNat_of_nonneg (by omega)).symm|exact dcu|exact lk1 (by assumption)|exact lk0 (by assumption)|exact lkb|fail))|fail) ?_)
  refine CG.loop (X := Nat) (fun q => [(0, .slice (some ⟨ba, oa, none⟩) l.length c), (3, v), (4, .int .i64 (i : Int)), (5, .int .i64 (q : Int))])
    (fun q w' => q ≤ out.length ∧ Kp [] w1' w' ∧ ∀ j (hj : j < out.length), j < q → ltK x out[j] = true)
    (fun q => out.length - q) 0 ⟨Nat.zero_le _, Kp.refl _ _, fun j hj h0 => absurd h0 (by omega)⟩ (by (repeat' (first | exact True.intro | exact rfl | refine And.intro ?_ ?_))) ?_
  rintro k w2 ⟨hkl, hk2, hbef⟩
  have ho2 := own_kp0 ho hk2
  have q0 := q0.kp0 hk2
  have hk02 := hk.trans hk2
  have s2 := hk2.size
  repeat (first|apply CG.seq|apply CG.region|apply SG.nil|apply NG.next|apply CG.skip|apply CG.block|apply CG.ret|apply CG.exit|apply CG.scope|apply NG.ret_then|apply NG.ret_block|apply NG.ret_scope|apply NG.exit_then|refine NG.exit_block rfl ?_|refine NG.exit_other rfl ?_|apply NG.exit_scope|apply NG.normal_block|apply NG.normal_scope|refine SG.val rfl rfl rfl rfl (by first|((first|apply qmv|apply qas|apply qlc|apply qla|apply qfa|apply qnc|apply qic|apply qix|apply qpk|apply qls|apply qei|apply qni|apply qed|apply qnd|apply qad|apply qln|apply qle|apply qgt|apply qge|apply qlk|apply qlv|apply qxt|apply qsb|apply qnt|apply qep|apply qnp|apply qeb|apply qnb|apply qx2|apply qx4|apply qcv|apply qlm|apply qfr|apply qto|apply qmx|apply qen|apply qsn|apply qx8|apply qx7|apply qx6|apply qx5|apply qx4|apply qx3|apply qx2|apply qx1|apply qx0)<;>(first|exact rfl|exact Ar.mk (by omega)|assumption|exact dct (by assumption)|exact dcf (by assumption)|exact dct (by omega)|exact dcf (by omega)|exact List.not_mem_nil|exact dc_length _|exact nc_length _|exact rc_length _ _ _|exact ec_length _|exact nm1 (by omega)|exact nm2 (by omega) (by omega)|exact dct rfl|exact dct (by decide)|exact dcf (by decide)|exact (Int.toNat_of_nonneg (by omega)).symm|exact dcu|exact lk1 (by assumption)|exact lk0 (by assumption)|exact lkb|fail))|fail) ?_)
  obtain ⟨gb, hgb⟩ : ∃ gb : Bool, (gb = true ∧ ∃ hk : k < out.length, ltK x out[k] = true) ∨ (gb = false ∧ ((∃ hk : k < out.length, ltK x out[k] = false) ∨ ¬ k < out.length)) := by
    by_cases h1 : k < out.length
    · cases h2 : ltK x out[k] with
      | true => exact ⟨true, Or.inl ⟨rfl, h1, h2⟩⟩
      | false => exact ⟨false, Or.inr ⟨rfl, Or.inl ⟨h1, h2⟩⟩⟩
    · exact ⟨false, Or.inr ⟨rfl, Or.inr h1⟩⟩
  refine CG.cut_then (fun L w' => SubE [(0, .slice (some ⟨ba, oa, none⟩) l.length c), (3, v), (4, .int .i64 (i : Int)), (5, .int .i64 (k : Int)), (42, .bool gb)] L ∧ Kp [] w2 w') ?_ ?_
  · have hcase : (∃ hk : k < out.length, ltK x out[k] = gb) ∨ (¬ k < out.length ∧ gb = false) := by
      rcases hgb with ⟨hb, hh⟩ | ⟨hb, hh | hh⟩
      · exact Or.inl (by rw [hb]; exact hh)
      · exact Or.inl (by rw [hb]; exact hh)
      · exact Or.inr ⟨hh, hb⟩
    rcases hcase with ⟨hko, hlk⟩ | ⟨hh, hb⟩
    · have g2 : (k : Int) < (out.length : Int) := by omega
      obtain ⟨a2, c2, rfl, hS2⟩ := SlF.own ec_length ho2 rfl
      obtain ⟨b2, o2, rfl, hrk⟩ := hS2.sl.at hko
      obtain ⟨y, hy⟩ : ∃ y, y = out[k] := ⟨_, rfl⟩
      rw [← hy] at hrk hlk
      obtain ⟨r0, _, _⟩ := en_sub hrk
      clear hrk
      refine CG.draw0 mixed [0, 1, 2, 3, 4, 5, 6, 7, 8, 9, 10, 11, 12, 13, 14, 15, 16] [] (by kernel_rfl) ?_
      repeat (refine Der.val rfl rfl rfl (by first|((first|apply qmv|apply qas|apply qlc|apply qla|apply qfa|apply qnc|apply qic|apply qix|apply qpk|apply qls|apply qei|apply qni|apply qed|apply qnd|apply qad|apply qln|apply qle|apply qgt|apply qge|apply qlk|apply qlv|apply qxt|apply qsb|apply qnt|apply qep|apply qnp|apply qeb|apply qnb|apply qx2|apply qx4|apply qcv|apply qlm|apply qfr|apply qto|apply qmx|apply qen|apply qsn|apply qx8|apply qx7|apply qx6|apply qx5|apply qx4|apply qx3|apply qx2|apply qx1|apply qx0)<;>(first|exact rfl|exact Ar.mk (by omega)|assumption|exact dct (by assumption)|exact dcf (by assumption)|exact dct (by omega)|exact dcf (by omega)|exact List.not_mem_nil|exact dc_length _|exact nc_length _|exact rc_length _ _ _|exact ec_length _|exact nm1 (by omega)|exact nm2 (by omega) (by omega)|exact dct rfl|exact dct (by decide)|exact dcf (by decide)|exact (Int.toNat_of_nonneg (by omega)).symm|exact dcu|exact lk1 (by assumption)|exact lk0 (by assumption)|exact lkb|fail))|fail) ?_)
      refine Der.call rfl rfl rfl (vs := [dv y.key, dv x.key]) (by repeat' (first | exact True.intro | exact rho_of rfl | refine And.intro ?_ ?_)) (fun w hk _ => by have := rless_spec w y.key x.key; unfold ltK at hlk; rw [hlk] at this; exact this) ?_
      repeat (refine Der.val rfl rfl rfl (by first|((first|apply qmv|apply qas|apply qlc|apply qla|apply qfa|apply qnc|apply qic|apply qix|apply qpk|apply qls|apply qei|apply qni|apply qed|apply qnd|apply qad|apply qln|apply qle|apply qgt|apply qge|apply qlk|apply qlv|apply qxt|apply qsb|apply qnt|apply qep|apply qnp|apply qeb|apply qnb|apply qx2|apply qx4|apply qcv|apply qlm|apply qfr|apply qto|apply qmx|apply qen|apply qsn|apply qx8|apply qx7|apply qx6|apply qx5|apply qx4|apply qx3|apply qx2|apply qx1|apply qx0)<;>(first|exact rfl|exact Ar.mk (by omega)|assumption|exact dct (by assumption)|exact dcf (by assumption)|exact dct (by omega)|exact dcf (by omega)|exact List.not_mem_nil|exact dc_length _|exact nc_length _|exact rc_length _ _ _|exact ec_length _|exact nm1 (by omega)|exact nm2 (by omega) (by omega)|exact dct rfl|exact dct (by decide)|exact dcf (by decide)|exact (Int.toNat_of_nonneg (by omega)).symm|exact dcu|exact lk1 (by assumption)|exact lk0 (by assumption)|exact lkb|fail))|fail) ?_)
      refine Der.fin (fun w3 hk3 _ _ => ?_)
      exact NG.cut ⟨by (repeat' (first | exact True.intro | exact rfl | refine And.intro ?_ ?_)), hk3⟩
    · have g2 : ¬ (k : Int) < (out.length : Int) := by omega
      obtain ⟨a2, c2, rfl, hS2⟩ := SlF.own ec_length ho2 rfl
      refine CG.draw0 mixed [0, 1, 2, 3, 4, 5, 6, 7, 8, 9, 10, 11, 12, 13, 14, 15, 16] [] (by kernel_rfl) ?_
      repeat (first | refine Der.val rfl rfl rfl (by first|((first|apply qmv|apply qas|apply qlc|apply qla|apply qfa|apply qnc|apply qic|apply qix|apply qpk|apply qls|apply qei|apply qni|apply qed|apply qnd|apply qad|apply qln|apply qle|apply qgt|apply qge|apply qlk|apply qlv|apply qxt|apply qsb|apply qnt|apply qep|apply qnp|apply qeb|apply qnb|apply qx2|apply qx4|apply qcv|apply qlm|apply qfr|apply qto|apply qmx|apply qen|apply qsn|apply qx8|apply qx7|apply qx6|apply qx5|apply qx4|apply qx3|apply qx2|apply qx1|apply qx0)<;>(first|exact rfl|exact Ar.mk (by omega)|assumption|exact dct (by assumption)|exact dcf (by assumption)|exact dct (by omega)|exact dcf (by omega)|exact List.not_mem_nil|exact dc_length _|exact nc_length _|exact rc_length _ _ _|exact ec_length _|exact nm1 (by omega)|exact nm2 (by omega) (by omega)|exact dct rfl|exact dct (by decide)|exact dcf (by decide)|exact (Int.toNat_of_nonneg (by omega)).symm|exact dcu|exact lk1 (by assumption)|exact lk0 (by assumption)|exact lkb|fail))|fail) ?_ | refine Der.skip rfl rfl ?_)
      refine Der.fin (fun w3 hk3 _ _ => ?_)
      subst hb
      exact NG.cut ⟨by (repeat' (first | exact True.intro | exact rfl | refine And.intro ?_ ?_)), hk3⟩
  rintro L3 w3 ⟨hL3, hk3⟩
  refine CG.to _ hL3 ?_
  rcases hgb with ⟨rfl, hko, hlk⟩ | ⟨rfl, hh⟩
  · refine CG.cond_t rfl (by exact rho_of rfl) rfl ?_
    repeat (first|apply CG.seq|apply CG.region|apply SG.nil|apply NG.next|apply CG.skip|apply CG.block|apply CG.ret|apply CG.exit|apply CG.scope|apply NG.ret_then|apply NG.ret_block|apply NG.ret_scope|apply NG.exit_then|refine NG.exit_block rfl ?_|refine NG.exit_other rfl ?_|apply NG.exit_scope|apply NG.normal_block|apply NG.normal_scope|refine SG.val rfl rfl rfl rfl (by first|((first|apply qmv|apply qas|apply qlc|apply qla|apply qfa|apply qnc|apply qic|apply qix|apply qpk|apply qls|apply qei|apply qni|apply qed|apply qnd|apply qad|apply qln|apply qle|apply qgt|apply qge|apply qlk|apply qlv|apply qxt|apply qsb|apply qnt|apply qep|apply qnp|apply qeb|apply qnb|apply qx2|apply qx4|apply qcv|apply qlm|apply qfr|apply qto|apply qmx|apply qen|apply qsn|apply qx8|apply qx7|apply qx6|apply qx5|apply qx4|apply qx3|apply qx2|apply qx1|apply qx0)<;>(first|exact rfl|exact Ar.mk (by omega)|assumption|exact dct (by assumption)|exact dcf (by assumption)|exact dct (by omega)|exact dcf (by omega)|exact List.not_mem_nil|exact dc_length _|exact nc_length _|exact rc_length _ _ _|exact ec_length _|exact nm1 (by omega)|exact nm2 (by omega) (by omega)|exact dct rfl|exact dct (by decide)|exact dcf (by decide)|exact (Int.toNat_of_nonneg (by omega)).symm|exact dcu|exact lk1 (by assumption)|exact lk0 (by assumption)|exact lkb|fail))|fail) ?_)
    refine NG.round (k + 1) (by (repeat' (first | exact True.intro | exact rfl | refine And.intro ?_ ?_))) ⟨hko, hk2.trans hk3, fun j hj h0 => ?_⟩ (by omega)
    by_cases ej : j = k
    · subst ej
      exact hlk
    · exact hbef j hj (by omega)
  have hend : ∀ hk : k < out.length, ltK x out[k] = false := fun hk => by
    rcases hh with ⟨_, h2⟩ | h2
    · exact h2
    · exact absurd hk h2
  obtain ⟨et, ed⟩ := span_at (p := ltK x) hkl hbef hend
  have hins : insE out x = (out.take k ++ [x]) ++ out.drop k := by unfold insE; rw [et, ed]; simp
  have hfin : ∀ (w' : World) (v' : Value), w'.ownsRow w.heap.size 62 10 v' (k + 1 + (out.length - k)) (flt ec (out.take k ++ [x]) ++ flt ec (out.drop k)) → w'.ownsRow w.heap.size 62 10 v' (allL (l.take (i + 1))).length (flt ec (allL (l.take (i + 1)))) := fun w' v' hh => by
    rw [hall, hins, flt_append]
    have : ((out.take k ++ [x]) ++ out.drop k).length = k + 1 + (out.length - k) := by simp; omega
    rw [this]
    exact hh
  refine CG.cond_f rfl (by exact rho_of rfl) rfl ?_
  have hk03 := hk02.trans hk3
  have hr3 := (hr.kp0 hk2).kp0 hk3
  have ho3 := own_kp0 ho2 hk3
  have s3 := hk3.size
  clear q0 q1 q2 hr ho2 ho
  have hlen1 : (out.take k).length = k := by rw [List.length_take]; omega
  repeat (first|apply CG.seq|apply CG.region|apply SG.nil|apply NG.next|apply CG.skip|apply CG.block|apply CG.ret|apply CG.exit|apply CG.scope|apply NG.ret_then|apply NG.ret_block|apply NG.ret_scope|apply NG.exit_then|refine NG.exit_block rfl ?_|refine NG.exit_other rfl ?_|apply NG.exit_scope|apply NG.normal_block|apply NG.normal_scope|refine SG.val rfl rfl rfl rfl (by first|((first|apply qmv|apply qas|apply qlc|apply qla|apply qfa|apply qnc|apply qic|apply qix|apply qpk|apply qls|apply qei|apply qni|apply qed|apply qnd|apply qad|apply qln|apply qle|apply qgt|apply qge|apply qlk|apply qlv|apply qxt|apply qsb|apply qnt|apply qep|apply qnp|apply qeb|apply qnb|apply qx2|apply qx4|apply qcv|apply qlm|apply qfr|apply qto|apply qmx|apply qen|apply qsn|apply qx8|apply qx7|apply qx6|apply qx5|apply qx4|apply qx3|apply qx2|apply qx1|apply qx0)<;>(first|exact rfl|exact Ar.mk (by omega)|assumption|exact dct (by assumption)|exact dcf (by assumption)|exact dct (by omega)|exact dcf (by omega)|exact List.not_mem_nil|exact dc_length _|exact nc_length _|exact rc_length _ _ _|exact ec_length _|exact nm1 (by omega)|exact nm2 (by omega) (by omega)|exact dct rfl|exact dct (by decide)|exact dcf (by decide)|exact (Int.toNat_of_nonneg (by omega)).symm|exact dcu|exact lk1 (by assumption)|exact lk0 (by assumption)|exact lkb|fail))|fail) ?_)
  have hkeep : ∀ p ∈ ([(0, gE w3.heap.size 62), (4, gOP w3.heap.size 62 ec 10 (out.take k) (fun v => v)), (9, gB w3.heap.size 62 1 (ec x).toArray), (10, gO w3.heap.size 62 ec 10 (out.take k ++ [x]))] : List (Nat × GD)), p.1 ≠ 10 → ∀ y w w' v' (a4 : Option Addr) (c4 : Nat), w.ownsRow w3.heap.size 62 10 (.slice a4 (out.take k).length c4) (out.take k).length (flt ec (out.take k)) → w'.ownsRow w3.heap.size 62 10 v' ((out.take k).length + [x].length) (flt ec (out.take k) ++ flt ec [x]) → Kp (ownB (.slice a4 (out.take k).length c4)) w w' → (Kp [] w w' ∨ Room 62 w (.slice a4 (out.take k).length c4) v' (out.take k).length [x].length) → p.2.phi y w → p.2.phi y w' := by
    intro p hp hne y w w' v' a4 c4 j1 j2 j3 j4 hy
    simp only [List.mem_cons, List.not_mem_nil, or_false] at hp
    rcases hp with rfl | rfl | rfl | rfl
    · exact ⟨hy.1, app_blk j1 j2 j3 j4 hy.2 (Or.inl (by simp))⟩
    · exact app_kept j1 j2 j3 j4 hy
    · refine ⟨hy.1, app_blk j1 j2 j3 j4 hy.2 ?_⟩
      by_cases e0 : k = 0
      · right
        subst e0
        simp [flt]
      · left
        rw [hlen1]
        simp [ec_length]
        omega
    · exact absurd rfl hne
  have ho3' := ho3
  obtain ⟨_, ⟨rfl, hn0⟩ | ⟨gg, cap, cur, rfl, hbg, hhg, d1, d2, d3, d4⟩⟩ := ho3'
  · have hk0 : k = 0 := by omega
    subst hk0
    have hnil : out = [] := List.eq_nil_of_length_eq_zero hn0
    refine CG.free mixed 14 [1, 2, 3, 5, 6, 7, 8, 11, 12, 13, 0, 4, 9, 10] [(0, gE w3.heap.size 62), (4, gOP w3.heap.size 62 ec 10 (out.take 0) (fun v => v)), (9, gB w3.heap.size 62 1 (ec x).toArray), (10, gO w3.heap.size 62 ec 10 (out.take 0 ++ [x]))] (by kernel_rfl) (by intro p hp y; simp at hp; rcases hp with rfl | rfl | rfl | rfl; exact gE_stab y; exact gOP_stab y; exact gB_stab y; exact gO_stab y) ?_
    repeat (refine DerX.val rfl rfl rfl rfl (by first|((first|apply qmv|apply qas|apply qlc|apply qla|apply qfa|apply qnc|apply qic|apply qix|apply qpk|apply qls|apply qei|apply qni|apply qed|apply qnd|apply qad|apply qln|apply qle|apply qgt|apply qge|apply qlk|apply qlv|apply qxt|apply qsb|apply qnt|apply qep|apply qnp|apply qeb|apply qnb|apply qx2|apply qx4|apply qcv|apply qlm|apply qfr|apply qto|apply qmx|apply qen|apply qsn|apply qx8|apply qx7|apply qx6|apply qx5|apply qx4|apply qx3|apply qx2|apply qx1|apply qx0)<;>(first|exact rfl|exact Ar.mk (by omega)|assumption|exact dct (by assumption)|exact dcf (by assumption)|exact dct (by omega)|exact dcf (by omega)|exact List.not_mem_nil|exact dc_length _|exact nc_length _|exact rc_length _ _ _|exact ec_length _|exact nm1 (by omega)|exact nm2 (by omega) (by omega)|exact dct rfl|exact dct (by decide)|exact dcf (by decide)|exact (Int.toNat_of_nonneg (by omega)).symm|exact dcu|exact lk1 (by assumption)|exact lk0 (by assumption)|exact lkb|fail))|fail) ?_)
    refine DerX.val rfl rfl rfl rfl (vals_fromnil rfl rfl) ?_
    refine DerX.empty rfl rfl rfl (Nat.le_refl _) (fun b0 => ?_)
    refine DerX.cloneP (out.take 0) ec_length ec_one rfl rfl rfl rfl (by exact rho_of rfl) (by rw [hlen1]; exact rho_of rfl) rfl rfl rfl (by rw [hlen1]; simp only [maxLen]; omega) (by rw [hlen1]; omega) (fun w hk hF => ⟨by simp [List.take_zero]; exact Sl.nil, hF _ (.head _) (by kernel_rfl)⟩) (fun a4 c4 => ?_)
    refine DerX.buildB rfl rfl rfl rfl rfl (Nat.le_refl _) (fun w => bs25 x w) (fun b9 => ?_)
    refine DerX.appendK (out.take 0) [x] ec_length ec_one rfl rfl rfl rfl (by exact rho_of rfl) (by exact rho_of rfl) rfl rfl rfl (by simp) (by rw [hlen1]; simp only [maxLen]; simp) (by rw [hlen1]; simp; decide) rfl (fun w hk hF => ⟨hF _ (.tail _ (.head _)) (by kernel_rfl), by rw [flt_one]; exact Row.all (hF _ (.head _) (by kernel_rfl)).2 rfl⟩) (fun p hp hne y w w' v' j1 j2 j3 j4 hy => hkeep p hp hne y w w' v' a4 c4 j1 j2 j3 j4 hy) (fun v10 => ?_)
    refine DerX.tl (fun w4 hk4 hF => ?_)
    have ho10 : w4.ownsRow w3.heap.size 62 10 v10 (out.take 0 ++ [x]).length (flt ec (out.take 0 ++ [x])) := hF _ (.head _)
    have hl10 : (out.take 0 ++ [x]).length = 1 := by simp
    rw [hl10] at ho10
    have ho10' := ho10
    obtain ⟨_, ⟨_, hn1⟩ | ⟨g4, cap4, cur4, rfl, _, _, f1, _⟩⟩ := ho10'
    · omega
    refine SG.appendNil rfl rfl rfl (by exact rho_of rfl) (by exact rho_of rfl) f1 ?_
    repeat (first|apply CG.seq|apply CG.region|apply SG.nil|apply NG.next|apply CG.skip|apply CG.block|apply CG.ret|apply CG.exit|apply CG.scope|apply NG.ret_then|apply NG.ret_block|apply NG.ret_scope|apply NG.exit_then|refine NG.exit_block rfl ?_|refine NG.exit_other rfl ?_|apply NG.exit_scope|apply NG.normal_block|apply NG.normal_scope|refine SG.val rfl rfl rfl rfl (by first|((first|apply qmv|apply qas|apply qlc|apply qla|apply qfa|apply qnc|apply qic|apply qix|apply qpk|apply qls|apply qei|apply qni|apply qed|apply qnd|apply qad|apply qln|apply qle|apply qgt|apply qge|apply qlk|apply qlv|apply qxt|apply qsb|apply qnt|apply qep|apply qnp|apply qeb|apply qnb|apply qx2|apply qx4|apply qcv|apply qlm|apply qfr|apply qto|apply qmx|apply qen|apply qsn|apply qx8|apply qx7|apply qx6|apply qx5|apply qx4|apply qx3|apply qx2|apply qx1|apply qx0)<;>(first|exact rfl|exact Ar.mk (by omega)|assumption|exact dct (by assumption)|exact dcf (by assumption)|exact dct (by omega)|exact dcf (by omega)|exact List.not_mem_nil|exact dc_length _|exact nc_length _|exact rc_length _ _ _|exact ec_length _|exact nm1 (by omega)|exact nm2 (by omega) (by omega)|exact dct rfl|exact dct (by decide)|exact dcf (by decide)|exact (Int.toNat_of_nonneg (by omega)).symm|exact dcu|exact lk1 (by assumption)|exact lk0 (by assumption)|exact lkb|fail))|fail) ?_)
    refine NG.round (i + 1, .slice (some ⟨g4, 0, none⟩) 1 cap4) (by (repeat' (first | exact True.intro | exact rfl | refine And.intro ?_ ?_))) ⟨hlt, hk03.trans hk4, hfin _ _ ?_⟩ (by simp only; omega)
    rw [hn0, hnil]
    simp only [hnil, List.take_nil] at ho10
    simpa [flt] using own_mono ho10 (by omega)
  · have hk3c : k ≤ cap := by omega
    have hS3 : SlE w3 (some ⟨gg, 0, none⟩) out := by
      obtain ⟨a5, c5, e5, hS5⟩ := SlF.own ec_length ho3 rfl
      simp only [Value.slice.injEq] at e5
      obtain ⟨rfl, _, rfl⟩ := e5
      exact hS5.sl
    have hrow := own_row ho3
    refine CG.free mixed 14 [1, 2, 3, 5, 6, 7, 8, 11, 12, 13, 0, 4, 9, 10] [(0, gE w3.heap.size 62), (4, gOP w3.heap.size 62 ec 10 (out.take k) (fun v => v)), (9, gB w3.heap.size 62 1 (ec x).toArray), (10, gO w3.heap.size 62 ec 10 (out.take k ++ [x]))] (by kernel_rfl) (by intro p hp y; simp at hp; rcases hp with rfl | rfl | rfl | rfl; exact gE_stab y; exact gOP_stab y; exact gB_stab y; exact gO_stab y) ?_
    repeat (refine DerX.val rfl rfl rfl rfl (by first|((first|apply qmv|apply qas|apply qlc|apply qla|apply qfa|apply qnc|apply qic|apply qix|apply qpk|apply qls|apply qei|apply qni|apply qed|apply qnd|apply qad|apply qln|apply qle|apply qgt|apply qge|apply qlk|apply qlv|apply qxt|apply qsb|apply qnt|apply qep|apply qnp|apply qeb|apply qnb|apply qx2|apply qx4|apply qcv|apply qlm|apply qfr|apply qto|apply qmx|apply qen|apply qsn|apply qx8|apply qx7|apply qx6|apply qx5|apply qx4|apply qx3|apply qx2|apply qx1|apply qx0)<;>(first|exact rfl|exact Ar.mk (by omega)|assumption|exact dct (by assumption)|exact dcf (by assumption)|exact dct (by omega)|exact dcf (by omega)|exact List.not_mem_nil|exact dc_length _|exact nc_length _|exact rc_length _ _ _|exact ec_length _|exact nm1 (by omega)|exact nm2 (by omega) (by omega)|exact dct rfl|exact dct (by decide)|exact dcf (by decide)|exact (Int.toNat_of_nonneg (by omega)).symm|exact dcu|exact lk1 (by assumption)|exact lk0 (by assumption)|exact lkb|fail))|fail) ?_)
    refine DerX.empty rfl rfl rfl (Nat.le_refl _) (fun b0 => ?_)
    refine DerX.cloneP (out.take k) ec_length ec_one rfl rfl rfl rfl (by exact rho_of rfl) (by rw [hlen1]; exact rho_of rfl) rfl rfl rfl (by rw [hlen1]; simp only [maxLen]; omega) (by rw [hlen1]; show k * 24 ≤ _; omega) (fun w hk hF => ⟨(hS3.kp0 hk).take k, hF _ (.head _) (by kernel_rfl)⟩) (fun a4 c4 => ?_)
    refine DerX.buildB rfl rfl rfl rfl rfl (Nat.le_refl _) (fun w => bs25 x w) (fun b9 => ?_)
    refine DerX.appendK (out.take k) [x] ec_length ec_one rfl rfl rfl rfl (by exact rho_of rfl) (by exact rho_of rfl) rfl rfl rfl (by simp) (by rw [hlen1]; simp only [maxLen]; simp; omega) (by rw [hlen1]; show (k + 1) * 24 ≤ _; omega) rfl (fun w hk hF => ⟨hF _ (.tail _ (.head _)) (by kernel_rfl), by rw [flt_one]; exact Row.all (hF _ (.head _) (by kernel_rfl)).2 rfl⟩) (fun p hp hne y w w' v' j1 j2 j3 j4 hy => hkeep p hp hne y w w' v' a4 c4 j1 j2 j3 j4 hy) (fun v10 => ?_)
    refine DerX.tl (fun w4 hk4 hF => ?_)
    have ho10 : w4.ownsRow w3.heap.size 62 10 v10 (out.take k ++ [x]).length (flt ec (out.take k ++ [x])) := hF _ (.head _)
    clear hF
    have hl10 : (out.take k ++ [x]).length = k + 1 := by rw [List.length_append, hlen1]; rfl
    rw [hl10] at ho10
    have hdrop : Row w4 gg (if cap = k then 0 else 0 + k * 10) (flt ec (out.drop k)) := by
      by_cases ec0 : cap = k
      · have : out.drop k = [] := List.drop_eq_nil_of_le (by omega)
        rw [this]
        exact Row.nil_of (hrow.kp0 hk4)
      · rw [if_neg ec0]
        have h5 := (hrow.kp0 hk4).sub (flt ec (out.take k)) (flt ec (out.drop k)) [] (by rw [List.append_nil, ← flt_append, List.take_append_drop])
        rwa [flt_length ec_length, hlen1] at h5
    have s4 := hk4.size
    refine SG.append rfl rfl rfl (by exact rho_of rfl) (by exact rho_of rfl) rfl rfl rfl ho10 hdrop (by rw [flt_length ec_length, List.length_drop]; rfl) (flt_all ec_one _) (by simp only [maxLen]; omega) (by show (k + 1 + (out.length - k)) * 24 ≤ _; omega) (by omega) (fun v' w5 hk5 ho5 => ?_)
    repeat (first|apply CG.seq|apply CG.region|apply SG.nil|apply NG.next|apply CG.skip|apply CG.block|apply CG.ret|apply CG.exit|apply CG.scope|apply NG.ret_then|apply NG.ret_block|apply NG.ret_scope|apply NG.exit_then|refine NG.exit_block rfl ?_|refine NG.exit_other rfl ?_|apply NG.exit_scope|apply NG.normal_block|apply NG.normal_scope|refine SG.val rfl rfl rfl rfl (by first|((first|apply qmv|apply qas|apply qlc|apply qla|apply qfa|apply qnc|apply qic|apply qix|apply qpk|apply qls|apply qei|apply qni|apply qed|apply qnd|apply qad|apply qln|apply qle|apply qgt|apply qge|apply qlk|apply qlv|apply qxt|apply qsb|apply qnt|apply qep|apply qnp|apply qeb|apply qnb|apply qx2|apply qx4|apply qcv|apply qlm|apply qfr|apply qto|apply qmx|apply qen|apply qsn|apply qx8|apply qx7|apply qx6|apply qx5|apply qx4|apply qx3|apply qx2|apply qx1|apply qx0)<;>(first|exact rfl|exact Ar.mk (by omega)|assumption|exact dct (by assumption)|exact dcf (by assumption)|exact dct (by omega)|exact dcf (by omega)|exact List.not_mem_nil|exact dc_length _|exact nc_length _|exact rc_length _ _ _|exact ec_length _|exact nm1 (by omega)|exact nm2 (by omega) (by omega)|exact dct rfl|exact dct (by decide)|exact dcf (by decide)|exact (Int.toNat_of_nonneg (by omega)).symm|exact dcu|exact lk1 (by assumption)|exact lk0 (by assumption)|exact lkb|fail))|fail) ?_)
    exact NG.round (i + 1, v') (by (repeat' (first | exact True.intro | exact rfl | refine And.intro ?_ ?_))) ⟨hlt, (hk03.trans hk4).trans_new hk5 (own_new ho10 (by omega)), hfin _ _ (own_mono ho5 (by omega))⟩ (by simp only; omega)
end Go.Proofs.Ytkkfppfpbobghaa
/-
  A book and the document's accounts: plain laws.
-/
namespace Go.Proofs.Ytkkfppfpbobghaa
open Go.Shelf Go.Sort
set_option linter.unusedVariables false

structure Rel (T N : Int) (m : Bk) (l : List En) : Prop where
  ok : Ok T N m
  nd : (l.map (·.key)).Nodup
  bal : ∀ k, Go.Proofs.Ytkkfppfpbobghaa.bal m k = ofL l k
  sum : esum l = T
def doL (l : List En) (o : Oq) : List En := if o.mv then rmL l (keyD o.A) (keyD o.B) o.N else ruL l (keyD o.A) o.N
def doLE (l : List En) (o : Oq) : Int := if o.mv then rmE l (keyD o.A) o.N else ruE l (keyD o.A) o.N
theorem Rel.mvE {T N : Int} {m : Bk} {l : List En} (h : Rel T N m l) (f : Dg) (n : Int) : Go.Proofs.Ytkkfppfpbobghaa.mvE m f n = rmE l f n := by
  unfold Go.Proofs.Ytkkfppfpbobghaa.mvE rmE
  rw [h.bal]
theorem Rel.usE {T N : Int} {m : Bk} {l : List En} (h : Rel T N m l) (hN : 0 ≤ N) (hN' : N ≤ 1099511627776) (k : Dg) (n : Int) : Go.Proofs.Ytkkfppfpbobghaa.usE m k n = ruE l k n := by
  have hb := h.ok.bnd hN k
  unfold Go.Proofs.Ytkkfppfpbobghaa.usE ruE
  rw [h.bal] at hb ⊢
  by_cases h1 : n < (ofL l k).nonce
  · rw [if_pos h1, if_pos h1]
  · rw [if_neg h1, if_neg h1]
    by_cases h2 : (ofL l k).nonce < n
    · rw [if_pos h2, if_pos h2]
    · rw [if_neg h2, if_neg h2]
      by_cases h3 : 1099511627776 ≤ n
      · rw [if_pos h3, if_pos (by omega)]
      · rw [if_neg h3, if_neg (by omega)]
theorem rm_keys {l : List En} (h : (l.map (·.key)).Nodup) (f t : Dg) (n : Int) : ((rmL l f t n).map (·.key)).Nodup := by
  unfold rmL rm2 rm1
  split
  · exact setL_keys (setL_keys h _) _
  · exact h
theorem ofL_rm {l : List En} (h : (l.map (·.key)).Nodup) {f t : Dg} {n : Int} (he : rmE l f n = 0) (x : Dg) : ofL (rmL l f t n) x = if t = x then ⟨(if f = t then (ofL l f).money - n else (ofL l t).money) + n, (ofL l t).nonce⟩ else if f = x then ⟨(ofL l f).money - n, (ofL l f).nonce⟩ else ofL l x := by
  unfold rmL
  rw [if_pos he]
  unfold rm2
  have h1 : ((rm1 l f n).map (·.key)).Nodup := setL_keys h _
  have ho : ∀ y, ofL (rm1 l f n) y = if f = y then ⟨(ofL l f).money - n, (ofL l f).nonce⟩ else ofL l y := fun y => ofL_set h _ y
  rw [ofL_set h1]
  simp only
  rw [ho x, ho t]
  by_cases e1 : t = x
  · rw [if_pos e1, if_pos e1]
    by_cases e2 : f = t
    · rw [if_pos e2, if_pos e2, e2]
    · rw [if_neg e2, if_neg e2]
  · rw [if_neg e1, if_neg e1]
theorem esum_rm {l : List En} (h : (l.map (·.key)).Nodup) (f t : Dg) (n : Int) : esum (rmL l f t n) = esum l := by
  unfold rmL
  split
  · unfold rm2
    rw [esum_set]
    simp only
    unfold rm1
    rw [esum_set]
    simp only
    omega
  · rfl
theorem Rel.move {T N : Int} {m : Bk} {l : List En} (h : Rel T N m l) (hN : 0 ≤ N) (f t : Dg) (n : Int) : Rel T N (mvM m f t n) (rmL l f t n) := by
  refine ⟨h.ok.move hN f t n, rm_keys h.nd f t n, fun k => ?_, by rw [esum_rm h.nd, h.sum]⟩
  have hE := h.mvE f n
  by_cases he : Go.Proofs.Ytkkfppfpbobghaa.mvE m f n = 0
  · have he' : rmE l f n = 0 := by rw [← hE]; exact he
    rw [ofL_rm h.nd he']
    by_cases hft : f = t
    · subst hft
      rw [mvM_same, h.bal]
      by_cases e1 : f = k
      · subst e1
        rw [if_pos rfl, if_pos rfl, show (ofL l f).money - n + n = (ofL l f).money by omega]
      · rw [if_neg e1, if_neg e1]
    · rw [bal_move he hft, if_neg hft, h.bal, h.bal, h.bal]
  · have he' : ¬ rmE l f n = 0 := by rw [← hE]; exact he
    have e1 : mvM m f t n = m := by unfold mvM; rw [if_neg (by simp [he])]
    have e2 : rmL l f t n = l := by unfold rmL; rw [if_neg he']
    rw [e1, e2]
    exact h.bal k
theorem Rel.use {T N : Int} {m : Bk} {l : List En} (h : Rel T N m l) (hN : 0 ≤ N) (hN' : N ≤ 1099511627776) (k : Dg) (n : Int) : Rel T (N + 1) (usM m k n) (ruL l k n) := by
  have hE := h.usE hN hN' k n
  by_cases he : Go.Proofs.Ytkkfppfpbobghaa.usE m k n = 0
  · have he' : ruE l k n = 0 := by rw [← hE]; exact he
    have e2 : ruL l k n = setL l ⟨k, (ofL l k).money, (ofL l k).nonce + 1⟩ := by unfold ruL; rw [if_pos he']
    refine ⟨h.ok.use hN k n, by rw [e2]; exact setL_keys h.nd _, fun x => ?_, ?_⟩
    · rw [bal_use he, e2, ofL_set h.nd, h.bal, h.bal]
    · rw [e2, esum_set, h.sum]
      simp only
      omega
  · have he' : ¬ ruE l k n = 0 := by rw [← hE]; exact he
    have e2 : ruL l k n = l := by unfold ruL; rw [if_neg he']
    have e1 : usM m k n = m := by unfold usM; rw [if_neg he]
    refine ⟨h.ok.use hN k n, by rw [e2]; exact h.nd, fun x => by rw [e1, e2]; exact h.bal x, by rw [e2]; exact h.sum⟩
theorem Rel.wide {T N N' : Int} {m : Bk} {l : List En} (h : Rel T N m l) (hN : N ≤ N') : Rel T N' m l := ⟨h.ok.wide hN, h.nd, h.bal, h.sum⟩
theorem Rel.do {T N : Int} {m : Bk} {l : List En} (h : Rel T N m l) (hN : 0 ≤ N) (hN' : N ≤ 1099511627776) (o : Oq) : Rel T (N + 1) (doM m o) (doL l o) := by
  unfold doM doL
  split
  · exact (h.move hN _ _ _).wide (by omega)
  · exact h.use hN hN' _ _
theorem doL_length (l : List En) (o : Oq) : (doL l o).length ≤ l.length + 2 := by
  unfold doL
  split
  · unfold rmL
    split
    · have h1 := setL_length l ⟨keyD o.A, (ofL l (keyD o.A)).money - o.N, (ofL l (keyD o.A)).nonce⟩
      have h2 := setL_length (rm1 l (keyD o.A) o.N) ⟨keyD o.B, (ofL (rm1 l (keyD o.A) o.N) (keyD o.B)).money + o.N, (ofL (rm1 l (keyD o.A) o.N) (keyD o.B)).nonce⟩
      unfold rm2
      unfold rm1 at h2 ⊢
      omega
    · omega
  · unfold ruL
    split
    · have h1 := setL_length l ⟨keyD o.A, (ofL l (keyD o.A)).money, (ofL l (keyD o.A)).nonce + 1⟩
      omega
    · omega
theorem Rel.lgood {T N : Int} {m : Bk} {l : List En} (h : Rel T N m l) (hN : 0 ≤ N) (hT : T ≤ 2000000000000000000) (hN' : N ≤ 2000000000000000000) : LGood l := fun k => by
  have := h.ok.bnd hN k
  rw [h.bal] at this
  omega
theorem Rel.ent {T N : Int} {m : Bk} {l : List En} (h : Rel T N m l) (hN : 0 ≤ N) {e : En} (he : e ∈ l) : 0 ≤ e.money ∧ e.money ≤ T ∧ 0 ≤ e.nonce ∧ e.nonce ≤ N := by
  have := h.ok.bnd hN e.key
  rw [h.bal, ofL_mem h.nd he] at this
  exact this

/-! all, in order -/
def SAsc (l : List En) : Prop := l.Pairwise (fun a b => cb a.key.1 b.key.1 < 0)
theorem mem_takeWhile {p : En → Bool} : ∀ {l : List En} {e : En}, e ∈ l.takeWhile p → p e = true
  | [], e, h => by simp at h
  | x :: l, e, h => by
    rw [List.takeWhile_cons] at h
    split at h
    · rcases List.mem_cons.1 h with rfl | h
      · assumption
      · exact mem_takeWhile h
    · cases h
theorem insE_sasc {out : List En} {x : En} (h : SAsc out) (hx : ∀ e ∈ out, e.key ≠ x.key) : SAsc (insE out x) := by
  have hsplit : out.takeWhile (ltK x) ++ out.dropWhile (ltK x) = out := List.takeWhile_append_dropWhile
  have h' : SAsc (out.takeWhile (ltK x) ++ out.dropWhile (ltK x)) := by rw [hsplit]; exact h
  unfold SAsc at h'
  rw [List.pairwise_append] at h'
  obtain ⟨h1, h2, h3⟩ := h'
  have hgt : ∀ e ∈ out.dropWhile (ltK x), cb x.key.1 e.key.1 < 0 := by
    cases hd : out.dropWhile (ltK x) with
    | nil => intro e he; cases he
    | cons e0 rest =>
      have hne : out.dropWhile (ltK x) ≠ [] := by rw [hd]; simp
      have hh := List.head_dropWhile_not (ltK x) hne
      have e0h : (out.dropWhile (ltK x)).head hne = e0 := by simp [hd]
      rw [e0h] at hh
      have hm0 : e0 ∈ out := by rw [← hsplit]; exact List.mem_append_right _ (by rw [hd]; simp)
      have hlt : ¬ cb e0.key.1 x.key.1 < 0 := by
        unfold ltK at hh
        simpa using hh
      have hne0 : cb e0.key.1 x.key.1 ≠ 0 := fun hz => hx e0 hm0 (Subtype.ext (cb_zero _ _ hz))
      have hneg := cb_neg e0.key.1 x.key.1
      have hx0 : cb x.key.1 e0.key.1 < 0 := by omega
      intro e he
      rcases List.mem_cons.1 he with rfl | he
      · exact hx0
      · rw [hd, List.pairwise_cons] at h2
        exact cb_trans _ _ _ hx0 (h2.1 e he)
  unfold insE SAsc
  rw [List.pairwise_append]
  refine ⟨h1, List.pairwise_cons.2 ⟨hgt, h2⟩, fun a ha b hb => ?_⟩
  rcases List.mem_cons.1 hb with rfl | hb
  · exact of_decide_eq_true (mem_takeWhile ha)
  · exact h3 a ha b hb
theorem foldl_sasc : ∀ {l out : List En}, SAsc out → ((l ++ out).map (·.key)).Nodup → SAsc (l.foldl insE out)
  | [], out, h, _ => h
  | x :: l, out, h, hn => by
    have hn2 : ((l ++ insE out x).map (·.key)).Nodup := by
      have hp : (l ++ insE out x).Perm ((x :: l) ++ out) := (List.Perm.append_left l (insE_perm out x)).trans List.perm_middle
      exact (hp.map _).nodup_iff.2 hn
    show SAsc (l.foldl insE (insE out x))
    refine foldl_sasc (l := l) (out := insE out x) (insE_sasc h (fun e he hk => ?_)) hn2
    rw [List.cons_append, List.map_cons, List.nodup_cons] at hn
    exact hn.1 (List.mem_map.2 ⟨e, by simp [he], hk⟩)
theorem allL_sasc {l : List En} (h : (l.map (·.key)).Nodup) : SAsc (allL l) := by
  unfold allL
  refine foldl_sasc List.Pairwise.nil ?_
  rw [List.append_nil]
  exact h.sublist (List.filter_sublist.map _)
theorem nodup_of_keys {l : List En} (h : (l.map (·.key)).Nodup) : l.Nodup := by
  unfold List.Nodup at *
  rw [List.pairwise_map] at h
  exact h.imp (fun hab e => hab (by rw [e]))
theorem Rel.all {T N : Int} {m : Bk} {l : List En} (h : Rel T N m l) {es : List En} (hp : es.Perm (m.map enE)) (ha : Asc es) : es = allL l := by
  have hkm : ((m.map enE).map (·.key)).Nodup := by
    rw [List.map_map]
    exact h.ok.nd
  have hkf : ((l.filter nz).map (·.key)).Nodup := h.nd.sublist (List.filter_sublist.map _)
  have hpm : (m.map enE).Perm (l.filter nz) := by
    rw [List.perm_ext_iff_of_nodup (nodup_of_keys hkm) (nodup_of_keys hkf)]
    intro e
    constructor
    · intro he
      obtain ⟨p, hp', rfl⟩ := List.mem_map.1 he
      have hb := bal_mem h.ok.nd hp'
      have hz := h.ok.nz p hp'
      rw [h.bal] at hb
      have hf : ∃ e', l.find? (fun e => decide (e.key = p.1)) = some e' := by
        cases hfd : l.find? (fun e => decide (e.key = p.1)) with
        | some e' => exact ⟨e', rfl⟩
        | none =>
          exfalso
          apply hz
          rw [← hb]
          unfold ofL
          rw [hfd]
      obtain ⟨e', he'⟩ := hf
      have hmem := List.mem_of_find?_eq_some he'
      have hkey : e'.key = p.1 := by have := List.find?_some he'; simpa using this
      have hval : (⟨e'.money, e'.nonce⟩ : Pu) = p.2 := by
        rw [← hb]
        unfold ofL
        rw [he']
      have hee : e' = enE p := by
        have h1 := congrArg Pu.money hval
        have h2 := congrArg Pu.nonce hval
        exact En.ext hkey h1 h2
      rw [← hee, List.mem_filter]
      refine ⟨hmem, ?_⟩
      unfold nz
      cases hb1 : decide (e'.money = 0) with
      | false => rfl
      | true =>
        cases hb2 : decide (e'.nonce = 0) with
        | false => rfl
        | true =>
          exfalso
          apply hz
          rw [← hval, of_decide_eq_true hb1, of_decide_eq_true hb2]
          rfl
    · intro he
      rw [List.mem_filter] at he
      obtain ⟨he1, he2⟩ := he
      have hb := ofL_mem h.nd he1
      rw [← h.bal] at hb
      have hne : (⟨e.money, e.nonce⟩ : Pu) ≠ p0 := by
        intro hh
        have h1 : e.money = 0 := congrArg Pu.money hh
        have h2 : e.nonce = 0 := congrArg Pu.nonce hh
        unfold nz at he2
        simp [h1, h2] at he2
      have hal : alook m e.key = some ⟨e.money, e.nonce⟩ := by
        unfold Go.Proofs.Ytkkfppfpbobghaa.bal at hb
        cases hq : alook m e.key with
        | none => rw [hq] at hb; exact absurd hb.symm hne
        | some q => rw [hq] at hb; simp only [Option.getD_some] at hb; rw [hb]
      exact List.mem_map.2 ⟨_, mem_of_alook hal, rfl⟩
  have hpa : es.Perm (allL l) := hp.trans (hpm.trans (allL_perm l).symm)
  have hka : ((allL l).map (·.key)).Nodup := ((allL_perm l).map _).nodup_iff.2 hkf
  have hsa : (allL l).Pairwise (fun x y => ltOf cf y x = false) := (allL_sasc h.nd).imp (fun {a b} hab => by
    refine decide_eq_false ?_
    show ¬ cb b.key.1 a.key.1 < 0
    have := cb_neg a.key.1 b.key.1
    omega)
  refine List.Perm.eq_of_pairwise (le := fun x y => ltOf cf y x = false) (fun a b h1 h2 h3 h4 => ?_) ha hsa hpa
  have h3 : ¬ cb b.key.1 a.key.1 < 0 := of_decide_eq_false h3
  have h4 : ¬ cb a.key.1 b.key.1 < 0 := of_decide_eq_false h4
  have hn := cb_neg a.key.1 b.key.1
  have hk : a.key = b.key := Subtype.ext (cb_zero _ _ (by omega))
  have ea := ofL_mem hka (hpa.mem_iff.1 h1)
  have eb := ofL_mem hka h2
  rw [hk, eb] at ea
  exact En.ext hk (congrArg Pu.money ea).symm (congrArg Pu.nonce ea).symm
end Go.Proofs.Ytkkfppfpbobghaa
/-
  do: a book, and the document's accounts, do the same.
-/
namespace Go.Proofs.Ytkkfppfpbobghaa
set_option linter.unusedVariables false

theorem SlE.kpm {w w' : World} {a : Option Addr} {l : List En} {bm : Nat} {m : Bk} (h : SlE w a l) (hm : MapIs w bm (dv (n := 8)) nv m) (hk : Kp [bm] w w') : SlE w' a l := fun i x hx => by
  obtain ⟨b, off, e, hr⟩ := h i x hx
  refine ⟨b, off, e, hr.kp hk (nm1 (fun eb => ?_))⟩
  obtain ⟨_, _, hq⟩ := hm.blk
  obtain ⟨cs, T, f, hB, _⟩ := hr
  rw [eb] at hB
  cases hq.uniq hB

attribute [local irreducible] CG NG SG Vals Der Row Blk MapIs IterAt DerX
set_option maxHeartbeats 32000000 in
theorem do_spec {w : World} {bt bm : Nat} {m : Bk} (hB : BookAt w bt bm m) {a : Option Addr} {l : List En} (c : Nat) (hS : SlE w a l) {T N : Int} (rel : Rel T N m l) (hT : T ≤ 1000000000000000) (hN : 0 ≤ N) (hN' : N ≤ 1000000) (hl : l.length ≤ 10000) (o : Oq) :
    Calls Try.prog 13 #[.pointer (some ⟨bt, 0, none⟩), .slice a l.length c, .agg (oq o).toArray] w (fun r w' => ∃ a' c', r = .returned (.tuple #[.slice a' (doL l o).length c', .bool true]) ∧ BookAt w' bt bm (doM m o) ∧ SlE w' a' (doL l o) ∧ Kp [bm] w w') := by
  refine enter3 Try.func13 rfl Try.ntmps13 rfl ?_
  have hg := rel.ok.good hN (by omega) (by omega)
  have lg := rel.lgood hN (by omega) (by omega)
  have lt1 := hB.blk.lt
  have lt2 := hB.map.lt
  repeat (first|apply CG.seq|apply CG.region|apply SG.nil|apply NG.next|apply CG.skip|apply CG.block|apply CG.ret|apply CG.exit|apply CG.scope|apply NG.ret_then|apply NG.ret_block|apply NG.ret_scope|apply NG.exit_then|refine NG.exit_block rfl ?_|refine NG.exit_other rfl ?_|apply NG.exit_scope|apply NG.normal_block|apply NG.normal_scope|refine SG.val rfl rfl rfl rfl (by first|((first|apply qmv|apply qas|apply qlc|apply qla|apply qfa|apply qnc|apply qic|apply qix|apply qpk|apply qls|apply qei|apply qni|apply qed|apply qnd|apply qad|apply qln|apply qle|apply qgt|apply qge|apply qlk|apply qlv|apply qxt|apply qsb|apply qnt|apply qep|apply qnp|apply qeb|apply qnb|apply qx2|apply qx4|apply qcv|apply qlm|apply qfr|apply qto|apply qmx|apply qen|apply qsn|apply qx8|apply qx7|apply qx6|apply qx5|apply qx4|apply qx3|apply qx2|apply qx1|apply qx0)<;>(first|exact rfl|exact Ar.mk (by omega)|assumption|exact dct (by assumption)|exact dcf (by assumption)|exact dct (by omega)|exact dcf (by omega)|exact List.not_mem_nil|exact dc_length _|exact nc_length _|exact rc_length _ _ _|exact ec_length _|exact nm1 (by omega)|exact nm2 (by omega) (by omega)|exact dct rfl|exact dct (by decide)|exact dcf (by decide)|exact (Int.toNat_of_nonneg (by omega)).symm|exact dcu|exact lk1 (by assumption)|exact lk0 (by assumption)|exact lkb|fail))|fail) ?_)
  refine SG.box rfl rfl rfl (by exact rho_of rfl) (fun b5 w1 hk1 hb5 hB5 => ?_)
  have hB5 : Blk w1 b5 (.cells (oq o).toArray 32) := hB5
  have hRo : Row w1 b5 0 (oq o) := Row.all hB5 rfl
  obtain ⟨q0, q1, q2, q3⟩ := oq_sub hRo
  have hB1 := hB.kp0 hk1
  have hS1 := hS.kp0 hk1
  have s1 := hk1.size
  repeat (first|apply CG.seq|apply CG.region|apply SG.nil|apply NG.next|apply CG.skip|apply CG.block|apply CG.ret|apply CG.exit|apply CG.scope|apply NG.ret_then|apply NG.ret_block|apply NG.ret_scope|apply NG.exit_then|refine NG.exit_block rfl ?_|refine NG.exit_other rfl ?_|apply NG.exit_scope|apply NG.normal_block|apply NG.normal_scope|refine SG.val rfl rfl rfl rfl (by first|((first|apply qmv|apply qas|apply qlc|apply qla|apply qfa|apply qnc|apply qic|apply qix|apply qpk|apply qls|apply qei|apply qni|apply qed|apply qnd|apply qad|apply qln|apply qle|apply qgt|apply qge|apply qlk|apply qlv|apply qxt|apply qsb|apply qnt|apply qep|apply qnp|apply qeb|apply qnb|apply qx2|apply qx4|apply qcv|apply qlm|apply qfr|apply qto|apply qmx|apply qen|apply qsn|apply qx8|apply qx7|apply qx6|apply qx5|apply qx4|apply qx3|apply qx2|apply qx1|apply qx0)<;>(first|exact rfl|exact Ar.mk (by omega)|assumption|exact dct (by assumption)|exact dcf (by assumption)|exact dct (by omega)|exact dcf (by omega)|exact List.not_mem_nil|exact dc_length _|exact nc_length _|exact rc_length _ _ _|exact ec_length _|exact nm1 (by omega)|exact nm2 (by omega) (by omega)|exact dct rfl|exact dct (by decide)|exact dcf (by decide)|exact (Int.toNat_of_nonneg (by omega)).symm|exact dcu|exact lk1 (by assumption)|exact lk0 (by assumption)|exact lkb|fail))|fail) ?_)
  refine SG.val rfl rfl rfl rfl (vals_rem rfl rfl (by decide)) ?_
  repeat (first|apply CG.seq|apply CG.region|apply SG.nil|apply NG.next|apply CG.skip|apply CG.block|apply CG.ret|apply CG.exit|apply CG.scope|apply NG.ret_then|apply NG.ret_block|apply NG.ret_scope|apply NG.exit_then|refine NG.exit_block rfl ?_|refine NG.exit_other rfl ?_|apply NG.exit_scope|apply NG.normal_block|apply NG.normal_scope|refine SG.val rfl rfl rfl rfl (by first|((first|apply qmv|apply qas|apply qlc|apply qla|apply qfa|apply qnc|apply qic|apply qix|apply qpk|apply qls|apply qei|apply qni|apply qed|apply qnd|apply qad|apply qln|apply qle|apply qgt|apply qge|apply qlk|apply qlv|apply qxt|apply qsb|apply qnt|apply qep|apply qnp|apply qeb|apply qnb|apply qx2|apply qx4|apply qcv|apply qlm|apply qfr|apply qto|apply qmx|apply qen|apply qsn|apply qx8|apply qx7|apply qx6|apply qx5|apply qx4|apply qx3|apply qx2|apply qx1|apply qx0)<;>(first|exact rfl|exact Ar.mk (by omega)|assumption|exact dct (by assumption)|exact dcf (by assumption)|exact dct (by omega)|exact dcf (by omega)|exact List.not_mem_nil|exact dc_length _|exact nc_length _|exact rc_length _ _ _|exact ec_length _|exact nm1 (by omega)|exact nm2 (by omega) (by omega)|exact dct rfl|exact dct (by decide)|exact dcf (by decide)|exact (Int.toNat_of_nonneg (by omega)).symm|exact dcu|exact lk1 (by assumption)|exact lk0 (by assumption)|exact lkb|fail))|fail) ?_)
  by_cases hmv : o.mv
  · have eL : doL l o = rmL l (keyD o.A) (keyD o.B) o.N := by unfold doL; rw [if_pos hmv]
    have eM : doM m o = mvM m (keyD o.A) (keyD o.B) o.N := by unfold doM; rw [if_pos hmv]
    have eE := rel.mvE (keyD o.A) o.N
    rw [eL, eM]
    refine CG.cond_t rfl (by exact rho_of rfl) (decide_eq_true hmv) ?_
    repeat (first|apply CG.seq|apply CG.region|apply SG.nil|apply NG.next|apply CG.skip|apply CG.block|apply CG.ret|apply CG.exit|apply CG.scope|apply NG.ret_then|apply NG.ret_block|apply NG.ret_scope|apply NG.exit_then|refine NG.exit_block rfl ?_|refine NG.exit_other rfl ?_|apply NG.exit_scope|apply NG.normal_block|apply NG.normal_scope|refine SG.val rfl rfl rfl rfl (by first|((first|apply qmv|apply qas|apply qlc|apply qla|apply qfa|apply qnc|apply qic|apply qix|apply qpk|apply qls|apply qei|apply qni|apply qed|apply qnd|apply qad|apply qln|apply qle|apply qgt|apply qge|apply qlk|apply qlv|apply qxt|apply qsb|apply qnt|apply qep|apply qnp|apply qeb|apply qnb|apply qx2|apply qx4|apply qcv|apply qlm|apply qfr|apply qto|apply qmx|apply qen|apply qsn|apply qx8|apply qx7|apply qx6|apply qx5|apply qx4|apply qx3|apply qx2|apply qx1|apply qx0)<;>(first|exact rfl|exact Ar.mk (by omega)|assumption|exact dct (by assumption)|exact dcf (by assumption)|exact dct (by omega)|exact dcf (by omega)|exact List.not_mem_nil|exact dc_length _|exact nc_length _|exact rc_length _ _ _|exact ec_length _|exact nm1 (by omega)|exact nm2 (by omega) (by omega)|exact dct rfl|exact dct (by decide)|exact dcf (by decide)|exact (Int.toNat_of_nonneg (by omega)).symm|exact dcu|exact lk1 (by assumption)|exact lk0 (by assumption)|exact lkb|fail))|fail) ?_)
    refine CG.draw mixed [0, 1, 2, 3, 4, 5, 6, 7, 8, 9, 10, 11, 12, 13, 14] [9] [] [] (fun _ => True) (by kernel_rfl) (by simp) (by simp) trivial (fun _ _ _ _ => trivial) (Or.inl rfl) ?_
    repeat (refine Der.val rfl rfl rfl (by first|((first|apply qmv|apply qas|apply qlc|apply qla|apply qfa|apply qnc|apply qic|apply qix|apply qpk|apply qls|apply qei|apply qni|apply qed|apply qnd|apply qad|apply qln|apply qle|apply qgt|apply qge|apply qlk|apply qlv|apply qxt|apply qsb|apply qnt|apply qep|apply qnp|apply qeb|apply qnb|apply qx2|apply qx4|apply qcv|apply qlm|apply qfr|apply qto|apply qmx|apply qen|apply qsn|apply qx8|apply qx7|apply qx6|apply qx5|apply qx4|apply qx3|apply qx2|apply qx1|apply qx0)<;>(first|exact rfl|exact Ar.mk (by omega)|assumption|exact dct (by assumption)|exact dcf (by assumption)|exact dct (by omega)|exact dcf (by omega)|exact List.not_mem_nil|exact dc_length _|exact nc_length _|exact rc_length _ _ _|exact ec_length _|exact nm1 (by omega)|exact nm2 (by omega) (by omega)|exact dct rfl|exact dct (by decide)|exact dcf (by decide)|exact (Int.toNat_of_nonneg (by omega)).symm|exact dcu|exact lk1 (by assumption)|exact lk0 (by assumption)|exact lkb|fail))|fail) ?_)
    refine Der.call rfl rfl rfl (vs := [bv o.A]) ⟨rfl, True.intro⟩ (fun w hk _ => key_spec o.A w) ?_
    repeat (refine Der.val rfl rfl rfl (by first|((first|apply qmv|apply qas|apply qlc|apply qla|apply qfa|apply qnc|apply qic|apply qix|apply qpk|apply qls|apply qei|apply qni|apply qed|apply qnd|apply qad|apply qln|apply qle|apply qgt|apply qge|apply qlk|apply qlv|apply qxt|apply qsb|apply qnt|apply qep|apply qnp|apply qeb|apply qnb|apply qx2|apply qx4|apply qcv|apply qlm|apply qfr|apply qto|apply qmx|apply qen|apply qsn|apply qx8|apply qx7|apply qx6|apply qx5|apply qx4|apply qx3|apply qx2|apply qx1|apply qx0)<;>(first|exact rfl|exact Ar.mk (by omega)|assumption|exact dct (by assumption)|exact dcf (by assumption)|exact dct (by omega)|exact dcf (by omega)|exact List.not_mem_nil|exact dc_length _|exact nc_length _|exact rc_length _ _ _|exact ec_length _|exact nm1 (by omega)|exact nm2 (by omega) (by omega)|exact dct rfl|exact dct (by decide)|exact dcf (by decide)|exact (Int.toNat_of_nonneg (by omega)).symm|exact dcu|exact lk1 (by assumption)|exact lk0 (by assumption)|exact lkb|fail))|fail) ?_)
    refine Der.call rfl rfl rfl (vs := [bv o.B]) ⟨rfl, True.intro⟩ (fun w hk _ => key_spec o.B w) ?_
    repeat (refine Der.val rfl rfl rfl (by first|((first|apply qmv|apply qas|apply qlc|apply qla|apply qfa|apply qnc|apply qic|apply qix|apply qpk|apply qls|apply qei|apply qni|apply qed|apply qnd|apply qad|apply qln|apply qle|apply qgt|apply qge|apply qlk|apply qlv|apply qxt|apply qsb|apply qnt|apply qep|apply qnp|apply qeb|apply qnb|apply qx2|apply qx4|apply qcv|apply qlm|apply qfr|apply qto|apply qmx|apply qen|apply qsn|apply qx8|apply qx7|apply qx6|apply qx5|apply qx4|apply qx3|apply qx2|apply qx1|apply qx0)<;>(first|exact rfl|exact Ar.mk (by omega)|assumption|exact dct (by assumption)|exact dcf (by assumption)|exact dct (by omega)|exact dcf (by omega)|exact List.not_mem_nil|exact dc_length _|exact nc_length _|exact rc_length _ _ _|exact ec_length _|exact nm1 (by omega)|exact nm2 (by omega) (by omega)|exact dct rfl|exact dct (by decide)|exact dcf (by decide)|exact (Int.toNat_of_nonneg (by omega)).symm|exact dcu|exact lk1 (by assumption)|exact lk0 (by assumption)|exact lkb|fail))|fail) ?_)
    refine Der.callGR (X := Option Addr × Nat) (vs := [.slice a l.length c, dv (keyD o.A), dv (keyD o.B), .int .i64 o.N]) (fun q => .tuple #[.slice q.1 (rmL l (keyD o.A) (keyD o.B) o.N).length q.2, .int .i64 (rmE l (keyD o.A) o.N)]) (fun q w => SlE w q.1 (rmL l (keyD o.A) (keyD o.B) o.N)) (fun _ _ => True) rfl rfl rfl rfl (by repeat' (first | exact True.intro | exact rho_of rfl | refine And.intro ?_ ?_)) (fun q w w' hk hq => hq.kp0 hk) (fun _ _ _ _ _ => trivial) (fun _ _ _ _ => trivial) ?_ ?_
    · intro w2 hk2 _ _
      refine (rmove_spec c (hS1.kp0 hk2) (by omega) rel.nd lg (keyD o.A) (keyD o.B) o.N).mono (fun r w3 hh => ?_)
      obtain ⟨a3, c3, hr3, hS3, hk3⟩ := hh
      exact ⟨(a3, c3), hr3, hS3, trivial, hk3⟩
    rintro ⟨a3, c3⟩
    repeat (refine Der.val rfl rfl rfl (by first|((first|apply qmv|apply qas|apply qlc|apply qla|apply qfa|apply qnc|apply qic|apply qix|apply qpk|apply qls|apply qei|apply qni|apply qed|apply qnd|apply qad|apply qln|apply qle|apply qgt|apply qge|apply qlk|apply qlv|apply qxt|apply qsb|apply qnt|apply qep|apply qnp|apply qeb|apply qnb|apply qx2|apply qx4|apply qcv|apply qlm|apply qfr|apply qto|apply qmx|apply qen|apply qsn|apply qx8|apply qx7|apply qx6|apply qx5|apply qx4|apply qx3|apply qx2|apply qx1|apply qx0)<;>(first|exact rfl|exact Ar.mk (by omega)|assumption|exact dct (by assumption)|exact dcf (by assumption)|exact dct (by omega)|exact dcf (by omega)|exact List.not_mem_nil|exact dc_length _|exact nc_length _|exact rc_length _ _ _|exact ec_length _|exact nm1 (by omega)|exact nm2 (by omega) (by omega)|exact dct rfl|exact dct (by decide)|exact dcf (by decide)|exact (Int.toNat_of_nonneg (by omega)).symm|exact dcu|exact lk1 (by assumption)|exact lk0 (by assumption)|exact lkb|fail))|fail) ?_)
    refine Der.fin (fun w2 hk2 hF _ => ?_)
    have hS2 : SlE w2 a3 (rmL l (keyD o.A) (keyD o.B) o.N) := hF.2
    have q1 := q1.kp0 hk2
    have q2 := q2.kp0 hk2
    have q3 := q3.kp0 hk2
    have hB2 := hB1.kp0 hk2
    have s2 := hk2.size
    have lt5 := hB5.lt
    repeat (first|apply CG.seq|apply CG.region|apply SG.nil|apply NG.next|apply CG.skip|apply CG.block|apply CG.ret|apply CG.exit|apply CG.scope|apply NG.ret_then|apply NG.ret_block|apply NG.ret_scope|apply NG.exit_then|refine NG.exit_block rfl ?_|refine NG.exit_other rfl ?_|apply NG.exit_scope|apply NG.normal_block|apply NG.normal_scope|refine SG.val rfl rfl rfl rfl (by first|((first|apply qmv|apply qas|apply qlc|apply qla|apply qfa|apply qnc|apply qic|apply qix|apply qpk|apply qls|apply qei|apply qni|apply qed|apply qnd|apply qad|apply qln|apply qle|apply qgt|apply qge|apply qlk|apply qlv|apply qxt|apply qsb|apply qnt|apply qep|apply qnp|apply qeb|apply qnb|apply qx2|apply qx4|apply qcv|apply qlm|apply qfr|apply qto|apply qmx|apply qen|apply qsn|apply qx8|apply qx7|apply qx6|apply qx5|apply qx4|apply qx3|apply qx2|apply qx1|apply qx0)<;>(first|exact rfl|exact Ar.mk (by omega)|assumption|exact dct (by assumption)|exact dcf (by assumption)|exact dct (by omega)|exact dcf (by omega)|exact List.not_mem_nil|exact dc_length _|exact nc_length _|exact rc_length _ _ _|exact ec_length _|exact nm1 (by omega)|exact nm2 (by omega) (by omega)|exact dct rfl|exact dct (by decide)|exact dcf (by decide)|exact (Int.toNat_of_nonneg (by omega)).symm|exact dcu|exact lk1 (by assumption)|exact lk0 (by assumption)|exact lkb|fail))|fail) ?_)
    refine CG.draw mixed [0, 1, 2, 3, 4, 5, 6, 7, 8, 9, 11, 10, 12, 13, 14] [10] [] [bm] (fun w => BookAt w bt bm m) (by kernel_rfl) (by intro y hy; rw [List.mem_singleton] at hy; omega) (by simp) hB2 (fun _ _ hk h => h.kp0 hk) (Or.inl rfl) ?_
    repeat (refine Der.val rfl rfl rfl (by first|((first|apply qmv|apply qas|apply qlc|apply qla|apply qfa|apply qnc|apply qic|apply qix|apply qpk|apply qls|apply qei|apply qni|apply qed|apply qnd|apply qad|apply qln|apply qle|apply qgt|apply qge|apply qlk|apply qlv|apply qxt|apply qsb|apply qnt|apply qep|apply qnp|apply qeb|apply qnb|apply qx2|apply qx4|apply qcv|apply qlm|apply qfr|apply qto|apply qmx|apply qen|apply qsn|apply qx8|apply qx7|apply qx6|apply qx5|apply qx4|apply qx3|apply qx2|apply qx1|apply qx0)<;>(first|exact rfl|exact Ar.mk (by omega)|assumption|exact dct (by assumption)|exact dcf (by assumption)|exact dct (by omega)|exact dcf (by omega)|exact List.not_mem_nil|exact dc_length _|exact nc_length _|exact rc_length _ _ _|exact ec_length _|exact nm1 (by omega)|exact nm2 (by omega) (by omega)|exact dct rfl|exact dct (by decide)|exact dcf (by decide)|exact (Int.toNat_of_nonneg (by omega)).symm|exact dcu|exact lk1 (by assumption)|exact lk0 (by assumption)|exact lkb|fail))|fail) ?_)
    refine Der.call rfl rfl rfl (vs := [bv o.A]) ⟨rfl, True.intro⟩ (fun w hk _ => key_spec o.A w) ?_
    repeat (refine Der.val rfl rfl rfl (by first|((first|apply qmv|apply qas|apply qlc|apply qla|apply qfa|apply qnc|apply qic|apply qix|apply qpk|apply qls|apply qei|apply qni|apply qed|apply qnd|apply qad|apply qln|apply qle|apply qgt|apply qge|apply qlk|apply qlv|apply qxt|apply qsb|apply qnt|apply qep|apply qnp|apply qeb|apply qnb|apply qx2|apply qx4|apply qcv|apply qlm|apply qfr|apply qto|apply qmx|apply qen|apply qsn|apply qx8|apply qx7|apply qx6|apply qx5|apply qx4|apply qx3|apply qx2|apply qx1|apply qx0)<;>(first|exact rfl|exact Ar.mk (by omega)|assumption|exact dct (by assumption)|exact dcf (by assumption)|exact dct (by omega)|exact dcf (by omega)|exact List.not_mem_nil|exact dc_length _|exact nc_length _|exact rc_length _ _ _|exact ec_length _|exact nm1 (by omega)|exact nm2 (by omega) (by omega)|exact dct rfl|exact dct (by decide)|exact dcf (by decide)|exact (Int.toNat_of_nonneg (by omega)).symm|exact dcu|exact lk1 (by assumption)|exact lk0 (by assumption)|exact lkb|fail))|fail) ?_)
    refine Der.call rfl rfl rfl (vs := [bv o.B]) ⟨rfl, True.intro⟩ (fun w hk _ => key_spec o.B w) ?_
    repeat (refine Der.val rfl rfl rfl (by first|((first|apply qmv|apply qas|apply qlc|apply qla|apply qfa|apply qnc|apply qic|apply qix|apply qpk|apply qls|apply qei|apply qni|apply qed|apply qnd|apply qad|apply qln|apply qle|apply qgt|apply qge|apply qlk|apply qlv|apply qxt|apply qsb|apply qnt|apply qep|apply qnp|apply qeb|apply qnb|apply qx2|apply qx4|apply qcv|apply qlm|apply qfr|apply qto|apply qmx|apply qen|apply qsn|apply qx8|apply qx7|apply qx6|apply qx5|apply qx4|apply qx3|apply qx2|apply qx1|apply qx0)<;>(first|exact rfl|exact Ar.mk (by omega)|assumption|exact dct (by assumption)|exact dcf (by assumption)|exact dct (by omega)|exact dcf (by omega)|exact List.not_mem_nil|exact dc_length _|exact nc_length _|exact rc_length _ _ _|exact ec_length _|exact nm1 (by omega)|exact nm2 (by omega) (by omega)|exact dct rfl|exact dct (by decide)|exact dcf (by decide)|exact (Int.toNat_of_nonneg (by omega)).symm|exact dcu|exact lk1 (by assumption)|exact lk0 (by assumption)|exact lkb|fail))|fail) ?_)
    refine Der.callGR (X := Unit) (vs := [.pointer (some ⟨bt, 0, none⟩), dv (keyD o.A), dv (keyD o.B), .int .i64 o.N]) (fun _ => .int .i64 (mvE m (keyD o.A) o.N)) (fun _ _ => True) (fun _ w => BookAt w bt bm (mvM m (keyD o.A) (keyD o.B) o.N)) rfl rfl rfl rfl (by repeat' (first | exact True.intro | exact rho_of rfl | refine And.intro ?_ ?_)) (fun _ _ _ _ _ => trivial) (fun _ _ _ hk h => h.kp0 hk) (fun _ _ _ _ => trivial) ?_ ?_
    · intro w3 hk3 _ hR3
      refine (move_spec hR3 hg (keyD o.A) (keyD o.B) o.N).mono (fun r w4 hh => ?_)
      obtain ⟨hr4, hB4, hk4⟩ := hh
      exact ⟨(), hr4, trivial, hB4, hk4⟩
    rintro ⟨⟩
    repeat (refine Der.val rfl rfl rfl (by first|((first|apply qmv|apply qas|apply qlc|apply qla|apply qfa|apply qnc|apply qic|apply qix|apply qpk|apply qls|apply qei|apply qni|apply qed|apply qnd|apply qad|apply qln|apply qle|apply qgt|apply qge|apply qlk|apply qlv|apply qxt|apply qsb|apply qnt|apply qep|apply qnp|apply qeb|apply qnb|apply qx2|apply qx4|apply qcv|apply qlm|apply qfr|apply qto|apply qmx|apply qen|apply qsn|apply qx8|apply qx7|apply qx6|apply qx5|apply qx4|apply qx3|apply qx2|apply qx1|apply qx0)<;>(first|exact rfl|exact Ar.mk (by omega)|assumption|exact dct (by assumption)|exact dcf (by assumption)|exact dct (by omega)|exact dcf (by omega)|exact List.not_mem_nil|exact dc_length _|exact nc_length _|exact rc_length _ _ _|exact ec_length _|exact nm1 (by omega)|exact nm2 (by omega) (by omega)|exact dct rfl|exact dct (by decide)|exact dcf (by decide)|exact (Int.toNat_of_nonneg (by omega)).symm|exact dcu|exact lk1 (by assumption)|exact lk0 (by assumption)|exact lkb|fail))|fail) ?_)
    refine Der.fin (fun w3 hk3 _ hB3 => ?_)
    repeat (first|apply CG.seq|apply CG.region|apply SG.nil|apply NG.next|apply CG.skip|apply CG.block|apply CG.ret|apply CG.exit|apply CG.scope|apply NG.ret_then|apply NG.ret_block|apply NG.ret_scope|apply NG.exit_then|refine NG.exit_block rfl ?_|refine NG.exit_other rfl ?_|apply NG.exit_scope|apply NG.normal_block|apply NG.normal_scope|refine SG.val rfl rfl rfl rfl (by first|((first|apply qmv|apply qas|apply qlc|apply qla|apply qfa|apply qnc|apply qic|apply qix|apply qpk|apply qls|apply qei|apply qni|apply qed|apply qnd|apply qad|apply qln|apply qle|apply qgt|apply qge|apply qlk|apply qlv|apply qxt|apply qsb|apply qnt|apply qep|apply qnp|apply qeb|apply qnb|apply qx2|apply qx4|apply qcv|apply qlm|apply qfr|apply qto|apply qmx|apply qen|apply qsn|apply qx8|apply qx7|apply qx6|apply qx5|apply qx4|apply qx3|apply qx2|apply qx1|apply qx0)<;>(first|exact rfl|exact Ar.mk (by omega)|assumption|exact dct (by assumption)|exact dcf (by assumption)|exact dct (by omega)|exact dcf (by omega)|exact List.not_mem_nil|exact dc_length _|exact nc_length _|exact rc_length _ _ _|exact ec_length _|exact nm1 (by omega)|exact nm2 (by omega) (by omega)|exact dct rfl|exact dct (by decide)|exact dcf (by decide)|exact (Int.toNat_of_nonneg (by omega)).symm|exact dcu|exact lk1 (by assumption)|exact lk0 (by assumption)|exact lkb|fail))|fail) ?_)
    refine ret2 (Or.inl rfl) Try.results13 (by first | exact ResV.tmp rfl | exact ResV.agg rfl rfl (by assumption) (by first | exact dc_length _ | exact nc_length _ | exact rc_length _ _ _ | exact ec_length _ | rfl) | exact ResV.cell rfl rfl (by assumption)) (by first | exact ResV.tmp rfl | exact ResV.agg rfl rfl (by assumption) (by first | exact dc_length _ | exact nc_length _ | exact rc_length _ _ _ | exact ec_length _ | rfl) | exact ResV.cell rfl rfl (by assumption)) ?_
    exact ⟨a3, c3, rfl, hB3, hS2.kpm hB2.map hk3, (hk1.trans hk2).any.trans hk3⟩
  · have eL : doL l o = ruL l (keyD o.A) o.N := by unfold doL; rw [if_neg hmv]
    have eM : doM m o = usM m (keyD o.A) o.N := by unfold doM; rw [if_neg hmv]
    have eE := rel.usE hN (by omega) (keyD o.A) o.N
    rw [eL, eM]
    refine CG.cond_f rfl (by exact rho_of rfl) (decide_eq_false hmv) ?_
    repeat (first|apply CG.seq|apply CG.region|apply SG.nil|apply NG.next|apply CG.skip|apply CG.block|apply CG.ret|apply CG.exit|apply CG.scope|apply NG.ret_then|apply NG.ret_block|apply NG.ret_scope|apply NG.exit_then|refine NG.exit_block rfl ?_|refine NG.exit_other rfl ?_|apply NG.exit_scope|apply NG.normal_block|apply NG.normal_scope|refine SG.val rfl rfl rfl rfl (by first|((first|apply qmv|apply qas|apply qlc|apply qla|apply qfa|apply qnc|apply qic|apply qix|apply qpk|apply qls|apply qei|apply qni|apply qed|apply qnd|apply qad|apply qln|apply qle|apply qgt|apply qge|apply qlk|apply qlv|apply qxt|apply qsb|apply qnt|apply qep|apply qnp|apply qeb|apply qnb|apply qx2|apply qx4|apply qcv|apply qlm|apply qfr|apply qto|apply qmx|apply qen|apply qsn|apply qx8|apply qx7|apply qx6|apply qx5|apply qx4|apply qx3|apply qx2|apply qx1|apply qx0)<;>(first|exact rfl|exact Ar.mk (by omega)|assumption|exact dct (by assumption)|exact dcf (by assumption)|exact dct (by omega)|exact dcf (by omega)|exact List.not_mem_nil|exact dc_length _|exact nc_length _|exact rc_length _ _ _|exact ec_length _|exact nm1 (by omega)|exact nm2 (by omega) (by omega)|exact dct rfl|exact dct (by decide)|exact dcf (by decide)|exact (Int.toNat_of_nonneg (by omega)).symm|exact dcu|exact lk1 (by assumption)|exact lk0 (by assumption)|exact lkb|fail))|fail) ?_)
    refine CG.draw mixed [0, 1, 2, 3, 4, 5, 6, 7, 8, 9, 10, 11] [6] [] [] (fun _ => True) (by kernel_rfl) (by simp) (by simp) trivial (fun _ _ _ _ => trivial) (Or.inl rfl) ?_
    repeat (refine Der.val rfl rfl rfl (by first|((first|apply qmv|apply qas|apply qlc|apply qla|apply qfa|apply qnc|apply qic|apply qix|apply qpk|apply qls|apply qei|apply qni|apply qed|apply qnd|apply qad|apply qln|apply qle|apply qgt|apply qge|apply qlk|apply qlv|apply qxt|apply qsb|apply qnt|apply qep|apply qnp|apply qeb|apply qnb|apply qx2|apply qx4|apply qcv|apply qlm|apply qfr|apply qto|apply qmx|apply qen|apply qsn|apply qx8|apply qx7|apply qx6|apply qx5|apply qx4|apply qx3|apply qx2|apply qx1|apply qx0)<;>(first|exact rfl|exact Ar.mk (by omega)|assumption|exact dct (by assumption)|exact dcf (by assumption)|exact dct (by omega)|exact dcf (by omega)|exact List.not_mem_nil|exact dc_length _|exact nc_length _|exact rc_length _ _ _|exact ec_length _|exact nm1 (by omega)|exact nm2 (by omega) (by omega)|exact dct rfl|exact dct (by decide)|exact dcf (by decide)|exact (Int.toNat_of_nonneg (by omega)).symm|exact dcu|exact lk1 (by assumption)|exact lk0 (by assumption)|exact lkb|fail))|fail) ?_)
    refine Der.call rfl rfl rfl (vs := [bv o.A]) ⟨rfl, True.intro⟩ (fun w hk _ => key_spec o.A w) ?_
    repeat (refine Der.val rfl rfl rfl (by first|((first|apply qmv|apply qas|apply qlc|apply qla|apply qfa|apply qnc|apply qic|apply qix|apply qpk|apply qls|apply qei|apply qni|apply qed|apply qnd|apply qad|apply qln|apply qle|apply qgt|apply qge|apply qlk|apply qlv|apply qxt|apply qsb|apply qnt|apply qep|apply qnp|apply qeb|apply qnb|apply qx2|apply qx4|apply qcv|apply qlm|apply qfr|apply qto|apply qmx|apply qen|apply qsn|apply qx8|apply qx7|apply qx6|apply qx5|apply qx4|apply qx3|apply qx2|apply qx1|apply qx0)<;>(first|exact rfl|exact Ar.mk (by omega)|assumption|exact dct (by assumption)|exact dcf (by assumption)|exact dct (by omega)|exact dcf (by omega)|exact List.not_mem_nil|exact dc_length _|exact nc_length _|exact rc_length _ _ _|exact ec_length _|exact nm1 (by omega)|exact nm2 (by omega) (by omega)|exact dct rfl|exact dct (by decide)|exact dcf (by decide)|exact (Int.toNat_of_nonneg (by omega)).symm|exact dcu|exact lk1 (by assumption)|exact lk0 (by assumption)|exact lkb|fail))|fail) ?_)
    refine Der.callGR (X := Option Addr × Nat) (vs := [.slice a l.length c, dv (keyD o.A), .int .i64 o.N]) (fun q => .tuple #[.slice q.1 (ruL l (keyD o.A) o.N).length q.2, .int .i64 (ruE l (keyD o.A) o.N)]) (fun q w => SlE w q.1 (ruL l (keyD o.A) o.N)) (fun _ _ => True) rfl rfl rfl rfl (by repeat' (first | exact True.intro | exact rho_of rfl | refine And.intro ?_ ?_)) (fun q w w' hk hq => hq.kp0 hk) (fun _ _ _ _ _ => trivial) (fun _ _ _ _ => trivial) ?_ ?_
    · intro w2 hk2 _ _
      refine (ruse_spec c (hS1.kp0 hk2) (by omega) lg (keyD o.A) o.N).mono (fun r w3 hh => ?_)
      obtain ⟨a3, c3, hr3, hS3, hk3⟩ := hh
      exact ⟨(a3, c3), hr3, hS3, trivial, hk3⟩
    rintro ⟨a3, c3⟩
    repeat (refine Der.val rfl rfl rfl (by first|((first|apply qmv|apply qas|apply qlc|apply qla|apply qfa|apply qnc|apply qic|apply qix|apply qpk|apply qls|apply qei|apply qni|apply qed|apply qnd|apply qad|apply qln|apply qle|apply qgt|apply qge|apply qlk|apply qlv|apply qxt|apply qsb|apply qnt|apply qep|apply qnp|apply qeb|apply qnb|apply qx2|apply qx4|apply qcv|apply qlm|apply qfr|apply qto|apply qmx|apply qen|apply qsn|apply qx8|apply qx7|apply qx6|apply qx5|apply qx4|apply qx3|apply qx2|apply qx1|apply qx0)<;>(first|exact rfl|exact Ar.mk (by omega)|assumption|exact dct (by assumption)|exact dcf (by assumption)|exact dct (by omega)|exact dcf (by omega)|exact List.not_mem_nil|exact dc_length _|exact nc_length _|exact rc_length _ _ _|exact ec_length _|exact nm1 (by omega)|exact nm2 (by omega) (by omega)|exact dct rfl|exact dct (by decide)|exact dcf (by decide)|exact (Int.toNat_of_nonneg (by omega)).symm|exact dcu|exact lk1 (by assumption)|exact lk0 (by assumption)|exact lkb|fail))|fail) ?_)
    refine Der.fin (fun w2 hk2 hF _ => ?_)
    have hS2 : SlE w2 a3 (ruL l (keyD o.A) o.N) := hF.2
    have q1 := q1.kp0 hk2
    have q3 := q3.kp0 hk2
    have hB2 := hB1.kp0 hk2
    have s2 := hk2.size
    have lt5 := hB5.lt
    repeat (first|apply CG.seq|apply CG.region|apply SG.nil|apply NG.next|apply CG.skip|apply CG.block|apply CG.ret|apply CG.exit|apply CG.scope|apply NG.ret_then|apply NG.ret_block|apply NG.ret_scope|apply NG.exit_then|refine NG.exit_block rfl ?_|refine NG.exit_other rfl ?_|apply NG.exit_scope|apply NG.normal_block|apply NG.normal_scope|refine SG.val rfl rfl rfl rfl (by first|((first|apply qmv|apply qas|apply qlc|apply qla|apply qfa|apply qnc|apply qic|apply qix|apply qpk|apply qls|apply qei|apply qni|apply qed|apply qnd|apply qad|apply qln|apply qle|apply qgt|apply qge|apply qlk|apply qlv|apply qxt|apply qsb|apply qnt|apply qep|apply qnp|apply qeb|apply qnb|apply qx2|apply qx4|apply qcv|apply qlm|apply qfr|apply qto|apply qmx|apply qen|apply qsn|apply qx8|apply qx7|apply qx6|apply qx5|apply qx4|apply qx3|apply qx2|apply qx1|apply qx0)<;>(first|exact rfl|exact Ar.mk (by omega)|assumption|exact dct (by assumption)|exact dcf (by assumption)|exact dct (by omega)|exact dcf (by omega)|exact List.not_mem_nil|exact dc_length _|exact nc_length _|exact rc_length _ _ _|exact ec_length _|exact nm1 (by omega)|exact nm2 (by omega) (by omega)|exact dct rfl|exact dct (by decide)|exact dcf (by decide)|exact (Int.toNat_of_nonneg (by omega)).symm|exact dcu|exact lk1 (by assumption)|exact lk0 (by assumption)|exact lkb|fail))|fail) ?_)
    refine CG.draw mixed [0, 1, 2, 3, 4, 5, 6, 8, 7, 9, 10, 11] [7] [] [bm] (fun w => BookAt w bt bm m) (by kernel_rfl) (by intro y hy; rw [List.mem_singleton] at hy; omega) (by simp) hB2 (fun _ _ hk h => h.kp0 hk) (Or.inl rfl) ?_
    repeat (refine Der.val rfl rfl rfl (by first|((first|apply qmv|apply qas|apply qlc|apply qla|apply qfa|apply qnc|apply qic|apply qix|apply qpk|apply qls|apply qei|apply qni|apply qed|apply qnd|apply qad|apply qln|apply qle|apply qgt|apply qge|apply qlk|apply qlv|apply qxt|apply qsb|apply qnt|apply qep|apply qnp|apply qeb|apply qnb|apply qx2|apply qx4|apply qcv|apply qlm|apply qfr|apply qto|apply qmx|apply qen|apply qsn|apply qx8|apply qx7|apply qx6|apply qx5|apply qx4|apply qx3|apply qx2|apply qx1|apply qx0)<;>(first|exact rfl|exact Ar.mk (by omega)|assumption|exact dct (by assumption)|exact dcf (by assumption)|exact dct (by omega)|exact dcf (by omega)|exact List.not_mem_nil|exact dc_length _|exact nc_length _|exact rc_length _ _ _|exact ec_length _|exact nm1 (by omega)|exact nm2 (by omega) (by omega)|exact dct rfl|exact dct (by decide)|exact dcf (by decide)|exact (Int.toNat_of_nonneg (by omega)).symm|exact dcu|exact lk1 (by assumption)|exact lk0 (by assumption)|exact lkb|fail))|fail) ?_)
    refine Der.call rfl rfl rfl (vs := [bv o.A]) ⟨rfl, True.intro⟩ (fun w hk _ => key_spec o.A w) ?_
    repeat (refine Der.val rfl rfl rfl (by first|((first|apply qmv|apply qas|apply qlc|apply qla|apply qfa|apply qnc|apply qic|apply qix|apply qpk|apply qls|apply qei|apply qni|apply qed|apply qnd|apply qad|apply qln|apply qle|apply qgt|apply qge|apply qlk|apply qlv|apply qxt|apply qsb|apply qnt|apply qep|apply qnp|apply qeb|apply qnb|apply qx2|apply qx4|apply qcv|apply qlm|apply qfr|apply qto|apply qmx|apply qen|apply qsn|apply qx8|apply qx7|apply qx6|apply qx5|apply qx4|apply qx3|apply qx2|apply qx1|apply qx0)<;>(first|exact rfl|exact Ar.mk (by omega)|assumption|exact dct (by assumption)|exact dcf (by assumption)|exact dct (by omega)|exact dcf (by omega)|exact List.not_mem_nil|exact dc_length _|exact nc_length _|exact rc_length _ _ _|exact ec_length _|exact nm1 (by omega)|exact nm2 (by omega) (by omega)|exact dct rfl|exact dct (by decide)|exact dcf (by decide)|exact (Int.toNat_of_nonneg (by omega)).symm|exact dcu|exact lk1 (by assumption)|exact lk0 (by assumption)|exact lkb|fail))|fail) ?_)
    refine Der.callGR (X := Unit) (vs := [.pointer (some ⟨bt, 0, none⟩), dv (keyD o.A), .int .i64 o.N]) (fun _ => .int .i64 (usE m (keyD o.A) o.N)) (fun _ _ => True) (fun _ w => BookAt w bt bm (usM m (keyD o.A) o.N)) rfl rfl rfl rfl (by repeat' (first | exact True.intro | exact rho_of rfl | refine And.intro ?_ ?_)) (fun _ _ _ _ _ => trivial) (fun _ _ _ hk h => h.kp0 hk) (fun _ _ _ _ => trivial) ?_ ?_
    · intro w3 hk3 _ hR3
      refine (use_spec hR3 hg (keyD o.A) o.N).mono (fun r w4 hh => ?_)
      obtain ⟨hr4, hB4, hk4⟩ := hh
      exact ⟨(), hr4, trivial, hB4, hk4⟩
    rintro ⟨⟩
    repeat (refine Der.val rfl rfl rfl (by first|((first|apply qmv|apply qas|apply qlc|apply qla|apply qfa|apply qnc|apply qic|apply qix|apply qpk|apply qls|apply qei|apply qni|apply qed|apply qnd|apply qad|apply qln|apply qle|apply qgt|apply qge|apply qlk|apply qlv|apply qxt|apply qsb|apply qnt|apply qep|apply qnp|apply qeb|apply qnb|apply qx2|apply qx4|apply qcv|apply qlm|apply qfr|apply qto|apply qmx|apply qen|apply qsn|apply qx8|apply qx7|apply qx6|apply qx5|apply qx4|apply qx3|apply qx2|apply qx1|apply qx0)<;>(first|exact rfl|exact Ar.mk (by omega)|assumption|exact dct (by assumption)|exact dcf (by assumption)|exact dct (by omega)|exact dcf (by omega)|exact List.not_mem_nil|exact dc_length _|exact nc_length _|exact rc_length _ _ _|exact ec_length _|exact nm1 (by omega)|exact nm2 (by omega) (by omega)|exact dct rfl|exact dct (by decide)|exact dcf (by decide)|exact (Int.toNat_of_nonneg (by omega)).symm|exact dcu|exact lk1 (by assumption)|exact lk0 (by assumption)|exact lkb|fail))|fail) ?_)
    refine Der.fin (fun w3 hk3 _ hB3 => ?_)
    repeat (first|apply CG.seq|apply CG.region|apply SG.nil|apply NG.next|apply CG.skip|apply CG.block|apply CG.ret|apply CG.exit|apply CG.scope|apply NG.ret_then|apply NG.ret_block|apply NG.ret_scope|apply NG.exit_then|refine NG.exit_block rfl ?_|refine NG.exit_other rfl ?_|apply NG.exit_scope|apply NG.normal_block|apply NG.normal_scope|refine SG.val rfl rfl rfl rfl (by first|((first|apply qmv|apply qas|apply qlc|apply qla|apply qfa|apply qnc|apply qic|apply qix|apply qpk|apply qls|apply qei|apply qni|apply qed|apply qnd|apply qad|apply qln|apply qle|apply qgt|apply qge|apply qlk|apply qlv|apply qxt|apply qsb|apply qnt|apply qep|apply qnp|apply qeb|apply qnb|apply qx2|apply qx4|apply qcv|apply qlm|apply qfr|apply qto|apply qmx|apply qen|apply qsn|apply qx8|apply qx7|apply qx6|apply qx5|apply qx4|apply qx3|apply qx2|apply qx1|apply qx0)<;>(first|exact rfl|exact Ar.mk (by omega)|assumption|exact dct (by assumption)|exact dcf (by assumption)|exact dct (by omega)|exact dcf (by omega)|exact List.not_mem_nil|exact dc_length _|exact nc_length _|exact rc_length _ _ _|exact ec_length _|exact nm1 (by omega)|exact nm2 (by omega) (by omega)|exact dct rfl|exact dct (by decide)|exact dcf (by decide)|exact (Int.toNat_of_nonneg (by omega)).symm|exact dcu|exact lk1 (by assumption)|exact lk0 (by assumption)|exact lkb|fail))|fail) ?_)
    refine ret2 (Or.inl rfl) Try.results13 (by first | exact ResV.tmp rfl | exact ResV.agg rfl rfl (by assumption) (by first | exact dc_length _ | exact nc_length _ | exact rc_length _ _ _ | exact ec_length _ | rfl) | exact ResV.cell rfl rfl (by assumption)) (by first | exact ResV.tmp rfl | exact ResV.agg rfl rfl (by assumption) (by first | exact dc_length _ | exact nc_length _ | exact rc_length _ _ _ | exact ec_length _ | rfl) | exact ResV.cell rfl rfl (by assumption)) ?_
    exact ⟨a3, c3, rfl, hB3, hS2.kpm hB2.map hk3, (hk1.trans hk2).any.trans hk3⟩
end Go.Proofs.Ytkkfppfpbobghaa
/-
  AccountActs: the walk.
-/
namespace Go.Proofs.Ytkkfppfpbobghaa
set_option linter.unusedVariables false

theorem begin_rel {l : List Nat} (hb : ∀ x ∈ l, x < 65536) : Rel (esum (begL l)) 2 (begM l) (begL l) := by
  obtain ⟨hok, hlen, hbal, e0, e1⟩ := begM_ok hb
  exact ⟨hok, begN_nodup l _ (by omega), hbal, rfl⟩
theorem Rel.fit {T N : Int} {m : Bk} {l : List En} (h : Rel T N m l) (hN : 0 ≤ N) (hT : T ≤ 1000000000000000) (hN' : N ≤ 1000000000000000) : ∀ e ∈ allL l, e.Fit := fun e he => by
  have hm : e ∈ l := (List.mem_filter.1 ((allL_perm l).mem_iff.1 he)).1
  have := h.ent hN hm
  unfold En.Fit
  omega

attribute [local irreducible] CG NG SG Vals Der Row Blk MapIs IterAt DerX
set_option maxHeartbeats 32000000 in
theorem acts_law (w : World) (a : Option Addr) (n c : Nat) (l : List Nat) (hl : l.length = n ∧ SlU w a l ∧ ∀ x ∈ l, x < 65536) (ao : Option Addr) (no co : Nat) (os : List Oq) (ho : os.length = no ∧ SlO w ao os ∧ ∀ o ∈ os, o.Fit) :
    Ret Try.prog 3 #[.slice a n c, .slice ao no co] w (.bool true) := by
  obtain ⟨rfl, hS, hb⟩ := hl
  obtain ⟨rfl, hT, hob⟩ := ho
  refine enter2 Try.func3 rfl Try.ntmps3 rfl ?_
  obtain ⟨hok, hlen, hbal, e0, e1⟩ := begM_ok hb
  have hrel := begin_rel hb
  have hbl : (begL l).length ≤ 8 := by unfold begL; rw [begN_length]; omega
  repeat (first|apply CG.seq|apply CG.region|apply SG.nil|apply NG.next|apply CG.skip|apply CG.block|apply CG.ret|apply CG.exit|apply CG.scope|apply NG.ret_then|apply NG.ret_block|apply NG.ret_scope|apply NG.exit_then|refine NG.exit_block rfl ?_|refine NG.exit_other rfl ?_|apply NG.exit_scope|apply NG.normal_block|apply NG.normal_scope|refine SG.val rfl rfl rfl rfl (by first|((first|apply qmv|apply qas|apply qlc|apply qla|apply qfa|apply qnc|apply qic|apply qix|apply qpk|apply qls|apply qei|apply qni|apply qed|apply qnd|apply qad|apply qln|apply qle|apply qgt|apply qge|apply qlk|apply qlv|apply qxt|apply qsb|apply qnt|apply qep|apply qnp|apply qeb|apply qnb|apply qx2|apply qx4|apply qcv|apply qlm|apply qfr|apply qto|apply qmx|apply qen|apply qsn|apply qx8|apply qx7|apply qx6|apply qx5|apply qx4|apply qx3|apply qx2|apply qx1|apply qx0)<;>(first|exact rfl|exact Ar.mk (by omega)|assumption|exact dct (by assumption)|exact dcf (by assumption)|exact dct (by omega)|exact dcf (by omega)|exact List.not_mem_nil|exact dc_length _|exact nc_length _|exact rc_length _ _ _|exact ec_length _|exact nm1 (by omega)|exact nm2 (by omega) (by omega)|exact dct rfl|exact dct (by decide)|exact dcf (by decide)|exact (Int.toNat_of_nonneg (by omega)).symm|exact dcu|exact lk1 (by assumption)|exact lk0 (by assumption)|exact lkb|fail))|fail) ?_)
  refine SG.call rfl rfl rfl (by repeat' (first | exact True.intro | exact rho_of rfl | refine And.intro ?_ ?_)) ((begin_spec c hS hb).mono (fun e w1 hh => ?_))
  obtain ⟨bt, bm, v1, he1, hB1, hbt, hbm, ho1, hk1⟩ := hh
  refine ⟨_, he1, ?_⟩
  obtain ⟨a1, c1, rfl, hS1⟩ := SlF.own ec_length ho1 rfl
  have hS1 := hS1.sl
  repeat (first|apply CG.seq|apply CG.region|apply SG.nil|apply NG.next|apply CG.skip|apply CG.block|apply CG.ret|apply CG.exit|apply CG.scope|apply NG.ret_then|apply NG.ret_block|apply NG.ret_scope|apply NG.exit_then|refine NG.exit_block rfl ?_|refine NG.exit_other rfl ?_|apply NG.exit_scope|apply NG.normal_block|apply NG.normal_scope|refine SG.val rfl rfl rfl rfl (by first|((first|apply qmv|apply qas|apply qlc|apply qla|apply qfa|apply qnc|apply qic|apply qix|apply qpk|apply qls|apply qei|apply qni|apply qed|apply qnd|apply qad|apply qln|apply qle|apply qgt|apply qge|apply qlk|apply qlv|apply qxt|apply qsb|apply qnt|apply qep|apply qnp|apply qeb|apply qnb|apply qx2|apply qx4|apply qcv|apply qlm|apply qfr|apply qto|apply qmx|apply qen|apply qsn|apply qx8|apply qx7|apply qx6|apply qx5|apply qx4|apply qx3|apply qx2|apply qx1|apply qx0)<;>(first|exact rfl|exact Ar.mk (by omega)|assumption|exact dct (by assumption)|exact dcf (by assumption)|exact dct (by omega)|exact dcf (by omega)|exact List.not_mem_nil|exact dc_length _|exact nc_length _|exact rc_length _ _ _|exact ec_length _|exact nm1 (by omega)|exact nm2 (by omega) (by omega)|exact dct rfl|exact dct (by decide)|exact dcf (by decide)|exact (Int.toNat_of_nonneg (by omega)).symm|exact dcu|exact lk1 (by assumption)|exact lk0 (by assumption)|exact lkb|fail))|fail) ?_)
  refine SG.ret rfl rfl rfl (vs := []) True.intro (told_spec w1) (fun w2 hk2 => ?_)
  repeat (first|apply CG.seq|apply CG.region|apply SG.nil|apply NG.next|apply CG.skip|apply CG.block|apply CG.ret|apply CG.exit|apply CG.scope|apply NG.ret_then|apply NG.ret_block|apply NG.ret_scope|apply NG.exit_then|refine NG.exit_block rfl ?_|refine NG.exit_other rfl ?_|apply NG.exit_scope|apply NG.normal_block|apply NG.normal_scope|refine SG.val rfl rfl rfl rfl (by first|((first|apply qmv|apply qas|apply qlc|apply qla|apply qfa|apply qnc|apply qic|apply qix|apply qpk|apply qls|apply qei|apply qni|apply qed|apply qnd|apply qad|apply qln|apply qle|apply qgt|apply qge|apply qlk|apply qlv|apply qxt|apply qsb|apply qnt|apply qep|apply qnp|apply qeb|apply qnb|apply qx2|apply qx4|apply qcv|apply qlm|apply qfr|apply qto|apply qmx|apply qen|apply qsn|apply qx8|apply qx7|apply qx6|apply qx5|apply qx4|apply qx3|apply qx2|apply qx1|apply qx0)<;>(first|exact rfl|exact Ar.mk (by omega)|assumption|exact dct (by assumption)|exact dcf (by assumption)|exact dct (by omega)|exact dcf (by omega)|exact List.not_mem_nil|exact dc_length _|exact nc_length _|exact rc_length _ _ _|exact ec_length _|exact nm1 (by omega)|exact nm2 (by omega) (by omega)|exact dct rfl|exact dct (by decide)|exact dcf (by decide)|exact (Int.toNat_of_nonneg (by omega)).symm|exact dcu|exact lk1 (by assumption)|exact lk0 (by assumption)|exact lkb|fail))|fail) ?_)
  refine CG.cond_f rfl (by exact rho_of rfl) rfl ?_
  obtain ⟨T, hTe⟩ : ∃ T, T = esum (begL l) := ⟨_, rfl⟩
  rw [← hTe] at hrel e0 e1
  repeat (first|apply CG.seq|apply CG.region|apply SG.nil|apply NG.next|apply CG.skip|apply CG.block|apply CG.ret|apply CG.exit|apply CG.scope|apply NG.ret_then|apply NG.ret_block|apply NG.ret_scope|apply NG.exit_then|refine NG.exit_block rfl ?_|refine NG.exit_other rfl ?_|apply NG.exit_scope|apply NG.normal_block|apply NG.normal_scope|refine SG.val rfl rfl rfl rfl (by first|((first|apply qmv|apply qas|apply qlc|apply qla|apply qfa|apply qnc|apply qic|apply qix|apply qpk|apply qls|apply qei|apply qni|apply qed|apply qnd|apply qad|apply qln|apply qle|apply qgt|apply qge|apply qlk|apply qlv|apply qxt|apply qsb|apply qnt|apply qep|apply qnp|apply qeb|apply qnb|apply qx2|apply qx4|apply qcv|apply qlm|apply qfr|apply qto|apply qmx|apply qen|apply qsn|apply qx8|apply qx7|apply qx6|apply qx5|apply qx4|apply qx3|apply qx2|apply qx1|apply qx0)<;>(first|exact rfl|exact Ar.mk (by omega)|assumption|exact dct (by assumption)|exact dcf (by assumption)|exact dct (by omega)|exact dcf (by omega)|exact List.not_mem_nil|exact dc_length _|exact nc_length _|exact rc_length _ _ _|exact ec_length _|exact nm1 (by omega)|exact nm2 (by omega) (by omega)|exact dct rfl|exact dct (by decide)|exact dcf (by decide)|exact (Int.toNat_of_nonneg (by omega)).symm|exact dcu|exact lk1 (by assumption)|exact lk0 (by assumption)|exact lkb|fail))|fail) ?_)
  refine CG.loop (X := Nat × Bk × List En × Option Addr × Nat) (fun q => [(1, .slice ao os.length co), (5, .pointer (some ⟨bt, 0, none⟩)), (6, .slice q.2.2.2.1 q.2.2.1.length q.2.2.2.2), (7, .int .i64 (q.1 : Int))])
    (fun q w' => q.1 ≤ 80 ∧ Kp [] w w' ∧ BookAt w' bt bm q.2.1 ∧ SlE w' q.2.2.2.1 q.2.2.1 ∧ Rel T (2 + q.1) q.2.1 q.2.2.1 ∧ q.2.1.length ≤ 8 + 2 * q.1 ∧ q.2.2.1.length ≤ 8 + 2 * q.1)
    (fun q => 80 - q.1) (0, begM l, begL l, a1, c1) ⟨Nat.zero_le _, hk1.trans hk2, hB1.kp0 hk2, hS1.kp0 hk2, hrel, hlen, hbl⟩ (by (repeat' (first | exact True.intro | exact rfl | refine And.intro ?_ ?_))) ?_
  rintro ⟨i, m, l1, a5, c5⟩ w5 ⟨hi, hk, hB, hS5, rel, hml, hll⟩
  simp only at hi hB hS5 rel hml hll
  refine CG.to [(1, .slice ao os.length co), (5, .pointer (some ⟨bt, 0, none⟩)), (6, .slice a5 l1.length c5), (7, .int .i64 (i : Int))] (by (repeat' (first | exact True.intro | exact rfl | refine And.intro ?_ ?_))) ?_
  by_cases hlt : i < os.length ∧ i < 80
  case neg =>
    have hcase : ¬ (i : Int) < (os.length : Int) ∨ ((i : Int) < (os.length : Int) ∧ ¬ (i : Int) < 80) := by omega
    rcases hcase with g1 | ⟨g1, g2⟩
    all_goals
      repeat (first | first|apply CG.seq|apply CG.region|apply SG.nil|apply NG.next|apply CG.skip|apply CG.block|apply CG.ret|apply CG.exit|apply CG.scope|apply NG.ret_then|apply NG.ret_block|apply NG.ret_scope|apply NG.exit_then|refine NG.exit_block rfl ?_|refine NG.exit_other rfl ?_|apply NG.exit_scope|apply NG.normal_block|apply NG.normal_scope|refine SG.val rfl rfl rfl rfl (by first|((first|apply qmv|apply qas|apply qlc|apply qla|apply qfa|apply qnc|apply qic|apply qix|apply qpk|apply qls|apply qei|apply qni|apply qed|apply qnd|apply qad|apply qln|apply qle|apply qgt|apply qge|apply qlk|apply qlv|apply qxt|apply qsb|apply qnt|apply qep|apply qnp|apply qeb|apply qnb|apply qx2|apply qx4|apply qcv|apply qlm|apply qfr|apply qto|apply qmx|apply qen|apply qsn|apply qx8|apply qx7|apply qx6|apply qx5|apply qx4|apply qx3|apply qx2|apply qx1|apply qx0)<;>(first|exact rfl|exact Ar.mk (by omega)|assumption|exact dct (by assumption)|exact dcf (by assumption)|exact dct (by omega)|exact dcf (by omega)|exact List.not_mem_nil|exact dc_length _|exact nc_length _|exact rc_length _ _ _|exact ec_length _|exact nm1 (by omega)|exact nm2 (by omega) (by omega)|exact dct rfl|exact dct (by decide)|exact dcf (by decide)|exact (Int.toNat_of_nonneg (by omega)).symm|exact dcu|exact lk1 (by assumption)|exact lk0 (by assumption)|exact lkb|fail))|fail) ?_ | refine SG.skip rfl rfl ?_)
      refine CG.cond_f rfl (by exact rho_of rfl) rfl ?_
      repeat (first|apply CG.seq|apply CG.region|apply SG.nil|apply NG.next|apply CG.skip|apply CG.block|apply CG.ret|apply CG.exit|apply CG.scope|apply NG.ret_then|apply NG.ret_block|apply NG.ret_scope|apply NG.exit_then|refine NG.exit_block rfl ?_|refine NG.exit_other rfl ?_|apply NG.exit_scope|apply NG.normal_block|apply NG.normal_scope|refine SG.val rfl rfl rfl rfl (by first|((first|apply qmv|apply qas|apply qlc|apply qla|apply qfa|apply qnc|apply qic|apply qix|apply qpk|apply qls|apply qei|apply qni|apply qed|apply qnd|apply qad|apply qln|apply qle|apply qgt|apply qge|apply qlk|apply qlv|apply qxt|apply qsb|apply qnt|apply qep|apply qnp|apply qeb|apply qnb|apply qx2|apply qx4|apply qcv|apply qlm|apply qfr|apply qto|apply qmx|apply qen|apply qsn|apply qx8|apply qx7|apply qx6|apply qx5|apply qx4|apply qx3|apply qx2|apply qx1|apply qx0)<;>(first|exact rfl|exact Ar.mk (by omega)|assumption|exact dct (by assumption)|exact dcf (by assumption)|exact dct (by omega)|exact dcf (by omega)|exact List.not_mem_nil|exact dc_length _|exact nc_length _|exact rc_length _ _ _|exact ec_length _|exact nm1 (by omega)|exact nm2 (by omega) (by omega)|exact dct rfl|exact dct (by decide)|exact dcf (by decide)|exact (Int.toNat_of_nonneg (by omega)).symm|exact dcu|exact lk1 (by assumption)|exact lk0 (by assumption)|exact lkb|fail))|fail) ?_)
      refine ret1 (Or.inl rfl) Try.results3 (by first | exact ResV.tmp rfl | exact ResV.agg rfl rfl (by assumption) (by first | exact dc_length _ | exact nc_length _ | exact rc_length _ _ _ | exact ec_length _ | rfl) | exact ResV.cell rfl rfl (by assumption)) ?_
      exact ⟨rfl, hk⟩
  have g1 : (i : Int) < (os.length : Int) := by omega
  have g2 : (i : Int) < 80 := by omega
  obtain ⟨ba, oa, rfl, hr⟩ := (hT.kp0 hk).at hlt.1
  obtain ⟨o, hx⟩ : ∃ o, o = os[i]'hlt.1 := ⟨_, rfl⟩
  rw [← hx] at hr
  have lt0 := hB.map.lt
  have s0 := hk.size
  have hol := oq_length o
  repeat (first|apply CG.seq|apply CG.region|apply SG.nil|apply NG.next|apply CG.skip|apply CG.block|apply CG.ret|apply CG.exit|apply CG.scope|apply NG.ret_then|apply NG.ret_block|apply NG.ret_scope|apply NG.exit_then|refine NG.exit_block rfl ?_|refine NG.exit_other rfl ?_|apply NG.exit_scope|apply NG.normal_block|apply NG.normal_scope|refine SG.val rfl rfl rfl rfl (by first|((first|apply qmv|apply qas|apply qlc|apply qla|apply qfa|apply qnc|apply qic|apply qix|apply qpk|apply qls|apply qei|apply qni|apply qed|apply qnd|apply qad|apply qln|apply qle|apply qgt|apply qge|apply qlk|apply qlv|apply qxt|apply qsb|apply qnt|apply qep|apply qnp|apply qeb|apply qnb|apply qx2|apply qx4|apply qcv|apply qlm|apply qfr|apply qto|apply qmx|apply qen|apply qsn|apply qx8|apply qx7|apply qx6|apply qx5|apply qx4|apply qx3|apply qx2|apply qx1|apply qx0)<;>(first|exact rfl|exact Ar.mk (by omega)|assumption|exact dct (by assumption)|exact dcf (by assumption)|exact dct (by omega)|exact dcf (by omega)|exact List.not_mem_nil|exact dc_length _|exact nc_length _|exact rc_length _ _ _|exact ec_length _|exact nm1 (by omega)|exact nm2 (by omega) (by omega)|exact dct rfl|exact dct (by decide)|exact dcf (by decide)|exact (Int.toNat_of_nonneg (by omega)).symm|exact dcu|exact lk1 (by assumption)|exact lk0 (by assumption)|exact lkb|fail))|fail) ?_)
  refine CG.cond_t rfl (by exact rho_of rfl) rfl ?_
  repeat (first|apply CG.seq|apply CG.region|apply SG.nil|apply NG.next|apply CG.skip|apply CG.block|apply CG.ret|apply CG.exit|apply CG.scope|apply NG.ret_then|apply NG.ret_block|apply NG.ret_scope|apply NG.exit_then|refine NG.exit_block rfl ?_|refine NG.exit_other rfl ?_|apply NG.exit_scope|apply NG.normal_block|apply NG.normal_scope|refine SG.val rfl rfl rfl rfl (by first|((first|apply qmv|apply qas|apply qlc|apply qla|apply qfa|apply qnc|apply qic|apply qix|apply qpk|apply qls|apply qei|apply qni|apply qed|apply qnd|apply qad|apply qln|apply qle|apply qgt|apply qge|apply qlk|apply qlv|apply qxt|apply qsb|apply qnt|apply qep|apply qnp|apply qeb|apply qnb|apply qx2|apply qx4|apply qcv|apply qlm|apply qfr|apply qto|apply qmx|apply qen|apply qsn|apply qx8|apply qx7|apply qx6|apply qx5|apply qx4|apply qx3|apply qx2|apply qx1|apply qx0)<;>(first|exact rfl|exact Ar.mk (by omega)|assumption|exact dct (by assumption)|exact dcf (by assumption)|exact dct (by omega)|exact dcf (by omega)|exact List.not_mem_nil|exact dc_length _|exact nc_length _|exact rc_length _ _ _|exact ec_length _|exact nm1 (by omega)|exact nm2 (by omega) (by omega)|exact dct rfl|exact dct (by decide)|exact dcf (by decide)|exact (Int.toNat_of_nonneg (by omega)).symm|exact dcu|exact lk1 (by assumption)|exact lk0 (by assumption)|exact lkb|fail))|fail) ?_)
  refine SG.call rfl rfl rfl (by repeat' (first | exact True.intro | exact rho_of rfl | refine And.intro ?_ ?_)) ((do_spec hB c5 hS5 rel (by omega) (by omega) (by omega) (by omega) o).mono (fun e w6 hh => ?_))
  obtain ⟨a6, c6, he6, hB6, hS6, hk6⟩ := hh
  refine ⟨_, he6, ?_⟩
  have rel6 := rel.do (by omega) (by omega) o
  have hml6 := length_do m o
  have hll6 := doL_length l1 o
  have hk06 : Kp [] w w6 := hk.trans_new hk6 (new1 (by omega))
  obtain ⟨m6, em6⟩ : ∃ m6, m6 = doM m o := ⟨_, rfl⟩
  obtain ⟨l6, el6⟩ : ∃ l6, l6 = doL l1 o := ⟨_, rfl⟩
  rw [← em6] at hB6 rel6 hml6
  rw [← el6] at hS6 rel6 hll6 ⊢
  have hg6 := rel6.ok.good (by omega) (by omega) (by omega)
  have hfit := rel6.fit (by omega) (by omega) (by omega)
  have hall := allL_length l6
  repeat (first|apply CG.seq|apply CG.region|apply SG.nil|apply NG.next|apply CG.skip|apply CG.block|apply CG.ret|apply CG.exit|apply CG.scope|apply NG.ret_then|apply NG.ret_block|apply NG.ret_scope|apply NG.exit_then|refine NG.exit_block rfl ?_|refine NG.exit_other rfl ?_|apply NG.exit_scope|apply NG.normal_block|apply NG.normal_scope|refine SG.val rfl rfl rfl rfl (by first|((first|apply qmv|apply qas|apply qlc|apply qla|apply qfa|apply qnc|apply qic|apply qix|apply qpk|apply qls|apply qei|apply qni|apply qed|apply qnd|apply qad|apply qln|apply qle|apply qgt|apply qge|apply qlk|apply qlv|apply qxt|apply qsb|apply qnt|apply qep|apply qnp|apply qeb|apply qnb|apply qx2|apply qx4|apply qcv|apply qlm|apply qfr|apply qto|apply qmx|apply qen|apply qsn|apply qx8|apply qx7|apply qx6|apply qx5|apply qx4|apply qx3|apply qx2|apply qx1|apply qx0)<;>(first|exact rfl|exact Ar.mk (by omega)|assumption|exact dct (by assumption)|exact dcf (by assumption)|exact dct (by omega)|exact dcf (by omega)|exact List.not_mem_nil|exact dc_length _|exact nc_length _|exact rc_length _ _ _|exact ec_length _|exact nm1 (by omega)|exact nm2 (by omega) (by omega)|exact dct rfl|exact dct (by decide)|exact dcf (by decide)|exact (Int.toNat_of_nonneg (by omega)).symm|exact dcu|exact lk1 (by assumption)|exact lk0 (by assumption)|exact lkb|fail))|fail) ?_)
  refine SG.call rfl rfl rfl (by repeat' (first | exact True.intro | exact rho_of rfl | refine And.intro ?_ ?_)) ((all_spec hB6 (by omega)).mono (fun e w7 hh => ?_))
  obtain ⟨v7, es, he7, ho7, hp7, ha7, hk7⟩ := hh
  refine ⟨_, he7, ?_⟩
  have hes := rel6.all hp7 ha7
  subst hes
  obtain ⟨a7, c7, rfl, hS7⟩ := SlF.own ec_length ho7 rfl
  refine SG.call rfl rfl rfl (by repeat' (first | exact True.intro | exact rho_of rfl | refine And.intro ?_ ?_)) ((plain_spec c7 hS7.sl (by omega)).mono (fun e w8 hh => ?_))
  obtain ⟨v8, he8, ho8, hk8⟩ := hh
  refine ⟨_, he8, ?_⟩
  obtain ⟨a8, c8, rfl, hS8⟩ := SlF.own ec_length ho8 rfl
  repeat (first|apply CG.seq|apply CG.region|apply SG.nil|apply NG.next|apply CG.skip|apply CG.block|apply CG.ret|apply CG.exit|apply CG.scope|apply NG.ret_then|apply NG.ret_block|apply NG.ret_scope|apply NG.exit_then|refine NG.exit_block rfl ?_|refine NG.exit_other rfl ?_|apply NG.exit_scope|apply NG.normal_block|apply NG.normal_scope|refine SG.val rfl rfl rfl rfl (by first|((first|apply qmv|apply qas|apply qlc|apply qla|apply qfa|apply qnc|apply qic|apply qix|apply qpk|apply qls|apply qei|apply qni|apply qed|apply qnd|apply qad|apply qln|apply qle|apply qgt|apply qge|apply qlk|apply qlv|apply qxt|apply qsb|apply qnt|apply qep|apply qnp|apply qeb|apply qnb|apply qx2|apply qx4|apply qcv|apply qlm|apply qfr|apply qto|apply qmx|apply qen|apply qsn|apply qx8|apply qx7|apply qx6|apply qx5|apply qx4|apply qx3|apply qx2|apply qx1|apply qx0)<;>(first|exact rfl|exact Ar.mk (by omega)|assumption|exact dct (by assumption)|exact dcf (by assumption)|exact dct (by omega)|exact dcf (by omega)|exact List.not_mem_nil|exact dc_length _|exact nc_length _|exact rc_length _ _ _|exact ec_length _|exact nm1 (by omega)|exact nm2 (by omega) (by omega)|exact dct rfl|exact dct (by decide)|exact dcf (by decide)|exact (Int.toNat_of_nonneg (by omega)).symm|exact dcu|exact lk1 (by assumption)|exact lk0 (by assumption)|exact lkb|fail))|fail) ?_)
  refine SG.call rfl rfl rfl (by repeat' (first | exact True.intro | exact rho_of rfl | refine And.intro ?_ ?_)) ((rall_spec c6 ((hS6.kp0 hk7).kp0 hk8) (by omega)).mono (fun e w9 hh => ?_))
  obtain ⟨a9, c9, he9, hS9, hk9⟩ := hh
  refine ⟨_, he9, ?_⟩
  refine SG.ret rfl rfl rfl (by repeat' (first | exact True.intro | exact rho_of rfl | refine And.intro ?_ ?_)) (rsame_spec c8 c9 (hS8.sl.kp0 hk9) hS9 (by omega) hfit hfit) (fun w10 hk10 => ?_)
  rw [decide_eq_true (rfl : allL l6 = allL l6)]
  have hk610 := ((hk7.trans hk8).trans hk9).trans hk10
  repeat (first|apply CG.seq|apply CG.region|apply SG.nil|apply NG.next|apply CG.skip|apply CG.block|apply CG.ret|apply CG.exit|apply CG.scope|apply NG.ret_then|apply NG.ret_block|apply NG.ret_scope|apply NG.exit_then|refine NG.exit_block rfl ?_|refine NG.exit_other rfl ?_|apply NG.exit_scope|apply NG.normal_block|apply NG.normal_scope|refine SG.val rfl rfl rfl rfl (by first|((first|apply qmv|apply qas|apply qlc|apply qla|apply qfa|apply qnc|apply qic|apply qix|apply qpk|apply qls|apply qei|apply qni|apply qed|apply qnd|apply qad|apply qln|apply qle|apply qgt|apply qge|apply qlk|apply qlv|apply qxt|apply qsb|apply qnt|apply qep|apply qnp|apply qeb|apply qnb|apply qx2|apply qx4|apply qcv|apply qlm|apply qfr|apply qto|apply qmx|apply qen|apply qsn|apply qx8|apply qx7|apply qx6|apply qx5|apply qx4|apply qx3|apply qx2|apply qx1|apply qx0)<;>(first|exact rfl|exact Ar.mk (by omega)|assumption|exact dct (by assumption)|exact dcf (by assumption)|exact dct (by omega)|exact dcf (by omega)|exact List.not_mem_nil|exact dc_length _|exact nc_length _|exact rc_length _ _ _|exact ec_length _|exact nm1 (by omega)|exact nm2 (by omega) (by omega)|exact dct rfl|exact dct (by decide)|exact dcf (by decide)|exact (Int.toNat_of_nonneg (by omega)).symm|exact dcu|exact lk1 (by assumption)|exact lk0 (by assumption)|exact lkb|fail))|fail) ?_)
  refine SG.ret rfl rfl rfl (by repeat' (first | exact True.intro | exact rho_of rfl | refine And.intro ?_ ?_)) (total_spec (hB6.kp0 hk610) hg6 (by rw [rel6.ok.tot]; omega)) (fun w11 hk11 => ?_)
  rw [rel6.ok.tot]
  repeat (first|apply CG.seq|apply CG.region|apply SG.nil|apply NG.next|apply CG.skip|apply CG.block|apply CG.ret|apply CG.exit|apply CG.scope|apply NG.ret_then|apply NG.ret_block|apply NG.ret_scope|apply NG.exit_then|refine NG.exit_block rfl ?_|refine NG.exit_other rfl ?_|apply NG.exit_scope|apply NG.normal_block|apply NG.normal_scope|refine SG.val rfl rfl rfl rfl (by first|((first|apply qmv|apply qas|apply qlc|apply qla|apply qfa|apply qnc|apply qic|apply qix|apply qpk|apply qls|apply qei|apply qni|apply qed|apply qnd|apply qad|apply qln|apply qle|apply qgt|apply qge|apply qlk|apply qlv|apply qxt|apply qsb|apply qnt|apply qep|apply qnp|apply qeb|apply qnb|apply qx2|apply qx4|apply qcv|apply qlm|apply qfr|apply qto|apply qmx|apply qen|apply qsn|apply qx8|apply qx7|apply qx6|apply qx5|apply qx4|apply qx3|apply qx2|apply qx1|apply qx0)<;>(first|exact rfl|exact Ar.mk (by omega)|assumption|exact dct (by assumption)|exact dcf (by assumption)|exact dct (by omega)|exact dcf (by omega)|exact List.not_mem_nil|exact dc_length _|exact nc_length _|exact rc_length _ _ _|exact ec_length _|exact nm1 (by omega)|exact nm2 (by omega) (by omega)|exact dct rfl|exact dct (by decide)|exact dcf (by decide)|exact (Int.toNat_of_nonneg (by omega)).symm|exact dcu|exact lk1 (by assumption)|exact lk0 (by assumption)|exact lkb|fail))|fail) ?_)
  refine SG.ret rfl rfl rfl (by repeat' (first | exact True.intro | exact rho_of rfl | refine And.intro ?_ ?_)) (rtotal_spec c6 ((hS6.kp0 hk610).kp0 hk11) (by omega) (fun e he => (rel6.ent (by omega) he).1) (by rw [rel6.sum]; omega)) (fun w12 hk12 => ?_)
  rw [rel6.sum]
  have g3 : T = T := rfl
  repeat (first|apply CG.seq|apply CG.region|apply SG.nil|apply NG.next|apply CG.skip|apply CG.block|apply CG.ret|apply CG.exit|apply CG.scope|apply NG.ret_then|apply NG.ret_block|apply NG.ret_scope|apply NG.exit_then|refine NG.exit_block rfl ?_|refine NG.exit_other rfl ?_|apply NG.exit_scope|apply NG.normal_block|apply NG.normal_scope|refine SG.val rfl rfl rfl rfl (by first|((first|apply qmv|apply qas|apply qlc|apply qla|apply qfa|apply qnc|apply qic|apply qix|apply qpk|apply qls|apply qei|apply qni|apply qed|apply qnd|apply qad|apply qln|apply qle|apply qgt|apply qge|apply qlk|apply qlv|apply qxt|apply qsb|apply qnt|apply qep|apply qnp|apply qeb|apply qnb|apply qx2|apply qx4|apply qcv|apply qlm|apply qfr|apply qto|apply qmx|apply qen|apply qsn|apply qx8|apply qx7|apply qx6|apply qx5|apply qx4|apply qx3|apply qx2|apply qx1|apply qx0)<;>(first|exact rfl|exact Ar.mk (by omega)|assumption|exact dct (by assumption)|exact dcf (by assumption)|exact dct (by omega)|exact dcf (by omega)|exact List.not_mem_nil|exact dc_length _|exact nc_length _|exact rc_length _ _ _|exact ec_length _|exact nm1 (by omega)|exact nm2 (by omega) (by omega)|exact dct rfl|exact dct (by decide)|exact dcf (by decide)|exact (Int.toNat_of_nonneg (by omega)).symm|exact dcu|exact lk1 (by assumption)|exact lk0 (by assumption)|exact lkb|fail))|fail) ?_)
  refine CG.cond_f rfl (by exact rho_of rfl) rfl ?_
  repeat (first|apply CG.seq|apply CG.region|apply SG.nil|apply NG.next|apply CG.skip|apply CG.block|apply CG.ret|apply CG.exit|apply CG.scope|apply NG.ret_then|apply NG.ret_block|apply NG.ret_scope|apply NG.exit_then|refine NG.exit_block rfl ?_|refine NG.exit_other rfl ?_|apply NG.exit_scope|apply NG.normal_block|apply NG.normal_scope|refine SG.val rfl rfl rfl rfl (by first|((first|apply qmv|apply qas|apply qlc|apply qla|apply qfa|apply qnc|apply qic|apply qix|apply qpk|apply qls|apply qei|apply qni|apply qed|apply qnd|apply qad|apply qln|apply qle|apply qgt|apply qge|apply qlk|apply qlv|apply qxt|apply qsb|apply qnt|apply qep|apply qnp|apply qeb|apply qnb|apply qx2|apply qx4|apply qcv|apply qlm|apply qfr|apply qto|apply qmx|apply qen|apply qsn|apply qx8|apply qx7|apply qx6|apply qx5|apply qx4|apply qx3|apply qx2|apply qx1|apply qx0)<;>(first|exact rfl|exact Ar.mk (by omega)|assumption|exact dct (by assumption)|exact dcf (by assumption)|exact dct (by omega)|exact dcf (by omega)|exact List.not_mem_nil|exact dc_length _|exact nc_length _|exact rc_length _ _ _|exact ec_length _|exact nm1 (by omega)|exact nm2 (by omega) (by omega)|exact dct rfl|exact dct (by decide)|exact dcf (by decide)|exact (Int.toNat_of_nonneg (by omega)).symm|exact dcu|exact lk1 (by assumption)|exact lk0 (by assumption)|exact lkb|fail))|fail) ?_)
  have hk612 := (hk610.trans hk11).trans hk12
  exact NG.round (i + 1, m6, l6, a6, c6) (by (repeat' (first | exact True.intro | exact rfl | refine And.intro ?_ ?_))) ⟨by simp only; omega, hk06.trans hk612, hB6.kp0 hk612, hS6.kp0 hk612, by simp only; rw [show (2 + ((i + 1 : Nat) : Int)) = 2 + (i : Int) + 1 by omega]; exact rel6, by simp only; omega, by simp only; omega⟩ (by simp only; omega)
end Go.Proofs.Ytkkfppfpbobghaa
