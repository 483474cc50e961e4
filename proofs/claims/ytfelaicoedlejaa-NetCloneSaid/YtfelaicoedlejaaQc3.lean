import Derived.Test.YtfelaicoedlejaaQc2
/-
  A letter is sent.
-/
namespace Go.Proofs.Ytfelaicoedlejaa
set_option linter.unusedVariables false

def Ns.sendE (s : Ns) (fr to : Int) (n : Nat) (later : List Int) : Int :=
  if ¬ (0 ≤ fr ∧ fr < s.parties) ∨ ¬ (0 ≤ to ∧ to < s.parties) then 28 else if 65536 < n then 5 else if 8 < later.length ∨ later.any badL = true then 2 else if 4096 < s.pend.length + later.length then 8 else 0
/-- The letter as an argument; the fate. -/
abbrev lv (fr to : Int) (a : Option Addr) (n c : Nat) : Value := .agg #[.int .i64 fr, .int .i64 to, .slice a n c]
abbrev fv (a : Option Addr) (n c : Nat) : Value := .agg #[.slice a n c]

attribute [local irreducible] CG NG SG Vals Der Row Blk MapIs IterAt DerX
set_option maxHeartbeats 8000000 in
theorem send_bad {w : World} {bt bm : Nat} {s : Ns} {due : Due} (hR : Rep w bt bm s due) (hw : s.pend.length ≤ 100000) (fr to : Int) (ab : Option Addr) (nb cb : Nat) (al : Option Addr) (cl : Nat) (later : List Int) (hS : SlI w al later) (hl : later.length ≤ 100000) (hnb : nb ≤ 1000000000)
    (hE : s.sendE fr to nb later ≠ 0) : Ret Try.prog 13 #[.pointer (some ⟨bt, 0, none⟩), lv fr to ab nb cb, fv al later.length cl] w (.int .i64 (s.sendE fr to nb later)) := by
  refine enter3 Try.func13 rfl Try.ntmps13 rfl ?_
  repeat (first|apply CG.seq|apply CG.region|apply SG.nil|apply NG.next|apply CG.skip|apply CG.block|apply CG.ret|apply CG.exit|apply CG.scope|apply NG.ret_then|apply NG.ret_block|apply NG.ret_scope|apply NG.exit_then|refine NG.exit_block rfl ?_|refine NG.exit_other rfl ?_|apply NG.exit_scope|apply NG.normal_block|apply NG.normal_scope|refine SG.val rfl rfl rfl rfl (by first|((first|apply qmv|apply qas|apply qlc|apply qla|apply qfa|apply qnc|apply qic|apply qix|apply qpk|apply qls|apply qei|apply qni|apply qed|apply qnd|apply qad|apply qln|apply qle|apply qgt|apply qge|apply qlk|apply qlv|apply qxt|apply qsb|apply qnt|apply qep|apply qnp|apply qeb|apply qnb|apply qcv|apply qlm|apply qfr|apply qto|apply qmx|apply qen|apply qsn)<;>(first|exact rfl|exact Ar.mk (by omega)|assumption|exact dct (by assumption)|exact dcf (by assumption)|exact dct (by omega)|exact dcf (by omega)|exact List.not_mem_nil|exact dc_length _|exact nc_length _|exact rc_length _ _ _|exact ec_length _|exact nm1 (by omega)|exact nm2 (by omega) (by omega)|exact dct rfl|exact dct (by decide)|exact dcf (by decide)|exact (Int.toNat_of_nonneg (by omega)).symm|exact dcu|exact lk1 (by assumption)|exact lk0 (by assumption)|exact lkb|fail))|fail) ?_)
  refine SG.box rfl rfl rfl (by exact rho_of rfl) (fun b4 w1 hk1 hb4 hB4 => ?_)
  refine SG.box rfl rfl rfl (by exact rho_of rfl) (fun b5 w2 hk2 hb5 hB5 => ?_)
  have hk02 := hk1.trans hk2
  have hR2 := hR.kp0 hk02
  have r0 : Row w2 b4 0 [.int .i64 fr] := Row.of (hB4.kp0 hk2) [] [.int .i64 to, .slice ab nb cb] rfl rfl
  have r1 : Row w2 b4 1 [.int .i64 to] := Row.of (hB4.kp0 hk2) [.int .i64 fr] [.slice ab nb cb] rfl rfl
  have r2 : Row w2 b4 2 [.slice ab nb cb] := Row.of (hB4.kp0 hk2) [.int .i64 fr, .int .i64 to] [] rfl rfl
  have r5 : Row w2 b5 0 [.slice al later.length cl] := Row.of hB5 [] [] rfl rfl
  repeat (first|apply CG.seq|apply CG.region|apply SG.nil|apply NG.next|apply CG.skip|apply CG.block|apply CG.ret|apply CG.exit|apply CG.scope|apply NG.ret_then|apply NG.ret_block|apply NG.ret_scope|apply NG.exit_then|refine NG.exit_block rfl ?_|refine NG.exit_other rfl ?_|apply NG.exit_scope|apply NG.normal_block|apply NG.normal_scope|refine SG.val rfl rfl rfl rfl (by first|((first|apply qmv|apply qas|apply qlc|apply qla|apply qfa|apply qnc|apply qic|apply qix|apply qpk|apply qls|apply qei|apply qni|apply qed|apply qnd|apply qad|apply qln|apply qle|apply qgt|apply qge|apply qlk|apply qlv|apply qxt|apply qsb|apply qnt|apply qep|apply qnp|apply qeb|apply qnb|apply qcv|apply qlm|apply qfr|apply qto|apply qmx|apply qen|apply qsn)<;>(first|exact rfl|exact Ar.mk (by omega)|assumption|exact dct (by assumption)|exact dcf (by assumption)|exact dct (by omega)|exact dcf (by omega)|exact List.not_mem_nil|exact dc_length _|exact nc_length _|exact rc_length _ _ _|exact ec_length _|exact nm1 (by omega)|exact nm2 (by omega) (by omega)|exact dct rfl|exact dct (by decide)|exact dcf (by decide)|exact (Int.toNat_of_nonneg (by omega)).symm|exact dcu|exact lk1 (by assumption)|exact lk0 (by assumption)|exact lkb|fail))|fail) ?_)
  refine CG.cond_f rfl (by exact rho_of rfl) rfl ?_
  repeat (first|apply CG.seq|apply CG.region|apply SG.nil|apply NG.next|apply CG.skip|apply CG.block|apply CG.ret|apply CG.exit|apply CG.scope|apply NG.ret_then|apply NG.ret_block|apply NG.ret_scope|apply NG.exit_then|refine NG.exit_block rfl ?_|refine NG.exit_other rfl ?_|apply NG.exit_scope|apply NG.normal_block|apply NG.normal_scope|refine SG.val rfl rfl rfl rfl (by first|((first|apply qmv|apply qas|apply qlc|apply qla|apply qfa|apply qnc|apply qic|apply qix|apply qpk|apply qls|apply qei|apply qni|apply qed|apply qnd|apply qad|apply qln|apply qle|apply qgt|apply qge|apply qlk|apply qlv|apply qxt|apply qsb|apply qnt|apply qep|apply qnp|apply qeb|apply qnb|apply qcv|apply qlm|apply qfr|apply qto|apply qmx|apply qen|apply qsn)<;>(first|exact rfl|exact Ar.mk (by omega)|assumption|exact dct (by assumption)|exact dcf (by assumption)|exact dct (by omega)|exact dcf (by omega)|exact List.not_mem_nil|exact dc_length _|exact nc_length _|exact rc_length _ _ _|exact ec_length _|exact nm1 (by omega)|exact nm2 (by omega) (by omega)|exact dct rfl|exact dct (by decide)|exact dcf (by decide)|exact (Int.toNat_of_nonneg (by omega)).symm|exact dcu|exact lk1 (by assumption)|exact lk0 (by assumption)|exact lkb|fail))|fail) ?_)
  refine SG.ret rfl rfl rfl (by repeat' (first | exact True.intro | exact rho_of rfl | refine And.intro ?_ ?_)) (party_spec hR2 fr) (fun w3 hk3 => ?_)
  have hk03 := hk02.trans hk3
  by_cases h1 : 0 ≤ fr ∧ fr < s.parties
  · rw [decide_eq_true h1]
    have r1 := r1.kp0 hk3
    repeat (first | first|apply CG.seq|apply CG.region|apply SG.nil|apply NG.next|apply CG.skip|apply CG.block|apply CG.ret|apply CG.exit|apply CG.scope|apply NG.ret_then|apply NG.ret_block|apply NG.ret_scope|apply NG.exit_then|refine NG.exit_block rfl ?_|refine NG.exit_other rfl ?_|apply NG.exit_scope|apply NG.normal_block|apply NG.normal_scope|refine SG.val rfl rfl rfl rfl (by first|((first|apply qmv|apply qas|apply qlc|apply qla|apply qfa|apply qnc|apply qic|apply qix|apply qpk|apply qls|apply qei|apply qni|apply qed|apply qnd|apply qad|apply qln|apply qle|apply qgt|apply qge|apply qlk|apply qlv|apply qxt|apply qsb|apply qnt|apply qep|apply qnp|apply qeb|apply qnb|apply qcv|apply qlm|apply qfr|apply qto|apply qmx|apply qen|apply qsn)<;>(first|exact rfl|exact Ar.mk (by omega)|assumption|exact dct (by assumption)|exact dcf (by assumption)|exact dct (by omega)|exact dcf (by omega)|exact List.not_mem_nil|exact dc_length _|exact nc_length _|exact rc_length _ _ _|exact ec_length _|exact nm1 (by omega)|exact nm2 (by omega) (by omega)|exact dct rfl|exact dct (by decide)|exact dcf (by decide)|exact (Int.toNat_of_nonneg (by omega)).symm|exact dcu|exact lk1 (by assumption)|exact lk0 (by assumption)|exact lkb|fail))|fail) ?_ | refine SG.skip rfl rfl ?_)
    refine SG.ret rfl rfl rfl (by repeat' (first | exact True.intro | exact rho_of rfl | refine And.intro ?_ ?_)) (party_spec (hR.kp0 hk03) to) (fun w4 hk4 => ?_)
    have hk04 := hk03.trans hk4
    by_cases h2 : 0 ≤ to ∧ to < s.parties
    · rw [decide_eq_true h2]
      repeat (first | first|apply CG.seq|apply CG.region|apply SG.nil|apply NG.next|apply CG.skip|apply CG.block|apply CG.ret|apply CG.exit|apply CG.scope|apply NG.ret_then|apply NG.ret_block|apply NG.ret_scope|apply NG.exit_then|refine NG.exit_block rfl ?_|refine NG.exit_other rfl ?_|apply NG.exit_scope|apply NG.normal_block|apply NG.normal_scope|refine SG.val rfl rfl rfl rfl (by first|((first|apply qmv|apply qas|apply qlc|apply qla|apply qfa|apply qnc|apply qic|apply qix|apply qpk|apply qls|apply qei|apply qni|apply qed|apply qnd|apply qad|apply qln|apply qle|apply qgt|apply qge|apply qlk|apply qlv|apply qxt|apply qsb|apply qnt|apply qep|apply qnp|apply qeb|apply qnb|apply qcv|apply qlm|apply qfr|apply qto|apply qmx|apply qen|apply qsn)<;>(first|exact rfl|exact Ar.mk (by omega)|assumption|exact dct (by assumption)|exact dcf (by assumption)|exact dct (by omega)|exact dcf (by omega)|exact List.not_mem_nil|exact dc_length _|exact nc_length _|exact rc_length _ _ _|exact ec_length _|exact nm1 (by omega)|exact nm2 (by omega) (by omega)|exact dct rfl|exact dct (by decide)|exact dcf (by decide)|exact (Int.toNat_of_nonneg (by omega)).symm|exact dcu|exact lk1 (by assumption)|exact lk0 (by assumption)|exact lkb|fail))|fail) ?_ | refine SG.skip rfl rfl ?_)
      refine CG.cond_f rfl (by exact rho_of rfl) rfl ?_
      have r2 := (r2.kp0 hk3).kp0 hk4
      have r5 := (r5.kp0 hk3).kp0 hk4
      by_cases h3 : 65536 < nb
      · have g3 : (65536 : Int) < (nb : Int) := by omega
        repeat (first|apply CG.seq|apply CG.region|apply SG.nil|apply NG.next|apply CG.skip|apply CG.block|apply CG.ret|apply CG.exit|apply CG.scope|apply NG.ret_then|apply NG.ret_block|apply NG.ret_scope|apply NG.exit_then|refine NG.exit_block rfl ?_|refine NG.exit_other rfl ?_|apply NG.exit_scope|apply NG.normal_block|apply NG.normal_scope|refine SG.val rfl rfl rfl rfl (by first|((first|apply qmv|apply qas|apply qlc|apply qla|apply qfa|apply qnc|apply qic|apply qix|apply qpk|apply qls|apply qei|apply qni|apply qed|apply qnd|apply qad|apply qln|apply qle|apply qgt|apply qge|apply qlk|apply qlv|apply qxt|apply qsb|apply qnt|apply qep|apply qnp|apply qeb|apply qnb|apply qcv|apply qlm|apply qfr|apply qto|apply qmx|apply qen|apply qsn)<;>(first|exact rfl|exact Ar.mk (by omega)|assumption|exact dct (by assumption)|exact dcf (by assumption)|exact dct (by omega)|exact dcf (by omega)|exact List.not_mem_nil|exact dc_length _|exact nc_length _|exact rc_length _ _ _|exact ec_length _|exact nm1 (by omega)|exact nm2 (by omega) (by omega)|exact dct rfl|exact dct (by decide)|exact dcf (by decide)|exact (Int.toNat_of_nonneg (by omega)).symm|exact dcu|exact lk1 (by assumption)|exact lk0 (by assumption)|exact lkb|fail))|fail) ?_)
        refine CG.cond_t rfl (by exact rho_of rfl) rfl ?_
        repeat (first|apply CG.seq|apply CG.region|apply SG.nil|apply NG.next|apply CG.skip|apply CG.block|apply CG.ret|apply CG.exit|apply CG.scope|apply NG.ret_then|apply NG.ret_block|apply NG.ret_scope|apply NG.exit_then|refine NG.exit_block rfl ?_|refine NG.exit_other rfl ?_|apply NG.exit_scope|apply NG.normal_block|apply NG.normal_scope|refine SG.val rfl rfl rfl rfl (by first|((first|apply qmv|apply qas|apply qlc|apply qla|apply qfa|apply qnc|apply qic|apply qix|apply qpk|apply qls|apply qei|apply qni|apply qed|apply qnd|apply qad|apply qln|apply qle|apply qgt|apply qge|apply qlk|apply qlv|apply qxt|apply qsb|apply qnt|apply qep|apply qnp|apply qeb|apply qnb|apply qcv|apply qlm|apply qfr|apply qto|apply qmx|apply qen|apply qsn)<;>(first|exact rfl|exact Ar.mk (by omega)|assumption|exact dct (by assumption)|exact dcf (by assumption)|exact dct (by omega)|exact dcf (by omega)|exact List.not_mem_nil|exact dc_length _|exact nc_length _|exact rc_length _ _ _|exact ec_length _|exact nm1 (by omega)|exact nm2 (by omega) (by omega)|exact dct rfl|exact dct (by decide)|exact dcf (by decide)|exact (Int.toNat_of_nonneg (by omega)).symm|exact dcu|exact lk1 (by assumption)|exact lk0 (by assumption)|exact lkb|fail))|fail) ?_)
        refine ret1 (Or.inl rfl) Try.results13 (by first | exact ResV.tmp rfl | exact ResV.agg rfl rfl (by assumption) (by first | exact dc_length _ | exact nc_length _ | exact rc_length _ _ _ | exact ec_length _ | rfl) | exact ResV.cell rfl rfl (by assumption)) ?_
        refine ⟨?_, hk04⟩
        rw [Ns.sendE, if_neg (by simp only [h1, h2]; decide), if_pos h3]
      have g3 : ¬ (65536 : Int) < (nb : Int) := by omega
      repeat (first|apply CG.seq|apply CG.region|apply SG.nil|apply NG.next|apply CG.skip|apply CG.block|apply CG.ret|apply CG.exit|apply CG.scope|apply NG.ret_then|apply NG.ret_block|apply NG.ret_scope|apply NG.exit_then|refine NG.exit_block rfl ?_|refine NG.exit_other rfl ?_|apply NG.exit_scope|apply NG.normal_block|apply NG.normal_scope|refine SG.val rfl rfl rfl rfl (by first|((first|apply qmv|apply qas|apply qlc|apply qla|apply qfa|apply qnc|apply qic|apply qix|apply qpk|apply qls|apply qei|apply qni|apply qed|apply qnd|apply qad|apply qln|apply qle|apply qgt|apply qge|apply qlk|apply qlv|apply qxt|apply qsb|apply qnt|apply qep|apply qnp|apply qeb|apply qnb|apply qcv|apply qlm|apply qfr|apply qto|apply qmx|apply qen|apply qsn)<;>(first|exact rfl|exact Ar.mk (by omega)|assumption|exact dct (by assumption)|exact dcf (by assumption)|exact dct (by omega)|exact dcf (by omega)|exact List.not_mem_nil|exact dc_length _|exact nc_length _|exact rc_length _ _ _|exact ec_length _|exact nm1 (by omega)|exact nm2 (by omega) (by omega)|exact dct rfl|exact dct (by decide)|exact dcf (by decide)|exact (Int.toNat_of_nonneg (by omega)).symm|exact dcu|exact lk1 (by assumption)|exact lk0 (by assumption)|exact lkb|fail))|fail) ?_)
      refine CG.cond_f rfl (by exact rho_of rfl) rfl ?_
      by_cases h4 : 8 < later.length
      · have g4 : (8 : Int) < (later.length : Int) := by omega
        repeat (first | first|apply CG.seq|apply CG.region|apply SG.nil|apply NG.next|apply CG.skip|apply CG.block|apply CG.ret|apply CG.exit|apply CG.scope|apply NG.ret_then|apply NG.ret_block|apply NG.ret_scope|apply NG.exit_then|refine NG.exit_block rfl ?_|refine NG.exit_other rfl ?_|apply NG.exit_scope|apply NG.normal_block|apply NG.normal_scope|refine SG.val rfl rfl rfl rfl (by first|((first|apply qmv|apply qas|apply qlc|apply qla|apply qfa|apply qnc|apply qic|apply qix|apply qpk|apply qls|apply qei|apply qni|apply qed|apply qnd|apply qad|apply qln|apply qle|apply qgt|apply qge|apply qlk|apply qlv|apply qxt|apply qsb|apply qnt|apply qep|apply qnp|apply qeb|apply qnb|apply qcv|apply qlm|apply qfr|apply qto|apply qmx|apply qen|apply qsn)<;>(first|exact rfl|exact Ar.mk (by omega)|assumption|exact dct (by assumption)|exact dcf (by assumption)|exact dct (by omega)|exact dcf (by omega)|exact List.not_mem_nil|exact dc_length _|exact nc_length _|exact rc_length _ _ _|exact ec_length _|exact nm1 (by omega)|exact nm2 (by omega) (by omega)|exact dct rfl|exact dct (by decide)|exact dcf (by decide)|exact (Int.toNat_of_nonneg (by omega)).symm|exact dcu|exact lk1 (by assumption)|exact lk0 (by assumption)|exact lkb|fail))|fail) ?_ | refine SG.skip rfl rfl ?_)
        refine CG.cond_t rfl (by exact rho_of rfl) rfl ?_
        repeat (first|apply CG.seq|apply CG.region|apply SG.nil|apply NG.next|apply CG.skip|apply CG.block|apply CG.ret|apply CG.exit|apply CG.scope|apply NG.ret_then|apply NG.ret_block|apply NG.ret_scope|apply NG.exit_then|refine NG.exit_block rfl ?_|refine NG.exit_other rfl ?_|apply NG.exit_scope|apply NG.normal_block|apply NG.normal_scope|refine SG.val rfl rfl rfl rfl (by first|((first|apply qmv|apply qas|apply qlc|apply qla|apply qfa|apply qnc|apply qic|apply qix|apply qpk|apply qls|apply qei|apply qni|apply qed|apply qnd|apply qad|apply qln|apply qle|apply qgt|apply qge|apply qlk|apply qlv|apply qxt|apply qsb|apply qnt|apply qep|apply qnp|apply qeb|apply qnb|apply qcv|apply qlm|apply qfr|apply qto|apply qmx|apply qen|apply qsn)<;>(first|exact rfl|exact Ar.mk (by omega)|assumption|exact dct (by assumption)|exact dcf (by assumption)|exact dct (by omega)|exact dcf (by omega)|exact List.not_mem_nil|exact dc_length _|exact nc_length _|exact rc_length _ _ _|exact ec_length _|exact nm1 (by omega)|exact nm2 (by omega) (by omega)|exact dct rfl|exact dct (by decide)|exact dcf (by decide)|exact (Int.toNat_of_nonneg (by omega)).symm|exact dcu|exact lk1 (by assumption)|exact lk0 (by assumption)|exact lkb|fail))|fail) ?_)
        refine ret1 (Or.inl rfl) Try.results13 (by first | exact ResV.tmp rfl | exact ResV.agg rfl rfl (by assumption) (by first | exact dc_length _ | exact nc_length _ | exact rc_length _ _ _ | exact ec_length _ | rfl) | exact ResV.cell rfl rfl (by assumption)) ?_
        refine ⟨?_, hk04⟩
        rw [Ns.sendE, if_neg (by simp only [h1, h2]; decide), if_neg h3, if_pos (Or.inl h4)]
      have g4 : ¬ (8 : Int) < (later.length : Int) := by omega
      repeat (first | first|apply CG.seq|apply CG.region|apply SG.nil|apply NG.next|apply CG.skip|apply CG.block|apply CG.ret|apply CG.exit|apply CG.scope|apply NG.ret_then|apply NG.ret_block|apply NG.ret_scope|apply NG.exit_then|refine NG.exit_block rfl ?_|refine NG.exit_other rfl ?_|apply NG.exit_scope|apply NG.normal_block|apply NG.normal_scope|refine SG.val rfl rfl rfl rfl (by first|((first|apply qmv|apply qas|apply qlc|apply qla|apply qfa|apply qnc|apply qic|apply qix|apply qpk|apply qls|apply qei|apply qni|apply qed|apply qnd|apply qad|apply qln|apply qle|apply qgt|apply qge|apply qlk|apply qlv|apply qxt|apply qsb|apply qnt|apply qep|apply qnp|apply qeb|apply qnb|apply qcv|apply qlm|apply qfr|apply qto|apply qmx|apply qen|apply qsn)<;>(first|exact rfl|exact Ar.mk (by omega)|assumption|exact dct (by assumption)|exact dcf (by assumption)|exact dct (by omega)|exact dcf (by omega)|exact List.not_mem_nil|exact dc_length _|exact nc_length _|exact rc_length _ _ _|exact ec_length _|exact nm1 (by omega)|exact nm2 (by omega) (by omega)|exact dct rfl|exact dct (by decide)|exact dcf (by decide)|exact (Int.toNat_of_nonneg (by omega)).symm|exact dcu|exact lk1 (by assumption)|exact lk0 (by assumption)|exact lkb|fail))|fail) ?_ | refine SG.skip rfl rfl ?_)
      refine SG.ret rfl rfl rfl (by repeat' (first | exact True.intro | exact rho_of rfl | refine And.intro ?_ ?_)) (contains_spec cl (hS.kp0 hk04) hl) (fun w5 hk5 => ?_)
      have hk05 := hk04.trans hk5
      cases h5 : later.any badL with
      | true =>
        repeat (first | first|apply CG.seq|apply CG.region|apply SG.nil|apply NG.next|apply CG.skip|apply CG.block|apply CG.ret|apply CG.exit|apply CG.scope|apply NG.ret_then|apply NG.ret_block|apply NG.ret_scope|apply NG.exit_then|refine NG.exit_block rfl ?_|refine NG.exit_other rfl ?_|apply NG.exit_scope|apply NG.normal_block|apply NG.normal_scope|refine SG.val rfl rfl rfl rfl (by first|((first|apply qmv|apply qas|apply qlc|apply qla|apply qfa|apply qnc|apply qic|apply qix|apply qpk|apply qls|apply qei|apply qni|apply qed|apply qnd|apply qad|apply qln|apply qle|apply qgt|apply qge|apply qlk|apply qlv|apply qxt|apply qsb|apply qnt|apply qep|apply qnp|apply qeb|apply qnb|apply qcv|apply qlm|apply qfr|apply qto|apply qmx|apply qen|apply qsn)<;>(first|exact rfl|exact Ar.mk (by omega)|assumption|exact dct (by assumption)|exact dcf (by assumption)|exact dct (by omega)|exact dcf (by omega)|exact List.not_mem_nil|exact dc_length _|exact nc_length _|exact rc_length _ _ _|exact ec_length _|exact nm1 (by omega)|exact nm2 (by omega) (by omega)|exact dct rfl|exact dct (by decide)|exact dcf (by decide)|exact (Int.toNat_of_nonneg (by omega)).symm|exact dcu|exact lk1 (by assumption)|exact lk0 (by assumption)|exact lkb|fail))|fail) ?_ | refine SG.skip rfl rfl ?_)
        refine CG.cond_t rfl (by exact rho_of rfl) rfl ?_
        repeat (first|apply CG.seq|apply CG.region|apply SG.nil|apply NG.next|apply CG.skip|apply CG.block|apply CG.ret|apply CG.exit|apply CG.scope|apply NG.ret_then|apply NG.ret_block|apply NG.ret_scope|apply NG.exit_then|refine NG.exit_block rfl ?_|refine NG.exit_other rfl ?_|apply NG.exit_scope|apply NG.normal_block|apply NG.normal_scope|refine SG.val rfl rfl rfl rfl (by first|((first|apply qmv|apply qas|apply qlc|apply qla|apply qfa|apply qnc|apply qic|apply qix|apply qpk|apply qls|apply qei|apply qni|apply qed|apply qnd|apply qad|apply qln|apply qle|apply qgt|apply qge|apply qlk|apply qlv|apply qxt|apply qsb|apply qnt|apply qep|apply qnp|apply qeb|apply qnb|apply qcv|apply qlm|apply qfr|apply qto|apply qmx|apply qen|apply qsn)<;>(first|exact rfl|exact Ar.mk (by omega)|assumption|exact dct (by assumption)|exact dcf (by assumption)|exact dct (by omega)|exact dcf (by omega)|exact List.not_mem_nil|exact dc_length _|exact nc_length _|exact rc_length _ _ _|exact ec_length _|exact nm1 (by omega)|exact nm2 (by omega) (by omega)|exact dct rfl|exact dct (by decide)|exact dcf (by decide)|exact (Int.toNat_of_nonneg (by omega)).symm|exact dcu|exact lk1 (by assumption)|exact lk0 (by assumption)|exact lkb|fail))|fail) ?_)
        refine ret1 (Or.inl rfl) Try.results13 (by first | exact ResV.tmp rfl | exact ResV.agg rfl rfl (by assumption) (by first | exact dc_length _ | exact nc_length _ | exact rc_length _ _ _ | exact ec_length _ | rfl) | exact ResV.cell rfl rfl (by assumption)) ?_
        refine ⟨?_, hk05⟩
        rw [Ns.sendE, if_neg (by simp only [h1, h2]; decide), if_neg h3, if_pos (Or.inr h5)]
      | false =>
        repeat (first | first|apply CG.seq|apply CG.region|apply SG.nil|apply NG.next|apply CG.skip|apply CG.block|apply CG.ret|apply CG.exit|apply CG.scope|apply NG.ret_then|apply NG.ret_block|apply NG.ret_scope|apply NG.exit_then|refine NG.exit_block rfl ?_|refine NG.exit_other rfl ?_|apply NG.exit_scope|apply NG.normal_block|apply NG.normal_scope|refine SG.val rfl rfl rfl rfl (by first|((first|apply qmv|apply qas|apply qlc|apply qla|apply qfa|apply qnc|apply qic|apply qix|apply qpk|apply qls|apply qei|apply qni|apply qed|apply qnd|apply qad|apply qln|apply qle|apply qgt|apply qge|apply qlk|apply qlv|apply qxt|apply qsb|apply qnt|apply qep|apply qnp|apply qeb|apply qnb|apply qcv|apply qlm|apply qfr|apply qto|apply qmx|apply qen|apply qsn)<;>(first|exact rfl|exact Ar.mk (by omega)|assumption|exact dct (by assumption)|exact dcf (by assumption)|exact dct (by omega)|exact dcf (by omega)|exact List.not_mem_nil|exact dc_length _|exact nc_length _|exact rc_length _ _ _|exact ec_length _|exact nm1 (by omega)|exact nm2 (by omega) (by omega)|exact dct rfl|exact dct (by decide)|exact dcf (by decide)|exact (Int.toNat_of_nonneg (by omega)).symm|exact dcu|exact lk1 (by assumption)|exact lk0 (by assumption)|exact lkb|fail))|fail) ?_ | refine SG.skip rfl rfl ?_)
        refine CG.cond_f rfl (by exact rho_of rfl) rfl ?_
        have r5 := r5.kp0 hk5
        have hr3 := (hR.kp0 hk05).r3
        have h6 : 4096 < s.pend.length + later.length := by
          refine Classical.byContradiction fun h6 => hE ?_
          rw [Ns.sendE, if_neg (by simp only [h1, h2]; decide), if_neg h3, if_neg (by rintro (h | h); exact h4 h; rw [h5] at h; cases h), if_neg h6]
        have g6 : (4096 : Int) < (s.pend.length : Int) + (later.length : Int) := by omega
        repeat (first|apply CG.seq|apply CG.region|apply SG.nil|apply NG.next|apply CG.skip|apply CG.block|apply CG.ret|apply CG.exit|apply CG.scope|apply NG.ret_then|apply NG.ret_block|apply NG.ret_scope|apply NG.exit_then|refine NG.exit_block rfl ?_|refine NG.exit_other rfl ?_|apply NG.exit_scope|apply NG.normal_block|apply NG.normal_scope|refine SG.val rfl rfl rfl rfl (by first|((first|apply qmv|apply qas|apply qlc|apply qla|apply qfa|apply qnc|apply qic|apply qix|apply qpk|apply qls|apply qei|apply qni|apply qed|apply qnd|apply qad|apply qln|apply qle|apply qgt|apply qge|apply qlk|apply qlv|apply qxt|apply qsb|apply qnt|apply qep|apply qnp|apply qeb|apply qnb|apply qcv|apply qlm|apply qfr|apply qto|apply qmx|apply qen|apply qsn)<;>(first|exact rfl|exact Ar.mk (by omega)|assumption|exact dct (by assumption)|exact dcf (by assumption)|exact dct (by omega)|exact dcf (by omega)|exact List.not_mem_nil|exact dc_length _|exact nc_length _|exact rc_length _ _ _|exact ec_length _|exact nm1 (by omega)|exact nm2 (by omega) (by omega)|exact dct rfl|exact dct (by decide)|exact dcf (by decide)|exact (Int.toNat_of_nonneg (by omega)).symm|exact dcu|exact lk1 (by assumption)|exact lk0 (by assumption)|exact lkb|fail))|fail) ?_)
        refine CG.draw0 mixed [0, 1, 2, 3, 4, 5, 6, 7, 8] [] (by kernel_rfl) ?_
        repeat (refine Der.val rfl rfl rfl (by first|((first|apply qmv|apply qas|apply qlc|apply qla|apply qfa|apply qnc|apply qic|apply qix|apply qpk|apply qls|apply qei|apply qni|apply qed|apply qnd|apply qad|apply qln|apply qle|apply qgt|apply qge|apply qlk|apply qlv|apply qxt|apply qsb|apply qnt|apply qep|apply qnp|apply qeb|apply qnb|apply qcv|apply qlm|apply qfr|apply qto|apply qmx|apply qen|apply qsn)<;>(first|exact rfl|exact Ar.mk (by omega)|assumption|exact dct (by assumption)|exact dcf (by assumption)|exact dct (by omega)|exact dcf (by omega)|exact List.not_mem_nil|exact dc_length _|exact nc_length _|exact rc_length _ _ _|exact ec_length _|exact nm1 (by omega)|exact nm2 (by omega) (by omega)|exact dct rfl|exact dct (by decide)|exact dcf (by decide)|exact (Int.toNat_of_nonneg (by omega)).symm|exact dcu|exact lk1 (by assumption)|exact lk0 (by assumption)|exact lkb|fail))|fail) ?_)
        refine Der.fin (fun w6 hk6 _ _ => ?_)
        repeat (first|apply CG.seq|apply CG.region|apply SG.nil|apply NG.next|apply CG.skip|apply CG.block|apply CG.ret|apply CG.exit|apply CG.scope|apply NG.ret_then|apply NG.ret_block|apply NG.ret_scope|apply NG.exit_then|refine NG.exit_block rfl ?_|refine NG.exit_other rfl ?_|apply NG.exit_scope|apply NG.normal_block|apply NG.normal_scope|refine SG.val rfl rfl rfl rfl (by first|((first|apply qmv|apply qas|apply qlc|apply qla|apply qfa|apply qnc|apply qic|apply qix|apply qpk|apply qls|apply qei|apply qni|apply qed|apply qnd|apply qad|apply qln|apply qle|apply qgt|apply qge|apply qlk|apply qlv|apply qxt|apply qsb|apply qnt|apply qep|apply qnp|apply qeb|apply qnb|apply qcv|apply qlm|apply qfr|apply qto|apply qmx|apply qen|apply qsn)<;>(first|exact rfl|exact Ar.mk (by omega)|assumption|exact dct (by assumption)|exact dcf (by assumption)|exact dct (by omega)|exact dcf (by omega)|exact List.not_mem_nil|exact dc_length _|exact nc_length _|exact rc_length _ _ _|exact ec_length _|exact nm1 (by omega)|exact nm2 (by omega) (by omega)|exact dct rfl|exact dct (by decide)|exact dcf (by decide)|exact (Int.toNat_of_nonneg (by omega)).symm|exact dcu|exact lk1 (by assumption)|exact lk0 (by assumption)|exact lkb|fail))|fail) ?_)
        refine CG.cond_t rfl (by exact rho_of rfl) rfl ?_
        repeat (first|apply CG.seq|apply CG.region|apply SG.nil|apply NG.next|apply CG.skip|apply CG.block|apply CG.ret|apply CG.exit|apply CG.scope|apply NG.ret_then|apply NG.ret_block|apply NG.ret_scope|apply NG.exit_then|refine NG.exit_block rfl ?_|refine NG.exit_other rfl ?_|apply NG.exit_scope|apply NG.normal_block|apply NG.normal_scope|refine SG.val rfl rfl rfl rfl (by first|((first|apply qmv|apply qas|apply qlc|apply qla|apply qfa|apply qnc|apply qic|apply qix|apply qpk|apply qls|apply qei|apply qni|apply qed|apply qnd|apply qad|apply qln|apply qle|apply qgt|apply qge|apply qlk|apply qlv|apply qxt|apply qsb|apply qnt|apply qep|apply qnp|apply qeb|apply qnb|apply qcv|apply qlm|apply qfr|apply qto|apply qmx|apply qen|apply qsn)<;>(first|exact rfl|exact Ar.mk (by omega)|assumption|exact dct (by assumption)|exact dcf (by assumption)|exact dct (by omega)|exact dcf (by omega)|exact List.not_mem_nil|exact dc_length _|exact nc_length _|exact rc_length _ _ _|exact ec_length _|exact nm1 (by omega)|exact nm2 (by omega) (by omega)|exact dct rfl|exact dct (by decide)|exact dcf (by decide)|exact (Int.toNat_of_nonneg (by omega)).symm|exact dcu|exact lk1 (by assumption)|exact lk0 (by assumption)|exact lkb|fail))|fail) ?_)
        refine ret1 (Or.inl rfl) Try.results13 (by first | exact ResV.tmp rfl | exact ResV.agg rfl rfl (by assumption) (by first | exact dc_length _ | exact nc_length _ | exact rc_length _ _ _ | exact ec_length _ | rfl) | exact ResV.cell rfl rfl (by assumption)) ?_
        refine ⟨?_, hk05.trans hk6⟩
        rw [Ns.sendE, if_neg (by simp only [h1, h2]; decide), if_neg h3, if_neg (by rintro (h | h); exact h4 h; rw [h5] at h; cases h), if_pos h6]
    · rw [decide_eq_false h2]
      repeat (first | first|apply CG.seq|apply CG.region|apply SG.nil|apply NG.next|apply CG.skip|apply CG.block|apply CG.ret|apply CG.exit|apply CG.scope|apply NG.ret_then|apply NG.ret_block|apply NG.ret_scope|apply NG.exit_then|refine NG.exit_block rfl ?_|refine NG.exit_other rfl ?_|apply NG.exit_scope|apply NG.normal_block|apply NG.normal_scope|refine SG.val rfl rfl rfl rfl (by first|((first|apply qmv|apply qas|apply qlc|apply qla|apply qfa|apply qnc|apply qic|apply qix|apply qpk|apply qls|apply qei|apply qni|apply qed|apply qnd|apply qad|apply qln|apply qle|apply qgt|apply qge|apply qlk|apply qlv|apply qxt|apply qsb|apply qnt|apply qep|apply qnp|apply qeb|apply qnb|apply qcv|apply qlm|apply qfr|apply qto|apply qmx|apply qen|apply qsn)<;>(first|exact rfl|exact Ar.mk (by omega)|assumption|exact dct (by assumption)|exact dcf (by assumption)|exact dct (by omega)|exact dcf (by omega)|exact List.not_mem_nil|exact dc_length _|exact nc_length _|exact rc_length _ _ _|exact ec_length _|exact nm1 (by omega)|exact nm2 (by omega) (by omega)|exact dct rfl|exact dct (by decide)|exact dcf (by decide)|exact (Int.toNat_of_nonneg (by omega)).symm|exact dcu|exact lk1 (by assumption)|exact lk0 (by assumption)|exact lkb|fail))|fail) ?_ | refine SG.skip rfl rfl ?_)
      refine CG.cond_t rfl (by exact rho_of rfl) rfl ?_
      repeat (first|apply CG.seq|apply CG.region|apply SG.nil|apply NG.next|apply CG.skip|apply CG.block|apply CG.ret|apply CG.exit|apply CG.scope|apply NG.ret_then|apply NG.ret_block|apply NG.ret_scope|apply NG.exit_then|refine NG.exit_block rfl ?_|refine NG.exit_other rfl ?_|apply NG.exit_scope|apply NG.normal_block|apply NG.normal_scope|refine SG.val rfl rfl rfl rfl (by first|((first|apply qmv|apply qas|apply qlc|apply qla|apply qfa|apply qnc|apply qic|apply qix|apply qpk|apply qls|apply qei|apply qni|apply qed|apply qnd|apply qad|apply qln|apply qle|apply qgt|apply qge|apply qlk|apply qlv|apply qxt|apply qsb|apply qnt|apply qep|apply qnp|apply qeb|apply qnb|apply qcv|apply qlm|apply qfr|apply qto|apply qmx|apply qen|apply qsn)<;>(first|exact rfl|exact Ar.mk (by omega)|assumption|exact dct (by assumption)|exact dcf (by assumption)|exact dct (by omega)|exact dcf (by omega)|exact List.not_mem_nil|exact dc_length _|exact nc_length _|exact rc_length _ _ _|exact ec_length _|exact nm1 (by omega)|exact nm2 (by omega) (by omega)|exact dct rfl|exact dct (by decide)|exact dcf (by decide)|exact (Int.toNat_of_nonneg (by omega)).symm|exact dcu|exact lk1 (by assumption)|exact lk0 (by assumption)|exact lkb|fail))|fail) ?_)
      refine ret1 (Or.inl rfl) Try.results13 (by first | exact ResV.tmp rfl | exact ResV.agg rfl rfl (by assumption) (by first | exact dc_length _ | exact nc_length _ | exact rc_length _ _ _ | exact ec_length _ | rfl) | exact ResV.cell rfl rfl (by assumption)) ?_
      refine ⟨?_, hk04⟩
      rw [Ns.sendE, if_pos (Or.inr h2)]
  · rw [decide_eq_false h1]
    repeat (first | first|apply CG.seq|apply CG.region|apply SG.nil|apply NG.next|apply CG.skip|apply CG.block|apply CG.ret|apply CG.exit|apply CG.scope|apply NG.ret_then|apply NG.ret_block|apply NG.ret_scope|apply NG.exit_then|refine NG.exit_block rfl ?_|refine NG.exit_other rfl ?_|apply NG.exit_scope|apply NG.normal_block|apply NG.normal_scope|refine SG.val rfl rfl rfl rfl (by first|((first|apply qmv|apply qas|apply qlc|apply qla|apply qfa|apply qnc|apply qic|apply qix|apply qpk|apply qls|apply qei|apply qni|apply qed|apply qnd|apply qad|apply qln|apply qle|apply qgt|apply qge|apply qlk|apply qlv|apply qxt|apply qsb|apply qnt|apply qep|apply qnp|apply qeb|apply qnb|apply qcv|apply qlm|apply qfr|apply qto|apply qmx|apply qen|apply qsn)<;>(first|exact rfl|exact Ar.mk (by omega)|assumption|exact dct (by assumption)|exact dcf (by assumption)|exact dct (by omega)|exact dcf (by omega)|exact List.not_mem_nil|exact dc_length _|exact nc_length _|exact rc_length _ _ _|exact ec_length _|exact nm1 (by omega)|exact nm2 (by omega) (by omega)|exact dct rfl|exact dct (by decide)|exact dcf (by decide)|exact (Int.toNat_of_nonneg (by omega)).symm|exact dcu|exact lk1 (by assumption)|exact lk0 (by assumption)|exact lkb|fail))|fail) ?_ | refine SG.skip rfl rfl ?_)
    refine CG.cond_t rfl (by exact rho_of rfl) rfl ?_
    repeat (first|apply CG.seq|apply CG.region|apply SG.nil|apply NG.next|apply CG.skip|apply CG.block|apply CG.ret|apply CG.exit|apply CG.scope|apply NG.ret_then|apply NG.ret_block|apply NG.ret_scope|apply NG.exit_then|refine NG.exit_block rfl ?_|refine NG.exit_other rfl ?_|apply NG.exit_scope|apply NG.normal_block|apply NG.normal_scope|refine SG.val rfl rfl rfl rfl (by first|((first|apply qmv|apply qas|apply qlc|apply qla|apply qfa|apply qnc|apply qic|apply qix|apply qpk|apply qls|apply qei|apply qni|apply qed|apply qnd|apply qad|apply qln|apply qle|apply qgt|apply qge|apply qlk|apply qlv|apply qxt|apply qsb|apply qnt|apply qep|apply qnp|apply qeb|apply qnb|apply qcv|apply qlm|apply qfr|apply qto|apply qmx|apply qen|apply qsn)<;>(first|exact rfl|exact Ar.mk (by omega)|assumption|exact dct (by assumption)|exact dcf (by assumption)|exact dct (by omega)|exact dcf (by omega)|exact List.not_mem_nil|exact dc_length _|exact nc_length _|exact rc_length _ _ _|exact ec_length _|exact nm1 (by omega)|exact nm2 (by omega) (by omega)|exact dct rfl|exact dct (by decide)|exact dcf (by decide)|exact (Int.toNat_of_nonneg (by omega)).symm|exact dcu|exact lk1 (by assumption)|exact lk0 (by assumption)|exact lkb|fail))|fail) ?_)
    refine ret1 (Or.inl rfl) Try.results13 (by first | exact ResV.tmp rfl | exact ResV.agg rfl rfl (by assumption) (by first | exact dc_length _ | exact nc_length _ | exact rc_length _ _ _ | exact ec_length _ | rfl) | exact ResV.cell rfl rfl (by assumption)) ?_
    refine ⟨?_, hk03⟩
    rw [Ns.sendE, if_pos (Or.inl h1)]
end Go.Proofs.Ytfelaicoedlejaa
/-
  A copy comes into the net.
-/
namespace Go.Proofs.Ytfelaicoedlejaa
set_option linter.unusedVariables false

section
variable {κ ν : Type} [DecidableEq κ]
theorem mem_aput {m : List (κ × ν)} {x : κ} {y : ν} (hn : (m.map (·.1)).Nodup) : ∀ {e : κ × ν}, e ∈ aput m x y → e = (x, y) ∨ (e ∈ m ∧ e.1 ≠ x) := by
  induction m with
  | nil =>
    intro e he
    simp only [aput, List.mem_singleton] at he
    exact Or.inl he
  | cons p m ih =>
    intro e he
    obtain ⟨k, v⟩ := p
    simp only [List.map_cons, List.nodup_cons] at hn
    simp only [aput] at he
    by_cases hk : k = x
    · rw [if_pos hk] at he
      rcases List.mem_cons.1 he with h | h
      · exact Or.inl (by rw [h, hk])
      · refine Or.inr ⟨List.mem_cons_of_mem _ h, fun e1 => hn.1 ?_⟩
        rw [hk, ← e1]
        exact List.mem_map.2 ⟨e, h, rfl⟩
    · rw [if_neg hk] at he
      rcases List.mem_cons.1 he with h | h
      · exact Or.inr ⟨by rw [h]; exact List.mem_cons_self, by rw [h]; exact hk⟩
      · rcases ih hn.2 h with h | ⟨h1, h2⟩
        · exact Or.inl h
        · exact Or.inr ⟨List.mem_cons_of_mem _ h1, h2⟩
theorem alook_mem {m : List (κ × ν)} {x : κ} {y : ν} (h : alook m x = some y) : (x, y) ∈ m := by
  induction m with
  | nil => cases h
  | cons p m ih =>
    obtain ⟨k, v⟩ := p
    simp only [alook] at h
    by_cases hk : k = x
    · rw [if_pos hk] at h
      cases h
      rw [hk]
      exact List.mem_cons_self
    · rw [if_neg hk] at h
      exact List.mem_cons_of_mem _ (ih h)
end
theorem mem_ownB {v : Value} {z : Nat} : z ∈ ownB v ↔ v.ownBlock = some z := by
  unfold ownB
  cases h : v.ownBlock with
  | none => simp
  | some b => simp [eq_comm]
theorem own_blk {w : World} {base n sz : Nat} {T : TypeId} {v : Value} {xs : List Value} (h : w.ownsRow base T sz v n xs) {z : Nat} (hz : v.ownBlock = some z) : ∃ cs, Blk w z (.cells cs T) := by
  rcases h.2 with ⟨rfl, _⟩ | ⟨g, cap, cur, rfl, _, hh, _⟩
  · cases hz
  · simp only [Value.ownBlock, Option.some.injEq] at hz
    subst hz
    exact ⟨cur, hh⟩
theorem MapIs.blk {κ ν : Type} {w : World} {b : Nat} {enc : κ → Value} {V : ν → Value} {m : List (κ × ν)} (h : MapIs w b enc V m) : ∃ es c, Blk w b (.map es c) := by
  obtain ⟨es, c, hb, _⟩ := h
  exact ⟨es, c, hb⟩
theorem ne_map {w : World} {b z : Nat} {es : Array MapEntry} {c : Nat} {cs : Array Value} {T : TypeId} (h : Blk w b (.map es c)) (h' : Blk w z (.cells cs T)) : z ≠ b := by
  rintro rfl
  cases h.uniq h'
theorem ne_ty {w : World} {b z : Nat} {cs cs' : Array Value} {T T' : TypeId} (hT : T ≠ T') (h : Blk w b (.cells cs T)) (h' : Blk w z (.cells cs' T')) : z ≠ b := by
  rintro rfl
  have := h.uniq h'
  simp only [Obj.cells.injEq] at this
  exact hT this.2.1

/-- The slice and the parcels of a tick. -/
def tick (due : Due) (k : I64) : Value × List Pc := (alook due k).getD (.slice none 0 0, [])
theorem Rep.own_tick {w : World} {bt bm : Nat} {s : Ns} {due : Due} (h : Rep w bt bm s due) (k : I64) : w.ownsRow 0 77 5 (tick due k).1 (tick due k).2.length (flt pcl (tick due k).2) := by
  unfold tick
  cases hh : alook due k with
  | none => exact own_nil
  | some q => exact h.own (k, q) (alook_mem hh)
theorem Rep.own_of {w : World} {bt bm : Nat} {s : Ns} {due : Due} (h : Rep w bt bm s due) {k : I64} {b : Nat} (hb : (tick due k).1.ownBlock = some b) : (k, tick due k) ∈ due := by
  unfold tick at hb ⊢
  cases hh : alook due k with
  | none => rw [hh] at hb; cases hb
  | some q => exact alook_mem hh

def Ns.add (s : Ns) (c : Cp) : Ns := { s with sent := s.sent + 1, pend := s.pend ++ [c], nums := s.nums ++ [s.sent] }
theorem Rep.put {w w1 w2 w3 : World} {bt bm : Nat} {s : Ns} {due : Due} (h : Rep w bt bm s due) (k : I64) {v' : Value} {p : Pc} (hk1 : Kp (ownB (tick due k).1) w w1)
    (hown : w1.ownsRow 0 77 5 v' ((tick due k).2.length + 1) (flt pcl (tick due k).2 ++ pcl p)) (hwh : ∀ g, v'.ownBlock = some g → (tick due k).1.ownBlock = some g ∨ w.heap.size ≤ g) (hby : ByAt w p.a p.cp.bs) (hdue : (p.cp.due : Int) = k.1) (hsn : p.sent = s.sent)
    (hk2 : Kp [bm] w1 w2) (hm2 : MapIs w2 bm iv (fun q : Value × List Pc => q.1) (aput due k (v', (tick due k).2 ++ [p]))) (hk3 : Kp [bt] w2 w3) (hB : Blk w3 bt (.cells (ncl (s.add p.cp) bm).toArray 72)) :
    Rep w3 bt bm (s.add p.cp) (aput due k (v', (tick due k).2 ++ [p])) := by
  have hnd := h.map.nodup
  obtain ⟨es, ec, hmb⟩ := h.map.blk
  have ownT : ∀ z ∈ ownB (tick due k).1, ∃ cs, Blk w z (.cells cs 77) := fun z hz => own_blk (h.own_tick k) (mem_ownB.1 hz)
  have m1 : Blk w1 bm (.map es ec) := hmb.kp hk1 (fun hz => by obtain ⟨cs, hc⟩ := ownT _ hz; exact ne_map hmb hc rfl)
  have b1 : Blk w1 bt (.cells (ncl s bm).toArray 72) := h.blk.kp hk1 (fun hz => by obtain ⟨cs, hc⟩ := ownT _ hz; exact ne_ty (by decide) h.blk hc rfl)
  have hne : bt ≠ bm := ne_map hmb h.blk
  have b2 := b1.kp hk2 (by simpa using hne)
  have cells : ∀ {z : Nat} {cs : Array Value} {T : TypeId}, T ≠ 72 → Blk w1 z (.cells cs T) → Blk w3 z (.cells cs T) := fun {z cs T} hT hz => by
    have n1 := ne_map m1 hz
    have n2 := ne_ty (fun e => hT e.symm) b1 hz
    exact (hz.kp hk2 (by simpa using n1)).kp hk3 (by simpa using n2)
  have ownW : ∀ {v : Value} {n : Nat} {xs : List Value}, w1.ownsRow 0 77 5 v n xs → w3.ownsRow 0 77 5 v n xs := fun {v n xs} ho => by
    refine own_kp (own_kp ho hk2 (fun b hb hm => ?_)) hk3 (fun b hb hm => ?_)
    · obtain ⟨cs, hc⟩ := own_blk ho hb
      exact ne_map m1 hc (by simpa using hm)
    · obtain ⟨cs, hc⟩ := own_blk ho hb
      exact ne_ty (by decide) b1 hc (by simpa using hm)
  have old : ∀ e ∈ due, e.1 ≠ k → ∀ b, e.2.1.ownBlock = some b → b ∉ ownB (tick due k).1 := fun e he hek b hb hm => by
    have hb' := mem_ownB.1 hm
    exact hek (h.sep e he (k, tick due k) (h.own_of hb') b hb hb')
  have byW : ∀ {p : Pc}, ByAt w p.a p.cp.bs → ByAt w3 p.a p.cp.bs := fun {p} hp i u hu => by
    obtain ⟨b, off, cs, e1, e2, e3⟩ := hp i u hu
    refine ⟨b, off, cs, e1, cells (by decide) (e2.kp hk1 (fun hz => ?_)), e3⟩
    obtain ⟨cs', hc⟩ := ownT _ hz
    exact ne_ty (by decide) e2 hc rfl
  have tk : ∀ p ∈ (tick due k).2, ByAt w p.a p.cp.bs := fun p hp => by
    unfold tick at hp
    cases hh : alook due k with
    | none => rw [hh] at hp; cases hp
    | some q => rw [hh] at hp; exact h.byt (k, q) (alook_mem hh) p hp
  have fl : flt pcl (tick due k).2 ++ pcl p = flt pcl ((tick due k).2 ++ [p]) := by simp [flt]
  refine ⟨hB, h.cl, hm2.kp hk3 (by simpa using hne.symm), fun e he => ?_, fun e he e' he' b hb hb' => ?_, fun e he p' hp' => ?_, fun k' => ?_, by simp [Ns.add, h.nl], fun k' => ?_⟩
  · rcases mem_aput hnd he with rfl | ⟨he, hek⟩
    · have := ownW hown
      rw [fl] at this
      simpa using this
    · exact ownW (own_kp (h.own e he) hk1 (old e he hek))
  · have lt : ∀ e ∈ due, ∀ b, e.2.1.ownBlock = some b → b < w.heap.size := fun e he b hb => by
      obtain ⟨cs, hc⟩ := own_blk (h.own e he) hb
      exact hc.lt
    rcases mem_aput hnd he with rfl | ⟨he, hek⟩
    · rcases mem_aput hnd he' with rfl | ⟨he', hek'⟩
      · rfl
      · rcases hwh b hb with h1 | h1
        · exact absurd (mem_ownB.2 h1) (old e' he' hek' b hb')
        · have := lt e' he' b hb'
          omega
    · rcases mem_aput hnd he' with rfl | ⟨he', hek'⟩
      · rcases hwh b hb' with h1 | h1
        · exact absurd (mem_ownB.2 h1) (old e he hek b hb)
        · have := lt e he b hb
          omega
      · exact h.sep e he e' he' b hb hb'
  · rcases mem_aput hnd he with rfl | ⟨he, hek⟩
    · rcases List.mem_append.1 hp' with hp' | hp'
      · exact byW (tk p' hp')
      · rw [List.mem_singleton] at hp'
        subst hp'
        exact byW hby
    · exact byW (h.byt e he p' hp')
  · have hat := h.at_ k'
    rw [alook_put]
    simp only [Ns.add, List.filter_append]
    by_cases hkk : k = k'
    · subst hkk
      rw [if_pos rfl, ← hat]
      have : ((alook due k).map (fun q => q.2)).getD [] = (tick due k).2 := by
        unfold tick
        cases alook due k <;> rfl
      rw [this]
      simp [hdue]
    · rw [if_neg hkk, hat]
      have : ¬ (p.cp.due : Int) = k'.1 := fun e => hkk (Subtype.ext (by rw [← hdue, e]))
      simp [this]
  · have hat := h.num k'
    rw [alook_put]
    simp only [Ns.add]
    rw [List.zip_append h.nl.symm, List.filter_append]
    by_cases hkk : k = k'
    · subst hkk
      rw [if_pos rfl, ← hat]
      have : ((alook due k).map (fun q => q.2)).getD [] = (tick due k).2 := by
        unfold tick
        cases alook due k <;> rfl
      rw [this]
      simp [hdue, hsn]
    · rw [if_neg hkk, hat]
      have : ¬ (p.cp.due : Int) = k'.1 := fun e => hkk (Subtype.ext (by rw [← hdue, e]))
      simp [this]
end Go.Proofs.Ytfelaicoedlejaa
/-
  A letter is sent and taken.
-/
namespace Go.Proofs.Ytfelaicoedlejaa
set_option linter.unusedVariables false

theorem Rep.put_blk {w w1 w2 w3 : World} {bt bm : Nat} {s : Ns} {due : Due} (h : Rep w bt bm s due) (k : I64) (hk1 : Kp (ownB (tick due k).1) w w1) (hk2 : Kp [bm] w1 w2) (hk3 : Kp [bt] w2 w3) {z : Nat} {cs : Array Value} {T : TypeId} (h77 : T ≠ 77) (h72 : T ≠ 72) (hz : Blk w z (.cells cs T)) : Blk w3 z (.cells cs T) := by
  obtain ⟨es, ec, hmb⟩ := h.map.blk
  have n0 : z ∉ ownB (tick due k).1 := fun hm => by
    obtain ⟨cs', hc⟩ := own_blk (h.own_tick k) (mem_ownB.1 hm)
    exact ne_ty h77 hz hc rfl
  have n1 : z ≠ bm := ne_map hmb hz
  have n2 : z ≠ bt := ne_ty (fun e => h72 e.symm) h.blk hz
  exact ((hz.kp hk1 n0).kp hk2 (by simpa using n1)).kp hk3 (by simpa using n2)
theorem Rep.put_by {w w1 w2 w3 : World} {bt bm : Nat} {s : Ns} {due : Due} (h : Rep w bt bm s due) (k : I64) (hk1 : Kp (ownB (tick due k).1) w w1) (hk2 : Kp [bm] w1 w2) (hk3 : Kp [bt] w2 w3) {a : Option Addr} {l : List UInt8} (hz : ByAt w a l) : ByAt w3 a l := fun i u hu => by
  obtain ⟨b, off, cs, e1, e2, e3⟩ := hz i u hu
  exact ⟨b, off, cs, e1, h.put_blk k hk1 hk2 hk3 (by decide) (by decide) e2, e3⟩
theorem uses_put {w : World} {bt bm : Nat} {s : Ns} {due : Due} (h : Rep w bt bm s due) (k : I64) {v' : Value} {p : Pc} {N : Nat} (hN : N ≤ w.heap.size) (hwh : ∀ g, v'.ownBlock = some g → (tick due k).1.ownBlock = some g ∨ w.heap.size ≤ g) (hp : ∀ b off, p.a = some ⟨b, off, none⟩ → N ≤ b) {z : Nat}
    (hz : Uses bt bm (aput due k (v', (tick due k).2 ++ [p])) z) : Uses bt bm due z ∨ N ≤ z := by
  have hnd := h.map.nodup
  rcases hz with h1 | h1 | ⟨e, he, hb⟩ | ⟨e, he, p', hp', off, ha⟩
  · exact Or.inl (Or.inl h1)
  · exact Or.inl (Or.inr (Or.inl h1))
  · rcases mem_aput hnd he with rfl | ⟨he, hek⟩
    · rcases hwh z hb with h1 | h1
      · exact Or.inl (Or.inr (Or.inr (Or.inl ⟨_, h.own_of h1, h1⟩)))
      · exact Or.inr (by omega)
    · exact Or.inl (Or.inr (Or.inr (Or.inl ⟨e, he, hb⟩)))
  · rcases mem_aput hnd he with rfl | ⟨he, hek⟩
    · rcases List.mem_append.1 hp' with hp' | hp'
      · unfold tick at hp'
        cases hh : alook due k with
        | none => rw [hh] at hp'; cases hp'
        | some q =>
          rw [hh] at hp'
          exact Or.inl (Or.inr (Or.inr (Or.inr ⟨_, alook_mem hh, p', hp', off, ha⟩)))
      · rw [List.mem_singleton] at hp'
        subst hp'
        exact Or.inr (hp z off ha.1)
    · exact Or.inl (Or.inr (Or.inr (Or.inr ⟨e, he, p', hp', off, ha⟩)))

theorem ByAt.kp1 {w w' : World} {z : Nat} {cs : Array Value} {T : TypeId} (hz : Blk w z (.cells cs T)) (h5 : T ≠ 5) (hk : Kp [z] w w') {a : Option Addr} {l : List UInt8} (h : ByAt w a l) : ByAt w' a l := fun i u hu => by
  obtain ⟨b, off, cs', e1, e2, e3⟩ := h i u hu
  exact ⟨b, off, cs', e1, e2.kp hk (by simpa using ne_ty h5 hz e2), e3⟩
theorem Rep.kp1 {w w' : World} {bt bm : Nat} {s : Ns} {due : Due} (h : Rep w bt bm s due) {z : Nat} {cs : Array Value} {T : TypeId} (hz : Blk w z (.cells cs T)) (h5 : T ≠ 5) (h72 : T ≠ 72) (h77 : T ≠ 77) (hk : Kp [z] w w') : Rep w' bt bm s due := by
  obtain ⟨es, ec, hmb⟩ := h.map.blk
  refine ⟨h.blk.kp hk (by simpa using ne_ty h72 hz h.blk), h.cl, h.map.kp hk (by simpa using (ne_map hmb hz).symm), fun e he => own_kp (h.own e he) hk (fun b hb hm => ?_), h.sep, fun e he p hp => (h.byt e he p hp).kp1 hz h5 hk, h.at_, h.nl, h.num⟩
  obtain ⟨cs', hc⟩ := own_blk (h.own e he) hb
  exact ne_ty h77 hz hc (by simpa using hm)

def cpOf (s : Ns) (fr to : Nat) (bs : List UInt8) (k : Int) : Cp := ⟨fr, to, bs, s.now + k.toNat⟩
def Ns.sendAll (s : Ns) (fr to : Nat) (bs : List UInt8) (later : List Int) : Ns := { s with sent := s.sent + later.length, pend := s.pend ++ later.map (cpOf s fr to bs), nums := s.nums ++ (List.range later.length).map (fun j => s.sent + j) }
theorem Ns.sendAll_add {s : Ns} {fr to : Nat} {bs : List UInt8} {later : List Int} (k : Int) : (s.sendAll fr to bs later).add (cpOf s fr to bs k) = s.sendAll fr to bs (later ++ [k]) := by
  simp [Ns.sendAll, Ns.add, Nat.add_assoc, List.range_succ]
/-- What Send may change. -/
def sendS (bt bm : Nat) (due : Due) : List Nat := bt :: bm :: due.flatMap (fun e => ownB e.2.1)
theorem build77 (w : World) (fr to : Int) (a : Option Addr) (n c : Nat) (st d : Int) : (Instr.build 77 #[(0, .agg #[.int .i64 fr, .int .i64 to, .slice a n c]), (1, Value.int .i64 st), (2, Value.int .i64 d)]).run Try.prog w = .ok (.agg #[.int .i64 fr, .int .i64 to, .slice a n c, .int .i64 st, .int .i64 d]) w := by kernel_rfl

theorem bslice77 (w : World) (fr to : Int) (a : Option Addr) (n c : Nat) (st d : Int) : (Instr.buildSlice 78 1 [(0, Value.agg #[.int .i64 fr, .int .i64 to, .slice a n c, .int .i64 st, .int .i64 d])].toArray).run Try.prog w = .ok (.slice (some ⟨w.heap.size, 0, none⟩) 1 1) { w with heap := w.heap.push (.cells #[.int .i64 fr, .int .i64 to, .slice a n c, .int .i64 st, .int .i64 d] 77) } := by kernel_rfl

attribute [local irreducible] CG NG SG Vals Der Row Blk MapIs IterAt DerX
set_option maxHeartbeats 8000000 in
theorem send_good {w : World} {bt bm : Nat} {s : Ns} {due : Due} (hR : Rep w bt bm s due) (hnow : s.now ≤ 1000000000000) (hsent : s.sent ≤ 1000000000000) (fr to : Nat) (ab : Option Addr) (cb : Nat) (bs : List UInt8) (hSb : Sl byc 1 w ab bs) (al : Option Addr) (cl : Nat) (later : List Int)
    (hS : ∀ w', Kp (sendS bt bm due) w w' → SlI w' al later) (hE : s.sendE fr to bs.length later = 0) : Calls Try.prog 13 #[.pointer (some ⟨bt, 0, none⟩), lv fr to ab bs.length cb, fv al later.length cl] w (fun e w' => ∃ due', e = .returned (.int .i64 0) ∧ Rep w' bt bm (s.sendAll fr to bs later) due' ∧ (∀ z, Uses bt bm due' z → Uses bt bm due z ∨ w.heap.size ≤ z) ∧ Kp (sendS bt bm due) w w') := by
  have hE0 : (0 ≤ (fr : Int) ∧ (fr : Int) < s.parties) ∧ (0 ≤ (to : Int) ∧ (to : Int) < s.parties) ∧ bs.length ≤ 65536 ∧ later.length ≤ 8 ∧ later.any badL = false ∧ s.pend.length + later.length ≤ 4096 := by
    unfold Ns.sendE at hE
    split at hE
    · cases hE
    rename_i h1
    split at hE
    · cases hE
    rename_i h2
    split at hE
    · cases hE
    rename_i h3
    split at hE
    · cases hE
    rename_i h4
    refine ⟨by omega, by omega, by omega, by omega, ?_, by omega⟩
    cases hh : later.any badL with
    | false => rfl
    | true => exact absurd (Or.inr hh) h3
  obtain ⟨h1, h2, h3, h4, h5, h6⟩ := hE0
  refine enter3 Try.func13 rfl Try.ntmps13 rfl ?_
  repeat (first|apply CG.seq|apply CG.region|apply SG.nil|apply NG.next|apply CG.skip|apply CG.block|apply CG.ret|apply CG.exit|apply CG.scope|apply NG.ret_then|apply NG.ret_block|apply NG.ret_scope|apply NG.exit_then|refine NG.exit_block rfl ?_|refine NG.exit_other rfl ?_|apply NG.exit_scope|apply NG.normal_block|apply NG.normal_scope|refine SG.val rfl rfl rfl rfl (by first|((first|apply qmv|apply qas|apply qlc|apply qla|apply qfa|apply qnc|apply qic|apply qix|apply qpk|apply qls|apply qei|apply qni|apply qed|apply qnd|apply qad|apply qln|apply qle|apply qgt|apply qge|apply qlk|apply qlv|apply qxt|apply qsb|apply qnt|apply qep|apply qnp|apply qeb|apply qnb|apply qcv|apply qlm|apply qfr|apply qto|apply qmx|apply qen|apply qsn)<;>(first|exact rfl|exact Ar.mk (by omega)|assumption|exact dct (by assumption)|exact dcf (by assumption)|exact dct (by omega)|exact dcf (by omega)|exact List.not_mem_nil|exact dc_length _|exact nc_length _|exact rc_length _ _ _|exact ec_length _|exact nm1 (by omega)|exact nm2 (by omega) (by omega)|exact dct rfl|exact dct (by decide)|exact dcf (by decide)|exact (Int.toNat_of_nonneg (by omega)).symm|exact dcu|exact lk1 (by assumption)|exact lk0 (by assumption)|exact lkb|fail))|fail) ?_)
  refine SG.box rfl rfl rfl (by exact rho_of rfl) (fun b4 w1 hk1 hb4 hB4 => ?_)
  refine SG.box rfl rfl rfl (by exact rho_of rfl) (fun b5 w2 hk2 hb5 hB5 => ?_)
  have hk02 := hk1.trans hk2
  have hR2 := hR.kp0 hk02
  have r0 : Row w2 b4 0 [.int .i64 fr] := Row.of (hB4.kp0 hk2) [] [.int .i64 to, .slice ab bs.length cb] rfl rfl
  have r1 : Row w2 b4 1 [.int .i64 to] := Row.of (hB4.kp0 hk2) [.int .i64 fr] [.slice ab bs.length cb] rfl rfl
  have r2 : Row w2 b4 2 [.slice ab bs.length cb] := Row.of (hB4.kp0 hk2) [.int .i64 fr, .int .i64 to] [] rfl rfl
  have r5 : Row w2 b5 0 [.slice al later.length cl] := Row.of hB5 [] [] rfl rfl
  repeat (first|apply CG.seq|apply CG.region|apply SG.nil|apply NG.next|apply CG.skip|apply CG.block|apply CG.ret|apply CG.exit|apply CG.scope|apply NG.ret_then|apply NG.ret_block|apply NG.ret_scope|apply NG.exit_then|refine NG.exit_block rfl ?_|refine NG.exit_other rfl ?_|apply NG.exit_scope|apply NG.normal_block|apply NG.normal_scope|refine SG.val rfl rfl rfl rfl (by first|((first|apply qmv|apply qas|apply qlc|apply qla|apply qfa|apply qnc|apply qic|apply qix|apply qpk|apply qls|apply qei|apply qni|apply qed|apply qnd|apply qad|apply qln|apply qle|apply qgt|apply qge|apply qlk|apply qlv|apply qxt|apply qsb|apply qnt|apply qep|apply qnp|apply qeb|apply qnb|apply qcv|apply qlm|apply qfr|apply qto|apply qmx|apply qen|apply qsn)<;>(first|exact rfl|exact Ar.mk (by omega)|assumption|exact dct (by assumption)|exact dcf (by assumption)|exact dct (by omega)|exact dcf (by omega)|exact List.not_mem_nil|exact dc_length _|exact nc_length _|exact rc_length _ _ _|exact ec_length _|exact nm1 (by omega)|exact nm2 (by omega) (by omega)|exact dct rfl|exact dct (by decide)|exact dcf (by decide)|exact (Int.toNat_of_nonneg (by omega)).symm|exact dcu|exact lk1 (by assumption)|exact lk0 (by assumption)|exact lkb|fail))|fail) ?_)
  refine CG.cond_f rfl (by exact rho_of rfl) rfl ?_
  repeat (first|apply CG.seq|apply CG.region|apply SG.nil|apply NG.next|apply CG.skip|apply CG.block|apply CG.ret|apply CG.exit|apply CG.scope|apply NG.ret_then|apply NG.ret_block|apply NG.ret_scope|apply NG.exit_then|refine NG.exit_block rfl ?_|refine NG.exit_other rfl ?_|apply NG.exit_scope|apply NG.normal_block|apply NG.normal_scope|refine SG.val rfl rfl rfl rfl (by first|((first|apply qmv|apply qas|apply qlc|apply qla|apply qfa|apply qnc|apply qic|apply qix|apply qpk|apply qls|apply qei|apply qni|apply qed|apply qnd|apply qad|apply qln|apply qle|apply qgt|apply qge|apply qlk|apply qlv|apply qxt|apply qsb|apply qnt|apply qep|apply qnp|apply qeb|apply qnb|apply qcv|apply qlm|apply qfr|apply qto|apply qmx|apply qen|apply qsn)<;>(first|exact rfl|exact Ar.mk (by omega)|assumption|exact dct (by assumption)|exact dcf (by assumption)|exact dct (by omega)|exact dcf (by omega)|exact List.not_mem_nil|exact dc_length _|exact nc_length _|exact rc_length _ _ _|exact ec_length _|exact nm1 (by omega)|exact nm2 (by omega) (by omega)|exact dct rfl|exact dct (by decide)|exact dcf (by decide)|exact (Int.toNat_of_nonneg (by omega)).symm|exact dcu|exact lk1 (by assumption)|exact lk0 (by assumption)|exact lkb|fail))|fail) ?_)
  refine SG.ret rfl rfl rfl (by repeat' (first | exact True.intro | exact rho_of rfl | refine And.intro ?_ ?_)) (party_spec hR2 fr) (fun w3 hk3 => ?_)
  have hk03 := hk02.trans hk3
  rw [decide_eq_true h1]
  have r1 := r1.kp0 hk3
  repeat (first | first|apply CG.seq|apply CG.region|apply SG.nil|apply NG.next|apply CG.skip|apply CG.block|apply CG.ret|apply CG.exit|apply CG.scope|apply NG.ret_then|apply NG.ret_block|apply NG.ret_scope|apply NG.exit_then|refine NG.exit_block rfl ?_|refine NG.exit_other rfl ?_|apply NG.exit_scope|apply NG.normal_block|apply NG.normal_scope|refine SG.val rfl rfl rfl rfl (by first|((first|apply qmv|apply qas|apply qlc|apply qla|apply qfa|apply qnc|apply qic|apply qix|apply qpk|apply qls|apply qei|apply qni|apply qed|apply qnd|apply qad|apply qln|apply qle|apply qgt|apply qge|apply qlk|apply qlv|apply qxt|apply qsb|apply qnt|apply qep|apply qnp|apply qeb|apply qnb|apply qcv|apply qlm|apply qfr|apply qto|apply qmx|apply qen|apply qsn)<;>(first|exact rfl|exact Ar.mk (by omega)|assumption|exact dct (by assumption)|exact dcf (by assumption)|exact dct (by omega)|exact dcf (by omega)|exact List.not_mem_nil|exact dc_length _|exact nc_length _|exact rc_length _ _ _|exact ec_length _|exact nm1 (by omega)|exact nm2 (by omega) (by omega)|exact dct rfl|exact dct (by decide)|exact dcf (by decide)|exact (Int.toNat_of_nonneg (by omega)).symm|exact dcu|exact lk1 (by assumption)|exact lk0 (by assumption)|exact lkb|fail))|fail) ?_ | refine SG.skip rfl rfl ?_)
  refine SG.ret rfl rfl rfl (by repeat' (first | exact True.intro | exact rho_of rfl | refine And.intro ?_ ?_)) (party_spec (hR.kp0 hk03) to) (fun w4 hk4 => ?_)
  have hk04 := hk03.trans hk4
  rw [decide_eq_true h2]
  repeat (first | first|apply CG.seq|apply CG.region|apply SG.nil|apply NG.next|apply CG.skip|apply CG.block|apply CG.ret|apply CG.exit|apply CG.scope|apply NG.ret_then|apply NG.ret_block|apply NG.ret_scope|apply NG.exit_then|refine NG.exit_block rfl ?_|refine NG.exit_other rfl ?_|apply NG.exit_scope|apply NG.normal_block|apply NG.normal_scope|refine SG.val rfl rfl rfl rfl (by first|((first|apply qmv|apply qas|apply qlc|apply qla|apply qfa|apply qnc|apply qic|apply qix|apply qpk|apply qls|apply qei|apply qni|apply qed|apply qnd|apply qad|apply qln|apply qle|apply qgt|apply qge|apply qlk|apply qlv|apply qxt|apply qsb|apply qnt|apply qep|apply qnp|apply qeb|apply qnb|apply qcv|apply qlm|apply qfr|apply qto|apply qmx|apply qen|apply qsn)<;>(first|exact rfl|exact Ar.mk (by omega)|assumption|exact dct (by assumption)|exact dcf (by assumption)|exact dct (by omega)|exact dcf (by omega)|exact List.not_mem_nil|exact dc_length _|exact nc_length _|exact rc_length _ _ _|exact ec_length _|exact nm1 (by omega)|exact nm2 (by omega) (by omega)|exact dct rfl|exact dct (by decide)|exact dcf (by decide)|exact (Int.toNat_of_nonneg (by omega)).symm|exact dcu|exact lk1 (by assumption)|exact lk0 (by assumption)|exact lkb|fail))|fail) ?_ | refine SG.skip rfl rfl ?_)
  refine CG.cond_f rfl (by exact rho_of rfl) rfl ?_
  have r2 := (r2.kp0 hk3).kp0 hk4
  have r5 := (r5.kp0 hk3).kp0 hk4
  have g3 : ¬ (65536 : Int) < (bs.length : Int) := by omega
  repeat (first|apply CG.seq|apply CG.region|apply SG.nil|apply NG.next|apply CG.skip|apply CG.block|apply CG.ret|apply CG.exit|apply CG.scope|apply NG.ret_then|apply NG.ret_block|apply NG.ret_scope|apply NG.exit_then|refine NG.exit_block rfl ?_|refine NG.exit_other rfl ?_|apply NG.exit_scope|apply NG.normal_block|apply NG.normal_scope|refine SG.val rfl rfl rfl rfl (by first|((first|apply qmv|apply qas|apply qlc|apply qla|apply qfa|apply qnc|apply qic|apply qix|apply qpk|apply qls|apply qei|apply qni|apply qed|apply qnd|apply qad|apply qln|apply qle|apply qgt|apply qge|apply qlk|apply qlv|apply qxt|apply qsb|apply qnt|apply qep|apply qnp|apply qeb|apply qnb|apply qcv|apply qlm|apply qfr|apply qto|apply qmx|apply qen|apply qsn)<;>(first|exact rfl|exact Ar.mk (by omega)|assumption|exact dct (by assumption)|exact dcf (by assumption)|exact dct (by omega)|exact dcf (by omega)|exact List.not_mem_nil|exact dc_length _|exact nc_length _|exact rc_length _ _ _|exact ec_length _|exact nm1 (by omega)|exact nm2 (by omega) (by omega)|exact dct rfl|exact dct (by decide)|exact dcf (by decide)|exact (Int.toNat_of_nonneg (by omega)).symm|exact dcu|exact lk1 (by assumption)|exact lk0 (by assumption)|exact lkb|fail))|fail) ?_)
  refine CG.cond_f rfl (by exact rho_of rfl) rfl ?_
  have g4 : ¬ (8 : Int) < (later.length : Int) := by omega
  repeat (first | first|apply CG.seq|apply CG.region|apply SG.nil|apply NG.next|apply CG.skip|apply CG.block|apply CG.ret|apply CG.exit|apply CG.scope|apply NG.ret_then|apply NG.ret_block|apply NG.ret_scope|apply NG.exit_then|refine NG.exit_block rfl ?_|refine NG.exit_other rfl ?_|apply NG.exit_scope|apply NG.normal_block|apply NG.normal_scope|refine SG.val rfl rfl rfl rfl (by first|((first|apply qmv|apply qas|apply qlc|apply qla|apply qfa|apply qnc|apply qic|apply qix|apply qpk|apply qls|apply qei|apply qni|apply qed|apply qnd|apply qad|apply qln|apply qle|apply qgt|apply qge|apply qlk|apply qlv|apply qxt|apply qsb|apply qnt|apply qep|apply qnp|apply qeb|apply qnb|apply qcv|apply qlm|apply qfr|apply qto|apply qmx|apply qen|apply qsn)<;>(first|exact rfl|exact Ar.mk (by omega)|assumption|exact dct (by assumption)|exact dcf (by assumption)|exact dct (by omega)|exact dcf (by omega)|exact List.not_mem_nil|exact dc_length _|exact nc_length _|exact rc_length _ _ _|exact ec_length _|exact nm1 (by omega)|exact nm2 (by omega) (by omega)|exact dct rfl|exact dct (by decide)|exact dcf (by decide)|exact (Int.toNat_of_nonneg (by omega)).symm|exact dcu|exact lk1 (by assumption)|exact lk0 (by assumption)|exact lkb|fail))|fail) ?_ | refine SG.skip rfl rfl ?_)
  refine SG.ret rfl rfl rfl (by repeat' (first | exact True.intro | exact rho_of rfl | refine And.intro ?_ ?_)) (contains_spec cl (hS w4 hk04.any) (by omega)) (fun w5 hk5 => ?_)
  have hk05 := hk04.trans hk5
  rw [h5]
  repeat (first | first|apply CG.seq|apply CG.region|apply SG.nil|apply NG.next|apply CG.skip|apply CG.block|apply CG.ret|apply CG.exit|apply CG.scope|apply NG.ret_then|apply NG.ret_block|apply NG.ret_scope|apply NG.exit_then|refine NG.exit_block rfl ?_|refine NG.exit_other rfl ?_|apply NG.exit_scope|apply NG.normal_block|apply NG.normal_scope|refine SG.val rfl rfl rfl rfl (by first|((first|apply qmv|apply qas|apply qlc|apply qla|apply qfa|apply qnc|apply qic|apply qix|apply qpk|apply qls|apply qei|apply qni|apply qed|apply qnd|apply qad|apply qln|apply qle|apply qgt|apply qge|apply qlk|apply qlv|apply qxt|apply qsb|apply qnt|apply qep|apply qnp|apply qeb|apply qnb|apply qcv|apply qlm|apply qfr|apply qto|apply qmx|apply qen|apply qsn)<;>(first|exact rfl|exact Ar.mk (by omega)|assumption|exact dct (by assumption)|exact dcf (by assumption)|exact dct (by omega)|exact dcf (by omega)|exact List.not_mem_nil|exact dc_length _|exact nc_length _|exact rc_length _ _ _|exact ec_length _|exact nm1 (by omega)|exact nm2 (by omega) (by omega)|exact dct rfl|exact dct (by decide)|exact dcf (by decide)|exact (Int.toNat_of_nonneg (by omega)).symm|exact dcu|exact lk1 (by assumption)|exact lk0 (by assumption)|exact lkb|fail))|fail) ?_ | refine SG.skip rfl rfl ?_)
  refine CG.cond_f rfl (by exact rho_of rfl) rfl ?_
  have r2 := r2.kp0 hk5
  have r5 := r5.kp0 hk5
  have hr3 := (hR.kp0 hk05).r3
  have g6 : ¬ (4096 : Int) < (s.pend.length : Int) + (later.length : Int) := by omega
  repeat (first|apply CG.seq|apply CG.region|apply SG.nil|apply NG.next|apply CG.skip|apply CG.block|apply CG.ret|apply CG.exit|apply CG.scope|apply NG.ret_then|apply NG.ret_block|apply NG.ret_scope|apply NG.exit_then|refine NG.exit_block rfl ?_|refine NG.exit_other rfl ?_|apply NG.exit_scope|apply NG.normal_block|apply NG.normal_scope|refine SG.val rfl rfl rfl rfl (by first|((first|apply qmv|apply qas|apply qlc|apply qla|apply qfa|apply qnc|apply qic|apply qix|apply qpk|apply qls|apply qei|apply qni|apply qed|apply qnd|apply qad|apply qln|apply qle|apply qgt|apply qge|apply qlk|apply qlv|apply qxt|apply qsb|apply qnt|apply qep|apply qnp|apply qeb|apply qnb|apply qcv|apply qlm|apply qfr|apply qto|apply qmx|apply qen|apply qsn)<;>(first|exact rfl|exact Ar.mk (by omega)|assumption|exact dct (by assumption)|exact dcf (by assumption)|exact dct (by omega)|exact dcf (by omega)|exact List.not_mem_nil|exact dc_length _|exact nc_length _|exact rc_length _ _ _|exact ec_length _|exact nm1 (by omega)|exact nm2 (by omega) (by omega)|exact dct rfl|exact dct (by decide)|exact dcf (by decide)|exact (Int.toNat_of_nonneg (by omega)).symm|exact dcu|exact lk1 (by assumption)|exact lk0 (by assumption)|exact lkb|fail))|fail) ?_)
  refine CG.draw0 mixed [0, 1, 2, 3, 4, 5, 6, 7, 8] [] (by kernel_rfl) ?_
  repeat (refine Der.val rfl rfl rfl (by first|((first|apply qmv|apply qas|apply qlc|apply qla|apply qfa|apply qnc|apply qic|apply qix|apply qpk|apply qls|apply qei|apply qni|apply qed|apply qnd|apply qad|apply qln|apply qle|apply qgt|apply qge|apply qlk|apply qlv|apply qxt|apply qsb|apply qnt|apply qep|apply qnp|apply qeb|apply qnb|apply qcv|apply qlm|apply qfr|apply qto|apply qmx|apply qen|apply qsn)<;>(first|exact rfl|exact Ar.mk (by omega)|assumption|exact dct (by assumption)|exact dcf (by assumption)|exact dct (by omega)|exact dcf (by omega)|exact List.not_mem_nil|exact dc_length _|exact nc_length _|exact rc_length _ _ _|exact ec_length _|exact nm1 (by omega)|exact nm2 (by omega) (by omega)|exact dct rfl|exact dct (by decide)|exact dcf (by decide)|exact (Int.toNat_of_nonneg (by omega)).symm|exact dcu|exact lk1 (by assumption)|exact lk0 (by assumption)|exact lkb|fail))|fail) ?_)
  refine Der.fin (fun w6 hk6 _ _ => ?_)
  have hk06 := hk05.trans hk6
  have r2 := r2.kp0 hk6
  have r5 := r5.kp0 hk6
  repeat (first|apply CG.seq|apply CG.region|apply SG.nil|apply NG.next|apply CG.skip|apply CG.block|apply CG.ret|apply CG.exit|apply CG.scope|apply NG.ret_then|apply NG.ret_block|apply NG.ret_scope|apply NG.exit_then|refine NG.exit_block rfl ?_|refine NG.exit_other rfl ?_|apply NG.exit_scope|apply NG.normal_block|apply NG.normal_scope|refine SG.val rfl rfl rfl rfl (by first|((first|apply qmv|apply qas|apply qlc|apply qla|apply qfa|apply qnc|apply qic|apply qix|apply qpk|apply qls|apply qei|apply qni|apply qed|apply qnd|apply qad|apply qln|apply qle|apply qgt|apply qge|apply qlk|apply qlv|apply qxt|apply qsb|apply qnt|apply qep|apply qnp|apply qeb|apply qnb|apply qcv|apply qlm|apply qfr|apply qto|apply qmx|apply qen|apply qsn)<;>(first|exact rfl|exact Ar.mk (by omega)|assumption|exact dct (by assumption)|exact dcf (by assumption)|exact dct (by omega)|exact dcf (by omega)|exact List.not_mem_nil|exact dc_length _|exact nc_length _|exact rc_length _ _ _|exact ec_length _|exact nm1 (by omega)|exact nm2 (by omega) (by omega)|exact dct rfl|exact dct (by decide)|exact dcf (by decide)|exact (Int.toNat_of_nonneg (by omega)).symm|exact dcu|exact lk1 (by assumption)|exact lk0 (by assumption)|exact lkb|fail))|fail) ?_)
  refine CG.cond_f rfl (by exact rho_of rfl) rfl ?_
  repeat (first|apply CG.seq|apply CG.region|apply SG.nil|apply NG.next|apply CG.skip|apply CG.block|apply CG.ret|apply CG.exit|apply CG.scope|apply NG.ret_then|apply NG.ret_block|apply NG.ret_scope|apply NG.exit_then|refine NG.exit_block rfl ?_|refine NG.exit_other rfl ?_|apply NG.exit_scope|apply NG.normal_block|apply NG.normal_scope|refine SG.val rfl rfl rfl rfl (by first|((first|apply qmv|apply qas|apply qlc|apply qla|apply qfa|apply qnc|apply qic|apply qix|apply qpk|apply qls|apply qei|apply qni|apply qed|apply qnd|apply qad|apply qln|apply qle|apply qgt|apply qge|apply qlk|apply qlv|apply qxt|apply qsb|apply qnt|apply qep|apply qnp|apply qeb|apply qnb|apply qcv|apply qlm|apply qfr|apply qto|apply qmx|apply qen|apply qsn)<;>(first|exact rfl|exact Ar.mk (by omega)|assumption|exact dct (by assumption)|exact dcf (by assumption)|exact dct (by omega)|exact dcf (by omega)|exact List.not_mem_nil|exact dc_length _|exact nc_length _|exact rc_length _ _ _|exact ec_length _|exact nm1 (by omega)|exact nm2 (by omega) (by omega)|exact dct rfl|exact dct (by decide)|exact dcf (by decide)|exact (Int.toNat_of_nonneg (by omega)).symm|exact dcu|exact lk1 (by assumption)|exact lk0 (by assumption)|exact lkb|fail))|fail) ?_)
  refine SG.call rfl rfl rfl (by repeat' (first | exact True.intro | exact rho_of rfl | refine And.intro ?_ ?_)) ((bclone_spec cb (hSb.kp0 hk06) (by omega)).mono (fun e w7 h => ?_))
  obtain ⟨v, he, hov, hk7⟩ := h
  refine ⟨v, he, ?_⟩
  obtain ⟨a, c, rfl, hc, hby, hab⟩ := own_by hov rfl
  have hk07 := hk06.trans hk7
  have B4 : Blk w7 b4 (.cells #[.int .i64 fr, .int .i64 to, .slice ab bs.length cb] 35) := (hB4.kp0 hk2).kp0 ((hk3.trans (hk4.trans (hk5.trans hk6))).trans hk7)
  repeat (first|apply CG.seq|apply CG.region|apply SG.nil|apply NG.next|apply CG.skip|apply CG.block|apply CG.ret|apply CG.exit|apply CG.scope|apply NG.ret_then|apply NG.ret_block|apply NG.ret_scope|apply NG.exit_then|refine NG.exit_block rfl ?_|refine NG.exit_other rfl ?_|apply NG.exit_scope|apply NG.normal_block|apply NG.normal_scope|refine SG.val rfl rfl rfl rfl (by first|((first|apply qmv|apply qas|apply qlc|apply qla|apply qfa|apply qnc|apply qic|apply qix|apply qpk|apply qls|apply qei|apply qni|apply qed|apply qnd|apply qad|apply qln|apply qle|apply qgt|apply qge|apply qlk|apply qlv|apply qxt|apply qsb|apply qnt|apply qep|apply qnp|apply qeb|apply qnb|apply qcv|apply qlm|apply qfr|apply qto|apply qmx|apply qen|apply qsn)<;>(first|exact rfl|exact Ar.mk (by omega)|assumption|exact dct (by assumption)|exact dcf (by assumption)|exact dct (by omega)|exact dcf (by omega)|exact List.not_mem_nil|exact dc_length _|exact nc_length _|exact rc_length _ _ _|exact ec_length _|exact nm1 (by omega)|exact nm2 (by omega) (by omega)|exact dct rfl|exact dct (by decide)|exact dcf (by decide)|exact (Int.toNat_of_nonneg (by omega)).symm|exact dcu|exact lk1 (by assumption)|exact lk0 (by assumption)|exact lkb|fail))|fail) ?_)
  refine SG.setMid [.int .i64 fr, .int .i64 to] [.slice ab bs.length cb] [] rfl rfl (by exact rho_of rfl) (by exact rho_of rfl) B4 rfl rfl rfl rfl rfl (fun w8 hk8 hB8 => ?_)
  have hb4n : w.heap.size ≤ b4 := hb4
  have hne5 : b5 ≠ b4 := by
    have := hB4.lt
    omega
  have r5 := (r5.kp0 hk7).kp hk8 (by simpa using hne5)
  have eN := hk06.size
  have hR7 := hR.kp0 hk07
  have hR8 := hR7.kp1 B4 (by decide) (by decide) (by decide) hk8
  have hby8 : ByAt w8 a bs := hby.kp1 B4 (by decide) hk8
  have hk08 : Kp (sendS bt bm due) w w8 := (hk07.any).trans_new hk8 (by simpa using Or.inr hb4n)
  repeat (first|apply CG.seq|apply CG.region|apply SG.nil|apply NG.next|apply CG.skip|apply CG.block|apply CG.ret|apply CG.exit|apply CG.scope|apply NG.ret_then|apply NG.ret_block|apply NG.ret_scope|apply NG.exit_then|refine NG.exit_block rfl ?_|refine NG.exit_other rfl ?_|apply NG.exit_scope|apply NG.normal_block|apply NG.normal_scope|refine SG.val rfl rfl rfl rfl (by first|((first|apply qmv|apply qas|apply qlc|apply qla|apply qfa|apply qnc|apply qic|apply qix|apply qpk|apply qls|apply qei|apply qni|apply qed|apply qnd|apply qad|apply qln|apply qle|apply qgt|apply qge|apply qlk|apply qlv|apply qxt|apply qsb|apply qnt|apply qep|apply qnp|apply qeb|apply qnb|apply qcv|apply qlm|apply qfr|apply qto|apply qmx|apply qen|apply qsn)<;>(first|exact rfl|exact Ar.mk (by omega)|assumption|exact dct (by assumption)|exact dcf (by assumption)|exact dct (by omega)|exact dcf (by omega)|exact List.not_mem_nil|exact dc_length _|exact nc_length _|exact rc_length _ _ _|exact ec_length _|exact nm1 (by omega)|exact nm2 (by omega) (by omega)|exact dct rfl|exact dct (by decide)|exact dcf (by decide)|exact (Int.toNat_of_nonneg (by omega)).symm|exact dcu|exact lk1 (by assumption)|exact lk0 (by assumption)|exact lkb|fail))|fail) ?_)
  refine CG.loop (X := Nat) (fun q => [(0, .pointer (some ⟨bt, 0, none⟩)), (4, .pointer (some ⟨b4, 0, none⟩)), (51, .slice al later.length cl), (52, .int .i64 later.length), (53, .int .i64 (q : Int))])
    (fun q w' => q ≤ later.length ∧ ∃ due', Rep w' bt bm (s.sendAll fr to bs (later.take q)) due' ∧ (∀ z, Uses bt bm due' z → Uses bt bm due z ∨ w.heap.size ≤ z) ∧ (∀ e ∈ due', ∀ z, e.2.1.ownBlock = some z → z ∈ sendS bt bm due ∨ w.heap.size ≤ z) ∧ Kp (sendS bt bm due) w w' ∧ Blk w' b4 (.cells #[.int .i64 fr, .int .i64 to, .slice a bs.length c] 35) ∧ ByAt w' a bs)
    (fun q => later.length - q) 0 ⟨Nat.zero_le _, due, by simpa [Ns.sendAll] using hR8, fun z hz => Or.inl hz, fun e he z hz => Or.inl (List.mem_cons_of_mem _ (List.mem_cons_of_mem _ (List.mem_flatMap.2 ⟨e, he, mem_ownB.2 hz⟩))), hk08, hB8, hby8⟩ (by (repeat' (first | exact True.intro | exact rfl | refine And.intro ?_ ?_))) ?_
  rintro j w1 ⟨hj, due1, hR1, hU1, hO1, hK1, hB, hby1⟩
  by_cases hlt : j < later.length
  · have g1 : (j : Int) < (later.length : Int) := by omega
    obtain ⟨ba, oa, rfl, hr⟩ := (hS w1 hK1).at hlt
    obtain ⟨s1, hs1⟩ : ∃ s1, s1 = s.sendAll fr to bs (later.take j) := ⟨_, rfl⟩
    obtain ⟨kk, hkk⟩ : ∃ kk, kk = later[j] := ⟨_, rfl⟩
    rw [← hs1] at hR1
    rw [← hkk] at hr
    have hb0 : badL kk = false := by
      rw [hkk]
      cases hh : badL later[j] with
      | false => rfl
      | true =>
        have : later.any badL = true := List.any_eq_true.2 ⟨_, List.getElem_mem hlt, hh⟩
        rw [h5] at this
        cases this
    have hb1 : 0 ≤ kk ∧ kk ≤ 1000 := by
      simp only [badL, decide_eq_false_iff_not] at hb0
      omega
    have hn1 : s1.now = s.now := by rw [hs1]; rfl
    have hst1 : s1.sent ≤ s.sent + 8 := by
      rw [hs1]
      simp only [Ns.sendAll, List.length_take]
      omega
    have hpl1 : s1.pend.length ≤ 4096 := by
      rw [hs1]
      simp only [Ns.sendAll, List.length_append, List.length_map, List.length_take]
      omega
    have R4 : Row w1 b4 0 [.int .i64 fr, .int .i64 to, .slice a bs.length c] := Row.all hB rfl
    have rn := hR1.r1
    have rs := hR1.r2
    rw [hn1] at rn
    repeat (first|apply CG.seq|apply CG.region|apply SG.nil|apply NG.next|apply CG.skip|apply CG.block|apply CG.ret|apply CG.exit|apply CG.scope|apply NG.ret_then|apply NG.ret_block|apply NG.ret_scope|apply NG.exit_then|refine NG.exit_block rfl ?_|refine NG.exit_other rfl ?_|apply NG.exit_scope|apply NG.normal_block|apply NG.normal_scope|refine SG.val rfl rfl rfl rfl (by first|((first|apply qmv|apply qas|apply qlc|apply qla|apply qfa|apply qnc|apply qic|apply qix|apply qpk|apply qls|apply qei|apply qni|apply qed|apply qnd|apply qad|apply qln|apply qle|apply qgt|apply qge|apply qlk|apply qlv|apply qxt|apply qsb|apply qnt|apply qep|apply qnp|apply qeb|apply qnb|apply qcv|apply qlm|apply qfr|apply qto|apply qmx|apply qen|apply qsn)<;>(first|exact rfl|exact Ar.mk (by omega)|assumption|exact dct (by assumption)|exact dcf (by assumption)|exact dct (by omega)|exact dcf (by omega)|exact List.not_mem_nil|exact dc_length _|exact nc_length _|exact rc_length _ _ _|exact ec_length _|exact nm1 (by omega)|exact nm2 (by omega) (by omega)|exact dct rfl|exact dct (by decide)|exact dcf (by decide)|exact (Int.toNat_of_nonneg (by omega)).symm|exact dcu|exact lk1 (by assumption)|exact lk0 (by assumption)|exact lkb|fail))|fail) ?_)
    refine CG.cond_t rfl (by exact rho_of rfl) rfl ?_
    repeat (first|apply CG.seq|apply CG.region|apply SG.nil|apply NG.next|apply CG.skip|apply CG.block|apply CG.ret|apply CG.exit|apply CG.scope|apply NG.ret_then|apply NG.ret_block|apply NG.ret_scope|apply NG.exit_then|refine NG.exit_block rfl ?_|refine NG.exit_other rfl ?_|apply NG.exit_scope|apply NG.normal_block|apply NG.normal_scope|refine SG.val rfl rfl rfl rfl (by first|((first|apply qmv|apply qas|apply qlc|apply qla|apply qfa|apply qnc|apply qic|apply qix|apply qpk|apply qls|apply qei|apply qni|apply qed|apply qnd|apply qad|apply qln|apply qle|apply qgt|apply qge|apply qlk|apply qlv|apply qxt|apply qsb|apply qnt|apply qep|apply qnp|apply qeb|apply qnb|apply qcv|apply qlm|apply qfr|apply qto|apply qmx|apply qen|apply qsn)<;>(first|exact rfl|exact Ar.mk (by omega)|assumption|exact dct (by assumption)|exact dcf (by assumption)|exact dct (by omega)|exact dcf (by omega)|exact List.not_mem_nil|exact dc_length _|exact nc_length _|exact rc_length _ _ _|exact ec_length _|exact nm1 (by omega)|exact nm2 (by omega) (by omega)|exact dct rfl|exact dct (by decide)|exact dcf (by decide)|exact (Int.toNat_of_nonneg (by omega)).symm|exact dcu|exact lk1 (by assumption)|exact lk0 (by assumption)|exact lkb|fail))|fail) ?_)
    refine CG.drawv mixed [0, 1, 2, 3, 4, 5, 6, 7, 8, 9, 10, 11] [(12, 13, 9, .tmp 68)] (by kernel_rfl) (by kernel_rfl) ?_
    repeat (refine Der.val rfl rfl rfl (by first|((first|apply qmv|apply qas|apply qlc|apply qla|apply qfa|apply qnc|apply qic|apply qix|apply qpk|apply qls|apply qei|apply qni|apply qed|apply qnd|apply qad|apply qln|apply qle|apply qgt|apply qge|apply qlk|apply qlv|apply qxt|apply qsb|apply qnt|apply qep|apply qnp|apply qeb|apply qnb|apply qcv|apply qlm|apply qfr|apply qto|apply qmx|apply qen|apply qsn)<;>(first|exact rfl|exact Ar.mk (by omega)|assumption|exact dct (by assumption)|exact dcf (by assumption)|exact dct (by omega)|exact dcf (by omega)|exact List.not_mem_nil|exact dc_length _|exact nc_length _|exact rc_length _ _ _|exact ec_length _|exact nm1 (by omega)|exact nm2 (by omega) (by omega)|exact dct rfl|exact dct (by decide)|exact dcf (by decide)|exact (Int.toNat_of_nonneg (by omega)).symm|exact dcu|exact lk1 (by assumption)|exact lk0 (by assumption)|exact lkb|fail))|fail) ?_)
    refine Der.val rfl rfl rfl (vals_build rfl (fun w => build77 w fr to a bs.length c s1.sent (s.now + kk))) ?_
    refine Der.one (VrOk.of (by rfl) rfl rfl rfl (by exact rho_of rfl) (by first | exact dc_length _ | exact nc_length _ | exact rc_length _ _ _ | exact ec_length _ | rfl) (by rfl) (by first | exact dc_one _ | exact nc_one _ | exact rc_one _ _ _ | exact ec_one _ | rfl)) (fun b9 w2 hk2 hb9 hB9 => ?_)
    have hR2 := hR1.kp0 hk2
    obtain ⟨k, hk⟩ : ∃ k : I64, k.1 = (s.now : Int) + kk := ⟨⟨(s.now : Int) + kk, by omega, by omega⟩, rfl⟩
    rw [← hk] at hB9 ⊢
    have R9 : Row w2 b9 0 [.int .i64 fr, .int .i64 to, .slice a bs.length c, .int .i64 s1.sent, .int .i64 k.1] := Row.all hB9 rfl
    have R92 : Row w2 b9 4 [.int .i64 k.1] := Row.of hB9 [.int .i64 fr, .int .i64 to, .slice a bs.length c, .int .i64 s1.sent] [] rfl rfl
    have hr4 := hR2.r4
    have hm := hR2.map
    have hown := hR2.own_tick k
    have htl : (tick due1 k).2.length ≤ 4096 := by
      have h := congrArg List.length (hR2.at_ k)
      have e : ((alook due1 k).map (fun q => q.2)).getD [] = (tick due1 k).2 := by
        unfold tick
        cases alook due1 k <;> rfl
      rw [e, List.length_map] at h
      rw [h]
      exact Nat.le_trans (List.length_filter_le _ _) hpl1
    have hSl : ∀ z ∈ ownB (tick due1 k).1, z < w2.heap.size := fun z hz => by
      obtain ⟨cs, hc⟩ := own_blk hown (mem_ownB.1 hz)
      exact hc.lt
    have nbt : bt ∉ ownB (tick due1 k).1 := fun hz => by
      obtain ⟨cs, hc⟩ := own_blk hown (mem_ownB.1 hz)
      exact ne_ty (by decide) hR2.blk hc rfl
    have nbm : bm ∉ ownB (tick due1 k).1 := fun hz => by
      obtain ⟨cs, hc⟩ := own_blk hown (mem_ownB.1 hz)
      obtain ⟨es, ec, hmb⟩ := hm.blk
      exact ne_map hmb hc rfl
    have nb9 : b9 ∉ ownB (tick due1 k).1 := fun hz => by
      obtain ⟨cs, hc⟩ := own_blk (hR1.own_tick k) (mem_ownB.1 hz)
      have := hc.lt
      omega
    have htv : (alook due1 k = none ∧ (tick due1 k).1 = .slice none 0 0) ∨ ∃ q, alook due1 k = some q ∧ (tick due1 k).1 = q.1 := by
      unfold tick
      cases alook due1 k with
      | none => exact Or.inl ⟨rfl, rfl⟩
      | some q => exact Or.inr ⟨q, rfl, rfl⟩
    repeat (first|apply CG.seq|apply CG.region|apply SG.nil|apply NG.next|apply CG.skip|apply CG.block|apply CG.ret|apply CG.exit|apply CG.scope|apply NG.ret_then|apply NG.ret_block|apply NG.ret_scope|apply NG.exit_then|refine NG.exit_block rfl ?_|refine NG.exit_other rfl ?_|apply NG.exit_scope|apply NG.normal_block|apply NG.normal_scope|refine SG.val rfl rfl rfl rfl (by first|((first|apply qmv|apply qas|apply qlc|apply qla|apply qfa|apply qnc|apply qic|apply qix|apply qpk|apply qls|apply qei|apply qni|apply qed|apply qnd|apply qad|apply qln|apply qle|apply qgt|apply qge|apply qlk|apply qlv|apply qxt|apply qsb|apply qnt|apply qep|apply qnp|apply qeb|apply qnb|apply qcv|apply qlm|apply qfr|apply qto|apply qmx|apply qen|apply qsn)<;>(first|exact rfl|exact Ar.mk (by omega)|assumption|exact dct (by assumption)|exact dcf (by assumption)|exact dct (by omega)|exact dcf (by omega)|exact List.not_mem_nil|exact dc_length _|exact nc_length _|exact rc_length _ _ _|exact ec_length _|exact nm1 (by omega)|exact nm2 (by omega) (by omega)|exact dct rfl|exact dct (by decide)|exact dcf (by decide)|exact (Int.toNat_of_nonneg (by omega)).symm|exact dcu|exact lk1 (by assumption)|exact lk0 (by assumption)|exact lkb|fail))|fail) ?_)
    refine CG.tailg mixed 16 [0, 1, 2, 3, 4, 5, 6, 7, 8, 9, 10, 11, 12, 13, 14, 15] [14, 15] (ownB (tick due1 k).1) (fun w => w.ownsRow 0 77 5 (tick due1 k).1 (tick due1 k).2.length (flt pcl (tick due1 k).2)) (by kernel_rfl) hown (fun _ _ hk h => own_kp0 h hk) ?_
    rcases htv with ⟨hlk, htv⟩ | ⟨q, hlk, htv⟩
    all_goals
      repeat (refine Der.val rfl rfl rfl (by first|((first|apply qmv|apply qas|apply qlc|apply qla|apply qfa|apply qnc|apply qic|apply qix|apply qpk|apply qls|apply qei|apply qni|apply qed|apply qnd|apply qad|apply qln|apply qle|apply qgt|apply qge|apply qlk|apply qlv|apply qxt|apply qsb|apply qnt|apply qep|apply qnp|apply qeb|apply qnb|apply qcv|apply qlm|apply qfr|apply qto|apply qmx|apply qen|apply qsn)<;>(first|exact rfl|exact Ar.mk (by omega)|assumption|exact dct (by assumption)|exact dcf (by assumption)|exact dct (by omega)|exact dcf (by omega)|exact List.not_mem_nil|exact dc_length _|exact nc_length _|exact rc_length _ _ _|exact ec_length _|exact nm1 (by omega)|exact nm2 (by omega) (by omega)|exact dct rfl|exact dct (by decide)|exact dcf (by decide)|exact (Int.toNat_of_nonneg (by omega)).symm|exact dcu|exact lk1 (by assumption)|exact lk0 (by assumption)|exact lkb|fail))|fail) ?_)
      refine Der.buildR (cs := #[.int .i64 fr, .int .i64 to, .slice a bs.length c, .int .i64 s1.sent, .int .i64 k.1]) (E := 77) rfl rfl rfl rfl rfl (fun w => bslice77 w fr to a bs.length c s1.sent k.1) hSl (fun _ _ _ _ => trivial) (fun _ _ hk h => own_kp0 h hk) (fun bn => ?_)
      refine Der.appendR (base := 0) (e := 77) (i := Try.t77) (f := ty.i77) (v := (tick due1 k).1) (nn := (tick due1 k).2.length) (xs := flt pcl (tick due1 k).2) (b := bn) (off := 0) (m := 1) (c := 1) (news := [.int .i64 fr, .int .i64 to, .slice a bs.length c, .int .i64 s1.sent, .int .i64 k.1]) rfl rfl rfl rfl (Eq.trans (by exact rho_of rfl) htv.symm) (by exact rho_of rfl) rfl rfl rfl (fun w hk (hF : True ∧ w2.heap.size ≤ bn ∧ Blk w bn (.cells #[.int .i64 fr, .int .i64 to, .slice a bs.length c, .int .i64 s1.sent, .int .i64 k.1] 77)) => Row.all hF.2.2 rfl) rfl rfl (by simp only [maxLen]; omega) (Nat.le_trans (Nat.mul_le_mul_right _ (show _ ≤ 5000 by omega)) (by decide)) (Nat.zero_le _) (fun _ h => h) (fun w w' hk (hF : True ∧ w2.heap.size ≤ bn ∧ Blk w bn (.cells #[.int .i64 fr, .int .i64 to, .slice a bs.length c, .int .i64 s1.sent, .int .i64 k.1] 77)) => ⟨trivial, hF.2.1, hF.2.2.kp hk (fun hm => by have := hSl _ hm; have := hF.2.1; omega)⟩) (fun v' => ?_)
      refine Der.tl (fun w3 hk3 hF hown3 => ?_)
      have hwh := hF.2
      have hm3 := hm.kp hk3 nbm
      refine SG.mapUpdate (enc := iv) (V := fun q : Value × List Pc => q.1) (kx := k) (vy := (v', (tick due1 k).2 ++ [⟨cpOf s fr to bs kk, a, c, s1.sent⟩])) rfl rfl (by exact rho_of rfl) (by exact rho_of rfl) (by exact rho_of rfl) hm3 (i64_key ty.u3.eq) (fun w4 hk4 hm4 => ?_)
      obtain ⟨p, hp⟩ : ∃ p : Pc, p = ⟨cpOf s fr to bs kk, a, c, s1.sent⟩ := ⟨_, rfl⟩
      rw [← hp] at hm4
      have hpd : (p.cp.due : Int) = k.1 := by
        rw [hp, hk]
        show ((s.now + kk.toNat : Nat) : Int) = _
        omega
      have hpl : pcl p = [.int .i64 fr, .int .i64 to, .slice a bs.length c, .int .i64 s1.sent, .int .i64 k.1] := by
        have : pcl p = [.int .i64 p.cp.fr, .int .i64 p.cp.to, .slice p.a p.cp.bs.length p.c, .int .i64 p.sent, .int .i64 p.cp.due] := rfl
        rw [this, hpd, hp]
        rfl
      rw [← hpl] at hown3
      have hBt := (hR2.blk.kp hk3 nbt).kp hk4 (by obtain ⟨es, ec, hmb⟩ := hm.blk; simpa using ne_map hmb hR2.blk)
      have rs := Row.of hBt [.int .i64 s1.parties, .int .i64 s1.now] (l := [.int .i64 s1.sent]) ([.int .i64 s1.pend.length, .map (some bm)] ++ s1.cuts.map .bool) rfl rfl
      repeat (first|apply CG.seq|apply CG.region|apply SG.nil|apply NG.next|apply CG.skip|apply CG.block|apply CG.ret|apply CG.exit|apply CG.scope|apply NG.ret_then|apply NG.ret_block|apply NG.ret_scope|apply NG.exit_then|refine NG.exit_block rfl ?_|refine NG.exit_other rfl ?_|apply NG.exit_scope|apply NG.normal_block|apply NG.normal_scope|refine SG.val rfl rfl rfl rfl (by first|((first|apply qmv|apply qas|apply qlc|apply qla|apply qfa|apply qnc|apply qic|apply qix|apply qpk|apply qls|apply qei|apply qni|apply qed|apply qnd|apply qad|apply qln|apply qle|apply qgt|apply qge|apply qlk|apply qlv|apply qxt|apply qsb|apply qnt|apply qep|apply qnp|apply qeb|apply qnb|apply qcv|apply qlm|apply qfr|apply qto|apply qmx|apply qen|apply qsn)<;>(first|exact rfl|exact Ar.mk (by omega)|assumption|exact dct (by assumption)|exact dcf (by assumption)|exact dct (by omega)|exact dcf (by omega)|exact List.not_mem_nil|exact dc_length _|exact nc_length _|exact rc_length _ _ _|exact ec_length _|exact nm1 (by omega)|exact nm2 (by omega) (by omega)|exact dct rfl|exact dct (by decide)|exact dcf (by decide)|exact (Int.toNat_of_nonneg (by omega)).symm|exact dcu|exact lk1 (by assumption)|exact lk0 (by assumption)|exact lkb|fail))|fail) ?_)
      refine SG.setMid [.int .i64 s1.parties, .int .i64 s1.now] [.int .i64 s1.sent] ([.int .i64 s1.pend.length, .map (some bm)] ++ s1.cuts.map .bool) rfl rfl (by exact rho_of rfl) (by exact rho_of rfl) hBt rfl rfl rfl rfl rfl (fun w5 hk5 hB5 => ?_)
      have rw5 := Row.of hB5 [.int .i64 s1.parties, .int .i64 s1.now, .int .i64 (s1.sent + 1)] (l := [.int .i64 s1.pend.length]) ([.map (some bm)] ++ s1.cuts.map .bool) rfl rfl
      repeat (first|apply CG.seq|apply CG.region|apply SG.nil|apply NG.next|apply CG.skip|apply CG.block|apply CG.ret|apply CG.exit|apply CG.scope|apply NG.ret_then|apply NG.ret_block|apply NG.ret_scope|apply NG.exit_then|refine NG.exit_block rfl ?_|refine NG.exit_other rfl ?_|apply NG.exit_scope|apply NG.normal_block|apply NG.normal_scope|refine SG.val rfl rfl rfl rfl (by first|((first|apply qmv|apply qas|apply qlc|apply qla|apply qfa|apply qnc|apply qic|apply qix|apply qpk|apply qls|apply qei|apply qni|apply qed|apply qnd|apply qad|apply qln|apply qle|apply qgt|apply qge|apply qlk|apply qlv|apply qxt|apply qsb|apply qnt|apply qep|apply qnp|apply qeb|apply qnb|apply qcv|apply qlm|apply qfr|apply qto|apply qmx|apply qen|apply qsn)<;>(first|exact rfl|exact Ar.mk (by omega)|assumption|exact dct (by assumption)|exact dcf (by assumption)|exact dct (by omega)|exact dcf (by omega)|exact List.not_mem_nil|exact dc_length _|exact nc_length _|exact rc_length _ _ _|exact ec_length _|exact nm1 (by omega)|exact nm2 (by omega) (by omega)|exact dct rfl|exact dct (by decide)|exact dcf (by decide)|exact (Int.toNat_of_nonneg (by omega)).symm|exact dcu|exact lk1 (by assumption)|exact lk0 (by assumption)|exact lkb|fail))|fail) ?_)
      refine SG.setMid [.int .i64 s1.parties, .int .i64 s1.now, .int .i64 (s1.sent + 1)] [.int .i64 s1.pend.length] ([.map (some bm)] ++ s1.cuts.map .bool) rfl rfl (by exact rho_of rfl) (by exact rho_of rfl) hB5 rfl rfl rfl rfl rfl (fun w6 hk6 hB6 => ?_)
      repeat (first|apply CG.seq|apply CG.region|apply SG.nil|apply NG.next|apply CG.skip|apply CG.block|apply CG.ret|apply CG.exit|apply CG.scope|apply NG.ret_then|apply NG.ret_block|apply NG.ret_scope|apply NG.exit_then|refine NG.exit_block rfl ?_|refine NG.exit_other rfl ?_|apply NG.exit_scope|apply NG.normal_block|apply NG.normal_scope|refine SG.val rfl rfl rfl rfl (by first|((first|apply qmv|apply qas|apply qlc|apply qla|apply qfa|apply qnc|apply qic|apply qix|apply qpk|apply qls|apply qei|apply qni|apply qed|apply qnd|apply qad|apply qln|apply qle|apply qgt|apply qge|apply qlk|apply qlv|apply qxt|apply qsb|apply qnt|apply qep|apply qnp|apply qeb|apply qnb|apply qcv|apply qlm|apply qfr|apply qto|apply qmx|apply qen|apply qsn)<;>(first|exact rfl|exact Ar.mk (by omega)|assumption|exact dct (by assumption)|exact dcf (by assumption)|exact dct (by omega)|exact dcf (by omega)|exact List.not_mem_nil|exact dc_length _|exact nc_length _|exact rc_length _ _ _|exact ec_length _|exact nm1 (by omega)|exact nm2 (by omega) (by omega)|exact dct rfl|exact dct (by decide)|exact dcf (by decide)|exact (Int.toNat_of_nonneg (by omega)).symm|exact dcu|exact lk1 (by assumption)|exact lk0 (by assumption)|exact lkb|fail))|fail) ?_)
      have hnc : ncl (s1.add p.cp) bm = [.int .i64 s1.parties, .int .i64 s1.now, .int .i64 (s1.sent + 1)] ++ ([.int .i64 (s1.pend.length + 1)] ++ ([.map (some bm)] ++ s1.cuts.map .bool)) := by
        simp [ncl, Ns.add]
      have hB7 : Blk w6 bt (.cells (ncl (s1.add p.cp) bm).toArray 72) := by
        rw [hnc]
        exact hB6
      have hk56 := hk5.trans hk6
      have hby2 := hby1.kp hk2 (by simp)
      have hnew := hR2.put k (p := p) hk3 hown3 hwh (by rw [hp]; exact hby2) hpd (by rw [hp]) hk4 hm4 hk56 hB7
      have hadd : s1.add p.cp = s.sendAll fr to bs (later.take (j + 1)) := by
        rw [hs1, hp, List.take_add_one, List.getElem?_eq_getElem hlt, ← hkk]
        exact Ns.sendAll_add kk
      rw [hadd] at hnew
      have hN2 : w.heap.size ≤ w2.heap.size := Nat.le_trans hK1.size hk2.size
      refine NG.round (j + 1) (by (repeat' (first | exact True.intro | exact rfl | refine And.intro ?_ ?_))) ⟨hlt, _, hnew, fun z hz => ?_, fun e he z hz => ?_, ?_, hR2.put_blk k hk3 hk4 hk56 (by decide) (by decide) (hB.kp0 hk2), hR2.put_by k hk3 hk4 hk56 hby2⟩ (by omega)
      · rcases uses_put hR2 k hN2 hwh (by rw [hp]; intro b off e; have := hab b off e; omega) hz with h | h
        · exact hU1 z h
        · exact Or.inr h
      · rcases mem_aput hm.nodup he with rfl | ⟨he, hek⟩
        · rcases hwh z hz with h | h
          · exact hO1 _ (hR2.own_of h) z h
          · exact Or.inr (by omega)
        · exact hO1 e he z hz
      · refine (((hK1.trans (hk2.any)).trans_new hk3 (fun z hz => ?_)).trans_new hk4 (fun z hz => ?_)).trans_new hk56 (fun z hz => ?_)
        · have hz' := mem_ownB.1 hz
          exact hO1 _ (hR2.own_of hz') z hz'
        · rw [List.mem_singleton] at hz
          subst hz
          exact Or.inl (by simp [sendS])
        · rw [List.mem_singleton] at hz
          subst hz
          exact Or.inl (by simp [sendS])
  · have g1 : ¬ (j : Int) < (later.length : Int) := by omega
    repeat (first|apply CG.seq|apply CG.region|apply SG.nil|apply NG.next|apply CG.skip|apply CG.block|apply CG.ret|apply CG.exit|apply CG.scope|apply NG.ret_then|apply NG.ret_block|apply NG.ret_scope|apply NG.exit_then|refine NG.exit_block rfl ?_|refine NG.exit_other rfl ?_|apply NG.exit_scope|apply NG.normal_block|apply NG.normal_scope|refine SG.val rfl rfl rfl rfl (by first|((first|apply qmv|apply qas|apply qlc|apply qla|apply qfa|apply qnc|apply qic|apply qix|apply qpk|apply qls|apply qei|apply qni|apply qed|apply qnd|apply qad|apply qln|apply qle|apply qgt|apply qge|apply qlk|apply qlv|apply qxt|apply qsb|apply qnt|apply qep|apply qnp|apply qeb|apply qnb|apply qcv|apply qlm|apply qfr|apply qto|apply qmx|apply qen|apply qsn)<;>(first|exact rfl|exact Ar.mk (by omega)|assumption|exact dct (by assumption)|exact dcf (by assumption)|exact dct (by omega)|exact dcf (by omega)|exact List.not_mem_nil|exact dc_length _|exact nc_length _|exact rc_length _ _ _|exact ec_length _|exact nm1 (by omega)|exact nm2 (by omega) (by omega)|exact dct rfl|exact dct (by decide)|exact dcf (by decide)|exact (Int.toNat_of_nonneg (by omega)).symm|exact dcu|exact lk1 (by assumption)|exact lk0 (by assumption)|exact lkb|fail))|fail) ?_)
    refine CG.cond_f rfl (by exact rho_of rfl) rfl ?_
    repeat (first|apply CG.seq|apply CG.region|apply SG.nil|apply NG.next|apply CG.skip|apply CG.block|apply CG.ret|apply CG.exit|apply CG.scope|apply NG.ret_then|apply NG.ret_block|apply NG.ret_scope|apply NG.exit_then|refine NG.exit_block rfl ?_|refine NG.exit_other rfl ?_|apply NG.exit_scope|apply NG.normal_block|apply NG.normal_scope|refine SG.val rfl rfl rfl rfl (by first|((first|apply qmv|apply qas|apply qlc|apply qla|apply qfa|apply qnc|apply qic|apply qix|apply qpk|apply qls|apply qei|apply qni|apply qed|apply qnd|apply qad|apply qln|apply qle|apply qgt|apply qge|apply qlk|apply qlv|apply qxt|apply qsb|apply qnt|apply qep|apply qnp|apply qeb|apply qnb|apply qcv|apply qlm|apply qfr|apply qto|apply qmx|apply qen|apply qsn)<;>(first|exact rfl|exact Ar.mk (by omega)|assumption|exact dct (by assumption)|exact dcf (by assumption)|exact dct (by omega)|exact dcf (by omega)|exact List.not_mem_nil|exact dc_length _|exact nc_length _|exact rc_length _ _ _|exact ec_length _|exact nm1 (by omega)|exact nm2 (by omega) (by omega)|exact dct rfl|exact dct (by decide)|exact dcf (by decide)|exact (Int.toNat_of_nonneg (by omega)).symm|exact dcu|exact lk1 (by assumption)|exact lk0 (by assumption)|exact lkb|fail))|fail) ?_)
    refine ret1 (Or.inl rfl) Try.results13 (by first | exact ResV.tmp rfl | exact ResV.agg rfl rfl (by assumption) (by first | exact dc_length _ | exact nc_length _ | exact rc_length _ _ _ | exact ec_length _ | rfl) | exact ResV.cell rfl rfl (by assumption)) ?_
    have : j = later.length := by omega
    subst this
    rw [List.take_length] at hR1
    exact ⟨due1, rfl, hR1, hU1, hK1⟩
end Go.Proofs.Ytfelaicoedlejaa
/-
  Addresses of an array's elements.
-/
namespace Go.Proofs.Ytfelaicoedlejaa
set_option linter.unusedVariables false

section
variable {P : Program} {S : List Nat} {w0 : World} {F : World → Prop} {L : Env} {d : Option Nat} {ty : TypeId} {pos : String} {af : Array Edge} {g : Option (Nat × Bool)}
theorem vals_ia {T E : TypeId} {n : Nat} [u : Ut P T (.array n E)] {sz : Nat} [f : Sz P E sz] {x y : Operand} {b off : Nat} {k : IntKind} {j : Nat} (hx : rho L x = .pointer (some ⟨b, off, none⟩)) (hy : rho L y = .int k (j : Int)) (h1 : j < n) :
    Vals P S w0 F L ⟨d, .indexAddr T x y, ty, pos, af, g⟩ (.pointer (some ⟨b, off + j * sz, none⟩)) := fun w _ _ => by
  obtain ⟨i, h2, h3⟩ := f.eq
  have h4 : (j : Int) < n := by omega
  subst h3
  simp [execOp, hx, hy, Instr.indexAt, asIntOf, run_underlying u.eq, sizeOf, typeInfo, Instr.sureAddr, h2, h1, add_none]
theorem qia {T E : TypeId} {n : Nat} [u : Ut P T (.array n E)] {sz : Nat} [f : Sz P E sz] {x y : Operand} {b off : Nat} {k : IntKind} {z : Int} {j : Nat} (hx : ro L x = some (.pointer (some ⟨b, off, none⟩))) (hy : ro L y = some (.int k z)) (hz : z = (j : Int)) (h1 : Ar (j < n)) :
    Vals P S w0 F L ⟨d, .indexAddr T x y, ty, pos, af, g⟩ (.pointer (some ⟨b, off + j * sz, none⟩)) := vals_ia (u := u) (f := f) (rho_of hx) (by rw [rho_of hy, hz]) h1.h
end
end Go.Proofs.Ytfelaicoedlejaa
/-
  A tick.
-/
namespace Go.Proofs.Ytfelaicoedlejaa
set_option linter.unusedVariables false

theorem qx0 {S : List Nat} {w0 : World} {F : World → Prop} {L : Env} {d : Option Nat} {ty : TypeId} {pos : String} {af : Array Edge} {g : Option (Nat × Bool)} {T E : TypeId} {n : Nat} [u : Ut Try.prog T (.array n E)] {sz : Nat} [f : Sz Try.prog E sz] {x y : Operand} {b off : Nat} {k : IntKind} {z : Int} {j : Nat} (hx : ro L x = some (.pointer (some ⟨b, off, none⟩))) (hy : ro L y = some (.int k z)) (hz : z = (j : Int)) (h1 : Ar (j < n)) :
    Vals Try.prog S w0 F L ⟨d, .indexAddr T x y, ty, pos, af, g⟩ (.pointer (some ⟨b, off + j * sz, none⟩)) := qia (u := u) (f := f) hx hy hz h1

theorem vals_tick {S : List Nat} {w0 : World} {F : World → Prop} {L : Env} {d : Option Nat} {tt : TypeId} {pos : String} {af : Array Edge} {g : Option (Nat × Bool)} {x y : Operand} {bm : Nat} {due : Due} {k : I64} {v : Value} (hx : ro L x = some (.map (some bm))) (hy : ro L y = some (iv k)) (h : MapIs w0 bm iv (fun q : Value × List Pc => q.1) due) (hv : (tick due k).1 = v) (hb : bm ∉ S) :
    Vals Try.prog S w0 F L ⟨d, .lookup 68 x y false, tt, pos, af, g⟩ v := by
  subst hv
  unfold tick
  cases hh : alook due k with
  | none => exact vals_lookv0 (V := fun q : Value × List Pc => q.1) (f := ty.i78) (rho_of hx) (rho_of hy) h hb (i64_key ty.u3.eq) rfl hh
  | some q => exact vals_lookv1 (V := fun q : Value × List Pc => q.1) (f := ty.i78) (z := .slice none 0 0) (rho_of hx) (rho_of hy) h hb (i64_key ty.u3.eq) rfl hh

/-- A letter in memory. -/
structure Lt where
  fr : Nat
  to : Nat
  bs : List UInt8
  a : Option Addr
  c : Nat
def lcl (l : Lt) : List Value := [.int .i64 l.fr, .int .i64 l.to, .slice l.a l.bs.length l.c]
theorem lcl_length (l : Lt) : (lcl l).length = 3 := rfl
def Ns.cutAt (s : Ns) (f t : Nat) : Bool := (s.cuts[f * 16 + t]?).getD false
def Ns.come (s : Ns) : List Cp := s.pend.filter (fun c => decide ((c.due : Int) = s.now))
def Ns.open_ (s : Ns) (l : List Cp) : List Cp := l.filter (fun c => !s.cutAt c.fr c.to)
def Ns.step (s : Ns) : Ns := { s with now := s.now + 1, pend := s.pend.filter (fun c => !decide ((c.due : Int) = s.now)), nums := ((s.pend.zip s.nums).filter (fun c => !decide ((c.1.due : Int) = s.now))).map (fun c => c.2) }
def ltc (l : Lt) : Nat × Nat × List UInt8 := (l.fr, l.to, l.bs)
def cpc (c : Cp) : Nat × Nat × List UInt8 := (c.fr, c.to, c.bs)
theorem bslice35 (w : World) (fr to : Int) (a : Option Addr) (n c : Nat) : (Instr.buildSlice 36 1 [(0, Value.agg #[.int .i64 fr, .int .i64 to, .slice a n c])].toArray).run Try.prog w = .ok (.slice (some ⟨w.heap.size, 0, none⟩) 1 1) { w with heap := w.heap.push (.cells #[.int .i64 fr, .int .i64 to, .slice a n c] 35) } := by kernel_rfl

theorem Rep.cut {w : World} {bt bm : Nat} {s : Ns} {due : Due} (h : Rep w bt bm s due) {f t : Nat} (hf : f < 16) (ht : t < 16) : Row w bt (5 + f * 16 + t * 1) [.bool (s.cutAt f t)] := by
  have hl := h.cl
  have hi : f * 16 + t < s.cuts.length := by omega
  refine Row.of h.blk ([.int .i64 s.parties, .int .i64 s.now, .int .i64 s.sent, .int .i64 s.pend.length, .map (some bm)] ++ (s.cuts.take (f * 16 + t)).map .bool) ((s.cuts.drop (f * 16 + t + 1)).map .bool) ?_ ?_
  · have e : s.cuts.map Value.bool = (s.cuts.take (f * 16 + t)).map .bool ++ ([.bool (s.cutAt f t)] ++ (s.cuts.drop (f * 16 + t + 1)).map .bool) := by
      have : s.cuts = s.cuts.take (f * 16 + t) ++ ([s.cutAt f t] ++ s.cuts.drop (f * 16 + t + 1)) := by
        unfold Ns.cutAt
        rw [List.getElem?_eq_getElem hi]
        simp
      conv => lhs; rw [this]
      simp only [List.map_append, List.map_cons, List.map_nil]
    simp only [ncl]
    rw [e]
    simp
  · simp
    omega

theorem ByAt.kpo {w w' : World} {base n sz : Nat} {T : TypeId} {v : Value} {xs : List Value} (ho : w.ownsRow base T sz v n xs) (hT : T ≠ 5) (hk : Kp (ownB v) w w') {a : Option Addr} {l : List UInt8} (h : ByAt w a l) : ByAt w' a l := fun i u hu => by
  obtain ⟨b, off, cs', e1, e2, e3⟩ := h i u hu
  refine ⟨b, off, cs', e1, e2.kp hk (fun hm => ?_), e3⟩
  obtain ⟨cs, hc⟩ := own_blk ho (mem_ownB.1 hm)
  exact ne_ty hT hc e2 rfl
theorem alook_filter {κ ν : Type} [DecidableEq κ] (m : List (κ × ν)) (x z : κ) : alook (m.filter (fun p => decide (p.1 ≠ x))) z = if z = x then none else alook m z := by
  induction m with
  | nil => simp [alook]
  | cons p m ih =>
    obtain ⟨k, v⟩ := p
    by_cases h1 : k = x
    · subst h1
      rw [List.filter_cons_of_neg (by simp), ih]
      by_cases h2 : z = k
      · rw [if_pos h2, if_pos h2]
      · rw [if_neg h2, if_neg h2]
        simp only [alook]
        rw [if_neg (fun e => h2 e.symm)]
    · rw [List.filter_cons_of_pos (by simpa using h1)]
      simp only [alook]
      by_cases h3 : k = z
      · subst h3
        rw [if_pos rfl, if_neg h1, if_pos rfl]
      · rw [if_neg h3, ih, if_neg h3]
theorem len_filter {α : Type} (q : α → Bool) (l : List α) : (l.filter q).length + (l.filter (fun x => !q x)).length = l.length := by
  induction l with
  | nil => rfl
  | cons x l ih =>
    cases h : q x <;> simp [h] <;> omega
theorem zip_self {α β : Type} : ∀ L : List (α × β), (L.map (fun c => c.1)).zip (L.map (fun c => c.2)) = L
  | [] => rfl
  | (a, b) :: L => by simp [zip_self L]
theorem step_pend {s : Ns} (h : s.nums.length = s.pend.length) : s.step.pend = ((s.pend.zip s.nums).filter (fun c => !decide ((c.1.due : Int) = s.now))).map (fun c => c.1) := by
  have hz : (s.pend.zip s.nums).map (fun c => c.1) = s.pend := List.map_fst_zip (by omega)
  show s.pend.filter _ = _
  conv => lhs; rw [← hz]
  rw [List.filter_map]
  rfl
theorem step_zip {s : Ns} (h : s.nums.length = s.pend.length) : s.step.pend.zip s.step.nums = (s.pend.zip s.nums).filter (fun c => !decide ((c.1.due : Int) = s.now)) := by
  rw [step_pend h]
  exact zip_self _
theorem Rep.del {w w1 w2 : World} {bt bm : Nat} {s : Ns} {due : Due} (h : Rep w bt bm s due) (k : I64) (hk : k.1 = (s.now : Int)) (hk1 : Kp [bm] w w1) (hm1 : MapIs w1 bm iv (fun q : Value × List Pc => q.1) (due.filter (fun p => decide (p.1 ≠ k)))) (hk2 : Kp [bt] w1 w2) (hB : Blk w2 bt (.cells (ncl s.step bm).toArray 72)) :
    Rep w2 bt bm s.step (due.filter (fun p => decide (p.1 ≠ k))) := by
  obtain ⟨es, ec, hmb⟩ := h.map.blk
  have hne : bt ≠ bm := ne_map hmb h.blk
  have cells : ∀ {z : Nat} {cs : Array Value} {T : TypeId}, T ≠ 72 → Blk w z (.cells cs T) → z ∉ [bm] ∧ z ∉ [bt] := fun {z cs T} hT hz => by
    have n1 := ne_map hmb hz
    have n2 := ne_ty (fun e => hT e.symm) h.blk hz
    exact ⟨by simpa using n1, by simpa using n2⟩
  refine ⟨hB, h.cl, hm1.kp hk2 (by simpa using hne.symm), fun e he => ?_, fun e he e' he' => h.sep e (List.mem_filter.1 he).1 e' (List.mem_filter.1 he').1, fun e he p hp i u hu => ?_, fun k' => ?_, by rw [step_pend h.nl]; simp [Ns.step], fun k' => ?_⟩
  · have ho := h.own e (List.mem_filter.1 he).1
    refine own_kp (own_kp ho hk1 (fun b hb => ?_)) hk2 (fun b hb => ?_)
    · obtain ⟨cs, hc⟩ := own_blk ho hb
      exact (cells (by decide) hc).1
    · obtain ⟨cs, hc⟩ := own_blk ho hb
      exact (cells (by decide) hc).2
  · obtain ⟨b, off, cs, e1, e2, e3⟩ := h.byt e (List.mem_filter.1 he).1 p hp i u hu
    have hn := cells (by decide) e2
    exact ⟨b, off, cs, e1, (e2.kp hk1 hn.1).kp hk2 hn.2, e3⟩
  · rw [alook_filter]
    have hat := h.at_ k'
    simp only [Ns.step, List.filter_filter]
    by_cases e : k' = k
    · rw [if_pos e]
      symm
      apply List.filter_eq_nil_iff.2
      intro c _
      rw [e, hk]
      simp
    · rw [if_neg e, hat]
      apply List.filter_congr
      intro c _
      have hne' : k'.1 ≠ (s.now : Int) := fun h => e (Subtype.ext (by rw [h, hk]))
      by_cases h1 : (c.due : Int) = k'.1
      · have : ¬ (c.due : Int) = (s.now : Int) := by omega
        simp only [h1] at this ⊢
        simp [this]
      · simp [h1]
  · rw [alook_filter, step_zip h.nl]
    have hat := h.num k'
    rw [List.filter_filter]
    by_cases e : k' = k
    · rw [if_pos e]
      symm
      apply List.filter_eq_nil_iff.2
      intro c _
      rw [e, hk]
      simp
    · rw [if_neg e, hat]
      apply List.filter_congr
      intro c _
      have hne' : k'.1 ≠ (s.now : Int) := fun h => e (Subtype.ext (by rw [h, hk]))
      by_cases h1 : (c.1.due : Int) = k'.1
      · simp [h1, hne']
      · simp [h1]

theorem uses_del {bt bm : Nat} {due : Due} {q : I64 × (Value × List Pc) → Bool} {z : Nat} (h : Uses bt bm (due.filter q) z) : Uses bt bm due z := by
  rcases h with h | h | ⟨e, he, h⟩ | ⟨e, he, p, hp, h⟩
  · exact Or.inl h
  · exact Or.inr (Or.inl h)
  · exact Or.inr (Or.inr (Or.inl ⟨e, (List.mem_filter.1 he).1, h⟩))
  · exact Or.inr (Or.inr (Or.inr ⟨e, (List.mem_filter.1 he).1, p, hp, h⟩))

attribute [local irreducible] CG NG SG Vals Der Row Blk MapIs IterAt DerX
set_option maxHeartbeats 8000000 in
theorem step_spec {w : World} {bt bm : Nat} {s : Ns} {due : Due} (hR : Rep w bt bm s due) (hnow : s.now ≤ 1000000000000) (hpl : s.pend.length ≤ 4096) (hin : ∀ c ∈ s.pend, c.fr < 16 ∧ c.to < 16 ∧ c.bs.length ≤ 65536) : Calls Try.prog 14 #[.pointer (some ⟨bt, 0, none⟩)] w (fun e w' => ∃ v due' ls, e = .returned v ∧ w'.ownsRow w.heap.size 35 3 v ls.length (flt lcl ls) ∧ ls.map ltc = (s.open_ s.come).map cpc
    ∧ (∀ l ∈ ls, ByAt w' l.a l.bs ∧ ∀ b off, l.a = some ⟨b, off, none⟩ → w.heap.size ≤ b) ∧ Rep w' bt bm s.step due' ∧ (∀ z, Uses bt bm due' z → Uses bt bm due z) ∧ Kp [bt, bm] w w') := by
  obtain ⟨k, hk⟩ : ∃ k : I64, k.1 = (s.now : Int) := ⟨⟨(s.now : Int), by omega, by omega⟩, rfl⟩
  have hown := hR.own_tick k
  have htc : (tick due k).2.map (·.cp) = s.come := by
    have h := hR.at_ k
    have e : ((alook due k).map (fun q => q.2)).getD [] = (tick due k).2 := by
      unfold tick
      cases alook due k <;> rfl
    rw [e, hk] at h
    exact h
  have htl : (tick due k).2.length ≤ s.pend.length := by
    have h := congrArg List.length htc
    rw [List.length_map] at h
    rw [h]
    exact List.length_filter_le _ _
  obtain ⟨tl, htl0⟩ : ∃ tl, tl = (tick due k).2 := ⟨_, rfl⟩
  have htin : ∀ p ∈ tl, p.cp.fr < 16 ∧ p.cp.to < 16 ∧ p.cp.bs.length ≤ 65536 ∧ ByAt w p.a p.cp.bs := fun p hp => by
    rw [htl0] at hp
    have h1 : p.cp ∈ s.come := by rw [← htc]; exact List.mem_map.2 ⟨p, hp, rfl⟩
    have h2 := hin _ (List.mem_filter.1 h1).1
    refine ⟨h2.1, h2.2.1, h2.2.2, ?_⟩
    unfold tick at hp
    cases hh : alook due k with
    | none => rw [hh] at hp; cases hp
    | some q => rw [hh] at hp; exact hR.byt (k, q) (alook_mem hh) p hp
  have htv : (alook due k = none ∧ (tick due k).1 = .slice none 0 0) ∨ ∃ q, alook due k = some q ∧ (tick due k).1 = q.1 := by
    unfold tick
    cases alook due k with
    | none => exact Or.inl ⟨rfl, rfl⟩
    | some q => exact Or.inr ⟨q, rfl, rfl⟩
  obtain ⟨ta, tc, htv1, htS⟩ := SlF.own pcl_length hown rfl
  rw [← htl0] at htv1 htS htc htl
  refine enter1 Try.func14 rfl Try.ntmps14 rfl ?_
  have hr1 := hR.r1
  have hr4 := hR.r4
  have hm := hR.map
  rw [← hk] at hr1
  repeat (first|apply CG.seq|apply CG.region|apply SG.nil|apply NG.next|apply CG.skip|apply CG.block|apply CG.ret|apply CG.exit|apply CG.scope|apply NG.ret_then|apply NG.ret_block|apply NG.ret_scope|apply NG.exit_then|refine NG.exit_block rfl ?_|refine NG.exit_other rfl ?_|apply NG.exit_scope|apply NG.normal_block|apply NG.normal_scope|refine SG.val rfl rfl rfl rfl (by first|((first|apply qmv|apply qas|apply qlc|apply qla|apply qfa|apply qnc|apply qic|apply qix|apply qpk|apply qls|apply qei|apply qni|apply qed|apply qnd|apply qad|apply qln|apply qle|apply qgt|apply qge|apply qlk|apply qlv|apply qxt|apply qsb|apply qnt|apply qep|apply qnp|apply qeb|apply qnb|apply qcv|apply qlm|apply qfr|apply qto|apply qmx|apply qen|apply qsn|apply qx0)<;>(first|exact rfl|exact Ar.mk (by omega)|assumption|exact dct (by assumption)|exact dcf (by assumption)|exact dct (by omega)|exact dcf (by omega)|exact List.not_mem_nil|exact dc_length _|exact nc_length _|exact rc_length _ _ _|exact ec_length _|exact nm1 (by omega)|exact nm2 (by omega) (by omega)|exact dct rfl|exact dct (by decide)|exact dcf (by decide)|exact (Int.toNat_of_nonneg (by omega)).symm|exact dcu|exact lk1 (by assumption)|exact lk0 (by assumption)|exact lkb|fail))|fail) ?_)
  refine CG.cond_f rfl (by exact rho_of rfl) rfl ?_
  repeat (first|apply CG.seq|apply CG.region|apply SG.nil|apply NG.next|apply CG.skip|apply CG.block|apply CG.ret|apply CG.exit|apply CG.scope|apply NG.ret_then|apply NG.ret_block|apply NG.ret_scope|apply NG.exit_then|refine NG.exit_block rfl ?_|refine NG.exit_other rfl ?_|apply NG.exit_scope|apply NG.normal_block|apply NG.normal_scope|refine SG.val rfl rfl rfl rfl (by first|((first|apply qmv|apply qas|apply qlc|apply qla|apply qfa|apply qnc|apply qic|apply qix|apply qpk|apply qls|apply qei|apply qni|apply qed|apply qnd|apply qad|apply qln|apply qle|apply qgt|apply qge|apply qlk|apply qlv|apply qxt|apply qsb|apply qnt|apply qep|apply qnp|apply qeb|apply qnb|apply qcv|apply qlm|apply qfr|apply qto|apply qmx|apply qen|apply qsn|apply qx0)<;>(first|exact rfl|exact Ar.mk (by omega)|assumption|exact dct (by assumption)|exact dcf (by assumption)|exact dct (by omega)|exact dcf (by omega)|exact List.not_mem_nil|exact dc_length _|exact nc_length _|exact rc_length _ _ _|exact ec_length _|exact nm1 (by omega)|exact nm2 (by omega) (by omega)|exact dct rfl|exact dct (by decide)|exact dcf (by decide)|exact (Int.toNat_of_nonneg (by omega)).symm|exact dcu|exact lk1 (by assumption)|exact lk0 (by assumption)|exact lkb|fail))|fail) ?_)
  refine CG.draw0 mixed [0, 1, 2, 3, 4, 5, 6, 7, 8, 9] [] (by kernel_rfl) ?_
  repeat (refine Der.val rfl rfl rfl (by first|((first|apply qmv|apply qas|apply qlc|apply qla|apply qfa|apply qnc|apply qic|apply qix|apply qpk|apply qls|apply qei|apply qni|apply qed|apply qnd|apply qad|apply qln|apply qle|apply qgt|apply qge|apply qlk|apply qlv|apply qxt|apply qsb|apply qnt|apply qep|apply qnp|apply qeb|apply qnb|apply qcv|apply qlm|apply qfr|apply qto|apply qmx|apply qen|apply qsn|apply qx0)<;>(first|exact rfl|exact Ar.mk (by omega)|assumption|exact dct (by assumption)|exact dcf (by assumption)|exact dct (by omega)|exact dcf (by omega)|exact List.not_mem_nil|exact dc_length _|exact nc_length _|exact rc_length _ _ _|exact ec_length _|exact nm1 (by omega)|exact nm2 (by omega) (by omega)|exact dct rfl|exact dct (by decide)|exact dcf (by decide)|exact (Int.toNat_of_nonneg (by omega)).symm|exact dcu|exact lk1 (by assumption)|exact lk0 (by assumption)|exact lkb|fail))|fail) ?_)
  refine Der.val rfl rfl rfl (vals_tick (k := k) rfl rfl hm htv1 List.not_mem_nil) ?_
  repeat (refine Der.val rfl rfl rfl (by first|((first|apply qmv|apply qas|apply qlc|apply qla|apply qfa|apply qnc|apply qic|apply qix|apply qpk|apply qls|apply qei|apply qni|apply qed|apply qnd|apply qad|apply qln|apply qle|apply qgt|apply qge|apply qlk|apply qlv|apply qxt|apply qsb|apply qnt|apply qep|apply qnp|apply qeb|apply qnb|apply qcv|apply qlm|apply qfr|apply qto|apply qmx|apply qen|apply qsn|apply qx0)<;>(first|exact rfl|exact Ar.mk (by omega)|assumption|exact dct (by assumption)|exact dcf (by assumption)|exact dct (by omega)|exact dcf (by omega)|exact List.not_mem_nil|exact dc_length _|exact nc_length _|exact rc_length _ _ _|exact ec_length _|exact nm1 (by omega)|exact nm2 (by omega) (by omega)|exact dct rfl|exact dct (by decide)|exact dcf (by decide)|exact (Int.toNat_of_nonneg (by omega)).symm|exact dcu|exact lk1 (by assumption)|exact lk0 (by assumption)|exact lkb|fail))|fail) ?_)
  refine Der.fin (fun w1 hk1 _ _ => ?_)
  repeat (first|apply CG.seq|apply CG.region|apply SG.nil|apply NG.next|apply CG.skip|apply CG.block|apply CG.ret|apply CG.exit|apply CG.scope|apply NG.ret_then|apply NG.ret_block|apply NG.ret_scope|apply NG.exit_then|refine NG.exit_block rfl ?_|refine NG.exit_other rfl ?_|apply NG.exit_scope|apply NG.normal_block|apply NG.normal_scope|refine SG.val rfl rfl rfl rfl (by first|((first|apply qmv|apply qas|apply qlc|apply qla|apply qfa|apply qnc|apply qic|apply qix|apply qpk|apply qls|apply qei|apply qni|apply qed|apply qnd|apply qad|apply qln|apply qle|apply qgt|apply qge|apply qlk|apply qlv|apply qxt|apply qsb|apply qnt|apply qep|apply qnp|apply qeb|apply qnb|apply qcv|apply qlm|apply qfr|apply qto|apply qmx|apply qen|apply qsn|apply qx0)<;>(first|exact rfl|exact Ar.mk (by omega)|assumption|exact dct (by assumption)|exact dcf (by assumption)|exact dct (by omega)|exact dcf (by omega)|exact List.not_mem_nil|exact dc_length _|exact nc_length _|exact rc_length _ _ _|exact ec_length _|exact nm1 (by omega)|exact nm2 (by omega) (by omega)|exact dct rfl|exact dct (by decide)|exact dcf (by decide)|exact (Int.toNat_of_nonneg (by omega)).symm|exact dcu|exact lk1 (by assumption)|exact lk0 (by assumption)|exact lkb|fail))|fail) ?_)
  refine CG.label ?_
  repeat (first|apply CG.seq|apply CG.region|apply SG.nil|apply NG.next|apply CG.skip|apply CG.block|apply CG.ret|apply CG.exit|apply CG.scope|apply NG.ret_then|apply NG.ret_block|apply NG.ret_scope|apply NG.exit_then|refine NG.exit_block rfl ?_|refine NG.exit_other rfl ?_|apply NG.exit_scope|apply NG.normal_block|apply NG.normal_scope|refine SG.val rfl rfl rfl rfl (by first|((first|apply qmv|apply qas|apply qlc|apply qla|apply qfa|apply qnc|apply qic|apply qix|apply qpk|apply qls|apply qei|apply qni|apply qed|apply qnd|apply qad|apply qln|apply qle|apply qgt|apply qge|apply qlk|apply qlv|apply qxt|apply qsb|apply qnt|apply qep|apply qnp|apply qeb|apply qnb|apply qcv|apply qlm|apply qfr|apply qto|apply qmx|apply qen|apply qsn|apply qx0)<;>(first|exact rfl|exact Ar.mk (by omega)|assumption|exact dct (by assumption)|exact dcf (by assumption)|exact dct (by omega)|exact dcf (by omega)|exact List.not_mem_nil|exact dc_length _|exact nc_length _|exact rc_length _ _ _|exact ec_length _|exact nm1 (by omega)|exact nm2 (by omega) (by omega)|exact dct rfl|exact dct (by decide)|exact dcf (by decide)|exact (Int.toNat_of_nonneg (by omega)).symm|exact dcu|exact lk1 (by assumption)|exact lk0 (by assumption)|exact lkb|fail))|fail) ?_)
  refine CG.loop (X := Nat × Value) (fun q => [(0, .pointer (some ⟨bt, 0, none⟩)), (3, q.2), (4, .slice ta tl.length tc), (19, .slice ta tl.length tc), (20, .int .i64 tl.length), (21, .int .i64 (q.1 : Int))])
    (fun q w' => q.1 ≤ tl.length ∧ ∃ ls : List Lt, ls.length ≤ q.1 ∧ w'.ownsRow w.heap.size 35 3 q.2 ls.length (flt lcl ls) ∧ ls.map ltc = (s.open_ ((tl.take q.1).map (·.cp))).map cpc ∧ (∀ l ∈ ls, ByAt w' l.a l.bs ∧ ∀ b off, l.a = some ⟨b, off, none⟩ → w.heap.size ≤ b) ∧ Kp [] w w')
    (fun q => tl.length - q.1) (0, .slice none 0 0) ⟨Nat.zero_le _, [], Nat.le_refl _, own_nil, rfl, by simp, hk1⟩ (by (repeat' (first | exact True.intro | exact rfl | refine And.intro ?_ ?_))) ?_
  rintro ⟨i, v⟩ w2 ⟨hi, ls, hlen, hv, hls, hlb, hk2⟩
  refine CG.to [(0, .pointer (some ⟨bt, 0, none⟩)), (3, v), (4, .slice ta tl.length tc), (19, .slice ta tl.length tc), (20, .int .i64 tl.length), (21, .int .i64 (i : Int))] (by (repeat' (first | exact True.intro | exact rfl | refine And.intro ?_ ?_))) ?_
  have hi : i ≤ tl.length := hi
  have hR2 := hR.kp0 hk2
  by_cases hlt : i < tl.length
  · have g1 : (i : Int) < (tl.length : Int) := by omega
    obtain ⟨ba, oa, rfl, hr⟩ := (htS.sl.kp0 hk2).at hlt
    obtain ⟨p, hp⟩ : ∃ p, p = tl[i] := ⟨_, rfl⟩
    rw [← hp] at hr
    have hpm : p ∈ tl := by rw [hp]; exact List.getElem_mem hlt
    obtain ⟨hp1, hp2, hp3, hp4⟩ := htin p hpm
    have hr : Row w2 ba (oa + i * 5) [.int .i64 p.cp.fr, .int .i64 p.cp.to, .slice p.a p.cp.bs.length p.c, .int .i64 p.sent, .int .i64 p.cp.due] := hr
    repeat (first|apply CG.seq|apply CG.region|apply SG.nil|apply NG.next|apply CG.skip|apply CG.block|apply CG.ret|apply CG.exit|apply CG.scope|apply NG.ret_then|apply NG.ret_block|apply NG.ret_scope|apply NG.exit_then|refine NG.exit_block rfl ?_|refine NG.exit_other rfl ?_|apply NG.exit_scope|apply NG.normal_block|apply NG.normal_scope|refine SG.val rfl rfl rfl rfl (by first|((first|apply qmv|apply qas|apply qlc|apply qla|apply qfa|apply qnc|apply qic|apply qix|apply qpk|apply qls|apply qei|apply qni|apply qed|apply qnd|apply qad|apply qln|apply qle|apply qgt|apply qge|apply qlk|apply qlv|apply qxt|apply qsb|apply qnt|apply qep|apply qnp|apply qeb|apply qnb|apply qcv|apply qlm|apply qfr|apply qto|apply qmx|apply qen|apply qsn|apply qx0)<;>(first|exact rfl|exact Ar.mk (by omega)|assumption|exact dct (by assumption)|exact dcf (by assumption)|exact dct (by omega)|exact dcf (by omega)|exact List.not_mem_nil|exact dc_length _|exact nc_length _|exact rc_length _ _ _|exact ec_length _|exact nm1 (by omega)|exact nm2 (by omega) (by omega)|exact dct rfl|exact dct (by decide)|exact dcf (by decide)|exact (Int.toNat_of_nonneg (by omega)).symm|exact dcu|exact lk1 (by assumption)|exact lk0 (by assumption)|exact lkb|fail))|fail) ?_)
    refine CG.cond_t rfl (by exact rho_of rfl) rfl ?_
    repeat (first|apply CG.seq|apply CG.region|apply SG.nil|apply NG.next|apply CG.skip|apply CG.block|apply CG.ret|apply CG.exit|apply CG.scope|apply NG.ret_then|apply NG.ret_block|apply NG.ret_scope|apply NG.exit_then|refine NG.exit_block rfl ?_|refine NG.exit_other rfl ?_|apply NG.exit_scope|apply NG.normal_block|apply NG.normal_scope|refine SG.val rfl rfl rfl rfl (by first|((first|apply qmv|apply qas|apply qlc|apply qla|apply qfa|apply qnc|apply qic|apply qix|apply qpk|apply qls|apply qei|apply qni|apply qed|apply qnd|apply qad|apply qln|apply qle|apply qgt|apply qge|apply qlk|apply qlv|apply qxt|apply qsb|apply qnt|apply qep|apply qnp|apply qeb|apply qnb|apply qcv|apply qlm|apply qfr|apply qto|apply qmx|apply qen|apply qsn|apply qx0)<;>(first|exact rfl|exact Ar.mk (by omega)|assumption|exact dct (by assumption)|exact dcf (by assumption)|exact dct (by omega)|exact dcf (by omega)|exact List.not_mem_nil|exact dc_length _|exact nc_length _|exact rc_length _ _ _|exact ec_length _|exact nm1 (by omega)|exact nm2 (by omega) (by omega)|exact dct rfl|exact dct (by decide)|exact dcf (by decide)|exact (Int.toNat_of_nonneg (by omega)).symm|exact dcu|exact lk1 (by assumption)|exact lk0 (by assumption)|exact lkb|fail))|fail) ?_)
    refine SG.alloc rfl rfl rfl (fun b6 w3 hk3 hb6 hB6 => ?_)
    refine SG.setAll (old := [.int .i64 0, .int .i64 0, .slice none 0 0, .int .i64 0, .int .i64 0]) rfl rfl (by exact rho_of rfl) (by exact rho_of rfl) hB6 rfl rfl rfl (fun w4 hk4 hB6 => ?_)
    have hk34 : Kp [] w2 w4 := hk3.trans_new hk4 (by first | exact new1 (by omega) | exact new2 (by omega) (by omega))
    have hk04 := hk2.trans hk34
    have hR4 := hR.kp0 hk04
    have hcut := hR4.cut hp1 hp2
    have q0 : Row w4 b6 0 [.int .i64 p.cp.fr] := Row.of hB6 [] [.int .i64 p.cp.to, .slice p.a p.cp.bs.length p.c, .int .i64 p.sent, .int .i64 p.cp.due] rfl rfl
    have q1 : Row w4 b6 1 [.int .i64 p.cp.to] := Row.of hB6 [.int .i64 p.cp.fr] [.slice p.a p.cp.bs.length p.c, .int .i64 p.sent, .int .i64 p.cp.due] rfl rfl
    have q2 : Row w4 b6 2 [.slice p.a p.cp.bs.length p.c] := Row.of hB6 [.int .i64 p.cp.fr, .int .i64 p.cp.to] [.int .i64 p.sent, .int .i64 p.cp.due] rfl rfl
    have q3 : Row w4 b6 0 [.int .i64 p.cp.fr, .int .i64 p.cp.to, .slice p.a p.cp.bs.length p.c] := Row.of hB6 [] [.int .i64 p.sent, .int .i64 p.cp.due] rfl rfl
    repeat (first|apply CG.seq|apply CG.region|apply SG.nil|apply NG.next|apply CG.skip|apply CG.block|apply CG.ret|apply CG.exit|apply CG.scope|apply NG.ret_then|apply NG.ret_block|apply NG.ret_scope|apply NG.exit_then|refine NG.exit_block rfl ?_|refine NG.exit_other rfl ?_|apply NG.exit_scope|apply NG.normal_block|apply NG.normal_scope|refine SG.val rfl rfl rfl rfl (by first|((first|apply qmv|apply qas|apply qlc|apply qla|apply qfa|apply qnc|apply qic|apply qix|apply qpk|apply qls|apply qei|apply qni|apply qed|apply qnd|apply qad|apply qln|apply qle|apply qgt|apply qge|apply qlk|apply qlv|apply qxt|apply qsb|apply qnt|apply qep|apply qnp|apply qeb|apply qnb|apply qcv|apply qlm|apply qfr|apply qto|apply qmx|apply qen|apply qsn|apply qx0)<;>(first|exact rfl|exact Ar.mk (by omega)|assumption|exact dct (by assumption)|exact dcf (by assumption)|exact dct (by omega)|exact dcf (by omega)|exact List.not_mem_nil|exact dc_length _|exact nc_length _|exact rc_length _ _ _|exact ec_length _|exact nm1 (by omega)|exact nm2 (by omega) (by omega)|exact dct rfl|exact dct (by decide)|exact dcf (by decide)|exact (Int.toNat_of_nonneg (by omega)).symm|exact dcu|exact lk1 (by assumption)|exact lk0 (by assumption)|exact lkb|fail))|fail) ?_)
    refine CG.draw0 mixed [0, 1, 2, 3, 4, 5, 6, 7, 8, 9, 10, 11] [] (by kernel_rfl) ?_
    repeat (refine Der.val rfl rfl rfl (by first|((first|apply qmv|apply qas|apply qlc|apply qla|apply qfa|apply qnc|apply qic|apply qix|apply qpk|apply qls|apply qei|apply qni|apply qed|apply qnd|apply qad|apply qln|apply qle|apply qgt|apply qge|apply qlk|apply qlv|apply qxt|apply qsb|apply qnt|apply qep|apply qnp|apply qeb|apply qnb|apply qcv|apply qlm|apply qfr|apply qto|apply qmx|apply qen|apply qsn|apply qx0)<;>(first|exact rfl|exact Ar.mk (by omega)|assumption|exact dct (by assumption)|exact dcf (by assumption)|exact dct (by omega)|exact dcf (by omega)|exact List.not_mem_nil|exact dc_length _|exact nc_length _|exact rc_length _ _ _|exact ec_length _|exact nm1 (by omega)|exact nm2 (by omega) (by omega)|exact dct rfl|exact dct (by decide)|exact dcf (by decide)|exact (Int.toNat_of_nonneg (by omega)).symm|exact dcu|exact lk1 (by assumption)|exact lk0 (by assumption)|exact lkb|fail))|fail) ?_)
    refine Der.fin (fun w5 hk5 _ _ => ?_)
    have hk05 := hk04.trans hk5
    have hv5 := own_kp0 (own_kp0 hv hk34) hk5
    have hlb5 : ∀ l ∈ ls, ByAt w5 l.a l.bs ∧ ∀ b off, l.a = some ⟨b, off, none⟩ → w.heap.size ≤ b := fun l hl => ⟨((hlb l hl).1.kp hk34 (by simp)).kp hk5 (by simp), (hlb l hl).2⟩
    have hto : (tl.take (i + 1)).map (·.cp) = (tl.take i).map (·.cp) ++ [p.cp] := by
      rw [List.take_add_one, List.getElem?_eq_getElem hlt, ← hp]
      simp
    cases hc : s.cutAt p.cp.fr p.cp.to with
    | true =>
      repeat (first|apply CG.seq|apply CG.region|apply SG.nil|apply NG.next|apply CG.skip|apply CG.block|apply CG.ret|apply CG.exit|apply CG.scope|apply NG.ret_then|apply NG.ret_block|apply NG.ret_scope|apply NG.exit_then|refine NG.exit_block rfl ?_|refine NG.exit_other rfl ?_|apply NG.exit_scope|apply NG.normal_block|apply NG.normal_scope|refine SG.val rfl rfl rfl rfl (by first|((first|apply qmv|apply qas|apply qlc|apply qla|apply qfa|apply qnc|apply qic|apply qix|apply qpk|apply qls|apply qei|apply qni|apply qed|apply qnd|apply qad|apply qln|apply qle|apply qgt|apply qge|apply qlk|apply qlv|apply qxt|apply qsb|apply qnt|apply qep|apply qnp|apply qeb|apply qnb|apply qcv|apply qlm|apply qfr|apply qto|apply qmx|apply qen|apply qsn|apply qx0)<;>(first|exact rfl|exact Ar.mk (by omega)|assumption|exact dct (by assumption)|exact dcf (by assumption)|exact dct (by omega)|exact dcf (by omega)|exact List.not_mem_nil|exact dc_length _|exact nc_length _|exact rc_length _ _ _|exact ec_length _|exact nm1 (by omega)|exact nm2 (by omega) (by omega)|exact dct rfl|exact dct (by decide)|exact dcf (by decide)|exact (Int.toNat_of_nonneg (by omega)).symm|exact dcu|exact lk1 (by assumption)|exact lk0 (by assumption)|exact lkb|fail))|fail) ?_)
      refine CG.cond_t rfl (by exact rho_of rfl) rfl ?_
      repeat (first|apply CG.seq|apply CG.region|apply SG.nil|apply NG.next|apply CG.skip|apply CG.block|apply CG.ret|apply CG.exit|apply CG.scope|apply NG.ret_then|apply NG.ret_block|apply NG.ret_scope|apply NG.exit_then|refine NG.exit_block rfl ?_|refine NG.exit_other rfl ?_|apply NG.exit_scope|apply NG.normal_block|apply NG.normal_scope|refine SG.val rfl rfl rfl rfl (by first|((first|apply qmv|apply qas|apply qlc|apply qla|apply qfa|apply qnc|apply qic|apply qix|apply qpk|apply qls|apply qei|apply qni|apply qed|apply qnd|apply qad|apply qln|apply qle|apply qgt|apply qge|apply qlk|apply qlv|apply qxt|apply qsb|apply qnt|apply qep|apply qnp|apply qeb|apply qnb|apply qcv|apply qlm|apply qfr|apply qto|apply qmx|apply qen|apply qsn|apply qx0)<;>(first|exact rfl|exact Ar.mk (by omega)|assumption|exact dct (by assumption)|exact dcf (by assumption)|exact dct (by omega)|exact dcf (by omega)|exact List.not_mem_nil|exact dc_length _|exact nc_length _|exact rc_length _ _ _|exact ec_length _|exact nm1 (by omega)|exact nm2 (by omega) (by omega)|exact dct rfl|exact dct (by decide)|exact dcf (by decide)|exact (Int.toNat_of_nonneg (by omega)).symm|exact dcu|exact lk1 (by assumption)|exact lk0 (by assumption)|exact lkb|fail))|fail) ?_)
      refine NG.round (i + 1, v) (by (repeat' (first | exact True.intro | exact rfl | refine And.intro ?_ ?_))) ⟨hlt, ls, Nat.le_succ_of_le hlen, hv5, ?_, hlb5, hk05⟩ (by show tl.length - (i + 1) < tl.length - i; omega)
      show _ = (s.open_ ((tl.take (i + 1)).map (·.cp))).map cpc
      rw [hto]
      simp only [Ns.open_, List.filter_append] at hls ⊢
      rw [hls]
      simp [hc]
    | false =>
      repeat (first|apply CG.seq|apply CG.region|apply SG.nil|apply NG.next|apply CG.skip|apply CG.block|apply CG.ret|apply CG.exit|apply CG.scope|apply NG.ret_then|apply NG.ret_block|apply NG.ret_scope|apply NG.exit_then|refine NG.exit_block rfl ?_|refine NG.exit_other rfl ?_|apply NG.exit_scope|apply NG.normal_block|apply NG.normal_scope|refine SG.val rfl rfl rfl rfl (by first|((first|apply qmv|apply qas|apply qlc|apply qla|apply qfa|apply qnc|apply qic|apply qix|apply qpk|apply qls|apply qei|apply qni|apply qed|apply qnd|apply qad|apply qln|apply qle|apply qgt|apply qge|apply qlk|apply qlv|apply qxt|apply qsb|apply qnt|apply qep|apply qnp|apply qeb|apply qnb|apply qcv|apply qlm|apply qfr|apply qto|apply qmx|apply qen|apply qsn|apply qx0)<;>(first|exact rfl|exact Ar.mk (by omega)|assumption|exact dct (by assumption)|exact dcf (by assumption)|exact dct (by omega)|exact dcf (by omega)|exact List.not_mem_nil|exact dc_length _|exact nc_length _|exact rc_length _ _ _|exact ec_length _|exact nm1 (by omega)|exact nm2 (by omega) (by omega)|exact dct rfl|exact dct (by decide)|exact dcf (by decide)|exact (Int.toNat_of_nonneg (by omega)).symm|exact dcu|exact lk1 (by assumption)|exact lk0 (by assumption)|exact lkb|fail))|fail) ?_)
      refine CG.cond_f rfl (by exact rho_of rfl) rfl ?_
      have q0 := q0.kp0 hk5
      have q2 := q2.kp0 hk5
      have q3 := q3.kp0 hk5
      repeat (first|apply CG.seq|apply CG.region|apply SG.nil|apply NG.next|apply CG.skip|apply CG.block|apply CG.ret|apply CG.exit|apply CG.scope|apply NG.ret_then|apply NG.ret_block|apply NG.ret_scope|apply NG.exit_then|refine NG.exit_block rfl ?_|refine NG.exit_other rfl ?_|apply NG.exit_scope|apply NG.normal_block|apply NG.normal_scope|refine SG.val rfl rfl rfl rfl (by first|((first|apply qmv|apply qas|apply qlc|apply qla|apply qfa|apply qnc|apply qic|apply qix|apply qpk|apply qls|apply qei|apply qni|apply qed|apply qnd|apply qad|apply qln|apply qle|apply qgt|apply qge|apply qlk|apply qlv|apply qxt|apply qsb|apply qnt|apply qep|apply qnp|apply qeb|apply qnb|apply qcv|apply qlm|apply qfr|apply qto|apply qmx|apply qen|apply qsn|apply qx0)<;>(first|exact rfl|exact Ar.mk (by omega)|assumption|exact dct (by assumption)|exact dcf (by assumption)|exact dct (by omega)|exact dcf (by omega)|exact List.not_mem_nil|exact dc_length _|exact nc_length _|exact rc_length _ _ _|exact ec_length _|exact nm1 (by omega)|exact nm2 (by omega) (by omega)|exact dct rfl|exact dct (by decide)|exact dcf (by decide)|exact (Int.toNat_of_nonneg (by omega)).symm|exact dcu|exact lk1 (by assumption)|exact lk0 (by assumption)|exact lkb|fail))|fail) ?_)
      refine SG.alloc rfl rfl rfl (fun b7 w6 hk6 hb7 hB7 => ?_)
      refine SG.setAll (old := [.int .i64 0, .int .i64 0, .slice none 0 0]) rfl rfl (by exact rho_of rfl) (by exact rho_of rfl) hB7 rfl rfl rfl (fun w7 hk7 hB7 => ?_)
      have hk67 : Kp [] w5 w7 := hk6.trans_new hk7 (by first | exact new1 (by omega) | exact new2 (by omega) (by omega))
      have hk07 := hk05.trans hk67
      have q2 := q2.kp0 hk67
      repeat (first|apply CG.seq|apply CG.region|apply SG.nil|apply NG.next|apply CG.skip|apply CG.block|apply CG.ret|apply CG.exit|apply CG.scope|apply NG.ret_then|apply NG.ret_block|apply NG.ret_scope|apply NG.exit_then|refine NG.exit_block rfl ?_|refine NG.exit_other rfl ?_|apply NG.exit_scope|apply NG.normal_block|apply NG.normal_scope|refine SG.val rfl rfl rfl rfl (by first|((first|apply qmv|apply qas|apply qlc|apply qla|apply qfa|apply qnc|apply qic|apply qix|apply qpk|apply qls|apply qei|apply qni|apply qed|apply qnd|apply qad|apply qln|apply qle|apply qgt|apply qge|apply qlk|apply qlv|apply qxt|apply qsb|apply qnt|apply qep|apply qnp|apply qeb|apply qnb|apply qcv|apply qlm|apply qfr|apply qto|apply qmx|apply qen|apply qsn|apply qx0)<;>(first|exact rfl|exact Ar.mk (by omega)|assumption|exact dct (by assumption)|exact dcf (by assumption)|exact dct (by omega)|exact dcf (by omega)|exact List.not_mem_nil|exact dc_length _|exact nc_length _|exact rc_length _ _ _|exact ec_length _|exact nm1 (by omega)|exact nm2 (by omega) (by omega)|exact dct rfl|exact dct (by decide)|exact dcf (by decide)|exact (Int.toNat_of_nonneg (by omega)).symm|exact dcu|exact lk1 (by assumption)|exact lk0 (by assumption)|exact lkb|fail))|fail) ?_)
      refine SG.call rfl rfl rfl (by repeat' (first | exact True.intro | exact rho_of rfl | refine And.intro ?_ ?_)) ((bclone_spec p.c ((hp4.kp hk07 (by simp)).sl) (by omega)).mono (fun e w8 h => ?_))
      obtain ⟨v8, he, hov, hk8⟩ := h
      refine ⟨v8, he, ?_⟩
      obtain ⟨a, c, rfl, hc8, hby, hab⟩ := own_by hov rfl
      repeat (first|apply CG.seq|apply CG.region|apply SG.nil|apply NG.next|apply CG.skip|apply CG.block|apply CG.ret|apply CG.exit|apply CG.scope|apply NG.ret_then|apply NG.ret_block|apply NG.ret_scope|apply NG.exit_then|refine NG.exit_block rfl ?_|refine NG.exit_other rfl ?_|apply NG.exit_scope|apply NG.normal_block|apply NG.normal_scope|refine SG.val rfl rfl rfl rfl (by first|((first|apply qmv|apply qas|apply qlc|apply qla|apply qfa|apply qnc|apply qic|apply qix|apply qpk|apply qls|apply qei|apply qni|apply qed|apply qnd|apply qad|apply qln|apply qle|apply qgt|apply qge|apply qlk|apply qlv|apply qxt|apply qsb|apply qnt|apply qep|apply qnp|apply qeb|apply qnb|apply qcv|apply qlm|apply qfr|apply qto|apply qmx|apply qen|apply qsn|apply qx0)<;>(first|exact rfl|exact Ar.mk (by omega)|assumption|exact dct (by assumption)|exact dcf (by assumption)|exact dct (by omega)|exact dcf (by omega)|exact List.not_mem_nil|exact dc_length _|exact nc_length _|exact rc_length _ _ _|exact ec_length _|exact nm1 (by omega)|exact nm2 (by omega) (by omega)|exact dct rfl|exact dct (by decide)|exact dcf (by decide)|exact (Int.toNat_of_nonneg (by omega)).symm|exact dcu|exact lk1 (by assumption)|exact lk0 (by assumption)|exact lkb|fail))|fail) ?_)
      refine SG.setMid [.int .i64 p.cp.fr, .int .i64 p.cp.to] [.slice p.a p.cp.bs.length p.c] [] rfl rfl (by exact rho_of rfl) (by exact rho_of rfl) (hB7.kp0 hk8) rfl rfl rfl rfl rfl (fun w9 hk9 hB9 => ?_)
      have hby9 : ByAt w9 a p.cp.bs := hby.kp1 (hB7.kp0 hk8) (by decide) hk9
      have R7 : Row w9 b7 0 [.int .i64 p.cp.fr, .int .i64 p.cp.to, .slice a p.cp.bs.length c] := Row.all hB9 rfl
      have hk79 : Kp [] w5 w9 := (hk67.trans hk8).trans_new hk9 (by first | exact new1 (by omega) | exact new2 (by omega) (by omega))
      have hk09 := hk05.trans hk79
      have hv9 := own_kp0 hv5 hk79
      repeat (first|apply CG.seq|apply CG.region|apply SG.nil|apply NG.next|apply CG.skip|apply CG.block|apply CG.ret|apply CG.exit|apply CG.scope|apply NG.ret_then|apply NG.ret_block|apply NG.ret_scope|apply NG.exit_then|refine NG.exit_block rfl ?_|refine NG.exit_other rfl ?_|apply NG.exit_scope|apply NG.normal_block|apply NG.normal_scope|refine SG.val rfl rfl rfl rfl (by first|((first|apply qmv|apply qas|apply qlc|apply qla|apply qfa|apply qnc|apply qic|apply qix|apply qpk|apply qls|apply qei|apply qni|apply qed|apply qnd|apply qad|apply qln|apply qle|apply qgt|apply qge|apply qlk|apply qlv|apply qxt|apply qsb|apply qnt|apply qep|apply qnp|apply qeb|apply qnb|apply qcv|apply qlm|apply qfr|apply qto|apply qmx|apply qen|apply qsn|apply qx0)<;>(first|exact rfl|exact Ar.mk (by omega)|assumption|exact dct (by assumption)|exact dcf (by assumption)|exact dct (by omega)|exact dcf (by omega)|exact List.not_mem_nil|exact dc_length _|exact nc_length _|exact rc_length _ _ _|exact ec_length _|exact nm1 (by omega)|exact nm2 (by omega) (by omega)|exact dct rfl|exact dct (by decide)|exact dcf (by decide)|exact (Int.toNat_of_nonneg (by omega)).symm|exact dcu|exact lk1 (by assumption)|exact lk0 (by assumption)|exact lkb|fail))|fail) ?_)
      refine SG.buildSlice rfl rfl rfl rfl (fun w => bslice35 w p.cp.fr p.cp.to a p.cp.bs.length c) (fun bn w10 hk10 hbn hBn => ?_)
      have hRn : Row w10 bn 0 (lcl ⟨p.cp.fr, p.cp.to, p.cp.bs, a, c⟩) := Row.all hBn rfl
      have hv10 := own_kp0 hv9 hk10
      refine SG.append (f := ty.i35) rfl rfl rfl (by exact rho_of rfl) (by exact rho_of rfl) rfl rfl rfl hv10 hRn rfl rfl (by simp only [maxLen]; omega) (Nat.le_trans (Nat.mul_le_mul_right _ (show _ ≤ 5000 by omega)) (by decide)) (Nat.le_trans hk09.size hk10.size) (fun v' w11 hk11 hown11 => ?_)
      repeat (first|apply CG.seq|apply CG.region|apply SG.nil|apply NG.next|apply CG.skip|apply CG.block|apply CG.ret|apply CG.exit|apply CG.scope|apply NG.ret_then|apply NG.ret_block|apply NG.ret_scope|apply NG.exit_then|refine NG.exit_block rfl ?_|refine NG.exit_other rfl ?_|apply NG.exit_scope|apply NG.normal_block|apply NG.normal_scope|refine SG.val rfl rfl rfl rfl (by first|((first|apply qmv|apply qas|apply qlc|apply qla|apply qfa|apply qnc|apply qic|apply qix|apply qpk|apply qls|apply qei|apply qni|apply qed|apply qnd|apply qad|apply qln|apply qle|apply qgt|apply qge|apply qlk|apply qlv|apply qxt|apply qsb|apply qnt|apply qep|apply qnp|apply qeb|apply qnb|apply qcv|apply qlm|apply qfr|apply qto|apply qmx|apply qen|apply qsn|apply qx0)<;>(first|exact rfl|exact Ar.mk (by omega)|assumption|exact dct (by assumption)|exact dcf (by assumption)|exact dct (by omega)|exact dcf (by omega)|exact List.not_mem_nil|exact dc_length _|exact nc_length _|exact rc_length _ _ _|exact ec_length _|exact nm1 (by omega)|exact nm2 (by omega) (by omega)|exact dct rfl|exact dct (by decide)|exact dcf (by decide)|exact (Int.toNat_of_nonneg (by omega)).symm|exact dcu|exact lk1 (by assumption)|exact lk0 (by assumption)|exact lkb|fail))|fail) ?_)
      have hkA := hk09.trans hk10
      refine NG.round (i + 1, v') (by (repeat' (first | exact True.intro | exact rfl | refine And.intro ?_ ?_))) ⟨hlt, ls ++ [⟨p.cp.fr, p.cp.to, p.cp.bs, a, c⟩], by simp; exact hlen, ?_, ?_, ?_, hkA.trans_new hk11 (own_new hv10 (Nat.le_refl _))⟩ (by show tl.length - (i + 1) < tl.length - i; omega)
      · have : flt lcl (ls ++ [⟨p.cp.fr, p.cp.to, p.cp.bs, a, c⟩]) = flt lcl ls ++ lcl ⟨p.cp.fr, p.cp.to, p.cp.bs, a, c⟩ := by simp [flt]
        rw [this, List.length_append]
        exact hown11
      · show _ = (s.open_ ((tl.take (i + 1)).map (·.cp))).map cpc
        rw [hto]
        simp only [Ns.open_, List.filter_append] at hls ⊢
        rw [List.map_append, List.map_append, hls]
        simp [hc, ltc, cpc]
      · intro l hl
        rcases List.mem_append.1 hl with hl | hl
        · exact ⟨((((hlb5 l hl).1.kp hk79 (by simp)).kp hk10 (by simp))).kpo hv10 (by decide) hk11, (hlb5 l hl).2⟩
        · rw [List.mem_singleton] at hl
          subst hl
          refine ⟨(hby9.kp hk10 (by simp)).kpo hv10 (by decide) hk11, fun b off e => ?_⟩
          have h1 := hab b off e
          have h2 := hk07.size
          omega
  · have g1 : ¬ (i : Int) < (tl.length : Int) := by omega
    repeat (first|apply CG.seq|apply CG.region|apply SG.nil|apply NG.next|apply CG.skip|apply CG.block|apply CG.ret|apply CG.exit|apply CG.scope|apply NG.ret_then|apply NG.ret_block|apply NG.ret_scope|apply NG.exit_then|refine NG.exit_block rfl ?_|refine NG.exit_other rfl ?_|apply NG.exit_scope|apply NG.normal_block|apply NG.normal_scope|refine SG.val rfl rfl rfl rfl (by first|((first|apply qmv|apply qas|apply qlc|apply qla|apply qfa|apply qnc|apply qic|apply qix|apply qpk|apply qls|apply qei|apply qni|apply qed|apply qnd|apply qad|apply qln|apply qle|apply qgt|apply qge|apply qlk|apply qlv|apply qxt|apply qsb|apply qnt|apply qep|apply qnp|apply qeb|apply qnb|apply qcv|apply qlm|apply qfr|apply qto|apply qmx|apply qen|apply qsn|apply qx0)<;>(first|exact rfl|exact Ar.mk (by omega)|assumption|exact dct (by assumption)|exact dcf (by assumption)|exact dct (by omega)|exact dcf (by omega)|exact List.not_mem_nil|exact dc_length _|exact nc_length _|exact rc_length _ _ _|exact ec_length _|exact nm1 (by omega)|exact nm2 (by omega) (by omega)|exact dct rfl|exact dct (by decide)|exact dcf (by decide)|exact (Int.toNat_of_nonneg (by omega)).symm|exact dcu|exact lk1 (by assumption)|exact lk0 (by assumption)|exact lkb|fail))|fail) ?_)
    refine CG.cond_f rfl (by exact rho_of rfl) rfl ?_
    have hr4 := hR2.r4
    have hr1 := hR2.r1
    have hm := hR2.map
    rw [← hk] at hr1
    repeat (first|apply CG.seq|apply CG.region|apply SG.nil|apply NG.next|apply CG.skip|apply CG.block|apply CG.ret|apply CG.exit|apply CG.scope|apply NG.ret_then|apply NG.ret_block|apply NG.ret_scope|apply NG.exit_then|refine NG.exit_block rfl ?_|refine NG.exit_other rfl ?_|apply NG.exit_scope|apply NG.normal_block|apply NG.normal_scope|refine SG.val rfl rfl rfl rfl (by first|((first|apply qmv|apply qas|apply qlc|apply qla|apply qfa|apply qnc|apply qic|apply qix|apply qpk|apply qls|apply qei|apply qni|apply qed|apply qnd|apply qad|apply qln|apply qle|apply qgt|apply qge|apply qlk|apply qlv|apply qxt|apply qsb|apply qnt|apply qep|apply qnp|apply qeb|apply qnb|apply qcv|apply qlm|apply qfr|apply qto|apply qmx|apply qen|apply qsn|apply qx0)<;>(first|exact rfl|exact Ar.mk (by omega)|assumption|exact dct (by assumption)|exact dcf (by assumption)|exact dct (by omega)|exact dcf (by omega)|exact List.not_mem_nil|exact dc_length _|exact nc_length _|exact rc_length _ _ _|exact ec_length _|exact nm1 (by omega)|exact nm2 (by omega) (by omega)|exact dct rfl|exact dct (by decide)|exact dcf (by decide)|exact (Int.toNat_of_nonneg (by omega)).symm|exact dcu|exact lk1 (by assumption)|exact lk0 (by assumption)|exact lkb|fail))|fail) ?_)
    refine CG.tail mixed 8 [0, 1, 2, 3, 4, 5, 6, 7] (by kernel_rfl) ?_
    repeat (refine Der.val rfl rfl rfl (by first|((first|apply qmv|apply qas|apply qlc|apply qla|apply qfa|apply qnc|apply qic|apply qix|apply qpk|apply qls|apply qei|apply qni|apply qed|apply qnd|apply qad|apply qln|apply qle|apply qgt|apply qge|apply qlk|apply qlv|apply qxt|apply qsb|apply qnt|apply qep|apply qnp|apply qeb|apply qnb|apply qcv|apply qlm|apply qfr|apply qto|apply qmx|apply qen|apply qsn|apply qx0)<;>(first|exact rfl|exact Ar.mk (by omega)|assumption|exact dct (by assumption)|exact dcf (by assumption)|exact dct (by omega)|exact dcf (by omega)|exact List.not_mem_nil|exact dc_length _|exact nc_length _|exact rc_length _ _ _|exact ec_length _|exact nm1 (by omega)|exact nm2 (by omega) (by omega)|exact dct rfl|exact dct (by decide)|exact dcf (by decide)|exact (Int.toNat_of_nonneg (by omega)).symm|exact dcu|exact lk1 (by assumption)|exact lk0 (by assumption)|exact lkb|fail))|fail) ?_)
    refine Der.tl (fun w3 hk3 _ _ => ?_)
    have hR3 := hR2.kp0 hk3
    refine SG.delete (V := fun q : Value × List Pc => q.1) (kx := k) rfl rfl (by exact rho_of rfl) (by exact rho_of rfl) hR3.map (fun w4 hk4 hm4 => ?_)
    have hne : bt ≠ bm := by obtain ⟨es, ec, hmb⟩ := hR3.map.blk; exact ne_map hmb hR3.blk
    have hB4 := hR3.blk.kp hk4 (by simpa using hne)
    have q3 := Row.of hB4 [.int .i64 s.parties, .int .i64 s.now, .int .i64 s.sent] (l := [.int .i64 s.pend.length]) ([.map (some bm)] ++ s.cuts.map .bool) rfl rfl
    repeat (first|apply CG.seq|apply CG.region|apply SG.nil|apply NG.next|apply CG.skip|apply CG.block|apply CG.ret|apply CG.exit|apply CG.scope|apply NG.ret_then|apply NG.ret_block|apply NG.ret_scope|apply NG.exit_then|refine NG.exit_block rfl ?_|refine NG.exit_other rfl ?_|apply NG.exit_scope|apply NG.normal_block|apply NG.normal_scope|refine SG.val rfl rfl rfl rfl (by first|((first|apply qmv|apply qas|apply qlc|apply qla|apply qfa|apply qnc|apply qic|apply qix|apply qpk|apply qls|apply qei|apply qni|apply qed|apply qnd|apply qad|apply qln|apply qle|apply qgt|apply qge|apply qlk|apply qlv|apply qxt|apply qsb|apply qnt|apply qep|apply qnp|apply qeb|apply qnb|apply qcv|apply qlm|apply qfr|apply qto|apply qmx|apply qen|apply qsn|apply qx0)<;>(first|exact rfl|exact Ar.mk (by omega)|assumption|exact dct (by assumption)|exact dcf (by assumption)|exact dct (by omega)|exact dcf (by omega)|exact List.not_mem_nil|exact dc_length _|exact nc_length _|exact rc_length _ _ _|exact ec_length _|exact nm1 (by omega)|exact nm2 (by omega) (by omega)|exact dct rfl|exact dct (by decide)|exact dcf (by decide)|exact (Int.toNat_of_nonneg (by omega)).symm|exact dcu|exact lk1 (by assumption)|exact lk0 (by assumption)|exact lkb|fail))|fail) ?_)
    refine SG.setMid [.int .i64 s.parties, .int .i64 s.now, .int .i64 s.sent] [.int .i64 s.pend.length] ([.map (some bm)] ++ s.cuts.map .bool) rfl rfl (by exact rho_of rfl) (by exact rho_of rfl) hB4 rfl rfl rfl rfl rfl (fun w5 hk5 hB5 => ?_)
    have q1 := Row.of hB5 [.int .i64 s.parties] (l := [.int .i64 s.now]) ([.int .i64 s.sent, .int .i64 (s.pend.length - tl.length), .map (some bm)] ++ s.cuts.map .bool) rfl rfl
    repeat (first|apply CG.seq|apply CG.region|apply SG.nil|apply NG.next|apply CG.skip|apply CG.block|apply CG.ret|apply CG.exit|apply CG.scope|apply NG.ret_then|apply NG.ret_block|apply NG.ret_scope|apply NG.exit_then|refine NG.exit_block rfl ?_|refine NG.exit_other rfl ?_|apply NG.exit_scope|apply NG.normal_block|apply NG.normal_scope|refine SG.val rfl rfl rfl rfl (by first|((first|apply qmv|apply qas|apply qlc|apply qla|apply qfa|apply qnc|apply qic|apply qix|apply qpk|apply qls|apply qei|apply qni|apply qed|apply qnd|apply qad|apply qln|apply qle|apply qgt|apply qge|apply qlk|apply qlv|apply qxt|apply qsb|apply qnt|apply qep|apply qnp|apply qeb|apply qnb|apply qcv|apply qlm|apply qfr|apply qto|apply qmx|apply qen|apply qsn|apply qx0)<;>(first|exact rfl|exact Ar.mk (by omega)|assumption|exact dct (by assumption)|exact dcf (by assumption)|exact dct (by omega)|exact dcf (by omega)|exact List.not_mem_nil|exact dc_length _|exact nc_length _|exact rc_length _ _ _|exact ec_length _|exact nm1 (by omega)|exact nm2 (by omega) (by omega)|exact dct rfl|exact dct (by decide)|exact dcf (by decide)|exact (Int.toNat_of_nonneg (by omega)).symm|exact dcu|exact lk1 (by assumption)|exact lk0 (by assumption)|exact lkb|fail))|fail) ?_)
    refine SG.setMid [.int .i64 s.parties] [.int .i64 s.now] ([.int .i64 s.sent, .int .i64 (s.pend.length - tl.length), .map (some bm)] ++ s.cuts.map .bool) rfl rfl (by exact rho_of rfl) (by exact rho_of rfl) hB5 rfl rfl rfl rfl rfl (fun w6 hk6 hB6 => ?_)
    repeat (first|apply CG.seq|apply CG.region|apply SG.nil|apply NG.next|apply CG.skip|apply CG.block|apply CG.ret|apply CG.exit|apply CG.scope|apply NG.ret_then|apply NG.ret_block|apply NG.ret_scope|apply NG.exit_then|refine NG.exit_block rfl ?_|refine NG.exit_other rfl ?_|apply NG.exit_scope|apply NG.normal_block|apply NG.normal_scope|refine SG.val rfl rfl rfl rfl (by first|((first|apply qmv|apply qas|apply qlc|apply qla|apply qfa|apply qnc|apply qic|apply qix|apply qpk|apply qls|apply qei|apply qni|apply qed|apply qnd|apply qad|apply qln|apply qle|apply qgt|apply qge|apply qlk|apply qlv|apply qxt|apply qsb|apply qnt|apply qep|apply qnp|apply qeb|apply qnb|apply qcv|apply qlm|apply qfr|apply qto|apply qmx|apply qen|apply qsn|apply qx0)<;>(first|exact rfl|exact Ar.mk (by omega)|assumption|exact dct (by assumption)|exact dcf (by assumption)|exact dct (by omega)|exact dcf (by omega)|exact List.not_mem_nil|exact dc_length _|exact nc_length _|exact rc_length _ _ _|exact ec_length _|exact nm1 (by omega)|exact nm2 (by omega) (by omega)|exact dct rfl|exact dct (by decide)|exact dcf (by decide)|exact (Int.toNat_of_nonneg (by omega)).symm|exact dcu|exact lk1 (by assumption)|exact lk0 (by assumption)|exact lkb|fail))|fail) ?_)
    refine ret1 (Or.inl rfl) Try.results14 (by first | exact ResV.tmp rfl | exact ResV.agg rfl rfl (by assumption) (by first | exact dc_length _ | exact nc_length _ | exact rc_length _ _ _ | exact ec_length _ | rfl) | exact ResV.cell rfl rfl (by assumption)) ?_
    have hie : i = tl.length := by omega
    subst hie
    rw [List.take_length, htc] at hls
    have hlc : ((s.pend.length : Int) - (tl.length : Int)) = (s.step.pend.length : Int) := by
      have h1 := congrArg List.length htc
      rw [List.length_map] at h1
      have h2 := len_filter (fun c : Cp => decide ((c.due : Int) = s.now)) s.pend
      have h3 : s.step.pend.length = (s.pend.filter (fun c : Cp => !decide ((c.due : Int) = s.now))).length := rfl
      have h4 : s.come.length = (s.pend.filter (fun c : Cp => decide ((c.due : Int) = s.now))).length := rfl
      omega
    have hk56 := hk5.trans hk6
    have hB7 : Blk w6 bt (.cells (ncl s.step bm).toArray 72) := by
      rw [hlc] at hB6
      exact hB6
    have hnew := hR3.del k hk hk4 hm4 hk56 hB7
    have hk03 := hk2.trans hk3
    have hnb := own_nb (own_kp0 hv hk3)
    have eM := hR.map.lt
    have eT := hR.blk.lt
    refine ⟨v, _, ls, rfl, own_kp (own_kp (own_kp0 hv hk3) hk4 (fun b hb hm => ?_)) hk56 (fun b hb hm => ?_), hls, fun l hl => ⟨(((hlb l hl).1.kp hk3 (by simp)).kp hk4 (fun b off e hm => ?_)).kp hk56 (fun b off e hm => ?_), (hlb l hl).2⟩, hnew, fun z hz => uses_del hz, ((hk03.any).trans (hk4.mono (by simp))).trans (hk56.mono (by simp))⟩
    · rw [List.mem_singleton] at hm
      subst hm
      exact hnb _ eM (mem_ownB.2 hb)
    · rw [List.mem_singleton] at hm
      subst hm
      exact hnb _ eT (mem_ownB.2 hb)
    · rw [List.mem_singleton] at hm
      subst hm
      have := (hlb l hl).2 _ _ e
      omega
    · rw [List.mem_singleton] at hm
      subst hm
      have := (hlb l hl).2 _ _ e
      omega
end Go.Proofs.Ytfelaicoedlejaa
/-
  A way is cut or opened.
-/
namespace Go.Proofs.Ytfelaicoedlejaa
set_option linter.unusedVariables false

def Ns.setCut (s : Ns) (f t : Nat) (b : Bool) : Ns := { s with cuts := s.cuts.set (f * 16 + t) b }
theorem cuts_split {s : Ns} (hl : s.cuts.length = 256) {f t : Nat} (hf : f < 16) (ht : t < 16) (bm : Nat) : ncl s bm = ([.int .i64 s.parties, .int .i64 s.now, .int .i64 s.sent, .int .i64 s.pend.length, .map (some bm)] ++ (s.cuts.take (f * 16 + t)).map .bool) ++ ([.bool (s.cutAt f t)] ++ (s.cuts.drop (f * 16 + t + 1)).map .bool) := by
  have hi : f * 16 + t < s.cuts.length := by omega
  have e : s.cuts.map Value.bool = (s.cuts.take (f * 16 + t)).map .bool ++ ([.bool (s.cutAt f t)] ++ (s.cuts.drop (f * 16 + t + 1)).map .bool) := by
    have : s.cuts = s.cuts.take (f * 16 + t) ++ ([s.cutAt f t] ++ s.cuts.drop (f * 16 + t + 1)) := by
      unfold Ns.cutAt
      rw [List.getElem?_eq_getElem hi]
      simp
    conv => lhs; rw [this]
    simp only [List.map_append, List.map_cons, List.map_nil]
  simp only [ncl]
  rw [e]
  simp
theorem setCut_split {s : Ns} (hl : s.cuts.length = 256) {f t : Nat} (hf : f < 16) (ht : t < 16) (b : Bool) (bm : Nat) : ncl (s.setCut f t b) bm = ([.int .i64 s.parties, .int .i64 s.now, .int .i64 s.sent, .int .i64 s.pend.length, .map (some bm)] ++ (s.cuts.take (f * 16 + t)).map .bool) ++ ([.bool b] ++ (s.cuts.drop (f * 16 + t + 1)).map .bool) := by
  have hi : f * 16 + t < s.cuts.length := by omega
  have h2 : (s.setCut f t b).cuts = s.cuts.take (f * 16 + t) ++ b :: s.cuts.drop (f * 16 + t + 1) := by
    show s.cuts.set (f * 16 + t) b = _
    rw [List.set_eq_take_append_cons_drop, if_pos hi]
  simp only [ncl, h2]
  simp [Ns.setCut]

attribute [local irreducible] CG NG SG Vals Der Row Blk MapIs IterAt DerX
set_option maxHeartbeats 8000000 in
theorem cut_good {w : World} {bt bm : Nat} {s : Ns} {due : Due} (hR : Rep w bt bm s due) (f t : Nat) (b : Bool) (h16 : s.parties ≤ 16) (h1 : f < s.parties) (h2 : t < s.parties) : Calls Try.prog 18 #[.pointer (some ⟨bt, 0, none⟩), .int .i64 f, .int .i64 t, .bool b] w (fun e w' => e = .returned (.int .i64 0) ∧ Rep w' bt bm (s.setCut f t b) due ∧ Kp [bt] w w') := by
  refine enter4 Try.func18 rfl Try.ntmps18 rfl ?_
  have g1 : 0 ≤ (f : Int) ∧ (f : Int) < s.parties := by omega
  have g2 : 0 ≤ (t : Int) ∧ (t : Int) < s.parties := by omega
  repeat (first|apply CG.seq|apply CG.region|apply SG.nil|apply NG.next|apply CG.skip|apply CG.block|apply CG.ret|apply CG.exit|apply CG.scope|apply NG.ret_then|apply NG.ret_block|apply NG.ret_scope|apply NG.exit_then|refine NG.exit_block rfl ?_|refine NG.exit_other rfl ?_|apply NG.exit_scope|apply NG.normal_block|apply NG.normal_scope|refine SG.val rfl rfl rfl rfl (by first|((first|apply qmv|apply qas|apply qlc|apply qla|apply qfa|apply qnc|apply qic|apply qix|apply qpk|apply qls|apply qei|apply qni|apply qed|apply qnd|apply qad|apply qln|apply qle|apply qgt|apply qge|apply qlk|apply qlv|apply qxt|apply qsb|apply qnt|apply qep|apply qnp|apply qeb|apply qnb|apply qcv|apply qlm|apply qfr|apply qto|apply qmx|apply qen|apply qsn|apply qx0)<;>(first|exact rfl|exact Ar.mk (by omega)|assumption|exact dct (by assumption)|exact dcf (by assumption)|exact dct (by omega)|exact dcf (by omega)|exact List.not_mem_nil|exact dc_length _|exact nc_length _|exact rc_length _ _ _|exact ec_length _|exact nm1 (by omega)|exact nm2 (by omega) (by omega)|exact dct rfl|exact dct (by decide)|exact dcf (by decide)|exact (Int.toNat_of_nonneg (by omega)).symm|exact dcu|exact lk1 (by assumption)|exact lk0 (by assumption)|exact lkb|fail))|fail) ?_)
  refine CG.cond_f rfl (by exact rho_of rfl) rfl ?_
  repeat (first|apply CG.seq|apply CG.region|apply SG.nil|apply NG.next|apply CG.skip|apply CG.block|apply CG.ret|apply CG.exit|apply CG.scope|apply NG.ret_then|apply NG.ret_block|apply NG.ret_scope|apply NG.exit_then|refine NG.exit_block rfl ?_|refine NG.exit_other rfl ?_|apply NG.exit_scope|apply NG.normal_block|apply NG.normal_scope|refine SG.val rfl rfl rfl rfl (by first|((first|apply qmv|apply qas|apply qlc|apply qla|apply qfa|apply qnc|apply qic|apply qix|apply qpk|apply qls|apply qei|apply qni|apply qed|apply qnd|apply qad|apply qln|apply qle|apply qgt|apply qge|apply qlk|apply qlv|apply qxt|apply qsb|apply qnt|apply qep|apply qnp|apply qeb|apply qnb|apply qcv|apply qlm|apply qfr|apply qto|apply qmx|apply qen|apply qsn|apply qx0)<;>(first|exact rfl|exact Ar.mk (by omega)|assumption|exact dct (by assumption)|exact dcf (by assumption)|exact dct (by omega)|exact dcf (by omega)|exact List.not_mem_nil|exact dc_length _|exact nc_length _|exact rc_length _ _ _|exact ec_length _|exact nm1 (by omega)|exact nm2 (by omega) (by omega)|exact dct rfl|exact dct (by decide)|exact dcf (by decide)|exact (Int.toNat_of_nonneg (by omega)).symm|exact dcu|exact lk1 (by assumption)|exact lk0 (by assumption)|exact lkb|fail))|fail) ?_)
  refine SG.ret rfl rfl rfl (by repeat' (first | exact True.intro | exact rho_of rfl | refine And.intro ?_ ?_)) (party_spec hR f) (fun w1 hk1 => ?_)
  rw [decide_eq_true g1]
  repeat (first | first|apply CG.seq|apply CG.region|apply SG.nil|apply NG.next|apply CG.skip|apply CG.block|apply CG.ret|apply CG.exit|apply CG.scope|apply NG.ret_then|apply NG.ret_block|apply NG.ret_scope|apply NG.exit_then|refine NG.exit_block rfl ?_|refine NG.exit_other rfl ?_|apply NG.exit_scope|apply NG.normal_block|apply NG.normal_scope|refine SG.val rfl rfl rfl rfl (by first|((first|apply qmv|apply qas|apply qlc|apply qla|apply qfa|apply qnc|apply qic|apply qix|apply qpk|apply qls|apply qei|apply qni|apply qed|apply qnd|apply qad|apply qln|apply qle|apply qgt|apply qge|apply qlk|apply qlv|apply qxt|apply qsb|apply qnt|apply qep|apply qnp|apply qeb|apply qnb|apply qcv|apply qlm|apply qfr|apply qto|apply qmx|apply qen|apply qsn|apply qx0)<;>(first|exact rfl|exact Ar.mk (by omega)|assumption|exact dct (by assumption)|exact dcf (by assumption)|exact dct (by omega)|exact dcf (by omega)|exact List.not_mem_nil|exact dc_length _|exact nc_length _|exact rc_length _ _ _|exact ec_length _|exact nm1 (by omega)|exact nm2 (by omega) (by omega)|exact dct rfl|exact dct (by decide)|exact dcf (by decide)|exact (Int.toNat_of_nonneg (by omega)).symm|exact dcu|exact lk1 (by assumption)|exact lk0 (by assumption)|exact lkb|fail))|fail) ?_ | refine SG.skip rfl rfl ?_)
  refine SG.ret rfl rfl rfl (by repeat' (first | exact True.intro | exact rho_of rfl | refine And.intro ?_ ?_)) (party_spec (hR.kp0 hk1) t) (fun w2 hk2 => ?_)
  rw [decide_eq_true g2]
  have hR2 := hR.kp0 (hk1.trans hk2)
  have f1 : f < 16 := by omega
  have f2 : t < 16 := by omega
  repeat (first | first|apply CG.seq|apply CG.region|apply SG.nil|apply NG.next|apply CG.skip|apply CG.block|apply CG.ret|apply CG.exit|apply CG.scope|apply NG.ret_then|apply NG.ret_block|apply NG.ret_scope|apply NG.exit_then|refine NG.exit_block rfl ?_|refine NG.exit_other rfl ?_|apply NG.exit_scope|apply NG.normal_block|apply NG.normal_scope|refine SG.val rfl rfl rfl rfl (by first|((first|apply qmv|apply qas|apply qlc|apply qla|apply qfa|apply qnc|apply qic|apply qix|apply qpk|apply qls|apply qei|apply qni|apply qed|apply qnd|apply qad|apply qln|apply qle|apply qgt|apply qge|apply qlk|apply qlv|apply qxt|apply qsb|apply qnt|apply qep|apply qnp|apply qeb|apply qnb|apply qcv|apply qlm|apply qfr|apply qto|apply qmx|apply qen|apply qsn|apply qx0)<;>(first|exact rfl|exact Ar.mk (by omega)|assumption|exact dct (by assumption)|exact dcf (by assumption)|exact dct (by omega)|exact dcf (by omega)|exact List.not_mem_nil|exact dc_length _|exact nc_length _|exact rc_length _ _ _|exact ec_length _|exact nm1 (by omega)|exact nm2 (by omega) (by omega)|exact dct rfl|exact dct (by decide)|exact dcf (by decide)|exact (Int.toNat_of_nonneg (by omega)).symm|exact dcu|exact lk1 (by assumption)|exact lk0 (by assumption)|exact lkb|fail))|fail) ?_ | refine SG.skip rfl rfl ?_)
  refine CG.cond_f rfl (by exact rho_of rfl) rfl ?_
  repeat (first|apply CG.seq|apply CG.region|apply SG.nil|apply NG.next|apply CG.skip|apply CG.block|apply CG.ret|apply CG.exit|apply CG.scope|apply NG.ret_then|apply NG.ret_block|apply NG.ret_scope|apply NG.exit_then|refine NG.exit_block rfl ?_|refine NG.exit_other rfl ?_|apply NG.exit_scope|apply NG.normal_block|apply NG.normal_scope|refine SG.val rfl rfl rfl rfl (by first|((first|apply qmv|apply qas|apply qlc|apply qla|apply qfa|apply qnc|apply qic|apply qix|apply qpk|apply qls|apply qei|apply qni|apply qed|apply qnd|apply qad|apply qln|apply qle|apply qgt|apply qge|apply qlk|apply qlv|apply qxt|apply qsb|apply qnt|apply qep|apply qnp|apply qeb|apply qnb|apply qcv|apply qlm|apply qfr|apply qto|apply qmx|apply qen|apply qsn|apply qx0)<;>(first|exact rfl|exact Ar.mk (by omega)|assumption|exact dct (by assumption)|exact dcf (by assumption)|exact dct (by omega)|exact dcf (by omega)|exact List.not_mem_nil|exact dc_length _|exact nc_length _|exact rc_length _ _ _|exact ec_length _|exact nm1 (by omega)|exact nm2 (by omega) (by omega)|exact dct rfl|exact dct (by decide)|exact dcf (by decide)|exact (Int.toNat_of_nonneg (by omega)).symm|exact dcu|exact lk1 (by assumption)|exact lk0 (by assumption)|exact lkb|fail))|fail) ?_)
  refine SG.setMid ([.int .i64 s.parties, .int .i64 s.now, .int .i64 s.sent, .int .i64 s.pend.length, .map (some bm)] ++ (s.cuts.take (f * 16 + t)).map .bool) [.bool (s.cutAt f t)] ((s.cuts.drop (f * 16 + t + 1)).map .bool) rfl rfl (by exact rho_of rfl) (by exact rho_of rfl) hR2.blk (cuts_split hR2.cl f1 f2 bm) rfl rfl (by have := hR2.cl; simp; omega) rfl (fun w3 hk3 hB => ?_)
  repeat (first|apply CG.seq|apply CG.region|apply SG.nil|apply NG.next|apply CG.skip|apply CG.block|apply CG.ret|apply CG.exit|apply CG.scope|apply NG.ret_then|apply NG.ret_block|apply NG.ret_scope|apply NG.exit_then|refine NG.exit_block rfl ?_|refine NG.exit_other rfl ?_|apply NG.exit_scope|apply NG.normal_block|apply NG.normal_scope|refine SG.val rfl rfl rfl rfl (by first|((first|apply qmv|apply qas|apply qlc|apply qla|apply qfa|apply qnc|apply qic|apply qix|apply qpk|apply qls|apply qei|apply qni|apply qed|apply qnd|apply qad|apply qln|apply qle|apply qgt|apply qge|apply qlk|apply qlv|apply qxt|apply qsb|apply qnt|apply qep|apply qnp|apply qeb|apply qnb|apply qcv|apply qlm|apply qfr|apply qto|apply qmx|apply qen|apply qsn|apply qx0)<;>(first|exact rfl|exact Ar.mk (by omega)|assumption|exact dct (by assumption)|exact dcf (by assumption)|exact dct (by omega)|exact dcf (by omega)|exact List.not_mem_nil|exact dc_length _|exact nc_length _|exact rc_length _ _ _|exact ec_length _|exact nm1 (by omega)|exact nm2 (by omega) (by omega)|exact dct rfl|exact dct (by decide)|exact dcf (by decide)|exact (Int.toNat_of_nonneg (by omega)).symm|exact dcu|exact lk1 (by assumption)|exact lk0 (by assumption)|exact lkb|fail))|fail) ?_)
  refine ret1 (Or.inl rfl) Try.results18 (by first | exact ResV.tmp rfl | exact ResV.agg rfl rfl (by assumption) (by first | exact dc_length _ | exact nc_length _ | exact rc_length _ _ _ | exact ec_length _ | rfl) | exact ResV.cell rfl rfl (by assumption)) ?_
  have hB2 : Blk w3 bt (.cells (ncl (s.setCut f t b) bm).toArray 72) := by
    rw [setCut_split hR2.cl f1 f2 b bm]
    exact hB
  obtain ⟨es, ec, hmb⟩ := hR2.map.blk
  have hne := ne_map hmb hR2.blk
  refine ⟨rfl, ⟨hB2, by simp [Ns.setCut, hR2.cl], hR2.map.kp hk3 (by simpa using hne.symm), fun e he => own_kp (hR2.own e he) hk3 (fun z hz hm => ?_), hR2.sep, fun e he p hp i u hu => ?_, hR2.at_, hR2.nl, hR2.num⟩, ((hk1.trans hk2).any).trans hk3⟩
  · obtain ⟨cs, hc⟩ := own_blk (hR2.own e he) hz
    exact ne_ty (by decide) hR2.blk hc (by simpa using hm)
  · obtain ⟨z, off, cs, e1, e2, e3⟩ := hR2.byt e he p hp i u hu
    exact ⟨z, off, cs, e1, e2.kp hk3 (by simpa using ne_ty (by decide) hR2.blk e2), e3⟩
set_option maxHeartbeats 8000000 in
theorem cut_bad {w : World} {bt bm : Nat} {s : Ns} {due : Due} (hR : Rep w bt bm s due) (f t : Int) (b : Bool) (h : ¬ (0 ≤ f ∧ f < s.parties) ∨ ¬ (0 ≤ t ∧ t < s.parties)) : Ret Try.prog 18 #[.pointer (some ⟨bt, 0, none⟩), .int .i64 f, .int .i64 t, .bool b] w (.int .i64 28) := by
  refine enter4 Try.func18 rfl Try.ntmps18 rfl ?_
  repeat (first|apply CG.seq|apply CG.region|apply SG.nil|apply NG.next|apply CG.skip|apply CG.block|apply CG.ret|apply CG.exit|apply CG.scope|apply NG.ret_then|apply NG.ret_block|apply NG.ret_scope|apply NG.exit_then|refine NG.exit_block rfl ?_|refine NG.exit_other rfl ?_|apply NG.exit_scope|apply NG.normal_block|apply NG.normal_scope|refine SG.val rfl rfl rfl rfl (by first|((first|apply qmv|apply qas|apply qlc|apply qla|apply qfa|apply qnc|apply qic|apply qix|apply qpk|apply qls|apply qei|apply qni|apply qed|apply qnd|apply qad|apply qln|apply qle|apply qgt|apply qge|apply qlk|apply qlv|apply qxt|apply qsb|apply qnt|apply qep|apply qnp|apply qeb|apply qnb|apply qcv|apply qlm|apply qfr|apply qto|apply qmx|apply qen|apply qsn|apply qx0)<;>(first|exact rfl|exact Ar.mk (by omega)|assumption|exact dct (by assumption)|exact dcf (by assumption)|exact dct (by omega)|exact dcf (by omega)|exact List.not_mem_nil|exact dc_length _|exact nc_length _|exact rc_length _ _ _|exact ec_length _|exact nm1 (by omega)|exact nm2 (by omega) (by omega)|exact dct rfl|exact dct (by decide)|exact dcf (by decide)|exact (Int.toNat_of_nonneg (by omega)).symm|exact dcu|exact lk1 (by assumption)|exact lk0 (by assumption)|exact lkb|fail))|fail) ?_)
  refine CG.cond_f rfl (by exact rho_of rfl) rfl ?_
  repeat (first|apply CG.seq|apply CG.region|apply SG.nil|apply NG.next|apply CG.skip|apply CG.block|apply CG.ret|apply CG.exit|apply CG.scope|apply NG.ret_then|apply NG.ret_block|apply NG.ret_scope|apply NG.exit_then|refine NG.exit_block rfl ?_|refine NG.exit_other rfl ?_|apply NG.exit_scope|apply NG.normal_block|apply NG.normal_scope|refine SG.val rfl rfl rfl rfl (by first|((first|apply qmv|apply qas|apply qlc|apply qla|apply qfa|apply qnc|apply qic|apply qix|apply qpk|apply qls|apply qei|apply qni|apply qed|apply qnd|apply qad|apply qln|apply qle|apply qgt|apply qge|apply qlk|apply qlv|apply qxt|apply qsb|apply qnt|apply qep|apply qnp|apply qeb|apply qnb|apply qcv|apply qlm|apply qfr|apply qto|apply qmx|apply qen|apply qsn|apply qx0)<;>(first|exact rfl|exact Ar.mk (by omega)|assumption|exact dct (by assumption)|exact dcf (by assumption)|exact dct (by omega)|exact dcf (by omega)|exact List.not_mem_nil|exact dc_length _|exact nc_length _|exact rc_length _ _ _|exact ec_length _|exact nm1 (by omega)|exact nm2 (by omega) (by omega)|exact dct rfl|exact dct (by decide)|exact dcf (by decide)|exact (Int.toNat_of_nonneg (by omega)).symm|exact dcu|exact lk1 (by assumption)|exact lk0 (by assumption)|exact lkb|fail))|fail) ?_)
  refine SG.ret rfl rfl rfl (by repeat' (first | exact True.intro | exact rho_of rfl | refine And.intro ?_ ?_)) (party_spec hR f) (fun w1 hk1 => ?_)
  by_cases g1 : 0 ≤ f ∧ f < s.parties
  · have g2 := h.resolve_left (fun h => h g1)
    rw [decide_eq_true g1]
    repeat (first | first|apply CG.seq|apply CG.region|apply SG.nil|apply NG.next|apply CG.skip|apply CG.block|apply CG.ret|apply CG.exit|apply CG.scope|apply NG.ret_then|apply NG.ret_block|apply NG.ret_scope|apply NG.exit_then|refine NG.exit_block rfl ?_|refine NG.exit_other rfl ?_|apply NG.exit_scope|apply NG.normal_block|apply NG.normal_scope|refine SG.val rfl rfl rfl rfl (by first|((first|apply qmv|apply qas|apply qlc|apply qla|apply qfa|apply qnc|apply qic|apply qix|apply qpk|apply qls|apply qei|apply qni|apply qed|apply qnd|apply qad|apply qln|apply qle|apply qgt|apply qge|apply qlk|apply qlv|apply qxt|apply qsb|apply qnt|apply qep|apply qnp|apply qeb|apply qnb|apply qcv|apply qlm|apply qfr|apply qto|apply qmx|apply qen|apply qsn|apply qx0)<;>(first|exact rfl|exact Ar.mk (by omega)|assumption|exact dct (by assumption)|exact dcf (by assumption)|exact dct (by omega)|exact dcf (by omega)|exact List.not_mem_nil|exact dc_length _|exact nc_length _|exact rc_length _ _ _|exact ec_length _|exact nm1 (by omega)|exact nm2 (by omega) (by omega)|exact dct rfl|exact dct (by decide)|exact dcf (by decide)|exact (Int.toNat_of_nonneg (by omega)).symm|exact dcu|exact lk1 (by assumption)|exact lk0 (by assumption)|exact lkb|fail))|fail) ?_ | refine SG.skip rfl rfl ?_)
    refine SG.ret rfl rfl rfl (by repeat' (first | exact True.intro | exact rho_of rfl | refine And.intro ?_ ?_)) (party_spec (hR.kp0 hk1) t) (fun w2 hk2 => ?_)
    rw [decide_eq_false g2]
    repeat (first | first|apply CG.seq|apply CG.region|apply SG.nil|apply NG.next|apply CG.skip|apply CG.block|apply CG.ret|apply CG.exit|apply CG.scope|apply NG.ret_then|apply NG.ret_block|apply NG.ret_scope|apply NG.exit_then|refine NG.exit_block rfl ?_|refine NG.exit_other rfl ?_|apply NG.exit_scope|apply NG.normal_block|apply NG.normal_scope|refine SG.val rfl rfl rfl rfl (by first|((first|apply qmv|apply qas|apply qlc|apply qla|apply qfa|apply qnc|apply qic|apply qix|apply qpk|apply qls|apply qei|apply qni|apply qed|apply qnd|apply qad|apply qln|apply qle|apply qgt|apply qge|apply qlk|apply qlv|apply qxt|apply qsb|apply qnt|apply qep|apply qnp|apply qeb|apply qnb|apply qcv|apply qlm|apply qfr|apply qto|apply qmx|apply qen|apply qsn|apply qx0)<;>(first|exact rfl|exact Ar.mk (by omega)|assumption|exact dct (by assumption)|exact dcf (by assumption)|exact dct (by omega)|exact dcf (by omega)|exact List.not_mem_nil|exact dc_length _|exact nc_length _|exact rc_length _ _ _|exact ec_length _|exact nm1 (by omega)|exact nm2 (by omega) (by omega)|exact dct rfl|exact dct (by decide)|exact dcf (by decide)|exact (Int.toNat_of_nonneg (by omega)).symm|exact dcu|exact lk1 (by assumption)|exact lk0 (by assumption)|exact lkb|fail))|fail) ?_ | refine SG.skip rfl rfl ?_)
    refine CG.cond_t rfl (by exact rho_of rfl) rfl ?_
    repeat (first|apply CG.seq|apply CG.region|apply SG.nil|apply NG.next|apply CG.skip|apply CG.block|apply CG.ret|apply CG.exit|apply CG.scope|apply NG.ret_then|apply NG.ret_block|apply NG.ret_scope|apply NG.exit_then|refine NG.exit_block rfl ?_|refine NG.exit_other rfl ?_|apply NG.exit_scope|apply NG.normal_block|apply NG.normal_scope|refine SG.val rfl rfl rfl rfl (by first|((first|apply qmv|apply qas|apply qlc|apply qla|apply qfa|apply qnc|apply qic|apply qix|apply qpk|apply qls|apply qei|apply qni|apply qed|apply qnd|apply qad|apply qln|apply qle|apply qgt|apply qge|apply qlk|apply qlv|apply qxt|apply qsb|apply qnt|apply qep|apply qnp|apply qeb|apply qnb|apply qcv|apply qlm|apply qfr|apply qto|apply qmx|apply qen|apply qsn|apply qx0)<;>(first|exact rfl|exact Ar.mk (by omega)|assumption|exact dct (by assumption)|exact dcf (by assumption)|exact dct (by omega)|exact dcf (by omega)|exact List.not_mem_nil|exact dc_length _|exact nc_length _|exact rc_length _ _ _|exact ec_length _|exact nm1 (by omega)|exact nm2 (by omega) (by omega)|exact dct rfl|exact dct (by decide)|exact dcf (by decide)|exact (Int.toNat_of_nonneg (by omega)).symm|exact dcu|exact lk1 (by assumption)|exact lk0 (by assumption)|exact lkb|fail))|fail) ?_)
    refine ret1 (Or.inl rfl) Try.results18 (by first | exact ResV.tmp rfl | exact ResV.agg rfl rfl (by assumption) (by first | exact dc_length _ | exact nc_length _ | exact rc_length _ _ _ | exact ec_length _ | rfl) | exact ResV.cell rfl rfl (by assumption)) ?_
    exact ⟨rfl, hk1.trans hk2⟩
  · rw [decide_eq_false g1]
    repeat (first | first|apply CG.seq|apply CG.region|apply SG.nil|apply NG.next|apply CG.skip|apply CG.block|apply CG.ret|apply CG.exit|apply CG.scope|apply NG.ret_then|apply NG.ret_block|apply NG.ret_scope|apply NG.exit_then|refine NG.exit_block rfl ?_|refine NG.exit_other rfl ?_|apply NG.exit_scope|apply NG.normal_block|apply NG.normal_scope|refine SG.val rfl rfl rfl rfl (by first|((first|apply qmv|apply qas|apply qlc|apply qla|apply qfa|apply qnc|apply qic|apply qix|apply qpk|apply qls|apply qei|apply qni|apply qed|apply qnd|apply qad|apply qln|apply qle|apply qgt|apply qge|apply qlk|apply qlv|apply qxt|apply qsb|apply qnt|apply qep|apply qnp|apply qeb|apply qnb|apply qcv|apply qlm|apply qfr|apply qto|apply qmx|apply qen|apply qsn|apply qx0)<;>(first|exact rfl|exact Ar.mk (by omega)|assumption|exact dct (by assumption)|exact dcf (by assumption)|exact dct (by omega)|exact dcf (by omega)|exact List.not_mem_nil|exact dc_length _|exact nc_length _|exact rc_length _ _ _|exact ec_length _|exact nm1 (by omega)|exact nm2 (by omega) (by omega)|exact dct rfl|exact dct (by decide)|exact dcf (by decide)|exact (Int.toNat_of_nonneg (by omega)).symm|exact dcu|exact lk1 (by assumption)|exact lk0 (by assumption)|exact lkb|fail))|fail) ?_ | refine SG.skip rfl rfl ?_)
    refine CG.cond_t rfl (by exact rho_of rfl) rfl ?_
    repeat (first|apply CG.seq|apply CG.region|apply SG.nil|apply NG.next|apply CG.skip|apply CG.block|apply CG.ret|apply CG.exit|apply CG.scope|apply NG.ret_then|apply NG.ret_block|apply NG.ret_scope|apply NG.exit_then|refine NG.exit_block rfl ?_|refine NG.exit_other rfl ?_|apply NG.exit_scope|apply NG.normal_block|apply NG.normal_scope|refine SG.val rfl rfl rfl rfl (by first|((first|apply qmv|apply qas|apply qlc|apply qla|apply qfa|apply qnc|apply qic|apply qix|apply qpk|apply qls|apply qei|apply qni|apply qed|apply qnd|apply qad|apply qln|apply qle|apply qgt|apply qge|apply qlk|apply qlv|apply qxt|apply qsb|apply qnt|apply qep|apply qnp|apply qeb|apply qnb|apply qcv|apply qlm|apply qfr|apply qto|apply qmx|apply qen|apply qsn|apply qx0)<;>(first|exact rfl|exact Ar.mk (by omega)|assumption|exact dct (by assumption)|exact dcf (by assumption)|exact dct (by omega)|exact dcf (by omega)|exact List.not_mem_nil|exact dc_length _|exact nc_length _|exact rc_length _ _ _|exact ec_length _|exact nm1 (by omega)|exact nm2 (by omega) (by omega)|exact dct rfl|exact dct (by decide)|exact dcf (by decide)|exact (Int.toNat_of_nonneg (by omega)).symm|exact dcu|exact lk1 (by assumption)|exact lk0 (by assumption)|exact lkb|fail))|fail) ?_)
    refine ret1 (Or.inl rfl) Try.results18 (by first | exact ResV.tmp rfl | exact ResV.agg rfl rfl (by assumption) (by first | exact dc_length _ | exact nc_length _ | exact rc_length _ _ _ | exact ec_length _ | rfl) | exact ResV.cell rfl rfl (by assumption)) ?_
    exact ⟨rfl, hk1⟩
end Go.Proofs.Ytfelaicoedlejaa
/-
  Strings of bytes.
-/
namespace Go.Proofs.Ytfelaicoedlejaa
set_option linter.unusedVariables false

/-- A string. -/
def sv (l : List UInt8) : Value := .string ⟨l.toArray⟩
section
variable {P : Program} {S : List Nat} {w0 : World} {F : World → Prop} {L : Env} {d : Option Nat} {ty : TypeId} {pos : String} {af : Array Edge} {g : Option (Nat × Bool)}
theorem vals_bs {T T' E : TypeId} [u : Ut P T (.slice E)] [e : Ut P E (.int .u8)] [t : Ut P T' .string] {x : Operand} {a : Option Addr} {c : Nat} {l : List UInt8} (hx : rho L x = .slice a l.length c) (hS : Sl (fun u : UInt8 => [bv u]) 1 w0 a l) (hb : ∀ b off, a = some ⟨b, off, none⟩ → b ∉ S) :
    Vals P S w0 F L ⟨d, .convert T T' x, ty, pos, af, g⟩ (sv l) := fun w hk _ => by
  have hS' := hS.kp hk (fun b off e hm => hb b off e hm)
  have hrun : (convert T T' (.slice a l.length c)).run P w = .ok (sv l) w := by
    cases a with
    | none =>
      have hl : l = [] := by
        cases l with
        | nil => rfl
        | cons y l =>
          obtain ⟨b, off, e, _⟩ := hS 0 y rfl
          cases e
      subst hl
      rw [run_convert_bytes_string w T T' E none _ c u.eq e.eq t.eq]
      rfl
    | some ad =>
      refine run_convert_bytes_back w T T' E ad c l u.eq e.eq t.eq (fun j hj => ?_)
      obtain ⟨b, off, e1, hr⟩ := hS' j l[j] (List.getElem?_eq_getElem hj)
      cases e1
      have := hr.cell (i := 0) (v := bv l[j]) rfl
      rw [add_none]
      simpa [Nat.mul_one] using this
  simp only [execOp, hx, Sem.run_bind, hrun, Result.andThen, Sem.run_pure]
theorem vals_eqs {T T' : TypeId} {x y : Operand} {a b : List UInt8} (hx : rho L x = sv a) (hy : rho L y = sv b) : Vals P S w0 F L ⟨d, .binOp .eql T x y T', ty, pos, af, g⟩ (.bool (decide (a = b))) := fun w _ _ => by
  simp only [sv] at hx hy
  simp [execOp, hx, hy, eqGuard, binOp_string_eql]
  by_cases h : a = b <;> simp [h]
theorem vals_nes {T T' : TypeId} {x y : Operand} {a b : List UInt8} (hx : rho L x = sv a) (hy : rho L y = sv b) : Vals P S w0 F L ⟨d, .binOp .neq T x y T', ty, pos, af, g⟩ (.bool (decide (a ≠ b))) := fun w _ _ => by
  simp only [sv] at hx hy
  simp [execOp, hx, hy, eqGuard, binOp_string_neq]
  by_cases h : a = b <;> simp [h]
theorem qbs {T T' E : TypeId} [u : Ut P T (.slice E)] [e : Ut P E (.int .u8)] [t : Ut P T' .string] {x : Operand} {a : Option Addr} {c n : Nat} {l : List UInt8} (hx : ro L x = some (.slice a n c)) (hS : Sl (fun u : UInt8 => [bv u]) 1 w0 a l) (hn : n = l.length) (hb : ∀ b off, a = some ⟨b, off, none⟩ → b ∉ S) :
    Vals P S w0 F L ⟨d, .convert T T' x, ty, pos, af, g⟩ (sv l) := by
  subst hn
  exact vals_bs (u := u) (e := e) (t := t) (rho_of hx) hS hb
theorem qes {T T' : TypeId} {x y : Operand} {a b : List UInt8} {c : Bool} (hx : ro L x = some (sv a)) (hy : ro L y = some (sv b)) (h : Dc (a = b) c) : Vals P S w0 F L ⟨d, .binOp .eql T x y T', ty, pos, af, g⟩ (.bool c) := h.eq ▸ vals_eqs (rho_of hx) (rho_of hy)
end
end Go.Proofs.Ytfelaicoedlejaa
/-
  A slice of bytes written as a string: its block is marked.
-/
namespace Go.Proofs.Ytfelaicoedlejaa
set_option linter.unusedVariables false

section
variable {P : Program} {n : Nat} {ops : List Oper} {Q : Exit → Act → World → Prop} {w w0 : World} {L : Env} {ty : TypeId} {pos : String} {af : Array Edge} {g : Option (Nat × Bool)} {rest : List Oper}
theorem SG.mark {T E : TypeId} [u : Ut P T (.slice E)] [e : Ut P E (.int .u8)] {d : Nat} {x : Operand} {b m c : Nat} {cs : Array Value} {E' : TypeId} (hd : Nat.blt d n = true) (hw : want ops L ⟨some d, .convert T T x, ty, pos, af, g⟩ = some true) (hk : known L x = true)
    (hx : rho L x = .slice (some ⟨b, 0, none⟩) m c) (hB : Blk w b (.cells cs E')) (hk0 : Kp [] w0 w) (hb : w0.heap.size ≤ b)
    (h : ∀ w', Kp [] w0 w' → (∀ z o, z ≠ b → Blk w z o → Blk w' z o) → Blk w' b (.cells cs E' (cs.size, cs.size + 1)) → SG P n ops Q rest ((d, .slice (some ⟨b, 0, none⟩) m c) :: L) w') : SG P n ops Q (⟨some d, .convert T T x, ty, pos, af, g⟩ :: rest) L w := by
  refine SG.op (by simpa using hd) rfl hw (by simpa [Op.operands] using hk) ?_
  unfold OpRun
  have hrun : (convert T T (.slice (some ⟨b, 0, none⟩) m c)).run P w = .ok (.slice (some ⟨b, 0, none⟩) m c) (w.freeze ⟨b, cs.size, none⟩ 1) := by
    unfold Blk at hB
    have hs : w.shape? b = some (E', cs.size) := by simp [World.shape?, hB]
    simp [convert, run_underlying u.eq, run_underlying e.eq, markStringish, shape, freeze, Sem.run, hs, Result.andThen]
  have hexec : (execOp (rho L) ⟨some d, .convert T T x, ty, pos, af, g⟩).run P w = .ok (.value (.slice (some ⟨b, 0, none⟩) m c)) (w.freeze ⟨b, cs.size, none⟩ 1) := by
    simp only [execOp, hx, Sem.run_bind, hrun, Result.andThen, Sem.run_pure]
  rw [hexec]
  have hoth : ∀ z, z ≠ b → (w.freeze ⟨b, cs.size, none⟩ 1).heap[z]? = w.heap[z]? := fun z hz => by
    simp [World.freeze, Array.getElem?_modify, Ne.symm hz]
  refine h _ ⟨?_, fun z hz _ => ?_, ?_, ?_, ?_, fun a ha => ?_, hk0.drawn⟩ (fun z o hz hB' => (hoth z hz).trans hB') ?_
  · simpa [World.freeze] using hk0.size
  · rw [hoth z (by omega)]
    exact hk0.blk z hz (by simp)
  · simpa [World.freeze] using hk0.os
  · simpa [World.freeze] using hk0.tape
  · simpa [World.freeze] using hk0.output
  · rw [← hk0.fz a ha]
    unfold World.frozen?
    rw [hoth a.block (by omega)]
  · unfold Blk at hB ⊢
    simp [World.freeze, Array.getElem?_modify, hB]
end
end Go.Proofs.Ytfelaicoedlejaa
/-
  What every law of the net asks of a net of its own.
-/
namespace Go.Proofs.Ytfelaicoedlejaa
set_option linter.unusedVariables false

theorem bs33 (w : World) : (Instr.buildSlice 33 1 [(0, Value.int .u8 120)].toArray).run Try.prog w = .ok (.slice (some ⟨w.heap.size, 0, none⟩) 1 1) { w with heap := w.heap.push (.cells #[.int .u8 120] 5) } := by kernel_rfl
theorem bs29 (w : World) (a b : Int) : (Instr.buildSlice 29 2 [(0, Value.int .i64 a), (1, Value.int .i64 b)].toArray).run Try.prog w = .ok (.slice (some ⟨w.heap.size, 0, none⟩) 2 2) { w with heap := w.heap.push (.cells #[.int .i64 a, .int .i64 b] 3) } := by kernel_rfl
theorem build35 (w : World) (a : Option Addr) (n c : Nat) (t : Int) : (Instr.build 35 #[(1, Value.int .i64 t), (2, .slice a n c)]).run Try.prog w = .ok (.agg #[.int .i64 0, .int .i64 t, .slice a n c]) w := by kernel_rfl
theorem build31 (w : World) (a : Option Addr) (n c : Nat) : (Instr.build 31 #[(0, Value.slice a n c)]).run Try.prog w = .ok (.agg #[.slice a n c]) w := by kernel_rfl

theorem Row.sub {w : World} {b off : Nat} (A B C : List Value) (h : Row w b off (A ++ (B ++ C))) : Row w b (off + A.length) B := by
  obtain ⟨cs, T, f, hb, hc⟩ := h
  refine ⟨cs, T, f, hb, fun i v hv => ?_⟩
  have hi : i < B.length := (List.getElem?_eq_some_iff.1 hv).1
  have := hc (A.length + i) v (by rw [List.getElem?_append_right (by omega), List.getElem?_append_left (by omega), ← hv]; congr 1; omega)
  rw [← this]
  congr 1
  omega
theorem one_of {l : List Lt} {f t : Nat} {bs : List UInt8} (h : l.map ltc = [(f, t, bs)]) : ∃ a c, l = [⟨f, t, bs, a, c⟩] := by
  match l, h with
  | [⟨f', t', bs', a, c⟩], h =>
    simp only [List.map_cons, List.map_nil, ltc, List.cons.injEq, Prod.mk.injEq, and_true] at h
    obtain ⟨rfl, rfl, rfl⟩ := h
    exact ⟨a, c, rfl⟩

theorem inc_length (z : Int) : (inc z).length = 1 := rfl
theorem sl_blk {α : Type} {enc : α → List Value} {sz : Nat} (he : ∀ x, (enc x).length = sz) {w : World} {b : Nat} {cs : Array Value} {T : TypeId} {f : Nat × Nat} {l : List α} (h : Blk w b (.cells cs T f)) (e : cs.toList = flt enc l) : Sl enc sz w (some ⟨b, 0, none⟩) l := fun i x hx => by
  have hi : i < l.length := (List.getElem?_eq_some_iff.1 hx).1
  rw [List.getElem?_eq_getElem hi] at hx
  cases hx
  refine ⟨b, 0, rfl, Row.of h (flt enc (l.take i)) (flt enc (l.drop (i + 1))) ?_ ?_⟩
  · rw [e, flt_split l i hi]
  · simp [flt_length he, Nat.min_eq_left (Nat.le_of_lt hi)]

attribute [local irreducible] CG NG SG Vals Der Row Blk MapIs IterAt DerX
set_option maxHeartbeats 8000000 in
theorem told_spec (w : World) : Ret Try.prog 12 #[] w (.bool true) := by
  refine enter0 Try.func12 rfl Try.ntmps12 ?_
  repeat (first|apply CG.seq|apply CG.region|apply SG.nil|apply NG.next|apply CG.skip|apply CG.block|apply CG.ret|apply CG.exit|apply CG.scope|apply NG.ret_then|apply NG.ret_block|apply NG.ret_scope|apply NG.exit_then|refine NG.exit_block rfl ?_|refine NG.exit_other rfl ?_|apply NG.exit_scope|apply NG.normal_block|apply NG.normal_scope|refine SG.val rfl rfl rfl rfl (by first|((first|apply qmv|apply qas|apply qlc|apply qla|apply qfa|apply qnc|apply qic|apply qix|apply qpk|apply qls|apply qei|apply qni|apply qed|apply qnd|apply qad|apply qln|apply qle|apply qgt|apply qge|apply qlk|apply qlv|apply qxt|apply qsb|apply qnt|apply qep|apply qnp|apply qeb|apply qnb|apply qcv|apply qlm|apply qfr|apply qto|apply qmx|apply qen|apply qsn|apply qx0)<;>(first|exact rfl|exact Ar.mk (by omega)|assumption|exact dct (by assumption)|exact dcf (by assumption)|exact dct (by omega)|exact dcf (by omega)|exact List.not_mem_nil|exact dc_length _|exact nc_length _|exact rc_length _ _ _|exact ec_length _|exact nm1 (by omega)|exact nm2 (by omega) (by omega)|exact dct rfl|exact dct (by decide)|exact dcf (by decide)|exact (Int.toNat_of_nonneg (by omega)).symm|exact dcu|exact lk1 (by assumption)|exact lk0 (by assumption)|exact lkb|fail))|fail) ?_)
  refine SG.call rfl rfl rfl (by repeat' (first | exact True.intro | exact rho_of rfl | refine And.intro ?_ ?_)) ((netnew_good w 2 (by omega) (by omega)).mono (fun e w1 h => ?_))
  obtain ⟨bt, bm, he, hR, hbt, hbm, hne, hk1⟩ := h
  refine ⟨_, he, ?_⟩
  repeat (first | first|apply CG.seq|apply CG.region|apply SG.nil|apply NG.next|apply CG.skip|apply CG.block|apply CG.ret|apply CG.exit|apply CG.scope|apply NG.ret_then|apply NG.ret_block|apply NG.ret_scope|apply NG.exit_then|refine NG.exit_block rfl ?_|refine NG.exit_other rfl ?_|apply NG.exit_scope|apply NG.normal_block|apply NG.normal_scope|refine SG.val rfl rfl rfl rfl (by first|((first|apply qmv|apply qas|apply qlc|apply qla|apply qfa|apply qnc|apply qic|apply qix|apply qpk|apply qls|apply qei|apply qni|apply qed|apply qnd|apply qad|apply qln|apply qle|apply qgt|apply qge|apply qlk|apply qlv|apply qxt|apply qsb|apply qnt|apply qep|apply qnp|apply qeb|apply qnb|apply qcv|apply qlm|apply qfr|apply qto|apply qmx|apply qen|apply qsn|apply qx0)<;>(first|exact rfl|exact Ar.mk (by omega)|assumption|exact dct (by assumption)|exact dcf (by assumption)|exact dct (by omega)|exact dcf (by omega)|exact List.not_mem_nil|exact dc_length _|exact nc_length _|exact rc_length _ _ _|exact ec_length _|exact nm1 (by omega)|exact nm2 (by omega) (by omega)|exact dct rfl|exact dct (by decide)|exact dcf (by decide)|exact (Int.toNat_of_nonneg (by omega)).symm|exact dcu|exact lk1 (by assumption)|exact lk0 (by assumption)|exact lkb|fail))|fail) ?_ | refine SG.skip rfl rfl ?_)
  refine SG.buildSlice rfl rfl rfl rfl (fun w => bs33 w) (fun b8 w2 hk2 hb8 hB8 => ?_)
  refine SG.mark rfl rfl rfl (by exact rho_of rfl) hB8 hk2 hb8 (fun w3 hk3 hoth hB3 => ?_)
  refine SG.val rfl rfl rfl rfl (vals_build rfl (fun w => build35 w _ 1 1 1)) ?_
  refine SG.buildSlice rfl rfl rfl rfl (fun w => bs29 w 0 2) (fun b9 w4 hk4 hb9 hB9 => ?_)
  refine SG.val rfl rfl rfl rfl (vals_build rfl (fun w => build31 w _ 2 2)) ?_
  have hR4 := hR.kp0 (hk3.trans hk4)
  have hSb : Sl byc 1 w4 (some ⟨b8, 0, none⟩) [120] := sl_blk byc_length (hB3.kp0 hk4) rfl
  have hS : ∀ w', Kp (sendS bt bm []) w4 w' → SlI w' (some ⟨b9, 0, none⟩) [0, 2] := fun w' hk' => sl_blk (enc := inc) inc_length (hB9.kp hk' (nm2 (by have := hR.blk.lt; have := hk3.size; omega) (by have := hR.map.lt; have := hk3.size; omega))) rfl
  refine SG.call rfl rfl rfl (by repeat' (first | exact True.intro | exact rho_of rfl | refine And.intro ?_ ?_)) ((send_good hR4 (Nat.zero_le _) (Nat.zero_le _) 0 1 (some ⟨b8, 0, none⟩) 1 [120] hSb (some ⟨b9, 0, none⟩) 2 [0, 2] hS rfl).mono (fun e w5 h => ?_))
  obtain ⟨due5, he5, hR5, hU5, hk5⟩ := h
  refine ⟨_, he5, ?_⟩
  repeat (first | first|apply CG.seq|apply CG.region|apply SG.nil|apply NG.next|apply CG.skip|apply CG.block|apply CG.ret|apply CG.exit|apply CG.scope|apply NG.ret_then|apply NG.ret_block|apply NG.ret_scope|apply NG.exit_then|refine NG.exit_block rfl ?_|refine NG.exit_other rfl ?_|apply NG.exit_scope|apply NG.normal_block|apply NG.normal_scope|refine SG.val rfl rfl rfl rfl (by first|((first|apply qmv|apply qas|apply qlc|apply qla|apply qfa|apply qnc|apply qic|apply qix|apply qpk|apply qls|apply qei|apply qni|apply qed|apply qnd|apply qad|apply qln|apply qle|apply qgt|apply qge|apply qlk|apply qlv|apply qxt|apply qsb|apply qnt|apply qep|apply qnp|apply qeb|apply qnb|apply qcv|apply qlm|apply qfr|apply qto|apply qmx|apply qen|apply qsn|apply qx0)<;>(first|exact rfl|exact Ar.mk (by omega)|assumption|exact dct (by assumption)|exact dcf (by assumption)|exact dct (by omega)|exact dcf (by omega)|exact List.not_mem_nil|exact dc_length _|exact nc_length _|exact rc_length _ _ _|exact ec_length _|exact nm1 (by omega)|exact nm2 (by omega) (by omega)|exact dct rfl|exact dct (by decide)|exact dcf (by decide)|exact (Int.toNat_of_nonneg (by omega)).symm|exact dcu|exact lk1 (by assumption)|exact lk0 (by assumption)|exact lkb|fail))|fail) ?_ | refine SG.skip rfl rfl ?_)
  refine CG.cond_f rfl (by exact rho_of rfl) rfl ?_
  repeat (first|apply CG.seq|apply CG.region|apply SG.nil|apply NG.next|apply CG.skip|apply CG.block|apply CG.ret|apply CG.exit|apply CG.scope|apply NG.ret_then|apply NG.ret_block|apply NG.ret_scope|apply NG.exit_then|refine NG.exit_block rfl ?_|refine NG.exit_other rfl ?_|apply NG.exit_scope|apply NG.normal_block|apply NG.normal_scope|refine SG.val rfl rfl rfl rfl (by first|((first|apply qmv|apply qas|apply qlc|apply qla|apply qfa|apply qnc|apply qic|apply qix|apply qpk|apply qls|apply qei|apply qni|apply qed|apply qnd|apply qad|apply qln|apply qle|apply qgt|apply qge|apply qlk|apply qlv|apply qxt|apply qsb|apply qnt|apply qep|apply qnp|apply qeb|apply qnb|apply qcv|apply qlm|apply qfr|apply qto|apply qmx|apply qen|apply qsn|apply qx0)<;>(first|exact rfl|exact Ar.mk (by omega)|assumption|exact dct (by assumption)|exact dcf (by assumption)|exact dct (by omega)|exact dcf (by omega)|exact List.not_mem_nil|exact dc_length _|exact nc_length _|exact rc_length _ _ _|exact ec_length _|exact nm1 (by omega)|exact nm2 (by omega) (by omega)|exact dct rfl|exact dct (by decide)|exact dcf (by decide)|exact (Int.toNat_of_nonneg (by omega)).symm|exact dcu|exact lk1 (by assumption)|exact lk0 (by assumption)|exact lkb|fail))|fail) ?_)
  have hR5 : Rep w5 bt bm ⟨2, 0, 2, [⟨0, 1, [120], 0⟩, ⟨0, 1, [120], 2⟩], List.replicate 256 false, [0, 1]⟩ due5 := hR5
  refine SG.call rfl rfl rfl (by repeat' (first | exact True.intro | exact rho_of rfl | refine And.intro ?_ ?_)) ((step_spec hR5 (Nat.zero_le _) (by decide) (by decide)).mono (fun e w6 h => ?_))
  obtain ⟨v6, due6, l6, he6, ho6, hl6, hb6, hR6, hU6, hk6⟩ := h
  refine ⟨_, he6, ?_⟩
  repeat (first|apply CG.seq|apply CG.region|apply SG.nil|apply NG.next|apply CG.skip|apply CG.block|apply CG.ret|apply CG.exit|apply CG.scope|apply NG.ret_then|apply NG.ret_block|apply NG.ret_scope|apply NG.exit_then|refine NG.exit_block rfl ?_|refine NG.exit_other rfl ?_|apply NG.exit_scope|apply NG.normal_block|apply NG.normal_scope|refine SG.val rfl rfl rfl rfl (by first|((first|apply qmv|apply qas|apply qlc|apply qla|apply qfa|apply qnc|apply qic|apply qix|apply qpk|apply qls|apply qei|apply qni|apply qed|apply qnd|apply qad|apply qln|apply qle|apply qgt|apply qge|apply qlk|apply qlv|apply qxt|apply qsb|apply qnt|apply qep|apply qnp|apply qeb|apply qnb|apply qcv|apply qlm|apply qfr|apply qto|apply qmx|apply qen|apply qsn|apply qx0)<;>(first|exact rfl|exact Ar.mk (by omega)|assumption|exact dct (by assumption)|exact dcf (by assumption)|exact dct (by omega)|exact dcf (by omega)|exact List.not_mem_nil|exact dc_length _|exact nc_length _|exact rc_length _ _ _|exact ec_length _|exact nm1 (by omega)|exact nm2 (by omega) (by omega)|exact dct rfl|exact dct (by decide)|exact dcf (by decide)|exact (Int.toNat_of_nonneg (by omega)).symm|exact dcu|exact lk1 (by assumption)|exact lk0 (by assumption)|exact lkb|fail))|fail) ?_)
  have hR6 : Rep w6 bt bm ⟨2, 1, 2, [⟨0, 1, [120], 2⟩], List.replicate 256 false, [1]⟩ due6 := hR6
  refine SG.call rfl rfl rfl (by repeat' (first | exact True.intro | exact rho_of rfl | refine And.intro ?_ ?_)) ((step_spec hR6 (by decide) (by decide) (by decide)).mono (fun e w7 h => ?_))
  obtain ⟨v7, due7, l7, he7, ho7, hl7, hb7, hR7, hU7, hk7⟩ := h
  refine ⟨_, he7, ?_⟩
  repeat (first|apply CG.seq|apply CG.region|apply SG.nil|apply NG.next|apply CG.skip|apply CG.block|apply CG.ret|apply CG.exit|apply CG.scope|apply NG.ret_then|apply NG.ret_block|apply NG.ret_scope|apply NG.exit_then|refine NG.exit_block rfl ?_|refine NG.exit_other rfl ?_|apply NG.exit_scope|apply NG.normal_block|apply NG.normal_scope|refine SG.val rfl rfl rfl rfl (by first|((first|apply qmv|apply qas|apply qlc|apply qla|apply qfa|apply qnc|apply qic|apply qix|apply qpk|apply qls|apply qei|apply qni|apply qed|apply qnd|apply qad|apply qln|apply qle|apply qgt|apply qge|apply qlk|apply qlv|apply qxt|apply qsb|apply qnt|apply qep|apply qnp|apply qeb|apply qnb|apply qcv|apply qlm|apply qfr|apply qto|apply qmx|apply qen|apply qsn|apply qx0)<;>(first|exact rfl|exact Ar.mk (by omega)|assumption|exact dct (by assumption)|exact dcf (by assumption)|exact dct (by omega)|exact dcf (by omega)|exact List.not_mem_nil|exact dc_length _|exact nc_length _|exact rc_length _ _ _|exact ec_length _|exact nm1 (by omega)|exact nm2 (by omega) (by omega)|exact dct rfl|exact dct (by decide)|exact dcf (by decide)|exact (Int.toNat_of_nonneg (by omega)).symm|exact dcu|exact lk1 (by assumption)|exact lk0 (by assumption)|exact lkb|fail))|fail) ?_)
  have hR7 : Rep w7 bt bm ⟨2, 2, 2, [⟨0, 1, [120], 2⟩], List.replicate 256 false, [1]⟩ due7 := hR7
  refine SG.call rfl rfl rfl (by repeat' (first | exact True.intro | exact rho_of rfl | refine And.intro ?_ ?_)) ((step_spec hR7 (by decide) (by decide) (by decide)).mono (fun e w8 h => ?_))
  obtain ⟨v8, due8, l8, he8, ho8, hl8, hb8', hR8, hU8, hk8⟩ := h
  refine ⟨_, he8, ?_⟩
  have hR8 : Rep w8 bt bm ⟨2, 3, 2, [], List.replicate 256 false, []⟩ due8 := hR8
  obtain ⟨a6, c6, rfl⟩ := one_of (f := 0) (t := 1) (bs := [120]) hl6
  obtain ⟨a8, c8, rfl⟩ := one_of (f := 0) (t := 1) (bs := [120]) hl8
  have h7 : l7 = [] := List.map_eq_nil_iff.1 (hl7.trans rfl)
  subst h7
  have eT := hR5.blk.lt
  have eM := hR5.map.lt
  have nb6 := own_nb ho6
  have k78 : Kp [bt, bm] w6 w8 := hk7.trans hk8
  have ho6 := own_kp ho6 k78 (fun b hb hm => by
    rcases List.mem_cons.1 hm with rfl | hm
    · exact nb6 _ eT (mem_ownB.2 hb)
    · rw [List.mem_singleton] at hm
      subst hm
      exact nb6 _ eM (mem_ownB.2 hb))
  obtain ⟨p6, q6, rfl, hS6⟩ := SlF.own (n := 1) lcl_length ho6 rfl
  obtain ⟨p7, q7, rfl, hS7⟩ := SlF.own (n := 0) lcl_length ho7 rfl
  obtain ⟨p8, q8, rfl, hS8⟩ := SlF.own (n := 1) lcl_length ho8 rfl
  obtain ⟨g6, o6, rfl, hr6⟩ := hS6.sl.at (i := 0) (Nat.zero_lt_one)
  have hr6 : Row w8 g6 o6 [.int .i64 0, .int .i64 1, .slice a6 1 c6] := hr6
  have hr61 : Row w8 g6 (o6 + 1) [.int .i64 1] := Row.sub [.int .i64 0] _ [.slice a6 1 c6] hr6
  have hr62 : Row w8 g6 (o6 + 2) [.slice a6 1 c6] := Row.sub [.int .i64 0, .int .i64 1] _ [] hr6
  have hSb6 : Sl (fun u : UInt8 => [bv u]) 1 w8 a6 [120] := by
    obtain ⟨hby, hfr⟩ := hb6 _ (List.mem_singleton.2 rfl)
    exact (hby.kp k78 (fun b off e => nm2 (by have := hfr b off e; omega) (by have := hfr b off e; omega))).sl
  repeat (first | first|apply CG.seq|apply CG.region|apply SG.nil|apply NG.next|apply CG.skip|apply CG.block|apply CG.ret|apply CG.exit|apply CG.scope|apply NG.ret_then|apply NG.ret_block|apply NG.ret_scope|apply NG.exit_then|refine NG.exit_block rfl ?_|refine NG.exit_other rfl ?_|apply NG.exit_scope|apply NG.normal_block|apply NG.normal_scope|refine SG.val rfl rfl rfl rfl (by first|((first|apply qmv|apply qas|apply qlc|apply qla|apply qfa|apply qnc|apply qic|apply qix|apply qpk|apply qls|apply qei|apply qni|apply qed|apply qnd|apply qad|apply qln|apply qle|apply qgt|apply qge|apply qlk|apply qlv|apply qxt|apply qsb|apply qnt|apply qep|apply qnp|apply qeb|apply qnb|apply qcv|apply qlm|apply qfr|apply qto|apply qmx|apply qen|apply qsn|apply qx0)<;>(first|exact rfl|exact Ar.mk (by omega)|assumption|exact dct (by assumption)|exact dcf (by assumption)|exact dct (by omega)|exact dcf (by omega)|exact List.not_mem_nil|exact dc_length _|exact nc_length _|exact rc_length _ _ _|exact ec_length _|exact nm1 (by omega)|exact nm2 (by omega) (by omega)|exact dct rfl|exact dct (by decide)|exact dcf (by decide)|exact (Int.toNat_of_nonneg (by omega)).symm|exact dcu|exact lk1 (by assumption)|exact lk0 (by assumption)|exact lkb|fail))|fail) ?_ | refine SG.skip rfl rfl ?_)
  refine SG.val rfl rfl rfl rfl (qbs rfl hSb6 rfl (fun _ _ _ => List.not_mem_nil)) ?_
  refine SG.val rfl rfl rfl rfl (qes (a := [120]) (b := [120]) rfl rfl (dct rfl)) ?_
  repeat (first | first|apply CG.seq|apply CG.region|apply SG.nil|apply NG.next|apply CG.skip|apply CG.block|apply CG.ret|apply CG.exit|apply CG.scope|apply NG.ret_then|apply NG.ret_block|apply NG.ret_scope|apply NG.exit_then|refine NG.exit_block rfl ?_|refine NG.exit_other rfl ?_|apply NG.exit_scope|apply NG.normal_block|apply NG.normal_scope|refine SG.val rfl rfl rfl rfl (by first|((first|apply qmv|apply qas|apply qlc|apply qla|apply qfa|apply qnc|apply qic|apply qix|apply qpk|apply qls|apply qei|apply qni|apply qed|apply qnd|apply qad|apply qln|apply qle|apply qgt|apply qge|apply qlk|apply qlv|apply qxt|apply qsb|apply qnt|apply qep|apply qnp|apply qeb|apply qnb|apply qcv|apply qlm|apply qfr|apply qto|apply qmx|apply qen|apply qsn|apply qx0)<;>(first|exact rfl|exact Ar.mk (by omega)|assumption|exact dct (by assumption)|exact dcf (by assumption)|exact dct (by omega)|exact dcf (by omega)|exact List.not_mem_nil|exact dc_length _|exact nc_length _|exact rc_length _ _ _|exact ec_length _|exact nm1 (by omega)|exact nm2 (by omega) (by omega)|exact dct rfl|exact dct (by decide)|exact dcf (by decide)|exact (Int.toNat_of_nonneg (by omega)).symm|exact dcu|exact lk1 (by assumption)|exact lk0 (by assumption)|exact lkb|fail))|fail) ?_ | refine SG.skip rfl rfl ?_)
  refine SG.ret rfl rfl rfl (by repeat' (first | exact True.intro | exact rho_of rfl | refine And.intro ?_ ?_)) (now_spec hR8) (fun w9 hk9 => ?_)
  have hR9 := hR8.kp0 hk9
  repeat (first | first|apply CG.seq|apply CG.region|apply SG.nil|apply NG.next|apply CG.skip|apply CG.block|apply CG.ret|apply CG.exit|apply CG.scope|apply NG.ret_then|apply NG.ret_block|apply NG.ret_scope|apply NG.exit_then|refine NG.exit_block rfl ?_|refine NG.exit_other rfl ?_|apply NG.exit_scope|apply NG.normal_block|apply NG.normal_scope|refine SG.val rfl rfl rfl rfl (by first|((first|apply qmv|apply qas|apply qlc|apply qla|apply qfa|apply qnc|apply qic|apply qix|apply qpk|apply qls|apply qei|apply qni|apply qed|apply qnd|apply qad|apply qln|apply qle|apply qgt|apply qge|apply qlk|apply qlv|apply qxt|apply qsb|apply qnt|apply qep|apply qnp|apply qeb|apply qnb|apply qcv|apply qlm|apply qfr|apply qto|apply qmx|apply qen|apply qsn|apply qx0)<;>(first|exact rfl|exact Ar.mk (by omega)|assumption|exact dct (by assumption)|exact dcf (by assumption)|exact dct (by omega)|exact dcf (by omega)|exact List.not_mem_nil|exact dc_length _|exact nc_length _|exact rc_length _ _ _|exact ec_length _|exact nm1 (by omega)|exact nm2 (by omega) (by omega)|exact dct rfl|exact dct (by decide)|exact dcf (by decide)|exact (Int.toNat_of_nonneg (by omega)).symm|exact dcu|exact lk1 (by assumption)|exact lk0 (by assumption)|exact lkb|fail))|fail) ?_ | refine SG.skip rfl rfl ?_)
  refine SG.ret rfl rfl rfl (by repeat' (first | exact True.intro | exact rho_of rfl | refine And.intro ?_ ?_)) (way_spec hR9) (fun w10 hk10 => ?_)
  repeat (first | first|apply CG.seq|apply CG.region|apply SG.nil|apply NG.next|apply CG.skip|apply CG.block|apply CG.ret|apply CG.exit|apply CG.scope|apply NG.ret_then|apply NG.ret_block|apply NG.ret_scope|apply NG.exit_then|refine NG.exit_block rfl ?_|refine NG.exit_other rfl ?_|apply NG.exit_scope|apply NG.normal_block|apply NG.normal_scope|refine SG.val rfl rfl rfl rfl (by first|((first|apply qmv|apply qas|apply qlc|apply qla|apply qfa|apply qnc|apply qic|apply qix|apply qpk|apply qls|apply qei|apply qni|apply qed|apply qnd|apply qad|apply qln|apply qle|apply qgt|apply qge|apply qlk|apply qlv|apply qxt|apply qsb|apply qnt|apply qep|apply qnp|apply qeb|apply qnb|apply qcv|apply qlm|apply qfr|apply qto|apply qmx|apply qen|apply qsn|apply qx0)<;>(first|exact rfl|exact Ar.mk (by omega)|assumption|exact dct (by assumption)|exact dcf (by assumption)|exact dct (by omega)|exact dcf (by omega)|exact List.not_mem_nil|exact dc_length _|exact nc_length _|exact rc_length _ _ _|exact ec_length _|exact nm1 (by omega)|exact nm2 (by omega) (by omega)|exact dct rfl|exact dct (by decide)|exact dcf (by decide)|exact (Int.toNat_of_nonneg (by omega)).symm|exact dcu|exact lk1 (by assumption)|exact lk0 (by assumption)|exact lkb|fail))|fail) ?_ | refine SG.skip rfl rfl ?_)
  refine ret1 (Or.inl rfl) Try.results12 (by first | exact ResV.tmp rfl | exact ResV.agg rfl rfl (by assumption) (by first | exact dc_length _ | exact nc_length _ | exact rc_length _ _ _ | exact ec_length _ | rfl) | exact ResV.cell rfl rfl (by assumption)) ?_
  refine ⟨rfl, ?_⟩
  have hn : ∀ x ∈ [bt, bm], x ∈ ([] : List Nat) ∨ w.heap.size ≤ x := new2 hbt hbm
  have k5 : Kp [] w w5 := ((hk1.trans hk3).trans hk4).trans_new hk5 hn
  exact (((k5.trans_new hk6 hn).trans_new k78 hn).trans hk9).trans hk10
end Go.Proofs.Ytfelaicoedlejaa
/-
  One net that a law has made: what it does, with the rest of memory kept.
-/
namespace Go.Proofs.Ytfelaicoedlejaa
set_option linter.unusedVariables false

/-- All blocks are kept that are no net's: cells of other types, other maps. -/
structure Kt (bm : Nat) (w w' : World) : Prop where
  cells : ∀ z cs T f, T ≠ 72 → T ≠ 77 → Blk w z (.cells cs T f) → Blk w' z (.cells cs T f)
  maps : ∀ z es c, z ≠ bm → Blk w z (.map es c) → Blk w' z (.map es c)
theorem Kt.trans {bm : Nat} {w w' w'' : World} (h : Kt bm w w') (k : Kt bm w' w'') : Kt bm w w'' :=
  ⟨fun z cs T f h1 h2 hz => k.cells z cs T f h1 h2 (h.cells z cs T f h1 h2 hz), fun z es c h1 hz => k.maps z es c h1 (h.maps z es c h1 hz)⟩
theorem Kt.of0 {bm : Nat} {w w' : World} (h : Kp [] w w') : Kt bm w w' := ⟨fun z cs T f _ _ hz => hz.kp0 h, fun z es c _ hz => hz.kp0 h⟩
theorem mem_sendS {bt bm : Nat} {due : Due} {z : Nat} (h : z ∈ sendS bt bm due) : z = bt ∨ z = bm ∨ ∃ e ∈ due, e.2.1.ownBlock = some z := by
  simp only [sendS, List.mem_cons, List.mem_flatMap] at h
  rcases h with h | h | ⟨e, he, h⟩
  · exact Or.inl h
  · exact Or.inr (Or.inl h)
  · exact Or.inr (Or.inr ⟨e, he, mem_ownB.1 h⟩)
theorem uses_sendS {bt bm : Nat} {due : Due} {z : Nat} (h : z ∈ sendS bt bm due) : Uses bt bm due z := by
  rcases mem_sendS h with h | h | h
  · exact Or.inl h
  · exact Or.inr (Or.inl h)
  · exact Or.inr (Or.inr (Or.inl h))
theorem ne_tyf {w : World} {b z : Nat} {cs cs' : Array Value} {T T' : TypeId} {f f' : Nat × Nat} (hT : T ≠ T') (h : Blk w b (.cells cs T f)) (h' : Blk w z (.cells cs' T' f')) : z ≠ b := by
  rintro rfl
  have := h.uniq h'
  simp only [Obj.cells.injEq] at this
  exact hT this.2.1
theorem ne_mapf {w : World} {b z : Nat} {es : Array MapEntry} {c : Nat} {cs : Array Value} {T : TypeId} {f : Nat × Nat} (h : Blk w b (.map es c)) (h' : Blk w z (.cells cs T f)) : z ≠ b := by
  rintro rfl
  cases h.uniq h'
theorem Kt.send {w w' : World} {bt bm : Nat} {s : Ns} {due : Due} (hR : Rep w bt bm s due) (hk : Kp (sendS bt bm due) w w') : Kt bm w w' := by
  obtain ⟨es, ec, hmb⟩ := hR.map.blk
  refine ⟨fun z cs T f h1 h2 hz => hz.kp hk (fun hm => ?_), fun z es' c h1 hz => hz.kp hk (fun hm => ?_)⟩
  · rcases mem_sendS hm with rfl | rfl | ⟨e, he, hb⟩
    · exact ne_tyf h1 hz hR.blk rfl
    · exact ne_mapf hmb hz rfl
    · obtain ⟨cs', hc⟩ := own_blk (hR.own e he) hb
      exact ne_tyf h2 hz hc rfl
  · rcases mem_sendS hm with rfl | rfl | ⟨e, he, hb⟩
    · exact ne_mapf hz hR.blk rfl
    · exact h1 rfl
    · obtain ⟨cs', hc⟩ := own_blk (hR.own e he) hb
      exact ne_mapf hz hc rfl
theorem Kt.two {w w' : World} {bt bm : Nat} {s : Ns} {due : Due} (hR : Rep w bt bm s due) (hk : Kp [bt, bm] w w') : Kt bm w w' :=
  Kt.send hR (hk.mono (fun x hx => by
    rcases List.mem_cons.1 hx with rfl | hx
    · simp [sendS]
    · rw [List.mem_singleton] at hx
      subst hx
      simp [sendS]))
theorem own_kt {bm : Nat} {w w' : World} {base n sz : Nat} {T : TypeId} {v : Value} {xs : List Value} (h : w.ownsRow base T sz v n xs) (hk : Kt bm w w') (h1 : T ≠ 72) (h2 : T ≠ 77) : w'.ownsRow base T sz v n xs := by
  obtain ⟨g1, g2⟩ := h
  refine ⟨g1, ?_⟩
  rcases g2 with g2 | ⟨g, cap, cur, rfl, hg, hh, hr⟩
  · exact Or.inl g2
  · exact Or.inr ⟨g, cap, cur, rfl, hg, hk.cells g cur T (0, 0) h1 h2 hh, hr⟩
theorem ByAt.kt {bm : Nat} {w w' : World} {a : Option Addr} {l : List UInt8} (h : ByAt w a l) (hk : Kt bm w w') : ByAt w' a l := fun i u hu => by
  obtain ⟨b, off, cs, h1, h2, h3⟩ := h i u hu
  exact ⟨b, off, cs, h1, hk.cells _ _ _ _ (by decide) (by decide) h2, h3⟩

/-! more of code and of bytes -/
/-- A cut: what is known behind c, where B goes on. -/
theorem CG.cut_then {P : Program} {n : Nat} {Q Q' : Exit → Act → World → Prop} {L : Env} {w : World} {c B : Code} (M : Env → World → Prop) (h : CG P n c (Exit.then (fun a w => ∃ L, Fits n a L ∧ M L w) Q') L w) (h2 : ∀ L w, M L w → CG P n B Q L w) : CG P n c (Exit.then (B.wp P Q) Q') L w := by
  refine fun a ha => wp_mono (h a ha) (fun e a w hq => ?_)
  cases e <;> first | exact hq | (obtain ⟨L, h1, h2'⟩ := hq; exact h2 L w h2' a h1)
theorem qx1 {P : Program} {S : List Nat} {w0 : World} {F : World → Prop} {L : Env} {d : Option Nat} {ty : TypeId} {pos : String} {af : Array Edge} {g : Option (Nat × Bool)} {T T' : TypeId} {x y : Operand} {a b : Int} (hx : ro L x = some (.int .u8 a)) (hy : ro L y = some (.int .u8 b)) (h : Ar (0 ≤ a ∧ 0 < b)) :
    Vals P S w0 F L ⟨d, .binOp .rem T x y T', ty, pos, af, g⟩ (.int .u8 (a % b)) := fun w _ _ => by
  have hb : b ≠ 0 := by have := h.h; omega
  simp [execOp, rho_of hx, rho_of hy, eqGuard, binOp, Op.intDiv, hb]
  exact Int.tmod_eq_emod_of_nonneg h.h.1
theorem qx2 {P : Program} {S : List Nat} {w0 : World} {F : World → Prop} {L : Env} {d : Option Nat} {ty : TypeId} {pos : String} {af : Array Edge} {g : Option (Nat × Bool)} {T T' : TypeId} [u : Ut P T (.int .u8)] [u' : Ut P T' (.int .i64)] {x : Operand} {a : Int} (hx : ro L x = some (.int .u8 a)) (h : Ar (0 ≤ a ∧ a < 256)) :
    Vals P S w0 F L ⟨d, .convert T T' x, ty, pos, af, g⟩ (.int .i64 a) := by
  have := qcv (P := P) (S := S) (w0 := w0) (F := F) (d := d) (ty := ty) (pos := pos) (af := af) (g := g) (u := u) (u' := u') hx
  have e : IntKind.wrap .i64 a = a := by
    have := h.h
    simp only [IntKind.wrap, IntKind.signed, IntKind.bits]
    simp
    omega
  rwa [e] at this
theorem qx3 {S : List Nat} {w0 : World} {F : World → Prop} {L : Env} {d : Option Nat} {ty : TypeId} {pos : String} {af : Array Edge} {g : Option (Nat × Bool)} {T E : TypeId} {n : Nat} [u : Ut Try.prog T (.array n E)] {sz : Nat} [f : Sz Try.prog E sz] {x : Operand} {b off : Nat} {k : IntKind} {z : Int} (hx : ro L x = some (.pointer (some ⟨b, off, none⟩))) (h1 : Ar (0 ≤ z ∧ z < n)) :
    Vals Try.prog S w0 F L ⟨d, .indexAddr T x (.const (.int k z)), ty, pos, af, g⟩ (.pointer (some ⟨b, off + z.toNat * sz, none⟩)) := qia (u := u) (f := f) (k := k) (z := z) hx rfl (Int.toNat_of_nonneg h1.h.1).symm ⟨by have := h1.h; omega⟩
theorem qx4 {P : Program} {S : List Nat} {w0 : World} {F : World → Prop} {L : Env} {d : Option Nat} {ty : TypeId} {pos : String} {af : Array Edge} {g : Option (Nat × Bool)} {T T' : TypeId} [u : Ut P T (.int .i64)] [u' : Ut P T' (.int .u8)] {x : Operand} {a : Int} (hx : ro L x = some (.int .i64 a)) (h : Ar (0 ≤ a ∧ a < 256)) :
    Vals P S w0 F L ⟨d, .convert T T' x, ty, pos, af, g⟩ (.int .u8 a) := by
  have := qcv (P := P) (S := S) (w0 := w0) (F := F) (d := d) (ty := ty) (pos := pos) (af := af) (g := g) (u := u) (u' := u') hx
  have e : IntKind.wrap .u8 a = a := by
    have := h.h
    simp only [IntKind.wrap, IntKind.signed, IntKind.bits]
    simp
    omega
  rwa [e] at this
theorem qx5 {P : Program} {S : List Nat} {w0 : World} {F : World → Prop} {L : Env} {d : Option Nat} {ty : TypeId} {pos : String} {af : Array Edge} {g : Option (Nat × Bool)} {T T' : TypeId} {x y : Operand} {a b : List UInt8} {c : Bool} (hx : ro L x = some (sv a)) (hy : ro L y = some (sv b)) (h : Dc (a = b) c) : Vals P S w0 F L ⟨d, .binOp .neq T x y T', ty, pos, af, g⟩ (.bool (!c)) := by
  have := vals_nes (P := P) (S := S) (w0 := w0) (F := F) (d := d) (T := T) (T' := T') (ty := ty) (pos := pos) (af := af) (g := g) (rho_of hx) (rho_of hy)
  rw [← h.eq]
  simpa using this
theorem bv_ofNat {i : Nat} (h : i < 256) : Value.int .u8 (i : Int) = bv (UInt8.ofNat i) := by
  have h2 : (UInt8.ofNat i).toNat = i := by rw [UInt8.toNat_ofNat']; omega
  show _ = Value.int .u8 ((UInt8.ofNat i).toNat : Int)
  rw [h2]
theorem sl_byte {w : World} {b i : Nat} {T : TypeId} (hi : i < 256) (h : Blk w b (.cells #[.int .u8 (i : Int)] T)) : Sl byc 1 w (some ⟨b, 0, none⟩) [UInt8.ofNat i] := sl_blk byc_length h (by rw [bv_ofNat hi]; rfl)
theorem sendE_fine {s : Ns} {fr to n : Nat} {later : List Int} (h1 : fr < s.parties) (h2 : to < s.parties) (h3 : n ≤ 65536) (h4 : later.length ≤ 8) (h5 : later.any badL = false) (h6 : s.pend.length + later.length ≤ 4096) : s.sendE fr to n later = 0 := by
  unfold Ns.sendE
  rw [if_neg (by omega), if_neg (by omega), if_neg (by rw [h5]; simp; omega), if_neg (by omega)]

/-- Something else that lies in memory, and stays. -/
structure Fr where
  P : World → Prop
  U : Nat → Prop
  keep : ∀ (S : List Nat) (w w' : World), Kp S w w' → (∀ z ∈ S, ¬ U z) → P w → P w'
  ty : ∀ (w : World) (z : Nat), P w → U z → (∃ cs T f, Blk w z (.cells cs T f) ∧ (T = 5 ∨ T = 72 ∨ T = 77)) ∨ (∃ es c, Blk w z (.map es c))
def Fr.none : Fr := ⟨fun _ => True, fun _ => False, fun _ _ _ _ _ _ => trivial, fun _ _ _ h => h.elim⟩
/-- Another net. -/
def Fr.net (cy my : Nat) (sy : Ns) (dy : Due) : Fr := ⟨fun w => Rep w cy my sy dy, Uses cy my dy, fun S w w' hk hS h => h.kp hk hS, fun w z h hu => by
  rcases hu with rfl | rfl | ⟨e, he, hb⟩ | ⟨e, he, p, hp, off, ha, hl⟩
  · exact Or.inl ⟨_, _, _, h.blk, Or.inr (Or.inl rfl)⟩
  · exact Or.inr h.map.blk
  · obtain ⟨cs, hc⟩ := own_blk (h.own e he) hb
    exact Or.inl ⟨_, _, _, hc, Or.inr (Or.inr rfl)⟩
  · obtain ⟨b, off', cs, h1, h2, h3⟩ := h.byt e he p hp 0 _ (List.getElem?_eq_getElem hl)
    rw [ha] at h1
    cases h1
    exact Or.inl ⟨_, _, _, h2, Or.inl rfl⟩⟩
theorem Fr.lt {Φ : Fr} {w : World} {z : Nat} (h : Φ.P w) (hu : Φ.U z) : z < w.heap.size := by
  rcases Φ.ty w z h hu with ⟨cs, T, f, hB, _⟩ | ⟨es, c, hB⟩
  · exact hB.lt
  · exact hB.lt
theorem Fr.ne {Φ : Fr} {w : World} {z : Nat} {cs : Array Value} {T : TypeId} (h : Φ.P w) (hz : Blk w z (.cells cs T)) (h5 : T ≠ 5) (h72 : T ≠ 72) (h77 : T ≠ 77) : ¬ Φ.U z := fun hu => by
  rcases Φ.ty w z h hu with ⟨cs', T', f, hB, ht⟩ | ⟨es, c, hB⟩
  · have := hz.uniq hB
    simp only [Obj.cells.injEq] at this
    obtain ⟨_, rfl, _⟩ := this
    rcases ht with ht | ht | ht
    · exact h5 ht
    · exact h72 ht
    · exact h77 ht
  · cases hz.uniq hB
/-- A net made behind w0, beside Φ. -/
def At (Φ : Fr) (w0 w : World) (bt bm : Nat) (s : Ns) : Prop := Kp [] w0 w ∧ Φ.P w ∧ ∃ due, Rep w bt bm s due ∧ (∀ z ∈ sendS bt bm due, w0.heap.size ≤ z) ∧ ∀ z ∈ sendS bt bm due, ¬ Φ.U z
theorem At.kp {Φ : Fr} {w0 w : World} {bt bm : Nat} {s : Ns} (h : At Φ w0 w bt bm s) : Kp [] w0 w := h.1
theorem At.kp0 {Φ : Fr} {w0 w w' : World} {bt bm : Nat} {s : Ns} (h : At Φ w0 w bt bm s) (hk : Kp [] w w') : At Φ w0 w' bt bm s := by
  obtain ⟨h1, hP, due, h2, h3, h4⟩ := h
  exact ⟨h1.trans hk, Φ.keep [] w w' hk (by simp) hP, due, h2.kp0 hk, h3, h4⟩
/-- .. where a block of another kind is written. -/
theorem At.kpb {Φ : Fr} {w0 w w' : World} {bt bm : Nat} {s : Ns} (h : At Φ w0 w bt bm s) {z : Nat} {cs : Array Value} {T : TypeId} (hz : Blk w z (.cells cs T)) (hz0 : w0.heap.size ≤ z) (h5 : T ≠ 5) (h72 : T ≠ 72) (h77 : T ≠ 77) (hk : Kp [z] w w') : At Φ w0 w' bt bm s := by
  obtain ⟨h1, hP, due, h2, h3, h4⟩ := h
  refine ⟨h1.trans_new hk (new1 hz0), Φ.keep [z] w w' hk (fun y hy => ?_) hP, due, h2.kp1 hz h5 h72 h77 hk, h3, h4⟩
  rw [List.mem_singleton] at hy
  subst hy
  exact Fr.ne hP hz h5 h72 h77
theorem At.kpo {Φ : Fr} {w0 w w' : World} {bt bm : Nat} {s : Ns} (h : At Φ w0 w bt bm s) {base n sz : Nat} {T : TypeId} {v : Value} {xs : List Value} (ho : w.ownsRow base T sz v n xs) (hb : w0.heap.size ≤ base) (h5 : T ≠ 5) (h72 : T ≠ 72) (h77 : T ≠ 77) (hk : Kp (ownB v) w w') : At Φ w0 w' bt bm s := by
  cases hv : v.ownBlock with
  | none =>
    have e : ownB v = [] := by unfold ownB; rw [hv]
    rw [e] at hk
    exact h.kp0 hk
  | some z =>
    have e : ownB v = [z] := by unfold ownB; rw [hv]
    rw [e] at hk
    obtain ⟨cs, hc⟩ := own_blk ho hv
    exact h.kpb hc (by have := (ho.lt z hv).1; omega) h5 h72 h77 hk
theorem new_at (w : World) (n : Nat) (h1 : 1 ≤ n) (h2 : n ≤ 16) : Calls Try.prog 11 #[.int .i64 n] w (fun e w' => ∃ bt bm, e = .returned (.tuple #[.pointer (some ⟨bt, 0, none⟩), .int .i64 0]) ∧ At Fr.none w w' bt bm (Ns.new n)) := by
  refine (netnew_good w n h1 h2).mono (fun e w' hh => ?_)
  obtain ⟨bt, bm, he, hR, hbt, hbm, hne, hk⟩ := hh
  refine ⟨bt, bm, he, hk, trivial, [], hR, fun z hz => ?_, fun z hz h => h⟩
  rcases mem_sendS hz with h | h | ⟨e, h, _⟩
  · omega
  · omega
  · cases h
theorem At.kpU {w0 w w' : World} {bt bm : Nat} {due : Due} (h1 : Kp [] w0 w) (h3 : ∀ z ∈ sendS bt bm due, w0.heap.size ≤ z) (hk : Kp (sendS bt bm due) w w') : Kp [] w0 w' := h1.trans_new hk (fun z hz => Or.inr (h3 z hz))
/-- A block that the net turns was its own, or is new. -/
theorem sendS_of {w w' : World} {bt bm : Nat} {s s' : Ns} {due due' : Due} (h : Rep w bt bm s due) (h' : Rep w' bt bm s' due') (hk : Kp (sendS bt bm due) w w') {z : Nat} (hz : z ∈ sendS bt bm due') (hu : Uses bt bm due z) : z ∈ sendS bt bm due := by
  rcases hu with rfl | rfl | ⟨e, he, hb⟩ | ⟨e, he, p, hp, off, ha, hl⟩
  · simp [sendS]
  · simp [sendS]
  · exact List.mem_cons_of_mem _ (List.mem_cons_of_mem _ (List.mem_flatMap.2 ⟨e, he, mem_ownB.2 hb⟩))
  · obtain ⟨b, off', cs, h1, h2, h3⟩ := h.byt e he p hp 0 _ (List.getElem?_eq_getElem hl)
    rw [ha] at h1
    cases h1
    apply Classical.byContradiction
    intro hn
    have h5 := h2.kp hk hn
    rcases mem_sendS hz with rfl | rfl | ⟨e', he', hb'⟩
    · exact ne_ty (by decide) h'.blk h5 rfl
    · obtain ⟨es, c, hm⟩ := h'.map.blk
      exact ne_map hm h5 rfl
    · obtain ⟨cs', hc'⟩ := own_blk (h'.own e' he') hb'
      exact ne_ty (by decide) hc' h5 rfl
theorem At.turn {Φ : Fr} {w0 w w' : World} {bt bm : Nat} {s s' : Ns} {due due' : Due} (h1 : Kp [] w0 w) (hP : Φ.P w) (h2 : Rep w bt bm s due) (h3 : ∀ z ∈ sendS bt bm due, w0.heap.size ≤ z) (h4 : ∀ z ∈ sendS bt bm due, ¬ Φ.U z) (hk : Kp (sendS bt bm due) w w') (hR : Rep w' bt bm s' due') (hU : ∀ z, Uses bt bm due' z → Uses bt bm due z ∨ w.heap.size ≤ z) : At Φ w0 w' bt bm s' := by
  refine ⟨At.kpU h1 h3 hk, Φ.keep _ w w' hk h4 hP, due', hR, fun z hz => ?_, fun z hz => ?_⟩
  · rcases hU z (uses_sendS hz) with h | h
    · exact h3 z (sendS_of h2 hR hk hz h)
    · have := h1.size
      omega
  · rcases hU z (uses_sendS hz) with h | h
    · exact h4 z (sendS_of h2 hR hk hz h)
    · exact fun hu => by have := Fr.lt hP hu; omega
theorem send_at {Φ : Fr} {w0 w : World} {bt bm : Nat} {s : Ns} (h : At Φ w0 w bt bm s) (hnow : s.now ≤ 1000000000000) (hsent : s.sent ≤ 1000000000000) (fr to : Nat) (ab : Option Addr) (cb : Nat) (bs : List UInt8) (hSb : Sl byc 1 w ab bs) (al : Option Addr) (cl : Nat) (later : List Int)
    (hS : ∀ w', Kt bm w w' → Kp [] w0 w' → SlI w' al later) (hE : s.sendE fr to bs.length later = 0) : Calls Try.prog 13 #[.pointer (some ⟨bt, 0, none⟩), lv fr to ab bs.length cb, fv al later.length cl] w (fun e w' => e = .returned (.int .i64 0) ∧ At Φ w0 w' bt bm (s.sendAll fr to bs later) ∧ Kt bm w w') := by
  obtain ⟨h1, hP, due, h2, h3, h4⟩ := h
  refine (send_good h2 hnow hsent fr to ab cb bs hSb al cl later (fun w' hk => hS w' (Kt.send h2 hk) (At.kpU h1 h3 hk)) hE).mono (fun e w' h => ?_)
  obtain ⟨due', he, hR, hU, hk⟩ := h
  exact ⟨he, At.turn h1 hP h2 h3 h4 hk hR hU, Kt.send h2 hk⟩
theorem send_no {Φ : Fr} {w0 w : World} {bt bm : Nat} {s : Ns} (h : At Φ w0 w bt bm s) (hw : s.pend.length ≤ 100000) (fr to : Int) (ab : Option Addr) (nb cb : Nat) (al : Option Addr) (cl : Nat) (later : List Int) (hS : SlI w al later) (hl : later.length ≤ 100000) (hnb : nb ≤ 1000000000)
    (hE : s.sendE fr to nb later ≠ 0) : Ret Try.prog 13 #[.pointer (some ⟨bt, 0, none⟩), lv fr to ab nb cb, fv al later.length cl] w (.int .i64 (s.sendE fr to nb later)) := by
  obtain ⟨h1, hP, due, h2, h3, h4⟩ := h
  exact send_bad h2 hw fr to ab nb cb al cl later hS hl hnb hE
theorem step_at {Φ : Fr} {w0 w : World} {bt bm : Nat} {s : Ns} (h : At Φ w0 w bt bm s) (hnow : s.now ≤ 1000000000000) (hpl : s.pend.length ≤ 4096) (hin : ∀ c ∈ s.pend, c.fr < 16 ∧ c.to < 16 ∧ c.bs.length ≤ 65536) : Calls Try.prog 14 #[.pointer (some ⟨bt, 0, none⟩)] w (fun e w' => ∃ v ls, e = .returned v ∧ w'.ownsRow w.heap.size 35 3 v ls.length (flt lcl ls) ∧ ls.map ltc = (s.open_ s.come).map cpc
    ∧ (∀ l ∈ ls, ByAt w' l.a l.bs ∧ ∀ b off, l.a = some ⟨b, off, none⟩ → w.heap.size ≤ b) ∧ At Φ w0 w' bt bm s.step ∧ Kt bm w w') := by
  obtain ⟨h1, hP, due, h2, h3, h4⟩ := h
  refine (step_spec h2 hnow hpl hin).mono (fun e w' h => ?_)
  obtain ⟨v, due', ls, he, ho, hl, hb, hR, hU, hk⟩ := h
  have hk' : Kp (sendS bt bm due) w w' := hk.mono (fun x hx => by
    rcases List.mem_cons.1 hx with rfl | hx
    · simp [sendS]
    · rw [List.mem_singleton] at hx
      subst hx
      simp [sendS])
  exact ⟨v, ls, he, ho, hl, hb, At.turn h1 hP h2 h3 h4 hk' hR (fun z hz => Or.inl (hU z hz)), Kt.send h2 hk'⟩
theorem cut_at {Φ : Fr} {w0 w : World} {bt bm : Nat} {s : Ns} (h : At Φ w0 w bt bm s) (f t : Nat) (b : Bool) (h16 : s.parties ≤ 16) (g1 : f < s.parties) (g2 : t < s.parties) : Calls Try.prog 18 #[.pointer (some ⟨bt, 0, none⟩), .int .i64 f, .int .i64 t, .bool b] w (fun e w' => e = .returned (.int .i64 0) ∧ At Φ w0 w' bt bm (s.setCut f t b) ∧ Kt bm w w') := by
  obtain ⟨h1, hP, due, h2, h3, h4⟩ := h
  refine (cut_good h2 f t b h16 g1 g2).mono (fun e w' h => ?_)
  obtain ⟨he, hR, hk⟩ := h
  have hk' : Kp (sendS bt bm due) w w' := hk.mono (fun x hx => by
    rw [List.mem_singleton] at hx
    subst hx
    simp [sendS])
  exact ⟨he, At.turn h1 hP h2 h3 h4 hk' hR (fun z hz => Or.inl hz), Kt.send h2 hk'⟩
theorem way_at {Φ : Fr} {w0 w : World} {bt bm : Nat} {s : Ns} (h : At Φ w0 w bt bm s) : Ret Try.prog 15 #[.pointer (some ⟨bt, 0, none⟩)] w (.int .i64 s.pend.length) := by
  obtain ⟨h1, hP, due, h2, h3, h4⟩ := h
  exact way_spec h2
theorem now_at {Φ : Fr} {w0 w : World} {bt bm : Nat} {s : Ns} (h : At Φ w0 w bt bm s) : Ret Try.prog 24 #[.pointer (some ⟨bt, 0, none⟩)] w (.int .i64 s.now) := by
  obtain ⟨h1, hP, due, h2, h3, h4⟩ := h
  exact now_spec h2
end Go.Proofs.Ytfelaicoedlejaa
/-
  More effects that stand beside one another: slices and variables whose blocks are told.
-/
namespace Go.Proofs.Ytfelaicoedlejaa
set_option linter.unusedVariables false

section
variable {P : Program} {n : Nat} {ops : List Oper} {Q : Exit → Act → World → Prop} {w0 : World} {L : Env} {G : List (Nat × GD)} {K : Env → List Fact → Prop} {Γ : List Fact} {i : Nat} {ord : List Nat} {ty : TypeId} {pos : String} {af : Array Edge} {g : Option (Nat × Bool)}
/-- What is promised of a slice written out: its block. -/
def gB (m : Nat) (E : TypeId) (k : Nat) (cs : Array Value) : GD := ⟨Nat, 0, fun b => .slice (some ⟨b, 0, none⟩) k k, fun b w => m ≤ b ∧ Blk w b (.cells cs E)⟩
theorem gB_stab {m : Nat} {E : TypeId} {k : Nat} {cs : Array Value} (x : (gB m E k cs).X) : Stab [] ((gB m E k cs).phi x) := fun w w' hk h => ⟨h.1, h.2.kp0 hk⟩
theorem DerX.buildB {m d k : Nat} {T E : TypeId} {parts : List (Nat × Operand)} {vs : List (Nat × Value)} {cs : Array Value} (hg : gdLook G i = some (gB m E k cs))
    (ho : ops[i]? = some ⟨some d, .buildSlice T k parts.toArray, ty, pos, af, g⟩) (hw : want ops L ⟨some d, .buildSlice T k parts.toArray, ty, pos, af, g⟩ = some true) (hk : (Op.buildSlice T k parts.toArray).operands.toList.all (known L) = true)
    (he : (parts.map fun p => (p.1, rho L p.2)) = vs) (hm : m ≤ w0.heap.size) (hrun : ∀ w : World, (Instr.buildSlice T k vs.toArray).run P w = .ok (.slice (some ⟨w.heap.size, 0, none⟩) k k) { w with heap := w.heap.push (.cells cs E) })
    (h : ∀ b : Nat, DerX P w0 ops G K ord ((d, .slice (some ⟨b, 0, none⟩) k k) :: L) ((i, fun w => m ≤ b ∧ Blk w b (.cells cs E)) :: Γ)) : DerX P w0 ops G K (i :: ord) L Γ := by
  refine DerX.eff (gB m E k cs) hg ho hw hk (fun w h1 h2 => ?_) h
  unfold OpRun
  have e : (parts.toArray.map fun (p : Nat × Operand) => (p.1, rho L p.2)) = vs.toArray := by simp [he]
  have : (execOp (rho L) ⟨some d, .buildSlice T k parts.toArray, ty, pos, af, g⟩).run P w = .ok (.value (.slice (some ⟨w.heap.size, 0, none⟩) k k)) { w with heap := w.heap.push (.cells cs E) } := by
    simp only [execOp, e, Sem.run_bind, hrun w, Result.andThen, Sem.run_pure]
  rw [this]
  exact ⟨w.heap.size, rfl, ⟨Nat.le_trans hm h1.size, Blk.push w _⟩, Kp.push w _ rfl⟩
/-- .. of something that holds such a slice. -/
def gW (m : Nat) (E : TypeId) (k : Nat) (cs : Array Value) (mk : Value → Value) : GD := ⟨Nat, 0, fun b => mk (.slice (some ⟨b, 0, none⟩) k k), fun b w => m ≤ b ∧ Blk w b (.cells cs E)⟩
theorem gW_stab {m : Nat} {E : TypeId} {k : Nat} {cs : Array Value} {mk : Value → Value} (x : (gW m E k cs mk).X) : Stab [] ((gW m E k cs mk).phi x) := fun w w' hk h => ⟨h.1, h.2.kp0 hk⟩
/-- A value that counts as an effect: what it holds is promised anew. -/
theorem DerX.valE {d : Nat} {op : Op} {v : Value} (D : GD) (x : D.X) (hg : gdLook G i = some D) (ho : ops[i]? = some ⟨some d, op, ty, pos, af, g⟩) (hw : want ops L ⟨some d, op, ty, pos, af, g⟩ = some true) (hk : op.operands.toList.all (known L) = true)
    (hv : Vals P [] w0 (Facts ops i Γ) L ⟨some d, op, ty, pos, af, g⟩ v) (hx : v = D.val x) (hphi : ∀ w, Kp [] w0 w → Facts ops i Γ w → D.phi x w)
    (h : ∀ x, DerX P w0 ops G K ord ((d, D.val x) :: L) ((i, D.phi x) :: Γ)) : DerX P w0 ops G K (i :: ord) L Γ := by
  refine DerX.eff D hg ho hw hk (fun w h1 h2 => ?_) h
  unfold OpRun
  rw [hv w h1 h2]
  exact ⟨x, hx, hphi w h1 h2, Kp.refl _ _⟩
theorem DerX.wrapB {m d k : Nat} {E : TypeId} {cs : Array Value} {mk : Value → Value} {op : Op} {v : Value} (b : Nat) (hg : gdLook G i = some (gW m E k cs mk)) (ho : ops[i]? = some ⟨some d, op, ty, pos, af, g⟩) (hw : want ops L ⟨some d, op, ty, pos, af, g⟩ = some true) (hk : op.operands.toList.all (known L) = true)
    (hv : Vals P [] w0 (Facts ops i Γ) L ⟨some d, op, ty, pos, af, g⟩ v) (hx : v = mk (.slice (some ⟨b, 0, none⟩) k k)) (hphi : ∀ w, Kp [] w0 w → Facts ops i Γ w → m ≤ b ∧ Blk w b (.cells cs E))
    (h : ∀ b : Nat, DerX P w0 ops G K ord ((d, mk (.slice (some ⟨b, 0, none⟩) k k)) :: L) ((i, fun w => m ≤ b ∧ Blk w b (.cells cs E)) :: Γ)) : DerX P w0 ops G K (i :: ord) L Γ :=
  DerX.valE (gW m E k cs mk) b hg ho hw hk hv hx hphi h
/-- .. of a variable just made. -/
def gA (m : Nat) (T : TypeId) (cs : Array Value) : GD := ⟨Nat, 0, fun b => .pointer (some ⟨b, 0, none⟩), fun b w => m ≤ b ∧ Blk w b (.cells cs T)⟩
theorem gA_stab {m : Nat} {T : TypeId} {cs : Array Value} (x : (gA m T cs).X) : Stab [] ((gA m T cs).phi x) := fun w w' hk h => ⟨h.1, h.2.kp0 hk⟩
theorem DerX.alloc {m d : Nat} {T : TypeId} {inf : TypeInfo} [f : Inf P T inf] {z : Value} (hz : inf.zero = some z) (hg : gdLook G i = some (gA m T z.cells))
    (ho : ops[i]? = some ⟨some d, .alloc T, ty, pos, af, g⟩) (hw : want ops L ⟨some d, .alloc T, ty, pos, af, g⟩ = some true) (hm : m ≤ w0.heap.size)
    (h : ∀ b : Nat, DerX P w0 ops G K ord ((d, .pointer (some ⟨b, 0, none⟩)) :: L) ((i, fun w => m ≤ b ∧ Blk w b (.cells z.cells T)) :: Γ)) : DerX P w0 ops G K (i :: ord) L Γ := by
  refine DerX.eff (gA m T z.cells) hg ho hw (by simp [Op.operands]) (fun w h1 h2 => ?_) h
  unfold OpRun
  have : (execOp (rho L) ⟨some d, .alloc T, ty, pos, af, g⟩).run P w = .ok (.value (.pointer (some ⟨w.heap.size, 0, none⟩))) { w with heap := w.heap.push (.cells z.cells T) } := by
    simp [execOp, run_alloc hz, Result.andThen]
  rw [this]
  exact ⟨w.heap.size, rfl, ⟨Nat.le_trans hm h1.size, Blk.push w _⟩, Kp.push w _ rfl⟩
end
section
variable {P : Program} {S : List Nat} {w0 : World} {F : World → Prop} {L : Env} {d : Option Nat} {ty : TypeId} {pos : String} {af : Array Edge} {g : Option (Nat × Bool)}
/-- A string of bytes that stand where F says. -/
theorem vals_bsF {T T' E : TypeId} [u : Ut P T (.slice E)] [e : Ut P E (.int .u8)] [t : Ut P T' .string] {x : Operand} {a : Option Addr} {c m : Nat} {l : List UInt8} (hx : ro L x = some (.slice a m c)) (hm : m = l.length) (hS : ∀ w, Kp S w0 w → F w → Sl (fun u : UInt8 => [bv u]) 1 w a l) :
    Vals P S w0 F L ⟨d, .convert T T' x, ty, pos, af, g⟩ (sv l) := fun w hk hF => by
  subst hm
  exact vals_bs (P := P) (S := []) (w0 := w) (F := fun _ => True) (u := u) (e := e) (t := t) (rho_of hx) (hS w hk hF) (fun _ _ _ => List.not_mem_nil) w (Kp.refl _ _) trivial
/-- A byte of an int. -/
theorem vals_byte {T T' : TypeId} [u : Ut P T (.int .i64)] [u' : Ut P T' (.int .u8)] {x : Operand} {i : Nat} (hx : ro L x = some (.int .i64 (i : Int))) (hi : i < 256) : Vals P S w0 F L ⟨d, .convert T T' x, ty, pos, af, g⟩ (bv (UInt8.ofNat i)) := by
  have := vals_conv (P := P) (S := S) (w0 := w0) (F := F) (d := d) (ty := ty) (pos := pos) (af := af) (g := g) (u := u) (u' := u') (rho_of hx)
  have e : (Value.int .u8 (IntKind.wrap .u8 (i : Int))) = bv (UInt8.ofNat i) := by
    have h2 : (UInt8.ofNat i).toNat = i := by rw [UInt8.toNat_ofNat']; omega
    show _ = Value.int .u8 ((UInt8.ofNat i).toNat : Int)
    rw [h2]
    congr 1
    simp only [IntKind.wrap, IntKind.signed, IntKind.bits]
    simp
    omega
  rwa [e] at this
end
end Go.Proofs.Ytfelaicoedlejaa
/-
  More of strings: their lengths, and their bytes.
-/
namespace Go.Proofs.Ytfelaicoedlejaa
set_option linter.unusedVariables false

theorem Kp.alloc_any (w : World) (o : Obj) : Kp [] w (w.drew.alloc o) := by
  refine ⟨by show w.heap.size ≤ (w.heap.push o).size; simp, fun b hb _ => ?_, rfl, rfl, rfl, fun a ha => ?_, Nat.le_succ _⟩
  · show (w.heap.push o)[b]? = _
    rw [Array.getElem?_push, if_neg (by omega)]
  · refine frozen_same ?_
    show (w.heap.push o)[a.block]? = _
    rw [Array.getElem?_push, if_neg (by omega)]
theorem run_strB {P : Program} {T T' E : TypeId} [u : Ut P T .string] [u' : Ut P T' (.slice E)] [e : Ut P E (.int .u8)] (w : World) (l : List UInt8) :
    ∃ c o, (convert T T' (sv l)).run P w = .ok (.slice (some ⟨w.heap.size, 0, none⟩) l.length c) (w.drew.alloc o) ∧ Sl (fun u : UInt8 => [bv u]) 1 (w.drew.alloc o) (some ⟨w.heap.size, 0, none⟩) l := by
  have h := run_bytes_of_string (P := P) w T T' E ⟨l.toArray⟩ u.eq u'.eq e.eq
  generalize hc : grownCap w (ByteArray.mk l.toArray).size 0 E = c at h
  refine ⟨c, _, h, fun i x hx => ⟨w.heap.size, 0, rfl, bytesRow ⟨l.toArray⟩ c, E, ((bytesRow ⟨l.toArray⟩ c).size, (bytesRow ⟨l.toArray⟩ c).size + 1), ?_, ?_⟩⟩
  · show (w.heap.push _)[w.heap.size]? = _
    rw [Array.getElem?_push, if_pos rfl]
  · intro j v hv
    have hj : j = 0 := by have := (List.getElem?_eq_some_iff.1 hv).1; simp at this; omega
    subst hj
    simp only [List.getElem?_cons_zero, Option.some.injEq] at hv
    subst hv
    have hi : i < l.length := (List.getElem?_eq_some_iff.1 hx).1
    rw [List.getElem?_eq_getElem hi, Option.some.injEq] at hx
    subst hx
    simp only [bytesRow, Nat.mul_one, Nat.zero_add, Nat.add_zero]
    rw [Array.getElem?_append_left (by simpa using hi)]
    simp [hi]
section
variable {P : Program} {n : Nat} {ops : List Oper} {Q : Exit → Act → World → Prop} {w : World} {L : Env} {ty : TypeId} {pos : String} {af : Array Edge} {g : Option (Nat × Bool)} {rest : List Oper}
/-- '[]byte(s)' in text order. -/
theorem SG.strB {T T' E : TypeId} [u : Ut P T .string] [u' : Ut P T' (.slice E)] [e : Ut P E (.int .u8)] {d : Nat} {x : Operand} {l : List UInt8} (hd : Nat.blt d n = true) (hw : want ops L ⟨some d, .convert T T' x, ty, pos, af, g⟩ = some true) (hk : known L x = true) (hx : ro L x = some (sv l))
    (h : ∀ b c w', Kp [] w w' → w.heap.size ≤ b → Sl (fun u : UInt8 => [bv u]) 1 w' (some ⟨b, 0, none⟩) l → SG P n ops Q rest ((d, .slice (some ⟨b, 0, none⟩) l.length c) :: L) w') : SG P n ops Q (⟨some d, .convert T T' x, ty, pos, af, g⟩ :: rest) L w := by
  refine SG.op (by simpa using hd) rfl hw (by simpa [Op.operands] using hk) ?_
  unfold OpRun
  obtain ⟨c, o, h1, h2⟩ := run_strB (P := P) (T := T) (T' := T') (u := u) (u' := u') (e := e) w l
  have : (execOp (rho L) ⟨some d, .convert T T' x, ty, pos, af, g⟩).run P w = .ok (.value (.slice (some ⟨w.heap.size, 0, none⟩) l.length c)) (w.drew.alloc o) := by
    simp only [execOp, rho_of hx, Sem.run_bind, h1, Result.andThen, Sem.run_pure]
  rw [this]
  exact h _ _ _ (Kp.alloc_any w o) (Nat.le_refl _) h2
end
section
variable {P : Program} {S : List Nat} {w0 : World} {F : World → Prop} {L : Env} {d : Option Nat} {ty : TypeId} {pos : String} {af : Array Edge} {g : Option (Nat × Bool)}
theorem vals_lens {T : TypeId} [u : Ut P T .string] {x : Operand} {l : List UInt8} (hx : ro L x = some (sv l)) : Vals P S w0 F L ⟨d, .call { callee := .builtin .len, args := #[x], argTypes := #[T] }, ty, pos, af, g⟩ (.int .i64 l.length) := fun w _ _ => by
  have hx' : rho L x = .string ⟨l.toArray⟩ := rho_of hx
  have hs : (ByteArray.mk l.toArray).size = l.length := by
    show l.toArray.size = _
    simp
  generalize ByteArray.mk l.toArray = s at hx' hs
  simp [execOp, hx', resolve, invoke, builtin, Builtin.len_, run_underlying u.eq, goInt, hs]
end
end Go.Proofs.Ytfelaicoedlejaa
/-
  The deeds as they come; fair; letters picked and compared.
-/
namespace Go.Proofs.Ytfelaicoedlejaa
set_option linter.unusedVariables false

structure Dd where
  what : UInt8
  A : Int
  B : Int
  bs : List UInt8
  later : List Int
  a : Option Addr
  c : Nat
def dcl (d : Dd) : List Value := [bv d.what, .int .i64 d.A, .int .i64 d.B, sv d.bs, .slice d.a d.later.length d.c]
theorem dcl_length (d : Dd) : (dcl d).length = 5 := rfl
theorem dcl_one (d : Dd) : allOne (dcl d) = true := rfl
def Dd.fair (d : Dd) : Bool := decide (d.bs.length ≤ 100) && decide (d.later.length ≤ 20)
def fairB (l : List Dd) : Bool := l.all Dd.fair && decide (l.length ≤ 60)
theorem qx6 {P : Program} {S : List Nat} {w0 : World} {F : World → Prop} {L : Env} {d : Option Nat} {ty : TypeId} {pos : String} {af : Array Edge} {g : Option (Nat × Bool)} {T : TypeId} [u : Ut P T .string] {x : Operand} {l : List UInt8} (hx : ro L x = some (sv l)) : Vals P S w0 F L ⟨d, .call { callee := .builtin .len, args := #[x], argTypes := #[T] }, ty, pos, af, g⟩ (.int .i64 l.length) := vals_lens hx

attribute [local irreducible] CG NG SG Vals Der Row Blk MapIs IterAt DerX sv
set_option maxHeartbeats 8000000 in
theorem fair_spec {w : World} {a : Option Addr} {l : List Dd} (c : Nat) (hS : Sl dcl 5 w a l) (hm : l.length ≤ 9223372036854775807) : Ret Try.prog 16 #[.slice a l.length c] w (.bool (fairB l)) := by
  refine enter1 Try.func16 rfl Try.ntmps16 rfl ?_
  repeat (first|apply CG.seq|apply CG.region|apply SG.nil|apply NG.next|apply CG.skip|apply CG.block|apply CG.ret|apply CG.exit|apply CG.scope|apply NG.ret_then|apply NG.ret_block|apply NG.ret_scope|apply NG.exit_then|refine NG.exit_block rfl ?_|refine NG.exit_other rfl ?_|apply NG.exit_scope|apply NG.normal_block|apply NG.normal_scope|refine SG.val rfl rfl rfl rfl (by first|((first|apply qmv|apply qas|apply qlc|apply qla|apply qfa|apply qnc|apply qic|apply qix|apply qpk|apply qls|apply qei|apply qni|apply qed|apply qnd|apply qad|apply qln|apply qle|apply qgt|apply qge|apply qlk|apply qlv|apply qxt|apply qsb|apply qnt|apply qep|apply qnp|apply qeb|apply qnb|apply qx2|apply qx4|apply qcv|apply qlm|apply qfr|apply qto|apply qmx|apply qen|apply qsn|apply qx6|apply qx5|apply qx4|apply qx3|apply qx2|apply qx1|apply qx0)<;>(first|exact rfl|exact Ar.mk (by omega)|assumption|exact dct (by assumption)|exact dcf (by assumption)|exact dct (by omega)|exact dcf (by omega)|exact List.not_mem_nil|exact dc_length _|exact nc_length _|exact rc_length _ _ _|exact ec_length _|exact nm1 (by omega)|exact nm2 (by omega) (by omega)|exact dct rfl|exact dct (by decide)|exact dcf (by decide)|exact (Int.toNat_of_nonneg (by omega)).symm|exact dcu|exact lk1 (by assumption)|exact lk0 (by assumption)|exact lkb|fail))|fail) ?_)
  refine CG.loop (X := Nat) (fun q => [(0, .slice a l.length c), (2, .bool false), (3, .int .i64 (q : Int))])
    (fun q w' => q ≤ l.length ∧ w' = w ∧ (l.take q).all Dd.fair = true) (fun q => l.length - q) 0 ⟨Nat.zero_le _, rfl, rfl⟩ (by (repeat' (first | exact True.intro | exact rfl | refine And.intro ?_ ?_))) ?_
  rintro i w1 ⟨hi, rfl, hall⟩
  by_cases hlt : i < l.length
  · have g1 : (i : Int) < (l.length : Int) := by omega
    obtain ⟨ba, oa, rfl, hr⟩ := hS.at hlt
    have et : (l.take (i + 1)).all Dd.fair = ((l.take i).all Dd.fair && l[i].fair) := by
      rw [List.take_succ_eq_append_getElem hlt, List.all_append]
      simp
    have hno : l[i].fair = false → fairB l = false := fun h => by
      unfold fairB
      rw [Bool.and_eq_false_iff]
      refine Or.inl ?_
      rw [List.all_eq_false]
      exact ⟨l[i], List.getElem_mem hlt, by rw [h]; decide⟩
    generalize l[i] = x at hr et hno
    have r3 : Row w1 ba (oa + i * 5 + 3) [sv x.bs] := Row.sub [bv x.what, .int .i64 x.A, .int .i64 x.B] _ [.slice x.a x.later.length x.c] hr
    have r4 : Row w1 ba (oa + i * 5 + 4) [.slice x.a x.later.length x.c] := Row.sub [bv x.what, .int .i64 x.A, .int .i64 x.B, sv x.bs] _ [] hr
    by_cases h1 : x.bs.length ≤ 100
    · have g2 : ¬ (100 : Int) < (x.bs.length : Int) := by omega
      by_cases h2 : x.later.length ≤ 20
      · have g3 : ¬ (20 : Int) < (x.later.length : Int) := by omega
        repeat (first|apply CG.seq|apply CG.region|apply SG.nil|apply NG.next|apply CG.skip|apply CG.block|apply CG.ret|apply CG.exit|apply CG.scope|apply NG.ret_then|apply NG.ret_block|apply NG.ret_scope|apply NG.exit_then|refine NG.exit_block rfl ?_|refine NG.exit_other rfl ?_|apply NG.exit_scope|apply NG.normal_block|apply NG.normal_scope|refine SG.val rfl rfl rfl rfl (by first|((first|apply qmv|apply qas|apply qlc|apply qla|apply qfa|apply qnc|apply qic|apply qix|apply qpk|apply qls|apply qei|apply qni|apply qed|apply qnd|apply qad|apply qln|apply qle|apply qgt|apply qge|apply qlk|apply qlv|apply qxt|apply qsb|apply qnt|apply qep|apply qnp|apply qeb|apply qnb|apply qx2|apply qx4|apply qcv|apply qlm|apply qfr|apply qto|apply qmx|apply qen|apply qsn|apply qx6|apply qx5|apply qx4|apply qx3|apply qx2|apply qx1|apply qx0)<;>(first|exact rfl|exact Ar.mk (by omega)|assumption|exact dct (by assumption)|exact dcf (by assumption)|exact dct (by omega)|exact dcf (by omega)|exact List.not_mem_nil|exact dc_length _|exact nc_length _|exact rc_length _ _ _|exact ec_length _|exact nm1 (by omega)|exact nm2 (by omega) (by omega)|exact dct rfl|exact dct (by decide)|exact dcf (by decide)|exact (Int.toNat_of_nonneg (by omega)).symm|exact dcu|exact lk1 (by assumption)|exact lk0 (by assumption)|exact lkb|fail))|fail) ?_)
        refine CG.cond_t rfl (by exact rho_of rfl) rfl ?_
        repeat (first | first|apply CG.seq|apply CG.region|apply SG.nil|apply NG.next|apply CG.skip|apply CG.block|apply CG.ret|apply CG.exit|apply CG.scope|apply NG.ret_then|apply NG.ret_block|apply NG.ret_scope|apply NG.exit_then|refine NG.exit_block rfl ?_|refine NG.exit_other rfl ?_|apply NG.exit_scope|apply NG.normal_block|apply NG.normal_scope|refine SG.val rfl rfl rfl rfl (by first|((first|apply qmv|apply qas|apply qlc|apply qla|apply qfa|apply qnc|apply qic|apply qix|apply qpk|apply qls|apply qei|apply qni|apply qed|apply qnd|apply qad|apply qln|apply qle|apply qgt|apply qge|apply qlk|apply qlv|apply qxt|apply qsb|apply qnt|apply qep|apply qnp|apply qeb|apply qnb|apply qx2|apply qx4|apply qcv|apply qlm|apply qfr|apply qto|apply qmx|apply qen|apply qsn|apply qx6|apply qx5|apply qx4|apply qx3|apply qx2|apply qx1|apply qx0)<;>(first|exact rfl|exact Ar.mk (by omega)|assumption|exact dct (by assumption)|exact dcf (by assumption)|exact dct (by omega)|exact dcf (by omega)|exact List.not_mem_nil|exact dc_length _|exact nc_length _|exact rc_length _ _ _|exact ec_length _|exact nm1 (by omega)|exact nm2 (by omega) (by omega)|exact dct rfl|exact dct (by decide)|exact dcf (by decide)|exact (Int.toNat_of_nonneg (by omega)).symm|exact dcu|exact lk1 (by assumption)|exact lk0 (by assumption)|exact lkb|fail))|fail) ?_ | refine SG.skip rfl rfl ?_)
        refine CG.cond_f rfl (by exact rho_of rfl) rfl ?_
        repeat (first|apply CG.seq|apply CG.region|apply SG.nil|apply NG.next|apply CG.skip|apply CG.block|apply CG.ret|apply CG.exit|apply CG.scope|apply NG.ret_then|apply NG.ret_block|apply NG.ret_scope|apply NG.exit_then|refine NG.exit_block rfl ?_|refine NG.exit_other rfl ?_|apply NG.exit_scope|apply NG.normal_block|apply NG.normal_scope|refine SG.val rfl rfl rfl rfl (by first|((first|apply qmv|apply qas|apply qlc|apply qla|apply qfa|apply qnc|apply qic|apply qix|apply qpk|apply qls|apply qei|apply qni|apply qed|apply qnd|apply qad|apply qln|apply qle|apply qgt|apply qge|apply qlk|apply qlv|apply qxt|apply qsb|apply qnt|apply qep|apply qnp|apply qeb|apply qnb|apply qx2|apply qx4|apply qcv|apply qlm|apply qfr|apply qto|apply qmx|apply qen|apply qsn|apply qx6|apply qx5|apply qx4|apply qx3|apply qx2|apply qx1|apply qx0)<;>(first|exact rfl|exact Ar.mk (by omega)|assumption|exact dct (by assumption)|exact dcf (by assumption)|exact dct (by omega)|exact dcf (by omega)|exact List.not_mem_nil|exact dc_length _|exact nc_length _|exact rc_length _ _ _|exact ec_length _|exact nm1 (by omega)|exact nm2 (by omega) (by omega)|exact dct rfl|exact dct (by decide)|exact dcf (by decide)|exact (Int.toNat_of_nonneg (by omega)).symm|exact dcu|exact lk1 (by assumption)|exact lk0 (by assumption)|exact lkb|fail))|fail) ?_)
        refine NG.round (i + 1) (by (repeat' (first | exact True.intro | exact rfl | refine And.intro ?_ ?_))) ⟨hlt, rfl, ?_⟩ (by omega)
        rw [et, hall]
        unfold Dd.fair
        rw [decide_eq_true h1, decide_eq_true h2]
        rfl
      · have g3 : (20 : Int) < (x.later.length : Int) := by omega
        repeat (first|apply CG.seq|apply CG.region|apply SG.nil|apply NG.next|apply CG.skip|apply CG.block|apply CG.ret|apply CG.exit|apply CG.scope|apply NG.ret_then|apply NG.ret_block|apply NG.ret_scope|apply NG.exit_then|refine NG.exit_block rfl ?_|refine NG.exit_other rfl ?_|apply NG.exit_scope|apply NG.normal_block|apply NG.normal_scope|refine SG.val rfl rfl rfl rfl (by first|((first|apply qmv|apply qas|apply qlc|apply qla|apply qfa|apply qnc|apply qic|apply qix|apply qpk|apply qls|apply qei|apply qni|apply qed|apply qnd|apply qad|apply qln|apply qle|apply qgt|apply qge|apply qlk|apply qlv|apply qxt|apply qsb|apply qnt|apply qep|apply qnp|apply qeb|apply qnb|apply qx2|apply qx4|apply qcv|apply qlm|apply qfr|apply qto|apply qmx|apply qen|apply qsn|apply qx6|apply qx5|apply qx4|apply qx3|apply qx2|apply qx1|apply qx0)<;>(first|exact rfl|exact Ar.mk (by omega)|assumption|exact dct (by assumption)|exact dcf (by assumption)|exact dct (by omega)|exact dcf (by omega)|exact List.not_mem_nil|exact dc_length _|exact nc_length _|exact rc_length _ _ _|exact ec_length _|exact nm1 (by omega)|exact nm2 (by omega) (by omega)|exact dct rfl|exact dct (by decide)|exact dcf (by decide)|exact (Int.toNat_of_nonneg (by omega)).symm|exact dcu|exact lk1 (by assumption)|exact lk0 (by assumption)|exact lkb|fail))|fail) ?_)
        refine CG.cond_t rfl (by exact rho_of rfl) rfl ?_
        repeat (first | first|apply CG.seq|apply CG.region|apply SG.nil|apply NG.next|apply CG.skip|apply CG.block|apply CG.ret|apply CG.exit|apply CG.scope|apply NG.ret_then|apply NG.ret_block|apply NG.ret_scope|apply NG.exit_then|refine NG.exit_block rfl ?_|refine NG.exit_other rfl ?_|apply NG.exit_scope|apply NG.normal_block|apply NG.normal_scope|refine SG.val rfl rfl rfl rfl (by first|((first|apply qmv|apply qas|apply qlc|apply qla|apply qfa|apply qnc|apply qic|apply qix|apply qpk|apply qls|apply qei|apply qni|apply qed|apply qnd|apply qad|apply qln|apply qle|apply qgt|apply qge|apply qlk|apply qlv|apply qxt|apply qsb|apply qnt|apply qep|apply qnp|apply qeb|apply qnb|apply qx2|apply qx4|apply qcv|apply qlm|apply qfr|apply qto|apply qmx|apply qen|apply qsn|apply qx6|apply qx5|apply qx4|apply qx3|apply qx2|apply qx1|apply qx0)<;>(first|exact rfl|exact Ar.mk (by omega)|assumption|exact dct (by assumption)|exact dcf (by assumption)|exact dct (by omega)|exact dcf (by omega)|exact List.not_mem_nil|exact dc_length _|exact nc_length _|exact rc_length _ _ _|exact ec_length _|exact nm1 (by omega)|exact nm2 (by omega) (by omega)|exact dct rfl|exact dct (by decide)|exact dcf (by decide)|exact (Int.toNat_of_nonneg (by omega)).symm|exact dcu|exact lk1 (by assumption)|exact lk0 (by assumption)|exact lkb|fail))|fail) ?_ | refine SG.skip rfl rfl ?_)
        refine CG.cond_t rfl (by exact rho_of rfl) rfl ?_
        repeat (first|apply CG.seq|apply CG.region|apply SG.nil|apply NG.next|apply CG.skip|apply CG.block|apply CG.ret|apply CG.exit|apply CG.scope|apply NG.ret_then|apply NG.ret_block|apply NG.ret_scope|apply NG.exit_then|refine NG.exit_block rfl ?_|refine NG.exit_other rfl ?_|apply NG.exit_scope|apply NG.normal_block|apply NG.normal_scope|refine SG.val rfl rfl rfl rfl (by first|((first|apply qmv|apply qas|apply qlc|apply qla|apply qfa|apply qnc|apply qic|apply qix|apply qpk|apply qls|apply qei|apply qni|apply qed|apply qnd|apply qad|apply qln|apply qle|apply qgt|apply qge|apply qlk|apply qlv|apply qxt|apply qsb|apply qnt|apply qep|apply qnp|apply qeb|apply qnb|apply qx2|apply qx4|apply qcv|apply qlm|apply qfr|apply qto|apply qmx|apply qen|apply qsn|apply qx6|apply qx5|apply qx4|apply qx3|apply qx2|apply qx1|apply qx0)<;>(first|exact rfl|exact Ar.mk (by omega)|assumption|exact dct (by assumption)|exact dcf (by assumption)|exact dct (by omega)|exact dcf (by omega)|exact List.not_mem_nil|exact dc_length _|exact nc_length _|exact rc_length _ _ _|exact ec_length _|exact nm1 (by omega)|exact nm2 (by omega) (by omega)|exact dct rfl|exact dct (by decide)|exact dcf (by decide)|exact (Int.toNat_of_nonneg (by omega)).symm|exact dcu|exact lk1 (by assumption)|exact lk0 (by assumption)|exact lkb|fail))|fail) ?_)
        refine ret1 (Or.inl rfl) Try.results16 (by first | exact ResV.tmp rfl | exact ResV.agg rfl rfl (by assumption) (by first | exact dc_length _ | exact nc_length _ | exact rc_length _ _ _ | exact ec_length _ | rfl) | exact ResV.cell rfl rfl (by assumption)) ?_
        refine ⟨?_, Kp.refl _ _⟩
        rw [hno (by unfold Dd.fair; rw [decide_eq_false h2, Bool.and_false])]
    · have g2 : (100 : Int) < (x.bs.length : Int) := by omega
      repeat (first|apply CG.seq|apply CG.region|apply SG.nil|apply NG.next|apply CG.skip|apply CG.block|apply CG.ret|apply CG.exit|apply CG.scope|apply NG.ret_then|apply NG.ret_block|apply NG.ret_scope|apply NG.exit_then|refine NG.exit_block rfl ?_|refine NG.exit_other rfl ?_|apply NG.exit_scope|apply NG.normal_block|apply NG.normal_scope|refine SG.val rfl rfl rfl rfl (by first|((first|apply qmv|apply qas|apply qlc|apply qla|apply qfa|apply qnc|apply qic|apply qix|apply qpk|apply qls|apply qei|apply qni|apply qed|apply qnd|apply qad|apply qln|apply qle|apply qgt|apply qge|apply qlk|apply qlv|apply qxt|apply qsb|apply qnt|apply qep|apply qnp|apply qeb|apply qnb|apply qx2|apply qx4|apply qcv|apply qlm|apply qfr|apply qto|apply qmx|apply qen|apply qsn|apply qx6|apply qx5|apply qx4|apply qx3|apply qx2|apply qx1|apply qx0)<;>(first|exact rfl|exact Ar.mk (by omega)|assumption|exact dct (by assumption)|exact dcf (by assumption)|exact dct (by omega)|exact dcf (by omega)|exact List.not_mem_nil|exact dc_length _|exact nc_length _|exact rc_length _ _ _|exact ec_length _|exact nm1 (by omega)|exact nm2 (by omega) (by omega)|exact dct rfl|exact dct (by decide)|exact dcf (by decide)|exact (Int.toNat_of_nonneg (by omega)).symm|exact dcu|exact lk1 (by assumption)|exact lk0 (by assumption)|exact lkb|fail))|fail) ?_)
      refine CG.cond_t rfl (by exact rho_of rfl) rfl ?_
      repeat (first | first|apply CG.seq|apply CG.region|apply SG.nil|apply NG.next|apply CG.skip|apply CG.block|apply CG.ret|apply CG.exit|apply CG.scope|apply NG.ret_then|apply NG.ret_block|apply NG.ret_scope|apply NG.exit_then|refine NG.exit_block rfl ?_|refine NG.exit_other rfl ?_|apply NG.exit_scope|apply NG.normal_block|apply NG.normal_scope|refine SG.val rfl rfl rfl rfl (by first|((first|apply qmv|apply qas|apply qlc|apply qla|apply qfa|apply qnc|apply qic|apply qix|apply qpk|apply qls|apply qei|apply qni|apply qed|apply qnd|apply qad|apply qln|apply qle|apply qgt|apply qge|apply qlk|apply qlv|apply qxt|apply qsb|apply qnt|apply qep|apply qnp|apply qeb|apply qnb|apply qx2|apply qx4|apply qcv|apply qlm|apply qfr|apply qto|apply qmx|apply qen|apply qsn|apply qx6|apply qx5|apply qx4|apply qx3|apply qx2|apply qx1|apply qx0)<;>(first|exact rfl|exact Ar.mk (by omega)|assumption|exact dct (by assumption)|exact dcf (by assumption)|exact dct (by omega)|exact dcf (by omega)|exact List.not_mem_nil|exact dc_length _|exact nc_length _|exact rc_length _ _ _|exact ec_length _|exact nm1 (by omega)|exact nm2 (by omega) (by omega)|exact dct rfl|exact dct (by decide)|exact dcf (by decide)|exact (Int.toNat_of_nonneg (by omega)).symm|exact dcu|exact lk1 (by assumption)|exact lk0 (by assumption)|exact lkb|fail))|fail) ?_ | refine SG.skip rfl rfl ?_)
      refine CG.cond_t rfl (by exact rho_of rfl) rfl ?_
      repeat (first|apply CG.seq|apply CG.region|apply SG.nil|apply NG.next|apply CG.skip|apply CG.block|apply CG.ret|apply CG.exit|apply CG.scope|apply NG.ret_then|apply NG.ret_block|apply NG.ret_scope|apply NG.exit_then|refine NG.exit_block rfl ?_|refine NG.exit_other rfl ?_|apply NG.exit_scope|apply NG.normal_block|apply NG.normal_scope|refine SG.val rfl rfl rfl rfl (by first|((first|apply qmv|apply qas|apply qlc|apply qla|apply qfa|apply qnc|apply qic|apply qix|apply qpk|apply qls|apply qei|apply qni|apply qed|apply qnd|apply qad|apply qln|apply qle|apply qgt|apply qge|apply qlk|apply qlv|apply qxt|apply qsb|apply qnt|apply qep|apply qnp|apply qeb|apply qnb|apply qx2|apply qx4|apply qcv|apply qlm|apply qfr|apply qto|apply qmx|apply qen|apply qsn|apply qx6|apply qx5|apply qx4|apply qx3|apply qx2|apply qx1|apply qx0)<;>(first|exact rfl|exact Ar.mk (by omega)|assumption|exact dct (by assumption)|exact dcf (by assumption)|exact dct (by omega)|exact dcf (by omega)|exact List.not_mem_nil|exact dc_length _|exact nc_length _|exact rc_length _ _ _|exact ec_length _|exact nm1 (by omega)|exact nm2 (by omega) (by omega)|exact dct rfl|exact dct (by decide)|exact dcf (by decide)|exact (Int.toNat_of_nonneg (by omega)).symm|exact dcu|exact lk1 (by assumption)|exact lk0 (by assumption)|exact lkb|fail))|fail) ?_)
      refine ret1 (Or.inl rfl) Try.results16 (by first | exact ResV.tmp rfl | exact ResV.agg rfl rfl (by assumption) (by first | exact dc_length _ | exact nc_length _ | exact rc_length _ _ _ | exact ec_length _ | rfl) | exact ResV.cell rfl rfl (by assumption)) ?_
      refine ⟨?_, Kp.refl _ _⟩
      rw [hno (by unfold Dd.fair; rw [decide_eq_false h1, Bool.false_and])]
  have g1 : ¬ (i : Int) < (l.length : Int) := by omega
  rw [List.take_of_length_le (by omega)] at hall
  have e : fairB l = decide (l.length ≤ 60) := by unfold fairB; rw [hall, Bool.true_and]
  rw [e]
  by_cases h : l.length ≤ 60
  · have g2 : (l.length : Int) ≤ 60 := by omega
    repeat (first|apply CG.seq|apply CG.region|apply SG.nil|apply NG.next|apply CG.skip|apply CG.block|apply CG.ret|apply CG.exit|apply CG.scope|apply NG.ret_then|apply NG.ret_block|apply NG.ret_scope|apply NG.exit_then|refine NG.exit_block rfl ?_|refine NG.exit_other rfl ?_|apply NG.exit_scope|apply NG.normal_block|apply NG.normal_scope|refine SG.val rfl rfl rfl rfl (by first|((first|apply qmv|apply qas|apply qlc|apply qla|apply qfa|apply qnc|apply qic|apply qix|apply qpk|apply qls|apply qei|apply qni|apply qed|apply qnd|apply qad|apply qln|apply qle|apply qgt|apply qge|apply qlk|apply qlv|apply qxt|apply qsb|apply qnt|apply qep|apply qnp|apply qeb|apply qnb|apply qx2|apply qx4|apply qcv|apply qlm|apply qfr|apply qto|apply qmx|apply qen|apply qsn|apply qx6|apply qx5|apply qx4|apply qx3|apply qx2|apply qx1|apply qx0)<;>(first|exact rfl|exact Ar.mk (by omega)|assumption|exact dct (by assumption)|exact dcf (by assumption)|exact dct (by omega)|exact dcf (by omega)|exact List.not_mem_nil|exact dc_length _|exact nc_length _|exact rc_length _ _ _|exact ec_length _|exact nm1 (by omega)|exact nm2 (by omega) (by omega)|exact dct rfl|exact dct (by decide)|exact dcf (by decide)|exact (Int.toNat_of_nonneg (by omega)).symm|exact dcu|exact lk1 (by assumption)|exact lk0 (by assumption)|exact lkb|fail))|fail) ?_)
    refine CG.cond_f rfl (by exact rho_of rfl) rfl ?_
    repeat (first|apply CG.seq|apply CG.region|apply SG.nil|apply NG.next|apply CG.skip|apply CG.block|apply CG.ret|apply CG.exit|apply CG.scope|apply NG.ret_then|apply NG.ret_block|apply NG.ret_scope|apply NG.exit_then|refine NG.exit_block rfl ?_|refine NG.exit_other rfl ?_|apply NG.exit_scope|apply NG.normal_block|apply NG.normal_scope|refine SG.val rfl rfl rfl rfl (by first|((first|apply qmv|apply qas|apply qlc|apply qla|apply qfa|apply qnc|apply qic|apply qix|apply qpk|apply qls|apply qei|apply qni|apply qed|apply qnd|apply qad|apply qln|apply qle|apply qgt|apply qge|apply qlk|apply qlv|apply qxt|apply qsb|apply qnt|apply qep|apply qnp|apply qeb|apply qnb|apply qx2|apply qx4|apply qcv|apply qlm|apply qfr|apply qto|apply qmx|apply qen|apply qsn|apply qx6|apply qx5|apply qx4|apply qx3|apply qx2|apply qx1|apply qx0)<;>(first|exact rfl|exact Ar.mk (by omega)|assumption|exact dct (by assumption)|exact dcf (by assumption)|exact dct (by omega)|exact dcf (by omega)|exact List.not_mem_nil|exact dc_length _|exact nc_length _|exact rc_length _ _ _|exact ec_length _|exact nm1 (by omega)|exact nm2 (by omega) (by omega)|exact dct rfl|exact dct (by decide)|exact dcf (by decide)|exact (Int.toNat_of_nonneg (by omega)).symm|exact dcu|exact lk1 (by assumption)|exact lk0 (by assumption)|exact lkb|fail))|fail) ?_)
    refine ret1 (Or.inl rfl) Try.results16 (by first | exact ResV.tmp rfl | exact ResV.agg rfl rfl (by assumption) (by first | exact dc_length _ | exact nc_length _ | exact rc_length _ _ _ | exact ec_length _ | rfl) | exact ResV.cell rfl rfl (by assumption)) ?_
    rw [decide_eq_true h]
    exact ⟨rfl, Kp.refl _ _⟩
  · have g2 : ¬ (l.length : Int) ≤ 60 := by omega
    repeat (first|apply CG.seq|apply CG.region|apply SG.nil|apply NG.next|apply CG.skip|apply CG.block|apply CG.ret|apply CG.exit|apply CG.scope|apply NG.ret_then|apply NG.ret_block|apply NG.ret_scope|apply NG.exit_then|refine NG.exit_block rfl ?_|refine NG.exit_other rfl ?_|apply NG.exit_scope|apply NG.normal_block|apply NG.normal_scope|refine SG.val rfl rfl rfl rfl (by first|((first|apply qmv|apply qas|apply qlc|apply qla|apply qfa|apply qnc|apply qic|apply qix|apply qpk|apply qls|apply qei|apply qni|apply qed|apply qnd|apply qad|apply qln|apply qle|apply qgt|apply qge|apply qlk|apply qlv|apply qxt|apply qsb|apply qnt|apply qep|apply qnp|apply qeb|apply qnb|apply qx2|apply qx4|apply qcv|apply qlm|apply qfr|apply qto|apply qmx|apply qen|apply qsn|apply qx6|apply qx5|apply qx4|apply qx3|apply qx2|apply qx1|apply qx0)<;>(first|exact rfl|exact Ar.mk (by omega)|assumption|exact dct (by assumption)|exact dcf (by assumption)|exact dct (by omega)|exact dcf (by omega)|exact List.not_mem_nil|exact dc_length _|exact nc_length _|exact rc_length _ _ _|exact ec_length _|exact nm1 (by omega)|exact nm2 (by omega) (by omega)|exact dct rfl|exact dct (by decide)|exact dcf (by decide)|exact (Int.toNat_of_nonneg (by omega)).symm|exact dcu|exact lk1 (by assumption)|exact lk0 (by assumption)|exact lkb|fail))|fail) ?_)
    refine CG.cond_f rfl (by exact rho_of rfl) rfl ?_
    repeat (first|apply CG.seq|apply CG.region|apply SG.nil|apply NG.next|apply CG.skip|apply CG.block|apply CG.ret|apply CG.exit|apply CG.scope|apply NG.ret_then|apply NG.ret_block|apply NG.ret_scope|apply NG.exit_then|refine NG.exit_block rfl ?_|refine NG.exit_other rfl ?_|apply NG.exit_scope|apply NG.normal_block|apply NG.normal_scope|refine SG.val rfl rfl rfl rfl (by first|((first|apply qmv|apply qas|apply qlc|apply qla|apply qfa|apply qnc|apply qic|apply qix|apply qpk|apply qls|apply qei|apply qni|apply qed|apply qnd|apply qad|apply qln|apply qle|apply qgt|apply qge|apply qlk|apply qlv|apply qxt|apply qsb|apply qnt|apply qep|apply qnp|apply qeb|apply qnb|apply qx2|apply qx4|apply qcv|apply qlm|apply qfr|apply qto|apply qmx|apply qen|apply qsn|apply qx6|apply qx5|apply qx4|apply qx3|apply qx2|apply qx1|apply qx0)<;>(first|exact rfl|exact Ar.mk (by omega)|assumption|exact dct (by assumption)|exact dcf (by assumption)|exact dct (by omega)|exact dcf (by omega)|exact List.not_mem_nil|exact dc_length _|exact nc_length _|exact rc_length _ _ _|exact ec_length _|exact nm1 (by omega)|exact nm2 (by omega) (by omega)|exact dct rfl|exact dct (by decide)|exact dcf (by decide)|exact (Int.toNat_of_nonneg (by omega)).symm|exact dcu|exact lk1 (by assumption)|exact lk0 (by assumption)|exact lkb|fail))|fail) ?_)
    refine ret1 (Or.inl rfl) Try.results16 (by first | exact ResV.tmp rfl | exact ResV.agg rfl rfl (by assumption) (by first | exact dc_length _ | exact nc_length _ | exact rc_length _ _ _ | exact ec_length _ | rfl) | exact ResV.cell rfl rfl (by assumption)) ?_
    rw [decide_eq_false h]
    exact ⟨rfl, Kp.refl _ _⟩

/-- The letters of one way. -/
def wayL (a b : Nat) (l : Lt) : Bool := decide (l.fr = a) && decide (l.to = b)
set_option maxHeartbeats 8000000 in
theorem some_spec {w : World} {p : Option Addr} {l : List Lt} (c a b : Nat) (hS : Sl lcl 3 w p l) (hl : l.length ≤ 100000) : RetO Try.prog 35 lcl 3 20 #[.slice p l.length c, .int .i64 (a : Int), .int .i64 (b : Int)] w (l.filter (wayL a b)) := by
  refine enter3 Try.func20 rfl Try.ntmps20 rfl ?_
  repeat (first|apply CG.seq|apply CG.region|apply SG.nil|apply NG.next|apply CG.skip|apply CG.block|apply CG.ret|apply CG.exit|apply CG.scope|apply NG.ret_then|apply NG.ret_block|apply NG.ret_scope|apply NG.exit_then|refine NG.exit_block rfl ?_|refine NG.exit_other rfl ?_|apply NG.exit_scope|apply NG.normal_block|apply NG.normal_scope|refine SG.val rfl rfl rfl rfl (by first|((first|apply qmv|apply qas|apply qlc|apply qla|apply qfa|apply qnc|apply qic|apply qix|apply qpk|apply qls|apply qei|apply qni|apply qed|apply qnd|apply qad|apply qln|apply qle|apply qgt|apply qge|apply qlk|apply qlv|apply qxt|apply qsb|apply qnt|apply qep|apply qnp|apply qeb|apply qnb|apply qx2|apply qx4|apply qcv|apply qlm|apply qfr|apply qto|apply qmx|apply qen|apply qsn|apply qx6|apply qx5|apply qx4|apply qx3|apply qx2|apply qx1|apply qx0)<;>(first|exact rfl|exact Ar.mk (by omega)|assumption|exact dct (by assumption)|exact dcf (by assumption)|exact dct (by omega)|exact dcf (by omega)|exact List.not_mem_nil|exact dc_length _|exact nc_length _|exact rc_length _ _ _|exact ec_length _|exact nm1 (by omega)|exact nm2 (by omega) (by omega)|exact dct rfl|exact dct (by decide)|exact dcf (by decide)|exact (Int.toNat_of_nonneg (by omega)).symm|exact dcu|exact lk1 (by assumption)|exact lk0 (by assumption)|exact lkb|fail))|fail) ?_)
  refine CG.loop (X := Nat × Value) (fun q => [(0, .slice p l.length c), (1, .int .i64 (a : Int)), (2, .int .i64 (b : Int)), (7, q.2), (8, .int .i64 (q.1 : Int))])
    (fun q w' => q.1 ≤ l.length ∧ Kp [] w w' ∧ w'.ownsRow w.heap.size 35 3 q.2 ((l.take q.1).filter (wayL a b)).length (flt lcl ((l.take q.1).filter (wayL a b)))) (fun q => l.length - q.1) (0, .slice none 0 0) ⟨Nat.zero_le _, Kp.refl _ _, own_nil⟩ (by (repeat' (first | exact True.intro | exact rfl | refine And.intro ?_ ?_))) ?_
  rintro ⟨i, v⟩ w1 ⟨hi, hk, ho⟩
  replace hi : i ≤ l.length := hi
  replace ho : w1.ownsRow w.heap.size 35 3 v ((l.take i).filter (wayL a b)).length (flt lcl ((l.take i).filter (wayL a b))) := ho
  refine CG.to [(0, .slice p l.length c), (1, .int .i64 (a : Int)), (2, .int .i64 (b : Int)), (7, v), (8, .int .i64 (i : Int))] (by (repeat' (first | exact True.intro | exact rfl | refine And.intro ?_ ?_))) ?_
  by_cases hlt : i < l.length
  · have g1 : (i : Int) < (l.length : Int) := by omega
    obtain ⟨ba, oa, rfl, hr⟩ := (hS.kp0 hk).at hlt
    have et : (l.take (i + 1)).filter (wayL a b) = (l.take i).filter (wayL a b) ++ (if wayL a b l[i] = true then [l[i]] else []) := by
      rw [List.take_succ_eq_append_getElem hlt, List.filter_append]
      congr 1
      by_cases h : wayL a b l[i] = true
      · simp [h]
      · simp [h]
    generalize l[i] = x at hr et
    have hfl : ((l.take i).filter (wayL a b)).length ≤ 100000 := Nat.le_trans (List.length_filter_le _ _) (by rw [List.length_take]; omega)
    have r0 : Row w1 ba (oa + i * 3 + 0) [.int .i64 x.fr] := Row.sub [] _ [.int .i64 x.to, .slice x.a x.bs.length x.c] hr
    have r1 : Row w1 ba (oa + i * 3 + 1) [.int .i64 x.to] := Row.sub [.int .i64 x.fr] _ [.slice x.a x.bs.length x.c] hr
    have hcase : (wayL a b x = false ∧ (¬ (x.fr : Int) = (a : Int) ∨ ((x.fr : Int) = (a : Int) ∧ ¬ (x.to : Int) = (b : Int)))) ∨ (wayL a b x = true ∧ (x.fr : Int) = (a : Int) ∧ (x.to : Int) = (b : Int)) := by
      unfold wayL
      by_cases h1 : x.fr = a
      · by_cases h2 : x.to = b
        · exact Or.inr ⟨by simp [h1, h2], by omega, by omega⟩
        · exact Or.inl ⟨by simp [h2], Or.inr ⟨by omega, by omega⟩⟩
      · exact Or.inl ⟨by simp [h1], Or.inl (by omega)⟩
    rcases hcase with ⟨hw, hno⟩ | ⟨hw, g2, g3⟩
    · rw [hw] at et
      rcases hno with g2 | ⟨g2, g3⟩
      all_goals
        repeat (first|apply CG.seq|apply CG.region|apply SG.nil|apply NG.next|apply CG.skip|apply CG.block|apply CG.ret|apply CG.exit|apply CG.scope|apply NG.ret_then|apply NG.ret_block|apply NG.ret_scope|apply NG.exit_then|refine NG.exit_block rfl ?_|refine NG.exit_other rfl ?_|apply NG.exit_scope|apply NG.normal_block|apply NG.normal_scope|refine SG.val rfl rfl rfl rfl (by first|((first|apply qmv|apply qas|apply qlc|apply qla|apply qfa|apply qnc|apply qic|apply qix|apply qpk|apply qls|apply qei|apply qni|apply qed|apply qnd|apply qad|apply qln|apply qle|apply qgt|apply qge|apply qlk|apply qlv|apply qxt|apply qsb|apply qnt|apply qep|apply qnp|apply qeb|apply qnb|apply qx2|apply qx4|apply qcv|apply qlm|apply qfr|apply qto|apply qmx|apply qen|apply qsn|apply qx6|apply qx5|apply qx4|apply qx3|apply qx2|apply qx1|apply qx0)<;>(first|exact rfl|exact Ar.mk (by omega)|assumption|exact dct (by assumption)|exact dcf (by assumption)|exact dct (by omega)|exact dcf (by omega)|exact List.not_mem_nil|exact dc_length _|exact nc_length _|exact rc_length _ _ _|exact ec_length _|exact nm1 (by omega)|exact nm2 (by omega) (by omega)|exact dct rfl|exact dct (by decide)|exact dcf (by decide)|exact (Int.toNat_of_nonneg (by omega)).symm|exact dcu|exact lk1 (by assumption)|exact lk0 (by assumption)|exact lkb|fail))|fail) ?_)
        refine CG.cond_t rfl (by exact rho_of rfl) rfl ?_
        repeat (first | first|apply CG.seq|apply CG.region|apply SG.nil|apply NG.next|apply CG.skip|apply CG.block|apply CG.ret|apply CG.exit|apply CG.scope|apply NG.ret_then|apply NG.ret_block|apply NG.ret_scope|apply NG.exit_then|refine NG.exit_block rfl ?_|refine NG.exit_other rfl ?_|apply NG.exit_scope|apply NG.normal_block|apply NG.normal_scope|refine SG.val rfl rfl rfl rfl (by first|((first|apply qmv|apply qas|apply qlc|apply qla|apply qfa|apply qnc|apply qic|apply qix|apply qpk|apply qls|apply qei|apply qni|apply qed|apply qnd|apply qad|apply qln|apply qle|apply qgt|apply qge|apply qlk|apply qlv|apply qxt|apply qsb|apply qnt|apply qep|apply qnp|apply qeb|apply qnb|apply qx2|apply qx4|apply qcv|apply qlm|apply qfr|apply qto|apply qmx|apply qen|apply qsn|apply qx6|apply qx5|apply qx4|apply qx3|apply qx2|apply qx1|apply qx0)<;>(first|exact rfl|exact Ar.mk (by omega)|assumption|exact dct (by assumption)|exact dcf (by assumption)|exact dct (by omega)|exact dcf (by omega)|exact List.not_mem_nil|exact dc_length _|exact nc_length _|exact rc_length _ _ _|exact ec_length _|exact nm1 (by omega)|exact nm2 (by omega) (by omega)|exact dct rfl|exact dct (by decide)|exact dcf (by decide)|exact (Int.toNat_of_nonneg (by omega)).symm|exact dcu|exact lk1 (by assumption)|exact lk0 (by assumption)|exact lkb|fail))|fail) ?_ | refine SG.skip rfl rfl ?_)
        refine CG.cond_f rfl (by exact rho_of rfl) rfl ?_
        repeat (first|apply CG.seq|apply CG.region|apply SG.nil|apply NG.next|apply CG.skip|apply CG.block|apply CG.ret|apply CG.exit|apply CG.scope|apply NG.ret_then|apply NG.ret_block|apply NG.ret_scope|apply NG.exit_then|refine NG.exit_block rfl ?_|refine NG.exit_other rfl ?_|apply NG.exit_scope|apply NG.normal_block|apply NG.normal_scope|refine SG.val rfl rfl rfl rfl (by first|((first|apply qmv|apply qas|apply qlc|apply qla|apply qfa|apply qnc|apply qic|apply qix|apply qpk|apply qls|apply qei|apply qni|apply qed|apply qnd|apply qad|apply qln|apply qle|apply qgt|apply qge|apply qlk|apply qlv|apply qxt|apply qsb|apply qnt|apply qep|apply qnp|apply qeb|apply qnb|apply qx2|apply qx4|apply qcv|apply qlm|apply qfr|apply qto|apply qmx|apply qen|apply qsn|apply qx6|apply qx5|apply qx4|apply qx3|apply qx2|apply qx1|apply qx0)<;>(first|exact rfl|exact Ar.mk (by omega)|assumption|exact dct (by assumption)|exact dcf (by assumption)|exact dct (by omega)|exact dcf (by omega)|exact List.not_mem_nil|exact dc_length _|exact nc_length _|exact rc_length _ _ _|exact ec_length _|exact nm1 (by omega)|exact nm2 (by omega) (by omega)|exact dct rfl|exact dct (by decide)|exact dcf (by decide)|exact (Int.toNat_of_nonneg (by omega)).symm|exact dcu|exact lk1 (by assumption)|exact lk0 (by assumption)|exact lkb|fail))|fail) ?_)
        refine NG.round (i + 1, v) (by (repeat' (first | exact True.intro | exact rfl | refine And.intro ?_ ?_))) ⟨by show i + 1 ≤ l.length; omega, hk, ?_⟩ (by show l.length - (i + 1) < l.length - i; omega)
        show w1.ownsRow w.heap.size 35 3 v ((l.take (i + 1)).filter (wayL a b)).length (flt lcl ((l.take (i + 1)).filter (wayL a b)))
        rw [et, if_neg (by decide), List.append_nil]
        exact ho
    · rw [hw, if_pos rfl] at et
      have hr' : Row w1 ba (oa + i * 3) [.int .i64 x.fr, .int .i64 x.to, .slice x.a x.bs.length x.c] := hr
      repeat (first|apply CG.seq|apply CG.region|apply SG.nil|apply NG.next|apply CG.skip|apply CG.block|apply CG.ret|apply CG.exit|apply CG.scope|apply NG.ret_then|apply NG.ret_block|apply NG.ret_scope|apply NG.exit_then|refine NG.exit_block rfl ?_|refine NG.exit_other rfl ?_|apply NG.exit_scope|apply NG.normal_block|apply NG.normal_scope|refine SG.val rfl rfl rfl rfl (by first|((first|apply qmv|apply qas|apply qlc|apply qla|apply qfa|apply qnc|apply qic|apply qix|apply qpk|apply qls|apply qei|apply qni|apply qed|apply qnd|apply qad|apply qln|apply qle|apply qgt|apply qge|apply qlk|apply qlv|apply qxt|apply qsb|apply qnt|apply qep|apply qnp|apply qeb|apply qnb|apply qx2|apply qx4|apply qcv|apply qlm|apply qfr|apply qto|apply qmx|apply qen|apply qsn|apply qx6|apply qx5|apply qx4|apply qx3|apply qx2|apply qx1|apply qx0)<;>(first|exact rfl|exact Ar.mk (by omega)|assumption|exact dct (by assumption)|exact dcf (by assumption)|exact dct (by omega)|exact dcf (by omega)|exact List.not_mem_nil|exact dc_length _|exact nc_length _|exact rc_length _ _ _|exact ec_length _|exact nm1 (by omega)|exact nm2 (by omega) (by omega)|exact dct rfl|exact dct (by decide)|exact dcf (by decide)|exact (Int.toNat_of_nonneg (by omega)).symm|exact dcu|exact lk1 (by assumption)|exact lk0 (by assumption)|exact lkb|fail))|fail) ?_)
      refine CG.cond_t rfl (by exact rho_of rfl) rfl ?_
      repeat (first | first|apply CG.seq|apply CG.region|apply SG.nil|apply NG.next|apply CG.skip|apply CG.block|apply CG.ret|apply CG.exit|apply CG.scope|apply NG.ret_then|apply NG.ret_block|apply NG.ret_scope|apply NG.exit_then|refine NG.exit_block rfl ?_|refine NG.exit_other rfl ?_|apply NG.exit_scope|apply NG.normal_block|apply NG.normal_scope|refine SG.val rfl rfl rfl rfl (by first|((first|apply qmv|apply qas|apply qlc|apply qla|apply qfa|apply qnc|apply qic|apply qix|apply qpk|apply qls|apply qei|apply qni|apply qed|apply qnd|apply qad|apply qln|apply qle|apply qgt|apply qge|apply qlk|apply qlv|apply qxt|apply qsb|apply qnt|apply qep|apply qnp|apply qeb|apply qnb|apply qx2|apply qx4|apply qcv|apply qlm|apply qfr|apply qto|apply qmx|apply qen|apply qsn|apply qx6|apply qx5|apply qx4|apply qx3|apply qx2|apply qx1|apply qx0)<;>(first|exact rfl|exact Ar.mk (by omega)|assumption|exact dct (by assumption)|exact dcf (by assumption)|exact dct (by omega)|exact dcf (by omega)|exact List.not_mem_nil|exact dc_length _|exact nc_length _|exact rc_length _ _ _|exact ec_length _|exact nm1 (by omega)|exact nm2 (by omega) (by omega)|exact dct rfl|exact dct (by decide)|exact dcf (by decide)|exact (Int.toNat_of_nonneg (by omega)).symm|exact dcu|exact lk1 (by assumption)|exact lk0 (by assumption)|exact lkb|fail))|fail) ?_ | refine SG.skip rfl rfl ?_)
      refine CG.cond_t rfl (by exact rho_of rfl) rfl ?_
      repeat (first|apply CG.seq|apply CG.region|apply SG.nil|apply NG.next|apply CG.skip|apply CG.block|apply CG.ret|apply CG.exit|apply CG.scope|apply NG.ret_then|apply NG.ret_block|apply NG.ret_scope|apply NG.exit_then|refine NG.exit_block rfl ?_|refine NG.exit_other rfl ?_|apply NG.exit_scope|apply NG.normal_block|apply NG.normal_scope|refine SG.val rfl rfl rfl rfl (by first|((first|apply qmv|apply qas|apply qlc|apply qla|apply qfa|apply qnc|apply qic|apply qix|apply qpk|apply qls|apply qei|apply qni|apply qed|apply qnd|apply qad|apply qln|apply qle|apply qgt|apply qge|apply qlk|apply qlv|apply qxt|apply qsb|apply qnt|apply qep|apply qnp|apply qeb|apply qnb|apply qx2|apply qx4|apply qcv|apply qlm|apply qfr|apply qto|apply qmx|apply qen|apply qsn|apply qx6|apply qx5|apply qx4|apply qx3|apply qx2|apply qx1|apply qx0)<;>(first|exact rfl|exact Ar.mk (by omega)|assumption|exact dct (by assumption)|exact dcf (by assumption)|exact dct (by omega)|exact dcf (by omega)|exact List.not_mem_nil|exact dc_length _|exact nc_length _|exact rc_length _ _ _|exact ec_length _|exact nm1 (by omega)|exact nm2 (by omega) (by omega)|exact dct rfl|exact dct (by decide)|exact dcf (by decide)|exact (Int.toNat_of_nonneg (by omega)).symm|exact dcu|exact lk1 (by assumption)|exact lk0 (by assumption)|exact lkb|fail))|fail) ?_)
      refine SG.buildSlice rfl rfl rfl rfl (fun w => bslice35 w x.fr x.to x.a x.bs.length x.c) (fun b6 w2 hk2 hb6 hB6 => ?_)
      refine SG.append rfl rfl rfl (by exact rho_of rfl) (by exact rho_of rfl) rfl rfl rfl (own_kp0 ho hk2) (Row.all hB6 rfl) rfl rfl (by simp only [maxLen]; omega) (by show (((l.take i).filter (wayL a b)).length + 1) * 40 ≤ _; omega) (by have := hk.size; have := hk2.size; omega) (fun v' w3 hk3 ho3 => ?_)
      repeat (first|apply CG.seq|apply CG.region|apply SG.nil|apply NG.next|apply CG.skip|apply CG.block|apply CG.ret|apply CG.exit|apply CG.scope|apply NG.ret_then|apply NG.ret_block|apply NG.ret_scope|apply NG.exit_then|refine NG.exit_block rfl ?_|refine NG.exit_other rfl ?_|apply NG.exit_scope|apply NG.normal_block|apply NG.normal_scope|refine SG.val rfl rfl rfl rfl (by first|((first|apply qmv|apply qas|apply qlc|apply qla|apply qfa|apply qnc|apply qic|apply qix|apply qpk|apply qls|apply qei|apply qni|apply qed|apply qnd|apply qad|apply qln|apply qle|apply qgt|apply qge|apply qlk|apply qlv|apply qxt|apply qsb|apply qnt|apply qep|apply qnp|apply qeb|apply qnb|apply qx2|apply qx4|apply qcv|apply qlm|apply qfr|apply qto|apply qmx|apply qen|apply qsn|apply qx6|apply qx5|apply qx4|apply qx3|apply qx2|apply qx1|apply qx0)<;>(first|exact rfl|exact Ar.mk (by omega)|assumption|exact dct (by assumption)|exact dcf (by assumption)|exact dct (by omega)|exact dcf (by omega)|exact List.not_mem_nil|exact dc_length _|exact nc_length _|exact rc_length _ _ _|exact ec_length _|exact nm1 (by omega)|exact nm2 (by omega) (by omega)|exact dct rfl|exact dct (by decide)|exact dcf (by decide)|exact (Int.toNat_of_nonneg (by omega)).symm|exact dcu|exact lk1 (by assumption)|exact lk0 (by assumption)|exact lkb|fail))|fail) ?_)
      refine NG.round (i + 1, v') (by (repeat' (first | exact True.intro | exact rfl | refine And.intro ?_ ?_))) ⟨by show i + 1 ≤ l.length; omega, (hk.trans hk2).trans_new hk3 (own_new ho (Nat.le_refl _)), ?_⟩ (by show l.length - (i + 1) < l.length - i; omega)
      show w3.ownsRow w.heap.size 35 3 v' ((l.take (i + 1)).filter (wayL a b)).length (flt lcl ((l.take (i + 1)).filter (wayL a b)))
      rw [et, flt_append, flt_one, List.length_append]
      exact ho3
  have g1 : ¬ (i : Int) < (l.length : Int) := by omega
  rw [List.take_of_length_le (by omega)] at ho
  repeat (first|apply CG.seq|apply CG.region|apply SG.nil|apply NG.next|apply CG.skip|apply CG.block|apply CG.ret|apply CG.exit|apply CG.scope|apply NG.ret_then|apply NG.ret_block|apply NG.ret_scope|apply NG.exit_then|refine NG.exit_block rfl ?_|refine NG.exit_other rfl ?_|apply NG.exit_scope|apply NG.normal_block|apply NG.normal_scope|refine SG.val rfl rfl rfl rfl (by first|((first|apply qmv|apply qas|apply qlc|apply qla|apply qfa|apply qnc|apply qic|apply qix|apply qpk|apply qls|apply qei|apply qni|apply qed|apply qnd|apply qad|apply qln|apply qle|apply qgt|apply qge|apply qlk|apply qlv|apply qxt|apply qsb|apply qnt|apply qep|apply qnp|apply qeb|apply qnb|apply qx2|apply qx4|apply qcv|apply qlm|apply qfr|apply qto|apply qmx|apply qen|apply qsn|apply qx6|apply qx5|apply qx4|apply qx3|apply qx2|apply qx1|apply qx0)<;>(first|exact rfl|exact Ar.mk (by omega)|assumption|exact dct (by assumption)|exact dcf (by assumption)|exact dct (by omega)|exact dcf (by omega)|exact List.not_mem_nil|exact dc_length _|exact nc_length _|exact rc_length _ _ _|exact ec_length _|exact nm1 (by omega)|exact nm2 (by omega) (by omega)|exact dct rfl|exact dct (by decide)|exact dcf (by decide)|exact (Int.toNat_of_nonneg (by omega)).symm|exact dcu|exact lk1 (by assumption)|exact lk0 (by assumption)|exact lkb|fail))|fail) ?_)
  refine CG.cond_f rfl (by exact rho_of rfl) rfl ?_
  repeat (first|apply CG.seq|apply CG.region|apply SG.nil|apply NG.next|apply CG.skip|apply CG.block|apply CG.ret|apply CG.exit|apply CG.scope|apply NG.ret_then|apply NG.ret_block|apply NG.ret_scope|apply NG.exit_then|refine NG.exit_block rfl ?_|refine NG.exit_other rfl ?_|apply NG.exit_scope|apply NG.normal_block|apply NG.normal_scope|refine SG.val rfl rfl rfl rfl (by first|((first|apply qmv|apply qas|apply qlc|apply qla|apply qfa|apply qnc|apply qic|apply qix|apply qpk|apply qls|apply qei|apply qni|apply qed|apply qnd|apply qad|apply qln|apply qle|apply qgt|apply qge|apply qlk|apply qlv|apply qxt|apply qsb|apply qnt|apply qep|apply qnp|apply qeb|apply qnb|apply qx2|apply qx4|apply qcv|apply qlm|apply qfr|apply qto|apply qmx|apply qen|apply qsn|apply qx6|apply qx5|apply qx4|apply qx3|apply qx2|apply qx1|apply qx0)<;>(first|exact rfl|exact Ar.mk (by omega)|assumption|exact dct (by assumption)|exact dcf (by assumption)|exact dct (by omega)|exact dcf (by omega)|exact List.not_mem_nil|exact dc_length _|exact nc_length _|exact rc_length _ _ _|exact ec_length _|exact nm1 (by omega)|exact nm2 (by omega) (by omega)|exact dct rfl|exact dct (by decide)|exact dcf (by decide)|exact (Int.toNat_of_nonneg (by omega)).symm|exact dcu|exact lk1 (by assumption)|exact lk0 (by assumption)|exact lkb|fail))|fail) ?_)
  refine ret1 (Or.inl rfl) Try.results20 (by first | exact ResV.tmp rfl | exact ResV.agg rfl rfl (by assumption) (by first | exact dc_length _ | exact nc_length _ | exact rc_length _ _ _ | exact ec_length _ | rfl) | exact ResV.cell rfl rfl (by assumption)) ?_
  exact ⟨v, rfl, ho, hk⟩
set_option maxHeartbeats 8000000 in
theorem equal_spec {w : World} {p q : Option Addr} {l m : List Lt} (c d : Nat) (hS : Sl lcl 3 w p l) (hT : Sl lcl 3 w q m) (hb : ∀ x ∈ l, Sl byc 1 w x.a x.bs) (hd : ∀ x ∈ m, Sl byc 1 w x.a x.bs) (he : l.map ltc = m.map ltc) (hl : l.length ≤ 100000) : Ret Try.prog 19 #[.slice p l.length c, .slice q m.length d] w (.bool true) := by
  refine enter2 Try.func19 rfl Try.ntmps19 rfl ?_
  have elen : m.length = l.length := by
    have := congrArg List.length he
    simpa using this.symm
  rw [elen]
  repeat (first|apply CG.seq|apply CG.region|apply SG.nil|apply NG.next|apply CG.skip|apply CG.block|apply CG.ret|apply CG.exit|apply CG.scope|apply NG.ret_then|apply NG.ret_block|apply NG.ret_scope|apply NG.exit_then|refine NG.exit_block rfl ?_|refine NG.exit_other rfl ?_|apply NG.exit_scope|apply NG.normal_block|apply NG.normal_scope|refine SG.val rfl rfl rfl rfl (by first|((first|apply qmv|apply qas|apply qlc|apply qla|apply qfa|apply qnc|apply qic|apply qix|apply qpk|apply qls|apply qei|apply qni|apply qed|apply qnd|apply qad|apply qln|apply qle|apply qgt|apply qge|apply qlk|apply qlv|apply qxt|apply qsb|apply qnt|apply qep|apply qnp|apply qeb|apply qnb|apply qx2|apply qx4|apply qcv|apply qlm|apply qfr|apply qto|apply qmx|apply qen|apply qsn|apply qx6|apply qx5|apply qx4|apply qx3|apply qx2|apply qx1|apply qx0)<;>(first|exact rfl|exact Ar.mk (by omega)|assumption|exact dct (by assumption)|exact dcf (by assumption)|exact dct (by omega)|exact dcf (by omega)|exact List.not_mem_nil|exact dc_length _|exact nc_length _|exact rc_length _ _ _|exact ec_length _|exact nm1 (by omega)|exact nm2 (by omega) (by omega)|exact dct rfl|exact dct (by decide)|exact dcf (by decide)|exact (Int.toNat_of_nonneg (by omega)).symm|exact dcu|exact lk1 (by assumption)|exact lk0 (by assumption)|exact lkb|fail))|fail) ?_)
  refine CG.cond_f rfl (by exact rho_of rfl) rfl ?_
  repeat (first|apply CG.seq|apply CG.region|apply SG.nil|apply NG.next|apply CG.skip|apply CG.block|apply CG.ret|apply CG.exit|apply CG.scope|apply NG.ret_then|apply NG.ret_block|apply NG.ret_scope|apply NG.exit_then|refine NG.exit_block rfl ?_|refine NG.exit_other rfl ?_|apply NG.exit_scope|apply NG.normal_block|apply NG.normal_scope|refine SG.val rfl rfl rfl rfl (by first|((first|apply qmv|apply qas|apply qlc|apply qla|apply qfa|apply qnc|apply qic|apply qix|apply qpk|apply qls|apply qei|apply qni|apply qed|apply qnd|apply qad|apply qln|apply qle|apply qgt|apply qge|apply qlk|apply qlv|apply qxt|apply qsb|apply qnt|apply qep|apply qnp|apply qeb|apply qnb|apply qx2|apply qx4|apply qcv|apply qlm|apply qfr|apply qto|apply qmx|apply qen|apply qsn|apply qx6|apply qx5|apply qx4|apply qx3|apply qx2|apply qx1|apply qx0)<;>(first|exact rfl|exact Ar.mk (by omega)|assumption|exact dct (by assumption)|exact dcf (by assumption)|exact dct (by omega)|exact dcf (by omega)|exact List.not_mem_nil|exact dc_length _|exact nc_length _|exact rc_length _ _ _|exact ec_length _|exact nm1 (by omega)|exact nm2 (by omega) (by omega)|exact dct rfl|exact dct (by decide)|exact dcf (by decide)|exact (Int.toNat_of_nonneg (by omega)).symm|exact dcu|exact lk1 (by assumption)|exact lk0 (by assumption)|exact lkb|fail))|fail) ?_)
  refine CG.loop (X := Nat) (fun i => [(0, .slice p l.length c), (1, .slice q l.length d), (4, .bool false), (5, .int .i64 (i : Int))])
    (fun i w' => i ≤ l.length ∧ Kp [] w w') (fun i => l.length - i) 0 ⟨Nat.zero_le _, Kp.refl _ _⟩ (by (repeat' (first | exact True.intro | exact rfl | refine And.intro ?_ ?_))) ?_
  rintro i w1 ⟨hi, hk⟩
  by_cases hlt : i < l.length
  · have g1 : (i : Int) < (l.length : Int) := by omega
    have hlt' : i < m.length := by omega
    obtain ⟨ba, oa, rfl, hr⟩ := (hS.kp0 hk).at hlt
    obtain ⟨bb, ob, rfl, hr'⟩ := (hT.kp0 hk).at hlt'
    have hsb := (hb _ (List.getElem_mem hlt)).kp0 hk
    have hsd := (hd _ (List.getElem_mem hlt')).kp0 hk
    have hlm : ltc l[i] = ltc m[i] := by
      have h1 : (l.map ltc)[i]? = (m.map ltc)[i]? := by rw [he]
      rw [List.getElem?_map, List.getElem?_map, List.getElem?_eq_getElem hlt, List.getElem?_eq_getElem hlt'] at h1
      simpa using h1
    generalize l[i] = x at hr hsb hlm
    generalize m[i] = y at hr' hsd hlm
    obtain ⟨f, t, bs, a1, c1⟩ := x
    obtain ⟨f2, t2, bs2, a2, c2⟩ := y
    simp only [ltc, Prod.mk.injEq] at hlm
    obtain ⟨rfl, rfl, rfl⟩ := hlm
    have r0 : Row w1 ba (oa + i * 3 + 0) [.int .i64 f] := Row.sub [] _ [.int .i64 t, .slice a1 bs.length c1] hr
    have r1 : Row w1 ba (oa + i * 3 + 1) [.int .i64 t] := Row.sub [.int .i64 f] _ [.slice a1 bs.length c1] hr
    have r2 : Row w1 ba (oa + i * 3 + 2) [.slice a1 bs.length c1] := Row.sub [.int .i64 f, .int .i64 t] _ [] hr
    have s0 : Row w1 bb (ob + i * 3 + 0) [.int .i64 f] := Row.sub [] _ [.int .i64 t, .slice a2 bs.length c2] hr'
    have s1 : Row w1 bb (ob + i * 3 + 1) [.int .i64 t] := Row.sub [.int .i64 f] _ [.slice a2 bs.length c2] hr'
    have s2 : Row w1 bb (ob + i * 3 + 2) [.slice a2 bs.length c2] := Row.sub [.int .i64 f, .int .i64 t] _ [] hr'
    repeat (first|apply CG.seq|apply CG.region|apply SG.nil|apply NG.next|apply CG.skip|apply CG.block|apply CG.ret|apply CG.exit|apply CG.scope|apply NG.ret_then|apply NG.ret_block|apply NG.ret_scope|apply NG.exit_then|refine NG.exit_block rfl ?_|refine NG.exit_other rfl ?_|apply NG.exit_scope|apply NG.normal_block|apply NG.normal_scope|refine SG.val rfl rfl rfl rfl (by first|((first|apply qmv|apply qas|apply qlc|apply qla|apply qfa|apply qnc|apply qic|apply qix|apply qpk|apply qls|apply qei|apply qni|apply qed|apply qnd|apply qad|apply qln|apply qle|apply qgt|apply qge|apply qlk|apply qlv|apply qxt|apply qsb|apply qnt|apply qep|apply qnp|apply qeb|apply qnb|apply qx2|apply qx4|apply qcv|apply qlm|apply qfr|apply qto|apply qmx|apply qen|apply qsn|apply qx6|apply qx5|apply qx4|apply qx3|apply qx2|apply qx1|apply qx0)<;>(first|exact rfl|exact Ar.mk (by omega)|assumption|exact dct (by assumption)|exact dcf (by assumption)|exact dct (by omega)|exact dcf (by omega)|exact List.not_mem_nil|exact dc_length _|exact nc_length _|exact rc_length _ _ _|exact ec_length _|exact nm1 (by omega)|exact nm2 (by omega) (by omega)|exact dct rfl|exact dct (by decide)|exact dcf (by decide)|exact (Int.toNat_of_nonneg (by omega)).symm|exact dcu|exact lk1 (by assumption)|exact lk0 (by assumption)|exact lkb|fail))|fail) ?_)
    refine CG.cond_t rfl (by exact rho_of rfl) rfl ?_
    repeat (first|apply CG.seq|apply CG.region|apply SG.nil|apply NG.next|apply CG.skip|apply CG.block|apply CG.ret|apply CG.exit|apply CG.scope|apply NG.ret_then|apply NG.ret_block|apply NG.ret_scope|apply NG.exit_then|refine NG.exit_block rfl ?_|refine NG.exit_other rfl ?_|apply NG.exit_scope|apply NG.normal_block|apply NG.normal_scope|refine SG.val rfl rfl rfl rfl (by first|((first|apply qmv|apply qas|apply qlc|apply qla|apply qfa|apply qnc|apply qic|apply qix|apply qpk|apply qls|apply qei|apply qni|apply qed|apply qnd|apply qad|apply qln|apply qle|apply qgt|apply qge|apply qlk|apply qlv|apply qxt|apply qsb|apply qnt|apply qep|apply qnp|apply qeb|apply qnb|apply qx2|apply qx4|apply qcv|apply qlm|apply qfr|apply qto|apply qmx|apply qen|apply qsn|apply qx6|apply qx5|apply qx4|apply qx3|apply qx2|apply qx1|apply qx0)<;>(first|exact rfl|exact Ar.mk (by omega)|assumption|exact dct (by assumption)|exact dcf (by assumption)|exact dct (by omega)|exact dcf (by omega)|exact List.not_mem_nil|exact dc_length _|exact nc_length _|exact rc_length _ _ _|exact ec_length _|exact nm1 (by omega)|exact nm2 (by omega) (by omega)|exact dct rfl|exact dct (by decide)|exact dcf (by decide)|exact (Int.toNat_of_nonneg (by omega)).symm|exact dcu|exact lk1 (by assumption)|exact lk0 (by assumption)|exact lkb|fail))|fail) ?_)
    refine CG.draw0 mixed [0, 1, 2, 3, 4, 5, 6, 7, 8, 9, 10, 11, 12, 13, 14, 15, 16, 17, 18, 19, 20, 21, 22, 23, 24, 25, 26, 27, 28, 29, 30, 31, 32, 33, 34, 35, 36, 37, 38] [] (by kernel_rfl) ?_
    repeat (first | refine Der.val rfl rfl rfl (by first|((first|apply qmv|apply qas|apply qlc|apply qla|apply qfa|apply qnc|apply qic|apply qix|apply qpk|apply qls|apply qei|apply qni|apply qed|apply qnd|apply qad|apply qln|apply qle|apply qgt|apply qge|apply qlk|apply qlv|apply qxt|apply qsb|apply qnt|apply qep|apply qnp|apply qeb|apply qnb|apply qx2|apply qx4|apply qcv|apply qlm|apply qfr|apply qto|apply qmx|apply qen|apply qsn|apply qx6|apply qx5|apply qx4|apply qx3|apply qx2|apply qx1|apply qx0)<;>(first|exact rfl|exact Ar.mk (by omega)|assumption|exact dct (by assumption)|exact dcf (by assumption)|exact dct (by omega)|exact dcf (by omega)|exact List.not_mem_nil|exact dc_length _|exact nc_length _|exact rc_length _ _ _|exact ec_length _|exact nm1 (by omega)|exact nm2 (by omega) (by omega)|exact dct rfl|exact dct (by decide)|exact dcf (by decide)|exact (Int.toNat_of_nonneg (by omega)).symm|exact dcu|exact lk1 (by assumption)|exact lk0 (by assumption)|exact lkb|fail))|fail) ?_ | refine Der.skip rfl rfl ?_)
    refine Der.val rfl rfl rfl (qbs rfl hsb rfl (fun _ _ _ => List.not_mem_nil)) ?_
    repeat (first | refine Der.val rfl rfl rfl (by first|((first|apply qmv|apply qas|apply qlc|apply qla|apply qfa|apply qnc|apply qic|apply qix|apply qpk|apply qls|apply qei|apply qni|apply qed|apply qnd|apply qad|apply qln|apply qle|apply qgt|apply qge|apply qlk|apply qlv|apply qxt|apply qsb|apply qnt|apply qep|apply qnp|apply qeb|apply qnb|apply qx2|apply qx4|apply qcv|apply qlm|apply qfr|apply qto|apply qmx|apply qen|apply qsn|apply qx6|apply qx5|apply qx4|apply qx3|apply qx2|apply qx1|apply qx0)<;>(first|exact rfl|exact Ar.mk (by omega)|assumption|exact dct (by assumption)|exact dcf (by assumption)|exact dct (by omega)|exact dcf (by omega)|exact List.not_mem_nil|exact dc_length _|exact nc_length _|exact rc_length _ _ _|exact ec_length _|exact nm1 (by omega)|exact nm2 (by omega) (by omega)|exact dct rfl|exact dct (by decide)|exact dcf (by decide)|exact (Int.toNat_of_nonneg (by omega)).symm|exact dcu|exact lk1 (by assumption)|exact lk0 (by assumption)|exact lkb|fail))|fail) ?_ | refine Der.skip rfl rfl ?_)
    refine Der.val rfl rfl rfl (qbs rfl hsd rfl (fun _ _ _ => List.not_mem_nil)) ?_
    repeat (first | refine Der.val rfl rfl rfl (by first|((first|apply qmv|apply qas|apply qlc|apply qla|apply qfa|apply qnc|apply qic|apply qix|apply qpk|apply qls|apply qei|apply qni|apply qed|apply qnd|apply qad|apply qln|apply qle|apply qgt|apply qge|apply qlk|apply qlv|apply qxt|apply qsb|apply qnt|apply qep|apply qnp|apply qeb|apply qnb|apply qx2|apply qx4|apply qcv|apply qlm|apply qfr|apply qto|apply qmx|apply qen|apply qsn|apply qx6|apply qx5|apply qx4|apply qx3|apply qx2|apply qx1|apply qx0)<;>(first|exact rfl|exact Ar.mk (by omega)|assumption|exact dct (by assumption)|exact dcf (by assumption)|exact dct (by omega)|exact dcf (by omega)|exact List.not_mem_nil|exact dc_length _|exact nc_length _|exact rc_length _ _ _|exact ec_length _|exact nm1 (by omega)|exact nm2 (by omega) (by omega)|exact dct rfl|exact dct (by decide)|exact dcf (by decide)|exact (Int.toNat_of_nonneg (by omega)).symm|exact dcu|exact lk1 (by assumption)|exact lk0 (by assumption)|exact lkb|fail))|fail) ?_ | refine Der.skip rfl rfl ?_)
    refine Der.fin (fun w2 hk2 _ _ => ?_)
    repeat (first|apply CG.seq|apply CG.region|apply SG.nil|apply NG.next|apply CG.skip|apply CG.block|apply CG.ret|apply CG.exit|apply CG.scope|apply NG.ret_then|apply NG.ret_block|apply NG.ret_scope|apply NG.exit_then|refine NG.exit_block rfl ?_|refine NG.exit_other rfl ?_|apply NG.exit_scope|apply NG.normal_block|apply NG.normal_scope|refine SG.val rfl rfl rfl rfl (by first|((first|apply qmv|apply qas|apply qlc|apply qla|apply qfa|apply qnc|apply qic|apply qix|apply qpk|apply qls|apply qei|apply qni|apply qed|apply qnd|apply qad|apply qln|apply qle|apply qgt|apply qge|apply qlk|apply qlv|apply qxt|apply qsb|apply qnt|apply qep|apply qnp|apply qeb|apply qnb|apply qx2|apply qx4|apply qcv|apply qlm|apply qfr|apply qto|apply qmx|apply qen|apply qsn|apply qx6|apply qx5|apply qx4|apply qx3|apply qx2|apply qx1|apply qx0)<;>(first|exact rfl|exact Ar.mk (by omega)|assumption|exact dct (by assumption)|exact dcf (by assumption)|exact dct (by omega)|exact dcf (by omega)|exact List.not_mem_nil|exact dc_length _|exact nc_length _|exact rc_length _ _ _|exact ec_length _|exact nm1 (by omega)|exact nm2 (by omega) (by omega)|exact dct rfl|exact dct (by decide)|exact dcf (by decide)|exact (Int.toNat_of_nonneg (by omega)).symm|exact dcu|exact lk1 (by assumption)|exact lk0 (by assumption)|exact lkb|fail))|fail) ?_)
    refine CG.cond_f rfl (by exact rho_of rfl) rfl ?_
    repeat (first|apply CG.seq|apply CG.region|apply SG.nil|apply NG.next|apply CG.skip|apply CG.block|apply CG.ret|apply CG.exit|apply CG.scope|apply NG.ret_then|apply NG.ret_block|apply NG.ret_scope|apply NG.exit_then|refine NG.exit_block rfl ?_|refine NG.exit_other rfl ?_|apply NG.exit_scope|apply NG.normal_block|apply NG.normal_scope|refine SG.val rfl rfl rfl rfl (by first|((first|apply qmv|apply qas|apply qlc|apply qla|apply qfa|apply qnc|apply qic|apply qix|apply qpk|apply qls|apply qei|apply qni|apply qed|apply qnd|apply qad|apply qln|apply qle|apply qgt|apply qge|apply qlk|apply qlv|apply qxt|apply qsb|apply qnt|apply qep|apply qnp|apply qeb|apply qnb|apply qx2|apply qx4|apply qcv|apply qlm|apply qfr|apply qto|apply qmx|apply qen|apply qsn|apply qx6|apply qx5|apply qx4|apply qx3|apply qx2|apply qx1|apply qx0)<;>(first|exact rfl|exact Ar.mk (by omega)|assumption|exact dct (by assumption)|exact dcf (by assumption)|exact dct (by omega)|exact dcf (by omega)|exact List.not_mem_nil|exact dc_length _|exact nc_length _|exact rc_length _ _ _|exact ec_length _|exact nm1 (by omega)|exact nm2 (by omega) (by omega)|exact dct rfl|exact dct (by decide)|exact dcf (by decide)|exact (Int.toNat_of_nonneg (by omega)).symm|exact dcu|exact lk1 (by assumption)|exact lk0 (by assumption)|exact lkb|fail))|fail) ?_)
    refine NG.round (i + 1) (by (repeat' (first | exact True.intro | exact rfl | refine And.intro ?_ ?_))) ⟨hlt, hk.trans hk2⟩ (by omega)
  have g1 : ¬ (i : Int) < (l.length : Int) := by omega
  repeat (first|apply CG.seq|apply CG.region|apply SG.nil|apply NG.next|apply CG.skip|apply CG.block|apply CG.ret|apply CG.exit|apply CG.scope|apply NG.ret_then|apply NG.ret_block|apply NG.ret_scope|apply NG.exit_then|refine NG.exit_block rfl ?_|refine NG.exit_other rfl ?_|apply NG.exit_scope|apply NG.normal_block|apply NG.normal_scope|refine SG.val rfl rfl rfl rfl (by first|((first|apply qmv|apply qas|apply qlc|apply qla|apply qfa|apply qnc|apply qic|apply qix|apply qpk|apply qls|apply qei|apply qni|apply qed|apply qnd|apply qad|apply qln|apply qle|apply qgt|apply qge|apply qlk|apply qlv|apply qxt|apply qsb|apply qnt|apply qep|apply qnp|apply qeb|apply qnb|apply qx2|apply qx4|apply qcv|apply qlm|apply qfr|apply qto|apply qmx|apply qen|apply qsn|apply qx6|apply qx5|apply qx4|apply qx3|apply qx2|apply qx1|apply qx0)<;>(first|exact rfl|exact Ar.mk (by omega)|assumption|exact dct (by assumption)|exact dcf (by assumption)|exact dct (by omega)|exact dcf (by omega)|exact List.not_mem_nil|exact dc_length _|exact nc_length _|exact rc_length _ _ _|exact ec_length _|exact nm1 (by omega)|exact nm2 (by omega) (by omega)|exact dct rfl|exact dct (by decide)|exact dcf (by decide)|exact (Int.toNat_of_nonneg (by omega)).symm|exact dcu|exact lk1 (by assumption)|exact lk0 (by assumption)|exact lkb|fail))|fail) ?_)
  refine CG.cond_f rfl (by exact rho_of rfl) rfl ?_
  repeat (first|apply CG.seq|apply CG.region|apply SG.nil|apply NG.next|apply CG.skip|apply CG.block|apply CG.ret|apply CG.exit|apply CG.scope|apply NG.ret_then|apply NG.ret_block|apply NG.ret_scope|apply NG.exit_then|refine NG.exit_block rfl ?_|refine NG.exit_other rfl ?_|apply NG.exit_scope|apply NG.normal_block|apply NG.normal_scope|refine SG.val rfl rfl rfl rfl (by first|((first|apply qmv|apply qas|apply qlc|apply qla|apply qfa|apply qnc|apply qic|apply qix|apply qpk|apply qls|apply qei|apply qni|apply qed|apply qnd|apply qad|apply qln|apply qle|apply qgt|apply qge|apply qlk|apply qlv|apply qxt|apply qsb|apply qnt|apply qep|apply qnp|apply qeb|apply qnb|apply qx2|apply qx4|apply qcv|apply qlm|apply qfr|apply qto|apply qmx|apply qen|apply qsn|apply qx6|apply qx5|apply qx4|apply qx3|apply qx2|apply qx1|apply qx0)<;>(first|exact rfl|exact Ar.mk (by omega)|assumption|exact dct (by assumption)|exact dcf (by assumption)|exact dct (by omega)|exact dcf (by omega)|exact List.not_mem_nil|exact dc_length _|exact nc_length _|exact rc_length _ _ _|exact ec_length _|exact nm1 (by omega)|exact nm2 (by omega) (by omega)|exact dct rfl|exact dct (by decide)|exact dcf (by decide)|exact (Int.toNat_of_nonneg (by omega)).symm|exact dcu|exact lk1 (by assumption)|exact lk0 (by assumption)|exact lkb|fail))|fail) ?_)
  refine ret1 (Or.inl rfl) Try.results19 (by first | exact ResV.tmp rfl | exact ResV.agg rfl rfl (by assumption) (by first | exact dc_length _ | exact nc_length _ | exact rc_length _ _ _ | exact ec_length _ | rfl) | exact ResV.cell rfl rfl (by assumption)) ?_
  exact ⟨rfl, hk⟩
end Go.Proofs.Ytfelaicoedlejaa
