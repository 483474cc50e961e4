/-
  The statement's own example.
-/
import Derived.Test.YtpnenekgldggbaaLaw
namespace Go.Proofs.Ytpnenekgldggbaa
set_option linter.unusedVariables false
attribute [local irreducible] CG NG SG Vals Der Row Blk MapIs

def T0 : Tr := Tr.new (idD 0) 1
def T1 : Tr := T0.add (idD 1) (idD 0)
def T2 : Tr := T1.add (idD 2) (idD 1)
def T3 : Tr := T2.add (idD 3) (idD 0)
def T4 : Tr := T3.add (idD 4) (idD 1)
def T5 : Tr := T4.add (idD 5) (idD 4)
theorem T0_wf : T0.WF := new_wf _ _
theorem T1_wf : T1.WF := (add_step T0_wf _ _).1
theorem T2_wf : T2.WF := (add_step T1_wf _ _).1
theorem T3_wf : T3.WF := (add_step T2_wf _ _).1
theorem T4_wf : T4.WF := (add_step T3_wf _ _).1
theorem T5_wf : T5.WF := (add_step T4_wf _ _).1
theorem E1 : T0.addE (idD 1) (idD 0) = 0 := by decide
theorem E2 : T1.addE (idD 2) (idD 1) = 0 := by decide
theorem E3 : T2.addE (idD 3) (idD 0) = 25 := by decide
theorem E4 : T3.addE (idD 4) (idD 1) = 0 := by decide
theorem E5 : T4.addE (idD 5) (idD 4) = 0 := by decide
theorem tip4 : T4.tip = idD 2 := by decide
theorem tip5 : T5.tip = idD 5 := by decide
theorem ht5 : T5.height (idD 5) = 3 := by decide
theorem und5 : T5.und (idD 2) (idD 5) = 1 := by decide
theorem has52 : T5.has (idD 2) = true := by decide
theorem has55 : T5.has (idD 5) = true := by decide
theorem T_small : T0.depth ≤ 1000 ∧ T1.depth ≤ 1000 ∧ T2.depth ≤ 1000 ∧ T3.depth ≤ 1000 ∧ T4.depth ≤ 1000 := by decide

/-- One block comes, in text order. -/
theorem SG.add {n : Nat} {Q : Exit → Act → World → Prop} {ops rest : List Oper} {L : Env} {w : World} {d : Nat} {ty : TypeId} {pos : String} {af : Array Edge} {g : Option (Nat × Bool)} {a1 a2 a3 : Operand} {tys : Array TypeId} {bt bm : Nat} {t : Tr} {x p : Dg}
    (hd : Nat.blt d n = true) (hw : want ops L ⟨some d, .call ⟨.value (.func 14), #[a1, a2, a3], tys⟩, ty, pos, af, g⟩ = some true) (hk : (Op.call ⟨.value (.func 14), #[a1, a2, a3], tys⟩).operands.toList.all (known L) = true)
    (h1 : rho L a1 = .pointer (some ⟨bt, 0, none⟩)) (h2 : rho L a2 = dv x) (h3 : rho L a3 = dv p) (hT : TreeAt w bt bm t) (hbm : bt ≠ bm) (wf : t.WF) (hdep : t.depth ≤ 1000)
    (h : ∀ w', TreeAt w' bt bm (t.add x p) → Kp [bt, bm] w w' → SG Try.prog n ops Q rest ((d, .int .i64 (t.addE x p)) :: L) w') : SG Try.prog n ops Q (⟨some d, .call ⟨.value (.func 14), #[a1, a2, a3], tys⟩, ty, pos, af, g⟩ :: rest) L w :=
  SG.call (args := [a1, a2, a3]) (vs := [.pointer (some ⟨bt, 0, none⟩), dv x, dv p]) hd hw hk ⟨h1, h2, h3, True.intro⟩ ((add_spec hT hbm wf hdep x p).mono (fun e w' ⟨e1, e2, e3⟩ => ⟨_, e1, h w' e2 e3⟩))

set_option maxHeartbeats 8000000 in
theorem told_spec (w : World) : Ret Try.prog 12 #[] w (.bool true) := by
  refine enter0 Try.func12 rfl Try.ntmps12 ?_
  repeat (first|apply CG.seq|apply CG.region|apply SG.nil|apply NG.next|apply CG.skip|apply CG.block|apply CG.ret|apply CG.exit|apply CG.scope|apply NG.ret_then|apply NG.ret_block|apply NG.ret_scope|apply NG.exit_then|refine NG.exit_block rfl ?_|refine NG.exit_other rfl ?_|apply NG.exit_scope|apply NG.normal_block|apply NG.normal_scope|refine SG.val rfl rfl rfl rfl (by first|((first|apply qmv|apply qas|apply qlc|apply qla|apply qfa|apply qnc|apply qic|apply qix|apply qpk|apply qls|apply qei|apply qni|apply qed|apply qnd|apply qad|apply qln|apply qle|apply qgt|apply qge|apply qlk|apply qlv|apply qxt|apply qsb|apply qnt|apply qep|apply qnp|apply qeb|apply qnb|apply qcv|apply qlm|apply qfr|apply qto|apply qmx|apply qx0|apply qx1)<;>(first|exact rfl|exact Ar.mk (by omega)|assumption|exact dct (by assumption)|exact dcf (by assumption)|exact dct (by omega)|exact dcf (by omega)|exact List.not_mem_nil|exact dc_length _|exact nc_length _|exact nm1 (by omega)|exact nm2 (by omega) (by omega)|exact dct rfl|exact dct (by decide)|exact dcf (by decide)|exact (Int.toNat_of_nonneg (by omega)).symm|exact dcu|exact lk1 (by assumption)|exact lk0 (by assumption)))|fail) ?_)
  refine SG.ret rfl rfl rfl (vs := [bv 0]) ⟨rfl, True.intro⟩ (id_spec 0 w) (fun w1 hk1 => ?_)
  refine SG.call rfl rfl rfl (vs := [dv (idD 0), .int .i64 (1 : Nat)]) ⟨rfl, rfl, True.intro⟩ ((new_good w1 (idD 0) 1 (by omega)).mono (fun e w2 h => ?_))
  obtain ⟨bt, bm, he, hT, hbt, hbm, hne, hk2⟩ := h
  refine ⟨_, he, ?_⟩
  change TreeAt w2 bt bm T0 at hT
  have hk := hk1.trans hk2
  have eT := hT.blk.lt
  have eM := hT.map.lt
  have s1 := hk1.size
  have s2 := hk2.size
  repeat (first|apply CG.seq|apply CG.region|apply SG.nil|apply NG.next|apply CG.skip|apply CG.block|apply CG.ret|apply CG.exit|apply CG.scope|apply NG.ret_then|apply NG.ret_block|apply NG.ret_scope|apply NG.exit_then|refine NG.exit_block rfl ?_|refine NG.exit_other rfl ?_|apply NG.exit_scope|apply NG.normal_block|apply NG.normal_scope|refine SG.val rfl rfl rfl rfl (by first|((first|apply qmv|apply qas|apply qlc|apply qla|apply qfa|apply qnc|apply qic|apply qix|apply qpk|apply qls|apply qei|apply qni|apply qed|apply qnd|apply qad|apply qln|apply qle|apply qgt|apply qge|apply qlk|apply qlv|apply qxt|apply qsb|apply qnt|apply qep|apply qnp|apply qeb|apply qnb|apply qcv|apply qlm|apply qfr|apply qto|apply qmx|apply qx0|apply qx1)<;>(first|exact rfl|exact Ar.mk (by omega)|assumption|exact dct (by assumption)|exact dcf (by assumption)|exact dct (by omega)|exact dcf (by omega)|exact List.not_mem_nil|exact dc_length _|exact nc_length _|exact nm1 (by omega)|exact nm2 (by omega) (by omega)|exact dct rfl|exact dct (by decide)|exact dcf (by decide)|exact (Int.toNat_of_nonneg (by omega)).symm|exact dcu|exact lk1 (by assumption)|exact lk0 (by assumption)))|fail) ?_)
  refine SG.ret rfl rfl rfl (vs := [bv 1]) ⟨rfl, True.intro⟩ (id_spec 1 w2) (fun w3 hk3 => ?_)
  refine SG.ret rfl rfl rfl (vs := [bv 0]) ⟨rfl, True.intro⟩ (id_spec 0 w3) (fun w4 hk4 => ?_)
  have hT := (hT.kp0 hk3).kp0 hk4
  have hk := (hk.trans hk3).trans hk4
  refine SG.add rfl rfl rfl (by exact rho_of rfl) (by exact rho_of rfl) (by exact rho_of rfl) hT hne T0_wf T_small.1 (fun w5 hT hk5 => ?_)
  rw [E1]
  have hk := hk.trans_new hk5 (new2 (by omega) (by omega))
  have hT : TreeAt w5 bt bm T1 := hT
  repeat (first|apply CG.seq|apply CG.region|apply SG.nil|apply NG.next|apply CG.skip|apply CG.block|apply CG.ret|apply CG.exit|apply CG.scope|apply NG.ret_then|apply NG.ret_block|apply NG.ret_scope|apply NG.exit_then|refine NG.exit_block rfl ?_|refine NG.exit_other rfl ?_|apply NG.exit_scope|apply NG.normal_block|apply NG.normal_scope|refine SG.val rfl rfl rfl rfl (by first|((first|apply qmv|apply qas|apply qlc|apply qla|apply qfa|apply qnc|apply qic|apply qix|apply qpk|apply qls|apply qei|apply qni|apply qed|apply qnd|apply qad|apply qln|apply qle|apply qgt|apply qge|apply qlk|apply qlv|apply qxt|apply qsb|apply qnt|apply qep|apply qnp|apply qeb|apply qnb|apply qcv|apply qlm|apply qfr|apply qto|apply qmx|apply qx0|apply qx1)<;>(first|exact rfl|exact Ar.mk (by omega)|assumption|exact dct (by assumption)|exact dcf (by assumption)|exact dct (by omega)|exact dcf (by omega)|exact List.not_mem_nil|exact dc_length _|exact nc_length _|exact nm1 (by omega)|exact nm2 (by omega) (by omega)|exact dct rfl|exact dct (by decide)|exact dcf (by decide)|exact (Int.toNat_of_nonneg (by omega)).symm|exact dcu|exact lk1 (by assumption)|exact lk0 (by assumption)))|fail) ?_)
  refine SG.ret rfl rfl rfl (vs := [bv 2]) ⟨rfl, True.intro⟩ (id_spec 2 w5) (fun w6 hk3 => ?_)
  refine SG.ret rfl rfl rfl (vs := [bv 1]) ⟨rfl, True.intro⟩ (id_spec 1 w6) (fun w7 hk4 => ?_)
  have hT := (hT.kp0 hk3).kp0 hk4
  have hk := (hk.trans hk3).trans hk4
  refine SG.add rfl rfl rfl (by exact rho_of rfl) (by exact rho_of rfl) (by exact rho_of rfl) hT hne T1_wf T_small.2.1 (fun w8 hT hk5 => ?_)
  rw [E2]
  have hk := hk.trans_new hk5 (new2 (by omega) (by omega))
  have hT : TreeAt w8 bt bm T2 := hT
  repeat (first|apply CG.seq|apply CG.region|apply SG.nil|apply NG.next|apply CG.skip|apply CG.block|apply CG.ret|apply CG.exit|apply CG.scope|apply NG.ret_then|apply NG.ret_block|apply NG.ret_scope|apply NG.exit_then|refine NG.exit_block rfl ?_|refine NG.exit_other rfl ?_|apply NG.exit_scope|apply NG.normal_block|apply NG.normal_scope|refine SG.val rfl rfl rfl rfl (by first|((first|apply qmv|apply qas|apply qlc|apply qla|apply qfa|apply qnc|apply qic|apply qix|apply qpk|apply qls|apply qei|apply qni|apply qed|apply qnd|apply qad|apply qln|apply qle|apply qgt|apply qge|apply qlk|apply qlv|apply qxt|apply qsb|apply qnt|apply qep|apply qnp|apply qeb|apply qnb|apply qcv|apply qlm|apply qfr|apply qto|apply qmx|apply qx0|apply qx1)<;>(first|exact rfl|exact Ar.mk (by omega)|assumption|exact dct (by assumption)|exact dcf (by assumption)|exact dct (by omega)|exact dcf (by omega)|exact List.not_mem_nil|exact dc_length _|exact nc_length _|exact nm1 (by omega)|exact nm2 (by omega) (by omega)|exact dct rfl|exact dct (by decide)|exact dcf (by decide)|exact (Int.toNat_of_nonneg (by omega)).symm|exact dcu|exact lk1 (by assumption)|exact lk0 (by assumption)))|fail) ?_)
  refine CG.cond_f rfl (by exact rho_of rfl) rfl ?_
  repeat (first|apply CG.seq|apply CG.region|apply SG.nil|apply NG.next|apply CG.skip|apply CG.block|apply CG.ret|apply CG.exit|apply CG.scope|apply NG.ret_then|apply NG.ret_block|apply NG.ret_scope|apply NG.exit_then|refine NG.exit_block rfl ?_|refine NG.exit_other rfl ?_|apply NG.exit_scope|apply NG.normal_block|apply NG.normal_scope|refine SG.val rfl rfl rfl rfl (by first|((first|apply qmv|apply qas|apply qlc|apply qla|apply qfa|apply qnc|apply qic|apply qix|apply qpk|apply qls|apply qei|apply qni|apply qed|apply qnd|apply qad|apply qln|apply qle|apply qgt|apply qge|apply qlk|apply qlv|apply qxt|apply qsb|apply qnt|apply qep|apply qnp|apply qeb|apply qnb|apply qcv|apply qlm|apply qfr|apply qto|apply qmx|apply qx0|apply qx1)<;>(first|exact rfl|exact Ar.mk (by omega)|assumption|exact dct (by assumption)|exact dcf (by assumption)|exact dct (by omega)|exact dcf (by omega)|exact List.not_mem_nil|exact dc_length _|exact nc_length _|exact nm1 (by omega)|exact nm2 (by omega) (by omega)|exact dct rfl|exact dct (by decide)|exact dcf (by decide)|exact (Int.toNat_of_nonneg (by omega)).symm|exact dcu|exact lk1 (by assumption)|exact lk0 (by assumption)))|fail) ?_)
  refine SG.ret rfl rfl rfl (vs := [bv 3]) ⟨rfl, True.intro⟩ (id_spec 3 w8) (fun w9 hk3 => ?_)
  refine SG.ret rfl rfl rfl (vs := [bv 0]) ⟨rfl, True.intro⟩ (id_spec 0 w9) (fun w10 hk4 => ?_)
  have hT := (hT.kp0 hk3).kp0 hk4
  have hk := (hk.trans hk3).trans hk4
  refine SG.add rfl rfl rfl (by exact rho_of rfl) (by exact rho_of rfl) (by exact rho_of rfl) hT hne T2_wf T_small.2.2.1 (fun w11 hT hk5 => ?_)
  rw [E3]
  have hk := hk.trans_new hk5 (new2 (by omega) (by omega))
  have hT : TreeAt w11 bt bm T3 := hT
  repeat (first|apply CG.seq|apply CG.region|apply SG.nil|apply NG.next|apply CG.skip|apply CG.block|apply CG.ret|apply CG.exit|apply CG.scope|apply NG.ret_then|apply NG.ret_block|apply NG.ret_scope|apply NG.exit_then|refine NG.exit_block rfl ?_|refine NG.exit_other rfl ?_|apply NG.exit_scope|apply NG.normal_block|apply NG.normal_scope|refine SG.val rfl rfl rfl rfl (by first|((first|apply qmv|apply qas|apply qlc|apply qla|apply qfa|apply qnc|apply qic|apply qix|apply qpk|apply qls|apply qei|apply qni|apply qed|apply qnd|apply qad|apply qln|apply qle|apply qgt|apply qge|apply qlk|apply qlv|apply qxt|apply qsb|apply qnt|apply qep|apply qnp|apply qeb|apply qnb|apply qcv|apply qlm|apply qfr|apply qto|apply qmx|apply qx0|apply qx1)<;>(first|exact rfl|exact Ar.mk (by omega)|assumption|exact dct (by assumption)|exact dcf (by assumption)|exact dct (by omega)|exact dcf (by omega)|exact List.not_mem_nil|exact dc_length _|exact nc_length _|exact nm1 (by omega)|exact nm2 (by omega) (by omega)|exact dct rfl|exact dct (by decide)|exact dcf (by decide)|exact (Int.toNat_of_nonneg (by omega)).symm|exact dcu|exact lk1 (by assumption)|exact lk0 (by assumption)))|fail) ?_)
  refine SG.ret rfl rfl rfl (vs := [bv 4]) ⟨rfl, True.intro⟩ (id_spec 4 w11) (fun w12 hk3 => ?_)
  refine SG.ret rfl rfl rfl (vs := [bv 1]) ⟨rfl, True.intro⟩ (id_spec 1 w12) (fun w13 hk4 => ?_)
  have hT := (hT.kp0 hk3).kp0 hk4
  have hk := (hk.trans hk3).trans hk4
  refine SG.add rfl rfl rfl (by exact rho_of rfl) (by exact rho_of rfl) (by exact rho_of rfl) hT hne T3_wf T_small.2.2.2.1 (fun w14 hT hk5 => ?_)
  rw [E4]
  have hk := hk.trans_new hk5 (new2 (by omega) (by omega))
  have hT : TreeAt w14 bt bm T4 := hT
  repeat (first|apply CG.seq|apply CG.region|apply SG.nil|apply NG.next|apply CG.skip|apply CG.block|apply CG.ret|apply CG.exit|apply CG.scope|apply NG.ret_then|apply NG.ret_block|apply NG.ret_scope|apply NG.exit_then|refine NG.exit_block rfl ?_|refine NG.exit_other rfl ?_|apply NG.exit_scope|apply NG.normal_block|apply NG.normal_scope|refine SG.val rfl rfl rfl rfl (by first|((first|apply qmv|apply qas|apply qlc|apply qla|apply qfa|apply qnc|apply qic|apply qix|apply qpk|apply qls|apply qei|apply qni|apply qed|apply qnd|apply qad|apply qln|apply qle|apply qgt|apply qge|apply qlk|apply qlv|apply qxt|apply qsb|apply qnt|apply qep|apply qnp|apply qeb|apply qnb|apply qcv|apply qlm|apply qfr|apply qto|apply qmx|apply qx0|apply qx1)<;>(first|exact rfl|exact Ar.mk (by omega)|assumption|exact dct (by assumption)|exact dcf (by assumption)|exact dct (by omega)|exact dcf (by omega)|exact List.not_mem_nil|exact dc_length _|exact nc_length _|exact nm1 (by omega)|exact nm2 (by omega) (by omega)|exact dct rfl|exact dct (by decide)|exact dcf (by decide)|exact (Int.toNat_of_nonneg (by omega)).symm|exact dcu|exact lk1 (by assumption)|exact lk0 (by assumption)))|fail) ?_)
  refine SG.ret rfl rfl rfl (by repeat' (first | exact True.intro | exact rho_of rfl | refine And.intro ?_ ?_)) (tip_spec hT) (fun w15 hk3 => ?_)
  rw [tip4]
  refine SG.alloc rfl rfl rfl (fun b5 w16 hk4 hb5 hB5 => ?_)
  have s15 := hk3.size
  have s14 := hk.size
  repeat (first|apply CG.seq|apply CG.region|apply SG.nil|apply NG.next|apply CG.skip|apply CG.block|apply CG.ret|apply CG.exit|apply CG.scope|apply NG.ret_then|apply NG.ret_block|apply NG.ret_scope|apply NG.exit_then|refine NG.exit_block rfl ?_|refine NG.exit_other rfl ?_|apply NG.exit_scope|apply NG.normal_block|apply NG.normal_scope|refine SG.val rfl rfl rfl rfl (by first|((first|apply qmv|apply qas|apply qlc|apply qla|apply qfa|apply qnc|apply qic|apply qix|apply qpk|apply qls|apply qei|apply qni|apply qed|apply qnd|apply qad|apply qln|apply qle|apply qgt|apply qge|apply qlk|apply qlv|apply qxt|apply qsb|apply qnt|apply qep|apply qnp|apply qeb|apply qnb|apply qcv|apply qlm|apply qfr|apply qto|apply qmx|apply qx0|apply qx1)<;>(first|exact rfl|exact Ar.mk (by omega)|assumption|exact dct (by assumption)|exact dcf (by assumption)|exact dct (by omega)|exact dcf (by omega)|exact List.not_mem_nil|exact dc_length _|exact nc_length _|exact nm1 (by omega)|exact nm2 (by omega) (by omega)|exact dct rfl|exact dct (by decide)|exact dcf (by decide)|exact (Int.toNat_of_nonneg (by omega)).symm|exact dcu|exact lk1 (by assumption)|exact lk0 (by assumption)))|fail) ?_)
  refine SG.setAll (old := dc (n := 8) ⟨[0, 0, 0, 0, 0, 0, 0, 0], rfl⟩) rfl rfl (by exact rho_of rfl) (by exact rho_of rfl) hB5 (by first | exact dc_length _ | exact nc_length _ | rfl) (by first | exact dc_length _ | exact nc_length _ | rfl) (by first | exact dc_one _ | exact nc_one _ | rfl) (fun w17 hk5 hB5 => ?_)
  have eT := hT.blk.lt
  have eM := hT.map.lt
  have hT := ((hT.kp0 hk3).kp0 hk4).kp hk5 (by first | exact List.not_mem_nil | exact nm1 (by omega) | exact nm2 (by omega) (by omega) | exact nm3 (by omega) (by omega) (by omega)) (by first | exact List.not_mem_nil | exact nm1 (by omega) | exact nm2 (by omega) (by omega) | exact nm3 (by omega) (by omega) (by omega))
  have hk := ((hk.trans hk3).trans hk4).trans_new hk5 (by first | exact new1 (by omega) | exact new2 (by omega) (by omega))
  repeat (first|apply CG.seq|apply CG.region|apply SG.nil|apply NG.next|apply CG.skip|apply CG.block|apply CG.ret|apply CG.exit|apply CG.scope|apply NG.ret_then|apply NG.ret_block|apply NG.ret_scope|apply NG.exit_then|refine NG.exit_block rfl ?_|refine NG.exit_other rfl ?_|apply NG.exit_scope|apply NG.normal_block|apply NG.normal_scope|refine SG.val rfl rfl rfl rfl (by first|((first|apply qmv|apply qas|apply qlc|apply qla|apply qfa|apply qnc|apply qic|apply qix|apply qpk|apply qls|apply qei|apply qni|apply qed|apply qnd|apply qad|apply qln|apply qle|apply qgt|apply qge|apply qlk|apply qlv|apply qxt|apply qsb|apply qnt|apply qep|apply qnp|apply qeb|apply qnb|apply qcv|apply qlm|apply qfr|apply qto|apply qmx|apply qx0|apply qx1)<;>(first|exact rfl|exact Ar.mk (by omega)|assumption|exact dct (by assumption)|exact dcf (by assumption)|exact dct (by omega)|exact dcf (by omega)|exact List.not_mem_nil|exact dc_length _|exact nc_length _|exact nm1 (by omega)|exact nm2 (by omega) (by omega)|exact dct rfl|exact dct (by decide)|exact dcf (by decide)|exact (Int.toNat_of_nonneg (by omega)).symm|exact dcu|exact lk1 (by assumption)|exact lk0 (by assumption)))|fail) ?_)
  refine SG.ret rfl rfl rfl (vs := [bv 5]) ⟨rfl, True.intro⟩ (id_spec 5 w17) (fun w18 hk3 => ?_)
  refine SG.ret rfl rfl rfl (vs := [bv 4]) ⟨rfl, True.intro⟩ (id_spec 4 w18) (fun w19 hk4 => ?_)
  have eT := hT.blk.lt
  have eM := hT.map.lt
  have hT := (hT.kp0 hk3).kp0 hk4
  have hB5 := (hB5.kp0 hk3).kp0 hk4
  have hk := (hk.trans hk3).trans hk4
  refine SG.add rfl rfl rfl (by exact rho_of rfl) (by exact rho_of rfl) (by exact rho_of rfl) hT hne T4_wf T_small.2.2.2.2 (fun w20 hT hk5 => ?_)
  rw [E5]
  have hk := hk.trans_new hk5 (new2 (by omega) (by omega))
  have hT : TreeAt w20 bt bm T5 := hT
  have hB5 := hB5.kp hk5 (by first | exact List.not_mem_nil | exact nm1 (by omega) | exact nm2 (by omega) (by omega) | exact nm3 (by omega) (by omega) (by omega))
  have hR5 : Row w20 b5 0 (dc (idD 2)) := Row.all hB5 rfl
  repeat (first|apply CG.seq|apply CG.region|apply SG.nil|apply NG.next|apply CG.skip|apply CG.block|apply CG.ret|apply CG.exit|apply CG.scope|apply NG.ret_then|apply NG.ret_block|apply NG.ret_scope|apply NG.exit_then|refine NG.exit_block rfl ?_|refine NG.exit_other rfl ?_|apply NG.exit_scope|apply NG.normal_block|apply NG.normal_scope|refine SG.val rfl rfl rfl rfl (by first|((first|apply qmv|apply qas|apply qlc|apply qla|apply qfa|apply qnc|apply qic|apply qix|apply qpk|apply qls|apply qei|apply qni|apply qed|apply qnd|apply qad|apply qln|apply qle|apply qgt|apply qge|apply qlk|apply qlv|apply qxt|apply qsb|apply qnt|apply qep|apply qnp|apply qeb|apply qnb|apply qcv|apply qlm|apply qfr|apply qto|apply qmx|apply qx0|apply qx1)<;>(first|exact rfl|exact Ar.mk (by omega)|assumption|exact dct (by assumption)|exact dcf (by assumption)|exact dct (by omega)|exact dcf (by omega)|exact List.not_mem_nil|exact dc_length _|exact nc_length _|exact nm1 (by omega)|exact nm2 (by omega) (by omega)|exact dct rfl|exact dct (by decide)|exact dcf (by decide)|exact (Int.toNat_of_nonneg (by omega)).symm|exact dcu|exact lk1 (by assumption)|exact lk0 (by assumption)))|fail) ?_)
  refine CG.draw0 mixed [0, 1, 2, 3, 4, 5, 6, 7, 8, 9, 10, 11, 12, 13, 14, 15, 16, 17, 18, 19, 20, 21, 22, 23, 24, 25, 26, 27, 28, 29, 30, 31, 32, 33, 34, 35] [31] (by kernel_rfl) ?_
  repeat (refine Der.val rfl rfl rfl (by first|((first|apply qmv|apply qas|apply qlc|apply qla|apply qfa|apply qnc|apply qic|apply qix|apply qpk|apply qls|apply qei|apply qni|apply qed|apply qnd|apply qad|apply qln|apply qle|apply qgt|apply qge|apply qlk|apply qlv|apply qxt|apply qsb|apply qnt|apply qep|apply qnp|apply qeb|apply qnb|apply qcv|apply qlm|apply qfr|apply qto|apply qmx|apply qx0|apply qx1)<;>(first|exact rfl|exact Ar.mk (by omega)|assumption|exact dct (by assumption)|exact dcf (by assumption)|exact dct (by omega)|exact dcf (by omega)|exact List.not_mem_nil|exact dc_length _|exact nc_length _|exact nm1 (by omega)|exact nm2 (by omega) (by omega)|exact dct rfl|exact dct (by decide)|exact dcf (by decide)|exact (Int.toNat_of_nonneg (by omega)).symm|exact dcu|exact lk1 (by assumption)|exact lk0 (by assumption)))|fail) ?_)
  refine Der.call rfl rfl rfl (vs := [bv 2]) ⟨rfl, True.intro⟩ (fun w hk _ => id_spec 2 w) ?_
  repeat (refine Der.val rfl rfl rfl (by first|((first|apply qmv|apply qas|apply qlc|apply qla|apply qfa|apply qnc|apply qic|apply qix|apply qpk|apply qls|apply qei|apply qni|apply qed|apply qnd|apply qad|apply qln|apply qle|apply qgt|apply qge|apply qlk|apply qlv|apply qxt|apply qsb|apply qnt|apply qep|apply qnp|apply qeb|apply qnb|apply qcv|apply qlm|apply qfr|apply qto|apply qmx|apply qx0|apply qx1)<;>(first|exact rfl|exact Ar.mk (by omega)|assumption|exact dct (by assumption)|exact dcf (by assumption)|exact dct (by omega)|exact dcf (by omega)|exact List.not_mem_nil|exact dc_length _|exact nc_length _|exact nm1 (by omega)|exact nm2 (by omega) (by omega)|exact dct rfl|exact dct (by decide)|exact dcf (by decide)|exact (Int.toNat_of_nonneg (by omega)).symm|exact dcu|exact lk1 (by assumption)|exact lk0 (by assumption)))|fail) ?_)
  refine Der.call rfl rfl rfl (by repeat' (first | exact True.intro | exact rho_of rfl | refine And.intro ?_ ?_)) (fun w hk _ => tip_spec (hT.kp0 hk)) ?_
  rw [tip5]
  refine Der.call rfl rfl rfl (vs := [bv 5]) ⟨rfl, True.intro⟩ (fun w hk _ => id_spec 5 w) ?_
  repeat (refine Der.val rfl rfl rfl (by first|((first|apply qmv|apply qas|apply qlc|apply qla|apply qfa|apply qnc|apply qic|apply qix|apply qpk|apply qls|apply qei|apply qni|apply qed|apply qnd|apply qad|apply qln|apply qle|apply qgt|apply qge|apply qlk|apply qlv|apply qxt|apply qsb|apply qnt|apply qep|apply qnp|apply qeb|apply qnb|apply qcv|apply qlm|apply qfr|apply qto|apply qmx|apply qx0|apply qx1)<;>(first|exact rfl|exact Ar.mk (by omega)|assumption|exact dct (by assumption)|exact dcf (by assumption)|exact dct (by omega)|exact dcf (by omega)|exact List.not_mem_nil|exact dc_length _|exact nc_length _|exact nm1 (by omega)|exact nm2 (by omega) (by omega)|exact dct rfl|exact dct (by decide)|exact dcf (by decide)|exact (Int.toNat_of_nonneg (by omega)).symm|exact dcu|exact lk1 (by assumption)|exact lk0 (by assumption)))|fail) ?_)
  refine Der.call rfl rfl rfl (vs := [bv 5]) ⟨rfl, True.intro⟩ (fun w hk _ => id_spec 5 w) ?_
  refine Der.call rfl rfl rfl (by repeat' (first | exact True.intro | exact rho_of rfl | refine And.intro ?_ ?_)) (fun w hk _ => height_spec (hT.kp0 hk) (idD 5)) ?_
  rw [ht5]
  repeat (refine Der.val rfl rfl rfl (by first|((first|apply qmv|apply qas|apply qlc|apply qla|apply qfa|apply qnc|apply qic|apply qix|apply qpk|apply qls|apply qei|apply qni|apply qed|apply qnd|apply qad|apply qln|apply qle|apply qgt|apply qge|apply qlk|apply qlv|apply qxt|apply qsb|apply qnt|apply qep|apply qnp|apply qeb|apply qnb|apply qcv|apply qlm|apply qfr|apply qto|apply qmx|apply qx0|apply qx1)<;>(first|exact rfl|exact Ar.mk (by omega)|assumption|exact dct (by assumption)|exact dcf (by assumption)|exact dct (by omega)|exact dcf (by omega)|exact List.not_mem_nil|exact dc_length _|exact nc_length _|exact nm1 (by omega)|exact nm2 (by omega) (by omega)|exact dct rfl|exact dct (by decide)|exact dcf (by decide)|exact (Int.toNat_of_nonneg (by omega)).symm|exact dcu|exact lk1 (by assumption)|exact lk0 (by assumption)))|fail) ?_)
  refine Der.call rfl rfl rfl (vs := [bv 2]) ⟨rfl, True.intro⟩ (fun w hk _ => id_spec 2 w) ?_
  refine Der.call rfl rfl rfl (vs := [bv 5]) ⟨rfl, True.intro⟩ (fun w hk _ => id_spec 5 w) ?_
  refine Der.callG (X := Nat × Nat × Nat) (vs := [.pointer (some ⟨bt, 0, none⟩), dv (idD 2), dv (idD 5)]) (fun q => .slice (some ⟨q.1, q.2.1, none⟩) 1 q.2.2) (fun _ _ => True) rfl rfl rfl rfl (by repeat' (first | exact True.intro | exact rho_of rfl | refine And.intro ?_ ?_)) (fun _ _ _ _ h => h) (fun _ _ _ h => h) (fun w hk _ => ?_) (fun q => ?_)
  · refine (undone_spec (hT.kp0 hk) T5_wf has52 has55).mono (fun e w' h => ?_)
    obtain ⟨b, off, c, pre, post, h1, _, _, _, h5⟩ := h
    rw [und5] at h1
    exact ⟨(b, off, c), h1, trivial, h5⟩
  repeat (refine Der.val rfl rfl rfl (by first|((first|apply qmv|apply qas|apply qlc|apply qla|apply qfa|apply qnc|apply qic|apply qix|apply qpk|apply qls|apply qei|apply qni|apply qed|apply qnd|apply qad|apply qln|apply qle|apply qgt|apply qge|apply qlk|apply qlv|apply qxt|apply qsb|apply qnt|apply qep|apply qnp|apply qeb|apply qnb|apply qcv|apply qlm|apply qfr|apply qto|apply qmx|apply qx0|apply qx1)<;>(first|exact rfl|exact Ar.mk (by omega)|assumption|exact dct (by assumption)|exact dcf (by assumption)|exact dct (by omega)|exact dcf (by omega)|exact List.not_mem_nil|exact dc_length _|exact nc_length _|exact nm1 (by omega)|exact nm2 (by omega) (by omega)|exact dct rfl|exact dct (by decide)|exact dcf (by decide)|exact (Int.toNat_of_nonneg (by omega)).symm|exact dcu|exact lk1 (by assumption)|exact lk0 (by assumption)))|fail) ?_)
  refine Der.fin (fun w21 hk6 _ _ => ?_)
  repeat (first|apply CG.seq|apply CG.region|apply SG.nil|apply NG.next|apply CG.skip|apply CG.block|apply CG.ret|apply CG.exit|apply CG.scope|apply NG.ret_then|apply NG.ret_block|apply NG.ret_scope|apply NG.exit_then|refine NG.exit_block rfl ?_|refine NG.exit_other rfl ?_|apply NG.exit_scope|apply NG.normal_block|apply NG.normal_scope|refine SG.val rfl rfl rfl rfl (by first|((first|apply qmv|apply qas|apply qlc|apply qla|apply qfa|apply qnc|apply qic|apply qix|apply qpk|apply qls|apply qei|apply qni|apply qed|apply qnd|apply qad|apply qln|apply qle|apply qgt|apply qge|apply qlk|apply qlv|apply qxt|apply qsb|apply qnt|apply qep|apply qnp|apply qeb|apply qnb|apply qcv|apply qlm|apply qfr|apply qto|apply qmx|apply qx0|apply qx1)<;>(first|exact rfl|exact Ar.mk (by omega)|assumption|exact dct (by assumption)|exact dcf (by assumption)|exact dct (by omega)|exact dcf (by omega)|exact List.not_mem_nil|exact dc_length _|exact nc_length _|exact nm1 (by omega)|exact nm2 (by omega) (by omega)|exact dct rfl|exact dct (by decide)|exact dcf (by decide)|exact (Int.toNat_of_nonneg (by omega)).symm|exact dcu|exact lk1 (by assumption)|exact lk0 (by assumption)))|fail) ?_)
  refine ret1 (Or.inl rfl) Try.results12 (by first | exact ResV.tmp rfl | exact ResV.agg rfl rfl (by assumption) (by first | exact dc_length _ | exact nc_length _ | rfl) | exact ResV.cell rfl rfl (by assumption)) ?_
  exact ⟨rfl, hk.trans hk6⟩
end Go.Proofs.Ytpnenekgldggbaa
