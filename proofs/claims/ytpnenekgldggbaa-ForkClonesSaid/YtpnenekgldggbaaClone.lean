/-
  The fork: a clone; are two the same?
-/
import Derived.Test.YtpnenekgldggbaaLine
import Derived.Test.YtpnenekgldggbaaIter
namespace Go.Proofs.Ytpnenekgldggbaa
set_option linter.unusedVariables false

/-- The same tree, its blocks told in another order. -/
structure Tr.Eqv (t t' : Tr) : Prop where
  first : t.first = t'.first
  tip : t.tip = t'.tip
  depth : t.depth = t'.depth
  len : t.nodes.length = t'.nodes.length
  nodes : ∀ x, alook t.nodes x = alook t'.nodes x
theorem Tr.Eqv.refl (t : Tr) : t.Eqv t := ⟨rfl, rfl, rfl, rfl, fun _ => rfl⟩
theorem Tr.Eqv.symm {t t' : Tr} (h : t.Eqv t') : t'.Eqv t := ⟨h.first.symm, h.tip.symm, h.depth.symm, h.len.symm, fun x => (h.nodes x).symm⟩
theorem Tr.Eqv.has {t t' : Tr} (h : t.Eqv t') (x : Dg) : t.has x = t'.has x := by unfold Tr.has; rw [h.nodes]
theorem Tr.Eqv.nd {t t' : Tr} (h : t.Eqv t') (x : Dg) : t.nd x = t'.nd x := by unfold Tr.nd; rw [h.nodes]
theorem Tr.Eqv.ht {t t' : Tr} (h : t.Eqv t') (x : Dg) : t.ht x = t'.ht x := by unfold Tr.ht; rw [h.nd]
theorem Tr.Eqv.par {t t' : Tr} (h : t.Eqv t') (x : Dg) : t.par x = t'.par x := by unfold Tr.par; rw [h.nd]
theorem Tr.Eqv.height {t t' : Tr} (h : t.Eqv t') (x : Dg) : t.height x = t'.height x := by unfold Tr.height; rw [h.nodes]
theorem Tr.Eqv.wf {t t' : Tr} (h : t.Eqv t') (wf : t.WF) : t'.WF := by
  refine ⟨?_, ?_, ?_, fun x hx hne => ?_, fun x hx => ?_, ?_, ?_⟩
  · rw [← h.first, ← h.has]; exact wf.first
  · rw [← h.first, ← h.ht]; exact wf.h0
  · rw [← h.tip, ← h.has]; exact wf.tip
  · rw [← h.has] at hx
    have := wf.up x hx (by rw [h.first]; exact hne)
    rw [← h.par, ← h.has, ← h.ht, ← h.ht]
    exact this
  · rw [← h.has] at hx
    rw [← h.ht, ← h.ht, ← h.tip]
    exact wf.top x hx
  · rw [← h.len]; exact wf.small
  · rw [← h.ht, ← h.tip, ← h.len]; exact wf.low

theorem alook_perm {κ ν : Type} [DecidableEq κ] {m m' : List (κ × ν)} (hp : m.Perm m') (hn : (m.map (·.1)).Nodup) (x : κ) : alook m x = alook m' x := by
  have hn' : (m'.map (·.1)).Nodup := (hp.map _).nodup_iff.1 hn
  cases h : alook m x with
  | none =>
    rw [alook_none] at h
    symm
    rw [alook_none]
    exact fun p hp' => h p (hp.mem_iff.2 hp')
  | some y =>
    have : ∃ p ∈ m, p.1 = x ∧ p.2 = y := by
      clear hn hn' hp
      induction m with
      | nil => simp [alook] at h
      | cons p m ih =>
        obtain ⟨k, v⟩ := p
        by_cases e : k = x
        · simp only [alook, e, if_true, Option.some.injEq] at h
          exact ⟨(k, v), by simp, e, h⟩
        · simp only [alook, e, if_false] at h
          obtain ⟨p, hp, h1⟩ := ih h
          exact ⟨p, by simp [hp], h1⟩
    obtain ⟨p, hpm, rfl, rfl⟩ := this
    exact (alook_of_mem hn' (hp.mem_iff.1 hpm)).symm

attribute [local irreducible] CG NG SG Vals Der Row Blk MapIs IterAt
set_option maxHeartbeats 16000000 in
theorem clone_spec {w : World} {bt bm : Nat} {t : Tr} (hT : TreeAt w bt bm t) : Calls Try.prog 28 #[.pointer (some ⟨bt, 0, none⟩)] w (fun e w' => ∃ bt' bm' t', e = .returned (.pointer (some ⟨bt', 0, none⟩)) ∧ TreeAt w' bt' bm' t' ∧ t.Eqv t' ∧ w.heap.size ≤ bt' ∧ w.heap.size ≤ bm' ∧ bt' ≠ bm' ∧ Kp [] w w') := by
  refine enter1 Try.func28 rfl Try.ntmps28 rfl ?_
  repeat (first|apply CG.seq|apply CG.region|apply SG.nil|apply NG.next|apply CG.skip|apply CG.block|apply CG.ret|apply CG.exit|apply CG.scope|apply NG.ret_then|apply NG.ret_block|apply NG.ret_scope|apply NG.exit_then|refine NG.exit_block rfl ?_|refine NG.exit_other rfl ?_|apply NG.exit_scope|apply NG.normal_block|apply NG.normal_scope|refine SG.val rfl rfl rfl rfl (by first|((first|apply qmv|apply qas|apply qlc|apply qla|apply qfa|apply qnc|apply qic|apply qix|apply qpk|apply qls|apply qei|apply qni|apply qed|apply qnd|apply qad|apply qln|apply qle|apply qgt|apply qge|apply qlk|apply qlv|apply qxt|apply qsb|apply qnt|apply qep|apply qnp|apply qeb|apply qnb|apply qcv|apply qlm|apply qfr|apply qto|apply qmx|apply qen|apply qx0|apply qx1|apply qx2)<;>(first|exact rfl|exact Ar.mk (by omega)|assumption|exact dct (by assumption)|exact dcf (by assumption)|exact dct (by omega)|exact dcf (by omega)|exact List.not_mem_nil|exact dc_length _|exact nc_length _|exact nm1 (by omega)|exact nm2 (by omega) (by omega)|exact dct rfl|exact dct (by decide)|exact dcf (by decide)|exact (Int.toNat_of_nonneg (by omega)).symm|exact dcu|exact lk1 (by assumption)|exact lk0 (by assumption)))|fail) ?_)
  refine CG.cond_f rfl (by exact rho_of rfl) rfl ?_
  repeat (first|apply CG.seq|apply CG.region|apply SG.nil|apply NG.next|apply CG.skip|apply CG.block|apply CG.ret|apply CG.exit|apply CG.scope|apply NG.ret_then|apply NG.ret_block|apply NG.ret_scope|apply NG.exit_then|refine NG.exit_block rfl ?_|refine NG.exit_other rfl ?_|apply NG.exit_scope|apply NG.normal_block|apply NG.normal_scope|refine SG.val rfl rfl rfl rfl (by first|((first|apply qmv|apply qas|apply qlc|apply qla|apply qfa|apply qnc|apply qic|apply qix|apply qpk|apply qls|apply qei|apply qni|apply qed|apply qnd|apply qad|apply qln|apply qle|apply qgt|apply qge|apply qlk|apply qlv|apply qxt|apply qsb|apply qnt|apply qep|apply qnp|apply qeb|apply qnb|apply qcv|apply qlm|apply qfr|apply qto|apply qmx|apply qen|apply qx0|apply qx1|apply qx2)<;>(first|exact rfl|exact Ar.mk (by omega)|assumption|exact dct (by assumption)|exact dcf (by assumption)|exact dct (by omega)|exact dcf (by omega)|exact List.not_mem_nil|exact dc_length _|exact nc_length _|exact nm1 (by omega)|exact nm2 (by omega) (by omega)|exact dct rfl|exact dct (by decide)|exact dcf (by decide)|exact (Int.toNat_of_nonneg (by omega)).symm|exact dcu|exact lk1 (by assumption)|exact lk0 (by assumption)))|fail) ?_)
  have hr0 := hT.r0
  have hr8 := hT.r8
  have hr16 := hT.r16
  have hr17 := hT.r17
  have hm := hT.map
  refine CG.tailg mixed 18 [0, 1, 2, 3, 4, 5, 6, 7, 8, 9, 10, 11, 12, 13, 14, 15, 16, 17] [17] [] (fun _ => True) (by kernel_rfl) trivial (fun _ _ _ _ => trivial) ?_
  repeat (refine Der.val rfl rfl rfl (by first|((first|apply qmv|apply qas|apply qlc|apply qla|apply qfa|apply qnc|apply qic|apply qix|apply qpk|apply qls|apply qei|apply qni|apply qed|apply qnd|apply qad|apply qln|apply qle|apply qgt|apply qge|apply qlk|apply qlv|apply qxt|apply qsb|apply qnt|apply qep|apply qnp|apply qeb|apply qnb|apply qcv|apply qlm|apply qfr|apply qto|apply qmx|apply qen|apply qx0|apply qx1|apply qx2)<;>(first|exact rfl|exact Ar.mk (by omega)|assumption|exact dct (by assumption)|exact dcf (by assumption)|exact dct (by omega)|exact dcf (by omega)|exact List.not_mem_nil|exact dc_length _|exact nc_length _|exact nm1 (by omega)|exact nm2 (by omega) (by omega)|exact dct rfl|exact dct (by decide)|exact dcf (by decide)|exact (Int.toNat_of_nonneg (by omega)).symm|exact dcu|exact lk1 (by assumption)|exact lk0 (by assumption)))|fail) ?_)
  refine Der.makeMap1 (dv (n := 8)) nv rfl rfl rfl rfl (by exact rho_of rfl) (fun bm' => ?_)
  refine Der.tl (fun w1 hk1 _ hR => ?_)
  obtain ⟨hbm', hm'⟩ := hR
  refine SG.val rfl rfl rfl rfl (vals_build rfl (fun w => build72 w t.first t.tip t.depth bm')) ?_
  refine SG.box rfl rfl rfl (by exact rho_of rfl) (fun bt' w2 hk2 hbt' hBt' => ?_)
  have hT1 := (hT.kp0 hk1).kp0 hk2
  have hr17 := hT1.r17
  repeat (first|apply CG.seq|apply CG.region|apply SG.nil|apply NG.next|apply CG.skip|apply CG.block|apply CG.ret|apply CG.exit|apply CG.scope|apply NG.ret_then|apply NG.ret_block|apply NG.ret_scope|apply NG.exit_then|refine NG.exit_block rfl ?_|refine NG.exit_other rfl ?_|apply NG.exit_scope|apply NG.normal_block|apply NG.normal_scope|refine SG.val rfl rfl rfl rfl (by first|((first|apply qmv|apply qas|apply qlc|apply qla|apply qfa|apply qnc|apply qic|apply qix|apply qpk|apply qls|apply qei|apply qni|apply qed|apply qnd|apply qad|apply qln|apply qle|apply qgt|apply qge|apply qlk|apply qlv|apply qxt|apply qsb|apply qnt|apply qep|apply qnp|apply qeb|apply qnb|apply qcv|apply qlm|apply qfr|apply qto|apply qmx|apply qen|apply qx0|apply qx1|apply qx2)<;>(first|exact rfl|exact Ar.mk (by omega)|assumption|exact dct (by assumption)|exact dcf (by assumption)|exact dct (by omega)|exact dcf (by omega)|exact List.not_mem_nil|exact dc_length _|exact nc_length _|exact nm1 (by omega)|exact nm2 (by omega) (by omega)|exact dct rfl|exact dct (by decide)|exact dcf (by decide)|exact (Int.toNat_of_nonneg (by omega)).symm|exact dcu|exact lk1 (by assumption)|exact lk0 (by assumption)))|fail) ?_)
  refine SG.range rfl rfl rfl (by exact rho_of rfl) hT1.map (fun r w3 hk3 hr3 hI => ?_)
  have eT := hT.blk.lt
  have eM := hT.map.lt
  have s1 := hk1.size
  have s2 := hk2.size
  have e1 := hm'.lt
  have e2 := hBt'.lt
  have hT3 := hT1.kp0 hk3
  have hm' := (hm'.kp0 hk2).kp0 hk3
  have hBt' := hBt'.kp0 hk3
  have hk := (hk1.trans hk2).trans hk3
  have hnd := hT.map.nodup
  repeat (first|apply CG.seq|apply CG.region|apply SG.nil|apply NG.next|apply CG.skip|apply CG.block|apply CG.ret|apply CG.exit|apply CG.scope|apply NG.ret_then|apply NG.ret_block|apply NG.ret_scope|apply NG.exit_then|refine NG.exit_block rfl ?_|refine NG.exit_other rfl ?_|apply NG.exit_scope|apply NG.normal_block|apply NG.normal_scope|refine SG.val rfl rfl rfl rfl (by first|((first|apply qmv|apply qas|apply qlc|apply qla|apply qfa|apply qnc|apply qic|apply qix|apply qpk|apply qls|apply qei|apply qni|apply qed|apply qnd|apply qad|apply qln|apply qle|apply qgt|apply qge|apply qlk|apply qlv|apply qxt|apply qsb|apply qnt|apply qep|apply qnp|apply qeb|apply qnb|apply qcv|apply qlm|apply qfr|apply qto|apply qmx|apply qen|apply qx0|apply qx1|apply qx2)<;>(first|exact rfl|exact Ar.mk (by omega)|assumption|exact dct (by assumption)|exact dcf (by assumption)|exact dct (by omega)|exact dcf (by omega)|exact List.not_mem_nil|exact dc_length _|exact nc_length _|exact nm1 (by omega)|exact nm2 (by omega) (by omega)|exact dct rfl|exact dct (by decide)|exact dcf (by decide)|exact (Int.toNat_of_nonneg (by omega)).symm|exact dcu|exact lk1 (by assumption)|exact lk0 (by assumption)))|fail) ?_)
  refine CG.loop (X := List (Dg × Nd) × List (Dg × Nd) × Option (Dg × Nd)) (fun _ => [(0, .pointer (some ⟨bt, 0, none⟩)), (3, .pointer (some ⟨bt', 0, none⟩)), (32, .pointer (some ⟨r, 0, none⟩))])
    (fun x w' => Kp [] w w' ∧ w3.heap.size ≤ w'.heap.size ∧ TreeAt w' bt bm t ∧ IterAt w' r bm (dv (n := 8)) nv t.nodes x.2.1 x.2.2 ∧ TreeAt w' bt' bm' { t with nodes := x.1 } ∧ (x.1 ++ x.2.1).Perm t.nodes)
    (fun x => x.2.1.length) ([], t.nodes, none) ⟨hk, Nat.le_refl _, hT3, hI, ⟨hBt', hm'⟩, by simp⟩ (by (repeat' (first | exact True.intro | exact rfl | refine And.intro ?_ ?_))) ?_
  rintro ⟨done, left, cur⟩ w4 ⟨hk, hsz, hT4, hI, hC, hp⟩
  simp only at hI hC hp
  have eI := hI.ltr
  repeat (first|apply CG.seq|apply CG.region|apply SG.nil|apply NG.next|apply CG.skip|apply CG.block|apply CG.ret|apply CG.exit|apply CG.scope|apply NG.ret_then|apply NG.ret_block|apply NG.ret_scope|apply NG.exit_then|refine NG.exit_block rfl ?_|refine NG.exit_other rfl ?_|apply NG.exit_scope|apply NG.normal_block|apply NG.normal_scope|refine SG.val rfl rfl rfl rfl (by first|((first|apply qmv|apply qas|apply qlc|apply qla|apply qfa|apply qnc|apply qic|apply qix|apply qpk|apply qls|apply qei|apply qni|apply qed|apply qnd|apply qad|apply qln|apply qle|apply qgt|apply qge|apply qlk|apply qlv|apply qxt|apply qsb|apply qnt|apply qep|apply qnp|apply qeb|apply qnb|apply qcv|apply qlm|apply qfr|apply qto|apply qmx|apply qen|apply qx0|apply qx1|apply qx2)<;>(first|exact rfl|exact Ar.mk (by omega)|assumption|exact dct (by assumption)|exact dcf (by assumption)|exact dct (by omega)|exact dcf (by omega)|exact List.not_mem_nil|exact dc_length _|exact nc_length _|exact nm1 (by omega)|exact nm2 (by omega) (by omega)|exact dct rfl|exact dct (by decide)|exact dcf (by decide)|exact (Int.toNat_of_nonneg (by omega)).symm|exact dcu|exact lk1 (by assumption)|exact lk0 (by assumption)))|fail) ?_)
  refine SG.next rfl rfl rfl (by exact rho_of rfl) hI (fun h0 => ?_) (fun pre p post w5 hl hk5 hI5 => ?_)
  · repeat (first|apply CG.seq|apply CG.region|apply SG.nil|apply NG.next|apply CG.skip|apply CG.block|apply CG.ret|apply CG.exit|apply CG.scope|apply NG.ret_then|apply NG.ret_block|apply NG.ret_scope|apply NG.exit_then|refine NG.exit_block rfl ?_|refine NG.exit_other rfl ?_|apply NG.exit_scope|apply NG.normal_block|apply NG.normal_scope|refine SG.val rfl rfl rfl rfl (by first|((first|apply qmv|apply qas|apply qlc|apply qla|apply qfa|apply qnc|apply qic|apply qix|apply qpk|apply qls|apply qei|apply qni|apply qed|apply qnd|apply qad|apply qln|apply qle|apply qgt|apply qge|apply qlk|apply qlv|apply qxt|apply qsb|apply qnt|apply qep|apply qnp|apply qeb|apply qnb|apply qcv|apply qlm|apply qfr|apply qto|apply qmx|apply qen|apply qx0|apply qx1|apply qx2)<;>(first|exact rfl|exact Ar.mk (by omega)|assumption|exact dct (by assumption)|exact dcf (by assumption)|exact dct (by omega)|exact dcf (by omega)|exact List.not_mem_nil|exact dc_length _|exact nc_length _|exact nm1 (by omega)|exact nm2 (by omega) (by omega)|exact dct rfl|exact dct (by decide)|exact dcf (by decide)|exact (Int.toNat_of_nonneg (by omega)).symm|exact dcu|exact lk1 (by assumption)|exact lk0 (by assumption)))|fail) ?_)
    refine CG.cond_f rfl (by exact rho_of rfl) rfl ?_
    repeat (first|apply CG.seq|apply CG.region|apply SG.nil|apply NG.next|apply CG.skip|apply CG.block|apply CG.ret|apply CG.exit|apply CG.scope|apply NG.ret_then|apply NG.ret_block|apply NG.ret_scope|apply NG.exit_then|refine NG.exit_block rfl ?_|refine NG.exit_other rfl ?_|apply NG.exit_scope|apply NG.normal_block|apply NG.normal_scope|refine SG.val rfl rfl rfl rfl (by first|((first|apply qmv|apply qas|apply qlc|apply qla|apply qfa|apply qnc|apply qic|apply qix|apply qpk|apply qls|apply qei|apply qni|apply qed|apply qnd|apply qad|apply qln|apply qle|apply qgt|apply qge|apply qlk|apply qlv|apply qxt|apply qsb|apply qnt|apply qep|apply qnp|apply qeb|apply qnb|apply qcv|apply qlm|apply qfr|apply qto|apply qmx|apply qen|apply qx0|apply qx1|apply qx2)<;>(first|exact rfl|exact Ar.mk (by omega)|assumption|exact dct (by assumption)|exact dcf (by assumption)|exact dct (by omega)|exact dcf (by omega)|exact List.not_mem_nil|exact dc_length _|exact nc_length _|exact nm1 (by omega)|exact nm2 (by omega) (by omega)|exact dct rfl|exact dct (by decide)|exact dcf (by decide)|exact (Int.toNat_of_nonneg (by omega)).symm|exact dcu|exact lk1 (by assumption)|exact lk0 (by assumption)))|fail) ?_)
    refine ret1 (Or.inl rfl) Try.results28 (by first | exact ResV.tmp rfl | exact ResV.agg rfl rfl (by assumption) (by first | exact dc_length _ | exact nc_length _ | rfl) | exact ResV.cell rfl rfl (by assumption)) ?_
    subst h0
    rw [List.append_nil] at hp
    exact ⟨bt', bm', _, rfl, hC, ⟨rfl, rfl, rfl, hp.length_eq.symm, fun x => alook_perm hp.symm hnd x⟩, by omega, by omega, by omega, hk⟩
  · repeat (first|apply CG.seq|apply CG.region|apply SG.nil|apply NG.next|apply CG.skip|apply CG.block|apply CG.ret|apply CG.exit|apply CG.scope|apply NG.ret_then|apply NG.ret_block|apply NG.ret_scope|apply NG.exit_then|refine NG.exit_block rfl ?_|refine NG.exit_other rfl ?_|apply NG.exit_scope|apply NG.normal_block|apply NG.normal_scope|refine SG.val rfl rfl rfl rfl (by first|((first|apply qmv|apply qas|apply qlc|apply qla|apply qfa|apply qnc|apply qic|apply qix|apply qpk|apply qls|apply qei|apply qni|apply qed|apply qnd|apply qad|apply qln|apply qle|apply qgt|apply qge|apply qlk|apply qlv|apply qxt|apply qsb|apply qnt|apply qep|apply qnp|apply qeb|apply qnb|apply qcv|apply qlm|apply qfr|apply qto|apply qmx|apply qen|apply qx0|apply qx1|apply qx2)<;>(first|exact rfl|exact Ar.mk (by omega)|assumption|exact dct (by assumption)|exact dcf (by assumption)|exact dct (by omega)|exact dcf (by omega)|exact List.not_mem_nil|exact dc_length _|exact nc_length _|exact nm1 (by omega)|exact nm2 (by omega) (by omega)|exact dct rfl|exact dct (by decide)|exact dcf (by decide)|exact (Int.toNat_of_nonneg (by omega)).symm|exact dcu|exact lk1 (by assumption)|exact lk0 (by assumption)))|fail) ?_)
    refine CG.cond_t rfl (by exact rho_of rfl) rfl ?_
    repeat (first|apply CG.seq|apply CG.region|apply SG.nil|apply NG.next|apply CG.skip|apply CG.block|apply CG.ret|apply CG.exit|apply CG.scope|apply NG.ret_then|apply NG.ret_block|apply NG.ret_scope|apply NG.exit_then|refine NG.exit_block rfl ?_|refine NG.exit_other rfl ?_|apply NG.exit_scope|apply NG.normal_block|apply NG.normal_scope|refine SG.val rfl rfl rfl rfl (by first|((first|apply qmv|apply qas|apply qlc|apply qla|apply qfa|apply qnc|apply qic|apply qix|apply qpk|apply qls|apply qei|apply qni|apply qed|apply qnd|apply qad|apply qln|apply qle|apply qgt|apply qge|apply qlk|apply qlv|apply qxt|apply qsb|apply qnt|apply qep|apply qnp|apply qeb|apply qnb|apply qcv|apply qlm|apply qfr|apply qto|apply qmx|apply qen|apply qx0|apply qx1|apply qx2)<;>(first|exact rfl|exact Ar.mk (by omega)|assumption|exact dct (by assumption)|exact dcf (by assumption)|exact dct (by omega)|exact dcf (by omega)|exact List.not_mem_nil|exact dc_length _|exact nc_length _|exact nm1 (by omega)|exact nm2 (by omega) (by omega)|exact dct rfl|exact dct (by decide)|exact dcf (by decide)|exact (Int.toNat_of_nonneg (by omega)).symm|exact dcu|exact lk1 (by assumption)|exact lk0 (by assumption)))|fail) ?_)
    refine SG.alloc rfl rfl rfl (fun b4 w6 hk6 hb4 hB4 => ?_)
    refine SG.alloc rfl rfl rfl (fun b5 w7 hk7 hb5 hB5 => ?_)
    have eT := hT4.blk.lt
    have eM := hT4.map.lt
    have eC := hC.blk.lt
    have eD := hC.map.lt
    have s5 := hk5.size
    have s6 := hk6.size
    have e4 := hB4.lt
    refine SG.setAll (old := dc (n := 8) ⟨[0, 0, 0, 0, 0, 0, 0, 0], rfl⟩) rfl rfl (by exact rho_of rfl) (by exact rho_of rfl) (hB4.kp0 hk7) (by first | exact dc_length _ | exact nc_length _ | rfl) (by first | exact dc_length _ | exact nc_length _ | rfl) (by first | exact dc_one _ | exact nc_one _ | rfl) (fun w8 hk8 hB4 => ?_)
    refine SG.setAll (old := nc nd0) rfl rfl (by exact rho_of rfl) (by exact rho_of rfl) (hB5.kp hk8 (by first | exact List.not_mem_nil | exact nm1 (by omega) | exact nm2 (by omega) (by omega) | exact nm3 (by omega) (by omega) (by omega))) (by first | exact dc_length _ | exact nc_length _ | rfl) (by first | exact dc_length _ | exact nc_length _ | rfl) (by first | exact dc_one _ | exact nc_one _ | rfl) (fun w9 hk9 hB5 => ?_)
    have hB4 := hB4.kp hk9 (by first | exact List.not_mem_nil | exact nm1 (by omega) | exact nm2 (by omega) (by omega) | exact nm3 (by omega) (by omega) (by omega))
    have hk59 := ((hk6.trans hk7).trans_new hk8 (by first | exact new1 (by omega) | exact new2 (by omega) (by omega))).trans_new hk9 (by first | exact new1 (by omega) | exact new2 (by omega) (by omega))
    have hT9 := (hT4.kp hk5 (by first | exact List.not_mem_nil | exact nm1 (by omega) | exact nm2 (by omega) (by omega) | exact nm3 (by omega) (by omega) (by omega)) (by first | exact List.not_mem_nil | exact nm1 (by omega) | exact nm2 (by omega) (by omega) | exact nm3 (by omega) (by omega) (by omega))).kp0 hk59
    have hC9 := (hC.kp hk5 (by first | exact List.not_mem_nil | exact nm1 (by omega) | exact nm2 (by omega) (by omega) | exact nm3 (by omega) (by omega) (by omega)) (by first | exact List.not_mem_nil | exact nm1 (by omega) | exact nm2 (by omega) (by omega) | exact nm3 (by omega) (by omega) (by omega))).kp0 hk59
    have hI9 := hI5.kp0 hk59
    have s9 := hk59.size
    have hk := hk.trans_new (hk5.trans hk59.any) (by first | exact new1 (by omega) | exact new2 (by omega) (by omega))
    have hR4 : Row w9 b4 0 (dc p.1) := Row.all hB4 rfl
    have hR5 : Row w9 b5 0 (nc p.2) := Row.all hB5 rfl
    have hr17 := hC9.r17
    repeat (first|apply CG.seq|apply CG.region|apply SG.nil|apply NG.next|apply CG.skip|apply CG.block|apply CG.ret|apply CG.exit|apply CG.scope|apply NG.ret_then|apply NG.ret_block|apply NG.ret_scope|apply NG.exit_then|refine NG.exit_block rfl ?_|refine NG.exit_other rfl ?_|apply NG.exit_scope|apply NG.normal_block|apply NG.normal_scope|refine SG.val rfl rfl rfl rfl (by first|((first|apply qmv|apply qas|apply qlc|apply qla|apply qfa|apply qnc|apply qic|apply qix|apply qpk|apply qls|apply qei|apply qni|apply qed|apply qnd|apply qad|apply qln|apply qle|apply qgt|apply qge|apply qlk|apply qlv|apply qxt|apply qsb|apply qnt|apply qep|apply qnp|apply qeb|apply qnb|apply qcv|apply qlm|apply qfr|apply qto|apply qmx|apply qen|apply qx0|apply qx1|apply qx2)<;>(first|exact rfl|exact Ar.mk (by omega)|assumption|exact dct (by assumption)|exact dcf (by assumption)|exact dct (by omega)|exact dcf (by omega)|exact List.not_mem_nil|exact dc_length _|exact nc_length _|exact nm1 (by omega)|exact nm2 (by omega) (by omega)|exact dct rfl|exact dct (by decide)|exact dcf (by decide)|exact (Int.toNat_of_nonneg (by omega)).symm|exact dcu|exact lk1 (by assumption)|exact lk0 (by assumption)))|fail) ?_)
    refine CG.tail mixed 6 [0, 1, 2, 3, 4, 5] (by kernel_rfl) ?_
    repeat (refine Der.val rfl rfl rfl (by first|((first|apply qmv|apply qas|apply qlc|apply qla|apply qfa|apply qnc|apply qic|apply qix|apply qpk|apply qls|apply qei|apply qni|apply qed|apply qnd|apply qad|apply qln|apply qle|apply qgt|apply qge|apply qlk|apply qlv|apply qxt|apply qsb|apply qnt|apply qep|apply qnp|apply qeb|apply qnb|apply qcv|apply qlm|apply qfr|apply qto|apply qmx|apply qen|apply qx0|apply qx1|apply qx2)<;>(first|exact rfl|exact Ar.mk (by omega)|assumption|exact dct (by assumption)|exact dcf (by assumption)|exact dct (by omega)|exact dcf (by omega)|exact List.not_mem_nil|exact dc_length _|exact nc_length _|exact nm1 (by omega)|exact nm2 (by omega) (by omega)|exact dct rfl|exact dct (by decide)|exact dcf (by decide)|exact (Int.toNat_of_nonneg (by omega)).symm|exact dcu|exact lk1 (by assumption)|exact lk0 (by assumption)))|fail) ?_)
    refine Der.tl (fun w10 hk10 _ _ => ?_)
    have hT10 := hT9.kp0 hk10
    have hC10 := hC9.kp0 hk10
    have hI10 := hI9.kp0 hk10
    have s10 := hk10.size
    refine SG.mapUpdate (enc := dv (n := 8)) (V := nv) (kx := p.1) (vy := p.2) rfl rfl (by exact rho_of rfl) (by exact rho_of rfl) (by exact rho_of rfl) hC10.map BArr.key (fun w11 hk11 hm11 => ?_)
    repeat (first|apply CG.seq|apply CG.region|apply SG.nil|apply NG.next|apply CG.skip|apply CG.block|apply CG.ret|apply CG.exit|apply CG.scope|apply NG.ret_then|apply NG.ret_block|apply NG.ret_scope|apply NG.exit_then|refine NG.exit_block rfl ?_|refine NG.exit_other rfl ?_|apply NG.exit_scope|apply NG.normal_block|apply NG.normal_scope|refine SG.val rfl rfl rfl rfl (by first|((first|apply qmv|apply qas|apply qlc|apply qla|apply qfa|apply qnc|apply qic|apply qix|apply qpk|apply qls|apply qei|apply qni|apply qed|apply qnd|apply qad|apply qln|apply qle|apply qgt|apply qge|apply qlk|apply qlv|apply qxt|apply qsb|apply qnt|apply qep|apply qnp|apply qeb|apply qnb|apply qcv|apply qlm|apply qfr|apply qto|apply qmx|apply qen|apply qx0|apply qx1|apply qx2)<;>(first|exact rfl|exact Ar.mk (by omega)|assumption|exact dct (by assumption)|exact dcf (by assumption)|exact dct (by omega)|exact dcf (by omega)|exact List.not_mem_nil|exact dc_length _|exact nc_length _|exact nm1 (by omega)|exact nm2 (by omega) (by omega)|exact dct rfl|exact dct (by decide)|exact dcf (by decide)|exact (Int.toNat_of_nonneg (by omega)).symm|exact dcu|exact lk1 (by assumption)|exact lk0 (by assumption)))|fail) ?_)
    have hp2 : (done ++ p :: (pre ++ post)).Perm t.nodes := by
      refine List.Perm.trans ?_ hp
      rw [hl]
      exact List.Perm.append_left done (List.perm_middle.symm)
    have hnone : alook done p.1 = none := by
      rw [alook_none]
      intro q hq e
      have hn2 : ((done ++ p :: (pre ++ post)).map (·.1)).Nodup := (hp2.map _).nodup_iff.2 hnd
      rw [List.map_append, List.map_cons] at hn2
      exact (List.nodup_append.1 hn2).2.2 q.1 (List.mem_map.2 ⟨q, hq, rfl⟩) p.1 (by simp) e
    rw [aput_new _ hnone] at hm11
    have s11 := hk11.size
    exact NG.round (done ++ [p], pre ++ post, some p) (by (repeat' (first | exact True.intro | exact rfl | refine And.intro ?_ ?_))) ⟨(hk.trans hk10).trans_new hk11 (by first | exact new1 (by omega) | exact new2 (by omega) (by omega)), by omega, hT10.kp hk11 (by first | exact List.not_mem_nil | exact nm1 (by omega) | exact nm2 (by omega) (by omega) | exact nm3 (by omega) (by omega) (by omega)) (by first | exact List.not_mem_nil | exact nm1 (by omega) | exact nm2 (by omega) (by omega) | exact nm3 (by omega) (by omega) (by omega)), hI10.kp hk11 (by first | exact List.not_mem_nil | exact nm1 (by omega) | exact nm2 (by omega) (by omega) | exact nm3 (by omega) (by omega) (by omega)) (by first | exact List.not_mem_nil | exact nm1 (by omega) | exact nm2 (by omega) (by omega) | exact nm3 (by omega) (by omega) (by omega)), ⟨hC10.blk.kp hk11 (by first | exact List.not_mem_nil | exact nm1 (by omega) | exact nm2 (by omega) (by omega) | exact nm3 (by omega) (by omega) (by omega)), hm11⟩, by simpa using hp2⟩ (by simp only [hl]; simp)
end Go.Proofs.Ytpnenekgldggbaa
