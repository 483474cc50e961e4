/-
  Trees that are the same but for the order of their blocks; is a tree as the document's; are two alike?
-/
import Derived.Test.YtpnenekgldggbaaLooks
namespace Go.Proofs.Ytpnenekgldggbaa
set_option linter.unusedVariables false

section
variable {t t' : Tr}
theorem Tr.Eqv.partF (h : t.Eqv t') : ∀ (n : Nat) (a b : Dg), t.partF n a b = t'.partF n a b
  | 0, a, b => rfl
  | n + 1, a, b => by
    simp only [Tr.partF]
    rw [h.ht, h.ht, h.par, h.par, h.partF n]
theorem Tr.Eqv.part (h : t.Eqv t') (a b : Dg) : t.part a b = t'.part a b := by unfold Tr.part; rw [h.ht, h.ht, h.partF]
theorem Tr.Eqv.addE (h : t.Eqv t') (x p : Dg) : t.addE x p = t'.addE x p := by
  have hd : t.deep p = t'.deep p := by unfold Tr.deep; rw [h.depth, h.tip, h.part, h.ht, h.ht]
  unfold Tr.addE
  rw [h.has, h.has, h.len, hd]
theorem Tr.Eqv.add (h : t.Eqv t') (x p : Dg) : (t.add x p).Eqv (t'.add x p) := by
  unfold Tr.add
  rw [← h.addE]
  by_cases he : t.addE x p = 0
  · rw [if_pos he, if_pos he]
    have hx := (add_addE he).1
    have hx' : t'.has x = false := by rw [← h.has]; exact hx
    have h1 : alook t.nodes x = none := Tr.has_none (by rw [hx]; simp)
    have h2 : alook t'.nodes x = none := Tr.has_none (by rw [hx']; simp)
    refine ⟨h.first, ?_, h.depth, ?_, fun z => ?_⟩
    · rw [put_tip, put_tip, h.ht, h.ht, h.tip]
    · show (aput t.nodes x _).length = (aput t'.nodes x _).length
      rw [aput_new _ h1, aput_new _ h2]
      simp [h.len]
    · rw [put_look, put_look, h.ht, h.nodes]
  · rw [if_neg he, if_neg he]
    exact h
theorem Tr.Eqv.climb (h : t.Eqv t') : ∀ (k : Nat) (x : Dg), t.climb k x = t'.climb k x
  | 0, x => rfl
  | k + 1, x => by rw [Tr.climb, Tr.climb, h.par, h.climb k]
theorem Tr.Eqv.line (h : t.Eqv t') (x : Dg) : t.line x = t'.line x := by unfold Tr.line; rw [h.has, h.ht, h.climb]
theorem Tr.Eqv.fin (h : t.Eqv t') : t.fin = t'.fin := by unfold Tr.fin Tr.finN; rw [h.line, h.tip, h.ht, h.depth]
end

/-- As the document says when trees are alike. -/
def AlikeP (t v : Tr) : Prop := t.depth = v.depth ∧ t.tip = v.tip ∧ t.nodes.length = v.nodes.length ∧ t.first = v.first ∧ ∀ x, t.has x = true → x ≠ t.first → v.has x = true ∧ v.par x = t.par x

theorem first_nd {t : Tr} (ok : t.Ok) : t.nd t.first = nd0 := by
  obtain ⟨rest, h⟩ := ok.hd
  unfold Tr.nd
  rw [h]
  simp [alook]
theorem alike_ht {t v : Tr} (ok : t.Ok) (okv : v.Ok) (h : AlikeP t v) : ∀ (k : Nat) {x : Dg}, t.has x = true → t.ht x = k → v.has x = true ∧ v.nd x = t.nd x
  | 0, x, hx, hk => by
    have hf := ok.wf.first_of hx hk
    subst hf
    refine ⟨by rw [h.2.2.2.1]; exact okv.wf.first, ?_⟩
    rw [first_nd ok]
    conv => lhs; rw [h.2.2.2.1]
    exact first_nd okv
  | k + 1, x, hx, hk => by
    have hne : x ≠ t.first := fun e => by rw [e, ok.wf.h0] at hk; omega
    obtain ⟨h1, h2⟩ := h.2.2.2.2 x hx hne
    obtain ⟨h3, h4⟩ := ok.wf.up x hx hne
    obtain ⟨h5, h6⟩ := okv.wf.up x h1 (by rw [← h.2.2.2.1]; exact hne)
    obtain ⟨_, h8⟩ := alike_ht ok okv h k h3 (by omega)
    refine ⟨h1, ?_⟩
    rw [h2] at h6
    have e1 : v.ht (t.par x) = t.ht (t.par x) := by unfold Tr.ht; rw [h8]
    have e2 : (v.nd x).height = (t.nd x).height := by
      have a1 : v.ht x = (v.nd x).height := rfl
      have a2 : t.ht x = (t.nd x).height := rfl
      omega
    have e3 : (v.nd x).parent = (t.nd x).parent := h2
    cases hv : v.nd x
    cases ht : t.nd x
    rw [hv, ht] at e2 e3
    simp only at e2 e3
    rw [e2, e3]
theorem same_alike {t u v : Tr} (ok : t.Ok) (okv : v.Ok) (hq : v.Eqv u) : t.sameB u = true ↔ AlikeP t v := by
  unfold Tr.sameB
  simp only [Bool.and_eq_true, decide_eq_true_eq, List.all_eq_true]
  rw [← hq.first, ← hq.depth, ← hq.tip, ← hq.len]
  constructor
  · rintro ⟨h1, h2, h3, h4, h5⟩
    refine ⟨h2, h3, h4, h1, fun x hx hne => ?_⟩
    have hs := Tr.has_some hx
    have hmem : (x, t.nd x) ∈ t.nodes := by
      obtain ⟨i, hi, _, hat, _⟩ := ok.at hx
      have hi' : i < t.nodes.length := by simpa [Tr.rt] using hi
      have e1 : t.nodes[i].1 = x := by
        have := congrArg Prod.fst hat
        simpa [Tr.rt] using this
      have e2 := alook_of_mem ok.nd (List.getElem_mem hi')
      rw [e1, hs] at e2
      have e3 := Option.some.inj e2
      have : t.nodes[i] = (x, t.nd x) := Prod.ext e1 e3.symm
      rw [← this]
      exact List.getElem_mem hi'
    have h6 := h5 _ hmem
    simp only at h6
    rw [← hq.nodes] at h6
    refine ⟨by unfold Tr.has; rw [h6]; rfl, ?_⟩
    unfold Tr.par Tr.nd
    rw [h6, hs]
  · intro h
    refine ⟨h.2.2.2.1, h.1, h.2.1, h.2.2.1, fun p hp => ?_⟩
    have hl := alook_of_mem ok.nd hp
    have hx : t.has p.1 = true := by unfold Tr.has; rw [hl]; rfl
    obtain ⟨h1, h2⟩ := alike_ht ok okv h _ hx rfl
    rw [← hq.nodes, Tr.has_some h1, h2]
    have : t.nd p.1 = p.2 := by unfold Tr.nd; rw [hl]; rfl
    rw [this]

attribute [local irreducible] CG NG SG Vals Der Row Blk MapIs IterAt DerX
set_option maxHeartbeats 16000000 in
theorem issame_spec {w : World} {bt bm : Nat} {u v : Tr} (hT : TreeAt w bt bm u) (hq : v.Eqv u) (ok : v.Ok) (hdep : v.depth ≤ 1000) {a : Option Addr} (c : Nat) (hS : SlB w a v.rt.l) : Ret Try.prog 30 #[.pointer (some ⟨bt, 0, none⟩), rtv v.rt a c] w (.bool true) := by
  have wfu := hq.wf ok.wf
  have hdu : u.depth ≤ 1000 := by rw [← hq.depth]; exact hdep
  refine enter2 Try.func30 rfl Try.ntmps30 rfl ?_
  repeat (first|apply CG.seq|apply CG.region|apply SG.nil|apply NG.next|apply CG.skip|apply CG.block|apply CG.ret|apply CG.exit|apply CG.scope|apply NG.ret_then|apply NG.ret_block|apply NG.ret_scope|apply NG.exit_then|refine NG.exit_block rfl ?_|refine NG.exit_other rfl ?_|apply NG.exit_scope|apply NG.normal_block|apply NG.normal_scope|refine SG.val rfl rfl rfl rfl (by first|((first|apply qmv|apply qas|apply qlc|apply qla|apply qfa|apply qnc|apply qic|apply qix|apply qpk|apply qls|apply qei|apply qni|apply qed|apply qnd|apply qad|apply qln|apply qle|apply qgt|apply qge|apply qlk|apply qlv|apply qxt|apply qsb|apply qnt|apply qep|apply qnp|apply qeb|apply qnb|apply qcv|apply qlm|apply qfr|apply qto|apply qmx|apply qen|apply qx0|apply qx1|apply qx2|apply qx3)<;>(first|exact rfl|exact Ar.mk (by omega)|assumption|exact dct (by assumption)|exact dcf (by assumption)|exact dct (by omega)|exact dcf (by omega)|exact List.not_mem_nil|exact dc_length _|exact nc_length _|exact rc_length _ _ _|exact nm1 (by omega)|exact nm2 (by omega) (by omega)|exact dct rfl|exact dct (by decide)|exact dcf (by decide)|exact (Int.toNat_of_nonneg (by omega)).symm|exact dcu|exact lk1 (by assumption)|exact lk0 (by assumption)))|fail) ?_)
  refine SG.box rfl rfl rfl (by exact rho_of rfl) (fun b3 w1 hk1 hb3 hB3 => ?_)
  have hR3 : Row w1 b3 0 (rc v.rt a c) := Row.all hB3 rfl
  have hR32 := rc_r2 hR3
  have hT := hT.kp0 hk1
  have hS := hS.kp0 hk1
  have htip : u.tip = v.rt.tip := hq.tip.symm
  have hfl := ok.wf.fin_length
  have hfn : v.finN = max 1 (v.ht v.tip + 1 - v.depth) := rfl
  have hbt := ok.wf.bound ok.wf.tip
  have hls := line_small ok.wf v.tip
  have hf : u.fin = v.fin := hq.fin.symm
  repeat (first|apply CG.seq|apply CG.region|apply SG.nil|apply NG.next|apply CG.skip|apply CG.block|apply CG.ret|apply CG.exit|apply CG.scope|apply NG.ret_then|apply NG.ret_block|apply NG.ret_scope|apply NG.exit_then|refine NG.exit_block rfl ?_|refine NG.exit_other rfl ?_|apply NG.exit_scope|apply NG.normal_block|apply NG.normal_scope|refine SG.val rfl rfl rfl rfl (by first|((first|apply qmv|apply qas|apply qlc|apply qla|apply qfa|apply qnc|apply qic|apply qix|apply qpk|apply qls|apply qei|apply qni|apply qed|apply qnd|apply qad|apply qln|apply qle|apply qgt|apply qge|apply qlk|apply qlv|apply qxt|apply qsb|apply qnt|apply qep|apply qnp|apply qeb|apply qnb|apply qcv|apply qlm|apply qfr|apply qto|apply qmx|apply qen|apply qx0|apply qx1|apply qx2|apply qx3)<;>(first|exact rfl|exact Ar.mk (by omega)|assumption|exact dct (by assumption)|exact dcf (by assumption)|exact dct (by omega)|exact dcf (by omega)|exact List.not_mem_nil|exact dc_length _|exact nc_length _|exact rc_length _ _ _|exact nm1 (by omega)|exact nm2 (by omega) (by omega)|exact dct rfl|exact dct (by decide)|exact dcf (by decide)|exact (Int.toNat_of_nonneg (by omega)).symm|exact dcu|exact lk1 (by assumption)|exact lk0 (by assumption)))|fail) ?_)
  refine CG.draw0 mixed [0, 1, 2, 3, 4, 5, 6, 9, 7, 8, 10, 11, 12, 13, 14, 15, 16, 19, 20, 21, 17, 18, 22, 23, 24, 25] [7, 8, 10, 17, 18, 22] (by kernel_rfl) ?_
  repeat (refine Der.val rfl rfl rfl (by first|((first|apply qmv|apply qas|apply qlc|apply qla|apply qfa|apply qnc|apply qic|apply qix|apply qpk|apply qls|apply qei|apply qni|apply qed|apply qnd|apply qad|apply qln|apply qle|apply qgt|apply qge|apply qlk|apply qlv|apply qxt|apply qsb|apply qnt|apply qep|apply qnp|apply qeb|apply qnb|apply qcv|apply qlm|apply qfr|apply qto|apply qmx|apply qen|apply qx0|apply qx1|apply qx2|apply qx3)<;>(first|exact rfl|exact Ar.mk (by omega)|assumption|exact dct (by assumption)|exact dcf (by assumption)|exact dct (by omega)|exact dcf (by omega)|exact List.not_mem_nil|exact dc_length _|exact nc_length _|exact rc_length _ _ _|exact nm1 (by omega)|exact nm2 (by omega) (by omega)|exact dct rfl|exact dct (by decide)|exact dcf (by decide)|exact (Int.toNat_of_nonneg (by omega)).symm|exact dcu|exact lk1 (by assumption)|exact lk0 (by assumption)))|fail) ?_)
  refine Der.call rfl rfl rfl (by repeat' (first | exact True.intro | exact rho_of rfl | refine And.intro ?_ ?_)) (fun w hk _ => tip_spec (hT.kp0 hk)) ?_
  repeat (refine Der.val rfl rfl rfl (by first|((first|apply qmv|apply qas|apply qlc|apply qla|apply qfa|apply qnc|apply qic|apply qix|apply qpk|apply qls|apply qei|apply qni|apply qed|apply qnd|apply qad|apply qln|apply qle|apply qgt|apply qge|apply qlk|apply qlv|apply qxt|apply qsb|apply qnt|apply qep|apply qnp|apply qeb|apply qnb|apply qcv|apply qlm|apply qfr|apply qto|apply qmx|apply qen|apply qx0|apply qx1|apply qx2|apply qx3)<;>(first|exact rfl|exact Ar.mk (by omega)|assumption|exact dct (by assumption)|exact dcf (by assumption)|exact dct (by omega)|exact dcf (by omega)|exact List.not_mem_nil|exact dc_length _|exact nc_length _|exact rc_length _ _ _|exact nm1 (by omega)|exact nm2 (by omega) (by omega)|exact dct rfl|exact dct (by decide)|exact dcf (by decide)|exact (Int.toNat_of_nonneg (by omega)).symm|exact dcu|exact lk1 (by assumption)|exact lk0 (by assumption)))|fail) ?_)
  refine Der.callS (enc := dc) (sz := 8) v.fin rfl rfl rfl rfl (vs := [.pointer (some ⟨bt, 0, none⟩)]) (by repeat' (first | exact True.intro | exact rho_of rfl | refine And.intro ?_ ?_)) stabT (fun w hk _ => hf ▸ final_spec (hT.kp0 hk) wfu hdu) (fun a1 c1 => ?_)
  refine Der.callS (enc := dc) (sz := 8) v.fin rfl rfl rfl rfl (vs := [.slice a1 v.fin.length c1]) (by repeat' (first | exact True.intro | exact rho_of rfl | refine And.intro ?_ ?_)) (stabS stabT) (fun w hk hF => plain_spec c1 hF.2.sl (by omega)) (fun a2 c2 => ?_)
  refine Der.callS (enc := dc) (sz := 8) v.fin rfl rfl rfl rfl (vs := [rtv v.rt a c]) (by repeat' (first | exact True.intro | exact rho_of rfl | refine And.intro ?_ ?_)) (stabS (stabS stabT)) (fun w hk hF => reffinal_spec ok hdep c (hS.kp0 hk)) (fun a3 c3 => ?_)
  refine Der.call rfl rfl rfl (vs := [.slice a2 v.fin.length c2, .slice a3 v.fin.length c3]) (by repeat' (first | exact True.intro | exact rho_of rfl | refine And.intro ?_ ?_)) (fun w hk hF => same_spec c2 c3 hF.1.2.sl hF.2.sl (by omega)) ?_
  rw [decide_eq_true (rfl : v.fin = v.fin)]
  repeat (refine Der.val rfl rfl rfl (by first|((first|apply qmv|apply qas|apply qlc|apply qla|apply qfa|apply qnc|apply qic|apply qix|apply qpk|apply qls|apply qei|apply qni|apply qed|apply qnd|apply qad|apply qln|apply qle|apply qgt|apply qge|apply qlk|apply qlv|apply qxt|apply qsb|apply qnt|apply qep|apply qnp|apply qeb|apply qnb|apply qcv|apply qlm|apply qfr|apply qto|apply qmx|apply qen|apply qx0|apply qx1|apply qx2|apply qx3)<;>(first|exact rfl|exact Ar.mk (by omega)|assumption|exact dct (by assumption)|exact dcf (by assumption)|exact dct (by omega)|exact dcf (by omega)|exact List.not_mem_nil|exact dc_length _|exact nc_length _|exact rc_length _ _ _|exact nm1 (by omega)|exact nm2 (by omega) (by omega)|exact dct rfl|exact dct (by decide)|exact dcf (by decide)|exact (Int.toNat_of_nonneg (by omega)).symm|exact dcu|exact lk1 (by assumption)|exact lk0 (by assumption)))|fail) ?_)
  refine Der.callS (enc := dc) (sz := 8) (v.line v.tip) rfl rfl rfl rfl (vs := [.pointer (some ⟨bt, 0, none⟩), dv v.tip]) (by repeat' (first | exact True.intro | exact rho_of rfl | refine And.intro ?_ ?_)) (stabS (stabS (stabS stabT))) (fun w hk _ => by rw [hq.line]; exact line_spec (hT.kp0 hk) wfu v.tip) (fun a4 c4 => ?_)
  refine Der.callS (enc := dc) (sz := 8) (v.line v.tip) rfl rfl rfl rfl (vs := [.slice a4 (v.line v.tip).length c4]) (by repeat' (first | exact True.intro | exact rho_of rfl | refine And.intro ?_ ?_)) (stabS (stabS (stabS (stabS stabT)))) (fun w hk hF => plain_spec c4 hF.2.sl (by omega)) (fun a5 c5 => ?_)
  refine Der.callS (enc := dc) (sz := 8) (v.line v.tip) rfl rfl rfl rfl (vs := [rtv v.rt a c, dv v.tip]) (by repeat' (first | exact True.intro | exact rho_of rfl | refine And.intro ?_ ?_)) (stabS (stabS (stabS (stabS (stabS stabT))))) (fun w hk hF => refline_S ok v.tip c (hS.kp0 hk)) (fun a6 c6 => ?_)
  refine Der.call rfl rfl rfl (vs := [.slice a5 (v.line v.tip).length c5, .slice a6 (v.line v.tip).length c6]) (by repeat' (first | exact True.intro | exact rho_of rfl | refine And.intro ?_ ?_)) (fun w hk hF => same_spec c5 c6 hF.1.2.sl hF.2.sl (by omega)) ?_
  rw [decide_eq_true (rfl : v.line v.tip = v.line v.tip)]
  repeat (refine Der.val rfl rfl rfl (by first|((first|apply qmv|apply qas|apply qlc|apply qla|apply qfa|apply qnc|apply qic|apply qix|apply qpk|apply qls|apply qei|apply qni|apply qed|apply qnd|apply qad|apply qln|apply qle|apply qgt|apply qge|apply qlk|apply qlv|apply qxt|apply qsb|apply qnt|apply qep|apply qnp|apply qeb|apply qnb|apply qcv|apply qlm|apply qfr|apply qto|apply qmx|apply qen|apply qx0|apply qx1|apply qx2|apply qx3)<;>(first|exact rfl|exact Ar.mk (by omega)|assumption|exact dct (by assumption)|exact dcf (by assumption)|exact dct (by omega)|exact dcf (by omega)|exact List.not_mem_nil|exact dc_length _|exact nc_length _|exact rc_length _ _ _|exact nm1 (by omega)|exact nm2 (by omega) (by omega)|exact dct rfl|exact dct (by decide)|exact dcf (by decide)|exact (Int.toNat_of_nonneg (by omega)).symm|exact dcu|exact lk1 (by assumption)|exact lk0 (by assumption)))|fail) ?_)
  refine Der.fin (fun w2 hk2 _ _ => ?_)
  repeat (first|apply CG.seq|apply CG.region|apply SG.nil|apply NG.next|apply CG.skip|apply CG.block|apply CG.ret|apply CG.exit|apply CG.scope|apply NG.ret_then|apply NG.ret_block|apply NG.ret_scope|apply NG.exit_then|refine NG.exit_block rfl ?_|refine NG.exit_other rfl ?_|apply NG.exit_scope|apply NG.normal_block|apply NG.normal_scope|refine SG.val rfl rfl rfl rfl (by first|((first|apply qmv|apply qas|apply qlc|apply qla|apply qfa|apply qnc|apply qic|apply qix|apply qpk|apply qls|apply qei|apply qni|apply qed|apply qnd|apply qad|apply qln|apply qle|apply qgt|apply qge|apply qlk|apply qlv|apply qxt|apply qsb|apply qnt|apply qep|apply qnp|apply qeb|apply qnb|apply qcv|apply qlm|apply qfr|apply qto|apply qmx|apply qen|apply qx0|apply qx1|apply qx2|apply qx3)<;>(first|exact rfl|exact Ar.mk (by omega)|assumption|exact dct (by assumption)|exact dcf (by assumption)|exact dct (by omega)|exact dcf (by omega)|exact List.not_mem_nil|exact dc_length _|exact nc_length _|exact rc_length _ _ _|exact nm1 (by omega)|exact nm2 (by omega) (by omega)|exact dct rfl|exact dct (by decide)|exact dcf (by decide)|exact (Int.toNat_of_nonneg (by omega)).symm|exact dcu|exact lk1 (by assumption)|exact lk0 (by assumption)))|fail) ?_)
  refine ret1 (Or.inl rfl) Try.results30 (by first | exact ResV.tmp rfl | exact ResV.agg rfl rfl (by assumption) (by first | exact dc_length _ | exact nc_length _ | exact rc_length _ _ _ | rfl) | exact ResV.cell rfl rfl (by assumption)) ?_
  exact ⟨rfl, hk1.trans hk2⟩
end Go.Proofs.Ytpnenekgldggbaa
