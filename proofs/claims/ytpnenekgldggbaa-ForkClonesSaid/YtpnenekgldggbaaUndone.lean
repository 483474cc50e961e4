/-
  The fork: what is undone.
-/
import Derived.Test.YtpnenekgldggbaaAbove
namespace Go.Proofs.Ytpnenekgldggbaa
set_option linter.unusedVariables false

theorem Tr.WF.anc {t : Tr} (wf : t.WF) : ∀ (j : Nat) {x : Dg}, t.has x = true → j ≤ t.ht x → t.has (t.anc j x) = true ∧ t.ht (t.anc j x) + j = t.ht x
  | 0, x, hx, _ => ⟨hx, rfl⟩
  | j + 1, x, hx, hj => by
    have hne : x ≠ t.first := fun e => by rw [e, wf.h0] at hj; omega
    obtain ⟨h1, h2⟩ := wf.up x hx hne
    obtain ⟨h3, h4⟩ := wf.anc j h1 (by omega)
    exact ⟨h3, by rw [Tr.anc]; omega⟩
theorem partF_anc {t : Tr} (wf : t.WF) : ∀ (n : Nat) {a b : Dg}, t.has a = true → t.has b = true → t.ht a + t.ht b < n → ∃ i j, i ≤ t.ht a ∧ j ≤ t.ht b ∧ t.partF n a b = t.anc i a ∧ t.partF n a b = t.anc j b
  | 0, a, b, _, _, h => by omega
  | n + 1, a, b, ha, hb, h => by
    simp only [Tr.partF]
    by_cases e : a = b
    · rw [if_pos e]
      exact ⟨0, 0, Nat.zero_le _, Nat.zero_le _, rfl, e⟩
    · rw [if_neg e]
      obtain ⟨h1, h2, h3, _⟩ := wf.round ha hb e
      have key : ∀ {a b : Dg}, t.has a = true → t.has b = true → a ≠ b → t.ht b ≤ t.ht a → t.ht a = t.ht (t.par a) + 1 := by
        intro a b ha hb hne hle
        refine (wf.up a ha (fun e => hne ?_)).2
        have h1 : t.ht a = 0 := by rw [e]; exact wf.h0
        have h2 := wf.first_of hb (by omega)
        rw [e, h2]
      obtain ⟨i, j, g1, g2, g3, g4⟩ := partF_anc wf n h1 h2 (by omega)
      by_cases c1 : t.ht b ≤ t.ht a <;> by_cases c2 : t.ht a ≤ t.ht b
      · have k1 := key ha hb e c1
        have k2 := key hb ha (fun e1 => e e1.symm) c2
        simp only [c1, c2, if_true] at g1 g2 g3 g4 ⊢
        exact ⟨i + 1, j + 1, by omega, by omega, g3, g4⟩
      · have k1 := key ha hb e c1
        simp only [c1, c2, if_true, if_false] at g1 g2 g3 g4 ⊢
        exact ⟨i + 1, j, by omega, g2, g3, g4⟩
      · have k2 := key hb ha (fun e1 => e e1.symm) c2
        simp only [c1, c2, if_true, if_false] at g1 g2 g3 g4 ⊢
        exact ⟨i, j + 1, g1, by omega, g3, g4⟩
      · omega
theorem part_anc {t : Tr} (wf : t.WF) {a b : Dg} (ha : t.has a = true) (hb : t.has b = true) : ∃ i, i ≤ t.ht a ∧ t.part a b = t.anc i a ∧ t.ht (t.part a b) + i = t.ht a := by
  obtain ⟨i, j, h1, h2, h3, h4⟩ := partF_anc wf (t.ht a + t.ht b + 1) ha hb (by omega)
  have := (wf.anc i ha h1).2
  refine ⟨i, h1, h3, ?_⟩
  unfold Tr.part
  rw [h3]
  exact this

theorem Tr.climb_take (t : Tr) (m : Nat) (x : Dg) : t.climb m x = (t.climb m x).take m ++ [t.anc m x] := by
  cases m with
  | zero => rfl
  | succ m =>
    rw [Tr.climb_succ]
    have : (t.climb m x).length = m + 1 := Tr.climb_length t m x
    rw [List.take_append_of_le_length (by omega), List.take_of_length_le (by omega)]
/-- How many are undone. -/
def Tr.und (t : Tr) (a b : Dg) : Nat := t.ht a - t.ht (t.part a b)
def Tr.undL (t : Tr) (a b : Dg) : List Dg := (t.climb (t.und a b) a).take (t.und a b)

attribute [local irreducible] CG NG SG Vals Der Row Blk MapIs
set_option maxHeartbeats 8000000 in
theorem undone_spec {w : World} {bt bm : Nat} {t : Tr} (hT : TreeAt w bt bm t) (wf : t.WF) {x y : Dg} (hx : t.has x = true) (hy : t.has y = true) :
    Calls Try.prog 15 #[.pointer (some ⟨bt, 0, none⟩), dv x, dv y] w (fun e w' => ∃ b off c pre post, e = .returned (.slice (some ⟨b, off, none⟩) (t.und x y) c) ∧ w.heap.size ≤ b ∧ Blk w' b (.cells (pre ++ (flat (t.undL x y) ++ post)).toArray 29) ∧ (pre.length = off ∧ t.und x y ≤ c) ∧ Kp [] w w') := by
  refine enter3 Try.func15 rfl Try.ntmps15 rfl ?_
  repeat (first|apply CG.seq|apply CG.region|apply SG.nil|apply NG.next|apply CG.skip|apply CG.block|apply CG.ret|apply CG.exit|apply CG.scope|apply NG.ret_then|apply NG.ret_block|apply NG.ret_scope|apply NG.exit_then|refine NG.exit_block rfl ?_|refine NG.exit_other rfl ?_|apply NG.exit_scope|apply NG.normal_block|apply NG.normal_scope|refine SG.val rfl rfl rfl rfl (by first|((first|apply qmv|apply qas|apply qlc|apply qla|apply qfa|apply qnc|apply qic|apply qix|apply qpk|apply qls|apply qei|apply qni|apply qed|apply qnd|apply qad|apply qln|apply qle|apply qgt|apply qge|apply qlk|apply qlv|apply qxt|apply qsb|apply qnt|apply qep|apply qnp|apply qeb|apply qnb|apply qcv|apply qlm|apply qfr|apply qto|apply qmx|apply qx0|apply qx1)<;>(first|exact rfl|exact Ar.mk (by omega)|assumption|exact dct (by assumption)|exact dcf (by assumption)|exact dct (by omega)|exact dcf (by omega)|exact List.not_mem_nil|exact dc_length _|exact nc_length _|exact nm1 (by omega)|exact nm2 (by omega) (by omega)|exact dct rfl|exact dct (by decide)|exact dcf (by decide)|exact (Int.toNat_of_nonneg (by omega)).symm|exact dcu|exact lk1 (by assumption)|exact lk0 (by assumption)))|fail) ?_)
  refine SG.box rfl rfl rfl (by exact rho_of rfl) (fun b4 w1 hk1 hb4 hB4 => ?_)
  refine SG.box rfl rfl rfl (by exact rho_of rfl) (fun b5 w2 hk2 hb5 hB5 => ?_)
  have hk02 := hk1.trans hk2
  have hT2 := hT.kp0 hk02
  have hR4 : Row w2 b4 0 (dc x) := Row.all (hB4.kp0 hk2) rfl
  have hR5 : Row w2 b5 0 (dc y) := Row.all hB5 rfl
  have hhx : ¬ t.height x < 0 := by rw [Tr.height, Tr.has_some hx]; simp only; omega
  have hhy : ¬ t.height y < 0 := by rw [Tr.height, Tr.has_some hy]; simp only; omega
  repeat (first|apply CG.seq|apply CG.region|apply SG.nil|apply NG.next|apply CG.skip|apply CG.block|apply CG.ret|apply CG.exit|apply CG.scope|apply NG.ret_then|apply NG.ret_block|apply NG.ret_scope|apply NG.exit_then|refine NG.exit_block rfl ?_|refine NG.exit_other rfl ?_|apply NG.exit_scope|apply NG.normal_block|apply NG.normal_scope|refine SG.val rfl rfl rfl rfl (by first|((first|apply qmv|apply qas|apply qlc|apply qla|apply qfa|apply qnc|apply qic|apply qix|apply qpk|apply qls|apply qei|apply qni|apply qed|apply qnd|apply qad|apply qln|apply qle|apply qgt|apply qge|apply qlk|apply qlv|apply qxt|apply qsb|apply qnt|apply qep|apply qnp|apply qeb|apply qnb|apply qcv|apply qlm|apply qfr|apply qto|apply qmx|apply qx0|apply qx1)<;>(first|exact rfl|exact Ar.mk (by omega)|assumption|exact dct (by assumption)|exact dcf (by assumption)|exact dct (by omega)|exact dcf (by omega)|exact List.not_mem_nil|exact dc_length _|exact nc_length _|exact nm1 (by omega)|exact nm2 (by omega) (by omega)|exact dct rfl|exact dct (by decide)|exact dcf (by decide)|exact (Int.toNat_of_nonneg (by omega)).symm|exact dcu|exact lk1 (by assumption)|exact lk0 (by assumption)))|fail) ?_)
  refine SG.ret rfl rfl rfl (by repeat' (first | exact True.intro | exact rho_of rfl | refine And.intro ?_ ?_)) (height_spec hT2 x) (fun w3 hk3 => ?_)
  have hk03 := hk02.trans hk3
  have hT3 := hT.kp0 hk03
  have hR4 := hR4.kp0 hk3
  have hR5 := hR5.kp0 hk3
  repeat (first|apply CG.seq|apply CG.region|apply SG.nil|apply NG.next|apply CG.skip|apply CG.block|apply CG.ret|apply CG.exit|apply CG.scope|apply NG.ret_then|apply NG.ret_block|apply NG.ret_scope|apply NG.exit_then|refine NG.exit_block rfl ?_|refine NG.exit_other rfl ?_|apply NG.exit_scope|apply NG.normal_block|apply NG.normal_scope|refine SG.val rfl rfl rfl rfl (by first|((first|apply qmv|apply qas|apply qlc|apply qla|apply qfa|apply qnc|apply qic|apply qix|apply qpk|apply qls|apply qei|apply qni|apply qed|apply qnd|apply qad|apply qln|apply qle|apply qgt|apply qge|apply qlk|apply qlv|apply qxt|apply qsb|apply qnt|apply qep|apply qnp|apply qeb|apply qnb|apply qcv|apply qlm|apply qfr|apply qto|apply qmx|apply qx0|apply qx1)<;>(first|exact rfl|exact Ar.mk (by omega)|assumption|exact dct (by assumption)|exact dcf (by assumption)|exact dct (by omega)|exact dcf (by omega)|exact List.not_mem_nil|exact dc_length _|exact nc_length _|exact nm1 (by omega)|exact nm2 (by omega) (by omega)|exact dct rfl|exact dct (by decide)|exact dcf (by decide)|exact (Int.toNat_of_nonneg (by omega)).symm|exact dcu|exact lk1 (by assumption)|exact lk0 (by assumption)))|fail) ?_)
  refine SG.ret rfl rfl rfl (by repeat' (first | exact True.intro | exact rho_of rfl | refine And.intro ?_ ?_)) (height_spec hT3 y) (fun w4 hk4 => ?_)
  have hk04 := hk03.trans hk4
  have hT4 := hT.kp0 hk04
  have hR4 := hR4.kp0 hk4
  have hR5 := hR5.kp0 hk4
  repeat (first|apply CG.seq|apply CG.region|apply SG.nil|apply NG.next|apply CG.skip|apply CG.block|apply CG.ret|apply CG.exit|apply CG.scope|apply NG.ret_then|apply NG.ret_block|apply NG.ret_scope|apply NG.exit_then|refine NG.exit_block rfl ?_|refine NG.exit_other rfl ?_|apply NG.exit_scope|apply NG.normal_block|apply NG.normal_scope|refine SG.val rfl rfl rfl rfl (by first|((first|apply qmv|apply qas|apply qlc|apply qla|apply qfa|apply qnc|apply qic|apply qix|apply qpk|apply qls|apply qei|apply qni|apply qed|apply qnd|apply qad|apply qln|apply qle|apply qgt|apply qge|apply qlk|apply qlv|apply qxt|apply qsb|apply qnt|apply qep|apply qnp|apply qeb|apply qnb|apply qcv|apply qlm|apply qfr|apply qto|apply qmx|apply qx0|apply qx1)<;>(first|exact rfl|exact Ar.mk (by omega)|assumption|exact dct (by assumption)|exact dcf (by assumption)|exact dct (by omega)|exact dcf (by omega)|exact List.not_mem_nil|exact dc_length _|exact nc_length _|exact nm1 (by omega)|exact nm2 (by omega) (by omega)|exact dct rfl|exact dct (by decide)|exact dcf (by decide)|exact (Int.toNat_of_nonneg (by omega)).symm|exact dcu|exact lk1 (by assumption)|exact lk0 (by assumption)))|fail) ?_)
  refine CG.cond_f rfl (by exact rho_of rfl) rfl ?_
  repeat (first|apply CG.seq|apply CG.region|apply SG.nil|apply NG.next|apply CG.skip|apply CG.block|apply CG.ret|apply CG.exit|apply CG.scope|apply NG.ret_then|apply NG.ret_block|apply NG.ret_scope|apply NG.exit_then|refine NG.exit_block rfl ?_|refine NG.exit_other rfl ?_|apply NG.exit_scope|apply NG.normal_block|apply NG.normal_scope|refine SG.val rfl rfl rfl rfl (by first|((first|apply qmv|apply qas|apply qlc|apply qla|apply qfa|apply qnc|apply qic|apply qix|apply qpk|apply qls|apply qei|apply qni|apply qed|apply qnd|apply qad|apply qln|apply qle|apply qgt|apply qge|apply qlk|apply qlv|apply qxt|apply qsb|apply qnt|apply qep|apply qnp|apply qeb|apply qnb|apply qcv|apply qlm|apply qfr|apply qto|apply qmx|apply qx0|apply qx1)<;>(first|exact rfl|exact Ar.mk (by omega)|assumption|exact dct (by assumption)|exact dcf (by assumption)|exact dct (by omega)|exact dcf (by omega)|exact List.not_mem_nil|exact dc_length _|exact nc_length _|exact nm1 (by omega)|exact nm2 (by omega) (by omega)|exact dct rfl|exact dct (by decide)|exact dcf (by decide)|exact (Int.toNat_of_nonneg (by omega)).symm|exact dcu|exact lk1 (by assumption)|exact lk0 (by assumption)))|fail) ?_)
  obtain ⟨m, hm1, hm2, hm3⟩ := part_anc wf hx hy
  have hbx := wf.bound hx
  have hund : t.und x y = m := by unfold Tr.und; omega
  refine CG.draw0 mixed [0, 1, 2, 3, 4, 5, 6, 7, 8] [6] (by kernel_rfl) ?_
  repeat (refine Der.val rfl rfl rfl (by first|((first|apply qmv|apply qas|apply qlc|apply qla|apply qfa|apply qnc|apply qic|apply qix|apply qpk|apply qls|apply qei|apply qni|apply qed|apply qnd|apply qad|apply qln|apply qle|apply qgt|apply qge|apply qlk|apply qlv|apply qxt|apply qsb|apply qnt|apply qep|apply qnp|apply qeb|apply qnb|apply qcv|apply qlm|apply qfr|apply qto|apply qmx|apply qx0|apply qx1)<;>(first|exact rfl|exact Ar.mk (by omega)|assumption|exact dct (by assumption)|exact dcf (by assumption)|exact dct (by omega)|exact dcf (by omega)|exact List.not_mem_nil|exact dc_length _|exact nc_length _|exact nm1 (by omega)|exact nm2 (by omega) (by omega)|exact dct rfl|exact dct (by decide)|exact dcf (by decide)|exact (Int.toNat_of_nonneg (by omega)).symm|exact dcu|exact lk1 (by assumption)|exact lk0 (by assumption)))|fail) ?_)
  refine Der.call rfl rfl rfl (by repeat' (first | exact True.intro | exact rho_of rfl | refine And.intro ?_ ?_)) (fun w hk _ => part_spec (hT4.kp0 hk) wf hx hy) ?_
  refine Der.callG (X := Nat × Nat × List Value) (vs := [.pointer (some ⟨bt, 0, none⟩), dv x, dv (t.part x y)]) (fun q => .slice (some ⟨q.1, 0, none⟩) (m + 1) q.2.1) (fun q w' => w4.heap.size ≤ q.1 ∧ m + 1 ≤ q.2.1 ∧ Blk w' q.1 (.cells (flat (t.climb m x).reverse ++ q.2.2).toArray 29)) rfl rfl rfl rfl (by repeat' (first | exact True.intro | exact rho_of rfl | refine And.intro ?_ ?_)) (fun q w w' hk h => ⟨h.1, h.2.1, h.2.2.kp0 hk⟩) (fun _ _ _ h => h) (fun w hk _ => ?_) (fun q => ?_)
  · refine (above_spec (hT4.kp0 hk) x (t.part x y) m (by omega) hm2.symm (fun j hj e => ?_) (fun j hj => (wf.anc j hx (by omega)).1)).mono (fun e w' h => ?_)
    · have h1 := (wf.anc j hx (by omega)).2
      rw [e] at h1
      omega
    · obtain ⟨b, c, post, h1, h2, h3, h4, h5⟩ := h
      exact ⟨(b, c, post), h1, ⟨by have := hk.size; omega, h3, h4⟩, h5⟩
  obtain ⟨bq, cq, post⟩ := q
  simp only
  refine Der.val rfl rfl rfl (vals_from (j := 1) (by exact rho_of rfl) rfl (by omega)) ?_
  repeat (refine Der.val rfl rfl rfl (by first|((first|apply qmv|apply qas|apply qlc|apply qla|apply qfa|apply qnc|apply qic|apply qix|apply qpk|apply qls|apply qei|apply qni|apply qed|apply qnd|apply qad|apply qln|apply qle|apply qgt|apply qge|apply qlk|apply qlv|apply qxt|apply qsb|apply qnt|apply qep|apply qnp|apply qeb|apply qnb|apply qcv|apply qlm|apply qfr|apply qto|apply qmx|apply qx0|apply qx1)<;>(first|exact rfl|exact Ar.mk (by omega)|assumption|exact dct (by assumption)|exact dcf (by assumption)|exact dct (by omega)|exact dcf (by omega)|exact List.not_mem_nil|exact dc_length _|exact nc_length _|exact nm1 (by omega)|exact nm2 (by omega) (by omega)|exact dct rfl|exact dct (by decide)|exact dcf (by decide)|exact (Int.toNat_of_nonneg (by omega)).symm|exact dcu|exact lk1 (by assumption)|exact lk0 (by assumption)))|fail) ?_)
  refine Der.fin (fun w5 hk5 hF _ => ?_)
  obtain ⟨_, hq1, hq2, hq3⟩ := hF
  have hk05 := hk04.trans hk5
  have hul : t.undL x y = (t.climb m x).take m := by unfold Tr.undL; rw [hund]
  have hrl : ((t.climb m x).take m).reverse.length = m := by simp [Tr.climb_length]
  have hmm : m + 1 - 1 = m := by omega
  obtain ⟨off, pre, post', hoff, hpre, hblk⟩ : ∃ off pre post', (if cq = 1 then 0 else 0 + 1 * 8) = off ∧ pre.length = off ∧ Blk w5 bq (.cells (pre ++ (flat ((t.climb m x).take m).reverse ++ post')).toArray 29) := by
    by_cases hc : cq = 1
    · have hm0 : m = 0 := by omega
      subst hm0
      exact ⟨0, [], flat (t.climb 0 x).reverse ++ post, by simp [hc], rfl, hq3⟩
    · refine ⟨8, dc (t.anc m x), post, by simp [hc], dc_length _, ?_⟩
      rw [Tr.climb_take, List.reverse_append, flat_append] at hq3
      simpa [flat_single] using hq3
  rw [hoff, hmm]
  have hrev := reverse_spec (c := cq - 1) hblk (by omega)
  rw [hrl, hpre, List.reverse_reverse] at hrev
  repeat (first|apply CG.seq|apply CG.region|apply SG.nil|apply NG.next|apply CG.skip|apply CG.block|apply CG.ret|apply CG.exit|apply CG.scope|apply NG.ret_then|apply NG.ret_block|apply NG.ret_scope|apply NG.exit_then|refine NG.exit_block rfl ?_|refine NG.exit_other rfl ?_|apply NG.exit_scope|apply NG.normal_block|apply NG.normal_scope|refine SG.val rfl rfl rfl rfl (by first|((first|apply qmv|apply qas|apply qlc|apply qla|apply qfa|apply qnc|apply qic|apply qix|apply qpk|apply qls|apply qei|apply qni|apply qed|apply qnd|apply qad|apply qln|apply qle|apply qgt|apply qge|apply qlk|apply qlv|apply qxt|apply qsb|apply qnt|apply qep|apply qnp|apply qeb|apply qnb|apply qcv|apply qlm|apply qfr|apply qto|apply qmx|apply qx0|apply qx1)<;>(first|exact rfl|exact Ar.mk (by omega)|assumption|exact dct (by assumption)|exact dcf (by assumption)|exact dct (by omega)|exact dcf (by omega)|exact List.not_mem_nil|exact dc_length _|exact nc_length _|exact nm1 (by omega)|exact nm2 (by omega) (by omega)|exact dct rfl|exact dct (by decide)|exact dcf (by decide)|exact (Int.toNat_of_nonneg (by omega)).symm|exact dcu|exact lk1 (by assumption)|exact lk0 (by assumption)))|fail) ?_)
  refine SG.call rfl rfl rfl (by repeat' (first | exact True.intro | exact rho_of rfl | refine And.intro ?_ ?_)) (hrev.mono (fun e w6 h => ?_))
  obtain ⟨h1, h2, h3⟩ := h
  refine ⟨_, h1, ?_⟩
  repeat (first|apply CG.seq|apply CG.region|apply SG.nil|apply NG.next|apply CG.skip|apply CG.block|apply CG.ret|apply CG.exit|apply CG.scope|apply NG.ret_then|apply NG.ret_block|apply NG.ret_scope|apply NG.exit_then|refine NG.exit_block rfl ?_|refine NG.exit_other rfl ?_|apply NG.exit_scope|apply NG.normal_block|apply NG.normal_scope|refine SG.val rfl rfl rfl rfl (by first|((first|apply qmv|apply qas|apply qlc|apply qla|apply qfa|apply qnc|apply qic|apply qix|apply qpk|apply qls|apply qei|apply qni|apply qed|apply qnd|apply qad|apply qln|apply qle|apply qgt|apply qge|apply qlk|apply qlv|apply qxt|apply qsb|apply qnt|apply qep|apply qnp|apply qeb|apply qnb|apply qcv|apply qlm|apply qfr|apply qto|apply qmx|apply qx0|apply qx1)<;>(first|exact rfl|exact Ar.mk (by omega)|assumption|exact dct (by assumption)|exact dcf (by assumption)|exact dct (by omega)|exact dcf (by omega)|exact List.not_mem_nil|exact dc_length _|exact nc_length _|exact nm1 (by omega)|exact nm2 (by omega) (by omega)|exact dct rfl|exact dct (by decide)|exact dcf (by decide)|exact (Int.toNat_of_nonneg (by omega)).symm|exact dcu|exact lk1 (by assumption)|exact lk0 (by assumption)))|fail) ?_)
  refine ret1 (Or.inl rfl) Try.results15 (by first | exact ResV.tmp rfl | exact ResV.agg rfl rfl (by assumption) (by first | exact dc_length _ | exact nc_length _ | rfl) | exact ResV.cell rfl rfl (by assumption)) ?_
  rw [hund, hul]
  have := hk04.size
  exact ⟨bq, off, cq - 1, pre, post', rfl, by omega, h2, ⟨hpre, by omega⟩, hk05.trans_new h3 (by first | exact new1 (by omega) | exact new2 (by omega) (by omega))⟩
end Go.Proofs.Ytpnenekgldggbaa
