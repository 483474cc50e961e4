/-
  The fork's tree: how far two lines go together.
-/
import Derived.Test.YtpnenekgldggbaaFk
namespace Go.Proofs.Ytpnenekgldggbaa
set_option linter.unusedVariables false
attribute [local irreducible] CG NG SG Vals Der Row Blk MapIs

def Tr.nd (t : Tr) (x : Dg) : Nd := (alook t.nodes x).getD nd0
def Tr.has (t : Tr) (x : Dg) : Bool := (alook t.nodes x).isSome
def Tr.ht (t : Tr) (x : Dg) : Nat := (t.nd x).height
def Tr.par (t : Tr) (x : Dg) : Dg := (t.nd x).parent
def Tr.partF (t : Tr) : Nat → Dg → Dg → Dg
  | 0, a, _ => a
  | n + 1, a, b => if a = b then a else t.partF n (if t.ht b ≤ t.ht a then t.par a else a) (if t.ht a ≤ t.ht b then t.par b else b)
def Tr.part (t : Tr) (a b : Dg) : Dg := t.partF (t.ht a + t.ht b + 1) a b

/-- The tree is one. -/
structure Tr.WF (t : Tr) : Prop where
  first : t.has t.first = true
  h0 : t.ht t.first = 0
  tip : t.has t.tip = true
  up : ∀ x, t.has x = true → x ≠ t.first → t.has (t.par x) = true ∧ t.ht x = t.ht (t.par x) + 1
  top : ∀ x, t.has x = true → t.ht x ≤ t.ht t.tip
  small : t.nodes.length ≤ 4096
  low : t.ht t.tip < t.nodes.length

theorem Tr.has_some {t : Tr} {x : Dg} (h : t.has x = true) : alook t.nodes x = some (t.nd x) := by
  unfold Tr.has at h
  unfold Tr.nd
  cases hh : alook t.nodes x with
  | none => rw [hh] at h; cases h
  | some n => rfl
theorem Tr.WF.first_of {t : Tr} (wf : t.WF) {x : Dg} (hx : t.has x = true) (h : t.ht x = 0) : x = t.first := by
  by_cases e : x = t.first
  · exact e
  · have := (wf.up x hx e).2
    omega
theorem Tr.WF.bound {t : Tr} (wf : t.WF) {x : Dg} (hx : t.has x = true) : t.ht x < 4096 := by
  have h1 := wf.top x hx
  have h2 := wf.low
  have h3 := wf.small
  omega

/-- One round. -/
theorem Tr.WF.round {t : Tr} (wf : t.WF) {a b : Dg} (ha : t.has a = true) (hb : t.has b = true) (hne : a ≠ b) :
    t.has (if t.ht b ≤ t.ht a then t.par a else a) = true ∧ t.has (if t.ht a ≤ t.ht b then t.par b else b) = true ∧
    t.ht (if t.ht b ≤ t.ht a then t.par a else a) + t.ht (if t.ht a ≤ t.ht b then t.par b else b) < t.ht a + t.ht b ∧
    t.part (if t.ht b ≤ t.ht a then t.par a else a) (if t.ht a ≤ t.ht b then t.par b else b) = t.part a b := by
  have key : ∀ {a b : Dg}, t.has a = true → t.has b = true → a ≠ b → t.ht b ≤ t.ht a → t.has (t.par a) = true ∧ t.ht a = t.ht (t.par a) + 1 := by
    intro a b ha hb hne hle
    refine wf.up a ha (fun e => hne ?_)
    have h1 : t.ht a = 0 := by rw [e]; exact wf.h0
    have h2 := wf.first_of hb (by omega)
    rw [e, h2]
  have mono : ∀ (n m : Nat) (a b : Dg), t.has a = true → t.has b = true → t.ht a + t.ht b < n → t.ht a + t.ht b < m → t.partF n a b = t.partF m a b := by
    intro n
    induction n with
    | zero => intro m a b _ _ h; omega
    | succ n ih =>
      intro m a b ha hb h1 h2
      cases m with
      | zero => omega
      | succ m =>
        simp only [Tr.partF]
        by_cases e : a = b
        · simp [e]
        · rw [if_neg e, if_neg e]
          by_cases h3 : t.ht b ≤ t.ht a <;> by_cases h4 : t.ht a ≤ t.ht b
          · have k1 := key ha hb e h3
            have k2 := key hb ha (fun e1 => e e1.symm) h4
            simp only [h3, h4, if_true]
            exact ih m _ _ k1.1 k2.1 (by omega) (by omega)
          · have k1 := key ha hb e h3
            simp only [h3, h4, if_true, if_false]
            exact ih m _ _ k1.1 hb (by omega) (by omega)
          · have k2 := key hb ha (fun e1 => e e1.symm) h4
            simp only [h3, h4, if_true, if_false]
            exact ih m _ _ ha k2.1 (by omega) (by omega)
          · omega
  by_cases h3 : t.ht b ≤ t.ht a <;> by_cases h4 : t.ht a ≤ t.ht b
  · have k1 := key ha hb hne h3
    have k2 := key hb ha (fun e1 => hne e1.symm) h4
    simp only [h3, h4, if_true]
    refine ⟨k1.1, k2.1, by omega, ?_⟩
    conv => rhs; unfold Tr.part; rw [Tr.partF, if_neg hne, if_pos h3, if_pos h4]
    exact mono _ _ _ _ k1.1 k2.1 (by omega) (by omega)
  · have k1 := key ha hb hne h3
    simp only [h3, h4, if_true, if_false]
    refine ⟨k1.1, hb, by omega, ?_⟩
    conv => rhs; unfold Tr.part; rw [Tr.partF, if_neg hne, if_pos h3, if_neg h4]
    exact mono _ _ _ _ k1.1 hb (by omega) (by omega)
  · have k2 := key hb ha (fun e1 => hne e1.symm) h4
    simp only [h3, h4, if_true, if_false]
    refine ⟨ha, k2.1, by omega, ?_⟩
    conv => rhs; unfold Tr.part; rw [Tr.partF, if_neg hne, if_neg h3, if_pos h4]
    exact mono _ _ _ _ ha k2.1 (by omega) (by omega)
  · omega
theorem Tr.part_self (t : Tr) (a : Dg) : t.part a a = a := by simp [Tr.part, Tr.partF]

set_option maxHeartbeats 8000000 in
theorem part_spec {w : World} {bt bm : Nat} {t : Tr} (hT : TreeAt w bt bm t) (wf : t.WF) {a b : Dg} (ha : t.has a = true) (hb : t.has b = true) : Ret Try.prog 32 #[.pointer (some ⟨bt, 0, none⟩), dv a, dv b] w (dv (t.part a b)) := by
  refine enter3 Try.func32 rfl Try.ntmps32 rfl ?_
  repeat (first|apply CG.seq|apply CG.region|apply SG.nil|apply NG.next|apply CG.skip|apply CG.block|apply CG.ret|apply CG.exit|apply CG.scope|apply NG.ret_then|apply NG.ret_block|apply NG.ret_scope|apply NG.exit_then|refine NG.exit_block rfl ?_|refine NG.exit_other rfl ?_|apply NG.exit_scope|apply NG.normal_block|apply NG.normal_scope|refine SG.val rfl rfl rfl rfl (by first|((first|apply qmv|apply qas|apply qlc|apply qla|apply qfa|apply qnc|apply qic|apply qix|apply qpk|apply qls|apply qei|apply qni|apply qed|apply qnd|apply qad|apply qln|apply qle|apply qgt|apply qge|apply qlk|apply qlv|apply qxt|apply qsb|apply qnt|apply qep|apply qnp|apply qeb|apply qnb|apply qcv|apply qlm|apply qfr|apply qto|apply qmx)<;>(first|exact rfl|exact Ar.mk (by omega)|assumption|exact dct (by assumption)|exact dcf (by assumption)|exact dct (by omega)|exact dcf (by omega)|exact List.not_mem_nil|exact dc_length _|exact nc_length _|exact nm1 (by omega)|exact nm2 (by omega) (by omega)|exact dct rfl|exact dct (by decide)|exact dcf (by decide)|exact (Int.toNat_of_nonneg (by omega)).symm|exact dcu|exact lk1 (by assumption)|exact lk0 (by assumption)))|fail) ?_)
  refine SG.box rfl rfl rfl (by exact rho_of rfl) (fun b4 w1 hk1 hb4 hB4 => ?_)
  refine SG.box rfl rfl rfl (by exact rho_of rfl) (fun b5 w2 hk2 hb5 hB5 => ?_)
  refine SG.alloc rfl rfl rfl (fun b6 w3 hk3 hb6 hB6 => ?_)
  repeat (first|apply CG.seq|apply CG.region|apply SG.nil|apply NG.next|apply CG.skip|apply CG.block|apply CG.ret|apply CG.exit|apply CG.scope|apply NG.ret_then|apply NG.ret_block|apply NG.ret_scope|apply NG.exit_then|refine NG.exit_block rfl ?_|refine NG.exit_other rfl ?_|apply NG.exit_scope|apply NG.normal_block|apply NG.normal_scope|refine SG.val rfl rfl rfl rfl (by first|((first|apply qmv|apply qas|apply qlc|apply qla|apply qfa|apply qnc|apply qic|apply qix|apply qpk|apply qls|apply qei|apply qni|apply qed|apply qnd|apply qad|apply qln|apply qle|apply qgt|apply qge|apply qlk|apply qlv|apply qxt|apply qsb|apply qnt|apply qep|apply qnp|apply qeb|apply qnb|apply qcv|apply qlm|apply qfr|apply qto|apply qmx)<;>(first|exact rfl|exact Ar.mk (by omega)|assumption|exact dct (by assumption)|exact dcf (by assumption)|exact dct (by omega)|exact dcf (by omega)|exact List.not_mem_nil|exact dc_length _|exact nc_length _|exact nm1 (by omega)|exact nm2 (by omega) (by omega)|exact dct rfl|exact dct (by decide)|exact dcf (by decide)|exact (Int.toNat_of_nonneg (by omega)).symm|exact dcu|exact lk1 (by assumption)|exact lk0 (by assumption)))|fail) ?_)
  have e4 : b4 < w1.heap.size := hB4.lt
  have e5 : b5 < w2.heap.size := hB5.lt
  have eT : bt < w.heap.size := hT.blk.lt
  have eM : bm < w.heap.size := hT.map.lt
  have hk03 := (hk1.trans hk2).trans hk3
  refine CG.loop (X := Dg × Dg) (fun _ => [(0, .pointer (some ⟨bt, 0, none⟩)), (4, .pointer (some ⟨b4, 0, none⟩)), (5, .pointer (some ⟨b5, 0, none⟩)), (6, .pointer (some ⟨b6, 0, none⟩))])
    (fun x w' => Kp [] w w' ∧ TreeAt w' bt bm t ∧ Blk w' b4 (.cells (dc x.1).toArray 29) ∧ Blk w' b5 (.cells (dc x.2).toArray 29) ∧ (∃ z : Dg, Blk w' b6 (.cells (dc z).toArray 29)) ∧ t.has x.1 = true ∧ t.has x.2 = true ∧ t.part x.1 x.2 = t.part a b)
    (fun x => t.ht x.1 + t.ht x.2) (a, b) ⟨hk03, hT.kp0 hk03, (hB4.kp0 hk2).kp0 hk3, hB5.kp0 hk3, ⟨⟨[0, 0, 0, 0, 0, 0, 0, 0], rfl⟩, hB6⟩, ha, hb, rfl⟩ (by (repeat' (first | exact True.intro | exact rfl | refine And.intro ?_ ?_))) ?_
  rintro ⟨a', b'⟩ w4 ⟨hk, hT4, hB4, hB5, ⟨z6, hB6⟩, ha', hb', hp⟩
  simp only at hB4 hB5 ha' hb' hp
  have hR4 : Row w4 b4 0 (dc a') := Row.all hB4 rfl
  have hR5 : Row w4 b5 0 (dc b') := Row.all hB5 rfl
  by_cases hab : a' = b'
  · repeat (first|apply CG.seq|apply CG.region|apply SG.nil|apply NG.next|apply CG.skip|apply CG.block|apply CG.ret|apply CG.exit|apply CG.scope|apply NG.ret_then|apply NG.ret_block|apply NG.ret_scope|apply NG.exit_then|refine NG.exit_block rfl ?_|refine NG.exit_other rfl ?_|apply NG.exit_scope|apply NG.normal_block|apply NG.normal_scope|refine SG.val rfl rfl rfl rfl (by first|((first|apply qmv|apply qas|apply qlc|apply qla|apply qfa|apply qnc|apply qic|apply qix|apply qpk|apply qls|apply qei|apply qni|apply qed|apply qnd|apply qad|apply qln|apply qle|apply qgt|apply qge|apply qlk|apply qlv|apply qxt|apply qsb|apply qnt|apply qep|apply qnp|apply qeb|apply qnb|apply qcv|apply qlm|apply qfr|apply qto|apply qmx)<;>(first|exact rfl|exact Ar.mk (by omega)|assumption|exact dct (by assumption)|exact dcf (by assumption)|exact dct (by omega)|exact dcf (by omega)|exact List.not_mem_nil|exact dc_length _|exact nc_length _|exact nm1 (by omega)|exact nm2 (by omega) (by omega)|exact dct rfl|exact dct (by decide)|exact dcf (by decide)|exact (Int.toNat_of_nonneg (by omega)).symm|exact dcu|exact lk1 (by assumption)|exact lk0 (by assumption)))|fail) ?_)
    refine CG.cond_f rfl (by exact rho_of rfl) rfl ?_
    repeat (first|apply CG.seq|apply CG.region|apply SG.nil|apply NG.next|apply CG.skip|apply CG.block|apply CG.ret|apply CG.exit|apply CG.scope|apply NG.ret_then|apply NG.ret_block|apply NG.ret_scope|apply NG.exit_then|refine NG.exit_block rfl ?_|refine NG.exit_other rfl ?_|apply NG.exit_scope|apply NG.normal_block|apply NG.normal_scope|refine SG.val rfl rfl rfl rfl (by first|((first|apply qmv|apply qas|apply qlc|apply qla|apply qfa|apply qnc|apply qic|apply qix|apply qpk|apply qls|apply qei|apply qni|apply qed|apply qnd|apply qad|apply qln|apply qle|apply qgt|apply qge|apply qlk|apply qlv|apply qxt|apply qsb|apply qnt|apply qep|apply qnp|apply qeb|apply qnb|apply qcv|apply qlm|apply qfr|apply qto|apply qmx)<;>(first|exact rfl|exact Ar.mk (by omega)|assumption|exact dct (by assumption)|exact dcf (by assumption)|exact dct (by omega)|exact dcf (by omega)|exact List.not_mem_nil|exact dc_length _|exact nc_length _|exact nm1 (by omega)|exact nm2 (by omega) (by omega)|exact dct rfl|exact dct (by decide)|exact dcf (by decide)|exact (Int.toNat_of_nonneg (by omega)).symm|exact dcu|exact lk1 (by assumption)|exact lk0 (by assumption)))|fail) ?_)
    refine SG.setAll rfl rfl (by exact rho_of rfl) (by exact rho_of rfl) hB6 (by first | exact dc_length _ | exact nc_length _ | rfl) (by first | exact dc_length _ | exact nc_length _ | rfl) (by first | exact dc_one _ | exact nc_one _ | rfl) (fun w5 hk5 hB6' => ?_)
    have hR6 : Row w5 b6 0 (dc a') := Row.all hB6' rfl
    repeat (first|apply CG.seq|apply CG.region|apply SG.nil|apply NG.next|apply CG.skip|apply CG.block|apply CG.ret|apply CG.exit|apply CG.scope|apply NG.ret_then|apply NG.ret_block|apply NG.ret_scope|apply NG.exit_then|refine NG.exit_block rfl ?_|refine NG.exit_other rfl ?_|apply NG.exit_scope|apply NG.normal_block|apply NG.normal_scope|refine SG.val rfl rfl rfl rfl (by first|((first|apply qmv|apply qas|apply qlc|apply qla|apply qfa|apply qnc|apply qic|apply qix|apply qpk|apply qls|apply qei|apply qni|apply qed|apply qnd|apply qad|apply qln|apply qle|apply qgt|apply qge|apply qlk|apply qlv|apply qxt|apply qsb|apply qnt|apply qep|apply qnp|apply qeb|apply qnb|apply qcv|apply qlm|apply qfr|apply qto|apply qmx)<;>(first|exact rfl|exact Ar.mk (by omega)|assumption|exact dct (by assumption)|exact dcf (by assumption)|exact dct (by omega)|exact dcf (by omega)|exact List.not_mem_nil|exact dc_length _|exact nc_length _|exact nm1 (by omega)|exact nm2 (by omega) (by omega)|exact dct rfl|exact dct (by decide)|exact dcf (by decide)|exact (Int.toNat_of_nonneg (by omega)).symm|exact dcu|exact lk1 (by assumption)|exact lk0 (by assumption)))|fail) ?_)
    refine ret1 (Or.inl rfl) Try.results32 (by first | exact ResV.tmp rfl | exact ResV.agg rfl rfl (by assumption) (by first | exact dc_length _ | exact nc_length _ | rfl) | exact ResV.cell rfl rfl (by assumption)) ?_
    subst hab
    rw [Tr.part_self] at hp
    exact ⟨by rw [hp], hk.trans_new hk5 (by first | exact new1 (by omega) | exact new2 (by omega) (by omega))⟩
  · repeat (first|apply CG.seq|apply CG.region|apply SG.nil|apply NG.next|apply CG.skip|apply CG.block|apply CG.ret|apply CG.exit|apply CG.scope|apply NG.ret_then|apply NG.ret_block|apply NG.ret_scope|apply NG.exit_then|refine NG.exit_block rfl ?_|refine NG.exit_other rfl ?_|apply NG.exit_scope|apply NG.normal_block|apply NG.normal_scope|refine SG.val rfl rfl rfl rfl (by first|((first|apply qmv|apply qas|apply qlc|apply qla|apply qfa|apply qnc|apply qic|apply qix|apply qpk|apply qls|apply qei|apply qni|apply qed|apply qnd|apply qad|apply qln|apply qle|apply qgt|apply qge|apply qlk|apply qlv|apply qxt|apply qsb|apply qnt|apply qep|apply qnp|apply qeb|apply qnb|apply qcv|apply qlm|apply qfr|apply qto|apply qmx)<;>(first|exact rfl|exact Ar.mk (by omega)|assumption|exact dct (by assumption)|exact dcf (by assumption)|exact dct (by omega)|exact dcf (by omega)|exact List.not_mem_nil|exact dc_length _|exact nc_length _|exact nm1 (by omega)|exact nm2 (by omega) (by omega)|exact dct rfl|exact dct (by decide)|exact dcf (by decide)|exact (Int.toNat_of_nonneg (by omega)).symm|exact dcu|exact lk1 (by assumption)|exact lk0 (by assumption)))|fail) ?_)
    refine CG.cond_t rfl (by exact rho_of rfl) rfl ?_
    repeat (first|apply CG.seq|apply CG.region|apply SG.nil|apply NG.next|apply CG.skip|apply CG.block|apply CG.ret|apply CG.exit|apply CG.scope|apply NG.ret_then|apply NG.ret_block|apply NG.ret_scope|apply NG.exit_then|refine NG.exit_block rfl ?_|refine NG.exit_other rfl ?_|apply NG.exit_scope|apply NG.normal_block|apply NG.normal_scope|refine SG.val rfl rfl rfl rfl (by first|((first|apply qmv|apply qas|apply qlc|apply qla|apply qfa|apply qnc|apply qic|apply qix|apply qpk|apply qls|apply qei|apply qni|apply qed|apply qnd|apply qad|apply qln|apply qle|apply qgt|apply qge|apply qlk|apply qlv|apply qxt|apply qsb|apply qnt|apply qep|apply qnp|apply qeb|apply qnb|apply qcv|apply qlm|apply qfr|apply qto|apply qmx)<;>(first|exact rfl|exact Ar.mk (by omega)|assumption|exact dct (by assumption)|exact dcf (by assumption)|exact dct (by omega)|exact dcf (by omega)|exact List.not_mem_nil|exact dc_length _|exact nc_length _|exact nm1 (by omega)|exact nm2 (by omega) (by omega)|exact dct rfl|exact dct (by decide)|exact dcf (by decide)|exact (Int.toNat_of_nonneg (by omega)).symm|exact dcu|exact lk1 (by assumption)|exact lk0 (by assumption)))|fail) ?_)
    have hr17 := hT4.r17
    have hm := hT4.map
    have hra := Tr.has_some ha'
    have hrb := Tr.has_some hb'
    obtain ⟨n1, n2, n3, n4⟩ := wf.round ha' hb' hab
    refine CG.drawv mixed [0, 1, 2, 3, 4, 5, 6, 7, 8, 9, 10, 11] [(12, 14, 7, .tmp 17), (13, 15, 8, .tmp 23)] (by kernel_rfl) (by kernel_rfl) ?_
    repeat (refine Der.val rfl rfl rfl (by first|((first|apply qmv|apply qas|apply qlc|apply qla|apply qfa|apply qnc|apply qic|apply qix|apply qpk|apply qls|apply qei|apply qni|apply qed|apply qnd|apply qad|apply qln|apply qle|apply qgt|apply qge|apply qlk|apply qlv|apply qxt|apply qsb|apply qnt|apply qep|apply qnp|apply qeb|apply qnb|apply qcv|apply qlm|apply qfr|apply qto|apply qmx)<;>(first|exact rfl|exact Ar.mk (by omega)|assumption|exact dct (by assumption)|exact dcf (by assumption)|exact dct (by omega)|exact dcf (by omega)|exact List.not_mem_nil|exact dc_length _|exact nc_length _|exact nm1 (by omega)|exact nm2 (by omega) (by omega)|exact dct rfl|exact dct (by decide)|exact dcf (by decide)|exact (Int.toNat_of_nonneg (by omega)).symm|exact dcu|exact lk1 (by assumption)|exact lk0 (by assumption)))|fail) ?_)
    refine Der.two (VrOk.of (by rfl) rfl rfl rfl (by exact rho_of rfl) (by first | exact dc_length _ | exact nc_length _ | rfl) (by rfl) (by first | exact dc_one _ | exact nc_one _ | rfl)) (VrOk.of (by rfl) rfl rfl rfl (by exact rho_of rfl) (by first | exact dc_length _ | exact nc_length _ | rfl) (by rfl) (by first | exact dc_one _ | exact nc_one _ | rfl)) rfl (fun b7 b8 w5 hk5 hb7 hb8 h78 hB7 hB8 => ?_)
    have e4' := hB4.lt
    have e5' := hB5.lt
    have hk05 := hk.trans hk5
    have hT5 := hT4.kp0 hk5
    have hB4 := hB4.kp0 hk5
    have hB5 := hB5.kp0 hk5
    have hB6 := hB6.kp0 hk5
    have hR7 : Row w5 b7 0 (nc (t.nd a')) := Row.all hB7 rfl
    have hR8 : Row w5 b8 0 (nc (t.nd b')) := Row.all hB8 rfl
    have hR7h := hR7.nch
    have hR8h := hR8.nch
    have hR7p := hR7.ncp
    have hR8p := hR8.ncp
    have f1 : (t.nd a').height = t.ht a' := rfl
    have f2 : (t.nd b').height = t.ht b' := rfl
    by_cases h3 : t.ht b' ≤ t.ht a'
    · have g3 : ((t.nd b').height : Int) ≤ ((t.nd a').height : Int) := by omega
      rw [if_pos h3] at n1 n3 n4
      repeat (first|apply CG.seq|apply CG.region|apply SG.nil|apply NG.next|apply CG.skip|apply CG.block|apply CG.ret|apply CG.exit|apply CG.scope|apply NG.ret_then|apply NG.ret_block|apply NG.ret_scope|apply NG.exit_then|refine NG.exit_block rfl ?_|refine NG.exit_other rfl ?_|apply NG.exit_scope|apply NG.normal_block|apply NG.normal_scope|refine SG.val rfl rfl rfl rfl (by first|((first|apply qmv|apply qas|apply qlc|apply qla|apply qfa|apply qnc|apply qic|apply qix|apply qpk|apply qls|apply qei|apply qni|apply qed|apply qnd|apply qad|apply qln|apply qle|apply qgt|apply qge|apply qlk|apply qlv|apply qxt|apply qsb|apply qnt|apply qep|apply qnp|apply qeb|apply qnb|apply qcv|apply qlm|apply qfr|apply qto|apply qmx)<;>(first|exact rfl|exact Ar.mk (by omega)|assumption|exact dct (by assumption)|exact dcf (by assumption)|exact dct (by omega)|exact dcf (by omega)|exact List.not_mem_nil|exact dc_length _|exact nc_length _|exact nm1 (by omega)|exact nm2 (by omega) (by omega)|exact dct rfl|exact dct (by decide)|exact dcf (by decide)|exact (Int.toNat_of_nonneg (by omega)).symm|exact dcu|exact lk1 (by assumption)|exact lk0 (by assumption)))|fail) ?_)
      refine CG.cond_t rfl (by exact rho_of rfl) rfl ?_
      repeat (first|apply CG.seq|apply CG.region|apply SG.nil|apply NG.next|apply CG.skip|apply CG.block|apply CG.ret|apply CG.exit|apply CG.scope|apply NG.ret_then|apply NG.ret_block|apply NG.ret_scope|apply NG.exit_then|refine NG.exit_block rfl ?_|refine NG.exit_other rfl ?_|apply NG.exit_scope|apply NG.normal_block|apply NG.normal_scope|refine SG.val rfl rfl rfl rfl (by first|((first|apply qmv|apply qas|apply qlc|apply qla|apply qfa|apply qnc|apply qic|apply qix|apply qpk|apply qls|apply qei|apply qni|apply qed|apply qnd|apply qad|apply qln|apply qle|apply qgt|apply qge|apply qlk|apply qlv|apply qxt|apply qsb|apply qnt|apply qep|apply qnp|apply qeb|apply qnb|apply qcv|apply qlm|apply qfr|apply qto|apply qmx)<;>(first|exact rfl|exact Ar.mk (by omega)|assumption|exact dct (by assumption)|exact dcf (by assumption)|exact dct (by omega)|exact dcf (by omega)|exact List.not_mem_nil|exact dc_length _|exact nc_length _|exact nm1 (by omega)|exact nm2 (by omega) (by omega)|exact dct rfl|exact dct (by decide)|exact dcf (by decide)|exact (Int.toNat_of_nonneg (by omega)).symm|exact dcu|exact lk1 (by assumption)|exact lk0 (by assumption)))|fail) ?_)
      refine SG.setAll rfl rfl (by exact rho_of rfl) (by exact rho_of rfl) hB4 (by first | exact dc_length _ | exact nc_length _ | rfl) (by first | exact dc_length _ | exact nc_length _ | rfl) (by first | exact dc_one _ | exact nc_one _ | rfl) (fun w6 hk6 hB4 => ?_)
      have hk06 := hk05.trans_new hk6 (by first | exact new1 (by omega) | exact new2 (by omega) (by omega))
      have hT6 := hT5.kp hk6 (by first | exact List.not_mem_nil | exact nm1 (by omega) | exact nm2 (by omega) (by omega) | exact nm3 (by omega) (by omega) (by omega)) (by first | exact List.not_mem_nil | exact nm1 (by omega) | exact nm2 (by omega) (by omega) | exact nm3 (by omega) (by omega) (by omega))
      have hB5 := hB5.kp hk6 (by first | exact List.not_mem_nil | exact nm1 (by omega) | exact nm2 (by omega) (by omega) | exact nm3 (by omega) (by omega) (by omega))
      have hB6 := hB6.kp hk6 (by first | exact List.not_mem_nil | exact nm1 (by omega) | exact nm2 (by omega) (by omega) | exact nm3 (by omega) (by omega) (by omega))
      have hR7h := hR7h.kp hk6 (by first | exact List.not_mem_nil | exact nm1 (by omega) | exact nm2 (by omega) (by omega) | exact nm3 (by omega) (by omega) (by omega))
      have hR8h := hR8h.kp hk6 (by first | exact List.not_mem_nil | exact nm1 (by omega) | exact nm2 (by omega) (by omega) | exact nm3 (by omega) (by omega) (by omega))
      have hR8p := hR8p.kp hk6 (by first | exact List.not_mem_nil | exact nm1 (by omega) | exact nm2 (by omega) (by omega) | exact nm3 (by omega) (by omega) (by omega))
      by_cases h4 : t.ht a' ≤ t.ht b'
      · have g4 : ((t.nd a').height : Int) ≤ ((t.nd b').height : Int) := by omega
        rw [if_pos h4] at n2 n3 n4
        repeat (first|apply CG.seq|apply CG.region|apply SG.nil|apply NG.next|apply CG.skip|apply CG.block|apply CG.ret|apply CG.exit|apply CG.scope|apply NG.ret_then|apply NG.ret_block|apply NG.ret_scope|apply NG.exit_then|refine NG.exit_block rfl ?_|refine NG.exit_other rfl ?_|apply NG.exit_scope|apply NG.normal_block|apply NG.normal_scope|refine SG.val rfl rfl rfl rfl (by first|((first|apply qmv|apply qas|apply qlc|apply qla|apply qfa|apply qnc|apply qic|apply qix|apply qpk|apply qls|apply qei|apply qni|apply qed|apply qnd|apply qad|apply qln|apply qle|apply qgt|apply qge|apply qlk|apply qlv|apply qxt|apply qsb|apply qnt|apply qep|apply qnp|apply qeb|apply qnb|apply qcv|apply qlm|apply qfr|apply qto|apply qmx)<;>(first|exact rfl|exact Ar.mk (by omega)|assumption|exact dct (by assumption)|exact dcf (by assumption)|exact dct (by omega)|exact dcf (by omega)|exact List.not_mem_nil|exact dc_length _|exact nc_length _|exact nm1 (by omega)|exact nm2 (by omega) (by omega)|exact dct rfl|exact dct (by decide)|exact dcf (by decide)|exact (Int.toNat_of_nonneg (by omega)).symm|exact dcu|exact lk1 (by assumption)|exact lk0 (by assumption)))|fail) ?_)
        refine CG.cond_t rfl (by exact rho_of rfl) rfl ?_
        repeat (first|apply CG.seq|apply CG.region|apply SG.nil|apply NG.next|apply CG.skip|apply CG.block|apply CG.ret|apply CG.exit|apply CG.scope|apply NG.ret_then|apply NG.ret_block|apply NG.ret_scope|apply NG.exit_then|refine NG.exit_block rfl ?_|refine NG.exit_other rfl ?_|apply NG.exit_scope|apply NG.normal_block|apply NG.normal_scope|refine SG.val rfl rfl rfl rfl (by first|((first|apply qmv|apply qas|apply qlc|apply qla|apply qfa|apply qnc|apply qic|apply qix|apply qpk|apply qls|apply qei|apply qni|apply qed|apply qnd|apply qad|apply qln|apply qle|apply qgt|apply qge|apply qlk|apply qlv|apply qxt|apply qsb|apply qnt|apply qep|apply qnp|apply qeb|apply qnb|apply qcv|apply qlm|apply qfr|apply qto|apply qmx)<;>(first|exact rfl|exact Ar.mk (by omega)|assumption|exact dct (by assumption)|exact dcf (by assumption)|exact dct (by omega)|exact dcf (by omega)|exact List.not_mem_nil|exact dc_length _|exact nc_length _|exact nm1 (by omega)|exact nm2 (by omega) (by omega)|exact dct rfl|exact dct (by decide)|exact dcf (by decide)|exact (Int.toNat_of_nonneg (by omega)).symm|exact dcu|exact lk1 (by assumption)|exact lk0 (by assumption)))|fail) ?_)
        refine SG.setAll rfl rfl (by exact rho_of rfl) (by exact rho_of rfl) hB5 (by first | exact dc_length _ | exact nc_length _ | rfl) (by first | exact dc_length _ | exact nc_length _ | rfl) (by first | exact dc_one _ | exact nc_one _ | rfl) (fun w7 hk7 hB5 => ?_)
        repeat (first|apply CG.seq|apply CG.region|apply SG.nil|apply NG.next|apply CG.skip|apply CG.block|apply CG.ret|apply CG.exit|apply CG.scope|apply NG.ret_then|apply NG.ret_block|apply NG.ret_scope|apply NG.exit_then|refine NG.exit_block rfl ?_|refine NG.exit_other rfl ?_|apply NG.exit_scope|apply NG.normal_block|apply NG.normal_scope|refine SG.val rfl rfl rfl rfl (by first|((first|apply qmv|apply qas|apply qlc|apply qla|apply qfa|apply qnc|apply qic|apply qix|apply qpk|apply qls|apply qei|apply qni|apply qed|apply qnd|apply qad|apply qln|apply qle|apply qgt|apply qge|apply qlk|apply qlv|apply qxt|apply qsb|apply qnt|apply qep|apply qnp|apply qeb|apply qnb|apply qcv|apply qlm|apply qfr|apply qto|apply qmx)<;>(first|exact rfl|exact Ar.mk (by omega)|assumption|exact dct (by assumption)|exact dcf (by assumption)|exact dct (by omega)|exact dcf (by omega)|exact List.not_mem_nil|exact dc_length _|exact nc_length _|exact nm1 (by omega)|exact nm2 (by omega) (by omega)|exact dct rfl|exact dct (by decide)|exact dcf (by decide)|exact (Int.toNat_of_nonneg (by omega)).symm|exact dcu|exact lk1 (by assumption)|exact lk0 (by assumption)))|fail) ?_)
        refine NG.round (t.par a', t.par b') (by (repeat' (first | exact True.intro | exact rfl | refine And.intro ?_ ?_))) ⟨hk06.trans_new hk7 (by first | exact new1 (by omega) | exact new2 (by omega) (by omega)), hT6.kp hk7 (by first | exact List.not_mem_nil | exact nm1 (by omega) | exact nm2 (by omega) (by omega) | exact nm3 (by omega) (by omega) (by omega)) (by first | exact List.not_mem_nil | exact nm1 (by omega) | exact nm2 (by omega) (by omega) | exact nm3 (by omega) (by omega) (by omega)), hB4.kp hk7 (by first | exact List.not_mem_nil | exact nm1 (by omega) | exact nm2 (by omega) (by omega) | exact nm3 (by omega) (by omega) (by omega)), hB5, ⟨z6, hB6.kp hk7 (by first | exact List.not_mem_nil | exact nm1 (by omega) | exact nm2 (by omega) (by omega) | exact nm3 (by omega) (by omega) (by omega))⟩, n1, n2, n4.trans hp⟩ n3
      · have g4 : ¬ ((t.nd a').height : Int) ≤ ((t.nd b').height : Int) := by omega
        rw [if_neg h4] at n2 n3 n4
        repeat (first|apply CG.seq|apply CG.region|apply SG.nil|apply NG.next|apply CG.skip|apply CG.block|apply CG.ret|apply CG.exit|apply CG.scope|apply NG.ret_then|apply NG.ret_block|apply NG.ret_scope|apply NG.exit_then|refine NG.exit_block rfl ?_|refine NG.exit_other rfl ?_|apply NG.exit_scope|apply NG.normal_block|apply NG.normal_scope|refine SG.val rfl rfl rfl rfl (by first|((first|apply qmv|apply qas|apply qlc|apply qla|apply qfa|apply qnc|apply qic|apply qix|apply qpk|apply qls|apply qei|apply qni|apply qed|apply qnd|apply qad|apply qln|apply qle|apply qgt|apply qge|apply qlk|apply qlv|apply qxt|apply qsb|apply qnt|apply qep|apply qnp|apply qeb|apply qnb|apply qcv|apply qlm|apply qfr|apply qto|apply qmx)<;>(first|exact rfl|exact Ar.mk (by omega)|assumption|exact dct (by assumption)|exact dcf (by assumption)|exact dct (by omega)|exact dcf (by omega)|exact List.not_mem_nil|exact dc_length _|exact nc_length _|exact nm1 (by omega)|exact nm2 (by omega) (by omega)|exact dct rfl|exact dct (by decide)|exact dcf (by decide)|exact (Int.toNat_of_nonneg (by omega)).symm|exact dcu|exact lk1 (by assumption)|exact lk0 (by assumption)))|fail) ?_)
        refine CG.cond_f rfl (by exact rho_of rfl) rfl ?_
        repeat (first|apply CG.seq|apply CG.region|apply SG.nil|apply NG.next|apply CG.skip|apply CG.block|apply CG.ret|apply CG.exit|apply CG.scope|apply NG.ret_then|apply NG.ret_block|apply NG.ret_scope|apply NG.exit_then|refine NG.exit_block rfl ?_|refine NG.exit_other rfl ?_|apply NG.exit_scope|apply NG.normal_block|apply NG.normal_scope|refine SG.val rfl rfl rfl rfl (by first|((first|apply qmv|apply qas|apply qlc|apply qla|apply qfa|apply qnc|apply qic|apply qix|apply qpk|apply qls|apply qei|apply qni|apply qed|apply qnd|apply qad|apply qln|apply qle|apply qgt|apply qge|apply qlk|apply qlv|apply qxt|apply qsb|apply qnt|apply qep|apply qnp|apply qeb|apply qnb|apply qcv|apply qlm|apply qfr|apply qto|apply qmx)<;>(first|exact rfl|exact Ar.mk (by omega)|assumption|exact dct (by assumption)|exact dcf (by assumption)|exact dct (by omega)|exact dcf (by omega)|exact List.not_mem_nil|exact dc_length _|exact nc_length _|exact nm1 (by omega)|exact nm2 (by omega) (by omega)|exact dct rfl|exact dct (by decide)|exact dcf (by decide)|exact (Int.toNat_of_nonneg (by omega)).symm|exact dcu|exact lk1 (by assumption)|exact lk0 (by assumption)))|fail) ?_)
        refine NG.round (t.par a', b') (by (repeat' (first | exact True.intro | exact rfl | refine And.intro ?_ ?_))) ⟨hk06, hT6, hB4, hB5, ⟨z6, hB6⟩, n1, n2, n4.trans hp⟩ n3
    · have g3 : ¬ ((t.nd b').height : Int) ≤ ((t.nd a').height : Int) := by omega
      have h4 : t.ht a' ≤ t.ht b' := by omega
      have g4 : ((t.nd a').height : Int) ≤ ((t.nd b').height : Int) := by omega
      rw [if_neg h3] at n1 n3 n4
      rw [if_pos h4] at n2 n3 n4
      repeat (first|apply CG.seq|apply CG.region|apply SG.nil|apply NG.next|apply CG.skip|apply CG.block|apply CG.ret|apply CG.exit|apply CG.scope|apply NG.ret_then|apply NG.ret_block|apply NG.ret_scope|apply NG.exit_then|refine NG.exit_block rfl ?_|refine NG.exit_other rfl ?_|apply NG.exit_scope|apply NG.normal_block|apply NG.normal_scope|refine SG.val rfl rfl rfl rfl (by first|((first|apply qmv|apply qas|apply qlc|apply qla|apply qfa|apply qnc|apply qic|apply qix|apply qpk|apply qls|apply qei|apply qni|apply qed|apply qnd|apply qad|apply qln|apply qle|apply qgt|apply qge|apply qlk|apply qlv|apply qxt|apply qsb|apply qnt|apply qep|apply qnp|apply qeb|apply qnb|apply qcv|apply qlm|apply qfr|apply qto|apply qmx)<;>(first|exact rfl|exact Ar.mk (by omega)|assumption|exact dct (by assumption)|exact dcf (by assumption)|exact dct (by omega)|exact dcf (by omega)|exact List.not_mem_nil|exact dc_length _|exact nc_length _|exact nm1 (by omega)|exact nm2 (by omega) (by omega)|exact dct rfl|exact dct (by decide)|exact dcf (by decide)|exact (Int.toNat_of_nonneg (by omega)).symm|exact dcu|exact lk1 (by assumption)|exact lk0 (by assumption)))|fail) ?_)
      refine CG.cond_f rfl (by exact rho_of rfl) rfl ?_
      repeat (first|apply CG.seq|apply CG.region|apply SG.nil|apply NG.next|apply CG.skip|apply CG.block|apply CG.ret|apply CG.exit|apply CG.scope|apply NG.ret_then|apply NG.ret_block|apply NG.ret_scope|apply NG.exit_then|refine NG.exit_block rfl ?_|refine NG.exit_other rfl ?_|apply NG.exit_scope|apply NG.normal_block|apply NG.normal_scope|refine SG.val rfl rfl rfl rfl (by first|((first|apply qmv|apply qas|apply qlc|apply qla|apply qfa|apply qnc|apply qic|apply qix|apply qpk|apply qls|apply qei|apply qni|apply qed|apply qnd|apply qad|apply qln|apply qle|apply qgt|apply qge|apply qlk|apply qlv|apply qxt|apply qsb|apply qnt|apply qep|apply qnp|apply qeb|apply qnb|apply qcv|apply qlm|apply qfr|apply qto|apply qmx)<;>(first|exact rfl|exact Ar.mk (by omega)|assumption|exact dct (by assumption)|exact dcf (by assumption)|exact dct (by omega)|exact dcf (by omega)|exact List.not_mem_nil|exact dc_length _|exact nc_length _|exact nm1 (by omega)|exact nm2 (by omega) (by omega)|exact dct rfl|exact dct (by decide)|exact dcf (by decide)|exact (Int.toNat_of_nonneg (by omega)).symm|exact dcu|exact lk1 (by assumption)|exact lk0 (by assumption)))|fail) ?_)
      refine CG.cond_t rfl (by exact rho_of rfl) rfl ?_
      repeat (first|apply CG.seq|apply CG.region|apply SG.nil|apply NG.next|apply CG.skip|apply CG.block|apply CG.ret|apply CG.exit|apply CG.scope|apply NG.ret_then|apply NG.ret_block|apply NG.ret_scope|apply NG.exit_then|refine NG.exit_block rfl ?_|refine NG.exit_other rfl ?_|apply NG.exit_scope|apply NG.normal_block|apply NG.normal_scope|refine SG.val rfl rfl rfl rfl (by first|((first|apply qmv|apply qas|apply qlc|apply qla|apply qfa|apply qnc|apply qic|apply qix|apply qpk|apply qls|apply qei|apply qni|apply qed|apply qnd|apply qad|apply qln|apply qle|apply qgt|apply qge|apply qlk|apply qlv|apply qxt|apply qsb|apply qnt|apply qep|apply qnp|apply qeb|apply qnb|apply qcv|apply qlm|apply qfr|apply qto|apply qmx)<;>(first|exact rfl|exact Ar.mk (by omega)|assumption|exact dct (by assumption)|exact dcf (by assumption)|exact dct (by omega)|exact dcf (by omega)|exact List.not_mem_nil|exact dc_length _|exact nc_length _|exact nm1 (by omega)|exact nm2 (by omega) (by omega)|exact dct rfl|exact dct (by decide)|exact dcf (by decide)|exact (Int.toNat_of_nonneg (by omega)).symm|exact dcu|exact lk1 (by assumption)|exact lk0 (by assumption)))|fail) ?_)
      refine SG.setAll rfl rfl (by exact rho_of rfl) (by exact rho_of rfl) hB5 (by first | exact dc_length _ | exact nc_length _ | rfl) (by first | exact dc_length _ | exact nc_length _ | rfl) (by first | exact dc_one _ | exact nc_one _ | rfl) (fun w7 hk7 hB5 => ?_)
      repeat (first|apply CG.seq|apply CG.region|apply SG.nil|apply NG.next|apply CG.skip|apply CG.block|apply CG.ret|apply CG.exit|apply CG.scope|apply NG.ret_then|apply NG.ret_block|apply NG.ret_scope|apply NG.exit_then|refine NG.exit_block rfl ?_|refine NG.exit_other rfl ?_|apply NG.exit_scope|apply NG.normal_block|apply NG.normal_scope|refine SG.val rfl rfl rfl rfl (by first|((first|apply qmv|apply qas|apply qlc|apply qla|apply qfa|apply qnc|apply qic|apply qix|apply qpk|apply qls|apply qei|apply qni|apply qed|apply qnd|apply qad|apply qln|apply qle|apply qgt|apply qge|apply qlk|apply qlv|apply qxt|apply qsb|apply qnt|apply qep|apply qnp|apply qeb|apply qnb|apply qcv|apply qlm|apply qfr|apply qto|apply qmx)<;>(first|exact rfl|exact Ar.mk (by omega)|assumption|exact dct (by assumption)|exact dcf (by assumption)|exact dct (by omega)|exact dcf (by omega)|exact List.not_mem_nil|exact dc_length _|exact nc_length _|exact nm1 (by omega)|exact nm2 (by omega) (by omega)|exact dct rfl|exact dct (by decide)|exact dcf (by decide)|exact (Int.toNat_of_nonneg (by omega)).symm|exact dcu|exact lk1 (by assumption)|exact lk0 (by assumption)))|fail) ?_)
      refine NG.round (a', t.par b') (by (repeat' (first | exact True.intro | exact rfl | refine And.intro ?_ ?_))) ⟨hk05.trans_new hk7 (by first | exact new1 (by omega) | exact new2 (by omega) (by omega)), hT5.kp hk7 (by first | exact List.not_mem_nil | exact nm1 (by omega) | exact nm2 (by omega) (by omega) | exact nm3 (by omega) (by omega) (by omega)) (by first | exact List.not_mem_nil | exact nm1 (by omega) | exact nm2 (by omega) (by omega) | exact nm3 (by omega) (by omega) (by omega)), hB4.kp hk7 (by first | exact List.not_mem_nil | exact nm1 (by omega) | exact nm2 (by omega) (by omega) | exact nm3 (by omega) (by omega) (by omega)), hB5, ⟨z6, hB6.kp hk7 (by first | exact List.not_mem_nil | exact nm1 (by omega) | exact nm2 (by omega) (by omega) | exact nm3 (by omega) (by omega) (by omega))⟩, n1, n2, n4.trans hp⟩ n3
end Go.Proofs.Ytpnenekgldggbaa
