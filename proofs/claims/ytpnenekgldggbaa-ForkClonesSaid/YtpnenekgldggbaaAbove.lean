/-
  The fork: the blocks from one up to another.
-/
import Derived.Test.YtpnenekgldggbaaRev
namespace Go.Proofs.Ytpnenekgldggbaa
set_option linter.unusedVariables false

theorem bs36' (w : World) (a0 a1 a2 a3 a4 a5 a6 a7 : UInt8) : (Instr.buildSlice 36 1 #[(0, .agg #[bv a0, bv a1, bv a2, bv a3, bv a4, bv a5, bv a6, bv a7])]).run Try.prog w = .ok (.slice (some ⟨w.heap.size, 0, none⟩) 1 1) { w with heap := w.heap.push (.cells #[bv a0, bv a1, bv a2, bv a3, bv a4, bv a5, bv a6, bv a7] 29) } := by kernel_rfl
theorem bs36 (x : Dg) (w : World) : (Instr.buildSlice 36 1 #[(0, dv x)]).run Try.prog w = .ok (.slice (some ⟨w.heap.size, 0, none⟩) 1 1) { w with heap := w.heap.push (.cells (dc x).toArray 29) } := by
  obtain ⟨l, hl⟩ := x
  match l, hl with
  | [a0, a1, a2, a3, a4, a5, a6, a7], _ => exact bs36' w a0 a1 a2 a3 a4 a5 a6 a7

/-- k steps up. -/
def Tr.anc (t : Tr) : Nat → Dg → Dg
  | 0, x => x
  | k + 1, x => t.anc k (t.par x)
def Tr.climb (t : Tr) : Nat → Dg → List Dg
  | 0, x => [x]
  | k + 1, x => x :: t.climb k (t.par x)
theorem Tr.climb_length (t : Tr) : ∀ (k : Nat) (x : Dg), (t.climb k x).length = k + 1
  | 0, _ => rfl
  | k + 1, x => by simp [Tr.climb, Tr.climb_length t k]
theorem Tr.anc_succ (t : Tr) : ∀ (k : Nat) (x : Dg), t.anc (k + 1) x = t.par (t.anc k x)
  | 0, _ => rfl
  | k + 1, x => by rw [Tr.anc, Tr.anc_succ t k]; rfl
theorem Tr.climb_succ (t : Tr) : ∀ (k : Nat) (x : Dg), t.climb (k + 1) x = t.climb k x ++ [t.anc (k + 1) x]
  | 0, _ => rfl
  | k + 1, x => by rw [Tr.climb, Tr.climb_succ t k]; rfl
theorem flat_append (a b : List Dg) : flat (a ++ b) = flat a ++ flat b := by simp [flat]
theorem flat_single (x : Dg) : flat [x] = dc x := by simp [flat]

theorem own_of_blk {w : World} {b base : Nat} {l : List Dg} (h : Blk w b (.cells (flat l).toArray 29)) (hb : base ≤ b) (hl : l.length ≤ 1000000) : w.ownsRow base 29 8 (.slice (some ⟨b, 0, none⟩) l.length l.length) l.length (flat l) := by
  refine ⟨flat_length l, Or.inr ⟨b, l.length, (flat l).toArray, rfl, hb, h, Nat.le_refl _, by simp only [maxLen]; omega, by simp [flat_length], ?_⟩⟩
  rw [← flat_length l]
  simp
theorem own_blk {w : World} {base n : Nat} {v : Value} {l : List Dg} (h : w.ownsRow base 29 8 v n (flat l)) (hn : 0 < n) : ∃ g cap post, v = .slice (some ⟨g, 0, none⟩) n cap ∧ base ≤ g ∧ n ≤ cap ∧ Blk w g (.cells (flat l ++ post).toArray 29) := by
  obtain ⟨h1, h2⟩ := h
  rcases h2 with ⟨_, rfl⟩ | ⟨g, cap, cur, rfl, hg, hh, hnc, hcm, hcs, ht⟩
  · omega
  · refine ⟨g, cap, cur.toList.drop (n * 8), rfl, hg, hnc, ?_⟩
    have : cur = (flat l ++ cur.toList.drop (n * 8)).toArray := by
      rw [← ht, List.take_append_drop]
    rw [← this]
    exact hh

attribute [local irreducible] CG NG SG Vals Der Row Blk MapIs
set_option maxHeartbeats 8000000 in
theorem above_spec {w : World} {bt bm : Nat} {t : Tr} (hT : TreeAt w bt bm t) (x y : Dg) (m : Nat) (hm : m ≤ 5000) (hy : t.anc m x = y) (hne : ∀ j, j < m → t.anc j x ≠ y) (hh : ∀ j, j < m → t.has (t.anc j x) = true) :
    Calls Try.prog 33 #[.pointer (some ⟨bt, 0, none⟩), dv x, dv y] w (fun e w' => ∃ b c post, e = .returned (.slice (some ⟨b, 0, none⟩) (m + 1) c) ∧ w.heap.size ≤ b ∧ m + 1 ≤ c ∧ Blk w' b (.cells (flat (t.climb m x).reverse ++ post).toArray 29) ∧ Kp [] w w') := by
  refine enter3 Try.func33 rfl Try.ntmps33 rfl ?_
  repeat (first|apply CG.seq|apply CG.region|apply SG.nil|apply NG.next|apply CG.skip|apply CG.block|apply CG.ret|apply CG.exit|apply CG.scope|apply NG.ret_then|apply NG.ret_block|apply NG.ret_scope|apply NG.exit_then|refine NG.exit_block rfl ?_|refine NG.exit_other rfl ?_|apply NG.exit_scope|apply NG.normal_block|apply NG.normal_scope|refine SG.val rfl rfl rfl rfl (by first|((first|apply qmv|apply qas|apply qlc|apply qla|apply qfa|apply qnc|apply qic|apply qix|apply qpk|apply qls|apply qei|apply qni|apply qed|apply qnd|apply qad|apply qln|apply qle|apply qgt|apply qge|apply qlk|apply qlv|apply qxt|apply qsb|apply qnt|apply qep|apply qnp|apply qeb|apply qnb|apply qcv|apply qlm|apply qfr|apply qto|apply qmx|apply qx0|apply qx1)<;>(first|exact rfl|exact Ar.mk (by omega)|assumption|exact dct (by assumption)|exact dcf (by assumption)|exact dct (by omega)|exact dcf (by omega)|exact List.not_mem_nil|exact dc_length _|exact nc_length _|exact nm1 (by omega)|exact nm2 (by omega) (by omega)|exact dct rfl|exact dct (by decide)|exact dcf (by decide)|exact (Int.toNat_of_nonneg (by omega)).symm|exact dcu|exact lk1 (by assumption)|exact lk0 (by assumption)))|fail) ?_)
  refine SG.box rfl rfl rfl (by exact rho_of rfl) (fun b4 w1 hk1 hb4 hB4 => ?_)
  refine SG.box rfl rfl rfl (by exact rho_of rfl) (fun b5 w2 hk2 hb5 hB5 => ?_)
  have e4 := hB4.lt
  have e5 := hB5.lt
  have eT := hT.blk.lt
  have eM := hT.map.lt
  have hk02 := hk1.trans hk2
  have hB4 := hB4.kp0 hk2
  have hR4 : Row w2 b4 0 (dc x) := Row.all hB4 rfl
  repeat (first|apply CG.seq|apply CG.region|apply SG.nil|apply NG.next|apply CG.skip|apply CG.block|apply CG.ret|apply CG.exit|apply CG.scope|apply NG.ret_then|apply NG.ret_block|apply NG.ret_scope|apply NG.exit_then|refine NG.exit_block rfl ?_|refine NG.exit_other rfl ?_|apply NG.exit_scope|apply NG.normal_block|apply NG.normal_scope|refine SG.val rfl rfl rfl rfl (by first|((first|apply qmv|apply qas|apply qlc|apply qla|apply qfa|apply qnc|apply qic|apply qix|apply qpk|apply qls|apply qei|apply qni|apply qed|apply qnd|apply qad|apply qln|apply qle|apply qgt|apply qge|apply qlk|apply qlv|apply qxt|apply qsb|apply qnt|apply qep|apply qnp|apply qeb|apply qnb|apply qcv|apply qlm|apply qfr|apply qto|apply qmx|apply qx0|apply qx1)<;>(first|exact rfl|exact Ar.mk (by omega)|assumption|exact dct (by assumption)|exact dcf (by assumption)|exact dct (by omega)|exact dcf (by omega)|exact List.not_mem_nil|exact dc_length _|exact nc_length _|exact nm1 (by omega)|exact nm2 (by omega) (by omega)|exact dct rfl|exact dct (by decide)|exact dcf (by decide)|exact (Int.toNat_of_nonneg (by omega)).symm|exact dcu|exact lk1 (by assumption)|exact lk0 (by assumption)))|fail) ?_)
  refine SG.buildSlice rfl rfl rfl rfl (bs36 x) (fun bs w3 hk3 hbs hBs => ?_)
  repeat (first|apply CG.seq|apply CG.region|apply SG.nil|apply NG.next|apply CG.skip|apply CG.block|apply CG.ret|apply CG.exit|apply CG.scope|apply NG.ret_then|apply NG.ret_block|apply NG.ret_scope|apply NG.exit_then|refine NG.exit_block rfl ?_|refine NG.exit_other rfl ?_|apply NG.exit_scope|apply NG.normal_block|apply NG.normal_scope|refine SG.val rfl rfl rfl rfl (by first|((first|apply qmv|apply qas|apply qlc|apply qla|apply qfa|apply qnc|apply qic|apply qix|apply qpk|apply qls|apply qei|apply qni|apply qed|apply qnd|apply qad|apply qln|apply qle|apply qgt|apply qge|apply qlk|apply qlv|apply qxt|apply qsb|apply qnt|apply qep|apply qnp|apply qeb|apply qnb|apply qcv|apply qlm|apply qfr|apply qto|apply qmx|apply qx0|apply qx1)<;>(first|exact rfl|exact Ar.mk (by omega)|assumption|exact dct (by assumption)|exact dcf (by assumption)|exact dct (by omega)|exact dcf (by omega)|exact List.not_mem_nil|exact dc_length _|exact nc_length _|exact nm1 (by omega)|exact nm2 (by omega) (by omega)|exact dct rfl|exact dct (by decide)|exact dcf (by decide)|exact (Int.toNat_of_nonneg (by omega)).symm|exact dcu|exact lk1 (by assumption)|exact lk0 (by assumption)))|fail) ?_)
  have hk03 := hk02.trans hk3
  refine CG.loop (X := Nat × Value) (fun q => [(0, .pointer (some ⟨bt, 0, none⟩)), (4, .pointer (some ⟨b4, 0, none⟩)), (5, .pointer (some ⟨b5, 0, none⟩)), (7, q.2)])
    (fun q w' => q.1 ≤ m ∧ Kp [] w w' ∧ w2.heap.size ≤ w'.heap.size ∧ TreeAt w' bt bm t ∧ Blk w' b4 (.cells (dc (t.anc q.1 x)).toArray 29) ∧ Blk w' b5 (.cells (dc y).toArray 29) ∧ w'.ownsRow w2.heap.size 29 8 q.2 (q.1 + 1) (flat (t.climb q.1 x)))
    (fun q => m - q.1) (0, .slice (some ⟨bs, 0, none⟩) 1 1) ⟨Nat.zero_le _, hk03, hk3.size, hT.kp0 hk03, hB4.kp0 hk3, hB5.kp0 hk3, ?_⟩ (by (repeat' (first | exact True.intro | exact rfl | refine And.intro ?_ ?_))) ?_
  · have h0 : flat [x] = dc x := flat_single x
    rw [← h0] at hBs
    exact own_of_blk (l := [x]) hBs hbs (by simp)
  rintro ⟨k, v⟩ w4 ⟨hkm, hk4, hsz, hT4, hB4, hB5, hown⟩
  simp only at hkm hB4 hown
  have hR4 : Row w4 b4 0 (dc (t.anc k x)) := Row.all hB4 rfl
  have hR5 : Row w4 b5 0 (dc y) := Row.all hB5 rfl
  by_cases hlt : k < m
  · have hab := hne k hlt
    have hak := hh k hlt
    repeat (first|apply CG.seq|apply CG.region|apply SG.nil|apply NG.next|apply CG.skip|apply CG.block|apply CG.ret|apply CG.exit|apply CG.scope|apply NG.ret_then|apply NG.ret_block|apply NG.ret_scope|apply NG.exit_then|refine NG.exit_block rfl ?_|refine NG.exit_other rfl ?_|apply NG.exit_scope|apply NG.normal_block|apply NG.normal_scope|refine SG.val rfl rfl rfl rfl (by first|((first|apply qmv|apply qas|apply qlc|apply qla|apply qfa|apply qnc|apply qic|apply qix|apply qpk|apply qls|apply qei|apply qni|apply qed|apply qnd|apply qad|apply qln|apply qle|apply qgt|apply qge|apply qlk|apply qlv|apply qxt|apply qsb|apply qnt|apply qep|apply qnp|apply qeb|apply qnb|apply qcv|apply qlm|apply qfr|apply qto|apply qmx|apply qx0|apply qx1)<;>(first|exact rfl|exact Ar.mk (by omega)|assumption|exact dct (by assumption)|exact dcf (by assumption)|exact dct (by omega)|exact dcf (by omega)|exact List.not_mem_nil|exact dc_length _|exact nc_length _|exact nm1 (by omega)|exact nm2 (by omega) (by omega)|exact dct rfl|exact dct (by decide)|exact dcf (by decide)|exact (Int.toNat_of_nonneg (by omega)).symm|exact dcu|exact lk1 (by assumption)|exact lk0 (by assumption)))|fail) ?_)
    refine CG.cond_t rfl (by exact rho_of rfl) rfl ?_
    repeat (first|apply CG.seq|apply CG.region|apply SG.nil|apply NG.next|apply CG.skip|apply CG.block|apply CG.ret|apply CG.exit|apply CG.scope|apply NG.ret_then|apply NG.ret_block|apply NG.ret_scope|apply NG.exit_then|refine NG.exit_block rfl ?_|refine NG.exit_other rfl ?_|apply NG.exit_scope|apply NG.normal_block|apply NG.normal_scope|refine SG.val rfl rfl rfl rfl (by first|((first|apply qmv|apply qas|apply qlc|apply qla|apply qfa|apply qnc|apply qic|apply qix|apply qpk|apply qls|apply qei|apply qni|apply qed|apply qnd|apply qad|apply qln|apply qle|apply qgt|apply qge|apply qlk|apply qlv|apply qxt|apply qsb|apply qnt|apply qep|apply qnp|apply qeb|apply qnb|apply qcv|apply qlm|apply qfr|apply qto|apply qmx|apply qx0|apply qx1)<;>(first|exact rfl|exact Ar.mk (by omega)|assumption|exact dct (by assumption)|exact dcf (by assumption)|exact dct (by omega)|exact dcf (by omega)|exact List.not_mem_nil|exact dc_length _|exact nc_length _|exact nm1 (by omega)|exact nm2 (by omega) (by omega)|exact dct rfl|exact dct (by decide)|exact dcf (by decide)|exact (Int.toNat_of_nonneg (by omega)).symm|exact dcu|exact lk1 (by assumption)|exact lk0 (by assumption)))|fail) ?_)
    have hr17 := hT4.r17
    have hm4 := hT4.map
    have hra := Tr.has_some hak
    refine CG.tail mixed 7 [0, 1, 2, 3, 4, 5, 6] (by kernel_rfl) ?_
    repeat (refine Der.val rfl rfl rfl (by first|((first|apply qmv|apply qas|apply qlc|apply qla|apply qfa|apply qnc|apply qic|apply qix|apply qpk|apply qls|apply qei|apply qni|apply qed|apply qnd|apply qad|apply qln|apply qle|apply qgt|apply qge|apply qlk|apply qlv|apply qxt|apply qsb|apply qnt|apply qep|apply qnp|apply qeb|apply qnb|apply qcv|apply qlm|apply qfr|apply qto|apply qmx|apply qx0|apply qx1)<;>(first|exact rfl|exact Ar.mk (by omega)|assumption|exact dct (by assumption)|exact dcf (by assumption)|exact dct (by omega)|exact dcf (by omega)|exact List.not_mem_nil|exact dc_length _|exact nc_length _|exact nm1 (by omega)|exact nm2 (by omega) (by omega)|exact dct rfl|exact dct (by decide)|exact dcf (by decide)|exact (Int.toNat_of_nonneg (by omega)).symm|exact dcu|exact lk1 (by assumption)|exact lk0 (by assumption)))|fail) ?_)
    refine Der.tl (fun w5 hk5 _ _ => ?_)
    refine SG.setAll rfl rfl (by exact rho_of rfl) (by exact rho_of rfl) (hB4.kp0 hk5) (by first | exact dc_length _ | exact nc_length _ | rfl) (by first | exact dc_length _ | exact nc_length _ | rfl) (by first | exact dc_one _ | exact nc_one _ | rfl) (fun w6 hk6 hB46 => ?_)
    have hanc : (t.nd (t.anc k x)).parent = t.anc (k + 1) x := (Tr.anc_succ t k x).symm
    rw [hanc] at hB46
    have hk06 := (hk4.trans hk5).trans_new hk6 (by first | exact new1 (by omega) | exact new2 (by omega) (by omega))
    have hT6 := (hT4.kp0 hk5).kp hk6 (by first | exact List.not_mem_nil | exact nm1 (by omega) | exact nm2 (by omega) (by omega) | exact nm3 (by omega) (by omega) (by omega)) (by first | exact List.not_mem_nil | exact nm1 (by omega) | exact nm2 (by omega) (by omega) | exact nm3 (by omega) (by omega) (by omega))
    have hB56 := (hB5.kp0 hk5).kp hk6 (by first | exact List.not_mem_nil | exact nm1 (by omega) | exact nm2 (by omega) (by omega) | exact nm3 (by omega) (by omega) (by omega))
    have hown6 := own_kp (own_kp0 hown hk5) hk6 (fun g hg => nm1 (by have := (hown.lt g hg).1; omega))
    have hR46 : Row w6 b4 0 (dc (t.anc (k + 1) x)) := Row.all hB46 rfl
    have s5 := hk5.size
    have s6 := hk6.size
    repeat (first|apply CG.seq|apply CG.region|apply SG.nil|apply NG.next|apply CG.skip|apply CG.block|apply CG.ret|apply CG.exit|apply CG.scope|apply NG.ret_then|apply NG.ret_block|apply NG.ret_scope|apply NG.exit_then|refine NG.exit_block rfl ?_|refine NG.exit_other rfl ?_|apply NG.exit_scope|apply NG.normal_block|apply NG.normal_scope|refine SG.val rfl rfl rfl rfl (by first|((first|apply qmv|apply qas|apply qlc|apply qla|apply qfa|apply qnc|apply qic|apply qix|apply qpk|apply qls|apply qei|apply qni|apply qed|apply qnd|apply qad|apply qln|apply qle|apply qgt|apply qge|apply qlk|apply qlv|apply qxt|apply qsb|apply qnt|apply qep|apply qnp|apply qeb|apply qnb|apply qcv|apply qlm|apply qfr|apply qto|apply qmx|apply qx0|apply qx1)<;>(first|exact rfl|exact Ar.mk (by omega)|assumption|exact dct (by assumption)|exact dcf (by assumption)|exact dct (by omega)|exact dcf (by omega)|exact List.not_mem_nil|exact dc_length _|exact nc_length _|exact nm1 (by omega)|exact nm2 (by omega) (by omega)|exact dct rfl|exact dct (by decide)|exact dcf (by decide)|exact (Int.toNat_of_nonneg (by omega)).symm|exact dcu|exact lk1 (by assumption)|exact lk0 (by assumption)))|fail) ?_)
    refine SG.buildSlice rfl rfl rfl rfl (bs36 _) (fun bn w7 hk7 hbn hBn => ?_)
    have hown7 := own_kp0 hown6 hk7
    have s7 := hk7.size
    have hRn : Row w7 bn 0 (dc (t.anc (k + 1) x)) := Row.all hBn rfl
    refine SG.append rfl rfl rfl (by exact rho_of rfl) (by exact rho_of rfl) rfl rfl rfl hown7 hRn (by first | exact dc_length _ | exact nc_length _ | rfl) (by first | exact dc_one _ | exact nc_one _ | rfl) (by simp only [maxLen]; omega) (by show (k + 1 + 1) * 8 ≤ _; omega) (by omega) (fun v' w8 hk8 hown8 => ?_)
    repeat (first|apply CG.seq|apply CG.region|apply SG.nil|apply NG.next|apply CG.skip|apply CG.block|apply CG.ret|apply CG.exit|apply CG.scope|apply NG.ret_then|apply NG.ret_block|apply NG.ret_scope|apply NG.exit_then|refine NG.exit_block rfl ?_|refine NG.exit_other rfl ?_|apply NG.exit_scope|apply NG.normal_block|apply NG.normal_scope|refine SG.val rfl rfl rfl rfl (by first|((first|apply qmv|apply qas|apply qlc|apply qla|apply qfa|apply qnc|apply qic|apply qix|apply qpk|apply qls|apply qei|apply qni|apply qed|apply qnd|apply qad|apply qln|apply qle|apply qgt|apply qge|apply qlk|apply qlv|apply qxt|apply qsb|apply qnt|apply qep|apply qnp|apply qeb|apply qnb|apply qcv|apply qlm|apply qfr|apply qto|apply qmx|apply qx0|apply qx1)<;>(first|exact rfl|exact Ar.mk (by omega)|assumption|exact dct (by assumption)|exact dcf (by assumption)|exact dct (by omega)|exact dcf (by omega)|exact List.not_mem_nil|exact dc_length _|exact nc_length _|exact nm1 (by omega)|exact nm2 (by omega) (by omega)|exact dct rfl|exact dct (by decide)|exact dcf (by decide)|exact (Int.toNat_of_nonneg (by omega)).symm|exact dcu|exact lk1 (by assumption)|exact lk0 (by assumption)))|fail) ?_)
    have hob : ∀ g, v.ownBlock = some g → w2.heap.size ≤ g := fun g hg => (hown.lt g hg).1
    have hnb : ∀ z, z < w2.heap.size → z ∉ ownB v := by
      intro z hz hm
      unfold ownB at hm
      cases hv : v.ownBlock with
      | none => rw [hv] at hm; simp at hm
      | some g => rw [hv] at hm; simp at hm; have := hob g hv; omega
    have s02 := hk02.size
    have hk08 : Kp [] w w8 := (hk06.trans hk7).trans_new hk8 (fun z hz => Or.inr (by
      by_cases h : z < w2.heap.size
      · exact absurd hz (hnb z h)
      · omega))
    refine NG.round (k + 1, v') (by (repeat' (first | exact True.intro | exact rfl | refine And.intro ?_ ?_))) ⟨by omega, hk08, by have := hk8.size; omega, (hT6.kp0 hk7).kp hk8 (hnb _ (by omega)) (hnb _ (by omega)), (hB46.kp0 hk7).kp hk8 (hnb _ (by omega)), (hB56.kp0 hk7).kp hk8 (hnb _ (by omega)), ?_⟩ (by simp only; omega)
    rw [Tr.climb_succ, flat_append, flat_single]
    exact hown8
  · have hkm' : k = m := by omega
    subst hkm'
    rw [hy] at hB4 hR4
    repeat (first|apply CG.seq|apply CG.region|apply SG.nil|apply NG.next|apply CG.skip|apply CG.block|apply CG.ret|apply CG.exit|apply CG.scope|apply NG.ret_then|apply NG.ret_block|apply NG.ret_scope|apply NG.exit_then|refine NG.exit_block rfl ?_|refine NG.exit_other rfl ?_|apply NG.exit_scope|apply NG.normal_block|apply NG.normal_scope|refine SG.val rfl rfl rfl rfl (by first|((first|apply qmv|apply qas|apply qlc|apply qla|apply qfa|apply qnc|apply qic|apply qix|apply qpk|apply qls|apply qei|apply qni|apply qed|apply qnd|apply qad|apply qln|apply qle|apply qgt|apply qge|apply qlk|apply qlv|apply qxt|apply qsb|apply qnt|apply qep|apply qnp|apply qeb|apply qnb|apply qcv|apply qlm|apply qfr|apply qto|apply qmx|apply qx0|apply qx1)<;>(first|exact rfl|exact Ar.mk (by omega)|assumption|exact dct (by assumption)|exact dcf (by assumption)|exact dct (by omega)|exact dcf (by omega)|exact List.not_mem_nil|exact dc_length _|exact nc_length _|exact nm1 (by omega)|exact nm2 (by omega) (by omega)|exact dct rfl|exact dct (by decide)|exact dcf (by decide)|exact (Int.toNat_of_nonneg (by omega)).symm|exact dcu|exact lk1 (by assumption)|exact lk0 (by assumption)))|fail) ?_)
    refine CG.cond_f rfl (by exact rho_of rfl) rfl ?_
    obtain ⟨gb, cap, post, rfl, hgb, hcap, hBg⟩ := own_blk hown (by omega)
    have hcl : (t.climb k x).length = k + 1 := Tr.climb_length t k x
    have hrev := reverse_spec (w := w4) (c := cap) (pre := []) (l := t.climb k x) (post := post) hBg (by omega)
    rw [hcl] at hrev
    repeat (first|apply CG.seq|apply CG.region|apply SG.nil|apply NG.next|apply CG.skip|apply CG.block|apply CG.ret|apply CG.exit|apply CG.scope|apply NG.ret_then|apply NG.ret_block|apply NG.ret_scope|apply NG.exit_then|refine NG.exit_block rfl ?_|refine NG.exit_other rfl ?_|apply NG.exit_scope|apply NG.normal_block|apply NG.normal_scope|refine SG.val rfl rfl rfl rfl (by first|((first|apply qmv|apply qas|apply qlc|apply qla|apply qfa|apply qnc|apply qic|apply qix|apply qpk|apply qls|apply qei|apply qni|apply qed|apply qnd|apply qad|apply qln|apply qle|apply qgt|apply qge|apply qlk|apply qlv|apply qxt|apply qsb|apply qnt|apply qep|apply qnp|apply qeb|apply qnb|apply qcv|apply qlm|apply qfr|apply qto|apply qmx|apply qx0|apply qx1)<;>(first|exact rfl|exact Ar.mk (by omega)|assumption|exact dct (by assumption)|exact dcf (by assumption)|exact dct (by omega)|exact dcf (by omega)|exact List.not_mem_nil|exact dc_length _|exact nc_length _|exact nm1 (by omega)|exact nm2 (by omega) (by omega)|exact dct rfl|exact dct (by decide)|exact dcf (by decide)|exact (Int.toNat_of_nonneg (by omega)).symm|exact dcu|exact lk1 (by assumption)|exact lk0 (by assumption)))|fail) ?_)
    refine SG.call rfl rfl rfl (by repeat' (first | exact True.intro | exact rho_of rfl | refine And.intro ?_ ?_)) (hrev.mono (fun e w5 h => ?_))
    obtain ⟨h1, h2, h3⟩ := h
    refine ⟨_, h1, ?_⟩
    repeat (first|apply CG.seq|apply CG.region|apply SG.nil|apply NG.next|apply CG.skip|apply CG.block|apply CG.ret|apply CG.exit|apply CG.scope|apply NG.ret_then|apply NG.ret_block|apply NG.ret_scope|apply NG.exit_then|refine NG.exit_block rfl ?_|refine NG.exit_other rfl ?_|apply NG.exit_scope|apply NG.normal_block|apply NG.normal_scope|refine SG.val rfl rfl rfl rfl (by first|((first|apply qmv|apply qas|apply qlc|apply qla|apply qfa|apply qnc|apply qic|apply qix|apply qpk|apply qls|apply qei|apply qni|apply qed|apply qnd|apply qad|apply qln|apply qle|apply qgt|apply qge|apply qlk|apply qlv|apply qxt|apply qsb|apply qnt|apply qep|apply qnp|apply qeb|apply qnb|apply qcv|apply qlm|apply qfr|apply qto|apply qmx|apply qx0|apply qx1)<;>(first|exact rfl|exact Ar.mk (by omega)|assumption|exact dct (by assumption)|exact dcf (by assumption)|exact dct (by omega)|exact dcf (by omega)|exact List.not_mem_nil|exact dc_length _|exact nc_length _|exact nm1 (by omega)|exact nm2 (by omega) (by omega)|exact dct rfl|exact dct (by decide)|exact dcf (by decide)|exact (Int.toNat_of_nonneg (by omega)).symm|exact dcu|exact lk1 (by assumption)|exact lk0 (by assumption)))|fail) ?_)
    refine ret1 (Or.inl rfl) Try.results33 (by first | exact ResV.tmp rfl | exact ResV.agg rfl rfl (by assumption) (by first | exact dc_length _ | exact nc_length _ | rfl) | exact ResV.cell rfl rfl (by assumption)) ?_
    have := hk02.size
    exact ⟨gb, cap, post, rfl, by omega, hcap, h2, hk4.trans_new h3 (by first | exact new1 (by omega) | exact new2 (by omega) (by omega))⟩
end Go.Proofs.Ytpnenekgldggbaa
