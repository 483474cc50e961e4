import Derived.Test.YtnoipmimddoioaaQf3
/-
  The digest of an offer, by the program and by the document.
-/
namespace Go.Proofs.Ytnoipmimddoioaa
open Go.Proofs
set_option linter.unusedVariables false

def un (z : Int) : Nat := (IntKind.wrap .u64 z).toNat
theorem un_eq (z : Int) : IntKind.wrap .u64 z = ((un z : Nat) : Int) := by
  have := wrap64_bd z
  unfold un
  omega
theorem un_lt (z : Int) : un z < 18446744073709551616 := by
  have := wrap64_bd z
  unfold un
  omega
theorem un_nat {n : Nat} (h : n < 18446744073709551616) : un (n : Int) = n := by
  unfold un
  rw [wrap64_nat h]
  simp
def offT : List UInt8 := [111, 102, 102, 101, 114]
def dealT : List UInt8 := [100, 101, 97, 108]
def putZ (zs : List Int) : List UInt8 := zs.flatMap (fun z => putU (un z))
theorem putU_len (n : Nat) : (putU n).length ≤ 11 := putN_len 10 n
theorem putZ_len : ∀ zs : List Int, (putZ zs).length ≤ 11 * zs.length
  | [] => Nat.le_refl _
  | z :: zs => by
    have h1 := putU_len (un z)
    have h2 := putZ_len zs
    simp only [putZ, List.flatMap_cons, List.length_append, List.length_cons] at h2 ⊢
    omega
def digB (o : Ofr) : List UInt8 := putU 5 ++ offT ++ putU (num o.who) ++ putU (num o.rules) ++ putZ [o.seats, o.least, o.most, o.window, o.till]
def digO (o : Ofr) : Dg := ofI (digB o)
abbrev ic (z : Int) : List Value := [.int .i64 z]
theorem ic_len (x : Int) : (ic x).length = 1 := rfl
theorem ic_one (x : Int) : allOne (ic x) = true := rfl
theorem putZ_snoc (zs : List Int) (i : Nat) (h : i < zs.length) : putZ (zs.take (i + 1)) = putZ (zs.take i) ++ putU (un zs[i]) := by
  unfold putZ
  rw [List.take_succ_eq_append_getElem h, List.flatMap_append]
  simp only [List.flatMap_cons, List.flatMap_nil, List.append_nil]

attribute [local irreducible] CG NG SG Vals Der Row Blk MapIs IterAt addI xorI orI andI shlI shrI mulI
set_option maxHeartbeats 16000000 in
theorem put_spec {w : World} {a : Option Addr} {c : Nat} {l : List UInt8} {a2 : Option Addr} {c2 : Nat} {zs : List Int} (hB : Bs w a c l) (hS : Sl ic 1 w a2 zs) (hz : 0 < zs.length) (hz2 : zs.length ≤ 100) (hl : l.length ≤ 1000000) : RetO Try.prog 5 by1 1 50 #[.slice a l.length c, .slice a2 zs.length c2] w (l ++ putZ zs) := by
  refine enter2 Try.func50 rfl Try.ntmps50 rfl ?_
  repeat (first|apply CG.seq|apply CG.region|apply SG.nil|apply NG.next|apply CG.skip|apply CG.block|apply CG.ret|apply CG.exit|apply CG.scope|apply NG.ret_then|apply NG.ret_block|apply NG.ret_scope|apply NG.exit_then|refine NG.exit_block rfl ?_|refine NG.exit_other rfl ?_|apply NG.exit_scope|apply NG.normal_block|apply NG.normal_scope|refine SG.val rfl rfl rfl rfl (by first|(apply qb64<;>(first|exact rfl|exact Ar.mk (by omega)|assumption|exact dct (by first|assumption|omega)|exact dcf (by first|assumption|omega)|exact List.not_mem_nil|apply dc_length|apply ec_length|apply dl_length|exact nm1 (by omega)|exact (Int.toNat_of_nonneg (by omega)).symm|exact dcu|fail))|(apply q64b<;>(first|exact rfl|exact Ar.mk (by omega)|assumption|exact dct (by first|assumption|omega)|exact dcf (by first|assumption|omega)|exact List.not_mem_nil|apply dc_length|apply ec_length|apply dl_length|exact nm1 (by omega)|exact (Int.toNat_of_nonneg (by omega)).symm|exact dcu|fail))|(apply qi64<;>(first|exact rfl|exact Ar.mk (by omega)|assumption|exact dct (by first|assumption|omega)|exact dcf (by first|assumption|omega)|exact List.not_mem_nil|apply dc_length|apply ec_length|apply dl_length|exact nm1 (by omega)|exact (Int.toNat_of_nonneg (by omega)).symm|exact dcu|fail))|((first|apply quad|apply quml|apply quxo|apply quor|apply quo8|apply quan|apply qush|apply qusr|apply qmi|apply qqi|apply qri|apply qqu|apply qru|apply qusb|apply qid|apply qia0|apply qia|apply qfh|apply qsa|apply qaa|apply qmv|apply qas|apply qlc|apply qla|apply qfa|apply qnc|apply qic|apply qix|apply qpk|apply qls|apply qei|apply qni|apply qed|apply qnd|apply qad|apply qln|apply qle|apply qgt|apply qge|apply qlk|apply qlv|apply qxt|apply qsb|apply qnt|apply qep|apply qnp|apply qeb|apply qnb|apply qcv|apply qlm|apply qfr|apply qto|apply qmx|apply qen|apply qsn)<;>(first|exact rfl|exact Ar.mk (by omega)|assumption|exact dct (by first|assumption|omega)|exact dcf (by first|assumption|omega)|exact List.not_mem_nil|apply dc_length|apply ec_length|apply dl_length|exact nm1 (by omega)|exact (Int.toNat_of_nonneg (by omega)).symm|exact dcu|fail))|fail) ?_)
  refine CG.loop (X := Value × Nat) (fun x => [(0, x.1), (7, .slice a2 zs.length c2), (8, .int .i64 (zs.length : Int)), (9, .int .i64 (x.2 : Int))])
    (fun x w' => x.2 ≤ zs.length ∧ Kp [] w w' ∧ (∃ a' c', x.1 = .slice a' (l ++ putZ (zs.take x.2)).length c' ∧ Bs w' a' c' (l ++ putZ (zs.take x.2))) ∧ (0 < x.2 → w'.ownsRow w.heap.size 5 1 x.1 (l ++ putZ (zs.take x.2)).length (flt by1 (l ++ putZ (zs.take x.2))))) (fun x => zs.length - x.2) (.slice a l.length c, 0) ⟨by simp only; omega, Kp.refl _ _, ⟨a, c, by simp [putZ], by simpa [putZ] using hB⟩, fun h => absurd h (Nat.lt_irrefl _)⟩ (by (repeat' (first | exact True.intro | exact rfl | refine And.intro ?_ ?_))) ?_
  rintro ⟨v, i⟩ w1 ⟨hi, hk1, ⟨a1, c1, hv, hB1⟩, ho1⟩
  simp only at hi hv hB1 ho1
  subst hv
  refine CG.to [(0, .slice a1 (l ++ putZ (zs.take i)).length c1), (7, .slice a2 zs.length c2), (8, .int .i64 (zs.length : Int)), (9, .int .i64 (i : Int))] (by (repeat' (first | exact True.intro | exact rfl | refine And.intro ?_ ?_))) ?_
  by_cases hlt : i < zs.length
  · have g1 : (i : Int) < (zs.length : Int) := by omega
    obtain ⟨bz, oz, rfl, hrz⟩ := (hS.kp0 hk1).at hlt
    have hlen : (l ++ putZ (zs.take i)).length ≤ 100000000 := by
      have := putZ_len (zs.take i)
      rw [List.length_append]
      rw [List.length_take] at this
      omega
    have hp := putnum_spec hB1 (un zs[i]) (un_lt _) hlen
    repeat (first|apply CG.seq|apply CG.region|apply SG.nil|apply NG.next|apply CG.skip|apply CG.block|apply CG.ret|apply CG.exit|apply CG.scope|apply NG.ret_then|apply NG.ret_block|apply NG.ret_scope|apply NG.exit_then|refine NG.exit_block rfl ?_|refine NG.exit_other rfl ?_|apply NG.exit_scope|apply NG.normal_block|apply NG.normal_scope|refine SG.val rfl rfl rfl rfl (by first|(apply qb64<;>(first|exact rfl|exact Ar.mk (by omega)|assumption|exact dct (by first|assumption|omega)|exact dcf (by first|assumption|omega)|exact List.not_mem_nil|apply dc_length|apply ec_length|apply dl_length|exact nm1 (by omega)|exact (Int.toNat_of_nonneg (by omega)).symm|exact dcu|fail))|(apply q64b<;>(first|exact rfl|exact Ar.mk (by omega)|assumption|exact dct (by first|assumption|omega)|exact dcf (by first|assumption|omega)|exact List.not_mem_nil|apply dc_length|apply ec_length|apply dl_length|exact nm1 (by omega)|exact (Int.toNat_of_nonneg (by omega)).symm|exact dcu|fail))|(apply qi64<;>(first|exact rfl|exact Ar.mk (by omega)|assumption|exact dct (by first|assumption|omega)|exact dcf (by first|assumption|omega)|exact List.not_mem_nil|apply dc_length|apply ec_length|apply dl_length|exact nm1 (by omega)|exact (Int.toNat_of_nonneg (by omega)).symm|exact dcu|fail))|((first|apply quad|apply quml|apply quxo|apply quor|apply quo8|apply quan|apply qush|apply qusr|apply qmi|apply qqi|apply qri|apply qqu|apply qru|apply qusb|apply qid|apply qia0|apply qia|apply qfh|apply qsa|apply qaa|apply qmv|apply qas|apply qlc|apply qla|apply qfa|apply qnc|apply qic|apply qix|apply qpk|apply qls|apply qei|apply qni|apply qed|apply qnd|apply qad|apply qln|apply qle|apply qgt|apply qge|apply qlk|apply qlv|apply qxt|apply qsb|apply qnt|apply qep|apply qnp|apply qeb|apply qnb|apply qcv|apply qlm|apply qfr|apply qto|apply qmx|apply qen|apply qsn)<;>(first|exact rfl|exact Ar.mk (by omega)|assumption|exact dct (by first|assumption|omega)|exact dcf (by first|assumption|omega)|exact List.not_mem_nil|apply dc_length|apply ec_length|apply dl_length|exact nm1 (by omega)|exact (Int.toNat_of_nonneg (by omega)).symm|exact dcu|fail))|fail) ?_)
    refine CG.cond_t rfl (by exact rho_of rfl) rfl ?_
    repeat (first|apply CG.seq|apply CG.region|apply SG.nil|apply NG.next|apply CG.skip|apply CG.block|apply CG.ret|apply CG.exit|apply CG.scope|apply NG.ret_then|apply NG.ret_block|apply NG.ret_scope|apply NG.exit_then|refine NG.exit_block rfl ?_|refine NG.exit_other rfl ?_|apply NG.exit_scope|apply NG.normal_block|apply NG.normal_scope|refine SG.val rfl rfl rfl rfl (by first|(apply qb64<;>(first|exact rfl|exact Ar.mk (by omega)|assumption|exact dct (by first|assumption|omega)|exact dcf (by first|assumption|omega)|exact List.not_mem_nil|apply dc_length|apply ec_length|apply dl_length|exact nm1 (by omega)|exact (Int.toNat_of_nonneg (by omega)).symm|exact dcu|fail))|(apply q64b<;>(first|exact rfl|exact Ar.mk (by omega)|assumption|exact dct (by first|assumption|omega)|exact dcf (by first|assumption|omega)|exact List.not_mem_nil|apply dc_length|apply ec_length|apply dl_length|exact nm1 (by omega)|exact (Int.toNat_of_nonneg (by omega)).symm|exact dcu|fail))|(apply qi64<;>(first|exact rfl|exact Ar.mk (by omega)|assumption|exact dct (by first|assumption|omega)|exact dcf (by first|assumption|omega)|exact List.not_mem_nil|apply dc_length|apply ec_length|apply dl_length|exact nm1 (by omega)|exact (Int.toNat_of_nonneg (by omega)).symm|exact dcu|fail))|((first|apply quad|apply quml|apply quxo|apply quor|apply quo8|apply quan|apply qush|apply qusr|apply qmi|apply qqi|apply qri|apply qqu|apply qru|apply qusb|apply qid|apply qia0|apply qia|apply qfh|apply qsa|apply qaa|apply qmv|apply qas|apply qlc|apply qla|apply qfa|apply qnc|apply qic|apply qix|apply qpk|apply qls|apply qei|apply qni|apply qed|apply qnd|apply qad|apply qln|apply qle|apply qgt|apply qge|apply qlk|apply qlv|apply qxt|apply qsb|apply qnt|apply qep|apply qnp|apply qeb|apply qnb|apply qcv|apply qlm|apply qfr|apply qto|apply qmx|apply qen|apply qsn)<;>(first|exact rfl|exact Ar.mk (by omega)|assumption|exact dct (by first|assumption|omega)|exact dcf (by first|assumption|omega)|exact List.not_mem_nil|apply dc_length|apply ec_length|apply dl_length|exact nm1 (by omega)|exact (Int.toNat_of_nonneg (by omega)).symm|exact dcu|fail))|fail) ?_)
    rw [un_eq]
    refine SG.call rfl rfl rfl (by repeat' (first | exact True.intro | exact rho_of rfl | refine And.intro ?_ ?_)) (hp.mono (fun e w2 hh => ?_))
    obtain ⟨v2, he, ho2, hk2⟩ := hh
    refine ⟨_, he, ?_⟩
    rw [List.append_assoc, ← putZ_snoc zs i hlt] at ho2
    have ho2 := own_mono ho2 hk1.size
    obtain ⟨a3, c3, e3, hB3⟩ := Bs.own ho2
    repeat (first|apply CG.seq|apply CG.region|apply SG.nil|apply NG.next|apply CG.skip|apply CG.block|apply CG.ret|apply CG.exit|apply CG.scope|apply NG.ret_then|apply NG.ret_block|apply NG.ret_scope|apply NG.exit_then|refine NG.exit_block rfl ?_|refine NG.exit_other rfl ?_|apply NG.exit_scope|apply NG.normal_block|apply NG.normal_scope|refine SG.val rfl rfl rfl rfl (by first|(apply qb64<;>(first|exact rfl|exact Ar.mk (by omega)|assumption|exact dct (by first|assumption|omega)|exact dcf (by first|assumption|omega)|exact List.not_mem_nil|apply dc_length|apply ec_length|apply dl_length|exact nm1 (by omega)|exact (Int.toNat_of_nonneg (by omega)).symm|exact dcu|fail))|(apply q64b<;>(first|exact rfl|exact Ar.mk (by omega)|assumption|exact dct (by first|assumption|omega)|exact dcf (by first|assumption|omega)|exact List.not_mem_nil|apply dc_length|apply ec_length|apply dl_length|exact nm1 (by omega)|exact (Int.toNat_of_nonneg (by omega)).symm|exact dcu|fail))|(apply qi64<;>(first|exact rfl|exact Ar.mk (by omega)|assumption|exact dct (by first|assumption|omega)|exact dcf (by first|assumption|omega)|exact List.not_mem_nil|apply dc_length|apply ec_length|apply dl_length|exact nm1 (by omega)|exact (Int.toNat_of_nonneg (by omega)).symm|exact dcu|fail))|((first|apply quad|apply quml|apply quxo|apply quor|apply quo8|apply quan|apply qush|apply qusr|apply qmi|apply qqi|apply qri|apply qqu|apply qru|apply qusb|apply qid|apply qia0|apply qia|apply qfh|apply qsa|apply qaa|apply qmv|apply qas|apply qlc|apply qla|apply qfa|apply qnc|apply qic|apply qix|apply qpk|apply qls|apply qei|apply qni|apply qed|apply qnd|apply qad|apply qln|apply qle|apply qgt|apply qge|apply qlk|apply qlv|apply qxt|apply qsb|apply qnt|apply qep|apply qnp|apply qeb|apply qnb|apply qcv|apply qlm|apply qfr|apply qto|apply qmx|apply qen|apply qsn)<;>(first|exact rfl|exact Ar.mk (by omega)|assumption|exact dct (by first|assumption|omega)|exact dcf (by first|assumption|omega)|exact List.not_mem_nil|apply dc_length|apply ec_length|apply dl_length|exact nm1 (by omega)|exact (Int.toNat_of_nonneg (by omega)).symm|exact dcu|fail))|fail) ?_)
    exact NG.round (v2, i + 1) (by (repeat' (first | exact True.intro | exact rfl | refine And.intro ?_ ?_))) ⟨by simp only; omega, hk1.trans hk2, ⟨a3, c3, e3, hB3⟩, fun _ => ho2⟩ (by simp only; omega)
  · have g1 : ¬ (i : Int) < (zs.length : Int) := by omega
    have ei : i = zs.length := by omega
    subst ei
    rw [List.take_of_length_le (Nat.le_refl _)] at ho1 ⊢
    repeat (first|apply CG.seq|apply CG.region|apply SG.nil|apply NG.next|apply CG.skip|apply CG.block|apply CG.ret|apply CG.exit|apply CG.scope|apply NG.ret_then|apply NG.ret_block|apply NG.ret_scope|apply NG.exit_then|refine NG.exit_block rfl ?_|refine NG.exit_other rfl ?_|apply NG.exit_scope|apply NG.normal_block|apply NG.normal_scope|refine SG.val rfl rfl rfl rfl (by first|(apply qb64<;>(first|exact rfl|exact Ar.mk (by omega)|assumption|exact dct (by first|assumption|omega)|exact dcf (by first|assumption|omega)|exact List.not_mem_nil|apply dc_length|apply ec_length|apply dl_length|exact nm1 (by omega)|exact (Int.toNat_of_nonneg (by omega)).symm|exact dcu|fail))|(apply q64b<;>(first|exact rfl|exact Ar.mk (by omega)|assumption|exact dct (by first|assumption|omega)|exact dcf (by first|assumption|omega)|exact List.not_mem_nil|apply dc_length|apply ec_length|apply dl_length|exact nm1 (by omega)|exact (Int.toNat_of_nonneg (by omega)).symm|exact dcu|fail))|(apply qi64<;>(first|exact rfl|exact Ar.mk (by omega)|assumption|exact dct (by first|assumption|omega)|exact dcf (by first|assumption|omega)|exact List.not_mem_nil|apply dc_length|apply ec_length|apply dl_length|exact nm1 (by omega)|exact (Int.toNat_of_nonneg (by omega)).symm|exact dcu|fail))|((first|apply quad|apply quml|apply quxo|apply quor|apply quo8|apply quan|apply qush|apply qusr|apply qmi|apply qqi|apply qri|apply qqu|apply qru|apply qusb|apply qid|apply qia0|apply qia|apply qfh|apply qsa|apply qaa|apply qmv|apply qas|apply qlc|apply qla|apply qfa|apply qnc|apply qic|apply qix|apply qpk|apply qls|apply qei|apply qni|apply qed|apply qnd|apply qad|apply qln|apply qle|apply qgt|apply qge|apply qlk|apply qlv|apply qxt|apply qsb|apply qnt|apply qep|apply qnp|apply qeb|apply qnb|apply qcv|apply qlm|apply qfr|apply qto|apply qmx|apply qen|apply qsn)<;>(first|exact rfl|exact Ar.mk (by omega)|assumption|exact dct (by first|assumption|omega)|exact dcf (by first|assumption|omega)|exact List.not_mem_nil|apply dc_length|apply ec_length|apply dl_length|exact nm1 (by omega)|exact (Int.toNat_of_nonneg (by omega)).symm|exact dcu|fail))|fail) ?_)
    refine CG.cond_f rfl (by exact rho_of rfl) rfl ?_
    repeat (first|apply CG.seq|apply CG.region|apply SG.nil|apply NG.next|apply CG.skip|apply CG.block|apply CG.ret|apply CG.exit|apply CG.scope|apply NG.ret_then|apply NG.ret_block|apply NG.ret_scope|apply NG.exit_then|refine NG.exit_block rfl ?_|refine NG.exit_other rfl ?_|apply NG.exit_scope|apply NG.normal_block|apply NG.normal_scope|refine SG.val rfl rfl rfl rfl (by first|(apply qb64<;>(first|exact rfl|exact Ar.mk (by omega)|assumption|exact dct (by first|assumption|omega)|exact dcf (by first|assumption|omega)|exact List.not_mem_nil|apply dc_length|apply ec_length|apply dl_length|exact nm1 (by omega)|exact (Int.toNat_of_nonneg (by omega)).symm|exact dcu|fail))|(apply q64b<;>(first|exact rfl|exact Ar.mk (by omega)|assumption|exact dct (by first|assumption|omega)|exact dcf (by first|assumption|omega)|exact List.not_mem_nil|apply dc_length|apply ec_length|apply dl_length|exact nm1 (by omega)|exact (Int.toNat_of_nonneg (by omega)).symm|exact dcu|fail))|(apply qi64<;>(first|exact rfl|exact Ar.mk (by omega)|assumption|exact dct (by first|assumption|omega)|exact dcf (by first|assumption|omega)|exact List.not_mem_nil|apply dc_length|apply ec_length|apply dl_length|exact nm1 (by omega)|exact (Int.toNat_of_nonneg (by omega)).symm|exact dcu|fail))|((first|apply quad|apply quml|apply quxo|apply quor|apply quo8|apply quan|apply qush|apply qusr|apply qmi|apply qqi|apply qri|apply qqu|apply qru|apply qusb|apply qid|apply qia0|apply qia|apply qfh|apply qsa|apply qaa|apply qmv|apply qas|apply qlc|apply qla|apply qfa|apply qnc|apply qic|apply qix|apply qpk|apply qls|apply qei|apply qni|apply qed|apply qnd|apply qad|apply qln|apply qle|apply qgt|apply qge|apply qlk|apply qlv|apply qxt|apply qsb|apply qnt|apply qep|apply qnp|apply qeb|apply qnb|apply qcv|apply qlm|apply qfr|apply qto|apply qmx|apply qen|apply qsn)<;>(first|exact rfl|exact Ar.mk (by omega)|assumption|exact dct (by first|assumption|omega)|exact dcf (by first|assumption|omega)|exact List.not_mem_nil|apply dc_length|apply ec_length|apply dl_length|exact nm1 (by omega)|exact (Int.toNat_of_nonneg (by omega)).symm|exact dcu|fail))|fail) ?_)
    refine ret1 (Or.inl rfl) Try.results50 (by first | exact ResV.tmp rfl | exact ResV.agg rfl rfl (by assumption) (by first | exact dc_length _ | exact nc_length _ | exact rc_length _ _ _ | exact ec_length _ | exact dl_length _ _ _ _ | rfl) | exact ResV.cell rfl rfl (by assumption)) ?_
    exact ⟨_, rfl, ho1 hz, hk1⟩
theorem bsi5 (a b c d e : Int) (w : World) : (Instr.buildSlice 108 5 #[(0, .int .i64 a), (1, .int .i64 b), (2, .int .i64 c), (3, .int .i64 d), (4, .int .i64 e)]).run Try.prog w = .ok (.slice (some ⟨w.heap.size, 0, none⟩) 5 5) { w with heap := w.heap.push (.cells (flt ic [a, b, c, d, e]).toArray 3) } := by kernel_rfl
theorem bsi2 (a b : Int) (w : World) : (Instr.buildSlice 108 2 #[(0, .int .i64 a), (1, .int .i64 b)]).run Try.prog w = .ok (.slice (some ⟨w.heap.size, 0, none⟩) 2 2) { w with heap := w.heap.push (.cells (flt ic [a, b]).toArray 3) } := by kernel_rfl
theorem bsi1 (a : Int) (w : World) : (Instr.buildSlice 108 1 #[(0, .int .i64 a)]).run Try.prog w = .ok (.slice (some ⟨w.heap.size, 0, none⟩) 1 1) { w with heap := w.heap.push (.cells (flt ic [a]).toArray 3) } := by kernel_rfl
set_option maxHeartbeats 16000000 in
theorem digest_spec (o : Ofr) (w : World) : Ret Try.prog 22 #[ov o] w (dv (digO o)) := by
  refine enter1 Try.func22 rfl Try.ntmps22 rfl ?_
  repeat (first|apply CG.seq|apply CG.region|apply SG.nil|apply NG.next|apply CG.skip|apply CG.block|apply CG.ret|apply CG.exit|apply CG.scope|apply NG.ret_then|apply NG.ret_block|apply NG.ret_scope|apply NG.exit_then|refine NG.exit_block rfl ?_|refine NG.exit_other rfl ?_|apply NG.exit_scope|apply NG.normal_block|apply NG.normal_scope|refine SG.val rfl rfl rfl rfl (by first|(apply qb64<;>(first|exact rfl|exact Ar.mk (by omega)|assumption|exact dct (by first|assumption|omega)|exact dcf (by first|assumption|omega)|exact List.not_mem_nil|apply dc_length|apply ec_length|apply dl_length|exact nm1 (by omega)|exact (Int.toNat_of_nonneg (by omega)).symm|exact dcu|fail))|(apply q64b<;>(first|exact rfl|exact Ar.mk (by omega)|assumption|exact dct (by first|assumption|omega)|exact dcf (by first|assumption|omega)|exact List.not_mem_nil|apply dc_length|apply ec_length|apply dl_length|exact nm1 (by omega)|exact (Int.toNat_of_nonneg (by omega)).symm|exact dcu|fail))|(apply qi64<;>(first|exact rfl|exact Ar.mk (by omega)|assumption|exact dct (by first|assumption|omega)|exact dcf (by first|assumption|omega)|exact List.not_mem_nil|apply dc_length|apply ec_length|apply dl_length|exact nm1 (by omega)|exact (Int.toNat_of_nonneg (by omega)).symm|exact dcu|fail))|((first|apply quad|apply quml|apply quxo|apply quor|apply quo8|apply quan|apply qush|apply qusr|apply qmi|apply qqi|apply qri|apply qqu|apply qru|apply qusb|apply qid|apply qia0|apply qia|apply qfh|apply qsa|apply qaa|apply qmv|apply qas|apply qlc|apply qla|apply qfa|apply qnc|apply qic|apply qix|apply qpk|apply qls|apply qei|apply qni|apply qed|apply qnd|apply qad|apply qln|apply qle|apply qgt|apply qge|apply qlk|apply qlv|apply qxt|apply qsb|apply qnt|apply qep|apply qnp|apply qeb|apply qnb|apply qcv|apply qlm|apply qfr|apply qto|apply qmx|apply qen|apply qsn)<;>(first|exact rfl|exact Ar.mk (by omega)|assumption|exact dct (by first|assumption|omega)|exact dcf (by first|assumption|omega)|exact List.not_mem_nil|apply dc_length|apply ec_length|apply dl_length|exact nm1 (by omega)|exact (Int.toNat_of_nonneg (by omega)).symm|exact dcu|fail))|fail) ?_)
  refine SG.box rfl rfl rfl (by exact rho_of rfl) (fun b1 w1 hk1 hb1 hB1 => ?_)
  have hB1 : Blk w1 b1 (.cells (ec o).toArray 47) := hB1
  refine SG.alloc rfl rfl rfl (fun b2 w2 hk2 hb2 hB2 => ?_)
  have hB2 : Blk w2 b2 (.cells (dc zd).toArray 24) := hB2
  have s1 := hk1.size
  have k2 := hk1.trans hk2
  repeat (first|apply CG.seq|apply CG.region|apply SG.nil|apply NG.next|apply CG.skip|apply CG.block|apply CG.ret|apply CG.exit|apply CG.scope|apply NG.ret_then|apply NG.ret_block|apply NG.ret_scope|apply NG.exit_then|refine NG.exit_block rfl ?_|refine NG.exit_other rfl ?_|apply NG.exit_scope|apply NG.normal_block|apply NG.normal_scope|refine SG.val rfl rfl rfl rfl (by first|(apply qb64<;>(first|exact rfl|exact Ar.mk (by omega)|assumption|exact dct (by first|assumption|omega)|exact dcf (by first|assumption|omega)|exact List.not_mem_nil|apply dc_length|apply ec_length|apply dl_length|exact nm1 (by omega)|exact (Int.toNat_of_nonneg (by omega)).symm|exact dcu|fail))|(apply q64b<;>(first|exact rfl|exact Ar.mk (by omega)|assumption|exact dct (by first|assumption|omega)|exact dcf (by first|assumption|omega)|exact List.not_mem_nil|apply dc_length|apply ec_length|apply dl_length|exact nm1 (by omega)|exact (Int.toNat_of_nonneg (by omega)).symm|exact dcu|fail))|(apply qi64<;>(first|exact rfl|exact Ar.mk (by omega)|assumption|exact dct (by first|assumption|omega)|exact dcf (by first|assumption|omega)|exact List.not_mem_nil|apply dc_length|apply ec_length|apply dl_length|exact nm1 (by omega)|exact (Int.toNat_of_nonneg (by omega)).symm|exact dcu|fail))|((first|apply quad|apply quml|apply quxo|apply quor|apply quo8|apply quan|apply qush|apply qusr|apply qmi|apply qqi|apply qri|apply qqu|apply qru|apply qusb|apply qid|apply qia0|apply qia|apply qfh|apply qsa|apply qaa|apply qmv|apply qas|apply qlc|apply qla|apply qfa|apply qnc|apply qic|apply qix|apply qpk|apply qls|apply qei|apply qni|apply qed|apply qnd|apply qad|apply qln|apply qle|apply qgt|apply qge|apply qlk|apply qlv|apply qxt|apply qsb|apply qnt|apply qep|apply qnp|apply qeb|apply qnb|apply qcv|apply qlm|apply qfr|apply qto|apply qmx|apply qen|apply qsn)<;>(first|exact rfl|exact Ar.mk (by omega)|assumption|exact dct (by first|assumption|omega)|exact dcf (by first|assumption|omega)|exact List.not_mem_nil|apply dc_length|apply ec_length|apply dl_length|exact nm1 (by omega)|exact (Int.toNat_of_nonneg (by omega)).symm|exact dcu|fail))|fail) ?_)
  refine SG.call rfl rfl rfl (by repeat' (first | exact True.intro | exact rho_of rfl | refine And.intro ?_ ?_)) ((puttext_spec (w := w2) Bs.nil offT (by simp [offT])).mono (fun e w3 hh => ?_))
  obtain ⟨v3, he, ho3, hk3⟩ := hh
  refine ⟨_, he, ?_⟩
  have ho3 : w3.ownsRow w2.heap.size 5 1 v3 (putU 5 ++ offT).length (flt by1 (putU 5 ++ offT)) := ho3
  obtain ⟨a3, c3, rfl, hS3⟩ := Bs.own ho3
  obtain ⟨r0, r1, r2, r3, r4, r5, r6, -⟩ := ec_rows (hB1.kp0 (hk2.trans hk3))
  have l1 := putU_len 5
  have l2 := putU_len (num o.who)
  have l3 := putU_len (num o.rules)
  have l4 : offT.length = 5 := rfl
  have p4 := fun w (h : Bs w a3 c3 (putU 5 ++ offT)) => putnum_spec h (num o.who) (num_lt _) (by rw [List.length_append]; omega)
  repeat (first|apply CG.seq|apply CG.region|apply SG.nil|apply NG.next|apply CG.skip|apply CG.block|apply CG.ret|apply CG.exit|apply CG.scope|apply NG.ret_then|apply NG.ret_block|apply NG.ret_scope|apply NG.exit_then|refine NG.exit_block rfl ?_|refine NG.exit_other rfl ?_|apply NG.exit_scope|apply NG.normal_block|apply NG.normal_scope|refine SG.val rfl rfl rfl rfl (by first|(apply qb64<;>(first|exact rfl|exact Ar.mk (by omega)|assumption|exact dct (by first|assumption|omega)|exact dcf (by first|assumption|omega)|exact List.not_mem_nil|apply dc_length|apply ec_length|apply dl_length|exact nm1 (by omega)|exact (Int.toNat_of_nonneg (by omega)).symm|exact dcu|fail))|(apply q64b<;>(first|exact rfl|exact Ar.mk (by omega)|assumption|exact dct (by first|assumption|omega)|exact dcf (by first|assumption|omega)|exact List.not_mem_nil|apply dc_length|apply ec_length|apply dl_length|exact nm1 (by omega)|exact (Int.toNat_of_nonneg (by omega)).symm|exact dcu|fail))|(apply qi64<;>(first|exact rfl|exact Ar.mk (by omega)|assumption|exact dct (by first|assumption|omega)|exact dcf (by first|assumption|omega)|exact List.not_mem_nil|apply dc_length|apply ec_length|apply dl_length|exact nm1 (by omega)|exact (Int.toNat_of_nonneg (by omega)).symm|exact dcu|fail))|((first|apply quad|apply quml|apply quxo|apply quor|apply quo8|apply quan|apply qush|apply qusr|apply qmi|apply qqi|apply qri|apply qqu|apply qru|apply qusb|apply qid|apply qia0|apply qia|apply qfh|apply qsa|apply qaa|apply qmv|apply qas|apply qlc|apply qla|apply qfa|apply qnc|apply qic|apply qix|apply qpk|apply qls|apply qei|apply qni|apply qed|apply qnd|apply qad|apply qln|apply qle|apply qgt|apply qge|apply qlk|apply qlv|apply qxt|apply qsb|apply qnt|apply qep|apply qnp|apply qeb|apply qnb|apply qcv|apply qlm|apply qfr|apply qto|apply qmx|apply qen|apply qsn)<;>(first|exact rfl|exact Ar.mk (by omega)|assumption|exact dct (by first|assumption|omega)|exact dcf (by first|assumption|omega)|exact List.not_mem_nil|apply dc_length|apply ec_length|apply dl_length|exact nm1 (by omega)|exact (Int.toNat_of_nonneg (by omega)).symm|exact dcu|fail))|fail) ?_)
  refine SG.ret rfl rfl rfl (by repeat' (first | exact True.intro | exact rho_of rfl | refine And.intro ?_ ?_)) (num_spec o.who w3) (fun w4 hk4 => ?_)
  refine SG.call rfl rfl rfl (by repeat' (first | exact True.intro | exact rho_of rfl | refine And.intro ?_ ?_)) ((p4 w4 (hS3.kp hk4 (by simp))).mono (fun e w5 hh => ?_))
  obtain ⟨v5, he, ho5, hk5⟩ := hh
  refine ⟨_, he, ?_⟩
  obtain ⟨a5, c5, rfl, hS5⟩ := Bs.own ho5
  have p6 := fun w (h : Bs w a5 c5 (putU 5 ++ offT ++ putU (num o.who))) => putnum_spec h (num o.rules) (num_lt _) (by simp only [List.length_append]; omega)
  have k5 := hk4.trans hk5
  have r1 := r1.kp0 k5
  have r2 := r2.kp0 k5
  have r3 := r3.kp0 k5
  have r4 := r4.kp0 k5
  have r5 := r5.kp0 k5
  have r6 := r6.kp0 k5
  repeat (first|apply CG.seq|apply CG.region|apply SG.nil|apply NG.next|apply CG.skip|apply CG.block|apply CG.ret|apply CG.exit|apply CG.scope|apply NG.ret_then|apply NG.ret_block|apply NG.ret_scope|apply NG.exit_then|refine NG.exit_block rfl ?_|refine NG.exit_other rfl ?_|apply NG.exit_scope|apply NG.normal_block|apply NG.normal_scope|refine SG.val rfl rfl rfl rfl (by first|(apply qb64<;>(first|exact rfl|exact Ar.mk (by omega)|assumption|exact dct (by first|assumption|omega)|exact dcf (by first|assumption|omega)|exact List.not_mem_nil|apply dc_length|apply ec_length|apply dl_length|exact nm1 (by omega)|exact (Int.toNat_of_nonneg (by omega)).symm|exact dcu|fail))|(apply q64b<;>(first|exact rfl|exact Ar.mk (by omega)|assumption|exact dct (by first|assumption|omega)|exact dcf (by first|assumption|omega)|exact List.not_mem_nil|apply dc_length|apply ec_length|apply dl_length|exact nm1 (by omega)|exact (Int.toNat_of_nonneg (by omega)).symm|exact dcu|fail))|(apply qi64<;>(first|exact rfl|exact Ar.mk (by omega)|assumption|exact dct (by first|assumption|omega)|exact dcf (by first|assumption|omega)|exact List.not_mem_nil|apply dc_length|apply ec_length|apply dl_length|exact nm1 (by omega)|exact (Int.toNat_of_nonneg (by omega)).symm|exact dcu|fail))|((first|apply quad|apply quml|apply quxo|apply quor|apply quo8|apply quan|apply qush|apply qusr|apply qmi|apply qqi|apply qri|apply qqu|apply qru|apply qusb|apply qid|apply qia0|apply qia|apply qfh|apply qsa|apply qaa|apply qmv|apply qas|apply qlc|apply qla|apply qfa|apply qnc|apply qic|apply qix|apply qpk|apply qls|apply qei|apply qni|apply qed|apply qnd|apply qad|apply qln|apply qle|apply qgt|apply qge|apply qlk|apply qlv|apply qxt|apply qsb|apply qnt|apply qep|apply qnp|apply qeb|apply qnb|apply qcv|apply qlm|apply qfr|apply qto|apply qmx|apply qen|apply qsn)<;>(first|exact rfl|exact Ar.mk (by omega)|assumption|exact dct (by first|assumption|omega)|exact dcf (by first|assumption|omega)|exact List.not_mem_nil|apply dc_length|apply ec_length|apply dl_length|exact nm1 (by omega)|exact (Int.toNat_of_nonneg (by omega)).symm|exact dcu|fail))|fail) ?_)
  refine SG.ret rfl rfl rfl (by repeat' (first | exact True.intro | exact rho_of rfl | refine And.intro ?_ ?_)) (num_spec o.rules w5) (fun w6 hk6 => ?_)
  refine SG.call rfl rfl rfl (by repeat' (first | exact True.intro | exact rho_of rfl | refine And.intro ?_ ?_)) ((p6 w6 (hS5.kp hk6 (by simp))).mono (fun e w7 hh => ?_))
  obtain ⟨v7, he, ho7, hk7⟩ := hh
  refine ⟨_, he, ?_⟩
  obtain ⟨a7, c7, rfl, hS7⟩ := Bs.own ho7
  have k7 := hk6.trans hk7
  have r2 := r2.kp0 k7
  have r3 := r3.kp0 k7
  have r4 := r4.kp0 k7
  have r5 := r5.kp0 k7
  have r6 := r6.kp0 k7
  repeat (first|apply CG.seq|apply CG.region|apply SG.nil|apply NG.next|apply CG.skip|apply CG.block|apply CG.ret|apply CG.exit|apply CG.scope|apply NG.ret_then|apply NG.ret_block|apply NG.ret_scope|apply NG.exit_then|refine NG.exit_block rfl ?_|refine NG.exit_other rfl ?_|apply NG.exit_scope|apply NG.normal_block|apply NG.normal_scope|refine SG.val rfl rfl rfl rfl (by first|(apply qb64<;>(first|exact rfl|exact Ar.mk (by omega)|assumption|exact dct (by first|assumption|omega)|exact dcf (by first|assumption|omega)|exact List.not_mem_nil|apply dc_length|apply ec_length|apply dl_length|exact nm1 (by omega)|exact (Int.toNat_of_nonneg (by omega)).symm|exact dcu|fail))|(apply q64b<;>(first|exact rfl|exact Ar.mk (by omega)|assumption|exact dct (by first|assumption|omega)|exact dcf (by first|assumption|omega)|exact List.not_mem_nil|apply dc_length|apply ec_length|apply dl_length|exact nm1 (by omega)|exact (Int.toNat_of_nonneg (by omega)).symm|exact dcu|fail))|(apply qi64<;>(first|exact rfl|exact Ar.mk (by omega)|assumption|exact dct (by first|assumption|omega)|exact dcf (by first|assumption|omega)|exact List.not_mem_nil|apply dc_length|apply ec_length|apply dl_length|exact nm1 (by omega)|exact (Int.toNat_of_nonneg (by omega)).symm|exact dcu|fail))|((first|apply quad|apply quml|apply quxo|apply quor|apply quo8|apply quan|apply qush|apply qusr|apply qmi|apply qqi|apply qri|apply qqu|apply qru|apply qusb|apply qid|apply qia0|apply qia|apply qfh|apply qsa|apply qaa|apply qmv|apply qas|apply qlc|apply qla|apply qfa|apply qnc|apply qic|apply qix|apply qpk|apply qls|apply qei|apply qni|apply qed|apply qnd|apply qad|apply qln|apply qle|apply qgt|apply qge|apply qlk|apply qlv|apply qxt|apply qsb|apply qnt|apply qep|apply qnp|apply qeb|apply qnb|apply qcv|apply qlm|apply qfr|apply qto|apply qmx|apply qen|apply qsn)<;>(first|exact rfl|exact Ar.mk (by omega)|assumption|exact dct (by first|assumption|omega)|exact dcf (by first|assumption|omega)|exact List.not_mem_nil|apply dc_length|apply ec_length|apply dl_length|exact nm1 (by omega)|exact (Int.toNat_of_nonneg (by omega)).symm|exact dcu|fail))|fail) ?_)
  refine SG.buildSlice rfl rfl rfl rfl (bsi5 _ _ _ _ _) (fun b8 w8 hk8 hb8 hB8 => ?_)
  have hS8 : Sl ic 1 w8 (some ⟨b8, 0, none⟩) [o.seats, o.least, o.most, o.window, o.till] := Sl.of_blk (pre := []) (post := []) ic_len (T := 3) hB8
  refine SG.call rfl rfl rfl (by repeat' (first | exact True.intro | exact rho_of rfl | refine And.intro ?_ ?_)) ((put_spec (zs := [o.seats, o.least, o.most, o.window, o.till]) (c2 := 5) (hS7.kp hk8 (by simp)) hS8 (by simp) (by simp) (by simp only [List.length_append]; omega)).mono (fun e w9 hh => ?_))
  obtain ⟨v9, he, ho9, hk9⟩ := hh
  refine ⟨_, he, ?_⟩
  have ho9 : w9.ownsRow w8.heap.size 5 1 v9 (digB o).length (flt by1 (digB o)) := ho9
  obtain ⟨a9, c9, rfl, hS9⟩ := Bs.own ho9
  have hdl : (digB o).length ≤ 1000000000 := by
    have := putZ_len [o.seats, o.least, o.most, o.window, o.till]
    unfold digB
    simp only [List.length_append, List.length_cons, List.length_nil] at this ⊢
    omega
  refine SG.ret rfl rfl rfl (by repeat' (first | exact True.intro | exact rho_of rfl | refine And.intro ?_ ?_)) (of_spec (l := digB o) hS9.sl hS9.some hS9.lt hdl hS9.len) (fun w10 hk10 => ?_)
  have kz : Kp [] w2 w10 := ((((hk3.trans k5).trans k7).trans hk8).trans hk9).trans hk10
  refine SG.setAll (old := dc zd) (l := dc (digO o)) rfl rfl (by exact rho_of rfl) (by exact rho_of rfl) (hB2.kp0 kz) (dc_length _) (dc_length _) (dc_one _) (fun w11 hk11 hB11 => ?_)
  have hrr : Row w11 b2 0 (dc (digO o)) := Row.all hB11 rfl
  repeat (first|apply CG.seq|apply CG.region|apply SG.nil|apply NG.next|apply CG.skip|apply CG.block|apply CG.ret|apply CG.exit|apply CG.scope|apply NG.ret_then|apply NG.ret_block|apply NG.ret_scope|apply NG.exit_then|refine NG.exit_block rfl ?_|refine NG.exit_other rfl ?_|apply NG.exit_scope|apply NG.normal_block|apply NG.normal_scope|refine SG.val rfl rfl rfl rfl (by first|(apply qb64<;>(first|exact rfl|exact Ar.mk (by omega)|assumption|exact dct (by first|assumption|omega)|exact dcf (by first|assumption|omega)|exact List.not_mem_nil|apply dc_length|apply ec_length|apply dl_length|exact nm1 (by omega)|exact (Int.toNat_of_nonneg (by omega)).symm|exact dcu|fail))|(apply q64b<;>(first|exact rfl|exact Ar.mk (by omega)|assumption|exact dct (by first|assumption|omega)|exact dcf (by first|assumption|omega)|exact List.not_mem_nil|apply dc_length|apply ec_length|apply dl_length|exact nm1 (by omega)|exact (Int.toNat_of_nonneg (by omega)).symm|exact dcu|fail))|(apply qi64<;>(first|exact rfl|exact Ar.mk (by omega)|assumption|exact dct (by first|assumption|omega)|exact dcf (by first|assumption|omega)|exact List.not_mem_nil|apply dc_length|apply ec_length|apply dl_length|exact nm1 (by omega)|exact (Int.toNat_of_nonneg (by omega)).symm|exact dcu|fail))|((first|apply quad|apply quml|apply quxo|apply quor|apply quo8|apply quan|apply qush|apply qusr|apply qmi|apply qqi|apply qri|apply qqu|apply qru|apply qusb|apply qid|apply qia0|apply qia|apply qfh|apply qsa|apply qaa|apply qmv|apply qas|apply qlc|apply qla|apply qfa|apply qnc|apply qic|apply qix|apply qpk|apply qls|apply qei|apply qni|apply qed|apply qnd|apply qad|apply qln|apply qle|apply qgt|apply qge|apply qlk|apply qlv|apply qxt|apply qsb|apply qnt|apply qep|apply qnp|apply qeb|apply qnb|apply qcv|apply qlm|apply qfr|apply qto|apply qmx|apply qen|apply qsn)<;>(first|exact rfl|exact Ar.mk (by omega)|assumption|exact dct (by first|assumption|omega)|exact dcf (by first|assumption|omega)|exact List.not_mem_nil|apply dc_length|apply ec_length|apply dl_length|exact nm1 (by omega)|exact (Int.toNat_of_nonneg (by omega)).symm|exact dcu|fail))|fail) ?_)
  refine ret1 (Or.inl rfl) Try.results22 (by first | exact ResV.tmp rfl | exact ResV.agg rfl rfl (by assumption) (by first | exact dc_length _ | exact nc_length _ | exact rc_length _ _ _ | exact ec_length _ | exact dl_length _ _ _ _ | rfl) | exact ResV.cell rfl rfl (by assumption)) ?_
  exact ⟨rfl, (k2.trans kz).trans_new hk11 (new1 (by omega))⟩
end Go.Proofs.Ytnoipmimddoioaa
/-
  Deals: how they lie in memory; a deal's name.
-/
namespace Go.Proofs.Ytnoipmimddoioaa
open Go.Proofs
set_option linter.unusedVariables false

structure Del where
  rules : Dg
  who : List Dg
  stake : Int
  window : Int
def dl (r : Dg) (s : Value) (st wi : Int) : List Value := dc r ++ [s, .int .i64 st, .int .i64 wi]
theorem dl_length (r : Dg) (s : Value) (st wi : Int) : (dl r s st wi).length = 11 := by simp [dl, dc_length]
theorem dl_one (r : Dg) (a : Option Addr) (n c : Nat) (st wi : Int) : allOne (dl r (.slice a n c) st wi) = true := by simp [dl, allOne, dc, oneB]
def dealV (r : Dg) (s : Value) (st wi : Int) : Value := .agg (dl r s st wi).toArray
theorem dl_rows {w : World} {b : Nat} {T : TypeId} {r : Dg} {s : Value} {st wi : Int} (h : Blk w b (.cells (dl r s st wi).toArray T)) : Row w b 0 (dc r) ∧ Row w b 8 [s] ∧ Row w b 9 [.int .i64 st] ∧ Row w b 10 [.int .i64 wi] ∧ Row w b 0 (dl r s st wi) := by
  have e : ∀ (pre l post : List Value), dl r s st wi = pre ++ (l ++ post) → Row w b pre.length l := fun pre l post he => Row.of h pre post (by simpa using he) rfl
  have l8 : (dc r).length = 8 := dc_length _
  refine ⟨?_, ?_, ?_, ?_, Row.all h (by simp)⟩
  · exact e [] (dc r) _ rfl
  · have := e (dc r) [s] [.int .i64 st, .int .i64 wi] rfl
    rwa [l8] at this
  · have := e (dc r ++ [s]) [.int .i64 st] [.int .i64 wi] (by simp [dl])
    rwa [List.length_append, l8] at this
  · have := e (dc r ++ [s, .int .i64 st]) [.int .i64 wi] [] (by simp [dl])
    rwa [List.length_append, l8] at this
def whoB (l : List Dg) : List UInt8 := l.flatMap (fun d => putU (num d))
def nameB (d : Del) : List UInt8 := putU 4 ++ dealT ++ putU (num d.rules) ++ putU d.who.length ++ whoB d.who ++ putZ [d.stake, d.window]
def nameD (d : Del) : Dg := ofI (nameB d)
theorem whoB_len : ∀ l : List Dg, (whoB l).length ≤ 11 * l.length
  | [] => Nat.le_refl _
  | x :: l => by
    have h1 := putU_len (num x)
    have h2 := whoB_len l
    simp only [whoB, List.flatMap_cons, List.length_append, List.length_cons] at h2 ⊢
    omega
theorem whoB_snoc (l : List Dg) (i : Nat) (h : i < l.length) : whoB (l.take (i + 1)) = whoB (l.take i) ++ putU (num l[i]) := by
  unfold whoB
  rw [List.take_succ_eq_append_getElem h, List.flatMap_append]
  simp only [List.flatMap_cons, List.flatMap_nil, List.append_nil]
theorem nameB_len {d : Del} (h : d.who.length ≤ 1000) : (nameB d).length ≤ 20000 := by
  have h1 := putU_len 4
  have h2 := putU_len (num d.rules)
  have h3 := putU_len d.who.length
  have h4 := whoB_len d.who
  have h5 := putZ_len [d.stake, d.window]
  have h6 : dealT.length = 4 := rfl
  unfold nameB
  simp only [List.length_append, List.length_cons, List.length_nil] at h5 ⊢
  omega

attribute [local irreducible] CG NG SG Vals Der Row Blk MapIs IterAt addI xorI orI andI shlI shrI mulI
set_option maxHeartbeats 16000000 in
theorem name_spec {w : World} (d : Del) {a : Option Addr} {c : Nat} (hS : Sl dc 8 w a d.who) (hl : d.who.length ≤ 1000) : Ret Try.prog 17 #[dealV d.rules (.slice a d.who.length c) d.stake d.window] w (dv (nameD d)) := by
  refine enter1 Try.func17 rfl Try.ntmps17 rfl ?_
  repeat (first|apply CG.seq|apply CG.region|apply SG.nil|apply NG.next|apply CG.skip|apply CG.block|apply CG.ret|apply CG.exit|apply CG.scope|apply NG.ret_then|apply NG.ret_block|apply NG.ret_scope|apply NG.exit_then|refine NG.exit_block rfl ?_|refine NG.exit_other rfl ?_|apply NG.exit_scope|apply NG.normal_block|apply NG.normal_scope|refine SG.val rfl rfl rfl rfl (by first|(apply qb64<;>(first|exact rfl|exact Ar.mk (by omega)|assumption|exact dct (by first|assumption|omega)|exact dcf (by first|assumption|omega)|exact List.not_mem_nil|apply dc_length|apply ec_length|apply dl_length|exact nm1 (by omega)|exact (Int.toNat_of_nonneg (by omega)).symm|exact dcu|fail))|(apply q64b<;>(first|exact rfl|exact Ar.mk (by omega)|assumption|exact dct (by first|assumption|omega)|exact dcf (by first|assumption|omega)|exact List.not_mem_nil|apply dc_length|apply ec_length|apply dl_length|exact nm1 (by omega)|exact (Int.toNat_of_nonneg (by omega)).symm|exact dcu|fail))|(apply qi64<;>(first|exact rfl|exact Ar.mk (by omega)|assumption|exact dct (by first|assumption|omega)|exact dcf (by first|assumption|omega)|exact List.not_mem_nil|apply dc_length|apply ec_length|apply dl_length|exact nm1 (by omega)|exact (Int.toNat_of_nonneg (by omega)).symm|exact dcu|fail))|((first|apply quad|apply quml|apply quxo|apply quor|apply quo8|apply quan|apply qush|apply qusr|apply qmi|apply qqi|apply qri|apply qqu|apply qru|apply qusb|apply qid|apply qia0|apply qia|apply qfh|apply qsa|apply qaa|apply qmv|apply qas|apply qlc|apply qla|apply qfa|apply qnc|apply qic|apply qix|apply qpk|apply qls|apply qei|apply qni|apply qed|apply qnd|apply qad|apply qln|apply qle|apply qgt|apply qge|apply qlk|apply qlv|apply qxt|apply qsb|apply qnt|apply qep|apply qnp|apply qeb|apply qnb|apply qcv|apply qlm|apply qfr|apply qto|apply qmx|apply qen|apply qsn)<;>(first|exact rfl|exact Ar.mk (by omega)|assumption|exact dct (by first|assumption|omega)|exact dcf (by first|assumption|omega)|exact List.not_mem_nil|apply dc_length|apply ec_length|apply dl_length|exact nm1 (by omega)|exact (Int.toNat_of_nonneg (by omega)).symm|exact dcu|fail))|fail) ?_)
  refine SG.box rfl rfl rfl (by exact rho_of rfl) (fun b1 w1 hk1 hb1 hB1 => ?_)
  have hB1 : Blk w1 b1 (.cells (dl d.rules (.slice a d.who.length c) d.stake d.window).toArray 27) := hB1
  refine SG.alloc rfl rfl rfl (fun b2 w2 hk2 hb2 hB2 => ?_)
  have hB2 : Blk w2 b2 (.cells (dc zd).toArray 24) := hB2
  have s1 := hk1.size
  have l1 := hB1.lt
  have l2 := hB2.lt
  have k2 := hk1.trans hk2
  have hB1 := hB1.kp0 hk2
  have q1 := putU_len 4
  have q2 := putU_len (num d.rules)
  have q3 : dealT.length = 4 := rfl
  have q4 := putU_len d.who.length
  repeat (first|apply CG.seq|apply CG.region|apply SG.nil|apply NG.next|apply CG.skip|apply CG.block|apply CG.ret|apply CG.exit|apply CG.scope|apply NG.ret_then|apply NG.ret_block|apply NG.ret_scope|apply NG.exit_then|refine NG.exit_block rfl ?_|refine NG.exit_other rfl ?_|apply NG.exit_scope|apply NG.normal_block|apply NG.normal_scope|refine SG.val rfl rfl rfl rfl (by first|(apply qb64<;>(first|exact rfl|exact Ar.mk (by omega)|assumption|exact dct (by first|assumption|omega)|exact dcf (by first|assumption|omega)|exact List.not_mem_nil|apply dc_length|apply ec_length|apply dl_length|exact nm1 (by omega)|exact (Int.toNat_of_nonneg (by omega)).symm|exact dcu|fail))|(apply q64b<;>(first|exact rfl|exact Ar.mk (by omega)|assumption|exact dct (by first|assumption|omega)|exact dcf (by first|assumption|omega)|exact List.not_mem_nil|apply dc_length|apply ec_length|apply dl_length|exact nm1 (by omega)|exact (Int.toNat_of_nonneg (by omega)).symm|exact dcu|fail))|(apply qi64<;>(first|exact rfl|exact Ar.mk (by omega)|assumption|exact dct (by first|assumption|omega)|exact dcf (by first|assumption|omega)|exact List.not_mem_nil|apply dc_length|apply ec_length|apply dl_length|exact nm1 (by omega)|exact (Int.toNat_of_nonneg (by omega)).symm|exact dcu|fail))|((first|apply quad|apply quml|apply quxo|apply quor|apply quo8|apply quan|apply qush|apply qusr|apply qmi|apply qqi|apply qri|apply qqu|apply qru|apply qusb|apply qid|apply qia0|apply qia|apply qfh|apply qsa|apply qaa|apply qmv|apply qas|apply qlc|apply qla|apply qfa|apply qnc|apply qic|apply qix|apply qpk|apply qls|apply qei|apply qni|apply qed|apply qnd|apply qad|apply qln|apply qle|apply qgt|apply qge|apply qlk|apply qlv|apply qxt|apply qsb|apply qnt|apply qep|apply qnp|apply qeb|apply qnb|apply qcv|apply qlm|apply qfr|apply qto|apply qmx|apply qen|apply qsn)<;>(first|exact rfl|exact Ar.mk (by omega)|assumption|exact dct (by first|assumption|omega)|exact dcf (by first|assumption|omega)|exact List.not_mem_nil|apply dc_length|apply ec_length|apply dl_length|exact nm1 (by omega)|exact (Int.toNat_of_nonneg (by omega)).symm|exact dcu|fail))|fail) ?_)
  refine SG.call rfl rfl rfl (by repeat' (first | exact True.intro | exact rho_of rfl | refine And.intro ?_ ?_)) ((puttext_spec (w := w2) Bs.nil dealT (by simp [dealT])).mono (fun e w3 hh => ?_))
  obtain ⟨v3, he, ho3, hk3⟩ := hh
  refine ⟨_, he, ?_⟩
  have ho3 : w3.ownsRow w2.heap.size 5 1 v3 (putU 4 ++ dealT).length (flt by1 (putU 4 ++ dealT)) := ho3
  obtain ⟨a3, c3, rfl, hS3⟩ := Bs.own ho3
  obtain ⟨r0, r1, r2, r3, -⟩ := dl_rows (hB1.kp0 hk3)
  have p4 := fun w (h : Bs w a3 c3 (putU 4 ++ dealT)) => putnum_spec h (num d.rules) (num_lt _) (by rw [List.length_append]; omega)
  repeat (first|apply CG.seq|apply CG.region|apply SG.nil|apply NG.next|apply CG.skip|apply CG.block|apply CG.ret|apply CG.exit|apply CG.scope|apply NG.ret_then|apply NG.ret_block|apply NG.ret_scope|apply NG.exit_then|refine NG.exit_block rfl ?_|refine NG.exit_other rfl ?_|apply NG.exit_scope|apply NG.normal_block|apply NG.normal_scope|refine SG.val rfl rfl rfl rfl (by first|(apply qb64<;>(first|exact rfl|exact Ar.mk (by omega)|assumption|exact dct (by first|assumption|omega)|exact dcf (by first|assumption|omega)|exact List.not_mem_nil|apply dc_length|apply ec_length|apply dl_length|exact nm1 (by omega)|exact (Int.toNat_of_nonneg (by omega)).symm|exact dcu|fail))|(apply q64b<;>(first|exact rfl|exact Ar.mk (by omega)|assumption|exact dct (by first|assumption|omega)|exact dcf (by first|assumption|omega)|exact List.not_mem_nil|apply dc_length|apply ec_length|apply dl_length|exact nm1 (by omega)|exact (Int.toNat_of_nonneg (by omega)).symm|exact dcu|fail))|(apply qi64<;>(first|exact rfl|exact Ar.mk (by omega)|assumption|exact dct (by first|assumption|omega)|exact dcf (by first|assumption|omega)|exact List.not_mem_nil|apply dc_length|apply ec_length|apply dl_length|exact nm1 (by omega)|exact (Int.toNat_of_nonneg (by omega)).symm|exact dcu|fail))|((first|apply quad|apply quml|apply quxo|apply quor|apply quo8|apply quan|apply qush|apply qusr|apply qmi|apply qqi|apply qri|apply qqu|apply qru|apply qusb|apply qid|apply qia0|apply qia|apply qfh|apply qsa|apply qaa|apply qmv|apply qas|apply qlc|apply qla|apply qfa|apply qnc|apply qic|apply qix|apply qpk|apply qls|apply qei|apply qni|apply qed|apply qnd|apply qad|apply qln|apply qle|apply qgt|apply qge|apply qlk|apply qlv|apply qxt|apply qsb|apply qnt|apply qep|apply qnp|apply qeb|apply qnb|apply qcv|apply qlm|apply qfr|apply qto|apply qmx|apply qen|apply qsn)<;>(first|exact rfl|exact Ar.mk (by omega)|assumption|exact dct (by first|assumption|omega)|exact dcf (by first|assumption|omega)|exact List.not_mem_nil|apply dc_length|apply ec_length|apply dl_length|exact nm1 (by omega)|exact (Int.toNat_of_nonneg (by omega)).symm|exact dcu|fail))|fail) ?_)
  refine SG.ret rfl rfl rfl (by repeat' (first | exact True.intro | exact rho_of rfl | refine And.intro ?_ ?_)) (num_spec d.rules w3) (fun w4 hk4 => ?_)
  refine SG.call rfl rfl rfl (by repeat' (first | exact True.intro | exact rho_of rfl | refine And.intro ?_ ?_)) ((p4 w4 (hS3.kp hk4 (by simp))).mono (fun e w5 hh => ?_))
  obtain ⟨v5, he, ho5, hk5⟩ := hh
  refine ⟨_, he, ?_⟩
  obtain ⟨a5, c5, rfl, hS5⟩ := Bs.own ho5
  have k5 := hk4.trans hk5
  have r1 := r1.kp0 k5
  repeat (first|apply CG.seq|apply CG.region|apply SG.nil|apply NG.next|apply CG.skip|apply CG.block|apply CG.ret|apply CG.exit|apply CG.scope|apply NG.ret_then|apply NG.ret_block|apply NG.ret_scope|apply NG.exit_then|refine NG.exit_block rfl ?_|refine NG.exit_other rfl ?_|apply NG.exit_scope|apply NG.normal_block|apply NG.normal_scope|refine SG.val rfl rfl rfl rfl (by first|(apply qb64<;>(first|exact rfl|exact Ar.mk (by omega)|assumption|exact dct (by first|assumption|omega)|exact dcf (by first|assumption|omega)|exact List.not_mem_nil|apply dc_length|apply ec_length|apply dl_length|exact nm1 (by omega)|exact (Int.toNat_of_nonneg (by omega)).symm|exact dcu|fail))|(apply q64b<;>(first|exact rfl|exact Ar.mk (by omega)|assumption|exact dct (by first|assumption|omega)|exact dcf (by first|assumption|omega)|exact List.not_mem_nil|apply dc_length|apply ec_length|apply dl_length|exact nm1 (by omega)|exact (Int.toNat_of_nonneg (by omega)).symm|exact dcu|fail))|(apply qi64<;>(first|exact rfl|exact Ar.mk (by omega)|assumption|exact dct (by first|assumption|omega)|exact dcf (by first|assumption|omega)|exact List.not_mem_nil|apply dc_length|apply ec_length|apply dl_length|exact nm1 (by omega)|exact (Int.toNat_of_nonneg (by omega)).symm|exact dcu|fail))|((first|apply quad|apply quml|apply quxo|apply quor|apply quo8|apply quan|apply qush|apply qusr|apply qmi|apply qqi|apply qri|apply qqu|apply qru|apply qusb|apply qid|apply qia0|apply qia|apply qfh|apply qsa|apply qaa|apply qmv|apply qas|apply qlc|apply qla|apply qfa|apply qnc|apply qic|apply qix|apply qpk|apply qls|apply qei|apply qni|apply qed|apply qnd|apply qad|apply qln|apply qle|apply qgt|apply qge|apply qlk|apply qlv|apply qxt|apply qsb|apply qnt|apply qep|apply qnp|apply qeb|apply qnb|apply qcv|apply qlm|apply qfr|apply qto|apply qmx|apply qen|apply qsn)<;>(first|exact rfl|exact Ar.mk (by omega)|assumption|exact dct (by first|assumption|omega)|exact dcf (by first|assumption|omega)|exact List.not_mem_nil|apply dc_length|apply ec_length|apply dl_length|exact nm1 (by omega)|exact (Int.toNat_of_nonneg (by omega)).symm|exact dcu|fail))|fail) ?_)
  refine SG.buildSlice rfl rfl rfl rfl (bsi1 _) (fun b6 w6 hk6 hb6 hB6 => ?_)
  have hS6 : Sl ic 1 w6 (some ⟨b6, 0, none⟩) [(d.who.length : Int)] := Sl.of_blk (pre := []) (post := []) ic_len (T := 3) hB6
  refine SG.call rfl rfl rfl (by repeat' (first | exact True.intro | exact rho_of rfl | refine And.intro ?_ ?_)) ((put_spec (zs := [(d.who.length : Int)]) (c2 := 1) (hS5.kp hk6 (by simp)) hS6 (by simp) (by simp) (by simp only [List.length_append]; omega)).mono (fun e w7 hh => ?_))
  obtain ⟨v7, he, ho7, hk7⟩ := hh
  refine ⟨_, he, ?_⟩
  have ez : putZ [(d.who.length : Int)] = putU d.who.length := by
    simp only [putZ, List.flatMap_cons, List.flatMap_nil, List.append_nil]
    rw [un_nat (by omega)]
  rw [ez] at ho7
  have k7 : Kp [] w2 w7 := ((hk3.trans k5).trans hk6).trans hk7
  have ho7 := own_mono ho7 (show w2.heap.size ≤ w6.heap.size from ((hk3.trans k5).trans hk6).size)
  generalize hX : putU 4 ++ dealT ++ putU (num d.rules) ++ putU d.who.length = X at ho7
  have hXl : X.length ≤ 37 := by rw [← hX]; simp only [List.length_append]; omega
  obtain ⟨r0, r1, r2, r3, -⟩ := dl_rows (hB1.kp0 k7)
  clear hS3 hS5 ho3 ho5 hS6 p4 hk3 hk4 hk5 hk6 hk7 k5
  repeat (first|apply CG.seq|apply CG.region|apply SG.nil|apply NG.next|apply CG.skip|apply CG.block|apply CG.ret|apply CG.exit|apply CG.scope|apply NG.ret_then|apply NG.ret_block|apply NG.ret_scope|apply NG.exit_then|refine NG.exit_block rfl ?_|refine NG.exit_other rfl ?_|apply NG.exit_scope|apply NG.normal_block|apply NG.normal_scope|refine SG.val rfl rfl rfl rfl (by first|(apply qb64<;>(first|exact rfl|exact Ar.mk (by omega)|assumption|exact dct (by first|assumption|omega)|exact dcf (by first|assumption|omega)|exact List.not_mem_nil|apply dc_length|apply ec_length|apply dl_length|exact nm1 (by omega)|exact (Int.toNat_of_nonneg (by omega)).symm|exact dcu|fail))|(apply q64b<;>(first|exact rfl|exact Ar.mk (by omega)|assumption|exact dct (by first|assumption|omega)|exact dcf (by first|assumption|omega)|exact List.not_mem_nil|apply dc_length|apply ec_length|apply dl_length|exact nm1 (by omega)|exact (Int.toNat_of_nonneg (by omega)).symm|exact dcu|fail))|(apply qi64<;>(first|exact rfl|exact Ar.mk (by omega)|assumption|exact dct (by first|assumption|omega)|exact dcf (by first|assumption|omega)|exact List.not_mem_nil|apply dc_length|apply ec_length|apply dl_length|exact nm1 (by omega)|exact (Int.toNat_of_nonneg (by omega)).symm|exact dcu|fail))|((first|apply quad|apply quml|apply quxo|apply quor|apply quo8|apply quan|apply qush|apply qusr|apply qmi|apply qqi|apply qri|apply qqu|apply qru|apply qusb|apply qid|apply qia0|apply qia|apply qfh|apply qsa|apply qaa|apply qmv|apply qas|apply qlc|apply qla|apply qfa|apply qnc|apply qic|apply qix|apply qpk|apply qls|apply qei|apply qni|apply qed|apply qnd|apply qad|apply qln|apply qle|apply qgt|apply qge|apply qlk|apply qlv|apply qxt|apply qsb|apply qnt|apply qep|apply qnp|apply qeb|apply qnb|apply qcv|apply qlm|apply qfr|apply qto|apply qmx|apply qen|apply qsn)<;>(first|exact rfl|exact Ar.mk (by omega)|assumption|exact dct (by first|assumption|omega)|exact dcf (by first|assumption|omega)|exact List.not_mem_nil|apply dc_length|apply ec_length|apply dl_length|exact nm1 (by omega)|exact (Int.toNat_of_nonneg (by omega)).symm|exact dcu|fail))|fail) ?_)
  refine CG.loop (X := Value × Nat) (fun x => [(1, .pointer (some ⟨b1, 0, none⟩)), (2, .pointer (some ⟨b2, 0, none⟩)), (3, x.1), (19, .slice a d.who.length c), (20, .int .i64 (d.who.length : Int)), (21, .int .i64 (x.2 : Int))])
    (fun x w' => x.2 ≤ d.who.length ∧ Kp [] w2 w' ∧ w'.ownsRow w2.heap.size 5 1 x.1 (X ++ whoB (d.who.take x.2)).length (flt by1 (X ++ whoB (d.who.take x.2)))) (fun x => d.who.length - x.2) (v7, 0) ⟨by simp only; omega, k7, by simpa [whoB] using ho7⟩ (by (repeat' (first | exact True.intro | exact rfl | refine And.intro ?_ ?_))) ?_
  rintro ⟨v8, i⟩ w8 ⟨hi, k8, ho8⟩
  simp only at hi ho8
  refine CG.to [(1, .pointer (some ⟨b1, 0, none⟩)), (2, .pointer (some ⟨b2, 0, none⟩)), (3, v8), (19, .slice a d.who.length c), (20, .int .i64 (d.who.length : Int)), (21, .int .i64 (i : Int))] (by (repeat' (first | exact True.intro | exact rfl | refine And.intro ?_ ?_))) ?_
  clear ho7
  obtain ⟨a8, c8, rfl, hS8⟩ := Bs.own ho8
  have hwl := whoB_len (d.who.take i)
  rw [List.length_take] at hwl
  by_cases hlt : i < d.who.length
  · have g1 : (i : Int) < (d.who.length : Int) := by omega
    obtain ⟨bz, oz, rfl, hrz⟩ := (hS.kp0 (k2.trans k8)).at hlt
    repeat (first|apply CG.seq|apply CG.region|apply SG.nil|apply NG.next|apply CG.skip|apply CG.block|apply CG.ret|apply CG.exit|apply CG.scope|apply NG.ret_then|apply NG.ret_block|apply NG.ret_scope|apply NG.exit_then|refine NG.exit_block rfl ?_|refine NG.exit_other rfl ?_|apply NG.exit_scope|apply NG.normal_block|apply NG.normal_scope|refine SG.val rfl rfl rfl rfl (by first|(apply qb64<;>(first|exact rfl|exact Ar.mk (by omega)|assumption|exact dct (by first|assumption|omega)|exact dcf (by first|assumption|omega)|exact List.not_mem_nil|apply dc_length|apply ec_length|apply dl_length|exact nm1 (by omega)|exact (Int.toNat_of_nonneg (by omega)).symm|exact dcu|fail))|(apply q64b<;>(first|exact rfl|exact Ar.mk (by omega)|assumption|exact dct (by first|assumption|omega)|exact dcf (by first|assumption|omega)|exact List.not_mem_nil|apply dc_length|apply ec_length|apply dl_length|exact nm1 (by omega)|exact (Int.toNat_of_nonneg (by omega)).symm|exact dcu|fail))|(apply qi64<;>(first|exact rfl|exact Ar.mk (by omega)|assumption|exact dct (by first|assumption|omega)|exact dcf (by first|assumption|omega)|exact List.not_mem_nil|apply dc_length|apply ec_length|apply dl_length|exact nm1 (by omega)|exact (Int.toNat_of_nonneg (by omega)).symm|exact dcu|fail))|((first|apply quad|apply quml|apply quxo|apply quor|apply quo8|apply quan|apply qush|apply qusr|apply qmi|apply qqi|apply qri|apply qqu|apply qru|apply qusb|apply qid|apply qia0|apply qia|apply qfh|apply qsa|apply qaa|apply qmv|apply qas|apply qlc|apply qla|apply qfa|apply qnc|apply qic|apply qix|apply qpk|apply qls|apply qei|apply qni|apply qed|apply qnd|apply qad|apply qln|apply qle|apply qgt|apply qge|apply qlk|apply qlv|apply qxt|apply qsb|apply qnt|apply qep|apply qnp|apply qeb|apply qnb|apply qcv|apply qlm|apply qfr|apply qto|apply qmx|apply qen|apply qsn)<;>(first|exact rfl|exact Ar.mk (by omega)|assumption|exact dct (by first|assumption|omega)|exact dcf (by first|assumption|omega)|exact List.not_mem_nil|apply dc_length|apply ec_length|apply dl_length|exact nm1 (by omega)|exact (Int.toNat_of_nonneg (by omega)).symm|exact dcu|fail))|fail) ?_)
    refine CG.cond_t rfl (by exact rho_of rfl) rfl ?_
    repeat (first|apply CG.seq|apply CG.region|apply SG.nil|apply NG.next|apply CG.skip|apply CG.block|apply CG.ret|apply CG.exit|apply CG.scope|apply NG.ret_then|apply NG.ret_block|apply NG.ret_scope|apply NG.exit_then|refine NG.exit_block rfl ?_|refine NG.exit_other rfl ?_|apply NG.exit_scope|apply NG.normal_block|apply NG.normal_scope|refine SG.val rfl rfl rfl rfl (by first|(apply qb64<;>(first|exact rfl|exact Ar.mk (by omega)|assumption|exact dct (by first|assumption|omega)|exact dcf (by first|assumption|omega)|exact List.not_mem_nil|apply dc_length|apply ec_length|apply dl_length|exact nm1 (by omega)|exact (Int.toNat_of_nonneg (by omega)).symm|exact dcu|fail))|(apply q64b<;>(first|exact rfl|exact Ar.mk (by omega)|assumption|exact dct (by first|assumption|omega)|exact dcf (by first|assumption|omega)|exact List.not_mem_nil|apply dc_length|apply ec_length|apply dl_length|exact nm1 (by omega)|exact (Int.toNat_of_nonneg (by omega)).symm|exact dcu|fail))|(apply qi64<;>(first|exact rfl|exact Ar.mk (by omega)|assumption|exact dct (by first|assumption|omega)|exact dcf (by first|assumption|omega)|exact List.not_mem_nil|apply dc_length|apply ec_length|apply dl_length|exact nm1 (by omega)|exact (Int.toNat_of_nonneg (by omega)).symm|exact dcu|fail))|((first|apply quad|apply quml|apply quxo|apply quor|apply quo8|apply quan|apply qush|apply qusr|apply qmi|apply qqi|apply qri|apply qqu|apply qru|apply qusb|apply qid|apply qia0|apply qia|apply qfh|apply qsa|apply qaa|apply qmv|apply qas|apply qlc|apply qla|apply qfa|apply qnc|apply qic|apply qix|apply qpk|apply qls|apply qei|apply qni|apply qed|apply qnd|apply qad|apply qln|apply qle|apply qgt|apply qge|apply qlk|apply qlv|apply qxt|apply qsb|apply qnt|apply qep|apply qnp|apply qeb|apply qnb|apply qcv|apply qlm|apply qfr|apply qto|apply qmx|apply qen|apply qsn)<;>(first|exact rfl|exact Ar.mk (by omega)|assumption|exact dct (by first|assumption|omega)|exact dcf (by first|assumption|omega)|exact List.not_mem_nil|apply dc_length|apply ec_length|apply dl_length|exact nm1 (by omega)|exact (Int.toNat_of_nonneg (by omega)).symm|exact dcu|fail))|fail) ?_)
    refine SG.alloc rfl rfl rfl (fun b9 w9 hk9 hb9 hB9 => ?_)
    have hB9 : Blk w9 b9 (.cells (dc zd).toArray 24) := hB9
    refine SG.setAll (old := dc zd) (l := dc d.who[i]) rfl rfl (by exact rho_of rfl) (by exact rho_of rfl) hB9 (dc_length _) (dc_length _) (dc_one _) (fun w10 hk10 hB10 => ?_)
    have hrr : Row w10 b9 0 (dc d.who[i]) := Row.all hB10 rfl
    have k10 : Kp [] w8 w10 := hk9.trans_new hk10 (new1 (by omega))
    have p5 := fun w (h : Bs w a8 c8 (X ++ whoB (d.who.take i))) => putnum_spec h (num d.who[i]) (num_lt _) (by rw [List.length_append]; omega)
    repeat (first|apply CG.seq|apply CG.region|apply SG.nil|apply NG.next|apply CG.skip|apply CG.block|apply CG.ret|apply CG.exit|apply CG.scope|apply NG.ret_then|apply NG.ret_block|apply NG.ret_scope|apply NG.exit_then|refine NG.exit_block rfl ?_|refine NG.exit_other rfl ?_|apply NG.exit_scope|apply NG.normal_block|apply NG.normal_scope|refine SG.val rfl rfl rfl rfl (by first|(apply qb64<;>(first|exact rfl|exact Ar.mk (by omega)|assumption|exact dct (by first|assumption|omega)|exact dcf (by first|assumption|omega)|exact List.not_mem_nil|apply dc_length|apply ec_length|apply dl_length|exact nm1 (by omega)|exact (Int.toNat_of_nonneg (by omega)).symm|exact dcu|fail))|(apply q64b<;>(first|exact rfl|exact Ar.mk (by omega)|assumption|exact dct (by first|assumption|omega)|exact dcf (by first|assumption|omega)|exact List.not_mem_nil|apply dc_length|apply ec_length|apply dl_length|exact nm1 (by omega)|exact (Int.toNat_of_nonneg (by omega)).symm|exact dcu|fail))|(apply qi64<;>(first|exact rfl|exact Ar.mk (by omega)|assumption|exact dct (by first|assumption|omega)|exact dcf (by first|assumption|omega)|exact List.not_mem_nil|apply dc_length|apply ec_length|apply dl_length|exact nm1 (by omega)|exact (Int.toNat_of_nonneg (by omega)).symm|exact dcu|fail))|((first|apply quad|apply quml|apply quxo|apply quor|apply quo8|apply quan|apply qush|apply qusr|apply qmi|apply qqi|apply qri|apply qqu|apply qru|apply qusb|apply qid|apply qia0|apply qia|apply qfh|apply qsa|apply qaa|apply qmv|apply qas|apply qlc|apply qla|apply qfa|apply qnc|apply qic|apply qix|apply qpk|apply qls|apply qei|apply qni|apply qed|apply qnd|apply qad|apply qln|apply qle|apply qgt|apply qge|apply qlk|apply qlv|apply qxt|apply qsb|apply qnt|apply qep|apply qnp|apply qeb|apply qnb|apply qcv|apply qlm|apply qfr|apply qto|apply qmx|apply qen|apply qsn)<;>(first|exact rfl|exact Ar.mk (by omega)|assumption|exact dct (by first|assumption|omega)|exact dcf (by first|assumption|omega)|exact List.not_mem_nil|apply dc_length|apply ec_length|apply dl_length|exact nm1 (by omega)|exact (Int.toNat_of_nonneg (by omega)).symm|exact dcu|fail))|fail) ?_)
    refine SG.ret rfl rfl rfl (by repeat' (first | exact True.intro | exact rho_of rfl | refine And.intro ?_ ?_)) (num_spec d.who[i] w10) (fun w11 hk11 => ?_)
    refine SG.call rfl rfl rfl (by repeat' (first | exact True.intro | exact rho_of rfl | refine And.intro ?_ ?_)) ((p5 w11 (hS8.kp (k10.trans hk11) (by simp))).mono (fun e w12 hh => ?_))
    obtain ⟨v12, he, ho12, hk12⟩ := hh
    refine ⟨_, he, ?_⟩
    have k11 := (k8.trans k10).trans hk11
    have ho12 := own_mono ho12 k11.size
    rw [List.append_assoc, ← whoB_snoc d.who i hlt] at ho12
    repeat (first|apply CG.seq|apply CG.region|apply SG.nil|apply NG.next|apply CG.skip|apply CG.block|apply CG.ret|apply CG.exit|apply CG.scope|apply NG.ret_then|apply NG.ret_block|apply NG.ret_scope|apply NG.exit_then|refine NG.exit_block rfl ?_|refine NG.exit_other rfl ?_|apply NG.exit_scope|apply NG.normal_block|apply NG.normal_scope|refine SG.val rfl rfl rfl rfl (by first|(apply qb64<;>(first|exact rfl|exact Ar.mk (by omega)|assumption|exact dct (by first|assumption|omega)|exact dcf (by first|assumption|omega)|exact List.not_mem_nil|apply dc_length|apply ec_length|apply dl_length|exact nm1 (by omega)|exact (Int.toNat_of_nonneg (by omega)).symm|exact dcu|fail))|(apply q64b<;>(first|exact rfl|exact Ar.mk (by omega)|assumption|exact dct (by first|assumption|omega)|exact dcf (by first|assumption|omega)|exact List.not_mem_nil|apply dc_length|apply ec_length|apply dl_length|exact nm1 (by omega)|exact (Int.toNat_of_nonneg (by omega)).symm|exact dcu|fail))|(apply qi64<;>(first|exact rfl|exact Ar.mk (by omega)|assumption|exact dct (by first|assumption|omega)|exact dcf (by first|assumption|omega)|exact List.not_mem_nil|apply dc_length|apply ec_length|apply dl_length|exact nm1 (by omega)|exact (Int.toNat_of_nonneg (by omega)).symm|exact dcu|fail))|((first|apply quad|apply quml|apply quxo|apply quor|apply quo8|apply quan|apply qush|apply qusr|apply qmi|apply qqi|apply qri|apply qqu|apply qru|apply qusb|apply qid|apply qia0|apply qia|apply qfh|apply qsa|apply qaa|apply qmv|apply qas|apply qlc|apply qla|apply qfa|apply qnc|apply qic|apply qix|apply qpk|apply qls|apply qei|apply qni|apply qed|apply qnd|apply qad|apply qln|apply qle|apply qgt|apply qge|apply qlk|apply qlv|apply qxt|apply qsb|apply qnt|apply qep|apply qnp|apply qeb|apply qnb|apply qcv|apply qlm|apply qfr|apply qto|apply qmx|apply qen|apply qsn)<;>(first|exact rfl|exact Ar.mk (by omega)|assumption|exact dct (by first|assumption|omega)|exact dcf (by first|assumption|omega)|exact List.not_mem_nil|apply dc_length|apply ec_length|apply dl_length|exact nm1 (by omega)|exact (Int.toNat_of_nonneg (by omega)).symm|exact dcu|fail))|fail) ?_)
    exact NG.round (v12, i + 1) (by (repeat' (first | exact True.intro | exact rfl | refine And.intro ?_ ?_))) ⟨by simp only; omega, k11.trans hk12, ho12⟩ (by simp only; omega)
  · have g1 : ¬ (i : Int) < (d.who.length : Int) := by omega
    have ei : i = d.who.length := by omega
    subst ei
    rw [List.take_of_length_le (Nat.le_refl _)] at ho8 hS8 ⊢
    obtain ⟨r0, r1, r2, r3, -⟩ := dl_rows (hB1.kp0 k8)
    repeat (first|apply CG.seq|apply CG.region|apply SG.nil|apply NG.next|apply CG.skip|apply CG.block|apply CG.ret|apply CG.exit|apply CG.scope|apply NG.ret_then|apply NG.ret_block|apply NG.ret_scope|apply NG.exit_then|refine NG.exit_block rfl ?_|refine NG.exit_other rfl ?_|apply NG.exit_scope|apply NG.normal_block|apply NG.normal_scope|refine SG.val rfl rfl rfl rfl (by first|(apply qb64<;>(first|exact rfl|exact Ar.mk (by omega)|assumption|exact dct (by first|assumption|omega)|exact dcf (by first|assumption|omega)|exact List.not_mem_nil|apply dc_length|apply ec_length|apply dl_length|exact nm1 (by omega)|exact (Int.toNat_of_nonneg (by omega)).symm|exact dcu|fail))|(apply q64b<;>(first|exact rfl|exact Ar.mk (by omega)|assumption|exact dct (by first|assumption|omega)|exact dcf (by first|assumption|omega)|exact List.not_mem_nil|apply dc_length|apply ec_length|apply dl_length|exact nm1 (by omega)|exact (Int.toNat_of_nonneg (by omega)).symm|exact dcu|fail))|(apply qi64<;>(first|exact rfl|exact Ar.mk (by omega)|assumption|exact dct (by first|assumption|omega)|exact dcf (by first|assumption|omega)|exact List.not_mem_nil|apply dc_length|apply ec_length|apply dl_length|exact nm1 (by omega)|exact (Int.toNat_of_nonneg (by omega)).symm|exact dcu|fail))|((first|apply quad|apply quml|apply quxo|apply quor|apply quo8|apply quan|apply qush|apply qusr|apply qmi|apply qqi|apply qri|apply qqu|apply qru|apply qusb|apply qid|apply qia0|apply qia|apply qfh|apply qsa|apply qaa|apply qmv|apply qas|apply qlc|apply qla|apply qfa|apply qnc|apply qic|apply qix|apply qpk|apply qls|apply qei|apply qni|apply qed|apply qnd|apply qad|apply qln|apply qle|apply qgt|apply qge|apply qlk|apply qlv|apply qxt|apply qsb|apply qnt|apply qep|apply qnp|apply qeb|apply qnb|apply qcv|apply qlm|apply qfr|apply qto|apply qmx|apply qen|apply qsn)<;>(first|exact rfl|exact Ar.mk (by omega)|assumption|exact dct (by first|assumption|omega)|exact dcf (by first|assumption|omega)|exact List.not_mem_nil|apply dc_length|apply ec_length|apply dl_length|exact nm1 (by omega)|exact (Int.toNat_of_nonneg (by omega)).symm|exact dcu|fail))|fail) ?_)
    refine CG.cond_f rfl (by exact rho_of rfl) rfl ?_
    repeat (first|apply CG.seq|apply CG.region|apply SG.nil|apply NG.next|apply CG.skip|apply CG.block|apply CG.ret|apply CG.exit|apply CG.scope|apply NG.ret_then|apply NG.ret_block|apply NG.ret_scope|apply NG.exit_then|refine NG.exit_block rfl ?_|refine NG.exit_other rfl ?_|apply NG.exit_scope|apply NG.normal_block|apply NG.normal_scope|refine SG.val rfl rfl rfl rfl (by first|(apply qb64<;>(first|exact rfl|exact Ar.mk (by omega)|assumption|exact dct (by first|assumption|omega)|exact dcf (by first|assumption|omega)|exact List.not_mem_nil|apply dc_length|apply ec_length|apply dl_length|exact nm1 (by omega)|exact (Int.toNat_of_nonneg (by omega)).symm|exact dcu|fail))|(apply q64b<;>(first|exact rfl|exact Ar.mk (by omega)|assumption|exact dct (by first|assumption|omega)|exact dcf (by first|assumption|omega)|exact List.not_mem_nil|apply dc_length|apply ec_length|apply dl_length|exact nm1 (by omega)|exact (Int.toNat_of_nonneg (by omega)).symm|exact dcu|fail))|(apply qi64<;>(first|exact rfl|exact Ar.mk (by omega)|assumption|exact dct (by first|assumption|omega)|exact dcf (by first|assumption|omega)|exact List.not_mem_nil|apply dc_length|apply ec_length|apply dl_length|exact nm1 (by omega)|exact (Int.toNat_of_nonneg (by omega)).symm|exact dcu|fail))|((first|apply quad|apply quml|apply quxo|apply quor|apply quo8|apply quan|apply qush|apply qusr|apply qmi|apply qqi|apply qri|apply qqu|apply qru|apply qusb|apply qid|apply qia0|apply qia|apply qfh|apply qsa|apply qaa|apply qmv|apply qas|apply qlc|apply qla|apply qfa|apply qnc|apply qic|apply qix|apply qpk|apply qls|apply qei|apply qni|apply qed|apply qnd|apply qad|apply qln|apply qle|apply qgt|apply qge|apply qlk|apply qlv|apply qxt|apply qsb|apply qnt|apply qep|apply qnp|apply qeb|apply qnb|apply qcv|apply qlm|apply qfr|apply qto|apply qmx|apply qen|apply qsn)<;>(first|exact rfl|exact Ar.mk (by omega)|assumption|exact dct (by first|assumption|omega)|exact dcf (by first|assumption|omega)|exact List.not_mem_nil|apply dc_length|apply ec_length|apply dl_length|exact nm1 (by omega)|exact (Int.toNat_of_nonneg (by omega)).symm|exact dcu|fail))|fail) ?_)
    refine SG.buildSlice rfl rfl rfl rfl (bsi2 _ _) (fun b9 w9 hk9 hb9 hB9 => ?_)
    have hS9 : Sl ic 1 w9 (some ⟨b9, 0, none⟩) [d.stake, d.window] := Sl.of_blk (pre := []) (post := []) ic_len (T := 3) hB9
    refine SG.call rfl rfl rfl (by repeat' (first | exact True.intro | exact rho_of rfl | refine And.intro ?_ ?_)) ((put_spec (zs := [d.stake, d.window]) (c2 := 2) (hS8.kp hk9 (by simp)) hS9 (by simp) (by simp) (by have hw := whoB_len d.who; simp only [List.length_append]; omega)).mono (fun e w10 hh => ?_))
    obtain ⟨v10, he, ho10, hk10⟩ := hh
    refine ⟨_, he, ?_⟩
    have en : X ++ whoB d.who ++ putZ [d.stake, d.window] = nameB d := by rw [← hX]; rfl
    rw [en] at ho10
    obtain ⟨a10, c10, rfl, hS10⟩ := Bs.own ho10
    have hnl := nameB_len hl
    refine SG.ret rfl rfl rfl (by repeat' (first | exact True.intro | exact rho_of rfl | refine And.intro ?_ ?_)) (of_spec (l := nameB d) hS10.sl hS10.some hS10.lt (by omega) hS10.len) (fun w11 hk11 => ?_)
    have kz : Kp [] w2 w11 := ((k8.trans hk9).trans hk10).trans hk11
    refine SG.setAll (old := dc zd) (l := dc (nameD d)) rfl rfl (by exact rho_of rfl) (by exact rho_of rfl) (hB2.kp0 kz) (dc_length _) (dc_length _) (dc_one _) (fun w12 hk12 hB12 => ?_)
    have hrr : Row w12 b2 0 (dc (nameD d)) := Row.all hB12 rfl
    repeat (first|apply CG.seq|apply CG.region|apply SG.nil|apply NG.next|apply CG.skip|apply CG.block|apply CG.ret|apply CG.exit|apply CG.scope|apply NG.ret_then|apply NG.ret_block|apply NG.ret_scope|apply NG.exit_then|refine NG.exit_block rfl ?_|refine NG.exit_other rfl ?_|apply NG.exit_scope|apply NG.normal_block|apply NG.normal_scope|refine SG.val rfl rfl rfl rfl (by first|(apply qb64<;>(first|exact rfl|exact Ar.mk (by omega)|assumption|exact dct (by first|assumption|omega)|exact dcf (by first|assumption|omega)|exact List.not_mem_nil|apply dc_length|apply ec_length|apply dl_length|exact nm1 (by omega)|exact (Int.toNat_of_nonneg (by omega)).symm|exact dcu|fail))|(apply q64b<;>(first|exact rfl|exact Ar.mk (by omega)|assumption|exact dct (by first|assumption|omega)|exact dcf (by first|assumption|omega)|exact List.not_mem_nil|apply dc_length|apply ec_length|apply dl_length|exact nm1 (by omega)|exact (Int.toNat_of_nonneg (by omega)).symm|exact dcu|fail))|(apply qi64<;>(first|exact rfl|exact Ar.mk (by omega)|assumption|exact dct (by first|assumption|omega)|exact dcf (by first|assumption|omega)|exact List.not_mem_nil|apply dc_length|apply ec_length|apply dl_length|exact nm1 (by omega)|exact (Int.toNat_of_nonneg (by omega)).symm|exact dcu|fail))|((first|apply quad|apply quml|apply quxo|apply quor|apply quo8|apply quan|apply qush|apply qusr|apply qmi|apply qqi|apply qri|apply qqu|apply qru|apply qusb|apply qid|apply qia0|apply qia|apply qfh|apply qsa|apply qaa|apply qmv|apply qas|apply qlc|apply qla|apply qfa|apply qnc|apply qic|apply qix|apply qpk|apply qls|apply qei|apply qni|apply qed|apply qnd|apply qad|apply qln|apply qle|apply qgt|apply qge|apply qlk|apply qlv|apply qxt|apply qsb|apply qnt|apply qep|apply qnp|apply qeb|apply qnb|apply qcv|apply qlm|apply qfr|apply qto|apply qmx|apply qen|apply qsn)<;>(first|exact rfl|exact Ar.mk (by omega)|assumption|exact dct (by first|assumption|omega)|exact dcf (by first|assumption|omega)|exact List.not_mem_nil|apply dc_length|apply ec_length|apply dl_length|exact nm1 (by omega)|exact (Int.toNat_of_nonneg (by omega)).symm|exact dcu|fail))|fail) ?_)
    refine ret1 (Or.inl rfl) Try.results17 (by first | exact ResV.tmp rfl | exact ResV.agg rfl rfl (by assumption) (by first | exact dc_length _ | exact nc_length _ | exact rc_length _ _ _ | exact ec_length _ | exact dl_length _ _ _ _ | rfl) | exact ResV.cell rfl rfl (by assumption)) ?_
    exact ⟨rfl, (k2.trans kz).trans_new hk12 (new1 (by omega))⟩
end Go.Proofs.Ytnoipmimddoioaa
/-
  slices.SortFunc, laid at this seat; printed by a program.
-/
namespace Go.Proofs.Ytnoipmimddoioaa
open Go.Proofs Go.Shelf
set_option linter.unusedVariables false

def sortRen : Go.Shelf.Ren := ⟨fun | 6 => 37 | 15 => 69 | 14 => 68 | 28 => 94 | 29 => 95 | 20 => 86 | 21 => 87 | 22 => 88 | 23 => 89 | 24 => 90 | 25 => 91 | 26 => 92 | 27 => 93 | 46 => 103 | 47 => 104 | 48 => 105 | 49 => 106 | 50 => 107 | 57 => 110 | n => n, fun | 22 => 25 | 24 => 24 | 25 => 76 | 3 => 3 | 39 => 107 | 0 => 0 | 53 => 133 | 55 => 81 | 4 => 4 | 46 => 126 | 45 => 125 | 50 => 130 | 5 => 5 | 9 => 9 | 66 => 140 | 70 => 144 | 76 => 148 | 77 => 149 | n => n, fun n => n⟩
theorem sortL : SlLaysF0.n6 Try.prog sortRen where
  mixed := by kernel_rfl
  f6 := ⟨"slices.SortFunc[[]baize/hash.Digest,baize/hash.Digest]", by decide, Try.func37.trans (congrArg some (by kernel_rfl))⟩
  f14 := ⟨"slices.pdqsortCmpFunc[baize/hash.Digest]", by decide, Try.func68.trans (congrArg some (by kernel_rfl))⟩
  f15 := Try.func69.trans (congrArg some (by kernel_rfl))
  f20 := ⟨"slices.insertionSortCmpFunc[baize/hash.Digest]", by decide, Try.func86.trans (congrArg some (by kernel_rfl))⟩
  f21 := ⟨"slices.heapSortCmpFunc[baize/hash.Digest]", by decide, Try.func87.trans (congrArg some (by kernel_rfl))⟩
  f22 := ⟨"slices.breakPatternsCmpFunc[baize/hash.Digest]", by decide, Try.func88.trans (congrArg some (by kernel_rfl))⟩
  f23 := ⟨"slices.choosePivotCmpFunc[baize/hash.Digest]", by decide, Try.func89.trans (congrArg some (by kernel_rfl))⟩
  f24 := ⟨"slices.reverseRangeCmpFunc[baize/hash.Digest]", by decide, Try.func90.trans (congrArg some (by kernel_rfl))⟩
  f25 := ⟨"slices.partialInsertionSortCmpFunc[baize/hash.Digest]", by decide, Try.func91.trans (congrArg some (by kernel_rfl))⟩
  f26 := ⟨"slices.partitionEqualCmpFunc[baize/hash.Digest]", by decide, Try.func92.trans (congrArg some (by kernel_rfl))⟩
  f27 := ⟨"slices.partitionCmpFunc[baize/hash.Digest]", by decide, Try.func93.trans (congrArg some (by kernel_rfl))⟩
  f28 := Try.func94.trans (congrArg some (by kernel_rfl))
  f29 := Try.func95.trans (congrArg some (by kernel_rfl))
  f46 := ⟨"slices.siftDownCmpFunc[baize/hash.Digest]", by decide, Try.func103.trans (congrArg some (by kernel_rfl))⟩
  f47 := Try.func104.trans (congrArg some (by kernel_rfl))
  f48 := Try.func105.trans (congrArg some (by kernel_rfl))
  f49 := ⟨"slices.medianAdjacentCmpFunc[baize/hash.Digest]", by decide, Try.func106.trans (congrArg some (by kernel_rfl))⟩
  f50 := ⟨"slices.medianCmpFunc[baize/hash.Digest]", by decide, Try.func107.trans (congrArg some (by kernel_rfl))⟩
  f57 := ⟨"slices.order2CmpFunc[baize/hash.Digest]", by decide, Try.func110.trans (congrArg some (by kernel_rfl))⟩
  t0 := Try.underlying0
  a0 := Try.isAgg0
  z0 := Try.sizeOf0
  v0 := Try.zeroValue0
  t3 := Try.underlying3
  a3 := Try.isAgg3
  z3 := Try.sizeOf3
  v3 := Try.zeroValue3
  t4 := Try.underlying4
  a4 := Try.isAgg4
  z4 := Try.sizeOf4
  v4 := Try.zeroValue4
  t5 := Try.underlying5
  a5 := Try.isAgg5
  z5 := Try.sizeOf5
  v5 := Try.zeroValue5
  t9 := Try.underlying9
  a9 := Try.isAgg9
  z9 := Try.sizeOf9
  v9 := Try.zeroValue9
  t22 := Try.underlying25
  a22 := Try.isAgg25
  z22 := Try.sizeOf25
  v22 := Try.zeroValue25
  t25 := Try.underlying76
  a25 := Try.isAgg76
  z25 := Try.sizeOf76
  v25 := Try.zeroValue76
  t39 := Try.underlying107
  a39 := Try.isAgg107
  z39 := Try.sizeOf107
  v39 := Try.zeroValue107
  t45 := Try.underlying125
  a45 := Try.isAgg125
  z45 := Try.sizeOf125
  v45 := Try.zeroValue125
  t46 := Try.underlying126
  a46 := Try.isAgg126
  z46 := Try.sizeOf126
  v46 := Try.zeroValue126
  t50 := Try.underlying130
  a50 := Try.isAgg130
  z50 := Try.sizeOf130
  v50 := Try.zeroValue130
  t53 := Try.underlying133
  a53 := Try.isAgg133
  z53 := Try.sizeOf133
  v53 := Try.zeroValue133
  t55 := Try.underlying81
  a55 := Try.isAgg81
  z55 := Try.sizeOf81
  v55 := Try.zeroValue81
  t66 := Try.underlying140
  a66 := Try.isAgg140
  z66 := Try.sizeOf140
  v66 := Try.zeroValue140
  t70 := Try.underlying144
  a70 := Try.isAgg144
  z70 := Try.sizeOf144
  v70 := Try.zeroValue144
  t76 := Try.underlying148
  a76 := Try.isAgg148
  z76 := Try.sizeOf148
  v76 := Try.zeroValue148
  t77 := Try.underlying149
  a77 := Try.isAgg149
  z77 := Try.sizeOf149
  v77 := Try.zeroValue149
end Go.Proofs.Ytnoipmimddoioaa
/-
  slices.SortFunc on an owned row, by the kit's contract.
-/
namespace Go.Proofs.Ytnoipmimddoioaa
open Go.Proofs Go.Shelf Go.Sort
set_option linter.unusedVariables false

theorem Kp.grown {w w' : World} (h : Kp [] w w') : ∃ q os', w' = grow (w.drewN q) os' := by
  refine ⟨w'.drawn - w.drawn, w'.heap.extract w.heap.size w'.heap.size, ?_⟩
  obtain ⟨h1, h2, h3, h4, h5, h6, h7⟩ := h
  obtain ⟨hp, tp, dr, os, out⟩ := w
  obtain ⟨hp', tp', dr', os', out'⟩ := w'
  simp only at h1 h2 h3 h4 h5 h7
  subst h3
  subst h4
  subst h5
  have e1 : hp' = hp ++ hp'.extract hp.size hp'.size := by
    apply Array.ext_getElem?
    intro i
    rw [Array.getElem?_append]
    by_cases hi : i < hp.size
    · rw [if_pos hi]
      exact h2 i hi (by simp)
    · rw [if_neg hi, Array.getElem?_extract]
      by_cases hi2 : i < hp'.size
      · rw [if_pos (by omega), show hp.size + (i - hp.size) = i by omega]
      · rw [if_neg (by omega), Array.getElem?_eq_none (by omega)]
  have e2 : dr' = dr + (dr' - dr) := by omega
  simp only [grow, World.drewN, World.mk.injEq, true_and, and_true]
  exact ⟨e1, e2⟩
theorem Kp.grow (w : World) (os : Array Obj) : Kp [] w (grow w os) := by
  refine ⟨by simp, fun b hb _ => ?_, rfl, rfl, rfl, fun a ha => ?_, Nat.le_refl _⟩
  · show (w.heap ++ os)[b]? = _
    rw [Array.getElem?_append, if_pos hb]
  · refine frozen_same ?_
    show (w.heap ++ os)[a.block]? = _
    rw [Array.getElem?_append, if_pos ha]
theorem Kp.ahead (w : World) (n : Nat) : Kp [] w (Go.Sort.ahead w n) := ⟨Nat.le_refl _, fun _ _ _ => rfl, rfl, rfl, rfl, fun _ _ => rfl, Nat.le_add_right _ _⟩
theorem mapBlock_set {w : World} {g : Nat} {cs : Array Value} {T : TypeId} {fz : Nat × Nat} (h : Blk w g (.cells cs T fz)) (f : Array Value → Array Value) : mapBlock w g f = { w with heap := w.heap.setIfInBounds g (.cells (f cs) T fz) } := by
  unfold mapBlock
  congr 1
  apply Array.ext_getElem?
  intro i
  rw [Array.getElem?_modify, Array.getElem?_setIfInBounds]
  by_cases e : g = i
  · subst e
    rw [if_pos rfl, if_pos rfl, if_pos h.lt]
    have h' : w.heap[g]? = some (.cells cs T fz) := h
    rw [h']
    rfl
  · rw [if_neg e, if_neg e]

section
variable {α : Type} [Inhabited α] {enc : α → List Value} {k : Nat}
theorem flt_get (hk0 : 0 < k) (hk : ∀ x, (enc x).length = k) : ∀ (l : List α) (t : Nat), t < l.length * k → (flt enc l)[t]? = some ((enc l.toArray[t / k]!)[t % k]!) := by
  intro l
  induction l with
  | nil => intro t h; simp at h
  | cons x l ih =>
    intro t h
    have e : flt enc (x :: l) = enc x ++ flt enc l := by simp [flt]
    rw [e]
    by_cases ht : t < k
    · rw [List.getElem?_append_left (by rw [hk]; exact ht), Nat.div_eq_of_lt ht, Nat.mod_eq_of_lt ht]
      have : t < (enc x).length := by rw [hk]; exact ht
      simp [this]
    · rw [List.getElem?_append_right (by rw [hk]; omega), hk]
      have h' : t - k < l.length * k := by
        simp only [List.length_cons, Nat.add_mul, Nat.one_mul] at h
        omega
      rw [ih (t - k) h']
      have d1 : t / k = (t - k) / k + 1 := by
        rw [Nat.div_eq_sub_div hk0 (by omega)]
      have d2 : t % k = (t - k) % k := by rw [Nat.mod_eq_sub_mod (by omega)]
      rw [d1, d2]
      simp
theorem flatK_toList (hk0 : 0 < k) (hk : ∀ x, (enc x).length = k) (l : List α) : (flatK enc k l.toArray).toList = flt enc l := by
  apply List.ext_getElem?
  intro t
  by_cases ht : t < l.length * k
  · rw [flt_get hk0 hk l t ht]
    have hs : t < (flatK enc k l.toArray).size := by simpa using ht
    have := get_flatK enc k l.toArray t (by simpa using ht)
    rw [getElem!_pos _ t hs] at this
    rw [Array.getElem?_toList, Array.getElem?_eq_getElem hs, this]
  · rw [List.getElem?_eq_none (by simpa using Nat.le_of_not_lt ht), List.getElem?_eq_none (by rw [flt_length hk]; omega)]

theorem sort_own {P : Program} {ρ : Ren} (L : SlLaysF0.n6 P ρ) (aE : ∀ w, (isAgg (ρ.t 24)).run P w = .ok true w) (zE : ∀ w, (Go.sizeOf (ρ.t 24)).run P w = .ok k w) (hk0 : 0 < k) (hk : ∀ x, (enc x).length = k) (hone : ∀ x, allOne (enc x) = true)
    (cf : α → α → Int) (hO : SWO (ltOf cf)) (g : Nat) (eg : ∀ args w, (callFunc g args).run P w = .ok (.enter g args) w)
    (hcmp : ∀ x y W, Calls P g #[.agg (enc x).toArray, .agg (enc y).toArray] W (fun e w' => e = .returned (.int .i64 (cf x y)) ∧ Kp [] W w'))
    {w : World} {base : Nat} {T : TypeId} {v : Value} {l : List α} (ho : w.ownsRow base T k v l.length (flt enc l)) (hsz : l.length < 4611686018427387904) :
    Calls P (ρ.f 6) #[v, .func (.func g) #[] #[]] w (fun e w' => e = .returned (.tuple #[]) ∧ Kp (ownB v) w w' ∧ ∃ l', l'.Perm l ∧ l'.Pairwise (fun x y => ltOf cf y x = false) ∧ w'.ownsRow base T k v l.length (flt enc l')) := by
  have h1 : ∀ x, ∀ v ∈ enc x, v.oneCell' = true := fun x u hu => by rw [one_iff]; exact List.all_eq_true.1 (hone x) u hu
  have ho' := ho
  obtain ⟨hlen, ⟨rfl, h0⟩ | ⟨b, cap, cur, rfl, hb, hh, hc1, hc2, hc3, hc4⟩⟩ := ho
  · have hl : l = [] := by cases l with
      | nil => rfl
      | cons x l => simp at h0
    subst hl
    exact (AnyF.slices_SortFunc_none L none 0 _ w).mono (fun e w' ⟨he, hw⟩ => ⟨he, by rw [hw]; exact Kp.refl _ _, [], List.Perm.refl _, List.Pairwise.nil, by rw [hw]; exact ho'⟩)
  have hB : Blk w b (.cells cur T (0, 0)) := hh
  have hcur : ∀ t, t < l.length * k → cur[t]? = some ((enc l.toArray[t / k]!)[t % k]!) := fun t ht => by
    rw [← flt_get hk0 hk l t ht, ← hc4, List.getElem?_take_of_lt ht, Array.getElem?_toList]
  have hcell : ∀ (d : Array α), True := fun _ => trivial
  have hH : HoldsK enc k w b 0 l.toArray := fun j hj => by
    have hj' : j < l.length * k := by simpa using hj
    refine ⟨?_, frozen_soft (o := .cells cur T (0, 0)) hh rfl⟩
    unfold World.cell?
    simp only [hh, Nat.zero_add]
    rw [get_flatK enc k l.toArray j (by simpa using hj')]
    simpa using hcur j hj'
  have hcl : CmpLays P g #[] enc k cf b 0 l.toArray.size w := fun m os dk hdk x y => (hcmp x y _).mono (fun e w' ⟨he, hw⟩ => ⟨he, hw.grown⟩)
  have hc := AnyQ.slices_SortFunc L k aE zE enc hk h1 cf hO g #[] b 0 cap l.toArray w eg hcl hH hB.lt (by simpa using hsz)
  refine (show Calls P (ρ.f 6) #[.slice (some ⟨b, 0, none⟩) l.length cap, .func (.func g) #[] #[]] w _ from hc).mono (fun e w' hh' => ?_)
  obtain ⟨he, d', n, os, ⟨hp1, hp2, hp3⟩, hs, rfl⟩ := hh'
  have hd' : d'.size = l.length := by simpa using hp1
  have hperm : d'.toList.Perm l := by
    have e1 : (d'.extract 0 l.toArray.size).toList = d'.toList := by
      have : l.toArray.size = d'.size := hp1.symm
      rw [this]
      simp
    have e2 : (l.toArray.extract 0 l.toArray.size).toList = l := by simp
    rw [e1, e2] at hp3
    exact hp3
  have hBa : Blk (Go.Sort.ahead w n) b (.cells cur T (0, 0)) := hh
  have hset : putRowK enc k (Go.Sort.ahead w n) b 0 d' = { Go.Sort.ahead w n with heap := (Go.Sort.ahead w n).heap.setIfInBounds b (.cells (putCells id 0 (flatK enc k d') cur) T (0, 0)) } := mapBlock_set hBa _
  have hk1 : Kp [b] (Go.Sort.ahead w n) (putRowK enc k (Go.Sort.ahead w n) b 0 d') := by
    rw [hset]
    exact Kp.set _ hBa rfl rfl
  refine ⟨he, ?_, d'.toList, hperm, ?_, ?_⟩
  · show Kp [b] w _
    exact ((Kp.ahead w n).any.trans hk1).trans (Kp.grow _ _).any
  · rw [List.pairwise_iff_getElem]
    intro i j hi hj hij
    have := hs i j (Nat.zero_le _) hij (by simp at hj ⊢; omega)
    rw [getElem!_pos d' i (by simpa using hi), getElem!_pos d' j (by simpa using hj)] at this
    simpa using this
  · have hlist : d'.toList.length = l.length := by simpa using hd'
    refine ⟨by rw [flt_length hk, hlist], Or.inr ⟨b, cap, putCells id 0 (flatK enc k d') cur, rfl, hb, ?_, hc1, hc2, by simp [putCells, hc3], ?_⟩⟩
    · have : Blk (putRowK enc k (Go.Sort.ahead w n) b 0 d') b (.cells (putCells id 0 (flatK enc k d') cur) T (0, 0)) := by
        rw [hset]
        show ((Go.Sort.ahead w n).heap.setIfInBounds b _)[b]? = _
        rw [Array.getElem?_setIfInBounds, if_pos rfl, if_pos hBa.lt]
      exact this.kp0 (Kp.grow _ _)
    · have hcs : l.length * k ≤ cur.size := by rw [hc3]; exact Nat.mul_le_mul_right k hc1
      rw [← flatK_toList hk0 hk d'.toList]
      apply List.ext_getElem?
      intro t
      by_cases ht : t < l.length * k
      · have htc : t < cur.size := by omega
        have htf : t < (flatK enc k d').size := by simp [hd']; exact ht
        rw [List.getElem?_take_of_lt ht, Array.getElem?_toList, Array.getElem?_toList]
        simp only [putCells, Array.getElem?_mapIdx, Array.getElem?_eq_getElem htc, Option.map_some, Nat.zero_le, true_and, Nat.zero_add, Nat.sub_zero, id_eq]
        rw [if_pos htf, getElem!_pos _ t htf, Array.toArray_toList, Array.getElem?_eq_getElem htf]
      · rw [List.getElem?_eq_none (by simp; omega), List.getElem?_eq_none (by simp [hd']; omega)]
end
end Go.Proofs.Ytnoipmimddoioaa
/-
  Function values: made, with what they hold; called.
-/
namespace Go.Proofs.Ytnoipmimddoioaa
set_option linter.unusedVariables false
section
variable {P : Program} {n : Nat} {Q : Exit → Act → World → Prop} {L : Env} {w w0 : World} {ops rest : List Oper} {ty : TypeId} {pos : String} {af : Array Edge} {g : Option (Nat × Bool)} {S : List Nat} {F : World → Prop}
/-- A function value. -/
def fnv (f : FuncId) (caps : List Value) : Value := .func (.func f) #[] caps.toArray
theorem ro_map : ∀ {cs : List Operand} {vs : List Value}, cs.map (ro L) = vs.map some → cs.map (rho L) = vs
  | [], vs, h => by cases vs <;> simp at h ⊢
  | x :: cs, [], h => by simp at h
  | x :: cs, v :: vs, h => by
    simp only [List.map_cons, List.cons.injEq] at h ⊢
    exact ⟨rho_of h.1, ro_map h.2⟩
theorem qmf {d : Option Nat} {f : FuncId} {cs : List Operand} {vs : List Value} (h : cs.map (ro L) = vs.map some) : Vals P S w0 F L ⟨d, .makeFunc (.func f) #[] cs.toArray, ty, pos, af, g⟩ (fnv f vs) := fun w _ _ => by
  have e : cs.map (rho L) = vs := ro_map h
  simp [execOp, Instr.makeFunc, fnv, e]
theorem run_callV {f : FuncId} [Fn : Fnc P f] {x : Operand} {args : List Operand} {vs caps : List Value} {tys : Array TypeId} {d : Option Nat} (hf : rho L x = fnv f caps) (he : Evs L args vs) :
    (execOp (rho L) ⟨d, .call ⟨.value x, args.toArray, tys⟩, ty, pos, af, g⟩).run P w = .ok (.enter f (vs ++ caps).toArray) w := by
  simp only [execOp, resolve, hf, fnv, Deferred.ofValue, he.arr]
  simp [invoke, Fn.run]
/-- A call of a function value in text order. -/
theorem SG.callV {d : Nat} {f : FuncId} [Fn : Fnc P f] {x : Operand} {args : List Operand} {vs caps : List Value} {tys : Array TypeId} (hd : Nat.blt d n = true) (hw : want ops L ⟨some d, .call ⟨.value x, args.toArray, tys⟩, ty, pos, af, g⟩ = some true) (hk : (Op.call ⟨.value x, args.toArray, tys⟩).operands.toList.all (known L) = true)
    (hf : rho L x = fnv f caps) (he : Evs L args vs) (hc : Calls P f (vs ++ caps).toArray w (fun e w' => ∃ v, e = .returned v ∧ SG P n ops Q rest ((d, v) :: L) w')) : SG P n ops Q (⟨some d, .call ⟨.value x, args.toArray, tys⟩, ty, pos, af, g⟩ :: rest) L w := by
  refine SG.op (by simpa using hd) rfl hw hk ?_
  unfold OpRun
  rw [run_callV (Fn := Fn) hf he]
  exact hc
theorem SG.retVC {d : Nat} {f : FuncId} [Fn : Fnc P f] {x : Operand} {args : List Operand} {vs caps : List Value} {tys : Array TypeId} {v : Value} (hd : Nat.blt d n = true) (hw : want ops L ⟨some d, .call ⟨.value x, args.toArray, tys⟩, ty, pos, af, g⟩ = some true) (hk : (Op.call ⟨.value x, args.toArray, tys⟩).operands.toList.all (known L) = true)
    (hf : rho L x = fnv f caps) (he : Evs L args vs) (hc : Ret P f (vs ++ caps).toArray w v) (h : ∀ w', Kp [] w w' → SG P n ops Q rest ((d, v) :: L) w') : SG P n ops Q (⟨some d, .call ⟨.value x, args.toArray, tys⟩, ty, pos, af, g⟩ :: rest) L w :=
  SG.callV (Fn := Fn) hd hw hk hf he (hc.mono (fun e w' ⟨h1, h2⟩ => ⟨v, h1, h w' h2⟩))
end
end Go.Proofs.Ytnoipmimddoioaa
/-
  slices.SortFunc on an owned row, by a function value that holds something.
-/
namespace Go.Proofs.Ytnoipmimddoioaa
open Go.Proofs Go.Shelf Go.Sort
set_option linter.unusedVariables false
section
variable {α : Type} [Inhabited α] {enc : α → List Value} {k : Nat}
theorem sort_ownC {P : Program} {ρ : Ren} (L : SlLaysF0.n6 P ρ) (aE : ∀ w, (isAgg (ρ.t 24)).run P w = .ok true w) (zE : ∀ w, (Go.sizeOf (ρ.t 24)).run P w = .ok k w) (hk0 : 0 < k) (hk : ∀ x, (enc x).length = k) (hone : ∀ x, allOne (enc x) = true)
    (cf : α → α → Int) (hO : SWO (ltOf cf)) (g : Nat) (eg : ∀ args w, (callFunc g args).run P w = .ok (.enter g args) w)
    (cb : List Value) {w : World} {base : Nat} {T : TypeId} {v : Value} {l : List α} (ho : w.ownsRow base T k v l.length (flt enc l)) (hsz : l.length < 4611686018427387904)
    (hcmp : ∀ x y W, Kp (ownB v) w W → Calls P g (#[.agg (enc x).toArray, .agg (enc y).toArray] ++ cb.toArray) W (fun e w' => e = .returned (.int .i64 (cf x y)) ∧ Kp [] W w')) :
    Calls P (ρ.f 6) #[v, fnv g cb] w (fun e w' => e = .returned (.tuple #[]) ∧ Kp (ownB v) w w' ∧ ∃ l', l'.Perm l ∧ l'.Pairwise (fun x y => ltOf cf y x = false) ∧ w'.ownsRow base T k v l.length (flt enc l')) := by
  have h1 : ∀ x, ∀ v ∈ enc x, v.oneCell' = true := fun x u hu => by rw [one_iff]; exact List.all_eq_true.1 (hone x) u hu
  have ho' := ho
  obtain ⟨hlen, ⟨rfl, h0⟩ | ⟨b, cap, cur, rfl, hb, hh, hc1, hc2, hc3, hc4⟩⟩ := ho
  · have hl : l = [] := by cases l with
      | nil => rfl
      | cons x l => simp at h0
    subst hl
    exact (AnyF.slices_SortFunc_none L none 0 _ w).mono (fun e w' ⟨he, hw⟩ => ⟨he, by rw [hw]; exact Kp.refl _ _, [], List.Perm.refl _, List.Pairwise.nil, by rw [hw]; exact ho'⟩)
  have hB : Blk w b (.cells cur T (0, 0)) := hh
  have hcur : ∀ t, t < l.length * k → cur[t]? = some ((enc l.toArray[t / k]!)[t % k]!) := fun t ht => by
    rw [← flt_get hk0 hk l t ht, ← hc4, List.getElem?_take_of_lt ht, Array.getElem?_toList]
  have hcell : ∀ (d : Array α), True := fun _ => trivial
  have hH : HoldsK enc k w b 0 l.toArray := fun j hj => by
    have hj' : j < l.length * k := by simpa using hj
    refine ⟨?_, frozen_soft (o := .cells cur T (0, 0)) hh rfl⟩
    unfold World.cell?
    simp only [hh, Nat.zero_add]
    rw [get_flatK enc k l.toArray j (by simpa using hj')]
    simpa using hcur j hj'
  have hkw : ∀ (m : Nat) (os : Array Obj) (dk : Array α), Kp [b] w (sortWorldK enc k w b 0 m dk os) := fun m os dk => by
    have hBa : Blk (Go.Sort.ahead w m) b (.cells cur T (0, 0)) := hh
    have hset : putRowK enc k (Go.Sort.ahead w m) b 0 dk = { Go.Sort.ahead w m with heap := (Go.Sort.ahead w m).heap.setIfInBounds b (.cells (putCells id 0 (flatK enc k dk) cur) T (0, 0)) } := mapBlock_set hBa _
    have hk1 : Kp [b] (Go.Sort.ahead w m) (putRowK enc k (Go.Sort.ahead w m) b 0 dk) := by
      rw [hset]
      exact Kp.set _ hBa rfl rfl
    exact ((Kp.ahead w m).any.trans hk1).trans (Kp.grow _ _).any
  have hcl : CmpLays P g cb.toArray enc k cf b 0 l.toArray.size w := fun m os dk hdk x y => (hcmp x y _ (hkw m os dk)).mono (fun e w' ⟨he, hw⟩ => ⟨he, hw.grown⟩)
  have hc := AnyQ.slices_SortFunc L k aE zE enc hk h1 cf hO g cb.toArray b 0 cap l.toArray w eg hcl hH hB.lt (by simpa using hsz)
  refine (show Calls P (ρ.f 6) #[.slice (some ⟨b, 0, none⟩) l.length cap, fnv g cb] w _ from hc).mono (fun e w' hh' => ?_)
  obtain ⟨he, d', n, os, ⟨hp1, hp2, hp3⟩, hs, rfl⟩ := hh'
  have hd' : d'.size = l.length := by simpa using hp1
  have hperm : d'.toList.Perm l := by
    have e1 : (d'.extract 0 l.toArray.size).toList = d'.toList := by
      have : l.toArray.size = d'.size := hp1.symm
      rw [this]
      simp
    have e2 : (l.toArray.extract 0 l.toArray.size).toList = l := by simp
    rw [e1, e2] at hp3
    exact hp3
  have hBa : Blk (Go.Sort.ahead w n) b (.cells cur T (0, 0)) := hh
  have hset : putRowK enc k (Go.Sort.ahead w n) b 0 d' = { Go.Sort.ahead w n with heap := (Go.Sort.ahead w n).heap.setIfInBounds b (.cells (putCells id 0 (flatK enc k d') cur) T (0, 0)) } := mapBlock_set hBa _
  have hk1 : Kp [b] (Go.Sort.ahead w n) (putRowK enc k (Go.Sort.ahead w n) b 0 d') := by
    rw [hset]
    exact Kp.set _ hBa rfl rfl
  refine ⟨he, ?_, d'.toList, hperm, ?_, ?_⟩
  · show Kp [b] w _
    exact ((Kp.ahead w n).any.trans hk1).trans (Kp.grow _ _).any
  · rw [List.pairwise_iff_getElem]
    intro i j hi hj hij
    have := hs i j (Nat.zero_le _) hij (by simp at hj ⊢; omega)
    rw [getElem!_pos d' i (by simpa using hi), getElem!_pos d' j (by simpa using hj)] at this
    simpa using this
  · have hlist : d'.toList.length = l.length := by simpa using hd'
    refine ⟨by rw [flt_length hk, hlist], Or.inr ⟨b, cap, putCells id 0 (flatK enc k d') cur, rfl, hb, ?_, hc1, hc2, by simp [putCells, hc3], ?_⟩⟩
    · have : Blk (putRowK enc k (Go.Sort.ahead w n) b 0 d') b (.cells (putCells id 0 (flatK enc k d') cur) T (0, 0)) := by
        rw [hset]
        show ((Go.Sort.ahead w n).heap.setIfInBounds b _)[b]? = _
        rw [Array.getElem?_setIfInBounds, if_pos rfl, if_pos hBa.lt]
      exact this.kp0 (Kp.grow _ _)
    · have hcs : l.length * k ≤ cur.size := by rw [hc3]; exact Nat.mul_le_mul_right k hc1
      rw [← flatK_toList hk0 hk d'.toList]
      apply List.ext_getElem?
      intro t
      by_cases ht : t < l.length * k
      · have htc : t < cur.size := by omega
        have htf : t < (flatK enc k d').size := by simp [hd']; exact ht
        rw [List.getElem?_take_of_lt ht, Array.getElem?_toList, Array.getElem?_toList]
        simp only [putCells, Array.getElem?_mapIdx, Array.getElem?_eq_getElem htc, Option.map_some, Nat.zero_le, true_and, Nat.zero_add, Nat.sub_zero, id_eq]
        rw [if_pos htf, getElem!_pos _ t htf, Array.toArray_toList, Array.getElem?_eq_getElem htf]
      · rw [List.getElem?_eq_none (by simp; omega), List.getElem?_eq_none (by simp [hd']; omega)]
end
end Go.Proofs.Ytnoipmimddoioaa
/-
  Digests by their numbers; digests with a mix, by their numbers.
-/
namespace Go.Proofs.Ytnoipmimddoioaa
open Go.Proofs Go.Shelf Go.Sort
set_option linter.unusedVariables false

/-! ### plainly -/
def cmpN (x y : Nat) : Int := if x < y then -1 else if y < x then 1 else 0
def firstNZ : List Int → Int
  | [] => 0
  | z :: zs => if z = 0 then firstNZ zs else z
def cmpD (a b : Dg) : Int := cmpN (num a) (num b)
def cmpW (m : Dg) (a b : Dg) : Int := firstNZ [cmpD (twoI m a) (twoI m b), cmpD a b]
def kW (m : Dg) (d : Dg) : Nat := num (twoI m d) * 18446744073709551616 + num d
theorem cmpW_eq (m a b : Dg) : cmpW m a b = firstNZ [cmpD (twoI m a) (twoI m b), cmpD a b] := rfl
theorem cmpN_lt {x y : Nat} : cmpN x y < 0 ↔ x < y := by
  unfold cmpN
  split
  · exact ⟨fun _ => by assumption, fun _ => by decide⟩
  · split
    · exact ⟨fun h => absurd h (by decide), fun h => absurd h (by assumption)⟩
    · exact ⟨fun h => absurd h (by decide), fun h => absurd h (by assumption)⟩
theorem cmpN_zero {x y : Nat} : cmpN x y = 0 ↔ x = y := by
  unfold cmpN
  by_cases h1 : x < y
  · rw [if_pos h1]; omega
  · rw [if_neg h1]
    by_cases h2 : y < x
    · rw [if_pos h2]; omega
    · rw [if_neg h2]; omega
theorem cmpW_lt {m a b : Dg} : cmpW m a b < 0 ↔ kW m a < kW m b := by
  have ha := num_lt a
  have hb := num_lt b
  unfold cmpW kW cmpD firstNZ firstNZ firstNZ
  by_cases h : cmpN (num (twoI m a)) (num (twoI m b)) = 0
  · rw [if_pos h]
    have he := cmpN_zero.1 h
    rw [he]
    by_cases h2 : cmpN (num a) (num b) = 0
    · rw [if_pos h2]
      have := cmpN_zero.1 h2
      omega
    · rw [if_neg h2, cmpN_lt]
      omega
  · rw [if_neg h, cmpN_lt]
    have hne : num (twoI m a) ≠ num (twoI m b) := fun e => h (cmpN_zero.2 e)
    omega
theorem kW_inj {m a b : Dg} (h : kW m a = kW m b) : a = b := by
  have ha := num_lt a
  have hb := num_lt b
  refine num_inj ?_
  unfold kW at h
  omega
/-- An order by a number. -/
theorem swo_key {α : Type} (cf : α → α → Int) (key : α → Nat) (h : ∀ x y, cf x y < 0 ↔ key x < key y) : SWO (ltOf cf) where
  irrefl x := decide_eq_false (by rw [h]; omega)
  trans x y z h1 h2 := by
    have h1 := of_decide_eq_true h1
    have h2 := of_decide_eq_true h2
    rw [h] at h1 h2
    exact decide_eq_true (by rw [h]; omega)
  ntrans x y z h1 h2 := by
    have h1 := of_decide_eq_false h1
    have h2 := of_decide_eq_false h2
    rw [h] at h1 h2
    exact decide_eq_false (by rw [h]; omega)
theorem ltOf_false {α : Type} {cf : α → α → Int} {key : α → Nat} (h : ∀ x y, cf x y < 0 ↔ key x < key y) {x y : α} : ltOf cf y x = false ↔ key x ≤ key y := by
  constructor
  · intro h1
    have h1 := of_decide_eq_false h1
    rw [h] at h1
    omega
  · intro h1
    exact decide_eq_false (by rw [h]; omega)
/-- Put where it belongs, behind its likes; all put so. -/
def insK {α : Type} (key : α → Nat) (x : α) : List α → List α
  | [] => [x]
  | y :: r => if key y ≤ key x then y :: insK key x r else x :: y :: r
def sortK {α : Type} (key : α → Nat) (l : List α) : List α := l.foldl (fun acc x => insK key x acc) []
theorem insK_perm {α : Type} (key : α → Nat) (x : α) : ∀ l : List α, (insK key x l).Perm (x :: l)
  | [] => List.Perm.refl _
  | y :: r => by
    unfold insK
    split
    · exact ((insK_perm key x r).cons y).trans (List.Perm.swap x y r)
    · exact List.Perm.refl _
theorem insK_sorted {α : Type} (key : α → Nat) (x : α) : ∀ l : List α, l.Pairwise (fun a b => key a ≤ key b) → (insK key x l).Pairwise (fun a b => key a ≤ key b)
  | [], _ => by simp [insK]
  | y :: r, h => by
    have h' := List.pairwise_cons.1 h
    unfold insK
    split
    · rename_i hle
      refine List.pairwise_cons.2 ⟨fun z hz => ?_, insK_sorted key x r h'.2⟩
      rcases List.mem_cons.1 ((insK_perm key x r).mem_iff.1 hz) with rfl | hz
      · exact hle
      · exact h'.1 z hz
    · rename_i hle
      refine List.pairwise_cons.2 ⟨fun z hz => ?_, h⟩
      rcases List.mem_cons.1 hz with rfl | hz
      · omega
      · have := h'.1 z hz
        omega
theorem sortK_go {α : Type} (key : α → Nat) : ∀ (l acc : List α), acc.Pairwise (fun a b => key a ≤ key b) → (l.foldl (fun acc x => insK key x acc) acc).Perm (l ++ acc) ∧ (l.foldl (fun acc x => insK key x acc) acc).Pairwise (fun a b => key a ≤ key b)
  | [], acc, h => ⟨List.Perm.refl _, h⟩
  | x :: l, acc, h => by
    obtain ⟨h1, h2⟩ := sortK_go key l (insK key x acc) (insK_sorted key x acc h)
    refine ⟨h1.trans ?_, h2⟩
    exact ((insK_perm key x acc).append_left l).trans List.perm_middle
theorem sortK_perm {α : Type} (key : α → Nat) (l : List α) : (sortK key l).Perm l := by simpa [sortK] using (sortK_go key l [] List.Pairwise.nil).1
theorem sortK_sorted {α : Type} (key : α → Nat) (l : List α) : (sortK key l).Pairwise (fun a b => key a ≤ key b) := (sortK_go key l [] List.Pairwise.nil).2
/-- There is one such order. -/
theorem sorted_uniq {α : Type} {key : α → Nat} (hk : ∀ x y, key x = key y → x = y) {l l' m : List α} (h1 : l.Perm m) (h2 : l'.Perm m) (s1 : l.Pairwise (fun a b => key a ≤ key b)) (s2 : l'.Pairwise (fun a b => key a ≤ key b)) : l = l' :=
  (h1.trans h2.symm).eq_of_pairwise (fun a b _ _ h h' => hk a b (by omega)) s1 s2

end Go.Proofs.Ytnoipmimddoioaa
/-
  Digests by their numbers; digests with a mix, by their numbers.
-/
namespace Go.Proofs.Ytnoipmimddoioaa
open Go.Proofs Go.Shelf Go.Sort
set_option linter.unusedVariables false

theorem sl_ic {w : World} {b : Nat} {T : TypeId} {zs : List Int} (h : Blk w b (.cells (flt ic zs).toArray T)) : Sl ic 1 w (some ⟨b, 0, none⟩) zs := flt_rowf ic_len h
theorem cmpD_lt {a b : Dg} : cmpD a b < 0 ↔ num a < num b := cmpN_lt
theorem cmpD_eq (a b : Dg) : cmpD a b = cmpN (num a) (num b) := rfl
/-! ### the walks -/
attribute [local irreducible] CG NG SG Vals Der Row Blk MapIs IterAt addI xorI orI andI shlI shrI mulI twoI cmpD cmpW kW
set_option maxHeartbeats 16000000 in
theorem nan_spec (x : Int) (w : World) : Ret Try.prog 96 #[.int .u64 x] w (.bool false) := by
  refine enter1 Try.func96 rfl Try.ntmps96 rfl ?_
  have g : x = x := rfl
  repeat (first|apply CG.seq|apply CG.region|apply SG.nil|apply NG.next|apply CG.skip|apply CG.block|apply CG.ret|apply CG.exit|apply CG.scope|apply NG.ret_then|apply NG.ret_block|apply NG.ret_scope|apply NG.exit_then|refine NG.exit_block rfl ?_|refine NG.exit_other rfl ?_|apply NG.exit_scope|apply NG.normal_block|apply NG.normal_scope|refine SG.val rfl rfl rfl rfl (by first|((first|apply qid|apply qia0|apply qia|apply qmf|apply qmn|apply qmv|apply qas|apply qlc|apply qla|apply qfa|apply qnc|apply qic|apply qix|apply qpk|apply qls|apply qei|apply qni|apply qed|apply qnd|apply qad|apply qln|apply qle|apply qgt|apply qge|apply qlk|apply qlv|apply qxt|apply qsb|apply qnt|apply qep|apply qnp|apply qeb|apply qnb|apply qcv|apply qlm|apply qfr|apply qto|apply qmx|apply qen|apply qsn)<;>(first|exact rfl|exact Ar.mk (by omega)|assumption|exact dct (by first|assumption|omega)|exact dcf (by first|assumption|omega)|exact List.not_mem_nil|apply dc_length|apply ec_length|apply dl_length|exact nm1 (by omega)|exact (Int.toNat_of_nonneg (by omega)).symm|exact dcu|fail))|fail) ?_)
  refine ret1 (Or.inl rfl) Try.results96 (by first | exact ResV.tmp rfl | exact ResV.agg rfl rfl (by assumption) (by first | exact dc_length _ | exact nc_length _ | exact rc_length _ _ _ | exact ec_length _ | exact dl_length _ _ _ _ | rfl) | exact ResV.cell rfl rfl (by assumption)) ?_
  exact ⟨by simp, Kp.refl _ _⟩
set_option maxHeartbeats 16000000 in
theorem compare_spec (x y : Nat) (w : World) : Ret Try.prog 70 #[.int .u64 (x : Int), .int .u64 (y : Int)] w (.int .i64 (cmpN x y)) := by
  refine enter2 Try.func70 rfl Try.ntmps70 rfl ?_
  unfold cmpN
  repeat (first|apply CG.seq|apply CG.region|apply SG.nil|apply NG.next|apply CG.skip|apply CG.block|apply CG.ret|apply CG.exit|apply CG.scope|apply NG.ret_then|apply NG.ret_block|apply NG.ret_scope|apply NG.exit_then|refine NG.exit_block rfl ?_|refine NG.exit_other rfl ?_|apply NG.exit_scope|apply NG.normal_block|apply NG.normal_scope|refine SG.val rfl rfl rfl rfl (by first|((first|apply qid|apply qia0|apply qia|apply qmf|apply qmn|apply qmv|apply qas|apply qlc|apply qla|apply qfa|apply qnc|apply qic|apply qix|apply qpk|apply qls|apply qei|apply qni|apply qed|apply qnd|apply qad|apply qln|apply qle|apply qgt|apply qge|apply qlk|apply qlv|apply qxt|apply qsb|apply qnt|apply qep|apply qnp|apply qeb|apply qnb|apply qcv|apply qlm|apply qfr|apply qto|apply qmx|apply qen|apply qsn)<;>(first|exact rfl|exact Ar.mk (by omega)|assumption|exact dct (by first|assumption|omega)|exact dcf (by first|assumption|omega)|exact List.not_mem_nil|apply dc_length|apply ec_length|apply dl_length|exact nm1 (by omega)|exact (Int.toNat_of_nonneg (by omega)).symm|exact dcu|fail))|fail) ?_)
  refine SG.ret rfl rfl rfl (by repeat' (first | exact True.intro | exact rho_of rfl | refine And.intro ?_ ?_)) (nan_spec x w) (fun w1 hk1 => ?_)
  repeat (first|apply CG.seq|apply CG.region|apply SG.nil|apply NG.next|apply CG.skip|apply CG.block|apply CG.ret|apply CG.exit|apply CG.scope|apply NG.ret_then|apply NG.ret_block|apply NG.ret_scope|apply NG.exit_then|refine NG.exit_block rfl ?_|refine NG.exit_other rfl ?_|apply NG.exit_scope|apply NG.normal_block|apply NG.normal_scope|refine SG.val rfl rfl rfl rfl (by first|((first|apply qid|apply qia0|apply qia|apply qmf|apply qmn|apply qmv|apply qas|apply qlc|apply qla|apply qfa|apply qnc|apply qic|apply qix|apply qpk|apply qls|apply qei|apply qni|apply qed|apply qnd|apply qad|apply qln|apply qle|apply qgt|apply qge|apply qlk|apply qlv|apply qxt|apply qsb|apply qnt|apply qep|apply qnp|apply qeb|apply qnb|apply qcv|apply qlm|apply qfr|apply qto|apply qmx|apply qen|apply qsn)<;>(first|exact rfl|exact Ar.mk (by omega)|assumption|exact dct (by first|assumption|omega)|exact dcf (by first|assumption|omega)|exact List.not_mem_nil|apply dc_length|apply ec_length|apply dl_length|exact nm1 (by omega)|exact (Int.toNat_of_nonneg (by omega)).symm|exact dcu|fail))|fail) ?_)
  refine SG.ret rfl rfl rfl (by repeat' (first | exact True.intro | exact rho_of rfl | refine And.intro ?_ ?_)) (nan_spec y w1) (fun w2 hk2 => ?_)
  have k2 := hk1.trans hk2
  repeat (first|apply CG.seq|apply CG.region|apply SG.nil|apply NG.next|apply CG.skip|apply CG.block|apply CG.ret|apply CG.exit|apply CG.scope|apply NG.ret_then|apply NG.ret_block|apply NG.ret_scope|apply NG.exit_then|refine NG.exit_block rfl ?_|refine NG.exit_other rfl ?_|apply NG.exit_scope|apply NG.normal_block|apply NG.normal_scope|refine SG.val rfl rfl rfl rfl (by first|((first|apply qid|apply qia0|apply qia|apply qmf|apply qmn|apply qmv|apply qas|apply qlc|apply qla|apply qfa|apply qnc|apply qic|apply qix|apply qpk|apply qls|apply qei|apply qni|apply qed|apply qnd|apply qad|apply qln|apply qle|apply qgt|apply qge|apply qlk|apply qlv|apply qxt|apply qsb|apply qnt|apply qep|apply qnp|apply qeb|apply qnb|apply qcv|apply qlm|apply qfr|apply qto|apply qmx|apply qen|apply qsn)<;>(first|exact rfl|exact Ar.mk (by omega)|assumption|exact dct (by first|assumption|omega)|exact dcf (by first|assumption|omega)|exact List.not_mem_nil|apply dc_length|apply ec_length|apply dl_length|exact nm1 (by omega)|exact (Int.toNat_of_nonneg (by omega)).symm|exact dcu|fail))|fail) ?_)
  refine CG.cond_f rfl (by exact rho_of rfl) rfl ?_
  repeat (first|apply CG.seq|apply CG.region|apply SG.nil|apply NG.next|apply CG.skip|apply CG.block|apply CG.ret|apply CG.exit|apply CG.scope|apply NG.ret_then|apply NG.ret_block|apply NG.ret_scope|apply NG.exit_then|refine NG.exit_block rfl ?_|refine NG.exit_other rfl ?_|apply NG.exit_scope|apply NG.normal_block|apply NG.normal_scope|refine SG.val rfl rfl rfl rfl (by first|((first|apply qid|apply qia0|apply qia|apply qmf|apply qmn|apply qmv|apply qas|apply qlc|apply qla|apply qfa|apply qnc|apply qic|apply qix|apply qpk|apply qls|apply qei|apply qni|apply qed|apply qnd|apply qad|apply qln|apply qle|apply qgt|apply qge|apply qlk|apply qlv|apply qxt|apply qsb|apply qnt|apply qep|apply qnp|apply qeb|apply qnb|apply qcv|apply qlm|apply qfr|apply qto|apply qmx|apply qen|apply qsn)<;>(first|exact rfl|exact Ar.mk (by omega)|assumption|exact dct (by first|assumption|omega)|exact dcf (by first|assumption|omega)|exact List.not_mem_nil|apply dc_length|apply ec_length|apply dl_length|exact nm1 (by omega)|exact (Int.toNat_of_nonneg (by omega)).symm|exact dcu|fail))|fail) ?_)
  refine CG.cond_f rfl (by exact rho_of rfl) rfl ?_
  by_cases h1 : x < y
  · have g1 : (x : Int) < (y : Int) := by omega
    rw [if_pos h1]
    repeat (first|apply CG.seq|apply CG.region|apply SG.nil|apply NG.next|apply CG.skip|apply CG.block|apply CG.ret|apply CG.exit|apply CG.scope|apply NG.ret_then|apply NG.ret_block|apply NG.ret_scope|apply NG.exit_then|refine NG.exit_block rfl ?_|refine NG.exit_other rfl ?_|apply NG.exit_scope|apply NG.normal_block|apply NG.normal_scope|refine SG.val rfl rfl rfl rfl (by first|((first|apply qid|apply qia0|apply qia|apply qmf|apply qmn|apply qmv|apply qas|apply qlc|apply qla|apply qfa|apply qnc|apply qic|apply qix|apply qpk|apply qls|apply qei|apply qni|apply qed|apply qnd|apply qad|apply qln|apply qle|apply qgt|apply qge|apply qlk|apply qlv|apply qxt|apply qsb|apply qnt|apply qep|apply qnp|apply qeb|apply qnb|apply qcv|apply qlm|apply qfr|apply qto|apply qmx|apply qen|apply qsn)<;>(first|exact rfl|exact Ar.mk (by omega)|assumption|exact dct (by first|assumption|omega)|exact dcf (by first|assumption|omega)|exact List.not_mem_nil|apply dc_length|apply ec_length|apply dl_length|exact nm1 (by omega)|exact (Int.toNat_of_nonneg (by omega)).symm|exact dcu|fail))|fail) ?_)
    refine CG.cond_t rfl (by exact rho_of rfl) rfl ?_
    repeat (first|apply CG.seq|apply CG.region|apply SG.nil|apply NG.next|apply CG.skip|apply CG.block|apply CG.ret|apply CG.exit|apply CG.scope|apply NG.ret_then|apply NG.ret_block|apply NG.ret_scope|apply NG.exit_then|refine NG.exit_block rfl ?_|refine NG.exit_other rfl ?_|apply NG.exit_scope|apply NG.normal_block|apply NG.normal_scope|refine SG.val rfl rfl rfl rfl (by first|((first|apply qid|apply qia0|apply qia|apply qmf|apply qmn|apply qmv|apply qas|apply qlc|apply qla|apply qfa|apply qnc|apply qic|apply qix|apply qpk|apply qls|apply qei|apply qni|apply qed|apply qnd|apply qad|apply qln|apply qle|apply qgt|apply qge|apply qlk|apply qlv|apply qxt|apply qsb|apply qnt|apply qep|apply qnp|apply qeb|apply qnb|apply qcv|apply qlm|apply qfr|apply qto|apply qmx|apply qen|apply qsn)<;>(first|exact rfl|exact Ar.mk (by omega)|assumption|exact dct (by first|assumption|omega)|exact dcf (by first|assumption|omega)|exact List.not_mem_nil|apply dc_length|apply ec_length|apply dl_length|exact nm1 (by omega)|exact (Int.toNat_of_nonneg (by omega)).symm|exact dcu|fail))|fail) ?_)
    refine ret1 (Or.inl rfl) Try.results70 (by first | exact ResV.tmp rfl | exact ResV.agg rfl rfl (by assumption) (by first | exact dc_length _ | exact nc_length _ | exact rc_length _ _ _ | exact ec_length _ | exact dl_length _ _ _ _ | rfl) | exact ResV.cell rfl rfl (by assumption)) ?_
    exact ⟨rfl, k2⟩
  · have g1 : ¬ (x : Int) < (y : Int) := by omega
    rw [if_neg h1]
    by_cases h2 : y < x
    · have g2 : (y : Int) < (x : Int) := by omega
      rw [if_pos h2]
      repeat (first|apply CG.seq|apply CG.region|apply SG.nil|apply NG.next|apply CG.skip|apply CG.block|apply CG.ret|apply CG.exit|apply CG.scope|apply NG.ret_then|apply NG.ret_block|apply NG.ret_scope|apply NG.exit_then|refine NG.exit_block rfl ?_|refine NG.exit_other rfl ?_|apply NG.exit_scope|apply NG.normal_block|apply NG.normal_scope|refine SG.val rfl rfl rfl rfl (by first|((first|apply qid|apply qia0|apply qia|apply qmf|apply qmn|apply qmv|apply qas|apply qlc|apply qla|apply qfa|apply qnc|apply qic|apply qix|apply qpk|apply qls|apply qei|apply qni|apply qed|apply qnd|apply qad|apply qln|apply qle|apply qgt|apply qge|apply qlk|apply qlv|apply qxt|apply qsb|apply qnt|apply qep|apply qnp|apply qeb|apply qnb|apply qcv|apply qlm|apply qfr|apply qto|apply qmx|apply qen|apply qsn)<;>(first|exact rfl|exact Ar.mk (by omega)|assumption|exact dct (by first|assumption|omega)|exact dcf (by first|assumption|omega)|exact List.not_mem_nil|apply dc_length|apply ec_length|apply dl_length|exact nm1 (by omega)|exact (Int.toNat_of_nonneg (by omega)).symm|exact dcu|fail))|fail) ?_)
      refine CG.cond_f rfl (by exact rho_of rfl) rfl ?_
      repeat (first|apply CG.seq|apply CG.region|apply SG.nil|apply NG.next|apply CG.skip|apply CG.block|apply CG.ret|apply CG.exit|apply CG.scope|apply NG.ret_then|apply NG.ret_block|apply NG.ret_scope|apply NG.exit_then|refine NG.exit_block rfl ?_|refine NG.exit_other rfl ?_|apply NG.exit_scope|apply NG.normal_block|apply NG.normal_scope|refine SG.val rfl rfl rfl rfl (by first|((first|apply qid|apply qia0|apply qia|apply qmf|apply qmn|apply qmv|apply qas|apply qlc|apply qla|apply qfa|apply qnc|apply qic|apply qix|apply qpk|apply qls|apply qei|apply qni|apply qed|apply qnd|apply qad|apply qln|apply qle|apply qgt|apply qge|apply qlk|apply qlv|apply qxt|apply qsb|apply qnt|apply qep|apply qnp|apply qeb|apply qnb|apply qcv|apply qlm|apply qfr|apply qto|apply qmx|apply qen|apply qsn)<;>(first|exact rfl|exact Ar.mk (by omega)|assumption|exact dct (by first|assumption|omega)|exact dcf (by first|assumption|omega)|exact List.not_mem_nil|apply dc_length|apply ec_length|apply dl_length|exact nm1 (by omega)|exact (Int.toNat_of_nonneg (by omega)).symm|exact dcu|fail))|fail) ?_)
      refine CG.cond_t rfl (by exact rho_of rfl) rfl ?_
      repeat (first|apply CG.seq|apply CG.region|apply SG.nil|apply NG.next|apply CG.skip|apply CG.block|apply CG.ret|apply CG.exit|apply CG.scope|apply NG.ret_then|apply NG.ret_block|apply NG.ret_scope|apply NG.exit_then|refine NG.exit_block rfl ?_|refine NG.exit_other rfl ?_|apply NG.exit_scope|apply NG.normal_block|apply NG.normal_scope|refine SG.val rfl rfl rfl rfl (by first|((first|apply qid|apply qia0|apply qia|apply qmf|apply qmn|apply qmv|apply qas|apply qlc|apply qla|apply qfa|apply qnc|apply qic|apply qix|apply qpk|apply qls|apply qei|apply qni|apply qed|apply qnd|apply qad|apply qln|apply qle|apply qgt|apply qge|apply qlk|apply qlv|apply qxt|apply qsb|apply qnt|apply qep|apply qnp|apply qeb|apply qnb|apply qcv|apply qlm|apply qfr|apply qto|apply qmx|apply qen|apply qsn)<;>(first|exact rfl|exact Ar.mk (by omega)|assumption|exact dct (by first|assumption|omega)|exact dcf (by first|assumption|omega)|exact List.not_mem_nil|apply dc_length|apply ec_length|apply dl_length|exact nm1 (by omega)|exact (Int.toNat_of_nonneg (by omega)).symm|exact dcu|fail))|fail) ?_)
      refine ret1 (Or.inl rfl) Try.results70 (by first | exact ResV.tmp rfl | exact ResV.agg rfl rfl (by assumption) (by first | exact dc_length _ | exact nc_length _ | exact rc_length _ _ _ | exact ec_length _ | exact dl_length _ _ _ _ | rfl) | exact ResV.cell rfl rfl (by assumption)) ?_
      exact ⟨rfl, k2⟩
    · have g2 : ¬ (y : Int) < (x : Int) := by omega
      rw [if_neg h2]
      repeat (first|apply CG.seq|apply CG.region|apply SG.nil|apply NG.next|apply CG.skip|apply CG.block|apply CG.ret|apply CG.exit|apply CG.scope|apply NG.ret_then|apply NG.ret_block|apply NG.ret_scope|apply NG.exit_then|refine NG.exit_block rfl ?_|refine NG.exit_other rfl ?_|apply NG.exit_scope|apply NG.normal_block|apply NG.normal_scope|refine SG.val rfl rfl rfl rfl (by first|((first|apply qid|apply qia0|apply qia|apply qmf|apply qmn|apply qmv|apply qas|apply qlc|apply qla|apply qfa|apply qnc|apply qic|apply qix|apply qpk|apply qls|apply qei|apply qni|apply qed|apply qnd|apply qad|apply qln|apply qle|apply qgt|apply qge|apply qlk|apply qlv|apply qxt|apply qsb|apply qnt|apply qep|apply qnp|apply qeb|apply qnb|apply qcv|apply qlm|apply qfr|apply qto|apply qmx|apply qen|apply qsn)<;>(first|exact rfl|exact Ar.mk (by omega)|assumption|exact dct (by first|assumption|omega)|exact dcf (by first|assumption|omega)|exact List.not_mem_nil|apply dc_length|apply ec_length|apply dl_length|exact nm1 (by omega)|exact (Int.toNat_of_nonneg (by omega)).symm|exact dcu|fail))|fail) ?_)
      refine CG.cond_f rfl (by exact rho_of rfl) rfl ?_
      repeat (first|apply CG.seq|apply CG.region|apply SG.nil|apply NG.next|apply CG.skip|apply CG.block|apply CG.ret|apply CG.exit|apply CG.scope|apply NG.ret_then|apply NG.ret_block|apply NG.ret_scope|apply NG.exit_then|refine NG.exit_block rfl ?_|refine NG.exit_other rfl ?_|apply NG.exit_scope|apply NG.normal_block|apply NG.normal_scope|refine SG.val rfl rfl rfl rfl (by first|((first|apply qid|apply qia0|apply qia|apply qmf|apply qmn|apply qmv|apply qas|apply qlc|apply qla|apply qfa|apply qnc|apply qic|apply qix|apply qpk|apply qls|apply qei|apply qni|apply qed|apply qnd|apply qad|apply qln|apply qle|apply qgt|apply qge|apply qlk|apply qlv|apply qxt|apply qsb|apply qnt|apply qep|apply qnp|apply qeb|apply qnb|apply qcv|apply qlm|apply qfr|apply qto|apply qmx|apply qen|apply qsn)<;>(first|exact rfl|exact Ar.mk (by omega)|assumption|exact dct (by first|assumption|omega)|exact dcf (by first|assumption|omega)|exact List.not_mem_nil|apply dc_length|apply ec_length|apply dl_length|exact nm1 (by omega)|exact (Int.toNat_of_nonneg (by omega)).symm|exact dcu|fail))|fail) ?_)
      refine CG.cond_f rfl (by exact rho_of rfl) rfl ?_
      repeat (first|apply CG.seq|apply CG.region|apply SG.nil|apply NG.next|apply CG.skip|apply CG.block|apply CG.ret|apply CG.exit|apply CG.scope|apply NG.ret_then|apply NG.ret_block|apply NG.ret_scope|apply NG.exit_then|refine NG.exit_block rfl ?_|refine NG.exit_other rfl ?_|apply NG.exit_scope|apply NG.normal_block|apply NG.normal_scope|refine SG.val rfl rfl rfl rfl (by first|((first|apply qid|apply qia0|apply qia|apply qmf|apply qmn|apply qmv|apply qas|apply qlc|apply qla|apply qfa|apply qnc|apply qic|apply qix|apply qpk|apply qls|apply qei|apply qni|apply qed|apply qnd|apply qad|apply qln|apply qle|apply qgt|apply qge|apply qlk|apply qlv|apply qxt|apply qsb|apply qnt|apply qep|apply qnp|apply qeb|apply qnb|apply qcv|apply qlm|apply qfr|apply qto|apply qmx|apply qen|apply qsn)<;>(first|exact rfl|exact Ar.mk (by omega)|assumption|exact dct (by first|assumption|omega)|exact dcf (by first|assumption|omega)|exact List.not_mem_nil|apply dc_length|apply ec_length|apply dl_length|exact nm1 (by omega)|exact (Int.toNat_of_nonneg (by omega)).symm|exact dcu|fail))|fail) ?_)
      refine ret1 (Or.inl rfl) Try.results70 (by first | exact ResV.tmp rfl | exact ResV.agg rfl rfl (by assumption) (by first | exact dc_length _ | exact nc_length _ | exact rc_length _ _ _ | exact ec_length _ | exact dl_length _ _ _ _ | rfl) | exact ResV.cell rfl rfl (by assumption)) ?_
      exact ⟨rfl, k2⟩
set_option maxHeartbeats 16000000 in
theorem byn_spec (a b : Dg) (w : World) : Ret Try.prog 40 #[dv a, dv b] w (.int .i64 (cmpD a b)) := by
  rw [cmpD_eq]
  refine enter2 Try.func40 rfl Try.ntmps40 rfl ?_
  repeat (first|apply CG.seq|apply CG.region|apply SG.nil|apply NG.next|apply CG.skip|apply CG.block|apply CG.ret|apply CG.exit|apply CG.scope|apply NG.ret_then|apply NG.ret_block|apply NG.ret_scope|apply NG.exit_then|refine NG.exit_block rfl ?_|refine NG.exit_other rfl ?_|apply NG.exit_scope|apply NG.normal_block|apply NG.normal_scope|refine SG.val rfl rfl rfl rfl (by first|((first|apply qid|apply qia0|apply qia|apply qmf|apply qmn|apply qmv|apply qas|apply qlc|apply qla|apply qfa|apply qnc|apply qic|apply qix|apply qpk|apply qls|apply qei|apply qni|apply qed|apply qnd|apply qad|apply qln|apply qle|apply qgt|apply qge|apply qlk|apply qlv|apply qxt|apply qsb|apply qnt|apply qep|apply qnp|apply qeb|apply qnb|apply qcv|apply qlm|apply qfr|apply qto|apply qmx|apply qen|apply qsn)<;>(first|exact rfl|exact Ar.mk (by omega)|assumption|exact dct (by first|assumption|omega)|exact dcf (by first|assumption|omega)|exact List.not_mem_nil|apply dc_length|apply ec_length|apply dl_length|exact nm1 (by omega)|exact (Int.toNat_of_nonneg (by omega)).symm|exact dcu|fail))|fail) ?_)
  refine SG.box rfl rfl rfl (by exact rho_of rfl) (fun b1 w1 hk1 hb1 hB1 => ?_)
  have hB1 : Blk w1 b1 (.cells (dc a).toArray 24) := hB1
  refine SG.box rfl rfl rfl (by exact rho_of rfl) (fun b2 w2 hk2 hb2 hB2 => ?_)
  have hB2 : Blk w2 b2 (.cells (dc b).toArray 24) := hB2
  have r1 := (Row.all (l := dc a) hB1 rfl).kp0 hk2
  have r2 := Row.all (l := dc b) hB2 rfl
  repeat (first|apply CG.seq|apply CG.region|apply SG.nil|apply NG.next|apply CG.skip|apply CG.block|apply CG.ret|apply CG.exit|apply CG.scope|apply NG.ret_then|apply NG.ret_block|apply NG.ret_scope|apply NG.exit_then|refine NG.exit_block rfl ?_|refine NG.exit_other rfl ?_|apply NG.exit_scope|apply NG.normal_block|apply NG.normal_scope|refine SG.val rfl rfl rfl rfl (by first|((first|apply qid|apply qia0|apply qia|apply qmf|apply qmn|apply qmv|apply qas|apply qlc|apply qla|apply qfa|apply qnc|apply qic|apply qix|apply qpk|apply qls|apply qei|apply qni|apply qed|apply qnd|apply qad|apply qln|apply qle|apply qgt|apply qge|apply qlk|apply qlv|apply qxt|apply qsb|apply qnt|apply qep|apply qnp|apply qeb|apply qnb|apply qcv|apply qlm|apply qfr|apply qto|apply qmx|apply qen|apply qsn)<;>(first|exact rfl|exact Ar.mk (by omega)|assumption|exact dct (by first|assumption|omega)|exact dcf (by first|assumption|omega)|exact List.not_mem_nil|apply dc_length|apply ec_length|apply dl_length|exact nm1 (by omega)|exact (Int.toNat_of_nonneg (by omega)).symm|exact dcu|fail))|fail) ?_)
  refine CG.draw0 mixed [0, 1, 2, 3, 4, 5] [] (by kernel_rfl) ?_
  repeat (refine Der.val rfl rfl rfl (by first|((first|apply qid|apply qia0|apply qia|apply qmf|apply qmn|apply qmv|apply qas|apply qlc|apply qla|apply qfa|apply qnc|apply qic|apply qix|apply qpk|apply qls|apply qei|apply qni|apply qed|apply qnd|apply qad|apply qln|apply qle|apply qgt|apply qge|apply qlk|apply qlv|apply qxt|apply qsb|apply qnt|apply qep|apply qnp|apply qeb|apply qnb|apply qcv|apply qlm|apply qfr|apply qto|apply qmx|apply qen|apply qsn)<;>(first|exact rfl|exact Ar.mk (by omega)|assumption|exact dct (by first|assumption|omega)|exact dcf (by first|assumption|omega)|exact List.not_mem_nil|apply dc_length|apply ec_length|apply dl_length|exact nm1 (by omega)|exact (Int.toNat_of_nonneg (by omega)).symm|exact dcu|fail))|fail) ?_)
  refine Der.call rfl rfl rfl (vs := [dv a]) (by repeat' (first | exact True.intro | exact rho_of rfl | refine And.intro ?_ ?_)) (fun w _ _ => num_spec a w) ?_
  repeat (refine Der.val rfl rfl rfl (by first|((first|apply qid|apply qia0|apply qia|apply qmf|apply qmn|apply qmv|apply qas|apply qlc|apply qla|apply qfa|apply qnc|apply qic|apply qix|apply qpk|apply qls|apply qei|apply qni|apply qed|apply qnd|apply qad|apply qln|apply qle|apply qgt|apply qge|apply qlk|apply qlv|apply qxt|apply qsb|apply qnt|apply qep|apply qnp|apply qeb|apply qnb|apply qcv|apply qlm|apply qfr|apply qto|apply qmx|apply qen|apply qsn)<;>(first|exact rfl|exact Ar.mk (by omega)|assumption|exact dct (by first|assumption|omega)|exact dcf (by first|assumption|omega)|exact List.not_mem_nil|apply dc_length|apply ec_length|apply dl_length|exact nm1 (by omega)|exact (Int.toNat_of_nonneg (by omega)).symm|exact dcu|fail))|fail) ?_)
  refine Der.call rfl rfl rfl (vs := [dv b]) (by repeat' (first | exact True.intro | exact rho_of rfl | refine And.intro ?_ ?_)) (fun w _ _ => num_spec b w) ?_
  refine Der.call rfl rfl rfl (vs := [.int .u64 (num a : Int), .int .u64 (num b : Int)]) (by repeat' (first | exact True.intro | exact rho_of rfl | refine And.intro ?_ ?_)) (fun w _ _ => compare_spec (num a) (num b) w) ?_
  repeat (refine Der.val rfl rfl rfl (by first|((first|apply qid|apply qia0|apply qia|apply qmf|apply qmn|apply qmv|apply qas|apply qlc|apply qla|apply qfa|apply qnc|apply qic|apply qix|apply qpk|apply qls|apply qei|apply qni|apply qed|apply qnd|apply qad|apply qln|apply qle|apply qgt|apply qge|apply qlk|apply qlv|apply qxt|apply qsb|apply qnt|apply qep|apply qnp|apply qeb|apply qnb|apply qcv|apply qlm|apply qfr|apply qto|apply qmx|apply qen|apply qsn)<;>(first|exact rfl|exact Ar.mk (by omega)|assumption|exact dct (by first|assumption|omega)|exact dcf (by first|assumption|omega)|exact List.not_mem_nil|apply dc_length|apply ec_length|apply dl_length|exact nm1 (by omega)|exact (Int.toNat_of_nonneg (by omega)).symm|exact dcu|fail))|fail) ?_)
  refine Der.fin (fun w3 hk3 _ _ => ?_)
  repeat (first|apply CG.seq|apply CG.region|apply SG.nil|apply NG.next|apply CG.skip|apply CG.block|apply CG.ret|apply CG.exit|apply CG.scope|apply NG.ret_then|apply NG.ret_block|apply NG.ret_scope|apply NG.exit_then|refine NG.exit_block rfl ?_|refine NG.exit_other rfl ?_|apply NG.exit_scope|apply NG.normal_block|apply NG.normal_scope|refine SG.val rfl rfl rfl rfl (by first|((first|apply qid|apply qia0|apply qia|apply qmf|apply qmn|apply qmv|apply qas|apply qlc|apply qla|apply qfa|apply qnc|apply qic|apply qix|apply qpk|apply qls|apply qei|apply qni|apply qed|apply qnd|apply qad|apply qln|apply qle|apply qgt|apply qge|apply qlk|apply qlv|apply qxt|apply qsb|apply qnt|apply qep|apply qnp|apply qeb|apply qnb|apply qcv|apply qlm|apply qfr|apply qto|apply qmx|apply qen|apply qsn)<;>(first|exact rfl|exact Ar.mk (by omega)|assumption|exact dct (by first|assumption|omega)|exact dcf (by first|assumption|omega)|exact List.not_mem_nil|apply dc_length|apply ec_length|apply dl_length|exact nm1 (by omega)|exact (Int.toNat_of_nonneg (by omega)).symm|exact dcu|fail))|fail) ?_)
  refine ret1 (Or.inl rfl) Try.results40 (by first | exact ResV.tmp rfl | exact ResV.agg rfl rfl (by assumption) (by first | exact dc_length _ | exact nc_length _ | exact rc_length _ _ _ | exact ec_length _ | exact dl_length _ _ _ _ | rfl) | exact ResV.cell rfl rfl (by assumption)) ?_
  exact ⟨rfl, (hk1.trans hk2).trans hk3⟩
theorem firstNZ_drop : ∀ (zs : List Int) (i : Nat) (h : i < zs.length), firstNZ (zs.drop i) = if zs[i] = 0 then firstNZ (zs.drop (i + 1)) else zs[i]
  | zs, i, h => by
    rw [List.drop_eq_getElem_cons h, firstNZ]
set_option maxHeartbeats 16000000 in
theorem or_spec {w : World} {a : Option Addr} {c : Nat} {zs : List Int} (hS : Sl ic 1 w a zs) (hl : zs.length ≤ 1000) : Ret Try.prog 39 #[.slice a zs.length c] w (.int .i64 (firstNZ zs)) := by
  refine enter1 Try.func39 rfl Try.ntmps39 rfl ?_
  repeat (first|apply CG.seq|apply CG.region|apply SG.nil|apply NG.next|apply CG.skip|apply CG.block|apply CG.ret|apply CG.exit|apply CG.scope|apply NG.ret_then|apply NG.ret_block|apply NG.ret_scope|apply NG.exit_then|refine NG.exit_block rfl ?_|refine NG.exit_other rfl ?_|apply NG.exit_scope|apply NG.normal_block|apply NG.normal_scope|refine SG.val rfl rfl rfl rfl (by first|((first|apply qid|apply qia0|apply qia|apply qmf|apply qmn|apply qmv|apply qas|apply qlc|apply qla|apply qfa|apply qnc|apply qic|apply qix|apply qpk|apply qls|apply qei|apply qni|apply qed|apply qnd|apply qad|apply qln|apply qle|apply qgt|apply qge|apply qlk|apply qlv|apply qxt|apply qsb|apply qnt|apply qep|apply qnp|apply qeb|apply qnb|apply qcv|apply qlm|apply qfr|apply qto|apply qmx|apply qen|apply qsn)<;>(first|exact rfl|exact Ar.mk (by omega)|assumption|exact dct (by first|assumption|omega)|exact dcf (by first|assumption|omega)|exact List.not_mem_nil|apply dc_length|apply ec_length|apply dl_length|exact nm1 (by omega)|exact (Int.toNat_of_nonneg (by omega)).symm|exact dcu|fail))|fail) ?_)
  refine CG.loop (X := Nat) (fun i => [(3, .int .i64 0), (6, .slice a zs.length c), (7, .int .i64 (zs.length : Int)), (8, .int .i64 (i : Int))]) (fun i w' => i ≤ zs.length ∧ Kp [] w w' ∧ firstNZ (zs.drop i) = firstNZ zs) (fun i => zs.length - i) 0 ⟨by omega, Kp.refl _ _, rfl⟩ (by (repeat' (first | exact True.intro | exact rfl | refine And.intro ?_ ?_))) ?_
  rintro i w1 ⟨hi, hk, he⟩
  by_cases hlt : i < zs.length
  · have g1 : (i : Int) < (zs.length : Int) := by omega
    obtain ⟨b1, o1, rfl, hr1⟩ := (hS.kp0 hk).at hlt
    rw [firstNZ_drop zs i hlt] at he
    by_cases hz : zs[i] = 0
    · rw [if_pos hz] at he
      repeat (first|apply CG.seq|apply CG.region|apply SG.nil|apply NG.next|apply CG.skip|apply CG.block|apply CG.ret|apply CG.exit|apply CG.scope|apply NG.ret_then|apply NG.ret_block|apply NG.ret_scope|apply NG.exit_then|refine NG.exit_block rfl ?_|refine NG.exit_other rfl ?_|apply NG.exit_scope|apply NG.normal_block|apply NG.normal_scope|refine SG.val rfl rfl rfl rfl (by first|((first|apply qid|apply qia0|apply qia|apply qmf|apply qmn|apply qmv|apply qas|apply qlc|apply qla|apply qfa|apply qnc|apply qic|apply qix|apply qpk|apply qls|apply qei|apply qni|apply qed|apply qnd|apply qad|apply qln|apply qle|apply qgt|apply qge|apply qlk|apply qlv|apply qxt|apply qsb|apply qnt|apply qep|apply qnp|apply qeb|apply qnb|apply qcv|apply qlm|apply qfr|apply qto|apply qmx|apply qen|apply qsn)<;>(first|exact rfl|exact Ar.mk (by omega)|assumption|exact dct (by first|assumption|omega)|exact dcf (by first|assumption|omega)|exact List.not_mem_nil|apply dc_length|apply ec_length|apply dl_length|exact nm1 (by omega)|exact (Int.toNat_of_nonneg (by omega)).symm|exact dcu|fail))|fail) ?_)
      refine CG.cond_t rfl (by exact rho_of rfl) rfl ?_
      repeat (first|apply CG.seq|apply CG.region|apply SG.nil|apply NG.next|apply CG.skip|apply CG.block|apply CG.ret|apply CG.exit|apply CG.scope|apply NG.ret_then|apply NG.ret_block|apply NG.ret_scope|apply NG.exit_then|refine NG.exit_block rfl ?_|refine NG.exit_other rfl ?_|apply NG.exit_scope|apply NG.normal_block|apply NG.normal_scope|refine SG.val rfl rfl rfl rfl (by first|((first|apply qid|apply qia0|apply qia|apply qmf|apply qmn|apply qmv|apply qas|apply qlc|apply qla|apply qfa|apply qnc|apply qic|apply qix|apply qpk|apply qls|apply qei|apply qni|apply qed|apply qnd|apply qad|apply qln|apply qle|apply qgt|apply qge|apply qlk|apply qlv|apply qxt|apply qsb|apply qnt|apply qep|apply qnp|apply qeb|apply qnb|apply qcv|apply qlm|apply qfr|apply qto|apply qmx|apply qen|apply qsn)<;>(first|exact rfl|exact Ar.mk (by omega)|assumption|exact dct (by first|assumption|omega)|exact dcf (by first|assumption|omega)|exact List.not_mem_nil|apply dc_length|apply ec_length|apply dl_length|exact nm1 (by omega)|exact (Int.toNat_of_nonneg (by omega)).symm|exact dcu|fail))|fail) ?_)
      refine CG.cond_f rfl (by exact rho_of rfl) rfl ?_
      repeat (first|apply CG.seq|apply CG.region|apply SG.nil|apply NG.next|apply CG.skip|apply CG.block|apply CG.ret|apply CG.exit|apply CG.scope|apply NG.ret_then|apply NG.ret_block|apply NG.ret_scope|apply NG.exit_then|refine NG.exit_block rfl ?_|refine NG.exit_other rfl ?_|apply NG.exit_scope|apply NG.normal_block|apply NG.normal_scope|refine SG.val rfl rfl rfl rfl (by first|((first|apply qid|apply qia0|apply qia|apply qmf|apply qmn|apply qmv|apply qas|apply qlc|apply qla|apply qfa|apply qnc|apply qic|apply qix|apply qpk|apply qls|apply qei|apply qni|apply qed|apply qnd|apply qad|apply qln|apply qle|apply qgt|apply qge|apply qlk|apply qlv|apply qxt|apply qsb|apply qnt|apply qep|apply qnp|apply qeb|apply qnb|apply qcv|apply qlm|apply qfr|apply qto|apply qmx|apply qen|apply qsn)<;>(first|exact rfl|exact Ar.mk (by omega)|assumption|exact dct (by first|assumption|omega)|exact dcf (by first|assumption|omega)|exact List.not_mem_nil|apply dc_length|apply ec_length|apply dl_length|exact nm1 (by omega)|exact (Int.toNat_of_nonneg (by omega)).symm|exact dcu|fail))|fail) ?_)
      refine NG.round (i + 1) (by (repeat' (first | exact True.intro | exact rfl | refine And.intro ?_ ?_))) ⟨by omega, hk, he⟩ (by omega)
    · rw [if_neg hz] at he
      repeat (first|apply CG.seq|apply CG.region|apply SG.nil|apply NG.next|apply CG.skip|apply CG.block|apply CG.ret|apply CG.exit|apply CG.scope|apply NG.ret_then|apply NG.ret_block|apply NG.ret_scope|apply NG.exit_then|refine NG.exit_block rfl ?_|refine NG.exit_other rfl ?_|apply NG.exit_scope|apply NG.normal_block|apply NG.normal_scope|refine SG.val rfl rfl rfl rfl (by first|((first|apply qid|apply qia0|apply qia|apply qmf|apply qmn|apply qmv|apply qas|apply qlc|apply qla|apply qfa|apply qnc|apply qic|apply qix|apply qpk|apply qls|apply qei|apply qni|apply qed|apply qnd|apply qad|apply qln|apply qle|apply qgt|apply qge|apply qlk|apply qlv|apply qxt|apply qsb|apply qnt|apply qep|apply qnp|apply qeb|apply qnb|apply qcv|apply qlm|apply qfr|apply qto|apply qmx|apply qen|apply qsn)<;>(first|exact rfl|exact Ar.mk (by omega)|assumption|exact dct (by first|assumption|omega)|exact dcf (by first|assumption|omega)|exact List.not_mem_nil|apply dc_length|apply ec_length|apply dl_length|exact nm1 (by omega)|exact (Int.toNat_of_nonneg (by omega)).symm|exact dcu|fail))|fail) ?_)
      refine CG.cond_t rfl (by exact rho_of rfl) rfl ?_
      repeat (first|apply CG.seq|apply CG.region|apply SG.nil|apply NG.next|apply CG.skip|apply CG.block|apply CG.ret|apply CG.exit|apply CG.scope|apply NG.ret_then|apply NG.ret_block|apply NG.ret_scope|apply NG.exit_then|refine NG.exit_block rfl ?_|refine NG.exit_other rfl ?_|apply NG.exit_scope|apply NG.normal_block|apply NG.normal_scope|refine SG.val rfl rfl rfl rfl (by first|((first|apply qid|apply qia0|apply qia|apply qmf|apply qmn|apply qmv|apply qas|apply qlc|apply qla|apply qfa|apply qnc|apply qic|apply qix|apply qpk|apply qls|apply qei|apply qni|apply qed|apply qnd|apply qad|apply qln|apply qle|apply qgt|apply qge|apply qlk|apply qlv|apply qxt|apply qsb|apply qnt|apply qep|apply qnp|apply qeb|apply qnb|apply qcv|apply qlm|apply qfr|apply qto|apply qmx|apply qen|apply qsn)<;>(first|exact rfl|exact Ar.mk (by omega)|assumption|exact dct (by first|assumption|omega)|exact dcf (by first|assumption|omega)|exact List.not_mem_nil|apply dc_length|apply ec_length|apply dl_length|exact nm1 (by omega)|exact (Int.toNat_of_nonneg (by omega)).symm|exact dcu|fail))|fail) ?_)
      refine CG.cond_t rfl (by exact rho_of rfl) rfl ?_
      repeat (first|apply CG.seq|apply CG.region|apply SG.nil|apply NG.next|apply CG.skip|apply CG.block|apply CG.ret|apply CG.exit|apply CG.scope|apply NG.ret_then|apply NG.ret_block|apply NG.ret_scope|apply NG.exit_then|refine NG.exit_block rfl ?_|refine NG.exit_other rfl ?_|apply NG.exit_scope|apply NG.normal_block|apply NG.normal_scope|refine SG.val rfl rfl rfl rfl (by first|((first|apply qid|apply qia0|apply qia|apply qmf|apply qmn|apply qmv|apply qas|apply qlc|apply qla|apply qfa|apply qnc|apply qic|apply qix|apply qpk|apply qls|apply qei|apply qni|apply qed|apply qnd|apply qad|apply qln|apply qle|apply qgt|apply qge|apply qlk|apply qlv|apply qxt|apply qsb|apply qnt|apply qep|apply qnp|apply qeb|apply qnb|apply qcv|apply qlm|apply qfr|apply qto|apply qmx|apply qen|apply qsn)<;>(first|exact rfl|exact Ar.mk (by omega)|assumption|exact dct (by first|assumption|omega)|exact dcf (by first|assumption|omega)|exact List.not_mem_nil|apply dc_length|apply ec_length|apply dl_length|exact nm1 (by omega)|exact (Int.toNat_of_nonneg (by omega)).symm|exact dcu|fail))|fail) ?_)
      refine ret1 (Or.inl rfl) Try.results39 (by first | exact ResV.tmp rfl | exact ResV.agg rfl rfl (by assumption) (by first | exact dc_length _ | exact nc_length _ | exact rc_length _ _ _ | exact ec_length _ | exact dl_length _ _ _ _ | rfl) | exact ResV.cell rfl rfl (by assumption)) ?_
      rw [← he]
      exact ⟨rfl, hk⟩
  · have g1 : ¬ (i : Int) < (zs.length : Int) := by omega
    rw [List.drop_of_length_le (by omega)] at he
    repeat (first|apply CG.seq|apply CG.region|apply SG.nil|apply NG.next|apply CG.skip|apply CG.block|apply CG.ret|apply CG.exit|apply CG.scope|apply NG.ret_then|apply NG.ret_block|apply NG.ret_scope|apply NG.exit_then|refine NG.exit_block rfl ?_|refine NG.exit_other rfl ?_|apply NG.exit_scope|apply NG.normal_block|apply NG.normal_scope|refine SG.val rfl rfl rfl rfl (by first|((first|apply qid|apply qia0|apply qia|apply qmf|apply qmn|apply qmv|apply qas|apply qlc|apply qla|apply qfa|apply qnc|apply qic|apply qix|apply qpk|apply qls|apply qei|apply qni|apply qed|apply qnd|apply qad|apply qln|apply qle|apply qgt|apply qge|apply qlk|apply qlv|apply qxt|apply qsb|apply qnt|apply qep|apply qnp|apply qeb|apply qnb|apply qcv|apply qlm|apply qfr|apply qto|apply qmx|apply qen|apply qsn)<;>(first|exact rfl|exact Ar.mk (by omega)|assumption|exact dct (by first|assumption|omega)|exact dcf (by first|assumption|omega)|exact List.not_mem_nil|apply dc_length|apply ec_length|apply dl_length|exact nm1 (by omega)|exact (Int.toNat_of_nonneg (by omega)).symm|exact dcu|fail))|fail) ?_)
    refine CG.cond_f rfl (by exact rho_of rfl) rfl ?_
    repeat (first|apply CG.seq|apply CG.region|apply SG.nil|apply NG.next|apply CG.skip|apply CG.block|apply CG.ret|apply CG.exit|apply CG.scope|apply NG.ret_then|apply NG.ret_block|apply NG.ret_scope|apply NG.exit_then|refine NG.exit_block rfl ?_|refine NG.exit_other rfl ?_|apply NG.exit_scope|apply NG.normal_block|apply NG.normal_scope|refine SG.val rfl rfl rfl rfl (by first|((first|apply qid|apply qia0|apply qia|apply qmf|apply qmn|apply qmv|apply qas|apply qlc|apply qla|apply qfa|apply qnc|apply qic|apply qix|apply qpk|apply qls|apply qei|apply qni|apply qed|apply qnd|apply qad|apply qln|apply qle|apply qgt|apply qge|apply qlk|apply qlv|apply qxt|apply qsb|apply qnt|apply qep|apply qnp|apply qeb|apply qnb|apply qcv|apply qlm|apply qfr|apply qto|apply qmx|apply qen|apply qsn)<;>(first|exact rfl|exact Ar.mk (by omega)|assumption|exact dct (by first|assumption|omega)|exact dcf (by first|assumption|omega)|exact List.not_mem_nil|apply dc_length|apply ec_length|apply dl_length|exact nm1 (by omega)|exact (Int.toNat_of_nonneg (by omega)).symm|exact dcu|fail))|fail) ?_)
    refine ret1 (Or.inl rfl) Try.results39 (by first | exact ResV.tmp rfl | exact ResV.agg rfl rfl (by assumption) (by first | exact dc_length _ | exact nc_length _ | exact rc_length _ _ _ | exact ec_length _ | exact dl_length _ _ _ _ | rfl) | exact ResV.cell rfl rfl (by assumption)) ?_
    rw [← he]
    exact ⟨rfl, hk⟩
set_option maxHeartbeats 16000000 in
theorem cmpw_spec {w : World} {bm : Nat} {m : Dg} (hm : Row w bm 0 (dc m)) (a b : Dg) : Ret Try.prog 38 #[dv a, dv b, .pointer (some ⟨bm, 0, none⟩)] w (.int .i64 (cmpW m a b)) := by
  rw [cmpW_eq]
  have hc1 := fun w => byn_spec (twoI m a) (twoI m b) w
  have hc2 := fun w => byn_spec a b w
  generalize cmpD (twoI m a) (twoI m b) = z1 at hc1 ⊢
  generalize cmpD a b = z2 at hc2 ⊢
  refine enter3 Try.func38 rfl Try.ntmps38 rfl ?_
  repeat (first|apply CG.seq|apply CG.region|apply SG.nil|apply NG.next|apply CG.skip|apply CG.block|apply CG.ret|apply CG.exit|apply CG.scope|apply NG.ret_then|apply NG.ret_block|apply NG.ret_scope|apply NG.exit_then|refine NG.exit_block rfl ?_|refine NG.exit_other rfl ?_|apply NG.exit_scope|apply NG.normal_block|apply NG.normal_scope|refine SG.val rfl rfl rfl rfl (by first|((first|apply qid|apply qia0|apply qia|apply qmf|apply qmn|apply qmv|apply qas|apply qlc|apply qla|apply qfa|apply qnc|apply qic|apply qix|apply qpk|apply qls|apply qei|apply qni|apply qed|apply qnd|apply qad|apply qln|apply qle|apply qgt|apply qge|apply qlk|apply qlv|apply qxt|apply qsb|apply qnt|apply qep|apply qnp|apply qeb|apply qnb|apply qcv|apply qlm|apply qfr|apply qto|apply qmx|apply qen|apply qsn)<;>(first|exact rfl|exact Ar.mk (by omega)|assumption|exact dct (by first|assumption|omega)|exact dcf (by first|assumption|omega)|exact List.not_mem_nil|apply dc_length|apply ec_length|apply dl_length|exact nm1 (by omega)|exact (Int.toNat_of_nonneg (by omega)).symm|exact dcu|fail))|fail) ?_)
  refine SG.box rfl rfl rfl (by exact rho_of rfl) (fun b1 w1 hk1 hb1 hB1 => ?_)
  have hB1 : Blk w1 b1 (.cells (dc a).toArray 24) := hB1
  refine SG.box rfl rfl rfl (by exact rho_of rfl) (fun b2 w2 hk2 hb2 hB2 => ?_)
  have hB2 : Blk w2 b2 (.cells (dc b).toArray 24) := hB2
  have r1 := (Row.all (l := dc a) hB1 rfl).kp0 hk2
  have r2 := Row.all (l := dc b) hB2 rfl
  have r3 := hm.kp0 (hk1.trans hk2)
  repeat (first|apply CG.seq|apply CG.region|apply SG.nil|apply NG.next|apply CG.skip|apply CG.block|apply CG.ret|apply CG.exit|apply CG.scope|apply NG.ret_then|apply NG.ret_block|apply NG.ret_scope|apply NG.exit_then|refine NG.exit_block rfl ?_|refine NG.exit_other rfl ?_|apply NG.exit_scope|apply NG.normal_block|apply NG.normal_scope|refine SG.val rfl rfl rfl rfl (by first|((first|apply qid|apply qia0|apply qia|apply qmf|apply qmn|apply qmv|apply qas|apply qlc|apply qla|apply qfa|apply qnc|apply qic|apply qix|apply qpk|apply qls|apply qei|apply qni|apply qed|apply qnd|apply qad|apply qln|apply qle|apply qgt|apply qge|apply qlk|apply qlv|apply qxt|apply qsb|apply qnt|apply qep|apply qnp|apply qeb|apply qnb|apply qcv|apply qlm|apply qfr|apply qto|apply qmx|apply qen|apply qsn)<;>(first|exact rfl|exact Ar.mk (by omega)|assumption|exact dct (by first|assumption|omega)|exact dcf (by first|assumption|omega)|exact List.not_mem_nil|apply dc_length|apply ec_length|apply dl_length|exact nm1 (by omega)|exact (Int.toNat_of_nonneg (by omega)).symm|exact dcu|fail))|fail) ?_)
  refine CG.tail mixed 9 [0, 1, 2, 3, 4, 5, 6, 7, 8] (by kernel_rfl) ?_
  repeat (refine Der.val rfl rfl rfl (by first|((first|apply qid|apply qia0|apply qia|apply qmf|apply qmn|apply qmv|apply qas|apply qlc|apply qla|apply qfa|apply qnc|apply qic|apply qix|apply qpk|apply qls|apply qei|apply qni|apply qed|apply qnd|apply qad|apply qln|apply qle|apply qgt|apply qge|apply qlk|apply qlv|apply qxt|apply qsb|apply qnt|apply qep|apply qnp|apply qeb|apply qnb|apply qcv|apply qlm|apply qfr|apply qto|apply qmx|apply qen|apply qsn)<;>(first|exact rfl|exact Ar.mk (by omega)|assumption|exact dct (by first|assumption|omega)|exact dcf (by first|assumption|omega)|exact List.not_mem_nil|apply dc_length|apply ec_length|apply dl_length|exact nm1 (by omega)|exact (Int.toNat_of_nonneg (by omega)).symm|exact dcu|fail))|fail) ?_)
  refine Der.call rfl rfl rfl (vs := [dv m, dv a]) (by repeat' (first | exact True.intro | exact rho_of rfl | refine And.intro ?_ ?_)) (fun w _ _ => two_spec m a w) ?_
  repeat (refine Der.val rfl rfl rfl (by first|((first|apply qid|apply qia0|apply qia|apply qmf|apply qmn|apply qmv|apply qas|apply qlc|apply qla|apply qfa|apply qnc|apply qic|apply qix|apply qpk|apply qls|apply qei|apply qni|apply qed|apply qnd|apply qad|apply qln|apply qle|apply qgt|apply qge|apply qlk|apply qlv|apply qxt|apply qsb|apply qnt|apply qep|apply qnp|apply qeb|apply qnb|apply qcv|apply qlm|apply qfr|apply qto|apply qmx|apply qen|apply qsn)<;>(first|exact rfl|exact Ar.mk (by omega)|assumption|exact dct (by first|assumption|omega)|exact dcf (by first|assumption|omega)|exact List.not_mem_nil|apply dc_length|apply ec_length|apply dl_length|exact nm1 (by omega)|exact (Int.toNat_of_nonneg (by omega)).symm|exact dcu|fail))|fail) ?_)
  refine Der.call rfl rfl rfl (vs := [dv m, dv b]) (by repeat' (first | exact True.intro | exact rho_of rfl | refine And.intro ?_ ?_)) (fun w _ _ => two_spec m b w) ?_
  refine Der.call rfl rfl rfl (vs := [dv (twoI m a), dv (twoI m b)]) (by repeat' (first | exact True.intro | exact rho_of rfl | refine And.intro ?_ ?_)) (fun w _ _ => hc1 w) ?_
  repeat (refine Der.val rfl rfl rfl (by first|((first|apply qid|apply qia0|apply qia|apply qmf|apply qmn|apply qmv|apply qas|apply qlc|apply qla|apply qfa|apply qnc|apply qic|apply qix|apply qpk|apply qls|apply qei|apply qni|apply qed|apply qnd|apply qad|apply qln|apply qle|apply qgt|apply qge|apply qlk|apply qlv|apply qxt|apply qsb|apply qnt|apply qep|apply qnp|apply qeb|apply qnb|apply qcv|apply qlm|apply qfr|apply qto|apply qmx|apply qen|apply qsn)<;>(first|exact rfl|exact Ar.mk (by omega)|assumption|exact dct (by first|assumption|omega)|exact dcf (by first|assumption|omega)|exact List.not_mem_nil|apply dc_length|apply ec_length|apply dl_length|exact nm1 (by omega)|exact (Int.toNat_of_nonneg (by omega)).symm|exact dcu|fail))|fail) ?_)
  refine Der.tl (fun w3 hk3 _ _ => ?_)
  refine SG.ret rfl rfl rfl (by repeat' (first | exact True.intro | exact rho_of rfl | refine And.intro ?_ ?_)) (hc2 w3) (fun w4 hk4 => ?_)
  refine SG.buildSlice rfl rfl rfl rfl (bsi2 _ _) (fun b5 w5 hk5 hb5 hB5 => ?_)
  have hS5 : Sl ic 1 w5 (some ⟨b5, 0, none⟩) [z1, z2] := sl_ic hB5
  refine SG.ret rfl rfl rfl (by repeat' (first | exact True.intro | exact rho_of rfl | refine And.intro ?_ ?_)) (or_spec (c := 2) hS5 (by simp)) (fun w6 hk6 => ?_)
  repeat (first|apply CG.seq|apply CG.region|apply SG.nil|apply NG.next|apply CG.skip|apply CG.block|apply CG.ret|apply CG.exit|apply CG.scope|apply NG.ret_then|apply NG.ret_block|apply NG.ret_scope|apply NG.exit_then|refine NG.exit_block rfl ?_|refine NG.exit_other rfl ?_|apply NG.exit_scope|apply NG.normal_block|apply NG.normal_scope|refine SG.val rfl rfl rfl rfl (by first|((first|apply qid|apply qia0|apply qia|apply qmf|apply qmn|apply qmv|apply qas|apply qlc|apply qla|apply qfa|apply qnc|apply qic|apply qix|apply qpk|apply qls|apply qei|apply qni|apply qed|apply qnd|apply qad|apply qln|apply qle|apply qgt|apply qge|apply qlk|apply qlv|apply qxt|apply qsb|apply qnt|apply qep|apply qnp|apply qeb|apply qnb|apply qcv|apply qlm|apply qfr|apply qto|apply qmx|apply qen|apply qsn)<;>(first|exact rfl|exact Ar.mk (by omega)|assumption|exact dct (by first|assumption|omega)|exact dcf (by first|assumption|omega)|exact List.not_mem_nil|apply dc_length|apply ec_length|apply dl_length|exact nm1 (by omega)|exact (Int.toNat_of_nonneg (by omega)).symm|exact dcu|fail))|fail) ?_)
  refine ret1 (Or.inl rfl) Try.results38 (by first | exact ResV.tmp rfl | exact ResV.agg rfl rfl (by assumption) (by first | exact dc_length _ | exact nc_length _ | exact rc_length _ _ _ | exact ec_length _ | exact dl_length _ _ _ _ | rfl) | exact ResV.cell rfl rfl (by assumption)) ?_
  exact ⟨rfl, ((((hk1.trans hk2).trans hk3).trans hk4).trans hk5).trans hk6⟩
instance : Inhabited Dg := ⟨zd⟩
/-- The digests sorted by their numbers. -/
theorem sortn_spec {w : World} {base : Nat} {v : Value} {l : List Dg} (ho : w.ownsRow base 24 8 v l.length (flt dc l)) (hl : l.length ≤ 1000000) : Calls Try.prog 37 #[v, fnv 40 []] w (fun e w' => e = .returned (.tuple #[]) ∧ Kp (ownB v) w w' ∧ w'.ownsRow base 24 8 v l.length (flt dc (sortK num l))) :=
  (sort_ownC sortL Try.isAgg24 Try.sizeOf24 (by omega) dc_length dc_one cmpD (swo_key cmpD num (fun x y => cmpD_lt)) 40 (fun args w => fn.i40.run w args) [] ho (by omega) (fun x y W _ => byn_spec x y W)).mono (fun e w' ⟨h1, h2, l', h3, h4, h5⟩ => ⟨h1, h2, by
    have e : l' = sortK num l := sorted_uniq (key := num) (fun x y => num_inj) h3 (sortK_perm num l) (h4.imp (fun h => (ltOf_false (cf := cmpD) (key := num) (fun x y => cmpD_lt)).1 h)) (sortK_sorted num l)
    rwa [e] at h5⟩)
theorem sortw_spec {w : World} {base bm : Nat} {m : Dg} {v : Value} {l : List Dg} (ho : w.ownsRow base 24 8 v l.length (flt dc l)) (hl : l.length ≤ 1000000) (hm : Row w bm 0 (dc m)) (hbm : bm ∉ ownB v) : Calls Try.prog 37 #[v, fnv 38 [.pointer (some ⟨bm, 0, none⟩)]] w (fun e w' => e = .returned (.tuple #[]) ∧ Kp (ownB v) w w' ∧ w'.ownsRow base 24 8 v l.length (flt dc (sortK (kW m) l))) :=
  (sort_ownC sortL Try.isAgg24 Try.sizeOf24 (by omega) dc_length dc_one (cmpW m) (swo_key (cmpW m) (kW m) (fun x y => cmpW_lt)) 38 (fun args w => fn.i38.run w args) [.pointer (some ⟨bm, 0, none⟩)] ho (by omega) (fun x y W hk => cmpw_spec (hm.kp hk hbm) x y)).mono (fun e w' ⟨h1, h2, l', h3, h4, h5⟩ => ⟨h1, h2, by
    have e : l' = sortK (kW m) l := sorted_uniq (key := kW m) (fun x y => kW_inj) h3 (sortK_perm _ l) (h4.imp (fun h => (ltOf_false (cf := cmpW m) (key := kW m) (fun x y => cmpW_lt)).1 h)) (sortK_sorted _ l)
    rwa [e] at h5⟩)
end Go.Proofs.Ytnoipmimddoioaa
/-
  Offers that fit; the mix of offers.
-/
namespace Go.Proofs.Ytnoipmimddoioaa
open Go.Proofs Go.Shelf Go.Sort
set_option linter.unusedVariables false

theorem bsg' (w : World) (a0 a1 a2 a3 a4 a5 a6 a7 : UInt8) : (Instr.buildSlice 25 1 #[(0, .agg #[bv a0, bv a1, bv a2, bv a3, bv a4, bv a5, bv a6, bv a7])]).run Try.prog w = .ok (.slice (some ⟨w.heap.size, 0, none⟩) 1 1) { w with heap := w.heap.push (.cells #[bv a0, bv a1, bv a2, bv a3, bv a4, bv a5, bv a6, bv a7] 24) } := by kernel_rfl
theorem bsg (x : Dg) (w : World) : (Instr.buildSlice 25 1 #[(0, dv x)]).run Try.prog w = .ok (.slice (some ⟨w.heap.size, 0, none⟩) 1 1) { w with heap := w.heap.push (.cells (dc x).toArray 24) } := by
  obtain ⟨l, hl⟩ := x
  match l, hl with
  | [a0, a1, a2, a3, a4, a5, a6, a7], _ => exact bsg' w a0 a1 a2 a3 a4 a5 a6 a7
theorem bsr8' (w : World) (a0 a1 a2 a3 a4 a5 a6 a7 : UInt8) : (Instr.buildSlice 37 1 #[(0, .agg #[bv a0, bv a1, bv a2, bv a3, bv a4, bv a5, bv a6, bv a7])]).run Try.prog w = .ok (.slice (some ⟨w.heap.size, 0, none⟩) 1 1) { w with heap := w.heap.push (.cells #[bv a0, bv a1, bv a2, bv a3, bv a4, bv a5, bv a6, bv a7] 23) } := by kernel_rfl
theorem bsr8 (x : Dg) (w : World) : (Instr.buildSlice 37 1 #[(0, dv x)]).run Try.prog w = .ok (.slice (some ⟨w.heap.size, 0, none⟩) 1 1) { w with heap := w.heap.push (.cells (dc x).toArray 23) } := by
  obtain ⟨l, hl⟩ := x
  match l, hl with
  | [a0, a1, a2, a3, a4, a5, a6, a7], _ => exact bsr8' w a0 a1 a2 a3 a4 a5 a6 a7
/-- One in a new slice. -/
theorem sl_one {α : Type} {enc : α → List Value} {sz : Nat} (he : ∀ x, (enc x).length = sz) {w : World} {b : Nat} {T : TypeId} {x : α} (h : Blk w b (.cells (enc x).toArray T)) : Sl enc sz w (some ⟨b, 0, none⟩) [x] :=
  flt_rowf he (by rw [flt_one]; exact h)
def mixD (l : List Ofr) : Dg := manyI (sortK num (l.map digO))
def idxZ {α : Type} (p : α → Bool) (l : List α) : Int := if l.findIdx p < l.length then (l.findIdx p : Int) else -1
theorem idxZ_any {α : Type} (p : α → Bool) (l : List α) : (0 ≤ idxZ p l) ↔ l.any p = true := by
  unfold idxZ
  by_cases h : l.findIdx p < l.length
  · rw [if_pos h]
    have h1 := List.findIdx_getElem (w := h)
    exact ⟨fun _ => List.any_eq_true.2 ⟨_, List.getElem_mem h, h1⟩, fun _ => by omega⟩
  · rw [if_neg h]
    constructor
    · intro h1; omega
    · intro h1
      obtain ⟨x, hx, hp⟩ := List.any_eq_true.1 h1
      exact absurd (List.findIdx_lt_length_of_exists ⟨x, hx, hp⟩) h

attribute [local irreducible] CG NG SG Vals Der Row Blk MapIs IterAt addI xorI orI andI shlI shrI mulI twoI cmpD cmpW kW digO manyI
set_option maxHeartbeats 16000000 in
theorem idxf_spec {w : World} {l : List Ofr} {a : Option Addr} {c : Nat} {f : FuncId} [Fn : Fnc Try.prog f] {caps : List Value} {p : Ofr → Bool} (hS : Sl ec 21 w a l) (hl : l.length ≤ 1000000000) (hp : ∀ o ∈ l, ∀ W, Kp [] w W → Ret Try.prog f (ov o :: caps).toArray W (.bool (p o))) :
    Ret Try.prog 85 #[.slice a l.length c, fnv f caps] w (.int .i64 (idxZ p l)) := by
  refine enter2 Try.func85 rfl Try.ntmps85 rfl ?_
  repeat (first|apply CG.seq|apply CG.region|apply SG.nil|apply NG.next|apply CG.skip|apply CG.block|apply CG.ret|apply CG.exit|apply CG.scope|apply NG.ret_then|apply NG.ret_block|apply NG.ret_scope|apply NG.exit_then|refine NG.exit_block rfl ?_|refine NG.exit_other rfl ?_|apply NG.exit_scope|apply NG.normal_block|apply NG.normal_scope|refine SG.val rfl rfl rfl rfl (by first|((first|apply qid|apply qia0|apply qia|apply qmf|apply qmn|apply qmv|apply qas|apply qlc|apply qla|apply qfa|apply qnc|apply qic|apply qix|apply qpk|apply qls|apply qei|apply qni|apply qed|apply qnd|apply qad|apply qln|apply qle|apply qgt|apply qge|apply qlk|apply qlv|apply qxt|apply qsb|apply qnt|apply qep|apply qnp|apply qeb|apply qnb|apply qcv|apply qlm|apply qfr|apply qto|apply qmx|apply qen|apply qsn)<;>(first|exact rfl|exact Ar.mk (by omega)|assumption|exact dct (by first|assumption|omega)|exact dcf (by first|assumption|omega)|exact List.not_mem_nil|apply dc_length|apply ec_length|apply dl_length|exact nm1 (by omega)|exact (Int.toNat_of_nonneg (by omega)).symm|exact dcu|fail))|fail) ?_)
  refine CG.loop (X := Nat) (fun i => [(0, .slice a l.length c), (1, fnv f caps), (7, .int .i64 (l.length : Int)), (8, .int .i64 (i : Int))]) (fun i w' => i ≤ l.length ∧ Kp [] w w' ∧ ∀ j (h : j < l.length), j < i → p l[j] = false) (fun i => l.length - i) 0 ⟨by omega, Kp.refl _ _, fun j _ h => absurd h (Nat.not_lt_zero j)⟩ (by (repeat' (first | exact True.intro | exact rfl | refine And.intro ?_ ?_))) ?_
  rintro i w1 ⟨hi, hk, hno⟩
  by_cases hlt : i < l.length
  · have g1 : (i : Int) < (l.length : Int) := by omega
    obtain ⟨b1, o1, rfl, hr1⟩ := (hS.kp0 hk).at hlt
    have hpi := fun W h => hp l[i] (List.getElem_mem hlt) W h
    repeat (first|apply CG.seq|apply CG.region|apply SG.nil|apply NG.next|apply CG.skip|apply CG.block|apply CG.ret|apply CG.exit|apply CG.scope|apply NG.ret_then|apply NG.ret_block|apply NG.ret_scope|apply NG.exit_then|refine NG.exit_block rfl ?_|refine NG.exit_other rfl ?_|apply NG.exit_scope|apply NG.normal_block|apply NG.normal_scope|refine SG.val rfl rfl rfl rfl (by first|((first|apply qid|apply qia0|apply qia|apply qmf|apply qmn|apply qmv|apply qas|apply qlc|apply qla|apply qfa|apply qnc|apply qic|apply qix|apply qpk|apply qls|apply qei|apply qni|apply qed|apply qnd|apply qad|apply qln|apply qle|apply qgt|apply qge|apply qlk|apply qlv|apply qxt|apply qsb|apply qnt|apply qep|apply qnp|apply qeb|apply qnb|apply qcv|apply qlm|apply qfr|apply qto|apply qmx|apply qen|apply qsn)<;>(first|exact rfl|exact Ar.mk (by omega)|assumption|exact dct (by first|assumption|omega)|exact dcf (by first|assumption|omega)|exact List.not_mem_nil|apply dc_length|apply ec_length|apply dl_length|exact nm1 (by omega)|exact (Int.toNat_of_nonneg (by omega)).symm|exact dcu|fail))|fail) ?_)
    refine CG.cond_t rfl (by exact rho_of rfl) rfl ?_
    repeat (first|apply CG.seq|apply CG.region|apply SG.nil|apply NG.next|apply CG.skip|apply CG.block|apply CG.ret|apply CG.exit|apply CG.scope|apply NG.ret_then|apply NG.ret_block|apply NG.ret_scope|apply NG.exit_then|refine NG.exit_block rfl ?_|refine NG.exit_other rfl ?_|apply NG.exit_scope|apply NG.normal_block|apply NG.normal_scope|refine SG.val rfl rfl rfl rfl (by first|((first|apply qid|apply qia0|apply qia|apply qmf|apply qmn|apply qmv|apply qas|apply qlc|apply qla|apply qfa|apply qnc|apply qic|apply qix|apply qpk|apply qls|apply qei|apply qni|apply qed|apply qnd|apply qad|apply qln|apply qle|apply qgt|apply qge|apply qlk|apply qlv|apply qxt|apply qsb|apply qnt|apply qep|apply qnp|apply qeb|apply qnb|apply qcv|apply qlm|apply qfr|apply qto|apply qmx|apply qen|apply qsn)<;>(first|exact rfl|exact Ar.mk (by omega)|assumption|exact dct (by first|assumption|omega)|exact dcf (by first|assumption|omega)|exact List.not_mem_nil|apply dc_length|apply ec_length|apply dl_length|exact nm1 (by omega)|exact (Int.toNat_of_nonneg (by omega)).symm|exact dcu|fail))|fail) ?_)
    refine SG.retVC (Fn := Fn) (vs := [ov l[i]]) (caps := caps) rfl rfl rfl (by exact rho_of rfl) (by repeat' (first | exact True.intro | exact rho_of rfl | refine And.intro ?_ ?_)) (hpi w1 hk) (fun w2 hk2 => ?_)
    cases hpp : p l[i] with
    | true =>
      repeat (first|apply CG.seq|apply CG.region|apply SG.nil|apply NG.next|apply CG.skip|apply CG.block|apply CG.ret|apply CG.exit|apply CG.scope|apply NG.ret_then|apply NG.ret_block|apply NG.ret_scope|apply NG.exit_then|refine NG.exit_block rfl ?_|refine NG.exit_other rfl ?_|apply NG.exit_scope|apply NG.normal_block|apply NG.normal_scope|refine SG.val rfl rfl rfl rfl (by first|((first|apply qid|apply qia0|apply qia|apply qmf|apply qmn|apply qmv|apply qas|apply qlc|apply qla|apply qfa|apply qnc|apply qic|apply qix|apply qpk|apply qls|apply qei|apply qni|apply qed|apply qnd|apply qad|apply qln|apply qle|apply qgt|apply qge|apply qlk|apply qlv|apply qxt|apply qsb|apply qnt|apply qep|apply qnp|apply qeb|apply qnb|apply qcv|apply qlm|apply qfr|apply qto|apply qmx|apply qen|apply qsn)<;>(first|exact rfl|exact Ar.mk (by omega)|assumption|exact dct (by first|assumption|omega)|exact dcf (by first|assumption|omega)|exact List.not_mem_nil|apply dc_length|apply ec_length|apply dl_length|exact nm1 (by omega)|exact (Int.toNat_of_nonneg (by omega)).symm|exact dcu|fail))|fail) ?_)
      refine CG.cond_t rfl (by exact rho_of rfl) rfl ?_
      repeat (first|apply CG.seq|apply CG.region|apply SG.nil|apply NG.next|apply CG.skip|apply CG.block|apply CG.ret|apply CG.exit|apply CG.scope|apply NG.ret_then|apply NG.ret_block|apply NG.ret_scope|apply NG.exit_then|refine NG.exit_block rfl ?_|refine NG.exit_other rfl ?_|apply NG.exit_scope|apply NG.normal_block|apply NG.normal_scope|refine SG.val rfl rfl rfl rfl (by first|((first|apply qid|apply qia0|apply qia|apply qmf|apply qmn|apply qmv|apply qas|apply qlc|apply qla|apply qfa|apply qnc|apply qic|apply qix|apply qpk|apply qls|apply qei|apply qni|apply qed|apply qnd|apply qad|apply qln|apply qle|apply qgt|apply qge|apply qlk|apply qlv|apply qxt|apply qsb|apply qnt|apply qep|apply qnp|apply qeb|apply qnb|apply qcv|apply qlm|apply qfr|apply qto|apply qmx|apply qen|apply qsn)<;>(first|exact rfl|exact Ar.mk (by omega)|assumption|exact dct (by first|assumption|omega)|exact dcf (by first|assumption|omega)|exact List.not_mem_nil|apply dc_length|apply ec_length|apply dl_length|exact nm1 (by omega)|exact (Int.toNat_of_nonneg (by omega)).symm|exact dcu|fail))|fail) ?_)
      refine ret1 (Or.inl rfl) Try.results85 (by first | exact ResV.tmp rfl | exact ResV.agg rfl rfl (by assumption) (by first | exact dc_length _ | exact nc_length _ | exact rc_length _ _ _ | exact ec_length _ | exact dl_length _ _ _ _ | rfl) | exact ResV.cell rfl rfl (by assumption)) ?_
      have e : l.findIdx p = i := (List.findIdx_eq hlt).2 ⟨hpp, fun j hj => by rw [hno j (by omega) hj]⟩
      have e2 : idxZ p l = (i : Int) := by
        unfold idxZ
        rw [e, if_pos hlt]
      rw [e2]
      exact ⟨rfl, hk.trans hk2⟩
    | false =>
      repeat (first|apply CG.seq|apply CG.region|apply SG.nil|apply NG.next|apply CG.skip|apply CG.block|apply CG.ret|apply CG.exit|apply CG.scope|apply NG.ret_then|apply NG.ret_block|apply NG.ret_scope|apply NG.exit_then|refine NG.exit_block rfl ?_|refine NG.exit_other rfl ?_|apply NG.exit_scope|apply NG.normal_block|apply NG.normal_scope|refine SG.val rfl rfl rfl rfl (by first|((first|apply qid|apply qia0|apply qia|apply qmf|apply qmn|apply qmv|apply qas|apply qlc|apply qla|apply qfa|apply qnc|apply qic|apply qix|apply qpk|apply qls|apply qei|apply qni|apply qed|apply qnd|apply qad|apply qln|apply qle|apply qgt|apply qge|apply qlk|apply qlv|apply qxt|apply qsb|apply qnt|apply qep|apply qnp|apply qeb|apply qnb|apply qcv|apply qlm|apply qfr|apply qto|apply qmx|apply qen|apply qsn)<;>(first|exact rfl|exact Ar.mk (by omega)|assumption|exact dct (by first|assumption|omega)|exact dcf (by first|assumption|omega)|exact List.not_mem_nil|apply dc_length|apply ec_length|apply dl_length|exact nm1 (by omega)|exact (Int.toNat_of_nonneg (by omega)).symm|exact dcu|fail))|fail) ?_)
      refine CG.cond_f rfl (by exact rho_of rfl) rfl ?_
      repeat (first|apply CG.seq|apply CG.region|apply SG.nil|apply NG.next|apply CG.skip|apply CG.block|apply CG.ret|apply CG.exit|apply CG.scope|apply NG.ret_then|apply NG.ret_block|apply NG.ret_scope|apply NG.exit_then|refine NG.exit_block rfl ?_|refine NG.exit_other rfl ?_|apply NG.exit_scope|apply NG.normal_block|apply NG.normal_scope|refine SG.val rfl rfl rfl rfl (by first|((first|apply qid|apply qia0|apply qia|apply qmf|apply qmn|apply qmv|apply qas|apply qlc|apply qla|apply qfa|apply qnc|apply qic|apply qix|apply qpk|apply qls|apply qei|apply qni|apply qed|apply qnd|apply qad|apply qln|apply qle|apply qgt|apply qge|apply qlk|apply qlv|apply qxt|apply qsb|apply qnt|apply qep|apply qnp|apply qeb|apply qnb|apply qcv|apply qlm|apply qfr|apply qto|apply qmx|apply qen|apply qsn)<;>(first|exact rfl|exact Ar.mk (by omega)|assumption|exact dct (by first|assumption|omega)|exact dcf (by first|assumption|omega)|exact List.not_mem_nil|apply dc_length|apply ec_length|apply dl_length|exact nm1 (by omega)|exact (Int.toNat_of_nonneg (by omega)).symm|exact dcu|fail))|fail) ?_)
      refine NG.round (i + 1) (by (repeat' (first | exact True.intro | exact rfl | refine And.intro ?_ ?_))) ⟨by omega, hk.trans hk2, fun j h hj => ?_⟩ (by omega)
      by_cases e : j = i
      · subst e; exact hpp
      · exact hno j h (by omega)
  · have g1 : ¬ (i : Int) < (l.length : Int) := by omega
    repeat (first|apply CG.seq|apply CG.region|apply SG.nil|apply NG.next|apply CG.skip|apply CG.block|apply CG.ret|apply CG.exit|apply CG.scope|apply NG.ret_then|apply NG.ret_block|apply NG.ret_scope|apply NG.exit_then|refine NG.exit_block rfl ?_|refine NG.exit_other rfl ?_|apply NG.exit_scope|apply NG.normal_block|apply NG.normal_scope|refine SG.val rfl rfl rfl rfl (by first|((first|apply qid|apply qia0|apply qia|apply qmf|apply qmn|apply qmv|apply qas|apply qlc|apply qla|apply qfa|apply qnc|apply qic|apply qix|apply qpk|apply qls|apply qei|apply qni|apply qed|apply qnd|apply qad|apply qln|apply qle|apply qgt|apply qge|apply qlk|apply qlv|apply qxt|apply qsb|apply qnt|apply qep|apply qnp|apply qeb|apply qnb|apply qcv|apply qlm|apply qfr|apply qto|apply qmx|apply qen|apply qsn)<;>(first|exact rfl|exact Ar.mk (by omega)|assumption|exact dct (by first|assumption|omega)|exact dcf (by first|assumption|omega)|exact List.not_mem_nil|apply dc_length|apply ec_length|apply dl_length|exact nm1 (by omega)|exact (Int.toNat_of_nonneg (by omega)).symm|exact dcu|fail))|fail) ?_)
    refine CG.cond_f rfl (by exact rho_of rfl) rfl ?_
    repeat (first|apply CG.seq|apply CG.region|apply SG.nil|apply NG.next|apply CG.skip|apply CG.block|apply CG.ret|apply CG.exit|apply CG.scope|apply NG.ret_then|apply NG.ret_block|apply NG.ret_scope|apply NG.exit_then|refine NG.exit_block rfl ?_|refine NG.exit_other rfl ?_|apply NG.exit_scope|apply NG.normal_block|apply NG.normal_scope|refine SG.val rfl rfl rfl rfl (by first|((first|apply qid|apply qia0|apply qia|apply qmf|apply qmn|apply qmv|apply qas|apply qlc|apply qla|apply qfa|apply qnc|apply qic|apply qix|apply qpk|apply qls|apply qei|apply qni|apply qed|apply qnd|apply qad|apply qln|apply qle|apply qgt|apply qge|apply qlk|apply qlv|apply qxt|apply qsb|apply qnt|apply qep|apply qnp|apply qeb|apply qnb|apply qcv|apply qlm|apply qfr|apply qto|apply qmx|apply qen|apply qsn)<;>(first|exact rfl|exact Ar.mk (by omega)|assumption|exact dct (by first|assumption|omega)|exact dcf (by first|assumption|omega)|exact List.not_mem_nil|apply dc_length|apply ec_length|apply dl_length|exact nm1 (by omega)|exact (Int.toNat_of_nonneg (by omega)).symm|exact dcu|fail))|fail) ?_)
    refine ret1 (Or.inl rfl) Try.results85 (by first | exact ResV.tmp rfl | exact ResV.agg rfl rfl (by assumption) (by first | exact dc_length _ | exact nc_length _ | exact rc_length _ _ _ | exact ec_length _ | exact dl_length _ _ _ _ | rfl) | exact ResV.cell rfl rfl (by assumption)) ?_
    have e2 : idxZ p l = -1 := by
      unfold idxZ
      rw [if_neg]
      intro h
      have h1 := List.findIdx_getElem (w := h)
      rw [hno _ h (by omega)] at h1
      cases h1
    rw [e2]
    exact ⟨rfl, hk⟩
set_option maxHeartbeats 16000000 in
theorem contf_spec {w : World} {l : List Ofr} {a : Option Addr} {c : Nat} {f : FuncId} [Fn : Fnc Try.prog f] {caps : List Value} {p : Ofr → Bool} (hS : Sl ec 21 w a l) (hl : l.length ≤ 1000000000) (hp : ∀ o ∈ l, ∀ W, Kp [] w W → Ret Try.prog f (ov o :: caps).toArray W (.bool (p o))) :
    Ret Try.prog 64 #[.slice a l.length c, fnv f caps] w (.bool (l.any p)) := by
  refine enter2 Try.func64 rfl Try.ntmps64 rfl ?_
  have hz := idxZ_any p l
  have hsp := idxf_spec (c := c) hS hl hp
  generalize idxZ p l = z at hz hsp
  repeat (first|apply CG.seq|apply CG.region|apply SG.nil|apply NG.next|apply CG.skip|apply CG.block|apply CG.ret|apply CG.exit|apply CG.scope|apply NG.ret_then|apply NG.ret_block|apply NG.ret_scope|apply NG.exit_then|refine NG.exit_block rfl ?_|refine NG.exit_other rfl ?_|apply NG.exit_scope|apply NG.normal_block|apply NG.normal_scope|refine SG.val rfl rfl rfl rfl (by first|((first|apply qid|apply qia0|apply qia|apply qmf|apply qmn|apply qmv|apply qas|apply qlc|apply qla|apply qfa|apply qnc|apply qic|apply qix|apply qpk|apply qls|apply qei|apply qni|apply qed|apply qnd|apply qad|apply qln|apply qle|apply qgt|apply qge|apply qlk|apply qlv|apply qxt|apply qsb|apply qnt|apply qep|apply qnp|apply qeb|apply qnb|apply qcv|apply qlm|apply qfr|apply qto|apply qmx|apply qen|apply qsn)<;>(first|exact rfl|exact Ar.mk (by omega)|assumption|exact dct (by first|assumption|omega)|exact dcf (by first|assumption|omega)|exact List.not_mem_nil|apply dc_length|apply ec_length|apply dl_length|exact nm1 (by omega)|exact (Int.toNat_of_nonneg (by omega)).symm|exact dcu|fail))|fail) ?_)
  refine SG.ret rfl rfl rfl (by repeat' (first | exact True.intro | exact rho_of rfl | refine And.intro ?_ ?_)) hsp (fun w1 hk1 => ?_)
  cases hb : l.any p with
  | true =>
    have g1 := hz.2 hb
    repeat (first|apply CG.seq|apply CG.region|apply SG.nil|apply NG.next|apply CG.skip|apply CG.block|apply CG.ret|apply CG.exit|apply CG.scope|apply NG.ret_then|apply NG.ret_block|apply NG.ret_scope|apply NG.exit_then|refine NG.exit_block rfl ?_|refine NG.exit_other rfl ?_|apply NG.exit_scope|apply NG.normal_block|apply NG.normal_scope|refine SG.val rfl rfl rfl rfl (by first|((first|apply qid|apply qia0|apply qia|apply qmf|apply qmn|apply qmv|apply qas|apply qlc|apply qla|apply qfa|apply qnc|apply qic|apply qix|apply qpk|apply qls|apply qei|apply qni|apply qed|apply qnd|apply qad|apply qln|apply qle|apply qgt|apply qge|apply qlk|apply qlv|apply qxt|apply qsb|apply qnt|apply qep|apply qnp|apply qeb|apply qnb|apply qcv|apply qlm|apply qfr|apply qto|apply qmx|apply qen|apply qsn)<;>(first|exact rfl|exact Ar.mk (by omega)|assumption|exact dct (by first|assumption|omega)|exact dcf (by first|assumption|omega)|exact List.not_mem_nil|apply dc_length|apply ec_length|apply dl_length|exact nm1 (by omega)|exact (Int.toNat_of_nonneg (by omega)).symm|exact dcu|fail))|fail) ?_)
    refine ret1 (Or.inl rfl) Try.results64 (by first | exact ResV.tmp rfl | exact ResV.agg rfl rfl (by assumption) (by first | exact dc_length _ | exact nc_length _ | exact rc_length _ _ _ | exact ec_length _ | exact dl_length _ _ _ _ | rfl) | exact ResV.cell rfl rfl (by assumption)) ?_
    exact ⟨rfl, hk1⟩
  | false =>
    have g1 : ¬ 0 ≤ z := fun h => by rw [hz.1 h] at hb; cases hb
    repeat (first|apply CG.seq|apply CG.region|apply SG.nil|apply NG.next|apply CG.skip|apply CG.block|apply CG.ret|apply CG.exit|apply CG.scope|apply NG.ret_then|apply NG.ret_block|apply NG.ret_scope|apply NG.exit_then|refine NG.exit_block rfl ?_|refine NG.exit_other rfl ?_|apply NG.exit_scope|apply NG.normal_block|apply NG.normal_scope|refine SG.val rfl rfl rfl rfl (by first|((first|apply qid|apply qia0|apply qia|apply qmf|apply qmn|apply qmv|apply qas|apply qlc|apply qla|apply qfa|apply qnc|apply qic|apply qix|apply qpk|apply qls|apply qei|apply qni|apply qed|apply qnd|apply qad|apply qln|apply qle|apply qgt|apply qge|apply qlk|apply qlv|apply qxt|apply qsb|apply qnt|apply qep|apply qnp|apply qeb|apply qnb|apply qcv|apply qlm|apply qfr|apply qto|apply qmx|apply qen|apply qsn)<;>(first|exact rfl|exact Ar.mk (by omega)|assumption|exact dct (by first|assumption|omega)|exact dcf (by first|assumption|omega)|exact List.not_mem_nil|apply dc_length|apply ec_length|apply dl_length|exact nm1 (by omega)|exact (Int.toNat_of_nonneg (by omega)).symm|exact dcu|fail))|fail) ?_)
    refine ret1 (Or.inl rfl) Try.results64 (by first | exact ResV.tmp rfl | exact ResV.agg rfl rfl (by assumption) (by first | exact dc_length _ | exact nc_length _ | exact rc_length _ _ _ | exact ec_length _ | exact dl_length _ _ _ _ | rfl) | exact ResV.cell rfl rfl (by assumption)) ?_
    exact ⟨rfl, hk1⟩
set_option maxHeartbeats 16000000 in
theorem nofit_spec {w : World} {b3 : Nat} {o : Ofr} (x : Ofr) (hr : Row w b3 0 (ec o)) : Ret Try.prog 66 #[ov x, .pointer (some ⟨b3, 0, none⟩)] w (.bool (!decide (fitP x o))) := by
  refine enter2 Try.func66 rfl Try.ntmps66 rfl ?_
  repeat (first|apply CG.seq|apply CG.region|apply SG.nil|apply NG.next|apply CG.skip|apply CG.block|apply CG.ret|apply CG.exit|apply CG.scope|apply NG.ret_then|apply NG.ret_block|apply NG.ret_scope|apply NG.exit_then|refine NG.exit_block rfl ?_|refine NG.exit_other rfl ?_|apply NG.exit_scope|apply NG.normal_block|apply NG.normal_scope|refine SG.val rfl rfl rfl rfl (by first|((first|apply qid|apply qia0|apply qia|apply qmf|apply qmn|apply qmv|apply qas|apply qlc|apply qla|apply qfa|apply qnc|apply qic|apply qix|apply qpk|apply qls|apply qei|apply qni|apply qed|apply qnd|apply qad|apply qln|apply qle|apply qgt|apply qge|apply qlk|apply qlv|apply qxt|apply qsb|apply qnt|apply qep|apply qnp|apply qeb|apply qnb|apply qcv|apply qlm|apply qfr|apply qto|apply qmx|apply qen|apply qsn)<;>(first|exact rfl|exact Ar.mk (by omega)|assumption|exact dct (by first|assumption|omega)|exact dcf (by first|assumption|omega)|exact List.not_mem_nil|apply dc_length|apply ec_length|apply dl_length|exact nm1 (by omega)|exact (Int.toNat_of_nonneg (by omega)).symm|exact dcu|fail))|fail) ?_)
  refine SG.box rfl rfl rfl (by exact rho_of rfl) (fun b1 w1 hk1 hb1 hB1 => ?_)
  have hB1 : Blk w1 b1 (.cells (ec x).toArray 47) := hB1
  have r1 := Row.all (l := ec x) hB1 rfl
  have r2 := hr.kp0 hk1
  repeat (first|apply CG.seq|apply CG.region|apply SG.nil|apply NG.next|apply CG.skip|apply CG.block|apply CG.ret|apply CG.exit|apply CG.scope|apply NG.ret_then|apply NG.ret_block|apply NG.ret_scope|apply NG.exit_then|refine NG.exit_block rfl ?_|refine NG.exit_other rfl ?_|apply NG.exit_scope|apply NG.normal_block|apply NG.normal_scope|refine SG.val rfl rfl rfl rfl (by first|((first|apply qid|apply qia0|apply qia|apply qmf|apply qmn|apply qmv|apply qas|apply qlc|apply qla|apply qfa|apply qnc|apply qic|apply qix|apply qpk|apply qls|apply qei|apply qni|apply qed|apply qnd|apply qad|apply qln|apply qle|apply qgt|apply qge|apply qlk|apply qlv|apply qxt|apply qsb|apply qnt|apply qep|apply qnp|apply qeb|apply qnb|apply qcv|apply qlm|apply qfr|apply qto|apply qmx|apply qen|apply qsn)<;>(first|exact rfl|exact Ar.mk (by omega)|assumption|exact dct (by first|assumption|omega)|exact dcf (by first|assumption|omega)|exact List.not_mem_nil|apply dc_length|apply ec_length|apply dl_length|exact nm1 (by omega)|exact (Int.toNat_of_nonneg (by omega)).symm|exact dcu|fail))|fail) ?_)
  refine SG.ret rfl rfl rfl (vs := [ov x, ov o]) (by repeat' (first | exact True.intro | exact rho_of rfl | refine And.intro ?_ ?_)) (fit_spec x o w1) (fun w2 hk2 => ?_)
  repeat (first|apply CG.seq|apply CG.region|apply SG.nil|apply NG.next|apply CG.skip|apply CG.block|apply CG.ret|apply CG.exit|apply CG.scope|apply NG.ret_then|apply NG.ret_block|apply NG.ret_scope|apply NG.exit_then|refine NG.exit_block rfl ?_|refine NG.exit_other rfl ?_|apply NG.exit_scope|apply NG.normal_block|apply NG.normal_scope|refine SG.val rfl rfl rfl rfl (by first|((first|apply qid|apply qia0|apply qia|apply qmf|apply qmn|apply qmv|apply qas|apply qlc|apply qla|apply qfa|apply qnc|apply qic|apply qix|apply qpk|apply qls|apply qei|apply qni|apply qed|apply qnd|apply qad|apply qln|apply qle|apply qgt|apply qge|apply qlk|apply qlv|apply qxt|apply qsb|apply qnt|apply qep|apply qnp|apply qeb|apply qnb|apply qcv|apply qlm|apply qfr|apply qto|apply qmx|apply qen|apply qsn)<;>(first|exact rfl|exact Ar.mk (by omega)|assumption|exact dct (by first|assumption|omega)|exact dcf (by first|assumption|omega)|exact List.not_mem_nil|apply dc_length|apply ec_length|apply dl_length|exact nm1 (by omega)|exact (Int.toNat_of_nonneg (by omega)).symm|exact dcu|fail))|fail) ?_)
  refine ret1 (Or.inl rfl) Try.results66 (by first | exact ResV.tmp rfl | exact ResV.agg rfl rfl (by assumption) (by first | exact dc_length _ | exact nc_length _ | exact rc_length _ _ _ | exact ec_length _ | exact dl_length _ _ _ _ | rfl) | exact ResV.cell rfl rfl (by assumption)) ?_
  exact ⟨rfl, hk1.trans hk2⟩
set_option maxHeartbeats 16000000 in
theorem fits_spec {w : World} {l : List Ofr} {a : Option Addr} {c : Nat} (hS : Sl ec 21 w a l) (hl : l.length ≤ 1000000000) (o : Ofr) : Ret Try.prog 35 #[.slice a l.length c, ov o] w (.bool (!l.any (fun x => !decide (fitP x o)))) := by
  refine enter2 Try.func35 rfl Try.ntmps35 rfl ?_
  repeat (first|apply CG.seq|apply CG.region|apply SG.nil|apply NG.next|apply CG.skip|apply CG.block|apply CG.ret|apply CG.exit|apply CG.scope|apply NG.ret_then|apply NG.ret_block|apply NG.ret_scope|apply NG.exit_then|refine NG.exit_block rfl ?_|refine NG.exit_other rfl ?_|apply NG.exit_scope|apply NG.normal_block|apply NG.normal_scope|refine SG.val rfl rfl rfl rfl (by first|((first|apply qid|apply qia0|apply qia|apply qmf|apply qmn|apply qmv|apply qas|apply qlc|apply qla|apply qfa|apply qnc|apply qic|apply qix|apply qpk|apply qls|apply qei|apply qni|apply qed|apply qnd|apply qad|apply qln|apply qle|apply qgt|apply qge|apply qlk|apply qlv|apply qxt|apply qsb|apply qnt|apply qep|apply qnp|apply qeb|apply qnb|apply qcv|apply qlm|apply qfr|apply qto|apply qmx|apply qen|apply qsn)<;>(first|exact rfl|exact Ar.mk (by omega)|assumption|exact dct (by first|assumption|omega)|exact dcf (by first|assumption|omega)|exact List.not_mem_nil|apply dc_length|apply ec_length|apply dl_length|exact nm1 (by omega)|exact (Int.toNat_of_nonneg (by omega)).symm|exact dcu|fail))|fail) ?_)
  refine SG.box rfl rfl rfl (by exact rho_of rfl) (fun b1 w1 hk1 hb1 hB1 => ?_)
  have hB1 : Blk w1 b1 (.cells (ec o).toArray 47) := hB1
  have r1 := Row.all (l := ec o) hB1 rfl
  repeat (first|apply CG.seq|apply CG.region|apply SG.nil|apply NG.next|apply CG.skip|apply CG.block|apply CG.ret|apply CG.exit|apply CG.scope|apply NG.ret_then|apply NG.ret_block|apply NG.ret_scope|apply NG.exit_then|refine NG.exit_block rfl ?_|refine NG.exit_other rfl ?_|apply NG.exit_scope|apply NG.normal_block|apply NG.normal_scope|refine SG.val rfl rfl rfl rfl (by first|((first|apply qid|apply qia0|apply qia|apply qmf|apply qmn|apply qmv|apply qas|apply qlc|apply qla|apply qfa|apply qnc|apply qic|apply qix|apply qpk|apply qls|apply qei|apply qni|apply qed|apply qnd|apply qad|apply qln|apply qle|apply qgt|apply qge|apply qlk|apply qlv|apply qxt|apply qsb|apply qnt|apply qep|apply qnp|apply qeb|apply qnb|apply qcv|apply qlm|apply qfr|apply qto|apply qmx|apply qen|apply qsn)<;>(first|exact rfl|exact Ar.mk (by omega)|assumption|exact dct (by first|assumption|omega)|exact dcf (by first|assumption|omega)|exact List.not_mem_nil|apply dc_length|apply ec_length|apply dl_length|exact nm1 (by omega)|exact (Int.toNat_of_nonneg (by omega)).symm|exact dcu|fail))|fail) ?_)
  refine SG.val rfl rfl rfl rfl (qmf (vs := [.pointer (some ⟨b1, 0, none⟩)]) rfl) ?_
  refine SG.ret rfl rfl rfl (vs := [.slice a l.length c, fnv 66 [.pointer (some ⟨b1, 0, none⟩)]]) (by repeat' (first | exact True.intro | exact rho_of rfl | refine And.intro ?_ ?_)) (contf_spec (f := 66) (caps := [.pointer (some ⟨b1, 0, none⟩)]) (p := fun x => !decide (fitP x o)) (hS.kp0 hk1) hl (fun x _ W hk => nofit_spec x (r1.kp0 hk))) (fun w2 hk2 => ?_)
  repeat (first|apply CG.seq|apply CG.region|apply SG.nil|apply NG.next|apply CG.skip|apply CG.block|apply CG.ret|apply CG.exit|apply CG.scope|apply NG.ret_then|apply NG.ret_block|apply NG.ret_scope|apply NG.exit_then|refine NG.exit_block rfl ?_|refine NG.exit_other rfl ?_|apply NG.exit_scope|apply NG.normal_block|apply NG.normal_scope|refine SG.val rfl rfl rfl rfl (by first|((first|apply qid|apply qia0|apply qia|apply qmf|apply qmn|apply qmv|apply qas|apply qlc|apply qla|apply qfa|apply qnc|apply qic|apply qix|apply qpk|apply qls|apply qei|apply qni|apply qed|apply qnd|apply qad|apply qln|apply qle|apply qgt|apply qge|apply qlk|apply qlv|apply qxt|apply qsb|apply qnt|apply qep|apply qnp|apply qeb|apply qnb|apply qcv|apply qlm|apply qfr|apply qto|apply qmx|apply qen|apply qsn)<;>(first|exact rfl|exact Ar.mk (by omega)|assumption|exact dct (by first|assumption|omega)|exact dcf (by first|assumption|omega)|exact List.not_mem_nil|apply dc_length|apply ec_length|apply dl_length|exact nm1 (by omega)|exact (Int.toNat_of_nonneg (by omega)).symm|exact dcu|fail))|fail) ?_)
  refine ret1 (Or.inl rfl) Try.results35 (by first | exact ResV.tmp rfl | exact ResV.agg rfl rfl (by assumption) (by first | exact dc_length _ | exact nc_length _ | exact rc_length _ _ _ | exact ec_length _ | exact dl_length _ _ _ _ | rfl) | exact ResV.cell rfl rfl (by assumption)) ?_
  exact ⟨rfl, hk1.trans hk2⟩
set_option maxHeartbeats 16000000 in
theorem mix_spec {w : World} {l : List Ofr} {a : Option Addr} {c : Nat} (hS : Sl ec 21 w a l) (hl : l.length ≤ 100000) : Ret Try.prog 36 #[.slice a l.length c] w (dv (mixD l)) := by
  refine enter1 Try.func36 rfl Try.ntmps36 rfl ?_
  repeat (first|apply CG.seq|apply CG.region|apply SG.nil|apply NG.next|apply CG.skip|apply CG.block|apply CG.ret|apply CG.exit|apply CG.scope|apply NG.ret_then|apply NG.ret_block|apply NG.ret_scope|apply NG.exit_then|refine NG.exit_block rfl ?_|refine NG.exit_other rfl ?_|apply NG.exit_scope|apply NG.normal_block|apply NG.normal_scope|refine SG.val rfl rfl rfl rfl (by first|((first|apply qid|apply qia0|apply qia|apply qmf|apply qmn|apply qmv|apply qas|apply qlc|apply qla|apply qfa|apply qnc|apply qic|apply qix|apply qpk|apply qls|apply qei|apply qni|apply qed|apply qnd|apply qad|apply qln|apply qle|apply qgt|apply qge|apply qlk|apply qlv|apply qxt|apply qsb|apply qnt|apply qep|apply qnp|apply qeb|apply qnb|apply qcv|apply qlm|apply qfr|apply qto|apply qmx|apply qen|apply qsn)<;>(first|exact rfl|exact Ar.mk (by omega)|assumption|exact dct (by first|assumption|omega)|exact dcf (by first|assumption|omega)|exact List.not_mem_nil|apply dc_length|apply ec_length|apply dl_length|exact nm1 (by omega)|exact (Int.toNat_of_nonneg (by omega)).symm|exact dcu|fail))|fail) ?_)
  refine SG.alloc rfl rfl rfl (fun b2 w1 hk1 hb2 hB2 => ?_)
  have hB2 : Blk w1 b2 (.cells (dc zd).toArray 24) := hB2
  have l2 := hB2.lt
  repeat (first|apply CG.seq|apply CG.region|apply SG.nil|apply NG.next|apply CG.skip|apply CG.block|apply CG.ret|apply CG.exit|apply CG.scope|apply NG.ret_then|apply NG.ret_block|apply NG.ret_scope|apply NG.exit_then|refine NG.exit_block rfl ?_|refine NG.exit_other rfl ?_|apply NG.exit_scope|apply NG.normal_block|apply NG.normal_scope|refine SG.val rfl rfl rfl rfl (by first|((first|apply qid|apply qia0|apply qia|apply qmf|apply qmn|apply qmv|apply qas|apply qlc|apply qla|apply qfa|apply qnc|apply qic|apply qix|apply qpk|apply qls|apply qei|apply qni|apply qed|apply qnd|apply qad|apply qln|apply qle|apply qgt|apply qge|apply qlk|apply qlv|apply qxt|apply qsb|apply qnt|apply qep|apply qnp|apply qeb|apply qnb|apply qcv|apply qlm|apply qfr|apply qto|apply qmx|apply qen|apply qsn)<;>(first|exact rfl|exact Ar.mk (by omega)|assumption|exact dct (by first|assumption|omega)|exact dcf (by first|assumption|omega)|exact List.not_mem_nil|apply dc_length|apply ec_length|apply dl_length|exact nm1 (by omega)|exact (Int.toNat_of_nonneg (by omega)).symm|exact dcu|fail))|fail) ?_)
  refine CG.loop (X := Value × Nat) (fun x => [(2, .pointer (some ⟨b2, 0, none⟩)), (3, x.1), (6, .slice a l.length c), (7, .int .i64 (l.length : Int)), (8, .int .i64 (x.2 : Int))]) (fun x w' => x.2 ≤ l.length ∧ Kp [] w1 w' ∧ w'.ownsRow w1.heap.size 24 8 x.1 ((l.take x.2).map digO).length (flt dc ((l.take x.2).map digO))) (fun x => l.length - x.2) (.slice none 0 0, 0) ⟨by simp only; omega, Kp.refl _ _, own_nil⟩ (by (repeat' (first | exact True.intro | exact rfl | refine And.intro ?_ ?_))) ?_
  rintro ⟨v, i⟩ w2 ⟨hi, hk2, ho⟩
  simp only at hi ho
  refine CG.to [(2, .pointer (some ⟨b2, 0, none⟩)), (3, v), (6, .slice a l.length c), (7, .int .i64 (l.length : Int)), (8, .int .i64 (i : Int))] (by (repeat' (first | exact True.intro | exact rfl | refine And.intro ?_ ?_))) ?_
  have k2 := hk1.trans hk2
  by_cases hlt : i < l.length
  · have g1 : (i : Int) < (l.length : Int) := by omega
    obtain ⟨b1, o1, rfl, hr1⟩ := (hS.kp0 k2).at hlt
    repeat (first|apply CG.seq|apply CG.region|apply SG.nil|apply NG.next|apply CG.skip|apply CG.block|apply CG.ret|apply CG.exit|apply CG.scope|apply NG.ret_then|apply NG.ret_block|apply NG.ret_scope|apply NG.exit_then|refine NG.exit_block rfl ?_|refine NG.exit_other rfl ?_|apply NG.exit_scope|apply NG.normal_block|apply NG.normal_scope|refine SG.val rfl rfl rfl rfl (by first|((first|apply qid|apply qia0|apply qia|apply qmf|apply qmn|apply qmv|apply qas|apply qlc|apply qla|apply qfa|apply qnc|apply qic|apply qix|apply qpk|apply qls|apply qei|apply qni|apply qed|apply qnd|apply qad|apply qln|apply qle|apply qgt|apply qge|apply qlk|apply qlv|apply qxt|apply qsb|apply qnt|apply qep|apply qnp|apply qeb|apply qnb|apply qcv|apply qlm|apply qfr|apply qto|apply qmx|apply qen|apply qsn)<;>(first|exact rfl|exact Ar.mk (by omega)|assumption|exact dct (by first|assumption|omega)|exact dcf (by first|assumption|omega)|exact List.not_mem_nil|apply dc_length|apply ec_length|apply dl_length|exact nm1 (by omega)|exact (Int.toNat_of_nonneg (by omega)).symm|exact dcu|fail))|fail) ?_)
    refine CG.cond_t rfl (by exact rho_of rfl) rfl ?_
    repeat (first|apply CG.seq|apply CG.region|apply SG.nil|apply NG.next|apply CG.skip|apply CG.block|apply CG.ret|apply CG.exit|apply CG.scope|apply NG.ret_then|apply NG.ret_block|apply NG.ret_scope|apply NG.exit_then|refine NG.exit_block rfl ?_|refine NG.exit_other rfl ?_|apply NG.exit_scope|apply NG.normal_block|apply NG.normal_scope|refine SG.val rfl rfl rfl rfl (by first|((first|apply qid|apply qia0|apply qia|apply qmf|apply qmn|apply qmv|apply qas|apply qlc|apply qla|apply qfa|apply qnc|apply qic|apply qix|apply qpk|apply qls|apply qei|apply qni|apply qed|apply qnd|apply qad|apply qln|apply qle|apply qgt|apply qge|apply qlk|apply qlv|apply qxt|apply qsb|apply qnt|apply qep|apply qnp|apply qeb|apply qnb|apply qcv|apply qlm|apply qfr|apply qto|apply qmx|apply qen|apply qsn)<;>(first|exact rfl|exact Ar.mk (by omega)|assumption|exact dct (by first|assumption|omega)|exact dcf (by first|assumption|omega)|exact List.not_mem_nil|apply dc_length|apply ec_length|apply dl_length|exact nm1 (by omega)|exact (Int.toNat_of_nonneg (by omega)).symm|exact dcu|fail))|fail) ?_)
    refine SG.alloc rfl rfl rfl (fun b5 w3 hk3 hb5 hB5 => ?_)
    refine SG.setAll (l := ec l[i]) rfl rfl (by exact rho_of rfl) (by exact rho_of rfl) hB5 (ec_length _) rfl (ec_one _) (fun w4 hk4 hB6 => ?_)
    have hr6 : Row w4 b5 0 (ec l[i]) := Row.all hB6 rfl
    have k4 : Kp [] w2 w4 := hk3.trans_new hk4 (new1 (by omega))
    repeat (first|apply CG.seq|apply CG.region|apply SG.nil|apply NG.next|apply CG.skip|apply CG.block|apply CG.ret|apply CG.exit|apply CG.scope|apply NG.ret_then|apply NG.ret_block|apply NG.ret_scope|apply NG.exit_then|refine NG.exit_block rfl ?_|refine NG.exit_other rfl ?_|apply NG.exit_scope|apply NG.normal_block|apply NG.normal_scope|refine SG.val rfl rfl rfl rfl (by first|((first|apply qid|apply qia0|apply qia|apply qmf|apply qmn|apply qmv|apply qas|apply qlc|apply qla|apply qfa|apply qnc|apply qic|apply qix|apply qpk|apply qls|apply qei|apply qni|apply qed|apply qnd|apply qad|apply qln|apply qle|apply qgt|apply qge|apply qlk|apply qlv|apply qxt|apply qsb|apply qnt|apply qep|apply qnp|apply qeb|apply qnb|apply qcv|apply qlm|apply qfr|apply qto|apply qmx|apply qen|apply qsn)<;>(first|exact rfl|exact Ar.mk (by omega)|assumption|exact dct (by first|assumption|omega)|exact dcf (by first|assumption|omega)|exact List.not_mem_nil|apply dc_length|apply ec_length|apply dl_length|exact nm1 (by omega)|exact (Int.toNat_of_nonneg (by omega)).symm|exact dcu|fail))|fail) ?_)
    refine SG.ret rfl rfl rfl (vs := [ov l[i]]) (by repeat' (first | exact True.intro | exact rho_of rfl | refine And.intro ?_ ?_)) (digest_spec l[i] w4) (fun w5 hk5 => ?_)
    refine SG.buildSlice rfl rfl rfl rfl (bsg _) (fun b7 w6 hk6 hb7 hB7 => ?_)
    have k6 := (k4.trans hk5).trans hk6
    have hlen : ((l.take i).map digO).length = i := by rw [List.length_map, List.length_take]; omega
    refine SG.appO (enc := dc) (xs := (l.take i).map digO) (ys := [digO l[i]]) (base := w1.heap.size) rfl rfl rfl (by exact rho_of rfl) (by exact rho_of rfl) rfl rfl rfl rfl dc_length dc_one (own_kp0 ho k6) (sl_one dc_length hB7) (by rw [hlen]; simp only [maxLen, List.length_cons, List.length_nil]; omega) (by rw [hlen]; show (i + 1) * 8 ≤ _; omega) (hk2.trans k6).size (fun v8 w7 hk7 ho8 _ => ?_)
    have e : (l.take i).map digO ++ [digO l[i]] = (l.take (i + 1)).map digO := by rw [List.take_succ_eq_append_getElem hlt, List.map_append]; rfl
    rw [e] at ho8
    repeat (first|apply CG.seq|apply CG.region|apply SG.nil|apply NG.next|apply CG.skip|apply CG.block|apply CG.ret|apply CG.exit|apply CG.scope|apply NG.ret_then|apply NG.ret_block|apply NG.ret_scope|apply NG.exit_then|refine NG.exit_block rfl ?_|refine NG.exit_other rfl ?_|apply NG.exit_scope|apply NG.normal_block|apply NG.normal_scope|refine SG.val rfl rfl rfl rfl (by first|((first|apply qid|apply qia0|apply qia|apply qmf|apply qmn|apply qmv|apply qas|apply qlc|apply qla|apply qfa|apply qnc|apply qic|apply qix|apply qpk|apply qls|apply qei|apply qni|apply qed|apply qnd|apply qad|apply qln|apply qle|apply qgt|apply qge|apply qlk|apply qlv|apply qxt|apply qsb|apply qnt|apply qep|apply qnp|apply qeb|apply qnb|apply qcv|apply qlm|apply qfr|apply qto|apply qmx|apply qen|apply qsn)<;>(first|exact rfl|exact Ar.mk (by omega)|assumption|exact dct (by first|assumption|omega)|exact dcf (by first|assumption|omega)|exact List.not_mem_nil|apply dc_length|apply ec_length|apply dl_length|exact nm1 (by omega)|exact (Int.toNat_of_nonneg (by omega)).symm|exact dcu|fail))|fail) ?_)
    refine NG.round (v8, i + 1) (by (repeat' (first | exact True.intro | exact rfl | refine And.intro ?_ ?_))) ⟨by simp only; omega, (hk2.trans k6).trans_new hk7 (own_new (own_kp0 ho k6) (Nat.le_refl _)), ho8⟩ (by simp only; omega)
  · have g1 : ¬ (i : Int) < (l.length : Int) := by omega
    rw [List.take_of_length_le (by omega)] at ho
    repeat (first|apply CG.seq|apply CG.region|apply SG.nil|apply NG.next|apply CG.skip|apply CG.block|apply CG.ret|apply CG.exit|apply CG.scope|apply NG.ret_then|apply NG.ret_block|apply NG.ret_scope|apply NG.exit_then|refine NG.exit_block rfl ?_|refine NG.exit_other rfl ?_|apply NG.exit_scope|apply NG.normal_block|apply NG.normal_scope|refine SG.val rfl rfl rfl rfl (by first|((first|apply qid|apply qia0|apply qia|apply qmf|apply qmn|apply qmv|apply qas|apply qlc|apply qla|apply qfa|apply qnc|apply qic|apply qix|apply qpk|apply qls|apply qei|apply qni|apply qed|apply qnd|apply qad|apply qln|apply qle|apply qgt|apply qge|apply qlk|apply qlv|apply qxt|apply qsb|apply qnt|apply qep|apply qnp|apply qeb|apply qnb|apply qcv|apply qlm|apply qfr|apply qto|apply qmx|apply qen|apply qsn)<;>(first|exact rfl|exact Ar.mk (by omega)|assumption|exact dct (by first|assumption|omega)|exact dcf (by first|assumption|omega)|exact List.not_mem_nil|apply dc_length|apply ec_length|apply dl_length|exact nm1 (by omega)|exact (Int.toNat_of_nonneg (by omega)).symm|exact dcu|fail))|fail) ?_)
    refine CG.cond_f rfl (by exact rho_of rfl) rfl ?_
    repeat (first|apply CG.seq|apply CG.region|apply SG.nil|apply NG.next|apply CG.skip|apply CG.block|apply CG.ret|apply CG.exit|apply CG.scope|apply NG.ret_then|apply NG.ret_block|apply NG.ret_scope|apply NG.exit_then|refine NG.exit_block rfl ?_|refine NG.exit_other rfl ?_|apply NG.exit_scope|apply NG.normal_block|apply NG.normal_scope|refine SG.val rfl rfl rfl rfl (by first|((first|apply qid|apply qia0|apply qia|apply qmf|apply qmn|apply qmv|apply qas|apply qlc|apply qla|apply qfa|apply qnc|apply qic|apply qix|apply qpk|apply qls|apply qei|apply qni|apply qed|apply qnd|apply qad|apply qln|apply qle|apply qgt|apply qge|apply qlk|apply qlv|apply qxt|apply qsb|apply qnt|apply qep|apply qnp|apply qeb|apply qnb|apply qcv|apply qlm|apply qfr|apply qto|apply qmx|apply qen|apply qsn)<;>(first|exact rfl|exact Ar.mk (by omega)|assumption|exact dct (by first|assumption|omega)|exact dcf (by first|assumption|omega)|exact List.not_mem_nil|apply dc_length|apply ec_length|apply dl_length|exact nm1 (by omega)|exact (Int.toNat_of_nonneg (by omega)).symm|exact dcu|fail))|fail) ?_)
    refine SG.call rfl rfl rfl (vs := [v, fnv 40 []]) (by repeat' (first | exact True.intro | exact rho_of rfl | refine And.intro ?_ ?_)) ((sortn_spec ho (by rw [List.length_map]; omega)).mono (fun e w3 hh => ?_))
    obtain ⟨he, hk3, ho3⟩ := hh
    refine ⟨_, he, ?_⟩
    have elen : (l.map digO).length = (sortK num (l.map digO)).length := (sortK_perm num (l.map digO)).length_eq.symm
    rw [elen] at ho3
    obtain ⟨a3, c3, rfl, _, hS3⟩ := Sl.own dc_length ho3 rfl
    have k3 : Kp [] w1 w3 := hk2.trans_new hk3 (own_new ho (Nat.le_refl _))
    have hab : ∀ b off, a3 = some ⟨b, off, none⟩ → b < w3.heap.size := fun b off e => by
      rcases ho3.2 with ⟨h1, _⟩ | ⟨g, cap, cur, h1, _, h2, _⟩
      · simp only [Value.slice.injEq] at h1
        rw [h1.1] at e
        cases e
      · simp only [Value.slice.injEq] at h1
        rw [h1.1] at e
        cases e
        exact (Array.getElem?_eq_some_iff.1 h2).1
    repeat (first|apply CG.seq|apply CG.region|apply SG.nil|apply NG.next|apply CG.skip|apply CG.block|apply CG.ret|apply CG.exit|apply CG.scope|apply NG.ret_then|apply NG.ret_block|apply NG.ret_scope|apply NG.exit_then|refine NG.exit_block rfl ?_|refine NG.exit_other rfl ?_|apply NG.exit_scope|apply NG.normal_block|apply NG.normal_scope|refine SG.val rfl rfl rfl rfl (by first|((first|apply qid|apply qia0|apply qia|apply qmf|apply qmn|apply qmv|apply qas|apply qlc|apply qla|apply qfa|apply qnc|apply qic|apply qix|apply qpk|apply qls|apply qei|apply qni|apply qed|apply qnd|apply qad|apply qln|apply qle|apply qgt|apply qge|apply qlk|apply qlv|apply qxt|apply qsb|apply qnt|apply qep|apply qnp|apply qeb|apply qnb|apply qcv|apply qlm|apply qfr|apply qto|apply qmx|apply qen|apply qsn)<;>(first|exact rfl|exact Ar.mk (by omega)|assumption|exact dct (by first|assumption|omega)|exact dcf (by first|assumption|omega)|exact List.not_mem_nil|apply dc_length|apply ec_length|apply dl_length|exact nm1 (by omega)|exact (Int.toNat_of_nonneg (by omega)).symm|exact dcu|fail))|fail) ?_)
    refine SG.ret rfl rfl rfl (by repeat' (first | exact True.intro | exact rho_of rfl | refine And.intro ?_ ?_)) (many_spec c3 hS3 hab (by rw [← elen, List.length_map]; omega)) (fun w4 hk4 => ?_)
    refine SG.setAll (old := dc zd) (l := dc (mixD l)) rfl rfl (by exact rho_of rfl) (by exact rho_of rfl) (hB2.kp0 (k3.trans hk4)) (dc_length _) (dc_length _) (dc_one _) (fun w5 hk5 hB5 => ?_)
    have hr5 : Row w5 b2 0 (dc (mixD l)) := Row.all hB5 rfl
    repeat (first|apply CG.seq|apply CG.region|apply SG.nil|apply NG.next|apply CG.skip|apply CG.block|apply CG.ret|apply CG.exit|apply CG.scope|apply NG.ret_then|apply NG.ret_block|apply NG.ret_scope|apply NG.exit_then|refine NG.exit_block rfl ?_|refine NG.exit_other rfl ?_|apply NG.exit_scope|apply NG.normal_block|apply NG.normal_scope|refine SG.val rfl rfl rfl rfl (by first|((first|apply qid|apply qia0|apply qia|apply qmf|apply qmn|apply qmv|apply qas|apply qlc|apply qla|apply qfa|apply qnc|apply qic|apply qix|apply qpk|apply qls|apply qei|apply qni|apply qed|apply qnd|apply qad|apply qln|apply qle|apply qgt|apply qge|apply qlk|apply qlv|apply qxt|apply qsb|apply qnt|apply qep|apply qnp|apply qeb|apply qnb|apply qcv|apply qlm|apply qfr|apply qto|apply qmx|apply qen|apply qsn)<;>(first|exact rfl|exact Ar.mk (by omega)|assumption|exact dct (by first|assumption|omega)|exact dcf (by first|assumption|omega)|exact List.not_mem_nil|apply dc_length|apply ec_length|apply dl_length|exact nm1 (by omega)|exact (Int.toNat_of_nonneg (by omega)).symm|exact dcu|fail))|fail) ?_)
    refine ret1 (Or.inl rfl) Try.results36 (by first | exact ResV.tmp rfl | exact ResV.agg rfl rfl (by assumption) (by first | exact dc_length _ | exact nc_length _ | exact rc_length _ _ _ | exact ec_length _ | exact dl_length _ _ _ _ | rfl) | exact ResV.cell rfl rfl (by assumption)) ?_
    exact ⟨rfl, ((hk1.trans k3).trans hk4).trans_new hk5 (new1 (by omega))⟩
end Go.Proofs.Ytnoipmimddoioaa
/-
  The deal of offers.
-/
namespace Go.Proofs.Ytnoipmimddoioaa
open Go.Proofs Go.Shelf Go.Sort
set_option linter.unusedVariables false

def zDel : Del := ⟨zd, [], 0, 0⟩
def maxs (f : Ofr → Int) (l : List Ofr) : Int := l.foldl (fun m o => if m < f o then f o else m) 0
def goodDel (r : Dg) (l : List Ofr) : Del := ⟨r, sortK (kW (mixD l)) (l.map (·.who)), maxs (·.least) l, maxs (·.window) l⟩
def dealOf (l : List Ofr) : Del × Int :=
  match l with
  | [] => (zDel, 3)
  | o :: _ => if (l.length : Int) = o.seats then (if l.all (fun x => decide x.Ok) then (if decide (l.Pairwise fitP) then (goodDel o.rules l, 0) else (zDel, 11)) else (zDel, 2)) else (zDel, 3)
theorem maxs_nil (f : Ofr → Int) : maxs f [] = 0 := rfl
theorem maxs_snoc (f : Ofr → Int) (l : List Ofr) (i : Nat) (h : i < l.length) : maxs f (l.take (i + 1)) = if maxs f (l.take i) < f l[i] then f l[i] else maxs f (l.take i) := by
  unfold maxs
  rw [List.take_succ_eq_append_getElem h, List.foldl_append]
  rfl
theorem dl_set1 {r : Dg} {s s' : Value} {st wi : Int} : spl (dl r s st wi) 8 [s'] = dl r s' st wi := by
  have := spl_mid (pre := dc r) (old := [s]) (post := [.int .i64 st, .int .i64 wi]) (l := [s']) rfl
  rw [dc_length] at this
  exact this
theorem dl_set2 {r : Dg} {s : Value} {st st' wi : Int} : spl (dl r s st wi) 9 [.int .i64 st'] = dl r s st' wi := by
  have := spl_mid (pre := dc r ++ [s]) (old := [.int .i64 st]) (post := [.int .i64 wi]) (l := [.int .i64 st']) rfl
  rw [List.length_append, dc_length] at this
  simpa [dl] using this
theorem dl_set3 {r : Dg} {s : Value} {st wi wi' : Int} : spl (dl r s st wi) 10 [.int .i64 wi'] = dl r s st wi' := by
  have := spl_mid (pre := dc r ++ [s, .int .i64 st]) (old := [.int .i64 wi]) (post := []) (l := [.int .i64 wi']) rfl
  rw [List.length_append, dc_length] at this
  simpa [dl] using this
theorem bdz (w : World) : (Instr.build 27 #[]).run Try.prog w = .ok (dealV zd (.slice none 0 0) 0 0) w := by kernel_rfl
theorem bdr' (w : World) (a0 a1 a2 a3 a4 a5 a6 a7 : UInt8) : (Instr.build 27 #[(0, .agg #[bv a0, bv a1, bv a2, bv a3, bv a4, bv a5, bv a6, bv a7])]).run Try.prog w = .ok (.agg #[bv a0, bv a1, bv a2, bv a3, bv a4, bv a5, bv a6, bv a7, .slice none 0 0, .int .i64 0, .int .i64 0]) w := by kernel_rfl
theorem bdr (r : Dg) (w : World) : (Instr.build 27 #[(0, dv r)]).run Try.prog w = .ok (dealV r (.slice none 0 0) 0 0) w := by
  obtain ⟨l, hl⟩ := r
  match l, hl with
  | [a0, a1, a2, a3, a4, a5, a6, a7], _ => exact bdr' w a0 a1 a2 a3 a4 a5 a6 a7
theorem pw_take {l : List Ofr} {i : Nat} (h : i < l.length) (hp : (l.take i).Pairwise fitP) (hb : (l.take i).any (fun x => !decide (fitP x l[i])) = false) : (l.take (i + 1)).Pairwise fitP := by
  rw [List.take_succ_eq_append_getElem h, List.pairwise_append]
  refine ⟨hp, List.pairwise_singleton _ _, fun x hx y hy => ?_⟩
  rw [List.mem_singleton] at hy
  subst hy
  have := List.any_eq_false.1 hb x hx
  simpa using this
theorem pw_not {l : List Ofr} {i : Nat} (h : i < l.length) (hb : (l.take i).any (fun x => !decide (fitP x l[i])) = true) : ¬ l.Pairwise fitP := by
  intro hp
  obtain ⟨x, hx, hx2⟩ := List.any_eq_true.1 hb
  have h1 : (l.take (i + 1)).Pairwise fitP := hp.sublist (List.take_sublist _ _)
  rw [List.take_succ_eq_append_getElem h, List.pairwise_append] at h1
  have := h1.2.2 x hx l[i] (by simp)
  simp [this] at hx2

theorem Row.part {w : World} {b off : Nat} {l : List Value} (h : Row w b off l) (pre m post : List Value) (he : l = pre ++ (m ++ post)) : Row w b (off + pre.length) m := by
  obtain ⟨cs, T, f, h1, h2⟩ := h
  refine ⟨cs, T, f, h1, fun i v hv => ?_⟩
  rw [Nat.add_assoc]
  refine h2 _ v ?_
  have hi := (List.getElem?_eq_some_iff.1 hv).1
  rw [he, List.getElem?_append_right (by omega), Nat.add_sub_cancel_left, List.getElem?_append_left hi]
  exact hv
theorem ec_rowsO {w : World} {b off : Nat} {o : Ofr} (h : Row w b off (ec o)) : Row w b off (dc o.who) ∧ Row w b (off + 8) (dc o.rules) ∧ Row w b (off + 16) [.int .i64 o.seats] ∧ Row w b (off + 17) [.int .i64 o.least] ∧ Row w b (off + 18) [.int .i64 o.most] ∧ Row w b (off + 19) [.int .i64 o.window] ∧ Row w b (off + 20) [.int .i64 o.till] := by
  have l8 : (dc o.who).length = 8 := dc_length _
  have l16 : (dc o.who ++ dc o.rules).length = 16 := by simp [dc_length]
  refine ⟨?_, ?_, ?_, ?_, ?_, ?_, ?_⟩
  · exact h.part [] (dc o.who) _ rfl
  · have := h.part (dc o.who) (dc o.rules) _ rfl
    rwa [l8] at this
  · have := h.part (dc o.who ++ dc o.rules) [.int .i64 o.seats] [.int .i64 o.least, .int .i64 o.most, .int .i64 o.window, .int .i64 o.till] (by simp [ec])
    rwa [l16] at this
  · have := h.part (dc o.who ++ dc o.rules ++ [.int .i64 o.seats]) [.int .i64 o.least] [.int .i64 o.most, .int .i64 o.window, .int .i64 o.till] (by simp [ec])
    rwa [List.length_append, l16] at this
  · have := h.part (dc o.who ++ dc o.rules ++ [.int .i64 o.seats, .int .i64 o.least]) [.int .i64 o.most] [.int .i64 o.window, .int .i64 o.till] (by simp [ec])
    rwa [List.length_append, l16] at this
  · have := h.part (dc o.who ++ dc o.rules ++ [.int .i64 o.seats, .int .i64 o.least, .int .i64 o.most]) [.int .i64 o.window] [.int .i64 o.till] (by simp [ec])
    rwa [List.length_append, l16] at this
  · have := h.part (dc o.who ++ dc o.rules ++ [.int .i64 o.seats, .int .i64 o.least, .int .i64 o.most, .int .i64 o.window]) [.int .i64 o.till] [] (by simp [ec])
    rwa [List.length_append, l16] at this
theorem own_neb {w : World} {base n sz : Nat} {T T' : TypeId} {v : Value} {xs : List Value} {z : Nat} {cs : Array Value} (ho : w.ownsRow base T sz v n xs) (hT : T' ≠ T) (hz : Blk w z (.cells cs T')) : ∀ b, v.ownBlock = some b → b ∉ [z] := by
  intro b hb hm
  rw [List.mem_singleton] at hm
  subst hm
  rcases ho.2 with ⟨rfl, _⟩ | ⟨g, cap, cur, rfl, _, hg, _⟩
  · cases hb
  · cases hb
    have := hz.uniq hg
    simp only [Obj.cells.injEq] at this
    exact hT this.2.1
theorem own_lt {w : World} {base n sz : Nat} {T : TypeId} {v : Value} {xs : List Value} (ho : w.ownsRow base T sz v n xs) : ∀ b, v.ownBlock = some b → b < w.heap.size := by
  intro b hb
  rcases ho.2 with ⟨rfl, _⟩ | ⟨g, cap, cur, rfl, _, hg, _⟩
  · cases hb
  · cases hb
    exact (Array.getElem?_eq_some_iff.1 hg).1
theorem own_notB {v : Value} {z : Nat} (h : ∀ b, v.ownBlock = some b → b < z) : z ∉ ownB v := by
  intro hm
  have := h z (ownB_mem hm)
  omega
/-- A deal, as it is answered. -/
def DealAt (w0 w : World) (T : TypeId) (v : Value) (d : Del) : Prop := ∃ s, v = dealV d.rules s d.stake d.window ∧ w.ownsRow w0.heap.size T 8 s d.who.length (flt dc d.who)

attribute [local irreducible] CG NG SG Vals Der Row Blk MapIs IterAt addI xorI orI andI shlI shrI mulI twoI cmpD cmpW kW digO manyI mixD sortK maxs
set_option maxHeartbeats 32000000 in
theorem of2_spec {w : World} {l : List Ofr} {a : Option Addr} {c : Nat} (hS : Sl ec 21 w a l) (hl : l.length ≤ 10000) (hc : l.length ≤ c) : Calls Try.prog 11 #[.slice a l.length c] w (fun e w' => ∃ v, e = .returned (.tuple #[v, .int .i64 (dealOf l).2]) ∧ DealAt w w' 24 v (dealOf l).1 ∧ Kp [] w w') := by
  refine enter1 Try.func11 rfl Try.ntmps11 rfl ?_
  have hz0 : ∀ W, DealAt w W 24 (dealV zd (.slice none 0 0) 0 0) zDel := fun W => ⟨_, rfl, own_nil⟩
  repeat (first|apply CG.seq|apply CG.region|apply SG.nil|apply NG.next|apply CG.skip|apply CG.block|apply CG.ret|apply CG.exit|apply CG.scope|apply NG.ret_then|apply NG.ret_block|apply NG.ret_scope|apply NG.exit_then|refine NG.exit_block rfl ?_|refine NG.exit_other rfl ?_|apply NG.exit_scope|apply NG.normal_block|apply NG.normal_scope|refine SG.val rfl rfl rfl rfl (by first|((first|apply qid|apply qia0|apply qia|apply qmf|apply qmn|apply qmv|apply qas|apply qlc|apply qla|apply qfa|apply qnc|apply qic|apply qix|apply qpk|apply qls|apply qei|apply qni|apply qed|apply qnd|apply qad|apply qln|apply qle|apply qgt|apply qge|apply qlk|apply qlv|apply qxt|apply qsb|apply qnt|apply qep|apply qnp|apply qeb|apply qnb|apply qcv|apply qlm|apply qfr|apply qto|apply qmx|apply qen|apply qsn)<;>(first|exact rfl|exact Ar.mk (by omega)|assumption|exact dct (by first|assumption|omega)|exact dcf (by first|assumption|omega)|exact List.not_mem_nil|apply dc_length|apply ec_length|apply dl_length|exact nm1 (by omega)|exact (Int.toNat_of_nonneg (by omega)).symm|exact dcu|fail))|fail) ?_)
  refine SG.alloc rfl rfl rfl (fun b2 w1 hk1 hb2 hB2 => ?_)
  have hB2 : Blk w1 b2 (.cells (dl zd (.slice none 0 0) 0 0).toArray 27) := hB2
  have l2 := hB2.lt
  have s1 := hk1.size
  cases l with
  | nil =>
    have g0 : (([] : List Ofr).length : Int) = 0 := rfl
    repeat (first | first|apply CG.seq|apply CG.region|apply SG.nil|apply NG.next|apply CG.skip|apply CG.block|apply CG.ret|apply CG.exit|apply CG.scope|apply NG.ret_then|apply NG.ret_block|apply NG.ret_scope|apply NG.exit_then|refine NG.exit_block rfl ?_|refine NG.exit_other rfl ?_|apply NG.exit_scope|apply NG.normal_block|apply NG.normal_scope|refine SG.val rfl rfl rfl rfl (by first|((first|apply qid|apply qia0|apply qia|apply qmf|apply qmn|apply qmv|apply qas|apply qlc|apply qla|apply qfa|apply qnc|apply qic|apply qix|apply qpk|apply qls|apply qei|apply qni|apply qed|apply qnd|apply qad|apply qln|apply qle|apply qgt|apply qge|apply qlk|apply qlv|apply qxt|apply qsb|apply qnt|apply qep|apply qnp|apply qeb|apply qnb|apply qcv|apply qlm|apply qfr|apply qto|apply qmx|apply qen|apply qsn)<;>(first|exact rfl|exact Ar.mk (by omega)|assumption|exact dct (by first|assumption|omega)|exact dcf (by first|assumption|omega)|exact List.not_mem_nil|apply dc_length|apply ec_length|apply dl_length|exact nm1 (by omega)|exact (Int.toNat_of_nonneg (by omega)).symm|exact dcu|fail))|fail) ?_ | refine SG.skip rfl rfl ?_)
    refine CG.cond_t rfl (by exact rho_of rfl) rfl ?_
    repeat (first|apply CG.seq|apply CG.region|apply SG.nil|apply NG.next|apply CG.skip|apply CG.block|apply CG.ret|apply CG.exit|apply CG.scope|apply NG.ret_then|apply NG.ret_block|apply NG.ret_scope|apply NG.exit_then|refine NG.exit_block rfl ?_|refine NG.exit_other rfl ?_|apply NG.exit_scope|apply NG.normal_block|apply NG.normal_scope|refine SG.val rfl rfl rfl rfl (by first|((first|apply qid|apply qia0|apply qia|apply qmf|apply qmn|apply qmv|apply qas|apply qlc|apply qla|apply qfa|apply qnc|apply qic|apply qix|apply qpk|apply qls|apply qei|apply qni|apply qed|apply qnd|apply qad|apply qln|apply qle|apply qgt|apply qge|apply qlk|apply qlv|apply qxt|apply qsb|apply qnt|apply qep|apply qnp|apply qeb|apply qnb|apply qcv|apply qlm|apply qfr|apply qto|apply qmx|apply qen|apply qsn)<;>(first|exact rfl|exact Ar.mk (by omega)|assumption|exact dct (by first|assumption|omega)|exact dcf (by first|assumption|omega)|exact List.not_mem_nil|apply dc_length|apply ec_length|apply dl_length|exact nm1 (by omega)|exact (Int.toNat_of_nonneg (by omega)).symm|exact dcu|fail))|fail) ?_)
    refine SG.val rfl rfl rfl rfl (vals_build rfl bdz) ?_
    refine SG.setAll (old := dl zd (.slice none 0 0) 0 0) (l := dl zd (.slice none 0 0) 0 0) rfl rfl (by exact rho_of rfl) (by exact rho_of rfl) hB2 (dl_length _ _ _ _) (dl_length _ _ _ _) (dl_one _ _ _ _ _ _) (fun w2 hk2 hB3 => ?_)
    have hr : Row w2 b2 0 (dl zd (.slice none 0 0) 0 0) := Row.all hB3 rfl
    repeat (first|apply CG.seq|apply CG.region|apply SG.nil|apply NG.next|apply CG.skip|apply CG.block|apply CG.ret|apply CG.exit|apply CG.scope|apply NG.ret_then|apply NG.ret_block|apply NG.ret_scope|apply NG.exit_then|refine NG.exit_block rfl ?_|refine NG.exit_other rfl ?_|apply NG.exit_scope|apply NG.normal_block|apply NG.normal_scope|refine SG.val rfl rfl rfl rfl (by first|((first|apply qid|apply qia0|apply qia|apply qmf|apply qmn|apply qmv|apply qas|apply qlc|apply qla|apply qfa|apply qnc|apply qic|apply qix|apply qpk|apply qls|apply qei|apply qni|apply qed|apply qnd|apply qad|apply qln|apply qle|apply qgt|apply qge|apply qlk|apply qlv|apply qxt|apply qsb|apply qnt|apply qep|apply qnp|apply qeb|apply qnb|apply qcv|apply qlm|apply qfr|apply qto|apply qmx|apply qen|apply qsn)<;>(first|exact rfl|exact Ar.mk (by omega)|assumption|exact dct (by first|assumption|omega)|exact dcf (by first|assumption|omega)|exact List.not_mem_nil|apply dc_length|apply ec_length|apply dl_length|exact nm1 (by omega)|exact (Int.toNat_of_nonneg (by omega)).symm|exact dcu|fail))|fail) ?_)
    refine ret2 (Or.inl rfl) Try.results11 (ResV.agg rfl rfl hr (dl_length _ _ _ _)) (by first | exact ResV.tmp rfl | exact ResV.agg rfl rfl (by assumption) (by first | exact dc_length _ | exact nc_length _ | exact rc_length _ _ _ | exact ec_length _ | exact dl_length _ _ _ _ | rfl) | exact ResV.cell rfl rfl (by assumption)) ?_
    exact ⟨_, rfl, hz0 w2, hk1.trans_new hk2 (new1 (by omega))⟩
  | cons o r =>
    generalize hL : o :: r = l at hS hl hc ⊢
    have hpos : 0 < l.length := by rw [← hL]; simp
    have ho : l[0] = o := by subst hL; rfl
    obtain ⟨ba, oa, rfl, hr0⟩ := (hS.kp0 hk1).at hpos
    rw [ho] at hr0
    obtain ⟨-, rru, rs, -⟩ := ec_rowsO hr0
    have e0 : dealOf l = if (l.length : Int) = o.seats then (if l.all (fun x => decide x.Ok) then (if decide (l.Pairwise fitP) then (goodDel o.rules l, 0) else (zDel, 11)) else (zDel, 2)) else (zDel, 3) := by
      rw [← hL]
      rfl
    have g0 : ¬ (l.length : Int) = 0 := by omega
    by_cases hse : (l.length : Int) = o.seats
    rotate_left
    · rw [if_neg hse] at e0
      repeat (first | first|apply CG.seq|apply CG.region|apply SG.nil|apply NG.next|apply CG.skip|apply CG.block|apply CG.ret|apply CG.exit|apply CG.scope|apply NG.ret_then|apply NG.ret_block|apply NG.ret_scope|apply NG.exit_then|refine NG.exit_block rfl ?_|refine NG.exit_other rfl ?_|apply NG.exit_scope|apply NG.normal_block|apply NG.normal_scope|refine SG.val rfl rfl rfl rfl (by first|((first|apply qid|apply qia0|apply qia|apply qmf|apply qmn|apply qmv|apply qas|apply qlc|apply qla|apply qfa|apply qnc|apply qic|apply qix|apply qpk|apply qls|apply qei|apply qni|apply qed|apply qnd|apply qad|apply qln|apply qle|apply qgt|apply qge|apply qlk|apply qlv|apply qxt|apply qsb|apply qnt|apply qep|apply qnp|apply qeb|apply qnb|apply qcv|apply qlm|apply qfr|apply qto|apply qmx|apply qen|apply qsn)<;>(first|exact rfl|exact Ar.mk (by omega)|assumption|exact dct (by first|assumption|omega)|exact dcf (by first|assumption|omega)|exact List.not_mem_nil|apply dc_length|apply ec_length|apply dl_length|exact nm1 (by omega)|exact (Int.toNat_of_nonneg (by omega)).symm|exact dcu|fail))|fail) ?_ | refine SG.skip rfl rfl ?_)
      refine CG.cond_t rfl (by exact rho_of rfl) rfl ?_
      repeat (first|apply CG.seq|apply CG.region|apply SG.nil|apply NG.next|apply CG.skip|apply CG.block|apply CG.ret|apply CG.exit|apply CG.scope|apply NG.ret_then|apply NG.ret_block|apply NG.ret_scope|apply NG.exit_then|refine NG.exit_block rfl ?_|refine NG.exit_other rfl ?_|apply NG.exit_scope|apply NG.normal_block|apply NG.normal_scope|refine SG.val rfl rfl rfl rfl (by first|((first|apply qid|apply qia0|apply qia|apply qmf|apply qmn|apply qmv|apply qas|apply qlc|apply qla|apply qfa|apply qnc|apply qic|apply qix|apply qpk|apply qls|apply qei|apply qni|apply qed|apply qnd|apply qad|apply qln|apply qle|apply qgt|apply qge|apply qlk|apply qlv|apply qxt|apply qsb|apply qnt|apply qep|apply qnp|apply qeb|apply qnb|apply qcv|apply qlm|apply qfr|apply qto|apply qmx|apply qen|apply qsn)<;>(first|exact rfl|exact Ar.mk (by omega)|assumption|exact dct (by first|assumption|omega)|exact dcf (by first|assumption|omega)|exact List.not_mem_nil|apply dc_length|apply ec_length|apply dl_length|exact nm1 (by omega)|exact (Int.toNat_of_nonneg (by omega)).symm|exact dcu|fail))|fail) ?_)
      refine SG.val rfl rfl rfl rfl (vals_build rfl bdz) ?_
      refine SG.setAll (old := dl zd (.slice none 0 0) 0 0) (l := dl zd (.slice none 0 0) 0 0) rfl rfl (by exact rho_of rfl) (by exact rho_of rfl) hB2 (dl_length _ _ _ _) (dl_length _ _ _ _) (dl_one _ _ _ _ _ _) (fun wz hkz hBz => ?_)
      have hrz : Row wz b2 0 (dl zd (.slice none 0 0) 0 0) := Row.all hBz rfl
      repeat (first|apply CG.seq|apply CG.region|apply SG.nil|apply NG.next|apply CG.skip|apply CG.block|apply CG.ret|apply CG.exit|apply CG.scope|apply NG.ret_then|apply NG.ret_block|apply NG.ret_scope|apply NG.exit_then|refine NG.exit_block rfl ?_|refine NG.exit_other rfl ?_|apply NG.exit_scope|apply NG.normal_block|apply NG.normal_scope|refine SG.val rfl rfl rfl rfl (by first|((first|apply qid|apply qia0|apply qia|apply qmf|apply qmn|apply qmv|apply qas|apply qlc|apply qla|apply qfa|apply qnc|apply qic|apply qix|apply qpk|apply qls|apply qei|apply qni|apply qed|apply qnd|apply qad|apply qln|apply qle|apply qgt|apply qge|apply qlk|apply qlv|apply qxt|apply qsb|apply qnt|apply qep|apply qnp|apply qeb|apply qnb|apply qcv|apply qlm|apply qfr|apply qto|apply qmx|apply qen|apply qsn)<;>(first|exact rfl|exact Ar.mk (by omega)|assumption|exact dct (by first|assumption|omega)|exact dcf (by first|assumption|omega)|exact List.not_mem_nil|apply dc_length|apply ec_length|apply dl_length|exact nm1 (by omega)|exact (Int.toNat_of_nonneg (by omega)).symm|exact dcu|fail))|fail) ?_)
      refine ret2 (Or.inl rfl) Try.results11 (ResV.agg rfl rfl hrz (dl_length _ _ _ _)) (by first | exact ResV.tmp rfl | exact ResV.agg rfl rfl (by assumption) (by first | exact dc_length _ | exact nc_length _ | exact rc_length _ _ _ | exact ec_length _ | exact dl_length _ _ _ _ | rfl) | exact ResV.cell rfl rfl (by assumption)) ?_
      rw [e0]
      exact ⟨_, rfl, hz0 wz, hk1.trans_new hkz (new1 (by omega))⟩
    rw [if_pos hse] at e0
    repeat (first | first|apply CG.seq|apply CG.region|apply SG.nil|apply NG.next|apply CG.skip|apply CG.block|apply CG.ret|apply CG.exit|apply CG.scope|apply NG.ret_then|apply NG.ret_block|apply NG.ret_scope|apply NG.exit_then|refine NG.exit_block rfl ?_|refine NG.exit_other rfl ?_|apply NG.exit_scope|apply NG.normal_block|apply NG.normal_scope|refine SG.val rfl rfl rfl rfl (by first|((first|apply qid|apply qia0|apply qia|apply qmf|apply qmn|apply qmv|apply qas|apply qlc|apply qla|apply qfa|apply qnc|apply qic|apply qix|apply qpk|apply qls|apply qei|apply qni|apply qed|apply qnd|apply qad|apply qln|apply qle|apply qgt|apply qge|apply qlk|apply qlv|apply qxt|apply qsb|apply qnt|apply qep|apply qnp|apply qeb|apply qnb|apply qcv|apply qlm|apply qfr|apply qto|apply qmx|apply qen|apply qsn)<;>(first|exact rfl|exact Ar.mk (by omega)|assumption|exact dct (by first|assumption|omega)|exact dcf (by first|assumption|omega)|exact List.not_mem_nil|apply dc_length|apply ec_length|apply dl_length|exact nm1 (by omega)|exact (Int.toNat_of_nonneg (by omega)).symm|exact dcu|fail))|fail) ?_ | refine SG.skip rfl rfl ?_)
    refine CG.cond_f rfl (by exact rho_of rfl) rfl ?_
    repeat (first|apply CG.seq|apply CG.region|apply SG.nil|apply NG.next|apply CG.skip|apply CG.block|apply CG.ret|apply CG.exit|apply CG.scope|apply NG.ret_then|apply NG.ret_block|apply NG.ret_scope|apply NG.exit_then|refine NG.exit_block rfl ?_|refine NG.exit_other rfl ?_|apply NG.exit_scope|apply NG.normal_block|apply NG.normal_scope|refine SG.val rfl rfl rfl rfl (by first|((first|apply qid|apply qia0|apply qia|apply qmf|apply qmn|apply qmv|apply qas|apply qlc|apply qla|apply qfa|apply qnc|apply qic|apply qix|apply qpk|apply qls|apply qei|apply qni|apply qed|apply qnd|apply qad|apply qln|apply qle|apply qgt|apply qge|apply qlk|apply qlv|apply qxt|apply qsb|apply qnt|apply qep|apply qnp|apply qeb|apply qnb|apply qcv|apply qlm|apply qfr|apply qto|apply qmx|apply qen|apply qsn)<;>(first|exact rfl|exact Ar.mk (by omega)|assumption|exact dct (by first|assumption|omega)|exact dcf (by first|assumption|omega)|exact List.not_mem_nil|apply dc_length|apply ec_length|apply dl_length|exact nm1 (by omega)|exact (Int.toNat_of_nonneg (by omega)).symm|exact dcu|fail))|fail) ?_)
    refine CG.loop (X := Nat) (fun i => [(0, .slice (some ⟨ba, oa, none⟩) l.length c), (2, .pointer (some ⟨b2, 0, none⟩)), (25, .slice (some ⟨ba, oa, none⟩) l.length c), (26, .int .i64 (l.length : Int)), (27, .int .i64 (i : Int))]) (fun i w' => i ≤ l.length ∧ Kp [] w1 w' ∧ ∀ j (h : j < l.length), j < i → l[j].Ok) (fun i => l.length - i) 0 ⟨by omega, Kp.refl _ _, fun j _ h => absurd h (Nat.not_lt_zero j)⟩ (by (repeat' (first | exact True.intro | exact rfl | refine And.intro ?_ ?_))) ?_
    rintro i w2 ⟨hi, hk2, hall⟩
    have hB2 := hB2.kp0 hk2
    by_cases hlt : i < l.length
    · have g1 : (i : Int) < (l.length : Int) := by omega
      have hri := (hS.kp0 (hk1.trans hk2)).row (List.getElem?_eq_getElem hlt)
      repeat (first|apply CG.seq|apply CG.region|apply SG.nil|apply NG.next|apply CG.skip|apply CG.block|apply CG.ret|apply CG.exit|apply CG.scope|apply NG.ret_then|apply NG.ret_block|apply NG.ret_scope|apply NG.exit_then|refine NG.exit_block rfl ?_|refine NG.exit_other rfl ?_|apply NG.exit_scope|apply NG.normal_block|apply NG.normal_scope|refine SG.val rfl rfl rfl rfl (by first|((first|apply qid|apply qia0|apply qia|apply qmf|apply qmn|apply qmv|apply qas|apply qlc|apply qla|apply qfa|apply qnc|apply qic|apply qix|apply qpk|apply qls|apply qei|apply qni|apply qed|apply qnd|apply qad|apply qln|apply qle|apply qgt|apply qge|apply qlk|apply qlv|apply qxt|apply qsb|apply qnt|apply qep|apply qnp|apply qeb|apply qnb|apply qcv|apply qlm|apply qfr|apply qto|apply qmx|apply qen|apply qsn)<;>(first|exact rfl|exact Ar.mk (by omega)|assumption|exact dct (by first|assumption|omega)|exact dcf (by first|assumption|omega)|exact List.not_mem_nil|apply dc_length|apply ec_length|apply dl_length|exact nm1 (by omega)|exact (Int.toNat_of_nonneg (by omega)).symm|exact dcu|fail))|fail) ?_)
      refine CG.cond_t rfl (by exact rho_of rfl) rfl ?_
      repeat (first|apply CG.seq|apply CG.region|apply SG.nil|apply NG.next|apply CG.skip|apply CG.block|apply CG.ret|apply CG.exit|apply CG.scope|apply NG.ret_then|apply NG.ret_block|apply NG.ret_scope|apply NG.exit_then|refine NG.exit_block rfl ?_|refine NG.exit_other rfl ?_|apply NG.exit_scope|apply NG.normal_block|apply NG.normal_scope|refine SG.val rfl rfl rfl rfl (by first|((first|apply qid|apply qia0|apply qia|apply qmf|apply qmn|apply qmv|apply qas|apply qlc|apply qla|apply qfa|apply qnc|apply qic|apply qix|apply qpk|apply qls|apply qei|apply qni|apply qed|apply qnd|apply qad|apply qln|apply qle|apply qgt|apply qge|apply qlk|apply qlv|apply qxt|apply qsb|apply qnt|apply qep|apply qnp|apply qeb|apply qnb|apply qcv|apply qlm|apply qfr|apply qto|apply qmx|apply qen|apply qsn)<;>(first|exact rfl|exact Ar.mk (by omega)|assumption|exact dct (by first|assumption|omega)|exact dcf (by first|assumption|omega)|exact List.not_mem_nil|apply dc_length|apply ec_length|apply dl_length|exact nm1 (by omega)|exact (Int.toNat_of_nonneg (by omega)).symm|exact dcu|fail))|fail) ?_)
      refine SG.alloc rfl rfl rfl (fun b5 w3 hk3 hb5 hB5 => ?_)
      refine SG.setAll (l := ec l[i]) rfl rfl (by exact rho_of rfl) (by exact rho_of rfl) hB5 (ec_length _) rfl (ec_one _) (fun w4 hk4 hB6 => ?_)
      have hr6 : Row w4 b5 0 (ec l[i]) := Row.all hB6 rfl
      have k4 : Kp [] w2 w4 := hk3.trans_new hk4 (new1 (by omega))
      repeat (first|apply CG.seq|apply CG.region|apply SG.nil|apply NG.next|apply CG.skip|apply CG.block|apply CG.ret|apply CG.exit|apply CG.scope|apply NG.ret_then|apply NG.ret_block|apply NG.ret_scope|apply NG.exit_then|refine NG.exit_block rfl ?_|refine NG.exit_other rfl ?_|apply NG.exit_scope|apply NG.normal_block|apply NG.normal_scope|refine SG.val rfl rfl rfl rfl (by first|((first|apply qid|apply qia0|apply qia|apply qmf|apply qmn|apply qmv|apply qas|apply qlc|apply qla|apply qfa|apply qnc|apply qic|apply qix|apply qpk|apply qls|apply qei|apply qni|apply qed|apply qnd|apply qad|apply qln|apply qle|apply qgt|apply qge|apply qlk|apply qlv|apply qxt|apply qsb|apply qnt|apply qep|apply qnp|apply qeb|apply qnb|apply qcv|apply qlm|apply qfr|apply qto|apply qmx|apply qen|apply qsn)<;>(first|exact rfl|exact Ar.mk (by omega)|assumption|exact dct (by first|assumption|omega)|exact dcf (by first|assumption|omega)|exact List.not_mem_nil|apply dc_length|apply ec_length|apply dl_length|exact nm1 (by omega)|exact (Int.toNat_of_nonneg (by omega)).symm|exact dcu|fail))|fail) ?_)
      refine SG.ret rfl rfl rfl (vs := [ov l[i]]) (by repeat' (first | exact True.intro | exact rho_of rfl | refine And.intro ?_ ?_)) (check_spec l[i] w4) (fun w5 hk5 => ?_)
      have k5 := k4.trans hk5
      by_cases hok : l[i].Ok
      · have g2 : (if l[i].Ok then 0 else 2 : Int) = 0 := if_pos hok
        rw [g2]
        repeat (first|apply CG.seq|apply CG.region|apply SG.nil|apply NG.next|apply CG.skip|apply CG.block|apply CG.ret|apply CG.exit|apply CG.scope|apply NG.ret_then|apply NG.ret_block|apply NG.ret_scope|apply NG.exit_then|refine NG.exit_block rfl ?_|refine NG.exit_other rfl ?_|apply NG.exit_scope|apply NG.normal_block|apply NG.normal_scope|refine SG.val rfl rfl rfl rfl (by first|((first|apply qid|apply qia0|apply qia|apply qmf|apply qmn|apply qmv|apply qas|apply qlc|apply qla|apply qfa|apply qnc|apply qic|apply qix|apply qpk|apply qls|apply qei|apply qni|apply qed|apply qnd|apply qad|apply qln|apply qle|apply qgt|apply qge|apply qlk|apply qlv|apply qxt|apply qsb|apply qnt|apply qep|apply qnp|apply qeb|apply qnb|apply qcv|apply qlm|apply qfr|apply qto|apply qmx|apply qen|apply qsn)<;>(first|exact rfl|exact Ar.mk (by omega)|assumption|exact dct (by first|assumption|omega)|exact dcf (by first|assumption|omega)|exact List.not_mem_nil|apply dc_length|apply ec_length|apply dl_length|exact nm1 (by omega)|exact (Int.toNat_of_nonneg (by omega)).symm|exact dcu|fail))|fail) ?_)
        refine CG.cond_f rfl (by exact rho_of rfl) rfl ?_
        repeat (first|apply CG.seq|apply CG.region|apply SG.nil|apply NG.next|apply CG.skip|apply CG.block|apply CG.ret|apply CG.exit|apply CG.scope|apply NG.ret_then|apply NG.ret_block|apply NG.ret_scope|apply NG.exit_then|refine NG.exit_block rfl ?_|refine NG.exit_other rfl ?_|apply NG.exit_scope|apply NG.normal_block|apply NG.normal_scope|refine SG.val rfl rfl rfl rfl (by first|((first|apply qid|apply qia0|apply qia|apply qmf|apply qmn|apply qmv|apply qas|apply qlc|apply qla|apply qfa|apply qnc|apply qic|apply qix|apply qpk|apply qls|apply qei|apply qni|apply qed|apply qnd|apply qad|apply qln|apply qle|apply qgt|apply qge|apply qlk|apply qlv|apply qxt|apply qsb|apply qnt|apply qep|apply qnp|apply qeb|apply qnb|apply qcv|apply qlm|apply qfr|apply qto|apply qmx|apply qen|apply qsn)<;>(first|exact rfl|exact Ar.mk (by omega)|assumption|exact dct (by first|assumption|omega)|exact dcf (by first|assumption|omega)|exact List.not_mem_nil|apply dc_length|apply ec_length|apply dl_length|exact nm1 (by omega)|exact (Int.toNat_of_nonneg (by omega)).symm|exact dcu|fail))|fail) ?_)
        refine NG.round (i + 1) (by (repeat' (first | exact True.intro | exact rfl | refine And.intro ?_ ?_))) ⟨by omega, hk2.trans k5, fun j h hj => ?_⟩ (by omega)
        by_cases e : j = i
        · subst e; exact hok
        · exact hall j h (by omega)
      · have g2 : (if l[i].Ok then 0 else 2 : Int) = 2 := if_neg hok
        have hno : ¬ (l.all (fun x => decide x.Ok) = true) := fun h => by
          have := List.all_eq_true.1 h l[i] (List.getElem_mem hlt)
          exact hok (of_decide_eq_true this)
        rw [if_neg hno] at e0
        rw [g2]
        repeat (first|apply CG.seq|apply CG.region|apply SG.nil|apply NG.next|apply CG.skip|apply CG.block|apply CG.ret|apply CG.exit|apply CG.scope|apply NG.ret_then|apply NG.ret_block|apply NG.ret_scope|apply NG.exit_then|refine NG.exit_block rfl ?_|refine NG.exit_other rfl ?_|apply NG.exit_scope|apply NG.normal_block|apply NG.normal_scope|refine SG.val rfl rfl rfl rfl (by first|((first|apply qid|apply qia0|apply qia|apply qmf|apply qmn|apply qmv|apply qas|apply qlc|apply qla|apply qfa|apply qnc|apply qic|apply qix|apply qpk|apply qls|apply qei|apply qni|apply qed|apply qnd|apply qad|apply qln|apply qle|apply qgt|apply qge|apply qlk|apply qlv|apply qxt|apply qsb|apply qnt|apply qep|apply qnp|apply qeb|apply qnb|apply qcv|apply qlm|apply qfr|apply qto|apply qmx|apply qen|apply qsn)<;>(first|exact rfl|exact Ar.mk (by omega)|assumption|exact dct (by first|assumption|omega)|exact dcf (by first|assumption|omega)|exact List.not_mem_nil|apply dc_length|apply ec_length|apply dl_length|exact nm1 (by omega)|exact (Int.toNat_of_nonneg (by omega)).symm|exact dcu|fail))|fail) ?_)
        refine CG.cond_t rfl (by exact rho_of rfl) rfl ?_
        repeat (first|apply CG.seq|apply CG.region|apply SG.nil|apply NG.next|apply CG.skip|apply CG.block|apply CG.ret|apply CG.exit|apply CG.scope|apply NG.ret_then|apply NG.ret_block|apply NG.ret_scope|apply NG.exit_then|refine NG.exit_block rfl ?_|refine NG.exit_other rfl ?_|apply NG.exit_scope|apply NG.normal_block|apply NG.normal_scope|refine SG.val rfl rfl rfl rfl (by first|((first|apply qid|apply qia0|apply qia|apply qmf|apply qmn|apply qmv|apply qas|apply qlc|apply qla|apply qfa|apply qnc|apply qic|apply qix|apply qpk|apply qls|apply qei|apply qni|apply qed|apply qnd|apply qad|apply qln|apply qle|apply qgt|apply qge|apply qlk|apply qlv|apply qxt|apply qsb|apply qnt|apply qep|apply qnp|apply qeb|apply qnb|apply qcv|apply qlm|apply qfr|apply qto|apply qmx|apply qen|apply qsn)<;>(first|exact rfl|exact Ar.mk (by omega)|assumption|exact dct (by first|assumption|omega)|exact dcf (by first|assumption|omega)|exact List.not_mem_nil|apply dc_length|apply ec_length|apply dl_length|exact nm1 (by omega)|exact (Int.toNat_of_nonneg (by omega)).symm|exact dcu|fail))|fail) ?_)
        refine SG.val rfl rfl rfl rfl (vals_build rfl bdz) ?_
        refine SG.setAll (old := dl zd (.slice none 0 0) 0 0) (l := dl zd (.slice none 0 0) 0 0) rfl rfl (by exact rho_of rfl) (by exact rho_of rfl) (hB2.kp0 k5) (dl_length _ _ _ _) (dl_length _ _ _ _) (dl_one _ _ _ _ _ _) (fun wz hkz hBz => ?_)
        have hrz : Row wz b2 0 (dl zd (.slice none 0 0) 0 0) := Row.all hBz rfl
        repeat (first|apply CG.seq|apply CG.region|apply SG.nil|apply NG.next|apply CG.skip|apply CG.block|apply CG.ret|apply CG.exit|apply CG.scope|apply NG.ret_then|apply NG.ret_block|apply NG.ret_scope|apply NG.exit_then|refine NG.exit_block rfl ?_|refine NG.exit_other rfl ?_|apply NG.exit_scope|apply NG.normal_block|apply NG.normal_scope|refine SG.val rfl rfl rfl rfl (by first|((first|apply qid|apply qia0|apply qia|apply qmf|apply qmn|apply qmv|apply qas|apply qlc|apply qla|apply qfa|apply qnc|apply qic|apply qix|apply qpk|apply qls|apply qei|apply qni|apply qed|apply qnd|apply qad|apply qln|apply qle|apply qgt|apply qge|apply qlk|apply qlv|apply qxt|apply qsb|apply qnt|apply qep|apply qnp|apply qeb|apply qnb|apply qcv|apply qlm|apply qfr|apply qto|apply qmx|apply qen|apply qsn)<;>(first|exact rfl|exact Ar.mk (by omega)|assumption|exact dct (by first|assumption|omega)|exact dcf (by first|assumption|omega)|exact List.not_mem_nil|apply dc_length|apply ec_length|apply dl_length|exact nm1 (by omega)|exact (Int.toNat_of_nonneg (by omega)).symm|exact dcu|fail))|fail) ?_)
        refine ret2 (Or.inl rfl) Try.results11 (ResV.agg rfl rfl hrz (dl_length _ _ _ _)) (by first | exact ResV.tmp rfl | exact ResV.agg rfl rfl (by assumption) (by first | exact dc_length _ | exact nc_length _ | exact rc_length _ _ _ | exact ec_length _ | exact dl_length _ _ _ _ | rfl) | exact ResV.cell rfl rfl (by assumption)) ?_
        rw [e0]
        exact ⟨_, rfl, hz0 wz, (hk1.trans (hk2.trans k5)).trans_new hkz (new1 (by omega))⟩
    have g1 : ¬ (i : Int) < (l.length : Int) := by omega
    have hok : l.all (fun x => decide x.Ok) = true := List.all_eq_true.2 (fun x hx => by
      obtain ⟨j, hj, rfl⟩ := List.getElem_of_mem hx
      exact decide_eq_true (hall j hj (by omega)))
    rw [if_pos hok] at e0
    clear hall
    repeat (first|apply CG.seq|apply CG.region|apply SG.nil|apply NG.next|apply CG.skip|apply CG.block|apply CG.ret|apply CG.exit|apply CG.scope|apply NG.ret_then|apply NG.ret_block|apply NG.ret_scope|apply NG.exit_then|refine NG.exit_block rfl ?_|refine NG.exit_other rfl ?_|apply NG.exit_scope|apply NG.normal_block|apply NG.normal_scope|refine SG.val rfl rfl rfl rfl (by first|((first|apply qid|apply qia0|apply qia|apply qmf|apply qmn|apply qmv|apply qas|apply qlc|apply qla|apply qfa|apply qnc|apply qic|apply qix|apply qpk|apply qls|apply qei|apply qni|apply qed|apply qnd|apply qad|apply qln|apply qle|apply qgt|apply qge|apply qlk|apply qlv|apply qxt|apply qsb|apply qnt|apply qep|apply qnp|apply qeb|apply qnb|apply qcv|apply qlm|apply qfr|apply qto|apply qmx|apply qen|apply qsn)<;>(first|exact rfl|exact Ar.mk (by omega)|assumption|exact dct (by first|assumption|omega)|exact dcf (by first|assumption|omega)|exact List.not_mem_nil|apply dc_length|apply ec_length|apply dl_length|exact nm1 (by omega)|exact (Int.toNat_of_nonneg (by omega)).symm|exact dcu|fail))|fail) ?_)
    refine CG.cond_f rfl (by exact rho_of rfl) rfl ?_
    repeat (first|apply CG.seq|apply CG.region|apply SG.nil|apply NG.next|apply CG.skip|apply CG.block|apply CG.ret|apply CG.exit|apply CG.scope|apply NG.ret_then|apply NG.ret_block|apply NG.ret_scope|apply NG.exit_then|refine NG.exit_block rfl ?_|refine NG.exit_other rfl ?_|apply NG.exit_scope|apply NG.normal_block|apply NG.normal_scope|refine SG.val rfl rfl rfl rfl (by first|((first|apply qid|apply qia0|apply qia|apply qmf|apply qmn|apply qmv|apply qas|apply qlc|apply qla|apply qfa|apply qnc|apply qic|apply qix|apply qpk|apply qls|apply qei|apply qni|apply qed|apply qnd|apply qad|apply qln|apply qle|apply qgt|apply qge|apply qlk|apply qlv|apply qxt|apply qsb|apply qnt|apply qep|apply qnp|apply qeb|apply qnb|apply qcv|apply qlm|apply qfr|apply qto|apply qmx|apply qen|apply qsn)<;>(first|exact rfl|exact Ar.mk (by omega)|assumption|exact dct (by first|assumption|omega)|exact dcf (by first|assumption|omega)|exact List.not_mem_nil|apply dc_length|apply ec_length|apply dl_length|exact nm1 (by omega)|exact (Int.toNat_of_nonneg (by omega)).symm|exact dcu|fail))|fail) ?_)
    refine CG.loop (X := Nat) (fun i => [(0, .slice (some ⟨ba, oa, none⟩) l.length c), (2, .pointer (some ⟨b2, 0, none⟩)), (36, .slice (some ⟨ba, oa, none⟩) l.length c), (37, .int .i64 (l.length : Int)), (38, .int .i64 (i : Int))]) (fun i w' => i ≤ l.length ∧ Kp [] w2 w' ∧ (l.take i).Pairwise fitP) (fun i => l.length - i) 0 ⟨by omega, Kp.refl _ _, List.Pairwise.nil⟩ (by (repeat' (first | exact True.intro | exact rfl | refine And.intro ?_ ?_))) ?_
    clear hi g1 hlt i
    rintro i w3 ⟨hi, hk3, hpw⟩
    have hB2 := hB2.kp0 hk3
    by_cases hlt : i < l.length
    · have g1 : (i : Int) < (l.length : Int) := by omega
      have k3 := (hk1.trans hk2).trans hk3
      have hri := (hS.kp0 k3).row (List.getElem?_eq_getElem hlt)
      have hlen : (l.take i).length = i := by rw [List.length_take]; omega
      repeat (first|apply CG.seq|apply CG.region|apply SG.nil|apply NG.next|apply CG.skip|apply CG.block|apply CG.ret|apply CG.exit|apply CG.scope|apply NG.ret_then|apply NG.ret_block|apply NG.ret_scope|apply NG.exit_then|refine NG.exit_block rfl ?_|refine NG.exit_other rfl ?_|apply NG.exit_scope|apply NG.normal_block|apply NG.normal_scope|refine SG.val rfl rfl rfl rfl (by first|((first|apply qid|apply qia0|apply qia|apply qmf|apply qmn|apply qmv|apply qas|apply qlc|apply qla|apply qfa|apply qnc|apply qic|apply qix|apply qpk|apply qls|apply qei|apply qni|apply qed|apply qnd|apply qad|apply qln|apply qle|apply qgt|apply qge|apply qlk|apply qlv|apply qxt|apply qsb|apply qnt|apply qep|apply qnp|apply qeb|apply qnb|apply qcv|apply qlm|apply qfr|apply qto|apply qmx|apply qen|apply qsn)<;>(first|exact rfl|exact Ar.mk (by omega)|assumption|exact dct (by first|assumption|omega)|exact dcf (by first|assumption|omega)|exact List.not_mem_nil|apply dc_length|apply ec_length|apply dl_length|exact nm1 (by omega)|exact (Int.toNat_of_nonneg (by omega)).symm|exact dcu|fail))|fail) ?_)
      refine CG.cond_t rfl (by exact rho_of rfl) rfl ?_
      repeat (first|apply CG.seq|apply CG.region|apply SG.nil|apply NG.next|apply CG.skip|apply CG.block|apply CG.ret|apply CG.exit|apply CG.scope|apply NG.ret_then|apply NG.ret_block|apply NG.ret_scope|apply NG.exit_then|refine NG.exit_block rfl ?_|refine NG.exit_other rfl ?_|apply NG.exit_scope|apply NG.normal_block|apply NG.normal_scope|refine SG.val rfl rfl rfl rfl (by first|((first|apply qid|apply qia0|apply qia|apply qmf|apply qmn|apply qmv|apply qas|apply qlc|apply qla|apply qfa|apply qnc|apply qic|apply qix|apply qpk|apply qls|apply qei|apply qni|apply qed|apply qnd|apply qad|apply qln|apply qle|apply qgt|apply qge|apply qlk|apply qlv|apply qxt|apply qsb|apply qnt|apply qep|apply qnp|apply qeb|apply qnb|apply qcv|apply qlm|apply qfr|apply qto|apply qmx|apply qen|apply qsn)<;>(first|exact rfl|exact Ar.mk (by omega)|assumption|exact dct (by first|assumption|omega)|exact dcf (by first|assumption|omega)|exact List.not_mem_nil|apply dc_length|apply ec_length|apply dl_length|exact nm1 (by omega)|exact (Int.toNat_of_nonneg (by omega)).symm|exact dcu|fail))|fail) ?_)
      refine SG.alloc rfl rfl rfl (fun b5 w4 hk4 hb5 hB5 => ?_)
      repeat (first|apply CG.seq|apply CG.region|apply SG.nil|apply NG.next|apply CG.skip|apply CG.block|apply CG.ret|apply CG.exit|apply CG.scope|apply NG.ret_then|apply NG.ret_block|apply NG.ret_scope|apply NG.exit_then|refine NG.exit_block rfl ?_|refine NG.exit_other rfl ?_|apply NG.exit_scope|apply NG.normal_block|apply NG.normal_scope|refine SG.val rfl rfl rfl rfl (by first|((first|apply qid|apply qia0|apply qia|apply qmf|apply qmn|apply qmv|apply qas|apply qlc|apply qla|apply qfa|apply qnc|apply qic|apply qix|apply qpk|apply qls|apply qei|apply qni|apply qed|apply qnd|apply qad|apply qln|apply qle|apply qgt|apply qge|apply qlk|apply qlv|apply qxt|apply qsb|apply qnt|apply qep|apply qnp|apply qeb|apply qnb|apply qcv|apply qlm|apply qfr|apply qto|apply qmx|apply qen|apply qsn)<;>(first|exact rfl|exact Ar.mk (by omega)|assumption|exact dct (by first|assumption|omega)|exact dcf (by first|assumption|omega)|exact List.not_mem_nil|apply dc_length|apply ec_length|apply dl_length|exact nm1 (by omega)|exact (Int.toNat_of_nonneg (by omega)).symm|exact dcu|fail))|fail) ?_)
      refine SG.setAll (l := ec l[i]) rfl rfl (by exact rho_of rfl) (by exact rho_of rfl) hB5 (ec_length _) rfl (ec_one _) (fun w5 hk5 hB6 => ?_)
      have hr6 : Row w5 b5 0 (ec l[i]) := Row.all hB6 rfl
      have k5 : Kp [] w3 w5 := hk4.trans_new hk5 (new1 (by omega))
      have hf : ∀ W, Kp [] w5 W → Ret Try.prog 35 #[.slice (some ⟨ba, oa, none⟩) i c, ov l[i]] W (.bool (!(l.take i).any (fun x => !decide (fitP x l[i])))) := fun W hk => by
        have := fits_spec (c := c) (((hS.take i).kp0 (k3.trans k5)).kp0 hk) (by rw [hlen]; omega) l[i]
        rwa [hlen] at this
      have hbt := pw_take hlt hpw
      have hbf := pw_not (l := l) hlt
      generalize (l.take i).any (fun x => !decide (fitP x l[i])) = bb at hf hbt hbf
      repeat (first|apply CG.seq|apply CG.region|apply SG.nil|apply NG.next|apply CG.skip|apply CG.block|apply CG.ret|apply CG.exit|apply CG.scope|apply NG.ret_then|apply NG.ret_block|apply NG.ret_scope|apply NG.exit_then|refine NG.exit_block rfl ?_|refine NG.exit_other rfl ?_|apply NG.exit_scope|apply NG.normal_block|apply NG.normal_scope|refine SG.val rfl rfl rfl rfl (by first|((first|apply qid|apply qia0|apply qia|apply qmf|apply qmn|apply qmv|apply qas|apply qlc|apply qla|apply qfa|apply qnc|apply qic|apply qix|apply qpk|apply qls|apply qei|apply qni|apply qed|apply qnd|apply qad|apply qln|apply qle|apply qgt|apply qge|apply qlk|apply qlv|apply qxt|apply qsb|apply qnt|apply qep|apply qnp|apply qeb|apply qnb|apply qcv|apply qlm|apply qfr|apply qto|apply qmx|apply qen|apply qsn)<;>(first|exact rfl|exact Ar.mk (by omega)|assumption|exact dct (by first|assumption|omega)|exact dcf (by first|assumption|omega)|exact List.not_mem_nil|apply dc_length|apply ec_length|apply dl_length|exact nm1 (by omega)|exact (Int.toNat_of_nonneg (by omega)).symm|exact dcu|fail))|fail) ?_)
      refine CG.draw0 mixed [0, 1, 2, 3, 4, 5] [] (by kernel_rfl) ?_
      repeat (refine Der.val rfl rfl rfl (by first|((first|apply qid|apply qia0|apply qia|apply qmf|apply qmn|apply qmv|apply qas|apply qlc|apply qla|apply qfa|apply qnc|apply qic|apply qix|apply qpk|apply qls|apply qei|apply qni|apply qed|apply qnd|apply qad|apply qln|apply qle|apply qgt|apply qge|apply qlk|apply qlv|apply qxt|apply qsb|apply qnt|apply qep|apply qnp|apply qeb|apply qnb|apply qcv|apply qlm|apply qfr|apply qto|apply qmx|apply qen|apply qsn)<;>(first|exact rfl|exact Ar.mk (by omega)|assumption|exact dct (by first|assumption|omega)|exact dcf (by first|assumption|omega)|exact List.not_mem_nil|apply dc_length|apply ec_length|apply dl_length|exact nm1 (by omega)|exact (Int.toNat_of_nonneg (by omega)).symm|exact dcu|fail))|fail) ?_)
      refine Der.call rfl rfl rfl (vs := [.slice (some ⟨ba, oa, none⟩) i c, ov l[i]]) (by repeat' (first | exact True.intro | exact rho_of rfl | refine And.intro ?_ ?_)) (fun W hk _ => hf W hk) ?_
      repeat (refine Der.val rfl rfl rfl (by first|((first|apply qid|apply qia0|apply qia|apply qmf|apply qmn|apply qmv|apply qas|apply qlc|apply qla|apply qfa|apply qnc|apply qic|apply qix|apply qpk|apply qls|apply qei|apply qni|apply qed|apply qnd|apply qad|apply qln|apply qle|apply qgt|apply qge|apply qlk|apply qlv|apply qxt|apply qsb|apply qnt|apply qep|apply qnp|apply qeb|apply qnb|apply qcv|apply qlm|apply qfr|apply qto|apply qmx|apply qen|apply qsn)<;>(first|exact rfl|exact Ar.mk (by omega)|assumption|exact dct (by first|assumption|omega)|exact dcf (by first|assumption|omega)|exact List.not_mem_nil|apply dc_length|apply ec_length|apply dl_length|exact nm1 (by omega)|exact (Int.toNat_of_nonneg (by omega)).symm|exact dcu|fail))|fail) ?_)
      refine Der.fin (fun w6 hk6 _ _ => ?_)
      have k6 := k5.trans hk6
      cases bb with
      | false =>
        repeat (first|apply CG.seq|apply CG.region|apply SG.nil|apply NG.next|apply CG.skip|apply CG.block|apply CG.ret|apply CG.exit|apply CG.scope|apply NG.ret_then|apply NG.ret_block|apply NG.ret_scope|apply NG.exit_then|refine NG.exit_block rfl ?_|refine NG.exit_other rfl ?_|apply NG.exit_scope|apply NG.normal_block|apply NG.normal_scope|refine SG.val rfl rfl rfl rfl (by first|((first|apply qid|apply qia0|apply qia|apply qmf|apply qmn|apply qmv|apply qas|apply qlc|apply qla|apply qfa|apply qnc|apply qic|apply qix|apply qpk|apply qls|apply qei|apply qni|apply qed|apply qnd|apply qad|apply qln|apply qle|apply qgt|apply qge|apply qlk|apply qlv|apply qxt|apply qsb|apply qnt|apply qep|apply qnp|apply qeb|apply qnb|apply qcv|apply qlm|apply qfr|apply qto|apply qmx|apply qen|apply qsn)<;>(first|exact rfl|exact Ar.mk (by omega)|assumption|exact dct (by first|assumption|omega)|exact dcf (by first|assumption|omega)|exact List.not_mem_nil|apply dc_length|apply ec_length|apply dl_length|exact nm1 (by omega)|exact (Int.toNat_of_nonneg (by omega)).symm|exact dcu|fail))|fail) ?_)
        refine CG.cond_f rfl (by exact rho_of rfl) rfl ?_
        repeat (first|apply CG.seq|apply CG.region|apply SG.nil|apply NG.next|apply CG.skip|apply CG.block|apply CG.ret|apply CG.exit|apply CG.scope|apply NG.ret_then|apply NG.ret_block|apply NG.ret_scope|apply NG.exit_then|refine NG.exit_block rfl ?_|refine NG.exit_other rfl ?_|apply NG.exit_scope|apply NG.normal_block|apply NG.normal_scope|refine SG.val rfl rfl rfl rfl (by first|((first|apply qid|apply qia0|apply qia|apply qmf|apply qmn|apply qmv|apply qas|apply qlc|apply qla|apply qfa|apply qnc|apply qic|apply qix|apply qpk|apply qls|apply qei|apply qni|apply qed|apply qnd|apply qad|apply qln|apply qle|apply qgt|apply qge|apply qlk|apply qlv|apply qxt|apply qsb|apply qnt|apply qep|apply qnp|apply qeb|apply qnb|apply qcv|apply qlm|apply qfr|apply qto|apply qmx|apply qen|apply qsn)<;>(first|exact rfl|exact Ar.mk (by omega)|assumption|exact dct (by first|assumption|omega)|exact dcf (by first|assumption|omega)|exact List.not_mem_nil|apply dc_length|apply ec_length|apply dl_length|exact nm1 (by omega)|exact (Int.toNat_of_nonneg (by omega)).symm|exact dcu|fail))|fail) ?_)
        refine NG.round (i + 1) (by (repeat' (first | exact True.intro | exact rfl | refine And.intro ?_ ?_))) ⟨by omega, hk3.trans k6, hbt rfl⟩ (by omega)
      | true =>
        have hno : ¬ (decide (l.Pairwise fitP) = true) := fun h => hbf rfl (of_decide_eq_true h)
        rw [if_neg hno] at e0
        repeat (first|apply CG.seq|apply CG.region|apply SG.nil|apply NG.next|apply CG.skip|apply CG.block|apply CG.ret|apply CG.exit|apply CG.scope|apply NG.ret_then|apply NG.ret_block|apply NG.ret_scope|apply NG.exit_then|refine NG.exit_block rfl ?_|refine NG.exit_other rfl ?_|apply NG.exit_scope|apply NG.normal_block|apply NG.normal_scope|refine SG.val rfl rfl rfl rfl (by first|((first|apply qid|apply qia0|apply qia|apply qmf|apply qmn|apply qmv|apply qas|apply qlc|apply qla|apply qfa|apply qnc|apply qic|apply qix|apply qpk|apply qls|apply qei|apply qni|apply qed|apply qnd|apply qad|apply qln|apply qle|apply qgt|apply qge|apply qlk|apply qlv|apply qxt|apply qsb|apply qnt|apply qep|apply qnp|apply qeb|apply qnb|apply qcv|apply qlm|apply qfr|apply qto|apply qmx|apply qen|apply qsn)<;>(first|exact rfl|exact Ar.mk (by omega)|assumption|exact dct (by first|assumption|omega)|exact dcf (by first|assumption|omega)|exact List.not_mem_nil|apply dc_length|apply ec_length|apply dl_length|exact nm1 (by omega)|exact (Int.toNat_of_nonneg (by omega)).symm|exact dcu|fail))|fail) ?_)
        refine CG.cond_t rfl (by exact rho_of rfl) rfl ?_
        repeat (first|apply CG.seq|apply CG.region|apply SG.nil|apply NG.next|apply CG.skip|apply CG.block|apply CG.ret|apply CG.exit|apply CG.scope|apply NG.ret_then|apply NG.ret_block|apply NG.ret_scope|apply NG.exit_then|refine NG.exit_block rfl ?_|refine NG.exit_other rfl ?_|apply NG.exit_scope|apply NG.normal_block|apply NG.normal_scope|refine SG.val rfl rfl rfl rfl (by first|((first|apply qid|apply qia0|apply qia|apply qmf|apply qmn|apply qmv|apply qas|apply qlc|apply qla|apply qfa|apply qnc|apply qic|apply qix|apply qpk|apply qls|apply qei|apply qni|apply qed|apply qnd|apply qad|apply qln|apply qle|apply qgt|apply qge|apply qlk|apply qlv|apply qxt|apply qsb|apply qnt|apply qep|apply qnp|apply qeb|apply qnb|apply qcv|apply qlm|apply qfr|apply qto|apply qmx|apply qen|apply qsn)<;>(first|exact rfl|exact Ar.mk (by omega)|assumption|exact dct (by first|assumption|omega)|exact dcf (by first|assumption|omega)|exact List.not_mem_nil|apply dc_length|apply ec_length|apply dl_length|exact nm1 (by omega)|exact (Int.toNat_of_nonneg (by omega)).symm|exact dcu|fail))|fail) ?_)
        refine SG.val rfl rfl rfl rfl (vals_build rfl bdz) ?_
        refine SG.setAll (old := dl zd (.slice none 0 0) 0 0) (l := dl zd (.slice none 0 0) 0 0) rfl rfl (by exact rho_of rfl) (by exact rho_of rfl) (hB2.kp0 k6) (dl_length _ _ _ _) (dl_length _ _ _ _) (dl_one _ _ _ _ _ _) (fun wz hkz hBz => ?_)
        have hrz : Row wz b2 0 (dl zd (.slice none 0 0) 0 0) := Row.all hBz rfl
        repeat (first|apply CG.seq|apply CG.region|apply SG.nil|apply NG.next|apply CG.skip|apply CG.block|apply CG.ret|apply CG.exit|apply CG.scope|apply NG.ret_then|apply NG.ret_block|apply NG.ret_scope|apply NG.exit_then|refine NG.exit_block rfl ?_|refine NG.exit_other rfl ?_|apply NG.exit_scope|apply NG.normal_block|apply NG.normal_scope|refine SG.val rfl rfl rfl rfl (by first|((first|apply qid|apply qia0|apply qia|apply qmf|apply qmn|apply qmv|apply qas|apply qlc|apply qla|apply qfa|apply qnc|apply qic|apply qix|apply qpk|apply qls|apply qei|apply qni|apply qed|apply qnd|apply qad|apply qln|apply qle|apply qgt|apply qge|apply qlk|apply qlv|apply qxt|apply qsb|apply qnt|apply qep|apply qnp|apply qeb|apply qnb|apply qcv|apply qlm|apply qfr|apply qto|apply qmx|apply qen|apply qsn)<;>(first|exact rfl|exact Ar.mk (by omega)|assumption|exact dct (by first|assumption|omega)|exact dcf (by first|assumption|omega)|exact List.not_mem_nil|apply dc_length|apply ec_length|apply dl_length|exact nm1 (by omega)|exact (Int.toNat_of_nonneg (by omega)).symm|exact dcu|fail))|fail) ?_)
        refine ret2 (Or.inl rfl) Try.results11 (ResV.agg rfl rfl hrz (dl_length _ _ _ _)) (by first | exact ResV.tmp rfl | exact ResV.agg rfl rfl (by assumption) (by first | exact dc_length _ | exact nc_length _ | exact rc_length _ _ _ | exact ec_length _ | exact dl_length _ _ _ _ | rfl) | exact ResV.cell rfl rfl (by assumption)) ?_
        rw [e0]
        exact ⟨_, rfl, hz0 wz, (hk1.trans (hk2.trans (hk3.trans k6))).trans_new hkz (new1 (by omega))⟩
    have g1 : ¬ (i : Int) < (l.length : Int) := by omega
    rw [List.take_of_length_le (by omega)] at hpw
    rw [if_pos (decide_eq_true hpw)] at e0
    have k3 := (hk1.trans hk2).trans hk3
    have k13 := hk2.trans hk3
    have rru := rru.kp0 k13
    repeat (first|apply CG.seq|apply CG.region|apply SG.nil|apply NG.next|apply CG.skip|apply CG.block|apply CG.ret|apply CG.exit|apply CG.scope|apply NG.ret_then|apply NG.ret_block|apply NG.ret_scope|apply NG.exit_then|refine NG.exit_block rfl ?_|refine NG.exit_other rfl ?_|apply NG.exit_scope|apply NG.normal_block|apply NG.normal_scope|refine SG.val rfl rfl rfl rfl (by first|((first|apply qid|apply qia0|apply qia|apply qmf|apply qmn|apply qmv|apply qas|apply qlc|apply qla|apply qfa|apply qnc|apply qic|apply qix|apply qpk|apply qls|apply qei|apply qni|apply qed|apply qnd|apply qad|apply qln|apply qle|apply qgt|apply qge|apply qlk|apply qlv|apply qxt|apply qsb|apply qnt|apply qep|apply qnp|apply qeb|apply qnb|apply qcv|apply qlm|apply qfr|apply qto|apply qmx|apply qen|apply qsn)<;>(first|exact rfl|exact Ar.mk (by omega)|assumption|exact dct (by first|assumption|omega)|exact dcf (by first|assumption|omega)|exact List.not_mem_nil|apply dc_length|apply ec_length|apply dl_length|exact nm1 (by omega)|exact (Int.toNat_of_nonneg (by omega)).symm|exact dcu|fail))|fail) ?_)
    refine CG.cond_f rfl (by exact rho_of rfl) rfl ?_
    repeat (first|apply CG.seq|apply CG.region|apply SG.nil|apply NG.next|apply CG.skip|apply CG.block|apply CG.ret|apply CG.exit|apply CG.scope|apply NG.ret_then|apply NG.ret_block|apply NG.ret_scope|apply NG.exit_then|refine NG.exit_block rfl ?_|refine NG.exit_other rfl ?_|apply NG.exit_scope|apply NG.normal_block|apply NG.normal_scope|refine SG.val rfl rfl rfl rfl (by first|((first|apply qid|apply qia0|apply qia|apply qmf|apply qmn|apply qmv|apply qas|apply qlc|apply qla|apply qfa|apply qnc|apply qic|apply qix|apply qpk|apply qls|apply qei|apply qni|apply qed|apply qnd|apply qad|apply qln|apply qle|apply qgt|apply qge|apply qlk|apply qlv|apply qxt|apply qsb|apply qnt|apply qep|apply qnp|apply qeb|apply qnb|apply qcv|apply qlm|apply qfr|apply qto|apply qmx|apply qen|apply qsn)<;>(first|exact rfl|exact Ar.mk (by omega)|assumption|exact dct (by first|assumption|omega)|exact dcf (by first|assumption|omega)|exact List.not_mem_nil|apply dc_length|apply ec_length|apply dl_length|exact nm1 (by omega)|exact (Int.toNat_of_nonneg (by omega)).symm|exact dcu|fail))|fail) ?_)
    refine SG.val rfl rfl rfl rfl (vals_build rfl (bdr _)) ?_
    refine SG.alloc rfl rfl rfl (fun b8 w4 hk4 hb8 hB8 => ?_)
    refine SG.setAll (l := dl o.rules (.slice none 0 0) 0 0) rfl rfl (by exact rho_of rfl) (by exact rho_of rfl) hB8 (dl_length _ _ _ _) rfl (dl_one _ _ _ _ _ _) (fun w5 hk5 hB9 => ?_)
    have hB9 : Blk w5 b8 (.cells (dl o.rules (.slice none 0 0) 0 0).toArray 27) := hB9
    have s3 := k3.size
    have s13 := k13.size
    have s4 := hk4.size
    have s5 := hk5.size
    have l8 := hB9.lt
    have k5 : Kp [] w3 w5 := hk4.trans_new hk5 (new1 (by omega))
    repeat (first|apply CG.seq|apply CG.region|apply SG.nil|apply NG.next|apply CG.skip|apply CG.block|apply CG.ret|apply CG.exit|apply CG.scope|apply NG.ret_then|apply NG.ret_block|apply NG.ret_scope|apply NG.exit_then|refine NG.exit_block rfl ?_|refine NG.exit_other rfl ?_|apply NG.exit_scope|apply NG.normal_block|apply NG.normal_scope|refine SG.val rfl rfl rfl rfl (by first|((first|apply qid|apply qia0|apply qia|apply qmf|apply qmn|apply qmv|apply qas|apply qlc|apply qla|apply qfa|apply qnc|apply qic|apply qix|apply qpk|apply qls|apply qei|apply qni|apply qed|apply qnd|apply qad|apply qln|apply qle|apply qgt|apply qge|apply qlk|apply qlv|apply qxt|apply qsb|apply qnt|apply qep|apply qnp|apply qeb|apply qnb|apply qcv|apply qlm|apply qfr|apply qto|apply qmx|apply qen|apply qsn)<;>(first|exact rfl|exact Ar.mk (by omega)|assumption|exact dct (by first|assumption|omega)|exact dcf (by first|assumption|omega)|exact List.not_mem_nil|apply dc_length|apply ec_length|apply dl_length|exact nm1 (by omega)|exact (Int.toNat_of_nonneg (by omega)).symm|exact dcu|fail))|fail) ?_)
    refine CG.loop (X := Value × Nat) (fun x => [(0, .slice (some ⟨ba, oa, none⟩) l.length c), (2, .pointer (some ⟨b2, 0, none⟩)), (8, .pointer (some ⟨b8, 0, none⟩)), (56, .slice (some ⟨ba, oa, none⟩) l.length c), (57, .int .i64 (l.length : Int)), (58, .int .i64 (x.2 : Int))])
      (fun x w' => x.2 ≤ l.length ∧ Kp [] w3 w' ∧ w5.heap.size ≤ w'.heap.size ∧ Blk w' b8 (.cells (dl o.rules x.1 (maxs (·.least) (l.take x.2)) (maxs (·.window) (l.take x.2))).toArray 27) ∧ w'.ownsRow w3.heap.size 24 8 x.1 ((l.take x.2).map (·.who)).length (flt dc ((l.take x.2).map (·.who)))) (fun x => l.length - x.2) (.slice none 0 0, 0) ⟨by simp only; omega, k5, Nat.le_refl _, by simp only [List.take_zero, maxs_nil]; exact hB9, own_nil⟩ (by (repeat' (first | exact True.intro | exact rfl | refine And.intro ?_ ?_))) ?_
    clear hi g1 hlt i hpw
    rintro ⟨v, i⟩ w6 ⟨hi, hk6, s6, hB, hov⟩
    simp only at hi hB hov
    refine CG.to [(0, .slice (some ⟨ba, oa, none⟩) l.length c), (2, .pointer (some ⟨b2, 0, none⟩)), (8, .pointer (some ⟨b8, 0, none⟩)), (56, .slice (some ⟨ba, oa, none⟩) l.length c), (57, .int .i64 (l.length : Int)), (58, .int .i64 (i : Int))] (by (repeat' (first | exact True.intro | exact rfl | refine And.intro ?_ ?_))) ?_
    have hlen : ((l.take i).map (·.who)).length = i := by rw [List.length_map, List.length_take]; omega
    obtain ⟨av, cv, rfl, hcv, hSv⟩ := Sl.own dc_length hov rfl
    by_cases hlt : i < l.length
    · have g1 : (i : Int) < (l.length : Int) := by omega
      have hri := (hS.kp0 (k3.trans hk6)).row (List.getElem?_eq_getElem hlt)
      have em1 := maxs_snoc (·.least) l i hlt
      have em2 := maxs_snoc (·.window) l i hlt
      repeat (first|apply CG.seq|apply CG.region|apply SG.nil|apply NG.next|apply CG.skip|apply CG.block|apply CG.ret|apply CG.exit|apply CG.scope|apply NG.ret_then|apply NG.ret_block|apply NG.ret_scope|apply NG.exit_then|refine NG.exit_block rfl ?_|refine NG.exit_other rfl ?_|apply NG.exit_scope|apply NG.normal_block|apply NG.normal_scope|refine SG.val rfl rfl rfl rfl (by first|((first|apply qid|apply qia0|apply qia|apply qmf|apply qmn|apply qmv|apply qas|apply qlc|apply qla|apply qfa|apply qnc|apply qic|apply qix|apply qpk|apply qls|apply qei|apply qni|apply qed|apply qnd|apply qad|apply qln|apply qle|apply qgt|apply qge|apply qlk|apply qlv|apply qxt|apply qsb|apply qnt|apply qep|apply qnp|apply qeb|apply qnb|apply qcv|apply qlm|apply qfr|apply qto|apply qmx|apply qen|apply qsn)<;>(first|exact rfl|exact Ar.mk (by omega)|assumption|exact dct (by first|assumption|omega)|exact dcf (by first|assumption|omega)|exact List.not_mem_nil|apply dc_length|apply ec_length|apply dl_length|exact nm1 (by omega)|exact (Int.toNat_of_nonneg (by omega)).symm|exact dcu|fail))|fail) ?_)
      refine CG.cond_t rfl (by exact rho_of rfl) rfl ?_
      repeat (first|apply CG.seq|apply CG.region|apply SG.nil|apply NG.next|apply CG.skip|apply CG.block|apply CG.ret|apply CG.exit|apply CG.scope|apply NG.ret_then|apply NG.ret_block|apply NG.ret_scope|apply NG.exit_then|refine NG.exit_block rfl ?_|refine NG.exit_other rfl ?_|apply NG.exit_scope|apply NG.normal_block|apply NG.normal_scope|refine SG.val rfl rfl rfl rfl (by first|((first|apply qid|apply qia0|apply qia|apply qmf|apply qmn|apply qmv|apply qas|apply qlc|apply qla|apply qfa|apply qnc|apply qic|apply qix|apply qpk|apply qls|apply qei|apply qni|apply qed|apply qnd|apply qad|apply qln|apply qle|apply qgt|apply qge|apply qlk|apply qlv|apply qxt|apply qsb|apply qnt|apply qep|apply qnp|apply qeb|apply qnb|apply qcv|apply qlm|apply qfr|apply qto|apply qmx|apply qen|apply qsn)<;>(first|exact rfl|exact Ar.mk (by omega)|assumption|exact dct (by first|assumption|omega)|exact dcf (by first|assumption|omega)|exact List.not_mem_nil|apply dc_length|apply ec_length|apply dl_length|exact nm1 (by omega)|exact (Int.toNat_of_nonneg (by omega)).symm|exact dcu|fail))|fail) ?_)
      refine SG.alloc rfl rfl rfl (fun b10 w7 hk7 hb10 hB10 => ?_)
      refine SG.setAll (l := ec l[i]) rfl rfl (by exact rho_of rfl) (by exact rho_of rfl) hB10 (ec_length _) rfl (ec_one _) (fun w8 hk8 hB11 => ?_)
      have hB11 : Blk w8 b10 (.cells (ec l[i]).toArray 47) := hB11
      have k8 : Kp [] w6 w8 := hk7.trans_new hk8 (new1 (by omega))
      obtain ⟨q0, -, -, q3, -, q5, -, -⟩ := ec_rows hB11
      have hBa := hB.kp0 k8
      obtain ⟨-, d1, d2, d3, -⟩ := dl_rows hBa
      have s7 := hk7.size
      have l10 := hB11.lt
      repeat (first|apply CG.seq|apply CG.region|apply SG.nil|apply NG.next|apply CG.skip|apply CG.block|apply CG.ret|apply CG.exit|apply CG.scope|apply NG.ret_then|apply NG.ret_block|apply NG.ret_scope|apply NG.exit_then|refine NG.exit_block rfl ?_|refine NG.exit_other rfl ?_|apply NG.exit_scope|apply NG.normal_block|apply NG.normal_scope|refine SG.val rfl rfl rfl rfl (by first|((first|apply qid|apply qia0|apply qia|apply qmf|apply qmn|apply qmv|apply qas|apply qlc|apply qla|apply qfa|apply qnc|apply qic|apply qix|apply qpk|apply qls|apply qei|apply qni|apply qed|apply qnd|apply qad|apply qln|apply qle|apply qgt|apply qge|apply qlk|apply qlv|apply qxt|apply qsb|apply qnt|apply qep|apply qnp|apply qeb|apply qnb|apply qcv|apply qlm|apply qfr|apply qto|apply qmx|apply qen|apply qsn)<;>(first|exact rfl|exact Ar.mk (by omega)|assumption|exact dct (by first|assumption|omega)|exact dcf (by first|assumption|omega)|exact List.not_mem_nil|apply dc_length|apply ec_length|apply dl_length|exact nm1 (by omega)|exact (Int.toNat_of_nonneg (by omega)).symm|exact dcu|fail))|fail) ?_)
      refine SG.buildSlice rfl rfl rfl rfl (bsg _) (fun b12 w9 hk9 hb12 hB12 => ?_)
      have k9 := k8.trans hk9
      have hov9 := own_kp0 hov k9
      refine SG.appO (enc := dc) (xs := (l.take i).map (·.who)) (ys := [l[i].who]) (base := w3.heap.size) rfl rfl rfl (by exact rho_of rfl) (by exact rho_of rfl) rfl rfl rfl rfl dc_length dc_one hov9 (sl_one dc_length hB12) (by rw [hlen]; simp only [maxLen, List.length_cons, List.length_nil]; omega) (by rw [hlen]; show (i + 1) * 8 ≤ _; omega) (hk6.trans k9).size (fun v13 w10 hk10 ho13 _ => ?_)
      have e : (l.take i).map (·.who) ++ [l[i].who] = (l.take (i + 1)).map (·.who) := by rw [List.take_succ_eq_append_getElem hlt, List.map_append]; rfl
      rw [e] at ho13
      have hBb := blk_own hov9 (by decide) (hBa.kp0 hk9) hk10
      have hBo := blk_own hov9 (by decide) (hB11.kp0 hk9) hk10
      have k10 : Kp [] w3 w10 := (hk6.trans k9).trans_new hk10 (own_new hov9 (Nat.le_refl _))
      obtain ⟨a13, c13, rfl, _, _⟩ := Sl.own dc_length ho13 rfl
      repeat (first|apply CG.seq|apply CG.region|apply SG.nil|apply NG.next|apply CG.skip|apply CG.block|apply CG.ret|apply CG.exit|apply CG.scope|apply NG.ret_then|apply NG.ret_block|apply NG.ret_scope|apply NG.exit_then|refine NG.exit_block rfl ?_|refine NG.exit_other rfl ?_|apply NG.exit_scope|apply NG.normal_block|apply NG.normal_scope|refine SG.val rfl rfl rfl rfl (by first|((first|apply qid|apply qia0|apply qia|apply qmf|apply qmn|apply qmv|apply qas|apply qlc|apply qla|apply qfa|apply qnc|apply qic|apply qix|apply qpk|apply qls|apply qei|apply qni|apply qed|apply qnd|apply qad|apply qln|apply qle|apply qgt|apply qge|apply qlk|apply qlv|apply qxt|apply qsb|apply qnt|apply qep|apply qnp|apply qeb|apply qnb|apply qcv|apply qlm|apply qfr|apply qto|apply qmx|apply qen|apply qsn)<;>(first|exact rfl|exact Ar.mk (by omega)|assumption|exact dct (by first|assumption|omega)|exact dcf (by first|assumption|omega)|exact List.not_mem_nil|apply dc_length|apply ec_length|apply dl_length|exact nm1 (by omega)|exact (Int.toNat_of_nonneg (by omega)).symm|exact dcu|fail))|fail) ?_)
      refine SG.store rfl rfl (by exact rho_of rfl) (by exact rho_of rfl) hBb rfl (by show 8 + 1 ≤ _; simp [dl_length]) rfl (fun w11 hk11 hBc => ?_)
      have ho14 := own_kp ho13 hk11 (own_neb ho13 (by decide) hBb)
      have hBc : Blk w11 b8 (.cells (spl (dl o.rules (.slice av ((l.take i).map (·.who)).length cv) (maxs (·.least) (l.take i)) (maxs (·.window) (l.take i))) 8 [.slice a13 ((l.take (i + 1)).map (·.who)).length c13]).toArray 27) := hBc
      rw [dl_set1] at hBc
      have hBo := hBo.kp hk11 (nm1 (by omega))
      obtain ⟨-, -, d2, d3, -⟩ := dl_rows hBc
      obtain ⟨-, -, -, q3, -, -, -, -⟩ := ec_rows hBo
      repeat (first|apply CG.seq|apply CG.region|apply SG.nil|apply NG.next|apply CG.skip|apply CG.block|apply CG.ret|apply CG.exit|apply CG.scope|apply NG.ret_then|apply NG.ret_block|apply NG.ret_scope|apply NG.exit_then|refine NG.exit_block rfl ?_|refine NG.exit_other rfl ?_|apply NG.exit_scope|apply NG.normal_block|apply NG.normal_scope|refine SG.val rfl rfl rfl rfl (by first|((first|apply qid|apply qia0|apply qia|apply qmf|apply qmn|apply qmv|apply qas|apply qlc|apply qla|apply qfa|apply qnc|apply qic|apply qix|apply qpk|apply qls|apply qei|apply qni|apply qed|apply qnd|apply qad|apply qln|apply qle|apply qgt|apply qge|apply qlk|apply qlv|apply qxt|apply qsb|apply qnt|apply qep|apply qnp|apply qeb|apply qnb|apply qcv|apply qlm|apply qfr|apply qto|apply qmx|apply qen|apply qsn)<;>(first|exact rfl|exact Ar.mk (by omega)|assumption|exact dct (by first|assumption|omega)|exact dcf (by first|assumption|omega)|exact List.not_mem_nil|apply dc_length|apply ec_length|apply dl_length|exact nm1 (by omega)|exact (Int.toNat_of_nonneg (by omega)).symm|exact dcu|fail))|fail) ?_)
      rw [← em1]
      refine SG.store rfl rfl (by exact rho_of rfl) (by exact rho_of rfl) hBc rfl (by show 9 + 1 ≤ _; simp [dl_length]) rfl (fun w12 hk12 hBd => ?_)
      have ho15 := own_kp ho14 hk12 (own_neb ho14 (by decide) hBc)
      have hBd : Blk w12 b8 (.cells (spl (dl o.rules (.slice a13 ((l.take (i + 1)).map (·.who)).length c13) (maxs (·.least) (l.take i)) (maxs (·.window) (l.take i))) 9 [.int .i64 (maxs (·.least) (l.take (i + 1)))]).toArray 27) := hBd
      rw [dl_set2] at hBd
      have hBo := hBo.kp hk12 (nm1 (by omega))
      obtain ⟨-, -, -, d3, -⟩ := dl_rows hBd
      obtain ⟨-, -, -, -, -, q5, -, -⟩ := ec_rows hBo
      repeat (first|apply CG.seq|apply CG.region|apply SG.nil|apply NG.next|apply CG.skip|apply CG.block|apply CG.ret|apply CG.exit|apply CG.scope|apply NG.ret_then|apply NG.ret_block|apply NG.ret_scope|apply NG.exit_then|refine NG.exit_block rfl ?_|refine NG.exit_other rfl ?_|apply NG.exit_scope|apply NG.normal_block|apply NG.normal_scope|refine SG.val rfl rfl rfl rfl (by first|((first|apply qid|apply qia0|apply qia|apply qmf|apply qmn|apply qmv|apply qas|apply qlc|apply qla|apply qfa|apply qnc|apply qic|apply qix|apply qpk|apply qls|apply qei|apply qni|apply qed|apply qnd|apply qad|apply qln|apply qle|apply qgt|apply qge|apply qlk|apply qlv|apply qxt|apply qsb|apply qnt|apply qep|apply qnp|apply qeb|apply qnb|apply qcv|apply qlm|apply qfr|apply qto|apply qmx|apply qen|apply qsn)<;>(first|exact rfl|exact Ar.mk (by omega)|assumption|exact dct (by first|assumption|omega)|exact dcf (by first|assumption|omega)|exact List.not_mem_nil|apply dc_length|apply ec_length|apply dl_length|exact nm1 (by omega)|exact (Int.toNat_of_nonneg (by omega)).symm|exact dcu|fail))|fail) ?_)
      rw [← em2]
      refine SG.store rfl rfl (by exact rho_of rfl) (by exact rho_of rfl) hBd rfl (by show 10 + 1 ≤ _; simp [dl_length]) rfl (fun w13 hk13 hBe => ?_)
      have ho16 := own_kp ho15 hk13 (own_neb ho15 (by decide) hBd)
      have hBe : Blk w13 b8 (.cells (spl (dl o.rules (.slice a13 ((l.take (i + 1)).map (·.who)).length c13) (maxs (·.least) (l.take (i + 1))) (maxs (·.window) (l.take i))) 10 [.int .i64 (maxs (·.window) (l.take (i + 1)))]).toArray 27) := hBe
      rw [dl_set3] at hBe
      have s9 := (hk6.trans k9).size
      have k13 : Kp [] w3 w13 := ((k10.trans_new hk11 (new1 (by omega))).trans_new hk12 (new1 (by omega))).trans_new hk13 (new1 (by omega))
      have z1 := k9.size
      have z2 := hk10.size
      have z3 := hk11.size
      have z4 := hk12.size
      have z5 := hk13.size
      repeat (first|apply CG.seq|apply CG.region|apply SG.nil|apply NG.next|apply CG.skip|apply CG.block|apply CG.ret|apply CG.exit|apply CG.scope|apply NG.ret_then|apply NG.ret_block|apply NG.ret_scope|apply NG.exit_then|refine NG.exit_block rfl ?_|refine NG.exit_other rfl ?_|apply NG.exit_scope|apply NG.normal_block|apply NG.normal_scope|refine SG.val rfl rfl rfl rfl (by first|((first|apply qid|apply qia0|apply qia|apply qmf|apply qmn|apply qmv|apply qas|apply qlc|apply qla|apply qfa|apply qnc|apply qic|apply qix|apply qpk|apply qls|apply qei|apply qni|apply qed|apply qnd|apply qad|apply qln|apply qle|apply qgt|apply qge|apply qlk|apply qlv|apply qxt|apply qsb|apply qnt|apply qep|apply qnp|apply qeb|apply qnb|apply qcv|apply qlm|apply qfr|apply qto|apply qmx|apply qen|apply qsn)<;>(first|exact rfl|exact Ar.mk (by omega)|assumption|exact dct (by first|assumption|omega)|exact dcf (by first|assumption|omega)|exact List.not_mem_nil|apply dc_length|apply ec_length|apply dl_length|exact nm1 (by omega)|exact (Int.toNat_of_nonneg (by omega)).symm|exact dcu|fail))|fail) ?_)
      refine NG.round (.slice a13 ((l.take (i + 1)).map (·.who)).length c13, i + 1) (by (repeat' (first | exact True.intro | exact rfl | refine And.intro ?_ ?_))) ⟨by simp only; omega, k13, by omega, hBe, ho16⟩ (by simp only; omega)
    · have g1 : ¬ (i : Int) < (l.length : Int) := by omega
      rw [List.take_of_length_le (by omega)] at hov hB hSv ⊢
      have k6 := k3.trans hk6
      repeat (first|apply CG.seq|apply CG.region|apply SG.nil|apply NG.next|apply CG.skip|apply CG.block|apply CG.ret|apply CG.exit|apply CG.scope|apply NG.ret_then|apply NG.ret_block|apply NG.ret_scope|apply NG.exit_then|refine NG.exit_block rfl ?_|refine NG.exit_other rfl ?_|apply NG.exit_scope|apply NG.normal_block|apply NG.normal_scope|refine SG.val rfl rfl rfl rfl (by first|((first|apply qid|apply qia0|apply qia|apply qmf|apply qmn|apply qmv|apply qas|apply qlc|apply qla|apply qfa|apply qnc|apply qic|apply qix|apply qpk|apply qls|apply qei|apply qni|apply qed|apply qnd|apply qad|apply qln|apply qle|apply qgt|apply qge|apply qlk|apply qlv|apply qxt|apply qsb|apply qnt|apply qep|apply qnp|apply qeb|apply qnb|apply qcv|apply qlm|apply qfr|apply qto|apply qmx|apply qen|apply qsn)<;>(first|exact rfl|exact Ar.mk (by omega)|assumption|exact dct (by first|assumption|omega)|exact dcf (by first|assumption|omega)|exact List.not_mem_nil|apply dc_length|apply ec_length|apply dl_length|exact nm1 (by omega)|exact (Int.toNat_of_nonneg (by omega)).symm|exact dcu|fail))|fail) ?_)
      refine CG.cond_f rfl (by exact rho_of rfl) rfl ?_
      repeat (first|apply CG.seq|apply CG.region|apply SG.nil|apply NG.next|apply CG.skip|apply CG.block|apply CG.ret|apply CG.exit|apply CG.scope|apply NG.ret_then|apply NG.ret_block|apply NG.ret_scope|apply NG.exit_then|refine NG.exit_block rfl ?_|refine NG.exit_other rfl ?_|apply NG.exit_scope|apply NG.normal_block|apply NG.normal_scope|refine SG.val rfl rfl rfl rfl (by first|((first|apply qid|apply qia0|apply qia|apply qmf|apply qmn|apply qmv|apply qas|apply qlc|apply qla|apply qfa|apply qnc|apply qic|apply qix|apply qpk|apply qls|apply qei|apply qni|apply qed|apply qnd|apply qad|apply qln|apply qle|apply qgt|apply qge|apply qlk|apply qlv|apply qxt|apply qsb|apply qnt|apply qep|apply qnp|apply qeb|apply qnb|apply qcv|apply qlm|apply qfr|apply qto|apply qmx|apply qen|apply qsn)<;>(first|exact rfl|exact Ar.mk (by omega)|assumption|exact dct (by first|assumption|omega)|exact dcf (by first|assumption|omega)|exact List.not_mem_nil|apply dc_length|apply ec_length|apply dl_length|exact nm1 (by omega)|exact (Int.toNat_of_nonneg (by omega)).symm|exact dcu|fail))|fail) ?_)
      refine SG.ret rfl rfl rfl (vs := [.slice (some ⟨ba, oa, none⟩) l.length c]) (by repeat' (first | exact True.intro | exact rho_of rfl | refine And.intro ?_ ?_)) (mix_spec (c := c) (hS.kp0 k6) (by omega)) (fun w7 hk7 => ?_)
      refine SG.alloc rfl rfl rfl (fun b11 w8 hk8 hb11 hB11 => ?_)
      refine SG.setAll (l := dc (mixD l)) rfl rfl (by exact rho_of rfl) (by exact rho_of rfl) hB11 (dc_length _) rfl (dc_one _) (fun w9 hk9 hB12 => ?_)
      have hr12 : Row w9 b11 0 (dc (mixD l)) := Row.all hB12 rfl
      have s7 := hk7.size
      have k9 : Kp [] w6 w9 := (hk7.trans hk8).trans_new hk9 (new1 (by omega))
      have hov9 := own_kp0 hov k9
      have hBd := hB.kp0 k9
      obtain ⟨-, d1, -, -, -⟩ := dl_rows hBd
      have hlt6 := own_lt hov
      have hnb : b11 ∉ ownB (.slice av (l.map (·.who)).length cv) := own_notB (fun b hb => by have := hlt6 b hb; omega)
      repeat (first|apply CG.seq|apply CG.region|apply SG.nil|apply NG.next|apply CG.skip|apply CG.block|apply CG.ret|apply CG.exit|apply CG.scope|apply NG.ret_then|apply NG.ret_block|apply NG.ret_scope|apply NG.exit_then|refine NG.exit_block rfl ?_|refine NG.exit_other rfl ?_|apply NG.exit_scope|apply NG.normal_block|apply NG.normal_scope|refine SG.val rfl rfl rfl rfl (by first|((first|apply qid|apply qia0|apply qia|apply qmf|apply qmn|apply qmv|apply qas|apply qlc|apply qla|apply qfa|apply qnc|apply qic|apply qix|apply qpk|apply qls|apply qei|apply qni|apply qed|apply qnd|apply qad|apply qln|apply qle|apply qgt|apply qge|apply qlk|apply qlv|apply qxt|apply qsb|apply qnt|apply qep|apply qnp|apply qeb|apply qnb|apply qcv|apply qlm|apply qfr|apply qto|apply qmx|apply qen|apply qsn)<;>(first|exact rfl|exact Ar.mk (by omega)|assumption|exact dct (by first|assumption|omega)|exact dcf (by first|assumption|omega)|exact List.not_mem_nil|apply dc_length|apply ec_length|apply dl_length|exact nm1 (by omega)|exact (Int.toNat_of_nonneg (by omega)).symm|exact dcu|fail))|fail) ?_)
      refine SG.val rfl rfl rfl rfl (qmf (vs := [.pointer (some ⟨b11, 0, none⟩)]) rfl) ?_
      have hsw := sortw_spec (m := mixD l) (bm := b11) hov9 (by rw [List.length_map]; omega) hr12 hnb
      refine SG.call rfl rfl rfl (vs := [.slice av (l.map (·.who)).length cv, fnv 38 [.pointer (some ⟨b11, 0, none⟩)]]) ⟨rho_of rfl, rho_of rfl, True.intro⟩ ?_
      refine hsw.mono (fun e w10 hh => ?_)
      obtain ⟨he, hk10, ho10⟩ := hh
      refine ⟨_, he, ?_⟩
      have hBe := blk_own hov9 (by decide) hBd hk10
      have hB2z := blk_own hov9 (by decide) ((hB2.kp0 hk6).kp0 k9) hk10
      have hrd := Row.all (l := dl o.rules (.slice av (l.map (·.who)).length cv) (maxs (·.least) l) (maxs (·.window) l)) hBe rfl
      have k10 : Kp [] w3 w10 := (hk6.trans k9).trans_new hk10 (own_new hov9 (Nat.le_refl _))
      repeat (first|apply CG.seq|apply CG.region|apply SG.nil|apply NG.next|apply CG.skip|apply CG.block|apply CG.ret|apply CG.exit|apply CG.scope|apply NG.ret_then|apply NG.ret_block|apply NG.ret_scope|apply NG.exit_then|refine NG.exit_block rfl ?_|refine NG.exit_other rfl ?_|apply NG.exit_scope|apply NG.normal_block|apply NG.normal_scope|refine SG.val rfl rfl rfl rfl (by first|((first|apply qid|apply qia0|apply qia|apply qmf|apply qmn|apply qmv|apply qas|apply qlc|apply qla|apply qfa|apply qnc|apply qic|apply qix|apply qpk|apply qls|apply qei|apply qni|apply qed|apply qnd|apply qad|apply qln|apply qle|apply qgt|apply qge|apply qlk|apply qlv|apply qxt|apply qsb|apply qnt|apply qep|apply qnp|apply qeb|apply qnb|apply qcv|apply qlm|apply qfr|apply qto|apply qmx|apply qen|apply qsn)<;>(first|exact rfl|exact Ar.mk (by omega)|assumption|exact dct (by first|assumption|omega)|exact dcf (by first|assumption|omega)|exact List.not_mem_nil|apply dc_length|apply ec_length|apply dl_length|exact nm1 (by omega)|exact (Int.toNat_of_nonneg (by omega)).symm|exact dcu|fail))|fail) ?_)
      refine SG.setAll (old := dl zd (.slice none 0 0) 0 0) (l := dl o.rules (.slice av (l.map (·.who)).length cv) (maxs (·.least) l) (maxs (·.window) l)) rfl rfl (by exact rho_of rfl) (by exact rho_of rfl) hB2z (dl_length _ _ _ _) (dl_length _ _ _ _) (dl_one _ _ _ _ _ _) (fun w11 hk11 hB13 => ?_)
      have hrz : Row w11 b2 0 (dl o.rules (.slice av (l.map (·.who)).length cv) (maxs (·.least) l) (maxs (·.window) l)) := Row.all hB13 rfl
      have ho11 := own_kp ho10 hk11 (own_neb ho10 (by decide) hB2z)
      repeat (first|apply CG.seq|apply CG.region|apply SG.nil|apply NG.next|apply CG.skip|apply CG.block|apply CG.ret|apply CG.exit|apply CG.scope|apply NG.ret_then|apply NG.ret_block|apply NG.ret_scope|apply NG.exit_then|refine NG.exit_block rfl ?_|refine NG.exit_other rfl ?_|apply NG.exit_scope|apply NG.normal_block|apply NG.normal_scope|refine SG.val rfl rfl rfl rfl (by first|((first|apply qid|apply qia0|apply qia|apply qmf|apply qmn|apply qmv|apply qas|apply qlc|apply qla|apply qfa|apply qnc|apply qic|apply qix|apply qpk|apply qls|apply qei|apply qni|apply qed|apply qnd|apply qad|apply qln|apply qle|apply qgt|apply qge|apply qlk|apply qlv|apply qxt|apply qsb|apply qnt|apply qep|apply qnp|apply qeb|apply qnb|apply qcv|apply qlm|apply qfr|apply qto|apply qmx|apply qen|apply qsn)<;>(first|exact rfl|exact Ar.mk (by omega)|assumption|exact dct (by first|assumption|omega)|exact dcf (by first|assumption|omega)|exact List.not_mem_nil|apply dc_length|apply ec_length|apply dl_length|exact nm1 (by omega)|exact (Int.toNat_of_nonneg (by omega)).symm|exact dcu|fail))|fail) ?_)
      refine ret2 (Or.inl rfl) Try.results11 (ResV.agg rfl rfl hrz (dl_length _ _ _ _)) (by first | exact ResV.tmp rfl | exact ResV.agg rfl rfl (by assumption) (by first | exact dc_length _ | exact nc_length _ | exact rc_length _ _ _ | exact ec_length _ | exact dl_length _ _ _ _ | rfl) | exact ResV.cell rfl rfl (by assumption)) ?_
      rw [e0]
      have elen : (l.map (·.who)).length = (sortK (kW (mixD l)) (l.map (·.who))).length := (sortK_perm _ (l.map (·.who))).length_eq.symm
      refine ⟨_, rfl, ⟨_, rfl, ?_⟩, (k3.trans k10).trans_new hk11 (new1 (by omega))⟩
      show w11.ownsRow w.heap.size 24 8 (.slice av (l.map (·.who)).length cv) (sortK (kW (mixD l)) (l.map (·.who))).length (flt dc (sortK (kW (mixD l)) (l.map (·.who))))
      rw [← elen]
      exact own_mono ho11 k3.size
end Go.Proofs.Ytnoipmimddoioaa
