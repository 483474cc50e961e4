/-
  What every law of the net asks of a net of its own.
-/
import Derived.Test.YtfelaicoedlejaaCut
import Derived.Test.YtfelaicoedlejaaMark
namespace Go.Proofs.Ytfelaicoedlejaa
set_option linter.unusedVariables false

theorem bs33 (w : World) : (Instr.buildSlice 33 1 [(0, Value.int .u8 120)].toArray).run Try.prog w = .ok (.slice (some ⟨w.heap.size, 0, none⟩) 1 1) { w with heap := w.heap.push (.cells #[.int .u8 120] 5) } := by kernel_rfl
theorem bs29 (w : World) (a b : Int) : (Instr.buildSlice 29 2 [(0, Value.int .i64 a), (1, Value.int .i64 b)].toArray).run Try.prog w = .ok (.slice (some ⟨w.heap.size, 0, none⟩) 2 2) { w with heap := w.heap.push (.cells #[.int .i64 a, .int .i64 b] 3) } := by kernel_rfl
theorem build35 (w : World) (a : Option Addr) (n c : Nat) (t : Int) : (Instr.build 35 #[(1, Value.int .i64 t), (2, .slice a n c)]).run Try.prog w = .ok (.agg #[.int .i64 0, .int .i64 t, .slice a n c]) w := by kernel_rfl
theorem build31 (w : World) (a : Option Addr) (n c : Nat) : (Instr.build 31 #[(0, Value.slice a n c)]).run Try.prog w = .ok (.agg #[.slice a n c]) w := by kernel_rfl

theorem Row.sub {w : World} {b off : Nat} (A B C : List Value) (h : Row w b off (A ++ (B ++ C))) : Row w b (off + A.length) B := by
  obtain ⟨cs, T, f, hb, hc⟩ := h
  refine ⟨cs, T, f, hb, fun i v hv => ?_⟩
  have hi : i < B.length := (List.getElem?_eq_some_iff.1 hv).1
  have := hc (A.length + i) v (by rw [List.getElem?_append_right (by omega), List.getElem?_append_left (by omega), ← hv]; congr 1; omega)
  rw [← this]
  congr 1
  omega
theorem one_of {l : List Lt} {f t : Nat} {bs : List UInt8} (h : l.map ltc = [(f, t, bs)]) : ∃ a c, l = [⟨f, t, bs, a, c⟩] := by
  match l, h with
  | [⟨f', t', bs', a, c⟩], h =>
    simp only [List.map_cons, List.map_nil, ltc, List.cons.injEq, Prod.mk.injEq, and_true] at h
    obtain ⟨rfl, rfl, rfl⟩ := h
    exact ⟨a, c, rfl⟩

theorem inc_length (z : Int) : (inc z).length = 1 := rfl
theorem sl_blk {α : Type} {enc : α → List Value} {sz : Nat} (he : ∀ x, (enc x).length = sz) {w : World} {b : Nat} {cs : Array Value} {T : TypeId} {f : Nat × Nat} {l : List α} (h : Blk w b (.cells cs T f)) (e : cs.toList = flt enc l) : Sl enc sz w (some ⟨b, 0, none⟩) l := fun i x hx => by
  have hi : i < l.length := (List.getElem?_eq_some_iff.1 hx).1
  rw [List.getElem?_eq_getElem hi] at hx
  cases hx
  refine ⟨b, 0, rfl, Row.of h (flt enc (l.take i)) (flt enc (l.drop (i + 1))) ?_ ?_⟩
  · rw [e, flt_split l i hi]
  · simp [flt_length he, Nat.min_eq_left (Nat.le_of_lt hi)]

attribute [local irreducible] CG NG SG Vals Der Row Blk MapIs IterAt DerX
set_option maxHeartbeats 8000000 in
theorem told_spec (w : World) : Ret Try.prog 12 #[] w (.bool true) := by
  refine enter0 Try.func12 rfl Try.ntmps12 ?_
  repeat (first|apply CG.seq|apply CG.region|apply SG.nil|apply NG.next|apply CG.skip|apply CG.block|apply CG.ret|apply CG.exit|apply CG.scope|apply NG.ret_then|apply NG.ret_block|apply NG.ret_scope|apply NG.exit_then|refine NG.exit_block rfl ?_|refine NG.exit_other rfl ?_|apply NG.exit_scope|apply NG.normal_block|apply NG.normal_scope|refine SG.val rfl rfl rfl rfl (by first|((first|apply qmv|apply qas|apply qlc|apply qla|apply qfa|apply qnc|apply qic|apply qix|apply qpk|apply qls|apply qei|apply qni|apply qed|apply qnd|apply qad|apply qln|apply qle|apply qgt|apply qge|apply qlk|apply qlv|apply qxt|apply qsb|apply qnt|apply qep|apply qnp|apply qeb|apply qnb|apply qcv|apply qlm|apply qfr|apply qto|apply qmx|apply qen|apply qsn|apply qx0)<;>(first|exact rfl|exact Ar.mk (by omega)|assumption|exact dct (by assumption)|exact dcf (by assumption)|exact dct (by omega)|exact dcf (by omega)|exact List.not_mem_nil|exact dc_length _|exact nc_length _|exact rc_length _ _ _|exact nm1 (by omega)|exact nm2 (by omega) (by omega)|exact dct rfl|exact dct (by decide)|exact dcf (by decide)|exact (Int.toNat_of_nonneg (by omega)).symm|exact dcu|exact lk1 (by assumption)|exact lk0 (by assumption)))|fail) ?_)
  refine SG.call rfl rfl rfl (by repeat' (first | exact True.intro | exact rho_of rfl | refine And.intro ?_ ?_)) ((netnew_good w 2 (by omega) (by omega)).mono (fun e w1 h => ?_))
  obtain ⟨bt, bm, he, hR, hbt, hbm, hne, hk1⟩ := h
  refine ⟨_, he, ?_⟩
  repeat (first | first|apply CG.seq|apply CG.region|apply SG.nil|apply NG.next|apply CG.skip|apply CG.block|apply CG.ret|apply CG.exit|apply CG.scope|apply NG.ret_then|apply NG.ret_block|apply NG.ret_scope|apply NG.exit_then|refine NG.exit_block rfl ?_|refine NG.exit_other rfl ?_|apply NG.exit_scope|apply NG.normal_block|apply NG.normal_scope|refine SG.val rfl rfl rfl rfl (by first|((first|apply qmv|apply qas|apply qlc|apply qla|apply qfa|apply qnc|apply qic|apply qix|apply qpk|apply qls|apply qei|apply qni|apply qed|apply qnd|apply qad|apply qln|apply qle|apply qgt|apply qge|apply qlk|apply qlv|apply qxt|apply qsb|apply qnt|apply qep|apply qnp|apply qeb|apply qnb|apply qcv|apply qlm|apply qfr|apply qto|apply qmx|apply qen|apply qsn|apply qx0)<;>(first|exact rfl|exact Ar.mk (by omega)|assumption|exact dct (by assumption)|exact dcf (by assumption)|exact dct (by omega)|exact dcf (by omega)|exact List.not_mem_nil|exact dc_length _|exact nc_length _|exact rc_length _ _ _|exact nm1 (by omega)|exact nm2 (by omega) (by omega)|exact dct rfl|exact dct (by decide)|exact dcf (by decide)|exact (Int.toNat_of_nonneg (by omega)).symm|exact dcu|exact lk1 (by assumption)|exact lk0 (by assumption)))|fail) ?_ | refine SG.skip rfl rfl ?_)
  refine SG.buildSlice rfl rfl rfl rfl (fun w => bs33 w) (fun b8 w2 hk2 hb8 hB8 => ?_)
  refine SG.mark rfl rfl rfl (by exact rho_of rfl) hB8 hk2 hb8 (fun w3 hk3 hoth hB3 => ?_)
  refine SG.val rfl rfl rfl rfl (vals_build rfl (fun w => build35 w _ 1 1 1)) ?_
  refine SG.buildSlice rfl rfl rfl rfl (fun w => bs29 w 0 2) (fun b9 w4 hk4 hb9 hB9 => ?_)
  refine SG.val rfl rfl rfl rfl (vals_build rfl (fun w => build31 w _ 2 2)) ?_
  have hR4 := hR.kp0 (hk3.trans hk4)
  have hSb : Sl byc 1 w4 (some ⟨b8, 0, none⟩) [120] := sl_blk byc_length (hB3.kp0 hk4) rfl
  have hS : ∀ w', Kp (sendS bt bm []) w4 w' → SlI w' (some ⟨b9, 0, none⟩) [0, 2] := fun w' hk' => sl_blk (enc := inc) inc_length (hB9.kp hk' (nm2 (by have := hR.blk.lt; have := hk3.size; omega) (by have := hR.map.lt; have := hk3.size; omega))) rfl
  refine SG.call rfl rfl rfl (by repeat' (first | exact True.intro | exact rho_of rfl | refine And.intro ?_ ?_)) ((send_good hR4 (Nat.zero_le _) (Nat.zero_le _) 0 1 (some ⟨b8, 0, none⟩) 1 [120] hSb (some ⟨b9, 0, none⟩) 2 [0, 2] hS rfl).mono (fun e w5 h => ?_))
  obtain ⟨due5, he5, hR5, hU5, hk5⟩ := h
  refine ⟨_, he5, ?_⟩
  repeat (first | first|apply CG.seq|apply CG.region|apply SG.nil|apply NG.next|apply CG.skip|apply CG.block|apply CG.ret|apply CG.exit|apply CG.scope|apply NG.ret_then|apply NG.ret_block|apply NG.ret_scope|apply NG.exit_then|refine NG.exit_block rfl ?_|refine NG.exit_other rfl ?_|apply NG.exit_scope|apply NG.normal_block|apply NG.normal_scope|refine SG.val rfl rfl rfl rfl (by first|((first|apply qmv|apply qas|apply qlc|apply qla|apply qfa|apply qnc|apply qic|apply qix|apply qpk|apply qls|apply qei|apply qni|apply qed|apply qnd|apply qad|apply qln|apply qle|apply qgt|apply qge|apply qlk|apply qlv|apply qxt|apply qsb|apply qnt|apply qep|apply qnp|apply qeb|apply qnb|apply qcv|apply qlm|apply qfr|apply qto|apply qmx|apply qen|apply qsn|apply qx0)<;>(first|exact rfl|exact Ar.mk (by omega)|assumption|exact dct (by assumption)|exact dcf (by assumption)|exact dct (by omega)|exact dcf (by omega)|exact List.not_mem_nil|exact dc_length _|exact nc_length _|exact rc_length _ _ _|exact nm1 (by omega)|exact nm2 (by omega) (by omega)|exact dct rfl|exact dct (by decide)|exact dcf (by decide)|exact (Int.toNat_of_nonneg (by omega)).symm|exact dcu|exact lk1 (by assumption)|exact lk0 (by assumption)))|fail) ?_ | refine SG.skip rfl rfl ?_)
  refine CG.cond_f rfl (by exact rho_of rfl) rfl ?_
  repeat (first|apply CG.seq|apply CG.region|apply SG.nil|apply NG.next|apply CG.skip|apply CG.block|apply CG.ret|apply CG.exit|apply CG.scope|apply NG.ret_then|apply NG.ret_block|apply NG.ret_scope|apply NG.exit_then|refine NG.exit_block rfl ?_|refine NG.exit_other rfl ?_|apply NG.exit_scope|apply NG.normal_block|apply NG.normal_scope|refine SG.val rfl rfl rfl rfl (by first|((first|apply qmv|apply qas|apply qlc|apply qla|apply qfa|apply qnc|apply qic|apply qix|apply qpk|apply qls|apply qei|apply qni|apply qed|apply qnd|apply qad|apply qln|apply qle|apply qgt|apply qge|apply qlk|apply qlv|apply qxt|apply qsb|apply qnt|apply qep|apply qnp|apply qeb|apply qnb|apply qcv|apply qlm|apply qfr|apply qto|apply qmx|apply qen|apply qsn|apply qx0)<;>(first|exact rfl|exact Ar.mk (by omega)|assumption|exact dct (by assumption)|exact dcf (by assumption)|exact dct (by omega)|exact dcf (by omega)|exact List.not_mem_nil|exact dc_length _|exact nc_length _|exact rc_length _ _ _|exact nm1 (by omega)|exact nm2 (by omega) (by omega)|exact dct rfl|exact dct (by decide)|exact dcf (by decide)|exact (Int.toNat_of_nonneg (by omega)).symm|exact dcu|exact lk1 (by assumption)|exact lk0 (by assumption)))|fail) ?_)
  have hR5 : Rep w5 bt bm ⟨2, 0, 2, [⟨0, 1, [120], 0⟩, ⟨0, 1, [120], 2⟩], List.replicate 256 false⟩ due5 := hR5
  refine SG.call rfl rfl rfl (by repeat' (first | exact True.intro | exact rho_of rfl | refine And.intro ?_ ?_)) ((step_spec hR5 (Nat.zero_le _) (by decide) (by decide)).mono (fun e w6 h => ?_))
  obtain ⟨v6, due6, l6, he6, ho6, hl6, hb6, hR6, hU6, hk6⟩ := h
  refine ⟨_, he6, ?_⟩
  repeat (first|apply CG.seq|apply CG.region|apply SG.nil|apply NG.next|apply CG.skip|apply CG.block|apply CG.ret|apply CG.exit|apply CG.scope|apply NG.ret_then|apply NG.ret_block|apply NG.ret_scope|apply NG.exit_then|refine NG.exit_block rfl ?_|refine NG.exit_other rfl ?_|apply NG.exit_scope|apply NG.normal_block|apply NG.normal_scope|refine SG.val rfl rfl rfl rfl (by first|((first|apply qmv|apply qas|apply qlc|apply qla|apply qfa|apply qnc|apply qic|apply qix|apply qpk|apply qls|apply qei|apply qni|apply qed|apply qnd|apply qad|apply qln|apply qle|apply qgt|apply qge|apply qlk|apply qlv|apply qxt|apply qsb|apply qnt|apply qep|apply qnp|apply qeb|apply qnb|apply qcv|apply qlm|apply qfr|apply qto|apply qmx|apply qen|apply qsn|apply qx0)<;>(first|exact rfl|exact Ar.mk (by omega)|assumption|exact dct (by assumption)|exact dcf (by assumption)|exact dct (by omega)|exact dcf (by omega)|exact List.not_mem_nil|exact dc_length _|exact nc_length _|exact rc_length _ _ _|exact nm1 (by omega)|exact nm2 (by omega) (by omega)|exact dct rfl|exact dct (by decide)|exact dcf (by decide)|exact (Int.toNat_of_nonneg (by omega)).symm|exact dcu|exact lk1 (by assumption)|exact lk0 (by assumption)))|fail) ?_)
  have hR6 : Rep w6 bt bm ⟨2, 1, 2, [⟨0, 1, [120], 2⟩], List.replicate 256 false⟩ due6 := hR6
  refine SG.call rfl rfl rfl (by repeat' (first | exact True.intro | exact rho_of rfl | refine And.intro ?_ ?_)) ((step_spec hR6 (by decide) (by decide) (by decide)).mono (fun e w7 h => ?_))
  obtain ⟨v7, due7, l7, he7, ho7, hl7, hb7, hR7, hU7, hk7⟩ := h
  refine ⟨_, he7, ?_⟩
  repeat (first|apply CG.seq|apply CG.region|apply SG.nil|apply NG.next|apply CG.skip|apply CG.block|apply CG.ret|apply CG.exit|apply CG.scope|apply NG.ret_then|apply NG.ret_block|apply NG.ret_scope|apply NG.exit_then|refine NG.exit_block rfl ?_|refine NG.exit_other rfl ?_|apply NG.exit_scope|apply NG.normal_block|apply NG.normal_scope|refine SG.val rfl rfl rfl rfl (by first|((first|apply qmv|apply qas|apply qlc|apply qla|apply qfa|apply qnc|apply qic|apply qix|apply qpk|apply qls|apply qei|apply qni|apply qed|apply qnd|apply qad|apply qln|apply qle|apply qgt|apply qge|apply qlk|apply qlv|apply qxt|apply qsb|apply qnt|apply qep|apply qnp|apply qeb|apply qnb|apply qcv|apply qlm|apply qfr|apply qto|apply qmx|apply qen|apply qsn|apply qx0)<;>(first|exact rfl|exact Ar.mk (by omega)|assumption|exact dct (by assumption)|exact dcf (by assumption)|exact dct (by omega)|exact dcf (by omega)|exact List.not_mem_nil|exact dc_length _|exact nc_length _|exact rc_length _ _ _|exact nm1 (by omega)|exact nm2 (by omega) (by omega)|exact dct rfl|exact dct (by decide)|exact dcf (by decide)|exact (Int.toNat_of_nonneg (by omega)).symm|exact dcu|exact lk1 (by assumption)|exact lk0 (by assumption)))|fail) ?_)
  have hR7 : Rep w7 bt bm ⟨2, 2, 2, [⟨0, 1, [120], 2⟩], List.replicate 256 false⟩ due7 := hR7
  refine SG.call rfl rfl rfl (by repeat' (first | exact True.intro | exact rho_of rfl | refine And.intro ?_ ?_)) ((step_spec hR7 (by decide) (by decide) (by decide)).mono (fun e w8 h => ?_))
  obtain ⟨v8, due8, l8, he8, ho8, hl8, hb8', hR8, hU8, hk8⟩ := h
  refine ⟨_, he8, ?_⟩
  have hR8 : Rep w8 bt bm ⟨2, 3, 2, [], List.replicate 256 false⟩ due8 := hR8
  obtain ⟨a6, c6, rfl⟩ := one_of (f := 0) (t := 1) (bs := [120]) hl6
  obtain ⟨a8, c8, rfl⟩ := one_of (f := 0) (t := 1) (bs := [120]) hl8
  have h7 : l7 = [] := List.map_eq_nil_iff.1 (hl7.trans rfl)
  subst h7
  have eT := hR5.blk.lt
  have eM := hR5.map.lt
  have nb6 := own_nb ho6
  have k78 : Kp [bt, bm] w6 w8 := hk7.trans hk8
  have ho6 := own_kp ho6 k78 (fun b hb hm => by
    rcases List.mem_cons.1 hm with rfl | hm
    · exact nb6 _ eT (mem_ownB.2 hb)
    · rw [List.mem_singleton] at hm
      subst hm
      exact nb6 _ eM (mem_ownB.2 hb))
  obtain ⟨p6, q6, rfl, hS6⟩ := SlF.own (n := 1) lcl_length ho6 rfl
  obtain ⟨p7, q7, rfl, hS7⟩ := SlF.own (n := 0) lcl_length ho7 rfl
  obtain ⟨p8, q8, rfl, hS8⟩ := SlF.own (n := 1) lcl_length ho8 rfl
  obtain ⟨g6, o6, rfl, hr6⟩ := hS6.sl.at (i := 0) (Nat.zero_lt_one)
  have hr6 : Row w8 g6 o6 [.int .i64 0, .int .i64 1, .slice a6 1 c6] := hr6
  have hr61 : Row w8 g6 (o6 + 1) [.int .i64 1] := Row.sub [.int .i64 0] _ [.slice a6 1 c6] hr6
  have hr62 : Row w8 g6 (o6 + 2) [.slice a6 1 c6] := Row.sub [.int .i64 0, .int .i64 1] _ [] hr6
  have hSb6 : Sl (fun u : UInt8 => [bv u]) 1 w8 a6 [120] := by
    obtain ⟨hby, hfr⟩ := hb6 _ (List.mem_singleton.2 rfl)
    exact (hby.kp k78 (fun b off e => nm2 (by have := hfr b off e; omega) (by have := hfr b off e; omega))).sl
  repeat (first | first|apply CG.seq|apply CG.region|apply SG.nil|apply NG.next|apply CG.skip|apply CG.block|apply CG.ret|apply CG.exit|apply CG.scope|apply NG.ret_then|apply NG.ret_block|apply NG.ret_scope|apply NG.exit_then|refine NG.exit_block rfl ?_|refine NG.exit_other rfl ?_|apply NG.exit_scope|apply NG.normal_block|apply NG.normal_scope|refine SG.val rfl rfl rfl rfl (by first|((first|apply qmv|apply qas|apply qlc|apply qla|apply qfa|apply qnc|apply qic|apply qix|apply qpk|apply qls|apply qei|apply qni|apply qed|apply qnd|apply qad|apply qln|apply qle|apply qgt|apply qge|apply qlk|apply qlv|apply qxt|apply qsb|apply qnt|apply qep|apply qnp|apply qeb|apply qnb|apply qcv|apply qlm|apply qfr|apply qto|apply qmx|apply qen|apply qsn|apply qx0)<;>(first|exact rfl|exact Ar.mk (by omega)|assumption|exact dct (by assumption)|exact dcf (by assumption)|exact dct (by omega)|exact dcf (by omega)|exact List.not_mem_nil|exact dc_length _|exact nc_length _|exact rc_length _ _ _|exact nm1 (by omega)|exact nm2 (by omega) (by omega)|exact dct rfl|exact dct (by decide)|exact dcf (by decide)|exact (Int.toNat_of_nonneg (by omega)).symm|exact dcu|exact lk1 (by assumption)|exact lk0 (by assumption)))|fail) ?_ | refine SG.skip rfl rfl ?_)
  refine SG.val rfl rfl rfl rfl (qbs rfl hSb6 rfl (fun _ _ _ => List.not_mem_nil)) ?_
  refine SG.val rfl rfl rfl rfl (qes (a := [120]) (b := [120]) rfl rfl (dct rfl)) ?_
  repeat (first | first|apply CG.seq|apply CG.region|apply SG.nil|apply NG.next|apply CG.skip|apply CG.block|apply CG.ret|apply CG.exit|apply CG.scope|apply NG.ret_then|apply NG.ret_block|apply NG.ret_scope|apply NG.exit_then|refine NG.exit_block rfl ?_|refine NG.exit_other rfl ?_|apply NG.exit_scope|apply NG.normal_block|apply NG.normal_scope|refine SG.val rfl rfl rfl rfl (by first|((first|apply qmv|apply qas|apply qlc|apply qla|apply qfa|apply qnc|apply qic|apply qix|apply qpk|apply qls|apply qei|apply qni|apply qed|apply qnd|apply qad|apply qln|apply qle|apply qgt|apply qge|apply qlk|apply qlv|apply qxt|apply qsb|apply qnt|apply qep|apply qnp|apply qeb|apply qnb|apply qcv|apply qlm|apply qfr|apply qto|apply qmx|apply qen|apply qsn|apply qx0)<;>(first|exact rfl|exact Ar.mk (by omega)|assumption|exact dct (by assumption)|exact dcf (by assumption)|exact dct (by omega)|exact dcf (by omega)|exact List.not_mem_nil|exact dc_length _|exact nc_length _|exact rc_length _ _ _|exact nm1 (by omega)|exact nm2 (by omega) (by omega)|exact dct rfl|exact dct (by decide)|exact dcf (by decide)|exact (Int.toNat_of_nonneg (by omega)).symm|exact dcu|exact lk1 (by assumption)|exact lk0 (by assumption)))|fail) ?_ | refine SG.skip rfl rfl ?_)
  refine SG.ret rfl rfl rfl (by repeat' (first | exact True.intro | exact rho_of rfl | refine And.intro ?_ ?_)) (now_spec hR8) (fun w9 hk9 => ?_)
  have hR9 := hR8.kp0 hk9
  repeat (first | first|apply CG.seq|apply CG.region|apply SG.nil|apply NG.next|apply CG.skip|apply CG.block|apply CG.ret|apply CG.exit|apply CG.scope|apply NG.ret_then|apply NG.ret_block|apply NG.ret_scope|apply NG.exit_then|refine NG.exit_block rfl ?_|refine NG.exit_other rfl ?_|apply NG.exit_scope|apply NG.normal_block|apply NG.normal_scope|refine SG.val rfl rfl rfl rfl (by first|((first|apply qmv|apply qas|apply qlc|apply qla|apply qfa|apply qnc|apply qic|apply qix|apply qpk|apply qls|apply qei|apply qni|apply qed|apply qnd|apply qad|apply qln|apply qle|apply qgt|apply qge|apply qlk|apply qlv|apply qxt|apply qsb|apply qnt|apply qep|apply qnp|apply qeb|apply qnb|apply qcv|apply qlm|apply qfr|apply qto|apply qmx|apply qen|apply qsn|apply qx0)<;>(first|exact rfl|exact Ar.mk (by omega)|assumption|exact dct (by assumption)|exact dcf (by assumption)|exact dct (by omega)|exact dcf (by omega)|exact List.not_mem_nil|exact dc_length _|exact nc_length _|exact rc_length _ _ _|exact nm1 (by omega)|exact nm2 (by omega) (by omega)|exact dct rfl|exact dct (by decide)|exact dcf (by decide)|exact (Int.toNat_of_nonneg (by omega)).symm|exact dcu|exact lk1 (by assumption)|exact lk0 (by assumption)))|fail) ?_ | refine SG.skip rfl rfl ?_)
  refine SG.ret rfl rfl rfl (by repeat' (first | exact True.intro | exact rho_of rfl | refine And.intro ?_ ?_)) (way_spec hR9) (fun w10 hk10 => ?_)
  repeat (first | first|apply CG.seq|apply CG.region|apply SG.nil|apply NG.next|apply CG.skip|apply CG.block|apply CG.ret|apply CG.exit|apply CG.scope|apply NG.ret_then|apply NG.ret_block|apply NG.ret_scope|apply NG.exit_then|refine NG.exit_block rfl ?_|refine NG.exit_other rfl ?_|apply NG.exit_scope|apply NG.normal_block|apply NG.normal_scope|refine SG.val rfl rfl rfl rfl (by first|((first|apply qmv|apply qas|apply qlc|apply qla|apply qfa|apply qnc|apply qic|apply qix|apply qpk|apply qls|apply qei|apply qni|apply qed|apply qnd|apply qad|apply qln|apply qle|apply qgt|apply qge|apply qlk|apply qlv|apply qxt|apply qsb|apply qnt|apply qep|apply qnp|apply qeb|apply qnb|apply qcv|apply qlm|apply qfr|apply qto|apply qmx|apply qen|apply qsn|apply qx0)<;>(first|exact rfl|exact Ar.mk (by omega)|assumption|exact dct (by assumption)|exact dcf (by assumption)|exact dct (by omega)|exact dcf (by omega)|exact List.not_mem_nil|exact dc_length _|exact nc_length _|exact rc_length _ _ _|exact nm1 (by omega)|exact nm2 (by omega) (by omega)|exact dct rfl|exact dct (by decide)|exact dcf (by decide)|exact (Int.toNat_of_nonneg (by omega)).symm|exact dcu|exact lk1 (by assumption)|exact lk0 (by assumption)))|fail) ?_ | refine SG.skip rfl rfl ?_)
  refine ret1 (Or.inl rfl) Try.results12 (by first | exact ResV.tmp rfl | exact ResV.agg rfl rfl (by assumption) (by first | exact dc_length _ | exact nc_length _ | exact rc_length _ _ _ | rfl) | exact ResV.cell rfl rfl (by assumption)) ?_
  refine ⟨rfl, ?_⟩
  have hn : ∀ x ∈ [bt, bm], x ∈ ([] : List Nat) ∨ w.heap.size ≤ x := new2 hbt hbm
  have k5 : Kp [] w w5 := ((hk1.trans hk3).trans hk4).trans_new hk5 hn
  exact (((k5.trans_new hk6 hn).trans_new k78 hn).trans hk9).trans hk10
end Go.Proofs.Ytfelaicoedlejaa
