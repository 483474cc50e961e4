import Derived.Test.YtnoipmimddoioaaGreatQp2
namespace Go.Proofs.YtnoipmimddoioaaGreat
open Go.Proofs Go.Shelf Go.Sort
set_option linter.unusedVariables false
theorem sl_ic {w : World} {b : Nat} {T : TypeId} {zs : List Int} (h : Blk w b (.cells (flt ic zs).toArray T)) : Sl ic 1 w (some ⟨b, 0, none⟩) zs := flt_rowf ic_len h
theorem cmpD_lt {a b : Dg} : cmpD a b < 0 ↔ num a < num b := cmpN_lt
theorem cmpD_eq (a b : Dg) : cmpD a b = cmpN (num a) (num b) := rfl
attribute [local irreducible] CG NG SG Vals Der Row Blk MapIs IterAt addI xorI orI andI shlI shrI mulI twoI cmpD cmpW kW
set_option maxHeartbeats 16000000 in
theorem nan_spec (x : Int) (w : World) : Ret Tryz.prog 84 #[.int .u64 x] w (.bool false) := by
  refine enter1 Tryz.func84 rfl Tryz.ntmps84 rfl ?_
  have g : x = x := rfl
  repeat (first|apply cA|apply cB|apply cD|apply cE|apply cF|apply cG|apply cH|apply cJ|apply cM|apply cN|apply cU|refine cV rfl ?_|apply cY|refine cZ rfl rfl rfl rfl (by first|((first|apply qmv|apply qas|apply qlc|apply qla|apply qix|apply qls|apply qni|apply qad|apply qln|apply qgt)<;>(first|exact rfl|assumption|exact Ar.mk (by omega)|exact dct (by first|assumption|omega)|exact dcf (by first|assumption|omega)|exact List.not_mem_nil|apply dc_length|fail))|fail) ?_)
  refine ret1 (Or.inl rfl) Tryz.results84 (by first | exact ResV.tmp rfl | exact ResV.agg rfl rfl (by assumption) (by first | exact dc_length _ | exact nc_length _ | exact rc_length _ _ _ | exact ec_length _ | exact dl_length _ _ _ _ | rfl) | exact ResV.cell rfl rfl (by assumption)) ?_
  exact ⟨by simp, Kp.refl _ _⟩
set_option maxHeartbeats 16000000 in
theorem compare_spec (x y : Nat) (w : World) : Ret Tryz.prog 58 #[.int .u64 (x : Int), .int .u64 (y : Int)] w (.int .i64 (cmpN x y)) := by
  refine enter2 Tryz.func58 rfl Tryz.ntmps58 rfl ?_
  unfold cmpN
  repeat (first|apply cA|apply cB|apply cD|apply cE|apply cF|apply cG|apply cH|apply cJ|apply cM|apply cN|apply cU|refine cV rfl ?_|apply cY|refine cZ rfl rfl rfl rfl (by first|((first|apply qmv|apply qas|apply qlc|apply qla|apply qix|apply qls|apply qni|apply qad|apply qln|apply qgt)<;>(first|exact rfl|assumption|exact Ar.mk (by omega)|exact dct (by first|assumption|omega)|exact dcf (by first|assumption|omega)|exact List.not_mem_nil|apply dc_length|fail))|fail) ?_)
  refine SG.ret rfl rfl rfl (by repeat' (first | exact True.intro | exact rho_of rfl | refine And.intro ?_ ?_)) (nan_spec x w) (fun w1 hk1 => ?_)
  repeat (first|apply cA|apply cB|apply cD|apply cE|apply cF|apply cG|apply cH|apply cJ|apply cM|apply cN|apply cU|refine cV rfl ?_|apply cY|refine cZ rfl rfl rfl rfl (by first|((first|apply qmv|apply qas|apply qlc|apply qla|apply qix|apply qls|apply qni|apply qad|apply qln|apply qgt)<;>(first|exact rfl|assumption|exact Ar.mk (by omega)|exact dct (by first|assumption|omega)|exact dcf (by first|assumption|omega)|exact List.not_mem_nil|apply dc_length|fail))|fail) ?_)
  refine SG.ret rfl rfl rfl (by repeat' (first | exact True.intro | exact rho_of rfl | refine And.intro ?_ ?_)) (nan_spec y w1) (fun w2 hk2 => ?_)
  have k2 := hk1.trans hk2
  repeat (first|apply cA|apply cB|apply cD|apply cE|apply cF|apply cG|apply cH|apply cJ|apply cM|apply cN|apply cU|refine cV rfl ?_|apply cY|refine cZ rfl rfl rfl rfl (by first|((first|apply qmv|apply qas|apply qlc|apply qla|apply qix|apply qls|apply qni|apply qad|apply qln|apply qgt)<;>(first|exact rfl|assumption|exact Ar.mk (by omega)|exact dct (by first|assumption|omega)|exact dcf (by first|assumption|omega)|exact List.not_mem_nil|apply dc_length|fail))|fail) ?_)
  refine dE rfl (by exact rho_of rfl) rfl ?_
  repeat (first|apply cA|apply cB|apply cD|apply cE|apply cF|apply cG|apply cH|apply cJ|apply cM|apply cN|apply cU|refine cV rfl ?_|apply cY|refine cZ rfl rfl rfl rfl (by first|((first|apply qmv|apply qas|apply qlc|apply qla|apply qix|apply qls|apply qni|apply qad|apply qln|apply qgt)<;>(first|exact rfl|assumption|exact Ar.mk (by omega)|exact dct (by first|assumption|omega)|exact dcf (by first|assumption|omega)|exact List.not_mem_nil|apply dc_length|fail))|fail) ?_)
  refine dE rfl (by exact rho_of rfl) rfl ?_
  by_cases h1 : x < y
  · have g1 : (x : Int) < (y : Int) := by omega
    rw [if_pos h1]
    repeat (first|apply cA|apply cB|apply cD|apply cE|apply cF|apply cG|apply cH|apply cJ|apply cM|apply cN|apply cU|refine cV rfl ?_|apply cY|refine cZ rfl rfl rfl rfl (by first|((first|apply qmv|apply qas|apply qlc|apply qla|apply qix|apply qls|apply qni|apply qad|apply qln|apply qgt)<;>(first|exact rfl|assumption|exact Ar.mk (by omega)|exact dct (by first|assumption|omega)|exact dcf (by first|assumption|omega)|exact List.not_mem_nil|apply dc_length|fail))|fail) ?_)
    refine dD rfl (by exact rho_of rfl) rfl ?_
    repeat (first|apply cA|apply cB|apply cD|apply cE|apply cF|apply cG|apply cH|apply cJ|apply cM|apply cN|apply cU|refine cV rfl ?_|apply cY|refine cZ rfl rfl rfl rfl (by first|((first|apply qmv|apply qas|apply qlc|apply qla|apply qix|apply qls|apply qni|apply qad|apply qln|apply qgt)<;>(first|exact rfl|assumption|exact Ar.mk (by omega)|exact dct (by first|assumption|omega)|exact dcf (by first|assumption|omega)|exact List.not_mem_nil|apply dc_length|fail))|fail) ?_)
    refine ret1 (Or.inl rfl) Tryz.results58 (by first | exact ResV.tmp rfl | exact ResV.agg rfl rfl (by assumption) (by first | exact dc_length _ | exact nc_length _ | exact rc_length _ _ _ | exact ec_length _ | exact dl_length _ _ _ _ | rfl) | exact ResV.cell rfl rfl (by assumption)) ?_
    exact ⟨rfl, k2⟩
  · have g1 : ¬ (x : Int) < (y : Int) := by omega
    rw [if_neg h1]
    by_cases h2 : y < x
    · have g2 : (y : Int) < (x : Int) := by omega
      rw [if_pos h2]
      repeat (first|apply cA|apply cB|apply cD|apply cE|apply cF|apply cG|apply cH|apply cJ|apply cM|apply cN|apply cU|refine cV rfl ?_|apply cY|refine cZ rfl rfl rfl rfl (by first|((first|apply qmv|apply qas|apply qlc|apply qla|apply qix|apply qls|apply qni|apply qad|apply qln|apply qgt)<;>(first|exact rfl|assumption|exact Ar.mk (by omega)|exact dct (by first|assumption|omega)|exact dcf (by first|assumption|omega)|exact List.not_mem_nil|apply dc_length|fail))|fail) ?_)
      refine dE rfl (by exact rho_of rfl) rfl ?_
      repeat (first|apply cA|apply cB|apply cD|apply cE|apply cF|apply cG|apply cH|apply cJ|apply cM|apply cN|apply cU|refine cV rfl ?_|apply cY|refine cZ rfl rfl rfl rfl (by first|((first|apply qmv|apply qas|apply qlc|apply qla|apply qix|apply qls|apply qni|apply qad|apply qln|apply qgt)<;>(first|exact rfl|assumption|exact Ar.mk (by omega)|exact dct (by first|assumption|omega)|exact dcf (by first|assumption|omega)|exact List.not_mem_nil|apply dc_length|fail))|fail) ?_)
      refine dD rfl (by exact rho_of rfl) rfl ?_
      repeat (first|apply cA|apply cB|apply cD|apply cE|apply cF|apply cG|apply cH|apply cJ|apply cM|apply cN|apply cU|refine cV rfl ?_|apply cY|refine cZ rfl rfl rfl rfl (by first|((first|apply qmv|apply qas|apply qlc|apply qla|apply qix|apply qls|apply qni|apply qad|apply qln|apply qgt)<;>(first|exact rfl|assumption|exact Ar.mk (by omega)|exact dct (by first|assumption|omega)|exact dcf (by first|assumption|omega)|exact List.not_mem_nil|apply dc_length|fail))|fail) ?_)
      refine ret1 (Or.inl rfl) Tryz.results58 (by first | exact ResV.tmp rfl | exact ResV.agg rfl rfl (by assumption) (by first | exact dc_length _ | exact nc_length _ | exact rc_length _ _ _ | exact ec_length _ | exact dl_length _ _ _ _ | rfl) | exact ResV.cell rfl rfl (by assumption)) ?_
      exact ⟨rfl, k2⟩
    · have g2 : ¬ (y : Int) < (x : Int) := by omega
      rw [if_neg h2]
      repeat (first|apply cA|apply cB|apply cD|apply cE|apply cF|apply cG|apply cH|apply cJ|apply cM|apply cN|apply cU|refine cV rfl ?_|apply cY|refine cZ rfl rfl rfl rfl (by first|((first|apply qmv|apply qas|apply qlc|apply qla|apply qix|apply qls|apply qni|apply qad|apply qln|apply qgt)<;>(first|exact rfl|assumption|exact Ar.mk (by omega)|exact dct (by first|assumption|omega)|exact dcf (by first|assumption|omega)|exact List.not_mem_nil|apply dc_length|fail))|fail) ?_)
      refine dE rfl (by exact rho_of rfl) rfl ?_
      repeat (first|apply cA|apply cB|apply cD|apply cE|apply cF|apply cG|apply cH|apply cJ|apply cM|apply cN|apply cU|refine cV rfl ?_|apply cY|refine cZ rfl rfl rfl rfl (by first|((first|apply qmv|apply qas|apply qlc|apply qla|apply qix|apply qls|apply qni|apply qad|apply qln|apply qgt)<;>(first|exact rfl|assumption|exact Ar.mk (by omega)|exact dct (by first|assumption|omega)|exact dcf (by first|assumption|omega)|exact List.not_mem_nil|apply dc_length|fail))|fail) ?_)
      refine dE rfl (by exact rho_of rfl) rfl ?_
      repeat (first|apply cA|apply cB|apply cD|apply cE|apply cF|apply cG|apply cH|apply cJ|apply cM|apply cN|apply cU|refine cV rfl ?_|apply cY|refine cZ rfl rfl rfl rfl (by first|((first|apply qmv|apply qas|apply qlc|apply qla|apply qix|apply qls|apply qni|apply qad|apply qln|apply qgt)<;>(first|exact rfl|assumption|exact Ar.mk (by omega)|exact dct (by first|assumption|omega)|exact dcf (by first|assumption|omega)|exact List.not_mem_nil|apply dc_length|fail))|fail) ?_)
      refine ret1 (Or.inl rfl) Tryz.results58 (by first | exact ResV.tmp rfl | exact ResV.agg rfl rfl (by assumption) (by first | exact dc_length _ | exact nc_length _ | exact rc_length _ _ _ | exact ec_length _ | exact dl_length _ _ _ _ | rfl) | exact ResV.cell rfl rfl (by assumption)) ?_
      exact ⟨rfl, k2⟩
set_option maxHeartbeats 16000000 in
theorem byn_spec (a b : Dg) (w : World) : Ret Tryz.prog 41 #[dv a, dv b] w (.int .i64 (cmpD a b)) := by
  rw [cmpD_eq]
  refine enter2 Tryz.func41 rfl Tryz.ntmps41 rfl ?_
  repeat (first|apply cA|apply cB|apply cD|apply cE|apply cF|apply cG|apply cH|apply cJ|apply cM|apply cN|apply cU|refine cV rfl ?_|apply cY|refine cZ rfl rfl rfl rfl (by first|((first|apply qmv|apply qas|apply qlc|apply qla|apply qix|apply qls|apply qni|apply qad|apply qln|apply qgt)<;>(first|exact rfl|assumption|exact Ar.mk (by omega)|exact dct (by first|assumption|omega)|exact dcf (by first|assumption|omega)|exact List.not_mem_nil|apply dc_length|fail))|fail) ?_)
  refine SG.box rfl rfl rfl (by exact rho_of rfl) (fun b1 w1 hk1 hb1 hB1 => ?_)
  have hB1 : Blk w1 b1 (.cells (dc a).toArray 39) := hB1
  refine SG.box rfl rfl rfl (by exact rho_of rfl) (fun b2 w2 hk2 hb2 hB2 => ?_)
  have hB2 : Blk w2 b2 (.cells (dc b).toArray 39) := hB2
  have r1 := (Row.all (l := dc a) hB1 rfl).kp0 hk2
  have r2 := Row.all (l := dc b) hB2 rfl
  repeat (first|apply cA|apply cB|apply cD|apply cE|apply cF|apply cG|apply cH|apply cJ|apply cM|apply cN|apply cU|refine cV rfl ?_|apply cY|refine cZ rfl rfl rfl rfl (by first|((first|apply qmv|apply qas|apply qlc|apply qla|apply qix|apply qls|apply qni|apply qad|apply qln|apply qgt)<;>(first|exact rfl|assumption|exact Ar.mk (by omega)|exact dct (by first|assumption|omega)|exact dcf (by first|assumption|omega)|exact List.not_mem_nil|apply dc_length|fail))|fail) ?_)
  refine CG.draw0 mixed [0, 1, 2, 3, 4, 5] [] (by kernel_rfl) ?_
  repeat (refine dB rfl rfl rfl (by first|((first|apply qmv|apply qas|apply qlc|apply qla|apply qix|apply qls|apply qni|apply qad|apply qln|apply qgt)<;>(first|exact rfl|assumption|exact Ar.mk (by omega)|exact dct (by first|assumption|omega)|exact dcf (by first|assumption|omega)|exact List.not_mem_nil|apply dc_length|fail))|fail) ?_)
  refine Der.call rfl rfl rfl (vs := [dv a]) (by repeat' (first | exact True.intro | exact rho_of rfl | refine And.intro ?_ ?_)) (fun w _ _ => num_spec a w) ?_
  repeat (refine dB rfl rfl rfl (by first|((first|apply qmv|apply qas|apply qlc|apply qla|apply qix|apply qls|apply qni|apply qad|apply qln|apply qgt)<;>(first|exact rfl|assumption|exact Ar.mk (by omega)|exact dct (by first|assumption|omega)|exact dcf (by first|assumption|omega)|exact List.not_mem_nil|apply dc_length|fail))|fail) ?_)
  refine Der.call rfl rfl rfl (vs := [dv b]) (by repeat' (first | exact True.intro | exact rho_of rfl | refine And.intro ?_ ?_)) (fun w _ _ => num_spec b w) ?_
  refine Der.call rfl rfl rfl (vs := [.int .u64 (num a : Int), .int .u64 (num b : Int)]) (by repeat' (first | exact True.intro | exact rho_of rfl | refine And.intro ?_ ?_)) (fun w _ _ => compare_spec (num a) (num b) w) ?_
  repeat (refine dB rfl rfl rfl (by first|((first|apply qmv|apply qas|apply qlc|apply qla|apply qix|apply qls|apply qni|apply qad|apply qln|apply qgt)<;>(first|exact rfl|assumption|exact Ar.mk (by omega)|exact dct (by first|assumption|omega)|exact dcf (by first|assumption|omega)|exact List.not_mem_nil|apply dc_length|fail))|fail) ?_)
  refine Der.fin (fun w3 hk3 _ _ => ?_)
  repeat (first|apply cA|apply cB|apply cD|apply cE|apply cF|apply cG|apply cH|apply cJ|apply cM|apply cN|apply cU|refine cV rfl ?_|apply cY|refine cZ rfl rfl rfl rfl (by first|((first|apply qmv|apply qas|apply qlc|apply qla|apply qix|apply qls|apply qni|apply qad|apply qln|apply qgt)<;>(first|exact rfl|assumption|exact Ar.mk (by omega)|exact dct (by first|assumption|omega)|exact dcf (by first|assumption|omega)|exact List.not_mem_nil|apply dc_length|fail))|fail) ?_)
  refine ret1 (Or.inl rfl) Tryz.results41 (by first | exact ResV.tmp rfl | exact ResV.agg rfl rfl (by assumption) (by first | exact dc_length _ | exact nc_length _ | exact rc_length _ _ _ | exact ec_length _ | exact dl_length _ _ _ _ | rfl) | exact ResV.cell rfl rfl (by assumption)) ?_
  exact ⟨rfl, (hk1.trans hk2).trans hk3⟩
theorem firstNZ_drop : ∀ (zs : List Int) (i : Nat) (h : i < zs.length), firstNZ (zs.drop i) = if zs[i] = 0 then firstNZ (zs.drop (i + 1)) else zs[i]
  | zs, i, h => by
    rw [List.drop_eq_getElem_cons h, firstNZ]
set_option maxHeartbeats 16000000 in
theorem or_spec {w : World} {a : Option Addr} {c : Nat} {zs : List Int} (hS : Sl ic 1 w a zs) (hl : zs.length ≤ 1000) : Ret Tryz.prog 40 #[.slice a zs.length c] w (.int .i64 (firstNZ zs)) := by
  refine enter1 Tryz.func40 rfl Tryz.ntmps40 rfl ?_
  repeat (first|apply cA|apply cB|apply cD|apply cE|apply cF|apply cG|apply cH|apply cJ|apply cM|apply cN|apply cU|refine cV rfl ?_|apply cY|refine cZ rfl rfl rfl rfl (by first|((first|apply qmv|apply qas|apply qlc|apply qla|apply qix|apply qls|apply qni|apply qad|apply qln|apply qgt)<;>(first|exact rfl|assumption|exact Ar.mk (by omega)|exact dct (by first|assumption|omega)|exact dcf (by first|assumption|omega)|exact List.not_mem_nil|apply dc_length|fail))|fail) ?_)
  refine CG.loop (X := Nat) (fun i => [(3, .int .i64 0), (6, .slice a zs.length c), (7, .int .i64 (zs.length : Int)), (8, .int .i64 (i : Int))]) (fun i w' => i ≤ zs.length ∧ Kp [] w w' ∧ firstNZ (zs.drop i) = firstNZ zs) (fun i => zs.length - i) 0 ⟨by omega, Kp.refl _ _, rfl⟩ (by (repeat' (first | exact True.intro | exact rfl | refine And.intro ?_ ?_))) ?_
  rintro i w1 ⟨hi, hk, he⟩
  by_cases hlt : i < zs.length
  · have g1 : (i : Int) < (zs.length : Int) := by omega
    obtain ⟨b1, o1, rfl, hr1⟩ := (hS.kp0 hk).at hlt
    rw [firstNZ_drop zs i hlt] at he
    by_cases hz : zs[i] = 0
    · rw [if_pos hz] at he
      repeat (first|apply cA|apply cB|apply cD|apply cE|apply cF|apply cG|apply cH|apply cJ|apply cM|apply cN|apply cU|refine cV rfl ?_|apply cY|refine cZ rfl rfl rfl rfl (by first|((first|apply qmv|apply qas|apply qlc|apply qla|apply qix|apply qls|apply qni|apply qad|apply qln|apply qgt)<;>(first|exact rfl|assumption|exact Ar.mk (by omega)|exact dct (by first|assumption|omega)|exact dcf (by first|assumption|omega)|exact List.not_mem_nil|apply dc_length|fail))|fail) ?_)
      refine dD rfl (by exact rho_of rfl) rfl ?_
      repeat (first|apply cA|apply cB|apply cD|apply cE|apply cF|apply cG|apply cH|apply cJ|apply cM|apply cN|apply cU|refine cV rfl ?_|apply cY|refine cZ rfl rfl rfl rfl (by first|((first|apply qmv|apply qas|apply qlc|apply qla|apply qix|apply qls|apply qni|apply qad|apply qln|apply qgt)<;>(first|exact rfl|assumption|exact Ar.mk (by omega)|exact dct (by first|assumption|omega)|exact dcf (by first|assumption|omega)|exact List.not_mem_nil|apply dc_length|fail))|fail) ?_)
      refine dE rfl (by exact rho_of rfl) rfl ?_
      repeat (first|apply cA|apply cB|apply cD|apply cE|apply cF|apply cG|apply cH|apply cJ|apply cM|apply cN|apply cU|refine cV rfl ?_|apply cY|refine cZ rfl rfl rfl rfl (by first|((first|apply qmv|apply qas|apply qlc|apply qla|apply qix|apply qls|apply qni|apply qad|apply qln|apply qgt)<;>(first|exact rfl|assumption|exact Ar.mk (by omega)|exact dct (by first|assumption|omega)|exact dcf (by first|assumption|omega)|exact List.not_mem_nil|apply dc_length|fail))|fail) ?_)
      refine NG.round (i + 1) (by (repeat' (first | exact True.intro | exact rfl | refine And.intro ?_ ?_))) ⟨by omega, hk, he⟩ (by omega)
    · rw [if_neg hz] at he
      repeat (first|apply cA|apply cB|apply cD|apply cE|apply cF|apply cG|apply cH|apply cJ|apply cM|apply cN|apply cU|refine cV rfl ?_|apply cY|refine cZ rfl rfl rfl rfl (by first|((first|apply qmv|apply qas|apply qlc|apply qla|apply qix|apply qls|apply qni|apply qad|apply qln|apply qgt)<;>(first|exact rfl|assumption|exact Ar.mk (by omega)|exact dct (by first|assumption|omega)|exact dcf (by first|assumption|omega)|exact List.not_mem_nil|apply dc_length|fail))|fail) ?_)
      refine dD rfl (by exact rho_of rfl) rfl ?_
      repeat (first|apply cA|apply cB|apply cD|apply cE|apply cF|apply cG|apply cH|apply cJ|apply cM|apply cN|apply cU|refine cV rfl ?_|apply cY|refine cZ rfl rfl rfl rfl (by first|((first|apply qmv|apply qas|apply qlc|apply qla|apply qix|apply qls|apply qni|apply qad|apply qln|apply qgt)<;>(first|exact rfl|assumption|exact Ar.mk (by omega)|exact dct (by first|assumption|omega)|exact dcf (by first|assumption|omega)|exact List.not_mem_nil|apply dc_length|fail))|fail) ?_)
      refine dD rfl (by exact rho_of rfl) rfl ?_
      repeat (first|apply cA|apply cB|apply cD|apply cE|apply cF|apply cG|apply cH|apply cJ|apply cM|apply cN|apply cU|refine cV rfl ?_|apply cY|refine cZ rfl rfl rfl rfl (by first|((first|apply qmv|apply qas|apply qlc|apply qla|apply qix|apply qls|apply qni|apply qad|apply qln|apply qgt)<;>(first|exact rfl|assumption|exact Ar.mk (by omega)|exact dct (by first|assumption|omega)|exact dcf (by first|assumption|omega)|exact List.not_mem_nil|apply dc_length|fail))|fail) ?_)
      refine ret1 (Or.inl rfl) Tryz.results40 (by first | exact ResV.tmp rfl | exact ResV.agg rfl rfl (by assumption) (by first | exact dc_length _ | exact nc_length _ | exact rc_length _ _ _ | exact ec_length _ | exact dl_length _ _ _ _ | rfl) | exact ResV.cell rfl rfl (by assumption)) ?_
      rw [← he]
      exact ⟨rfl, hk⟩
  · have g1 : ¬ (i : Int) < (zs.length : Int) := by omega
    rw [List.drop_of_length_le (by omega)] at he
    repeat (first|apply cA|apply cB|apply cD|apply cE|apply cF|apply cG|apply cH|apply cJ|apply cM|apply cN|apply cU|refine cV rfl ?_|apply cY|refine cZ rfl rfl rfl rfl (by first|((first|apply qmv|apply qas|apply qlc|apply qla|apply qix|apply qls|apply qni|apply qad|apply qln|apply qgt)<;>(first|exact rfl|assumption|exact Ar.mk (by omega)|exact dct (by first|assumption|omega)|exact dcf (by first|assumption|omega)|exact List.not_mem_nil|apply dc_length|fail))|fail) ?_)
    refine dE rfl (by exact rho_of rfl) rfl ?_
    repeat (first|apply cA|apply cB|apply cD|apply cE|apply cF|apply cG|apply cH|apply cJ|apply cM|apply cN|apply cU|refine cV rfl ?_|apply cY|refine cZ rfl rfl rfl rfl (by first|((first|apply qmv|apply qas|apply qlc|apply qla|apply qix|apply qls|apply qni|apply qad|apply qln|apply qgt)<;>(first|exact rfl|assumption|exact Ar.mk (by omega)|exact dct (by first|assumption|omega)|exact dcf (by first|assumption|omega)|exact List.not_mem_nil|apply dc_length|fail))|fail) ?_)
    refine ret1 (Or.inl rfl) Tryz.results40 (by first | exact ResV.tmp rfl | exact ResV.agg rfl rfl (by assumption) (by first | exact dc_length _ | exact nc_length _ | exact rc_length _ _ _ | exact ec_length _ | exact dl_length _ _ _ _ | rfl) | exact ResV.cell rfl rfl (by assumption)) ?_
    rw [← he]
    exact ⟨rfl, hk⟩
set_option maxHeartbeats 16000000 in
theorem cmpw_spec {w : World} {bm : Nat} {m : Dg} (hm : Row w bm 0 (dc m)) (a b : Dg) : Ret Tryz.prog 39 #[dv a, dv b, .pointer (some ⟨bm, 0, none⟩)] w (.int .i64 (cmpW m a b)) := by
  rw [cmpW_eq]
  have hc1 := fun w => byn_spec (twoI m a) (twoI m b) w
  have hc2 := fun w => byn_spec a b w
  generalize cmpD (twoI m a) (twoI m b) = z1 at hc1 ⊢
  generalize cmpD a b = z2 at hc2 ⊢
  refine enter3 Tryz.func39 rfl Tryz.ntmps39 rfl ?_
  repeat (first|apply cA|apply cB|apply cD|apply cE|apply cF|apply cG|apply cH|apply cJ|apply cM|apply cN|apply cU|refine cV rfl ?_|apply cY|refine cZ rfl rfl rfl rfl (by first|((first|apply qmv|apply qas|apply qlc|apply qla|apply qix|apply qls|apply qni|apply qad|apply qln|apply qgt)<;>(first|exact rfl|assumption|exact Ar.mk (by omega)|exact dct (by first|assumption|omega)|exact dcf (by first|assumption|omega)|exact List.not_mem_nil|apply dc_length|fail))|fail) ?_)
  refine SG.box rfl rfl rfl (by exact rho_of rfl) (fun b1 w1 hk1 hb1 hB1 => ?_)
  have hB1 : Blk w1 b1 (.cells (dc a).toArray 39) := hB1
  refine SG.box rfl rfl rfl (by exact rho_of rfl) (fun b2 w2 hk2 hb2 hB2 => ?_)
  have hB2 : Blk w2 b2 (.cells (dc b).toArray 39) := hB2
  have r1 := (Row.all (l := dc a) hB1 rfl).kp0 hk2
  have r2 := Row.all (l := dc b) hB2 rfl
  have r3 := hm.kp0 (hk1.trans hk2)
  repeat (first|apply cA|apply cB|apply cD|apply cE|apply cF|apply cG|apply cH|apply cJ|apply cM|apply cN|apply cU|refine cV rfl ?_|apply cY|refine cZ rfl rfl rfl rfl (by first|((first|apply qmv|apply qas|apply qlc|apply qla|apply qix|apply qls|apply qni|apply qad|apply qln|apply qgt)<;>(first|exact rfl|assumption|exact Ar.mk (by omega)|exact dct (by first|assumption|omega)|exact dcf (by first|assumption|omega)|exact List.not_mem_nil|apply dc_length|fail))|fail) ?_)
  refine CG.tail mixed 9 [0, 1, 2, 3, 4, 5, 6, 7, 8] (by kernel_rfl) ?_
  repeat (refine dB rfl rfl rfl (by first|((first|apply qmv|apply qas|apply qlc|apply qla|apply qix|apply qls|apply qni|apply qad|apply qln|apply qgt)<;>(first|exact rfl|assumption|exact Ar.mk (by omega)|exact dct (by first|assumption|omega)|exact dcf (by first|assumption|omega)|exact List.not_mem_nil|apply dc_length|fail))|fail) ?_)
  refine Der.call rfl rfl rfl (vs := [dv m, dv a]) (by repeat' (first | exact True.intro | exact rho_of rfl | refine And.intro ?_ ?_)) (fun w _ _ => two_spec m a w) ?_
  repeat (refine dB rfl rfl rfl (by first|((first|apply qmv|apply qas|apply qlc|apply qla|apply qix|apply qls|apply qni|apply qad|apply qln|apply qgt)<;>(first|exact rfl|assumption|exact Ar.mk (by omega)|exact dct (by first|assumption|omega)|exact dcf (by first|assumption|omega)|exact List.not_mem_nil|apply dc_length|fail))|fail) ?_)
  refine Der.call rfl rfl rfl (vs := [dv m, dv b]) (by repeat' (first | exact True.intro | exact rho_of rfl | refine And.intro ?_ ?_)) (fun w _ _ => two_spec m b w) ?_
  refine Der.call rfl rfl rfl (vs := [dv (twoI m a), dv (twoI m b)]) (by repeat' (first | exact True.intro | exact rho_of rfl | refine And.intro ?_ ?_)) (fun w _ _ => hc1 w) ?_
  repeat (refine dB rfl rfl rfl (by first|((first|apply qmv|apply qas|apply qlc|apply qla|apply qix|apply qls|apply qni|apply qad|apply qln|apply qgt)<;>(first|exact rfl|assumption|exact Ar.mk (by omega)|exact dct (by first|assumption|omega)|exact dcf (by first|assumption|omega)|exact List.not_mem_nil|apply dc_length|fail))|fail) ?_)
  refine Der.tl (fun w3 hk3 _ _ => ?_)
  refine SG.ret rfl rfl rfl (by repeat' (first | exact True.intro | exact rho_of rfl | refine And.intro ?_ ?_)) (hc2 w3) (fun w4 hk4 => ?_)
  refine SG.buildSlice rfl rfl rfl rfl (bsi2 _ _) (fun b5 w5 hk5 hb5 hB5 => ?_)
  have hS5 : Sl ic 1 w5 (some ⟨b5, 0, none⟩) [z1, z2] := sl_ic hB5
  refine SG.ret rfl rfl rfl (by repeat' (first | exact True.intro | exact rho_of rfl | refine And.intro ?_ ?_)) (or_spec (c := 2) hS5 (by simp)) (fun w6 hk6 => ?_)
  repeat (first|apply cA|apply cB|apply cD|apply cE|apply cF|apply cG|apply cH|apply cJ|apply cM|apply cN|apply cU|refine cV rfl ?_|apply cY|refine cZ rfl rfl rfl rfl (by first|((first|apply qmv|apply qas|apply qlc|apply qla|apply qix|apply qls|apply qni|apply qad|apply qln|apply qgt)<;>(first|exact rfl|assumption|exact Ar.mk (by omega)|exact dct (by first|assumption|omega)|exact dcf (by first|assumption|omega)|exact List.not_mem_nil|apply dc_length|fail))|fail) ?_)
  refine ret1 (Or.inl rfl) Tryz.results39 (by first | exact ResV.tmp rfl | exact ResV.agg rfl rfl (by assumption) (by first | exact dc_length _ | exact nc_length _ | exact rc_length _ _ _ | exact ec_length _ | exact dl_length _ _ _ _ | rfl) | exact ResV.cell rfl rfl (by assumption)) ?_
  exact ⟨rfl, ((((hk1.trans hk2).trans hk3).trans hk4).trans hk5).trans hk6⟩
instance : Inhabited Dg := ⟨zd⟩
/-- The digests sorted by their numbers. -/
theorem sortn_spec {w : World} {base : Nat} {v : Value} {l : List Dg} (ho : w.ownsRow base 39 8 v l.length (flt dc l)) (hl : l.length ≤ 1000000) : Calls Tryz.prog 38 #[v, fnv 41 []] w (fun e w' => e = .returned (.tuple #[]) ∧ Kp (ownB v) w w' ∧ w'.ownsRow base 39 8 v l.length (flt dc (sortK num l))) :=
  (sort_ownC sortL Tryz.isAgg39 Tryz.sizeOf39 (by omega) dc_length dc_one cmpD (swo_key cmpD num (fun x y => cmpD_lt)) 41 (fun args w => fn.i41.run w args) [] ho (by omega) (fun x y W _ => byn_spec x y W)).mono (fun e w' ⟨h1, h2, l', h3, h4, h5⟩ => ⟨h1, h2, by
    have e : l' = sortK num l := sorted_uniq (key := num) (fun x y => num_inj) h3 (sortK_perm num l) (h4.imp (fun h => (ltOf_false (cf := cmpD) (key := num) (fun x y => cmpD_lt)).1 h)) (sortK_sorted num l)
    rwa [e] at h5⟩)
theorem sortw_spec {w : World} {base bm : Nat} {m : Dg} {v : Value} {l : List Dg} (ho : w.ownsRow base 39 8 v l.length (flt dc l)) (hl : l.length ≤ 1000000) (hm : Row w bm 0 (dc m)) (hbm : bm ∉ ownB v) : Calls Tryz.prog 38 #[v, fnv 39 [.pointer (some ⟨bm, 0, none⟩)]] w (fun e w' => e = .returned (.tuple #[]) ∧ Kp (ownB v) w w' ∧ w'.ownsRow base 39 8 v l.length (flt dc (sortK (kW m) l))) :=
  (sort_ownC sortL Tryz.isAgg39 Tryz.sizeOf39 (by omega) dc_length dc_one (cmpW m) (swo_key (cmpW m) (kW m) (fun x y => cmpW_lt)) 39 (fun args w => fn.i39.run w args) [.pointer (some ⟨bm, 0, none⟩)] ho (by omega) (fun x y W hk => cmpw_spec (hm.kp hk hbm) x y)).mono (fun e w' ⟨h1, h2, l', h3, h4, h5⟩ => ⟨h1, h2, by
    have e : l' = sortK (kW m) l := sorted_uniq (key := kW m) (fun x y => kW_inj) h3 (sortK_perm _ l) (h4.imp (fun h => (ltOf_false (cf := cmpW m) (key := kW m) (fun x y => cmpW_lt)).1 h)) (sortK_sorted _ l)
    rwa [e] at h5⟩)
end Go.Proofs.YtnoipmimddoioaaGreat
namespace Go.Proofs.YtnoipmimddoioaaGreat
open Go.Proofs Go.Shelf Go.Sort
set_option linter.unusedVariables false
theorem bsg' (w : World) (a0 a1 a2 a3 a4 a5 a6 a7 : UInt8) : (Instr.buildSlice 51 1 #[(0, .agg #[bv a0, bv a1, bv a2, bv a3, bv a4, bv a5, bv a6, bv a7])]).run Tryz.prog w = .ok (.slice (some ⟨w.heap.size, 0, none⟩) 1 1) { w with heap := w.heap.push (.cells #[bv a0, bv a1, bv a2, bv a3, bv a4, bv a5, bv a6, bv a7] 39) } := by kernel_rfl
theorem bsg (x : Dg) (w : World) : (Instr.buildSlice 51 1 #[(0, dv x)]).run Tryz.prog w = .ok (.slice (some ⟨w.heap.size, 0, none⟩) 1 1) { w with heap := w.heap.push (.cells (dc x).toArray 39) } := by
  obtain ⟨l, hl⟩ := x
  match l, hl with
  | [a0, a1, a2, a3, a4, a5, a6, a7], _ => exact bsg' w a0 a1 a2 a3 a4 a5 a6 a7
/-- One in a new slice. -/
theorem sl_one {α : Type} {enc : α → List Value} {sz : Nat} (he : ∀ x, (enc x).length = sz) {w : World} {b : Nat} {T : TypeId} {x : α} (h : Blk w b (.cells (enc x).toArray T)) : Sl enc sz w (some ⟨b, 0, none⟩) [x] :=
  flt_rowf he (by rw [flt_one]; exact h)
def mixD (l : List Ofr) : Dg := manyI (sortK num (l.map digO))
def idxZ {α : Type} (p : α → Bool) (l : List α) : Int := if l.findIdx p < l.length then (l.findIdx p : Int) else -1
theorem idxZ_any {α : Type} (p : α → Bool) (l : List α) : (0 ≤ idxZ p l) ↔ l.any p = true := by
  unfold idxZ
  by_cases h : l.findIdx p < l.length
  · rw [if_pos h]
    have h1 := List.findIdx_getElem (w := h)
    exact ⟨fun _ => List.any_eq_true.2 ⟨_, List.getElem_mem h, h1⟩, fun _ => by omega⟩
  · rw [if_neg h]
    constructor
    · intro h1; omega
    · intro h1
      obtain ⟨x, hx, hp⟩ := List.any_eq_true.1 h1
      exact absurd (List.findIdx_lt_length_of_exists ⟨x, hx, hp⟩) h
attribute [local irreducible] CG NG SG Vals Der Row Blk MapIs IterAt addI xorI orI andI shlI shrI mulI twoI cmpD cmpW kW digO manyI
set_option maxHeartbeats 16000000 in
theorem idxf_spec {w : World} {l : List Ofr} {a : Option Addr} {c : Nat} {f : FuncId} [Fn : Fnc Tryz.prog f] {caps : List Value} {p : Ofr → Bool} (hS : Sl ec 21 w a l) (hl : l.length ≤ 1000000000) (hp : ∀ o ∈ l, ∀ W, Kp [] w W → Ret Tryz.prog f (ov o :: caps).toArray W (.bool (p o))) :
    Ret Tryz.prog 45 #[.slice a l.length c, fnv f caps] w (.int .i64 (idxZ p l)) := by
  refine enter2 Tryz.func45 rfl Tryz.ntmps45 rfl ?_
  repeat (first|apply cA|apply cB|apply cD|apply cE|apply cF|apply cG|apply cH|apply cJ|apply cM|apply cN|apply cU|refine cV rfl ?_|apply cY|refine cZ rfl rfl rfl rfl (by first|((first|apply qmf|apply qmv|apply qas|apply qla|apply qix|apply qls|apply qad|apply qln|apply qge|apply qnt)<;>(first|exact rfl|assumption|exact Ar.mk (by omega)|exact dct (by first|assumption|omega)|exact dcf (by first|assumption|omega)|exact List.not_mem_nil|apply dc_length|apply ec_length|fail))|fail) ?_)
  refine CG.loop (X := Nat) (fun i => [(0, .slice a l.length c), (1, fnv f caps), (7, .int .i64 (l.length : Int)), (8, .int .i64 (i : Int))]) (fun i w' => i ≤ l.length ∧ Kp [] w w' ∧ ∀ j (h : j < l.length), j < i → p l[j] = false) (fun i => l.length - i) 0 ⟨by omega, Kp.refl _ _, fun j _ h => absurd h (Nat.not_lt_zero j)⟩ (by (repeat' (first | exact True.intro | exact rfl | refine And.intro ?_ ?_))) ?_
  rintro i w1 ⟨hi, hk, hno⟩
  by_cases hlt : i < l.length
  · have g1 : (i : Int) < (l.length : Int) := by omega
    obtain ⟨b1, o1, rfl, hr1⟩ := (hS.kp0 hk).at hlt
    have hpi := fun W h => hp l[i] (List.getElem_mem hlt) W h
    repeat (first|apply cA|apply cB|apply cD|apply cE|apply cF|apply cG|apply cH|apply cJ|apply cM|apply cN|apply cU|refine cV rfl ?_|apply cY|refine cZ rfl rfl rfl rfl (by first|((first|apply qmf|apply qmv|apply qas|apply qla|apply qix|apply qls|apply qad|apply qln|apply qge|apply qnt)<;>(first|exact rfl|assumption|exact Ar.mk (by omega)|exact dct (by first|assumption|omega)|exact dcf (by first|assumption|omega)|exact List.not_mem_nil|apply dc_length|apply ec_length|fail))|fail) ?_)
    refine dD rfl (by exact rho_of rfl) rfl ?_
    repeat (first|apply cA|apply cB|apply cD|apply cE|apply cF|apply cG|apply cH|apply cJ|apply cM|apply cN|apply cU|refine cV rfl ?_|apply cY|refine cZ rfl rfl rfl rfl (by first|((first|apply qmf|apply qmv|apply qas|apply qla|apply qix|apply qls|apply qad|apply qln|apply qge|apply qnt)<;>(first|exact rfl|assumption|exact Ar.mk (by omega)|exact dct (by first|assumption|omega)|exact dcf (by first|assumption|omega)|exact List.not_mem_nil|apply dc_length|apply ec_length|fail))|fail) ?_)
    refine SG.retVC (Fn := Fn) (vs := [ov l[i]]) (caps := caps) rfl rfl rfl (by exact rho_of rfl) (by repeat' (first | exact True.intro | exact rho_of rfl | refine And.intro ?_ ?_)) (hpi w1 hk) (fun w2 hk2 => ?_)
    cases hpp : p l[i] with
    | true =>
      repeat (first|apply cA|apply cB|apply cD|apply cE|apply cF|apply cG|apply cH|apply cJ|apply cM|apply cN|apply cU|refine cV rfl ?_|apply cY|refine cZ rfl rfl rfl rfl (by first|((first|apply qmf|apply qmv|apply qas|apply qla|apply qix|apply qls|apply qad|apply qln|apply qge|apply qnt)<;>(first|exact rfl|assumption|exact Ar.mk (by omega)|exact dct (by first|assumption|omega)|exact dcf (by first|assumption|omega)|exact List.not_mem_nil|apply dc_length|apply ec_length|fail))|fail) ?_)
      refine dD rfl (by exact rho_of rfl) rfl ?_
      repeat (first|apply cA|apply cB|apply cD|apply cE|apply cF|apply cG|apply cH|apply cJ|apply cM|apply cN|apply cU|refine cV rfl ?_|apply cY|refine cZ rfl rfl rfl rfl (by first|((first|apply qmf|apply qmv|apply qas|apply qla|apply qix|apply qls|apply qad|apply qln|apply qge|apply qnt)<;>(first|exact rfl|assumption|exact Ar.mk (by omega)|exact dct (by first|assumption|omega)|exact dcf (by first|assumption|omega)|exact List.not_mem_nil|apply dc_length|apply ec_length|fail))|fail) ?_)
      refine ret1 (Or.inl rfl) Tryz.results45 (by first | exact ResV.tmp rfl | exact ResV.agg rfl rfl (by assumption) (by first | exact dc_length _ | exact nc_length _ | exact rc_length _ _ _ | exact ec_length _ | exact dl_length _ _ _ _ | rfl) | exact ResV.cell rfl rfl (by assumption)) ?_
      have e : l.findIdx p = i := (List.findIdx_eq hlt).2 ⟨hpp, fun j hj => by rw [hno j (by omega) hj]⟩
      have e2 : idxZ p l = (i : Int) := by
        unfold idxZ
        rw [e, if_pos hlt]
      rw [e2]
      exact ⟨rfl, hk.trans hk2⟩
    | false =>
      repeat (first|apply cA|apply cB|apply cD|apply cE|apply cF|apply cG|apply cH|apply cJ|apply cM|apply cN|apply cU|refine cV rfl ?_|apply cY|refine cZ rfl rfl rfl rfl (by first|((first|apply qmf|apply qmv|apply qas|apply qla|apply qix|apply qls|apply qad|apply qln|apply qge|apply qnt)<;>(first|exact rfl|assumption|exact Ar.mk (by omega)|exact dct (by first|assumption|omega)|exact dcf (by first|assumption|omega)|exact List.not_mem_nil|apply dc_length|apply ec_length|fail))|fail) ?_)
      refine dE rfl (by exact rho_of rfl) rfl ?_
      repeat (first|apply cA|apply cB|apply cD|apply cE|apply cF|apply cG|apply cH|apply cJ|apply cM|apply cN|apply cU|refine cV rfl ?_|apply cY|refine cZ rfl rfl rfl rfl (by first|((first|apply qmf|apply qmv|apply qas|apply qla|apply qix|apply qls|apply qad|apply qln|apply qge|apply qnt)<;>(first|exact rfl|assumption|exact Ar.mk (by omega)|exact dct (by first|assumption|omega)|exact dcf (by first|assumption|omega)|exact List.not_mem_nil|apply dc_length|apply ec_length|fail))|fail) ?_)
      refine NG.round (i + 1) (by (repeat' (first | exact True.intro | exact rfl | refine And.intro ?_ ?_))) ⟨by omega, hk.trans hk2, fun j h hj => ?_⟩ (by omega)
      by_cases e : j = i
      · subst e; exact hpp
      · exact hno j h (by omega)
  · have g1 : ¬ (i : Int) < (l.length : Int) := by omega
    repeat (first|apply cA|apply cB|apply cD|apply cE|apply cF|apply cG|apply cH|apply cJ|apply cM|apply cN|apply cU|refine cV rfl ?_|apply cY|refine cZ rfl rfl rfl rfl (by first|((first|apply qmf|apply qmv|apply qas|apply qla|apply qix|apply qls|apply qad|apply qln|apply qge|apply qnt)<;>(first|exact rfl|assumption|exact Ar.mk (by omega)|exact dct (by first|assumption|omega)|exact dcf (by first|assumption|omega)|exact List.not_mem_nil|apply dc_length|apply ec_length|fail))|fail) ?_)
    refine dE rfl (by exact rho_of rfl) rfl ?_
    repeat (first|apply cA|apply cB|apply cD|apply cE|apply cF|apply cG|apply cH|apply cJ|apply cM|apply cN|apply cU|refine cV rfl ?_|apply cY|refine cZ rfl rfl rfl rfl (by first|((first|apply qmf|apply qmv|apply qas|apply qla|apply qix|apply qls|apply qad|apply qln|apply qge|apply qnt)<;>(first|exact rfl|assumption|exact Ar.mk (by omega)|exact dct (by first|assumption|omega)|exact dcf (by first|assumption|omega)|exact List.not_mem_nil|apply dc_length|apply ec_length|fail))|fail) ?_)
    refine ret1 (Or.inl rfl) Tryz.results45 (by first | exact ResV.tmp rfl | exact ResV.agg rfl rfl (by assumption) (by first | exact dc_length _ | exact nc_length _ | exact rc_length _ _ _ | exact ec_length _ | exact dl_length _ _ _ _ | rfl) | exact ResV.cell rfl rfl (by assumption)) ?_
    have e2 : idxZ p l = -1 := by
      unfold idxZ
      rw [if_neg]
      intro h
      have h1 := List.findIdx_getElem (w := h)
      rw [hno _ h (by omega)] at h1
      cases h1
    rw [e2]
    exact ⟨rfl, hk⟩
set_option maxHeartbeats 16000000 in
theorem contf_spec {w : World} {l : List Ofr} {a : Option Addr} {c : Nat} {f : FuncId} [Fn : Fnc Tryz.prog f] {caps : List Value} {p : Ofr → Bool} (hS : Sl ec 21 w a l) (hl : l.length ≤ 1000000000) (hp : ∀ o ∈ l, ∀ W, Kp [] w W → Ret Tryz.prog f (ov o :: caps).toArray W (.bool (p o))) :
    Ret Tryz.prog 27 #[.slice a l.length c, fnv f caps] w (.bool (l.any p)) := by
  refine enter2 Tryz.func27 rfl Tryz.ntmps27 rfl ?_
  have hz := idxZ_any p l
  have hsp := idxf_spec (c := c) hS hl hp
  generalize idxZ p l = z at hz hsp
  repeat (first|apply cA|apply cB|apply cD|apply cE|apply cF|apply cG|apply cH|apply cJ|apply cM|apply cN|apply cU|refine cV rfl ?_|apply cY|refine cZ rfl rfl rfl rfl (by first|((first|apply qmf|apply qmv|apply qas|apply qla|apply qix|apply qls|apply qad|apply qln|apply qge|apply qnt)<;>(first|exact rfl|assumption|exact Ar.mk (by omega)|exact dct (by first|assumption|omega)|exact dcf (by first|assumption|omega)|exact List.not_mem_nil|apply dc_length|apply ec_length|fail))|fail) ?_)
  refine SG.ret rfl rfl rfl (by repeat' (first | exact True.intro | exact rho_of rfl | refine And.intro ?_ ?_)) hsp (fun w1 hk1 => ?_)
  cases hb : l.any p with
  | true =>
    have g1 := hz.2 hb
    repeat (first|apply cA|apply cB|apply cD|apply cE|apply cF|apply cG|apply cH|apply cJ|apply cM|apply cN|apply cU|refine cV rfl ?_|apply cY|refine cZ rfl rfl rfl rfl (by first|((first|apply qmf|apply qmv|apply qas|apply qla|apply qix|apply qls|apply qad|apply qln|apply qge|apply qnt)<;>(first|exact rfl|assumption|exact Ar.mk (by omega)|exact dct (by first|assumption|omega)|exact dcf (by first|assumption|omega)|exact List.not_mem_nil|apply dc_length|apply ec_length|fail))|fail) ?_)
    refine ret1 (Or.inl rfl) Tryz.results27 (by first | exact ResV.tmp rfl | exact ResV.agg rfl rfl (by assumption) (by first | exact dc_length _ | exact nc_length _ | exact rc_length _ _ _ | exact ec_length _ | exact dl_length _ _ _ _ | rfl) | exact ResV.cell rfl rfl (by assumption)) ?_
    exact ⟨rfl, hk1⟩
  | false =>
    have g1 : ¬ 0 ≤ z := fun h => by rw [hz.1 h] at hb; cases hb
    repeat (first|apply cA|apply cB|apply cD|apply cE|apply cF|apply cG|apply cH|apply cJ|apply cM|apply cN|apply cU|refine cV rfl ?_|apply cY|refine cZ rfl rfl rfl rfl (by first|((first|apply qmf|apply qmv|apply qas|apply qla|apply qix|apply qls|apply qad|apply qln|apply qge|apply qnt)<;>(first|exact rfl|assumption|exact Ar.mk (by omega)|exact dct (by first|assumption|omega)|exact dcf (by first|assumption|omega)|exact List.not_mem_nil|apply dc_length|apply ec_length|fail))|fail) ?_)
    refine ret1 (Or.inl rfl) Tryz.results27 (by first | exact ResV.tmp rfl | exact ResV.agg rfl rfl (by assumption) (by first | exact dc_length _ | exact nc_length _ | exact rc_length _ _ _ | exact ec_length _ | exact dl_length _ _ _ _ | rfl) | exact ResV.cell rfl rfl (by assumption)) ?_
    exact ⟨rfl, hk1⟩
set_option maxHeartbeats 16000000 in
theorem nofit_spec {w : World} {b3 : Nat} {o : Ofr} (x : Ofr) (hr : Row w b3 0 (ec o)) : Ret Tryz.prog 51 #[ov x, .pointer (some ⟨b3, 0, none⟩)] w (.bool (!decide (fitP x o))) := by
  refine enter2 Tryz.func51 rfl Tryz.ntmps51 rfl ?_
  repeat (first|apply cA|apply cB|apply cD|apply cE|apply cF|apply cG|apply cH|apply cJ|apply cM|apply cN|apply cU|refine cV rfl ?_|apply cY|refine cZ rfl rfl rfl rfl (by first|((first|apply qmf|apply qmv|apply qas|apply qla|apply qix|apply qls|apply qad|apply qln|apply qge|apply qnt)<;>(first|exact rfl|assumption|exact Ar.mk (by omega)|exact dct (by first|assumption|omega)|exact dcf (by first|assumption|omega)|exact List.not_mem_nil|apply dc_length|apply ec_length|fail))|fail) ?_)
  refine SG.box rfl rfl rfl (by exact rho_of rfl) (fun b1 w1 hk1 hb1 hB1 => ?_)
  have hB1 : Blk w1 b1 (.cells (ec x).toArray 41) := hB1
  have r1 := Row.all (l := ec x) hB1 rfl
  have r2 := hr.kp0 hk1
  repeat (first|apply cA|apply cB|apply cD|apply cE|apply cF|apply cG|apply cH|apply cJ|apply cM|apply cN|apply cU|refine cV rfl ?_|apply cY|refine cZ rfl rfl rfl rfl (by first|((first|apply qmf|apply qmv|apply qas|apply qla|apply qix|apply qls|apply qad|apply qln|apply qge|apply qnt)<;>(first|exact rfl|assumption|exact Ar.mk (by omega)|exact dct (by first|assumption|omega)|exact dcf (by first|assumption|omega)|exact List.not_mem_nil|apply dc_length|apply ec_length|fail))|fail) ?_)
  refine SG.ret rfl rfl rfl (vs := [ov x, ov o]) (by repeat' (first | exact True.intro | exact rho_of rfl | refine And.intro ?_ ?_)) (fit_spec x o w1) (fun w2 hk2 => ?_)
  repeat (first|apply cA|apply cB|apply cD|apply cE|apply cF|apply cG|apply cH|apply cJ|apply cM|apply cN|apply cU|refine cV rfl ?_|apply cY|refine cZ rfl rfl rfl rfl (by first|((first|apply qmf|apply qmv|apply qas|apply qla|apply qix|apply qls|apply qad|apply qln|apply qge|apply qnt)<;>(first|exact rfl|assumption|exact Ar.mk (by omega)|exact dct (by first|assumption|omega)|exact dcf (by first|assumption|omega)|exact List.not_mem_nil|apply dc_length|apply ec_length|fail))|fail) ?_)
  refine ret1 (Or.inl rfl) Tryz.results51 (by first | exact ResV.tmp rfl | exact ResV.agg rfl rfl (by assumption) (by first | exact dc_length _ | exact nc_length _ | exact rc_length _ _ _ | exact ec_length _ | exact dl_length _ _ _ _ | rfl) | exact ResV.cell rfl rfl (by assumption)) ?_
  exact ⟨rfl, hk1.trans hk2⟩
set_option maxHeartbeats 16000000 in
theorem fits_spec {w : World} {l : List Ofr} {a : Option Addr} {c : Nat} (hS : Sl ec 21 w a l) (hl : l.length ≤ 1000000000) (o : Ofr) : Ret Tryz.prog 30 #[.slice a l.length c, ov o] w (.bool (!l.any (fun x => !decide (fitP x o)))) := by
  refine enter2 Tryz.func30 rfl Tryz.ntmps30 rfl ?_
  repeat (first|apply cA|apply cB|apply cD|apply cE|apply cF|apply cG|apply cH|apply cJ|apply cM|apply cN|apply cU|refine cV rfl ?_|apply cY|refine cZ rfl rfl rfl rfl (by first|((first|apply qmf|apply qmv|apply qas|apply qla|apply qix|apply qls|apply qad|apply qln|apply qge|apply qnt)<;>(first|exact rfl|assumption|exact Ar.mk (by omega)|exact dct (by first|assumption|omega)|exact dcf (by first|assumption|omega)|exact List.not_mem_nil|apply dc_length|apply ec_length|fail))|fail) ?_)
  refine SG.box rfl rfl rfl (by exact rho_of rfl) (fun b1 w1 hk1 hb1 hB1 => ?_)
  have hB1 : Blk w1 b1 (.cells (ec o).toArray 41) := hB1
  have r1 := Row.all (l := ec o) hB1 rfl
  repeat (first|apply cA|apply cB|apply cD|apply cE|apply cF|apply cG|apply cH|apply cJ|apply cM|apply cN|apply cU|refine cV rfl ?_|apply cY|refine cZ rfl rfl rfl rfl (by first|((first|apply qmf|apply qmv|apply qas|apply qla|apply qix|apply qls|apply qad|apply qln|apply qge|apply qnt)<;>(first|exact rfl|assumption|exact Ar.mk (by omega)|exact dct (by first|assumption|omega)|exact dcf (by first|assumption|omega)|exact List.not_mem_nil|apply dc_length|apply ec_length|fail))|fail) ?_)
  refine cZ rfl rfl rfl rfl (qmf (vs := [.pointer (some ⟨b1, 0, none⟩)]) rfl) ?_
  refine SG.ret rfl rfl rfl (vs := [.slice a l.length c, fnv 51 [.pointer (some ⟨b1, 0, none⟩)]]) (by repeat' (first | exact True.intro | exact rho_of rfl | refine And.intro ?_ ?_)) (contf_spec (f := 51) (caps := [.pointer (some ⟨b1, 0, none⟩)]) (p := fun x => !decide (fitP x o)) (hS.kp0 hk1) hl (fun x _ W hk => nofit_spec x (r1.kp0 hk))) (fun w2 hk2 => ?_)
  repeat (first|apply cA|apply cB|apply cD|apply cE|apply cF|apply cG|apply cH|apply cJ|apply cM|apply cN|apply cU|refine cV rfl ?_|apply cY|refine cZ rfl rfl rfl rfl (by first|((first|apply qmf|apply qmv|apply qas|apply qla|apply qix|apply qls|apply qad|apply qln|apply qge|apply qnt)<;>(first|exact rfl|assumption|exact Ar.mk (by omega)|exact dct (by first|assumption|omega)|exact dcf (by first|assumption|omega)|exact List.not_mem_nil|apply dc_length|apply ec_length|fail))|fail) ?_)
  refine ret1 (Or.inl rfl) Tryz.results30 (by first | exact ResV.tmp rfl | exact ResV.agg rfl rfl (by assumption) (by first | exact dc_length _ | exact nc_length _ | exact rc_length _ _ _ | exact ec_length _ | exact dl_length _ _ _ _ | rfl) | exact ResV.cell rfl rfl (by assumption)) ?_
  exact ⟨rfl, hk1.trans hk2⟩
set_option maxHeartbeats 16000000 in
theorem mix_spec {w : World} {l : List Ofr} {a : Option Addr} {c : Nat} (hS : Sl ec 21 w a l) (hl : l.length ≤ 100000) : Ret Tryz.prog 37 #[.slice a l.length c] w (dv (mixD l)) := by
  refine enter1 Tryz.func37 rfl Tryz.ntmps37 rfl ?_
  repeat (first|apply cA|apply cB|apply cD|apply cE|apply cF|apply cG|apply cH|apply cJ|apply cM|apply cN|apply cU|refine cV rfl ?_|apply cY|refine cZ rfl rfl rfl rfl (by first|((first|apply qmf|apply qmv|apply qas|apply qla|apply qix|apply qls|apply qad|apply qln|apply qge|apply qnt)<;>(first|exact rfl|assumption|exact Ar.mk (by omega)|exact dct (by first|assumption|omega)|exact dcf (by first|assumption|omega)|exact List.not_mem_nil|apply dc_length|apply ec_length|fail))|fail) ?_)
  refine SG.alloc rfl rfl rfl (fun b2 w1 hk1 hb2 hB2 => ?_)
  have hB2 : Blk w1 b2 (.cells (dc zd).toArray 39) := hB2
  have l2 := hB2.lt
  repeat (first|apply cA|apply cB|apply cD|apply cE|apply cF|apply cG|apply cH|apply cJ|apply cM|apply cN|apply cU|refine cV rfl ?_|apply cY|refine cZ rfl rfl rfl rfl (by first|((first|apply qmf|apply qmv|apply qas|apply qla|apply qix|apply qls|apply qad|apply qln|apply qge|apply qnt)<;>(first|exact rfl|assumption|exact Ar.mk (by omega)|exact dct (by first|assumption|omega)|exact dcf (by first|assumption|omega)|exact List.not_mem_nil|apply dc_length|apply ec_length|fail))|fail) ?_)
  refine CG.loop (X := Value × Nat) (fun x => [(2, .pointer (some ⟨b2, 0, none⟩)), (3, x.1), (6, .slice a l.length c), (7, .int .i64 (l.length : Int)), (8, .int .i64 (x.2 : Int))]) (fun x w' => x.2 ≤ l.length ∧ Kp [] w1 w' ∧ w'.ownsRow w1.heap.size 39 8 x.1 ((l.take x.2).map digO).length (flt dc ((l.take x.2).map digO))) (fun x => l.length - x.2) (.slice none 0 0, 0) ⟨by simp only; omega, Kp.refl _ _, own_nil⟩ (by (repeat' (first | exact True.intro | exact rfl | refine And.intro ?_ ?_))) ?_
  rintro ⟨v, i⟩ w2 ⟨hi, hk2, ho⟩
  simp only at hi ho
  refine CG.to [(2, .pointer (some ⟨b2, 0, none⟩)), (3, v), (6, .slice a l.length c), (7, .int .i64 (l.length : Int)), (8, .int .i64 (i : Int))] (by (repeat' (first | exact True.intro | exact rfl | refine And.intro ?_ ?_))) ?_
  have k2 := hk1.trans hk2
  by_cases hlt : i < l.length
  · have g1 : (i : Int) < (l.length : Int) := by omega
    obtain ⟨b1, o1, rfl, hr1⟩ := (hS.kp0 k2).at hlt
    repeat (first|apply cA|apply cB|apply cD|apply cE|apply cF|apply cG|apply cH|apply cJ|apply cM|apply cN|apply cU|refine cV rfl ?_|apply cY|refine cZ rfl rfl rfl rfl (by first|((first|apply qmf|apply qmv|apply qas|apply qla|apply qix|apply qls|apply qad|apply qln|apply qge|apply qnt)<;>(first|exact rfl|assumption|exact Ar.mk (by omega)|exact dct (by first|assumption|omega)|exact dcf (by first|assumption|omega)|exact List.not_mem_nil|apply dc_length|apply ec_length|fail))|fail) ?_)
    refine dD rfl (by exact rho_of rfl) rfl ?_
    repeat (first|apply cA|apply cB|apply cD|apply cE|apply cF|apply cG|apply cH|apply cJ|apply cM|apply cN|apply cU|refine cV rfl ?_|apply cY|refine cZ rfl rfl rfl rfl (by first|((first|apply qmf|apply qmv|apply qas|apply qla|apply qix|apply qls|apply qad|apply qln|apply qge|apply qnt)<;>(first|exact rfl|assumption|exact Ar.mk (by omega)|exact dct (by first|assumption|omega)|exact dcf (by first|assumption|omega)|exact List.not_mem_nil|apply dc_length|apply ec_length|fail))|fail) ?_)
    refine SG.alloc rfl rfl rfl (fun b5 w3 hk3 hb5 hB5 => ?_)
    refine SG.setAll (l := ec l[i]) rfl rfl (by exact rho_of rfl) (by exact rho_of rfl) hB5 (ec_length _) rfl (ec_one _) (fun w4 hk4 hB6 => ?_)
    have hr6 : Row w4 b5 0 (ec l[i]) := Row.all hB6 rfl
    have k4 : Kp [] w2 w4 := hk3.trans_new hk4 (new1 (by omega))
    repeat (first|apply cA|apply cB|apply cD|apply cE|apply cF|apply cG|apply cH|apply cJ|apply cM|apply cN|apply cU|refine cV rfl ?_|apply cY|refine cZ rfl rfl rfl rfl (by first|((first|apply qmf|apply qmv|apply qas|apply qla|apply qix|apply qls|apply qad|apply qln|apply qge|apply qnt)<;>(first|exact rfl|assumption|exact Ar.mk (by omega)|exact dct (by first|assumption|omega)|exact dcf (by first|assumption|omega)|exact List.not_mem_nil|apply dc_length|apply ec_length|fail))|fail) ?_)
    refine SG.ret rfl rfl rfl (vs := [ov l[i]]) (by repeat' (first | exact True.intro | exact rho_of rfl | refine And.intro ?_ ?_)) (digest_spec l[i] w4) (fun w5 hk5 => ?_)
    refine SG.buildSlice rfl rfl rfl rfl (bsg _) (fun b7 w6 hk6 hb7 hB7 => ?_)
    have k6 := (k4.trans hk5).trans hk6
    have hlen : ((l.take i).map digO).length = i := by rw [List.length_map, List.length_take]; omega
    refine SG.appO (enc := dc) (xs := (l.take i).map digO) (ys := [digO l[i]]) (base := w1.heap.size) rfl rfl rfl (by exact rho_of rfl) (by exact rho_of rfl) rfl rfl rfl rfl dc_length dc_one (own_kp0 ho k6) (sl_one dc_length hB7) (by rw [hlen]; simp only [maxLen, List.length_cons, List.length_nil]; omega) (by rw [hlen]; show (i + 1) * 8 ≤ _; omega) (hk2.trans k6).size (fun v8 w7 hk7 ho8 _ => ?_)
    have e : (l.take i).map digO ++ [digO l[i]] = (l.take (i + 1)).map digO := by rw [List.take_succ_eq_append_getElem hlt, List.map_append]; rfl
    rw [e] at ho8
    repeat (first|apply cA|apply cB|apply cD|apply cE|apply cF|apply cG|apply cH|apply cJ|apply cM|apply cN|apply cU|refine cV rfl ?_|apply cY|refine cZ rfl rfl rfl rfl (by first|((first|apply qmf|apply qmv|apply qas|apply qla|apply qix|apply qls|apply qad|apply qln|apply qge|apply qnt)<;>(first|exact rfl|assumption|exact Ar.mk (by omega)|exact dct (by first|assumption|omega)|exact dcf (by first|assumption|omega)|exact List.not_mem_nil|apply dc_length|apply ec_length|fail))|fail) ?_)
    refine NG.round (v8, i + 1) (by (repeat' (first | exact True.intro | exact rfl | refine And.intro ?_ ?_))) ⟨by simp only; omega, (hk2.trans k6).trans_new hk7 (own_new (own_kp0 ho k6) (Nat.le_refl _)), ho8⟩ (by simp only; omega)
  · have g1 : ¬ (i : Int) < (l.length : Int) := by omega
    rw [List.take_of_length_le (by omega)] at ho
    repeat (first|apply cA|apply cB|apply cD|apply cE|apply cF|apply cG|apply cH|apply cJ|apply cM|apply cN|apply cU|refine cV rfl ?_|apply cY|refine cZ rfl rfl rfl rfl (by first|((first|apply qmf|apply qmv|apply qas|apply qla|apply qix|apply qls|apply qad|apply qln|apply qge|apply qnt)<;>(first|exact rfl|assumption|exact Ar.mk (by omega)|exact dct (by first|assumption|omega)|exact dcf (by first|assumption|omega)|exact List.not_mem_nil|apply dc_length|apply ec_length|fail))|fail) ?_)
    refine dE rfl (by exact rho_of rfl) rfl ?_
    repeat (first|apply cA|apply cB|apply cD|apply cE|apply cF|apply cG|apply cH|apply cJ|apply cM|apply cN|apply cU|refine cV rfl ?_|apply cY|refine cZ rfl rfl rfl rfl (by first|((first|apply qmf|apply qmv|apply qas|apply qla|apply qix|apply qls|apply qad|apply qln|apply qge|apply qnt)<;>(first|exact rfl|assumption|exact Ar.mk (by omega)|exact dct (by first|assumption|omega)|exact dcf (by first|assumption|omega)|exact List.not_mem_nil|apply dc_length|apply ec_length|fail))|fail) ?_)
    refine SG.call rfl rfl rfl (vs := [v, fnv 41 []]) (by repeat' (first | exact True.intro | exact rho_of rfl | refine And.intro ?_ ?_)) ((sortn_spec ho (by rw [List.length_map]; omega)).mono (fun e w3 hh => ?_))
    obtain ⟨he, hk3, ho3⟩ := hh
    refine ⟨_, he, ?_⟩
    have elen : (l.map digO).length = (sortK num (l.map digO)).length := (sortK_perm num (l.map digO)).length_eq.symm
    rw [elen] at ho3
    obtain ⟨a3, c3, rfl, _, hS3⟩ := Sl.own dc_length ho3 rfl
    have k3 : Kp [] w1 w3 := hk2.trans_new hk3 (own_new ho (Nat.le_refl _))
    have hab : ∀ b off, a3 = some ⟨b, off, none⟩ → b < w3.heap.size := fun b off e => by
      rcases ho3.2 with ⟨h1, _⟩ | ⟨g, cap, cur, h1, _, h2, _⟩
      · simp only [Value.slice.injEq] at h1
        rw [h1.1] at e
        cases e
      · simp only [Value.slice.injEq] at h1
        rw [h1.1] at e
        cases e
        exact (Array.getElem?_eq_some_iff.1 h2).1
    repeat (first|apply cA|apply cB|apply cD|apply cE|apply cF|apply cG|apply cH|apply cJ|apply cM|apply cN|apply cU|refine cV rfl ?_|apply cY|refine cZ rfl rfl rfl rfl (by first|((first|apply qmf|apply qmv|apply qas|apply qla|apply qix|apply qls|apply qad|apply qln|apply qge|apply qnt)<;>(first|exact rfl|assumption|exact Ar.mk (by omega)|exact dct (by first|assumption|omega)|exact dcf (by first|assumption|omega)|exact List.not_mem_nil|apply dc_length|apply ec_length|fail))|fail) ?_)
    refine SG.ret rfl rfl rfl (by repeat' (first | exact True.intro | exact rho_of rfl | refine And.intro ?_ ?_)) (many_spec c3 hS3 hab (by rw [← elen, List.length_map]; omega)) (fun w4 hk4 => ?_)
    refine SG.setAll (old := dc zd) (l := dc (mixD l)) rfl rfl (by exact rho_of rfl) (by exact rho_of rfl) (hB2.kp0 (k3.trans hk4)) (dc_length _) (dc_length _) (dc_one _) (fun w5 hk5 hB5 => ?_)
    have hr5 : Row w5 b2 0 (dc (mixD l)) := Row.all hB5 rfl
    repeat (first|apply cA|apply cB|apply cD|apply cE|apply cF|apply cG|apply cH|apply cJ|apply cM|apply cN|apply cU|refine cV rfl ?_|apply cY|refine cZ rfl rfl rfl rfl (by first|((first|apply qmf|apply qmv|apply qas|apply qla|apply qix|apply qls|apply qad|apply qln|apply qge|apply qnt)<;>(first|exact rfl|assumption|exact Ar.mk (by omega)|exact dct (by first|assumption|omega)|exact dcf (by first|assumption|omega)|exact List.not_mem_nil|apply dc_length|apply ec_length|fail))|fail) ?_)
    refine ret1 (Or.inl rfl) Tryz.results37 (by first | exact ResV.tmp rfl | exact ResV.agg rfl rfl (by assumption) (by first | exact dc_length _ | exact nc_length _ | exact rc_length _ _ _ | exact ec_length _ | exact dl_length _ _ _ _ | rfl) | exact ResV.cell rfl rfl (by assumption)) ?_
    exact ⟨rfl, ((hk1.trans k3).trans hk4).trans_new hk5 (new1 (by omega))⟩
end Go.Proofs.YtnoipmimddoioaaGreat
namespace Go.Proofs.YtnoipmimddoioaaGreat
set_option linter.unusedVariables false
section
variable {α : Type} {enc : α → List Value} {sz : Nat}
theorem flt_set (he : ∀ x, (enc x).length = sz) (l : List α) (k : Nat) (hk : k < l.length) (x : α) (pre post : List Value) : spl (pre ++ (flt enc l ++ post)) (pre.length + k * sz) (enc x) = pre ++ (flt enc (l.set k x) ++ post) := by
  have h1 : pre ++ (flt enc l ++ post) = (pre ++ flt enc (l.take k)) ++ (enc l[k] ++ (flt enc (l.drop (k + 1)) ++ post)) := by rw [flt_split l k hk]; simp
  have h2 : (pre ++ flt enc (l.take k)).length = pre.length + k * sz := by
    rw [List.length_append, flt_length he, List.length_take, Nat.min_eq_left (by omega)]
  rw [h1, ← h2, spl_mid (by simp [he])]
  rw [List.set_eq_take_append_cons_drop, if_pos hk]
  simp [flt]
theorem own_slice {w : World} {base n : Nat} {T : TypeId} {v : Value} {xs : List Value} (ho : w.ownsRow base T sz v n xs) (hn : 0 < n) : ∃ g cap, v = .slice (some ⟨g, 0, none⟩) n cap ∧ n ≤ cap := by
  rcases ho.2 with ⟨_, h⟩ | ⟨g, cap, cur, h, _, _, h2, _⟩
  · omega
  · exact ⟨g, cap, h, h2⟩
theorem own_at {w : World} {base cap g : Nat} {T : TypeId} {l : List α} {n : Nat} (he : ∀ x, (enc x).length = sz) (ho : w.ownsRow base T sz (.slice (some ⟨g, 0, none⟩) n cap) n (flt enc l)) (hn : l.length = n) {k : Nat} (hk : k < l.length) : Row w g (0 + k * sz) (enc l[k]) := by
  obtain ⟨a, c, h1, _, hS⟩ := Sl.own he ho hn
  cases h1
  exact hS.row (List.getElem?_eq_getElem hk)
/-- One is written over. -/
theorem own_store {P : Program} {w : World} {base cap g n : Nat} {T : TypeId} {inf : TypeInfo} [f : Inf P T inf] {l : List α} (he : ∀ x, (enc x).length = inf.size) (hone : ∀ x, allOne (enc x) = true) (ho : w.ownsRow base T inf.size (.slice (some ⟨g, 0, none⟩) n cap) n (flt enc l)) (hn : l.length = n) {k : Nat} (hk : k < l.length) (x : α) :
    ∃ w', (Instr.storeAt T (.pointer (some ⟨g, 0 + k * inf.size, none⟩)) (.agg (enc x).toArray)).run P w = .ok () w' ∧ w'.ownsRow base T inf.size (.slice (some ⟨g, 0, none⟩) n cap) n (flt enc (l.set k x)) ∧ Kp [g] w w' := by
  rcases ho with ⟨h1, ⟨h2, _⟩ | ⟨g', cap', cur, h2, hb, hg, hc1, hc2, hc3, hc4⟩⟩
  · cases h2
  · cases h2
    have hB : Blk w g (.cells cur T) := hg
    have hlt : k * inf.size + inf.size ≤ n * inf.size := by
      have : (k + 1) * inf.size ≤ n * inf.size := Nat.mul_le_mul_right _ (by omega)
      rwa [Nat.add_mul, Nat.one_mul] at this
    have hle : n * inf.size ≤ cap * inf.size := Nat.mul_le_mul_right _ hc1
    have hcells : (Value.agg (enc x).toArray).cells.toList = enc x := by simp [Value.cells]
    have hrun := run_storeAt (P := P) (T := T) (off := 0 + k * inf.size) (v := .agg (enc x).toArray) hB (by rw [hcells]; exact he x) (by rw [hcells, he x]; omega) (by rw [hcells]; exact hone x)
    rw [hcells] at hrun
    refine ⟨_, hrun, ⟨by rw [flt_length he, List.length_set, hn], Or.inr ⟨g, cap, _, rfl, hb, hB.set _, hc1, hc2, ?_, ?_⟩⟩, Kp.set w hB rfl rfl⟩
    · have := spl_length (cs := cur.toList) (off := 0 + k * inf.size) (l := enc x) (by rw [he x]; simp; omega)
      rw [List.size_toArray, this]
      simpa using hc3
    · have hsplit : cur.toList = [] ++ (flt enc l ++ cur.toList.drop (n * inf.size)) := by
        rw [List.nil_append]
        conv => lhs; rw [← List.take_append_drop (n * inf.size) cur.toList]
        rw [hc4]
      have hset := flt_set he l k hk x [] (cur.toList.drop (n * inf.size))
      rw [← hsplit, List.length_nil, List.nil_append] at hset
      rw [List.toList_toArray, hset]
      refine (List.take_append_of_le_length ?_).trans (List.take_of_length_le ?_)
      · rw [flt_length he, List.length_set, hn]; exact Nat.le_refl _
      · rw [flt_length he, List.length_set, hn]; exact Nat.le_refl _
end
section
variable {P : Program} {α : Type} {enc : α → List Value} {m : Nat} {Q : Exit → Act → World → Prop} {ops rest : List Oper} {L : Env} {w : World} {ty : TypeId} {pos : String} {af : Array Edge} {q : Option (Nat × Bool)}
/-- .. in text order. -/
theorem SG.storeO {base cap g n : Nat} {T : TypeId} {inf : TypeInfo} [f : Inf P T inf] {l : List α} {a x : Operand} {y : α} {k o : Nat} (he : ∀ x, (enc x).length = inf.size) (hone : ∀ x, allOne (enc x) = true) (hw : want ops L ⟨none, .store T a x, ty, pos, af, q⟩ = some true) (hk : (known L a && known L x) = true)
    (ha : rho L a = .pointer (some ⟨g, o, none⟩)) (ho' : o = 0 + k * inf.size) (hx : rho L x = .agg (enc y).toArray) (ho : w.ownsRow base T inf.size (.slice (some ⟨g, 0, none⟩) n cap) n (flt enc l)) (hn : l.length = n) (hkl : k < l.length)
    (h : ∀ w', Kp [g] w w' → w'.ownsRow base T inf.size (.slice (some ⟨g, 0, none⟩) n cap) n (flt enc (l.set k y)) → SG P m ops Q rest L w') : SG P m ops Q (⟨none, .store T a x, ty, pos, af, q⟩ :: rest) L w := by
  subst ho'
  refine SG.op rfl rfl hw (by simpa [Op.operands] using hk) ?_
  obtain ⟨w', h1, h2, h3⟩ := own_store (P := P) he hone ho hn hkl y
  unfold OpRun
  have : (execOp (rho L) ⟨none, .store T a x, ty, pos, af, q⟩).run P w = .ok .skip w' := by
    simp only [execOp, hx, ha, Sem.run_bind, h1, Result.andThen, Sem.run_pure]
  rw [this]
  exact h w' h3 h2
end
end Go.Proofs.YtnoipmimddoioaaGreat
namespace Go.Proofs.YtnoipmimddoioaaGreat
set_option linter.unusedVariables false
theorem zeroCells_length (z : Array Value) (m : Nat) : (Builtin.zeroCells z m).toList.length = m * z.size := by simp [Builtin.zeroCells]
theorem zeroCells_one {z : Array Value} (hz : allOne z.toList = true) (m : Nat) : allOne (Builtin.zeroCells z m).toList = true := by
  unfold allOne
  rw [List.all_eq_true]
  intro v hv
  simp only [Builtin.zeroCells, Array.toList_map, List.mem_map] at hv
  obtain ⟨i, hi, rfl⟩ := hv
  have hi : i < m * z.size := by simpa using hi
  have h0 : 0 < z.size := by
    rcases Nat.eq_zero_or_pos z.size with h | h
    · rw [h] at hi; omega
    · exact h
  have hlt : i % z.size < z.size := Nat.mod_lt _ h0
  rw [getElem!_pos z _ hlt]
  exact List.all_eq_true.1 hz _ (by simp)
/-- The first i of an owned row. -/
theorem own_take {α : Type} {enc : α → List Value} {w : World} {base g n cap : Nat} {T : TypeId} {sz : Nat} {l : List α} (he : ∀ x, (enc x).length = sz) (ho : w.ownsRow base T sz (.slice (some ⟨g, 0, none⟩) n cap) n (flt enc l)) (hn : l.length = n) {i : Nat} (hi : i ≤ n) : w.ownsRow base T sz (.slice (some ⟨g, 0, none⟩) i cap) i (flt enc (l.take i)) := by
  rcases ho with ⟨h1, ⟨h2, _⟩ | ⟨g', cap', cur, h2, hb, hg, hc1, hc2, hc3, hc4⟩⟩
  · cases h2
  · cases h2
    refine ⟨by rw [flt_length he, List.length_take]; rw [Nat.min_eq_left (by omega)], Or.inr ⟨g, cap, cur, rfl, hb, hg, by omega, hc2, hc3, ?_⟩⟩
    have h3 : i * sz ≤ n * sz := Nat.mul_le_mul_right _ hi
    have : cur.toList.take (i * sz) = (flt enc l).take (i * sz) := by rw [← hc4, List.take_take, Nat.min_eq_left h3]
    rw [this]
    have e : flt enc l = flt enc (l.take i) ++ flt enc (l.drop i) := by rw [← flt_append, List.take_append_drop]
    have hl : (flt enc (l.take i)).length = i * sz := by rw [flt_length he, List.length_take, Nat.min_eq_left (by omega)]
    rw [e, List.take_append_of_le_length (by omega), ← hl, List.take_length]
section
variable {P : Program} {α : Type} {enc : α → List Value} {m : Nat} {Q : Exit → Act → World → Prop} {ops rest : List Oper} {L : Env} {w : World} {ty : TypeId} {pos : String} {af : Array Edge} {q : Option (Nat × Bool)}
theorem SG.clearO {base cap g n i : Nat} {t T : TypeId} {inf : TypeInfo} [u : Ut P t (.slice T)] [f : Inf P T inf] {z : Value} {l : List α} {x : Operand} {c2 : Nat} (he : ∀ x, (enc x).length = inf.size) (hw : want ops L ⟨none, .call { callee := .builtin .clear, args := #[x], argTypes := #[t] }, ty, pos, af, q⟩ = some true) (hk : known L x = true)
    (hx : rho L x = .slice (some ⟨g, i * inf.size, none⟩) (n - i) c2) (hz : inf.zero = some z) (hzs : Nat.beq z.cells.size inf.size = true) (hone : allOne z.cells.toList = true) (ho : w.ownsRow base T inf.size (.slice (some ⟨g, 0, none⟩) n cap) n (flt enc l)) (hn : l.length = n) (hi : i < n)
    (h : ∀ w', Kp [g] w w' → w'.ownsRow base T inf.size (.slice (some ⟨g, 0, none⟩) i cap) i (flt enc (l.take i)) → SG P m ops Q rest L w') : SG P m ops Q (⟨none, .call { callee := .builtin .clear, args := #[x], argTypes := #[t] }, ty, pos, af, q⟩ :: rest) L w := by
  have ho2 := own_take he ho hn (i := i) (by omega)
  refine SG.op rfl rfl hw (by simpa [Op.operands, Call.operands] using hk) ?_
  unfold OpRun
  rcases ho with ⟨h1, ⟨h2, _⟩ | ⟨g', cap', cur, h2, hb, hg, hc1, hc2, hc3, hc4⟩⟩
  · cases h2
  · cases h2
    have hB : Blk w g (.cells cur T) := hg
    have hsz := Nat.eq_of_beq_eq_true hzs
    have hlen : (Builtin.zeroCells z.cells (n - i)).toList.length = (n - i) * inf.size := by rw [zeroCells_length, hsz]
    have hle : n * inf.size ≤ cap * inf.size := Nat.mul_le_mul_right _ hc1
    have hsum : i * inf.size + (n - i) * inf.size = n * inf.size := by rw [← Nat.add_mul]; congr 1; omega
    have hst := run_storeCells (P := P) (b := g) (off := i * inf.size) (T := T) (Builtin.zeroCells z.cells (n - i)).toList 0 w cur hB (by rw [hlen]; omega) (zeroCells_one hone _)
    simp only [Nat.add_zero] at hst
    have hni : n - i = (n - i - 1) + 1 := by omega
    have hclear : (Builtin.clear_ #[t] ty #[.slice (some ⟨g, i * inf.size, none⟩) (n - i) c2]).run P w = .ok (.tuple #[]) { w with heap := w.heap.setIfInBounds g (.cells (spl cur.toList (i * inf.size) (Builtin.zeroCells z.cells (n - i)).toList).toArray T) } := by
      rw [hni] at hst ⊢
      simp only [Builtin.clear_, List.getElem?_toArray, List.getElem?_cons_zero, Sem.run_bind, run_underlying u.eq, Result.andThen_ok, run_zero hz, hst, Sem.run_pure]
    have : (execOp (rho L) ⟨none, .call { callee := .builtin .clear, args := #[x], argTypes := #[t] }, ty, pos, af, q⟩).run P w = .ok (.value (.tuple #[])) { w with heap := w.heap.setIfInBounds g (.cells (spl cur.toList (i * inf.size) (Builtin.zeroCells z.cells (n - i)).toList).toArray T) } := by
      simp only [execOp, resolve, invoke, builtin, Sem.run_bind, Sem.run_pure, Result.andThen_ok, List.map_toArray, List.map_cons, List.map_nil, hx, hclear]
    rw [this]
    refine h _ (Kp.set w hB rfl rfl) ?_
    rcases ho2 with ⟨k1, ⟨k2, _⟩ | ⟨g', cap', cur', k2, kb, kg, kc1, kc2, kc3, kc4⟩⟩
    · cases k2
    · cases k2
      have hu := hB.uniq kg
      simp only [Obj.cells.injEq] at hu
      obtain ⟨rfl, _, _⟩ := hu
      refine ⟨k1, Or.inr ⟨g, cap, _, rfl, kb, hB.set _, kc1, kc2, ?_, ?_⟩⟩
      · have := spl_length (cs := cur.toList) (off := i * inf.size) (l := (Builtin.zeroCells z.cells (n - i)).toList) (by rw [hlen]; simp; omega)
        rw [List.size_toArray, this]
        simpa using kc3
      · rw [List.toList_toArray]
        unfold spl
        rw [List.take_append_of_le_length (by rw [List.length_take]; simp; omega), List.take_take, Nat.min_self]
        exact kc4
end
end Go.Proofs.YtnoipmimddoioaaGreat
namespace Go.Proofs.YtnoipmimddoioaaGreat
open Go.Proofs Go.Shelf Go.Sort
set_option linter.unusedVariables false
theorem filt_find {α : Type} (p : α → Bool) (l : List α) : l.filter (fun x => !p x) = l.take (l.findIdx p) ++ (l.drop (l.findIdx p)).filter (fun x => !p x) := by
  conv => lhs; rw [← List.take_append_drop (l.findIdx p) l]
  rw [List.filter_append]
  congr 1
  rw [List.filter_eq_self]
  intro x hx
  obtain ⟨i, hi, rfl⟩ := List.getElem_of_mem hx
  rw [List.length_take] at hi
  rw [List.getElem_take]
  have := List.not_of_lt_findIdx (p := p) (xs := l) (i := i) (by omega)
  simpa using this
/-- What the pass has done: i kept, j seen. -/
structure Pass {α : Type} (p : α → Bool) (l cur : List α) (i j : Nat) : Prop where
  len : cur.length = l.length
  lt : i < j
  le : j ≤ l.length
  kept : cur.take i = (l.take j).filter (fun x => !p x)
  rest : cur.drop j = l.drop j
theorem Pass.init {α : Type} {p : α → Bool} {l : List α} (h : l.findIdx p < l.length) : Pass p l l (l.findIdx p) (l.findIdx p + 1) := by
  refine ⟨rfl, by omega, by omega, ?_, rfl⟩
  have h1 := filt_find p (l.take (l.findIdx p + 1))
  have e : l.take (l.findIdx p + 1) = l.take (l.findIdx p) ++ [l[l.findIdx p]] := List.take_succ_eq_append_getElem h
  rw [e, List.filter_append]
  have h2 : p l[l.findIdx p] = true := List.findIdx_getElem (w := h)
  simp only [List.filter_cons, h2, Bool.not_true, Bool.false_eq_true, if_false, List.filter_nil, List.append_nil]
  symm
  rw [List.filter_eq_self]
  intro x hx
  obtain ⟨i, hi, rfl⟩ := List.getElem_of_mem hx
  rw [List.length_take] at hi
  rw [List.getElem_take]
  have := List.not_of_lt_findIdx (p := p) (xs := l) (i := i) (by omega)
  simpa using this
theorem Pass.get {α : Type} {p : α → Bool} {l cur : List α} {i j : Nat} (h : Pass p l cur i j) (hj : j < l.length) : cur[j]'(by have := h.len; omega) = l[j] := by
  have h1 := congrArg (fun x => x[0]?) h.rest
  have h2 := h.len
  simp only [List.getElem?_drop, Nat.add_zero] at h1
  rw [List.getElem?_eq_getElem (by omega), List.getElem?_eq_getElem hj] at h1
  exact Option.some.inj h1
theorem Pass.drop {α : Type} {p : α → Bool} {l cur : List α} {i j : Nat} (h : Pass p l cur i j) (hj : j < l.length) (hp : p l[j] = true) : Pass p l cur i (j + 1) := by
  refine ⟨h.len, Nat.lt_succ_of_lt h.lt, hj, ?_, ?_⟩
  · rw [List.take_succ_eq_append_getElem hj, List.filter_append, ← h.kept]
    simp [hp]
  · rw [← List.drop_drop, h.rest, List.drop_drop]
theorem Pass.keep {α : Type} {p : α → Bool} {l cur : List α} {i j : Nat} (h : Pass p l cur i j) (hj : j < l.length) (hp : p l[j] = false) : Pass p l (cur.set i l[j]) (i + 1) (j + 1) := by
  have h2 := h.len
  have h3 := h.lt
  refine ⟨by simpa using h2, Nat.succ_lt_succ h3, hj, ?_, ?_⟩
  · rw [List.take_succ_eq_append_getElem hj, List.filter_append, ← h.kept]
    rw [List.take_succ_eq_append_getElem (by simp; omega)]
    simp [hp, List.take_set_of_le]
  · rw [List.drop_set_of_lt (by omega), ← List.drop_drop, h.rest, List.drop_drop]
end Go.Proofs.YtnoipmimddoioaaGreat
namespace Go.Proofs.YtnoipmimddoioaaGreat
open Go.Proofs Go.Shelf Go.Sort
set_option linter.unusedVariables false
attribute [local irreducible] CG NG SG Vals Der Row Blk MapIs IterAt addI xorI orI andI shlI shrI mulI twoI cmpD cmpW kW digO manyI
theorem idxZ_lt {α : Type} {p : α → Bool} {l : List α} (h : l.findIdx p < l.length) : idxZ p l = (l.findIdx p : Int) := if_pos h
theorem idxZ_no {α : Type} {p : α → Bool} {l : List α} (h : ¬ l.findIdx p < l.length) : idxZ p l = -1 := if_neg h
theorem filt_no {α : Type} {p : α → Bool} {l : List α} (h : ¬ l.findIdx p < l.length) : l.filter (fun x => !p x) = l := by
  rw [filt_find, List.take_of_length_le (by omega), List.drop_of_length_le (by omega)]
  simp
set_option maxHeartbeats 16000000 in
theorem delf_spec {w : World} {base : Nat} {v : Value} {l : List Ofr} {f : FuncId} [Fn : Fnc Tryz.prog f] {caps : List Value} {p : Ofr → Bool} (ho : w.ownsRow base 41 21 v l.length (flt ec l)) (hl : l.length ≤ 1000000000) (hp : ∀ o ∈ l, ∀ W, Kp (ownB v) w W → Ret Tryz.prog f (ov o :: caps).toArray W (.bool (p o))) :
    Calls Tryz.prog 36 #[v, fnv f caps] w (fun e w' => ∃ v', e = .returned v' ∧ w'.ownsRow base 41 21 v' (l.filter (fun x => !p x)).length (flt ec (l.filter (fun x => !p x))) ∧ Kp (ownB v) w w' ∧ ∀ b, v'.ownBlock = some b → v.ownBlock = some b) := by
  refine enter2 Tryz.func36 rfl Tryz.ntmps36 rfl ?_
  obtain ⟨a, c, rfl, hc, hS⟩ := Sl.own ec_length ho rfl
  repeat (first|apply cA|apply cB|apply cD|apply cE|apply cF|apply cG|apply cH|apply cJ|apply cM|apply cU|refine cV rfl ?_|apply cY|refine cZ rfl rfl rfl rfl (by first|((first|apply qmv|apply qas|apply qla|apply qix|apply qls|apply qei|apply qad|apply qln|apply qnt|apply qfr|apply qto)<;>(first|exact rfl|assumption|exact Ar.mk (by omega)|exact dct (by first|assumption|omega)|exact dcf (by first|assumption|omega)|exact List.not_mem_nil|apply ec_length|fail))|fail) ?_)
  refine SG.ret rfl rfl rfl (vs := [.slice a l.length c, fnv f caps]) (by repeat' (first | exact True.intro | exact rho_of rfl | refine And.intro ?_ ?_)) (idxf_spec (f := f) (Fn := Fn) (caps := caps) (p := p) (c := c) hS hl (fun o ho W hk => hp o ho W hk.any)) (fun w1 hk1 => ?_)
  by_cases hf : l.findIdx p < l.length
  · rw [idxZ_lt hf]
    obtain ⟨g, cap, e, hcp⟩ := own_slice ho (by omega)
    cases e
    have hne : ¬ (l.findIdx p : Int) = -1 := by omega
    have hP := Pass.init hf
    generalize l.findIdx p = i0 at hf hne hP
    have ho1 := own_kp0 ho hk1
    repeat (first|apply cA|apply cB|apply cD|apply cE|apply cF|apply cG|apply cH|apply cJ|apply cM|apply cU|refine cV rfl ?_|apply cY|refine cZ rfl rfl rfl rfl (by first|((first|apply qmv|apply qas|apply qla|apply qix|apply qls|apply qei|apply qad|apply qln|apply qnt|apply qfr|apply qto)<;>(first|exact rfl|assumption|exact Ar.mk (by omega)|exact dct (by first|assumption|omega)|exact dcf (by first|assumption|omega)|exact List.not_mem_nil|apply ec_length|fail))|fail) ?_)
    refine dE rfl (by exact rho_of rfl) rfl ?_
    repeat (first|apply cA|apply cB|apply cD|apply cE|apply cF|apply cG|apply cH|apply cJ|apply cM|apply cU|refine cV rfl ?_|apply cY|refine cZ rfl rfl rfl rfl (by first|((first|apply qmv|apply qas|apply qla|apply qix|apply qls|apply qei|apply qad|apply qln|apply qnt|apply qfr|apply qto)<;>(first|exact rfl|assumption|exact Ar.mk (by omega)|exact dct (by first|assumption|omega)|exact dcf (by first|assumption|omega)|exact List.not_mem_nil|apply ec_length|fail))|fail) ?_)
    refine CG.loop (X := (Nat × Nat) × List Ofr) (fun x => [(0, .slice (some ⟨g, 0, none⟩) l.length c), (1, fnv f caps), (5, .int .i64 (x.1.1 : Int)), (6, .int .i64 (x.1.2 : Int))]) (fun x w' => Pass p l x.2 x.1.1 x.1.2 ∧ Kp [g] w1 w' ∧ w'.ownsRow base 41 21 (.slice (some ⟨g, 0, none⟩) l.length c) l.length (flt ec x.2)) (fun x => l.length - x.1.2) ((i0, i0 + 1), l) ⟨hP, Kp.refl _ _, ho1⟩ (by (repeat' (first | exact True.intro | exact rfl | refine And.intro ?_ ?_))) ?_
    rintro ⟨⟨i, j⟩, cur⟩ w2 ⟨hQ, hk2, ho2⟩
    simp only at hQ ho2
    refine CG.to [(0, .slice (some ⟨g, 0, none⟩) l.length c), (1, fnv f caps), (5, .int .i64 (i : Int)), (6, .int .i64 (j : Int))] (by (repeat' (first | exact True.intro | exact rfl | refine And.intro ?_ ?_))) ?_
    have q1 := hQ.len
    have q2 := hQ.lt
    have q3 := hQ.le
    by_cases hj : j < l.length
    · have g1 : (j : Int) < (l.length : Int) := by omega
      have hrj := own_at ec_length ho2 q1 (k := j) (by omega)
      rw [hQ.get hj] at hrj
      repeat (first|apply cA|apply cB|apply cD|apply cE|apply cF|apply cG|apply cH|apply cJ|apply cM|apply cU|refine cV rfl ?_|apply cY|refine cZ rfl rfl rfl rfl (by first|((first|apply qmv|apply qas|apply qla|apply qix|apply qls|apply qei|apply qad|apply qln|apply qnt|apply qfr|apply qto)<;>(first|exact rfl|assumption|exact Ar.mk (by omega)|exact dct (by first|assumption|omega)|exact dcf (by first|assumption|omega)|exact List.not_mem_nil|apply ec_length|fail))|fail) ?_)
      refine dD rfl (by exact rho_of rfl) rfl ?_
      repeat (first|apply cA|apply cB|apply cD|apply cE|apply cF|apply cG|apply cH|apply cJ|apply cM|apply cU|refine cV rfl ?_|apply cY|refine cZ rfl rfl rfl rfl (by first|((first|apply qmv|apply qas|apply qla|apply qix|apply qls|apply qei|apply qad|apply qln|apply qnt|apply qfr|apply qto)<;>(first|exact rfl|assumption|exact Ar.mk (by omega)|exact dct (by first|assumption|omega)|exact dcf (by first|assumption|omega)|exact List.not_mem_nil|apply ec_length|fail))|fail) ?_)
      refine SG.alloc rfl rfl rfl (fun b7 w3 hk3 hb7 hB7 => ?_)
      refine SG.setAll (l := ec l[j]) rfl rfl (by exact rho_of rfl) (by exact rho_of rfl) hB7 (ec_length _) rfl (ec_one _) (fun w4 hk4 hB8 => ?_)
      have hr8 : Row w4 b7 0 (ec l[j]) := Row.all hB8 rfl
      have k24 : Kp [] w2 w4 := hk3.trans_new hk4 (new1 (by omega))
      have hpj := hp l[j] (List.getElem_mem hj) w4 ((hk1.any.trans hk2).trans k24.any)
      have q5 : (cur.set i l[j]).length = l.length := by simpa using q1
      cases hpp : p l[j] with
      | false =>
        rw [hpp] at hpj
        clear hrj
        repeat (first|apply cA|apply cB|apply cD|apply cE|apply cF|apply cG|apply cH|apply cJ|apply cM|apply cU|refine cV rfl ?_|apply cY|refine cZ rfl rfl rfl rfl (by first|((first|apply qmv|apply qas|apply qla|apply qix|apply qls|apply qei|apply qad|apply qln|apply qnt|apply qfr|apply qto)<;>(first|exact rfl|assumption|exact Ar.mk (by omega)|exact dct (by first|assumption|omega)|exact dcf (by first|assumption|omega)|exact List.not_mem_nil|apply ec_length|fail))|fail) ?_)
        refine SG.retVC (Fn := Fn) (vs := [ov l[j]]) (caps := caps) rfl rfl rfl (by exact rho_of rfl) (by repeat' (first | exact True.intro | exact rho_of rfl | refine And.intro ?_ ?_)) hpj (fun w5 hk5 => ?_)
        have hr8 := hr8.kp0 hk5
        have ho5 := own_kp0 (own_kp0 ho2 k24) hk5
        repeat (first|apply cA|apply cB|apply cD|apply cE|apply cF|apply cG|apply cH|apply cJ|apply cM|apply cU|refine cV rfl ?_|apply cY|refine cZ rfl rfl rfl rfl (by first|((first|apply qmv|apply qas|apply qla|apply qix|apply qls|apply qei|apply qad|apply qln|apply qnt|apply qfr|apply qto)<;>(first|exact rfl|assumption|exact Ar.mk (by omega)|exact dct (by first|assumption|omega)|exact dcf (by first|assumption|omega)|exact List.not_mem_nil|apply ec_length|fail))|fail) ?_)
        refine dD rfl (by exact rho_of rfl) rfl ?_
        repeat (first|apply cA|apply cB|apply cD|apply cE|apply cF|apply cG|apply cH|apply cJ|apply cM|apply cU|refine cV rfl ?_|apply cY|refine cZ rfl rfl rfl rfl (by first|((first|apply qmv|apply qas|apply qla|apply qix|apply qls|apply qei|apply qad|apply qln|apply qnt|apply qfr|apply qto)<;>(first|exact rfl|assumption|exact Ar.mk (by omega)|exact dct (by first|assumption|omega)|exact dcf (by first|assumption|omega)|exact List.not_mem_nil|apply ec_length|fail))|fail) ?_)
        refine SG.storeO (k := i) (y := l[j]) (f := ty.i41) ec_length ec_one rfl rfl (by exact rho_of rfl) rfl (by exact rho_of rfl) ho5 q1 (by omega) (fun w6 hk6 ho6 => ?_)
        repeat (first|apply cA|apply cB|apply cD|apply cE|apply cF|apply cG|apply cH|apply cJ|apply cM|apply cU|refine cV rfl ?_|apply cY|refine cZ rfl rfl rfl rfl (by first|((first|apply qmv|apply qas|apply qla|apply qix|apply qls|apply qei|apply qad|apply qln|apply qnt|apply qfr|apply qto)<;>(first|exact rfl|assumption|exact Ar.mk (by omega)|exact dct (by first|assumption|omega)|exact dcf (by first|assumption|omega)|exact List.not_mem_nil|apply ec_length|fail))|fail) ?_)
        refine NG.round ((i + 1, j + 1), cur.set i l[j]) (by (repeat' (first | exact True.intro | exact rfl | refine And.intro ?_ ?_))) ⟨hQ.keep hj hpp, ((hk2.trans k24.any).trans hk5.any).trans hk6, ho6⟩ (by simp only; omega)
      | true =>
        rw [hpp] at hpj
        clear hrj
        repeat (first|apply cA|apply cB|apply cD|apply cE|apply cF|apply cG|apply cH|apply cJ|apply cM|apply cU|refine cV rfl ?_|apply cY|refine cZ rfl rfl rfl rfl (by first|((first|apply qmv|apply qas|apply qla|apply qix|apply qls|apply qei|apply qad|apply qln|apply qnt|apply qfr|apply qto)<;>(first|exact rfl|assumption|exact Ar.mk (by omega)|exact dct (by first|assumption|omega)|exact dcf (by first|assumption|omega)|exact List.not_mem_nil|apply ec_length|fail))|fail) ?_)
        refine SG.retVC (Fn := Fn) (vs := [ov l[j]]) (caps := caps) rfl rfl rfl (by exact rho_of rfl) (by repeat' (first | exact True.intro | exact rho_of rfl | refine And.intro ?_ ?_)) hpj (fun w5 hk5 => ?_)
        have ho5 := own_kp0 (own_kp0 ho2 k24) hk5
        repeat (first|apply cA|apply cB|apply cD|apply cE|apply cF|apply cG|apply cH|apply cJ|apply cM|apply cU|refine cV rfl ?_|apply cY|refine cZ rfl rfl rfl rfl (by first|((first|apply qmv|apply qas|apply qla|apply qix|apply qls|apply qei|apply qad|apply qln|apply qnt|apply qfr|apply qto)<;>(first|exact rfl|assumption|exact Ar.mk (by omega)|exact dct (by first|assumption|omega)|exact dcf (by first|assumption|omega)|exact List.not_mem_nil|apply ec_length|fail))|fail) ?_)
        refine dE rfl (by exact rho_of rfl) rfl ?_
        repeat (first|apply cA|apply cB|apply cD|apply cE|apply cF|apply cG|apply cH|apply cJ|apply cM|apply cU|refine cV rfl ?_|apply cY|refine cZ rfl rfl rfl rfl (by first|((first|apply qmv|apply qas|apply qla|apply qix|apply qls|apply qei|apply qad|apply qln|apply qnt|apply qfr|apply qto)<;>(first|exact rfl|assumption|exact Ar.mk (by omega)|exact dct (by first|assumption|omega)|exact dcf (by first|assumption|omega)|exact List.not_mem_nil|apply ec_length|fail))|fail) ?_)
        refine NG.round ((i, j + 1), cur) (by (repeat' (first | exact True.intro | exact rfl | refine And.intro ?_ ?_))) ⟨hQ.drop hj hpp, (hk2.trans k24.any).trans hk5.any, ho5⟩ (by simp only; omega)
    · have g1 : ¬ (j : Int) < (l.length : Int) := by omega
      have hkept := hQ.kept
      rw [show l.take j = l from List.take_of_length_le (by omega)] at hkept
      have hi : i = (l.filter (fun x => !p x)).length := by rw [← hkept, List.length_take]; omega
      have hci : (if c = i then 0 else 0 + i * 21) = i * 21 := by rw [if_neg (by omega)]; omega
      repeat (first|apply cA|apply cB|apply cD|apply cE|apply cF|apply cG|apply cH|apply cJ|apply cM|apply cU|refine cV rfl ?_|apply cY|refine cZ rfl rfl rfl rfl (by first|((first|apply qmv|apply qas|apply qla|apply qix|apply qls|apply qei|apply qad|apply qln|apply qnt|apply qfr|apply qto)<;>(first|exact rfl|assumption|exact Ar.mk (by omega)|exact dct (by first|assumption|omega)|exact dcf (by first|assumption|omega)|exact List.not_mem_nil|apply ec_length|fail))|fail) ?_)
      refine dE rfl (by exact rho_of rfl) rfl ?_
      repeat (first|apply cA|apply cB|apply cD|apply cE|apply cF|apply cG|apply cH|apply cJ|apply cM|apply cU|refine cV rfl ?_|apply cY|refine cZ rfl rfl rfl rfl (by first|((first|apply qmv|apply qas|apply qla|apply qix|apply qls|apply qei|apply qad|apply qln|apply qnt|apply qfr|apply qto)<;>(first|exact rfl|assumption|exact Ar.mk (by omega)|exact dct (by first|assumption|omega)|exact dcf (by first|assumption|omega)|exact List.not_mem_nil|apply ec_length|fail))|fail) ?_)
      rw [hci]
      refine SG.clearO (i := i) (l := cur) ec_length rfl rfl (by exact rho_of rfl) rfl rfl rfl ho2 q1 (by omega) (fun w3 hk3 ho3 => ?_)
      repeat (first|apply cA|apply cB|apply cD|apply cE|apply cF|apply cG|apply cH|apply cJ|apply cM|apply cU|refine cV rfl ?_|apply cY|refine cZ rfl rfl rfl rfl (by first|((first|apply qmv|apply qas|apply qla|apply qix|apply qls|apply qei|apply qad|apply qln|apply qnt|apply qfr|apply qto)<;>(first|exact rfl|assumption|exact Ar.mk (by omega)|exact dct (by first|assumption|omega)|exact dcf (by first|assumption|omega)|exact List.not_mem_nil|apply ec_length|fail))|fail) ?_)
      refine ret1 (Or.inl rfl) Tryz.results36 (by first | exact ResV.tmp rfl | exact ResV.agg rfl rfl (by assumption) (by first | exact dc_length _ | exact nc_length _ | exact rc_length _ _ _ | exact ec_length _ | exact dl_length _ _ _ _ | rfl) | exact ResV.cell rfl rfl (by assumption)) ?_
      refine ⟨_, rfl, ?_, (hk1.any.trans hk2).trans hk3, fun _ h => h⟩
      rw [← hkept, List.length_take, Nat.min_eq_left (by omega)]
      exact ho3
  · rw [idxZ_no hf]
    have h11 : (-1 : Int) = -1 := rfl
    have ho1 := own_kp0 ho hk1
    repeat (first|apply cA|apply cB|apply cD|apply cE|apply cF|apply cG|apply cH|apply cJ|apply cM|apply cU|refine cV rfl ?_|apply cY|refine cZ rfl rfl rfl rfl (by first|((first|apply qmv|apply qas|apply qla|apply qix|apply qls|apply qei|apply qad|apply qln|apply qnt|apply qfr|apply qto)<;>(first|exact rfl|assumption|exact Ar.mk (by omega)|exact dct (by first|assumption|omega)|exact dcf (by first|assumption|omega)|exact List.not_mem_nil|apply ec_length|fail))|fail) ?_)
    refine dD rfl (by exact rho_of rfl) rfl ?_
    repeat (first|apply cA|apply cB|apply cD|apply cE|apply cF|apply cG|apply cH|apply cJ|apply cM|apply cU|refine cV rfl ?_|apply cY|refine cZ rfl rfl rfl rfl (by first|((first|apply qmv|apply qas|apply qla|apply qix|apply qls|apply qei|apply qad|apply qln|apply qnt|apply qfr|apply qto)<;>(first|exact rfl|assumption|exact Ar.mk (by omega)|exact dct (by first|assumption|omega)|exact dcf (by first|assumption|omega)|exact List.not_mem_nil|apply ec_length|fail))|fail) ?_)
    refine ret1 (Or.inl rfl) Tryz.results36 (by first | exact ResV.tmp rfl | exact ResV.agg rfl rfl (by assumption) (by first | exact dc_length _ | exact nc_length _ | exact rc_length _ _ _ | exact ec_length _ | exact dl_length _ _ _ _ | rfl) | exact ResV.cell rfl rfl (by assumption)) ?_
    rw [filt_no hf]
    exact ⟨_, rfl, ho1, hk1.any, fun _ h => h⟩
end Go.Proofs.YtnoipmimddoioaaGreat
namespace Go.Proofs.YtnoipmimddoioaaGreat
open Go.Proofs Go.Shelf Go.Sort
set_option linter.unusedVariables false
def zDel : Del := ⟨zd, [], 0, 0⟩
def maxs (f : Ofr → Int) (l : List Ofr) : Int := l.foldl (fun m o => if m < f o then f o else m) 0
def goodDel (r : Dg) (l : List Ofr) : Del := ⟨r, sortK (kW (mixD l)) (l.map (·.who)), maxs (·.least) l, maxs (·.window) l⟩
def dealOf (l : List Ofr) : Del × Int :=
  match l with
  | [] => (zDel, 3)
  | o :: _ => if (l.length : Int) = o.seats then (if l.all (fun x => decide x.Ok) then (if decide (l.Pairwise fitP) then (goodDel o.rules l, 0) else (zDel, 11)) else (zDel, 2)) else (zDel, 3)
theorem maxs_nil (f : Ofr → Int) : maxs f [] = 0 := rfl
theorem maxs_snoc (f : Ofr → Int) (l : List Ofr) (i : Nat) (h : i < l.length) : maxs f (l.take (i + 1)) = if maxs f (l.take i) < f l[i] then f l[i] else maxs f (l.take i) := by
  unfold maxs
  rw [List.take_succ_eq_append_getElem h, List.foldl_append]
  rfl
theorem dl_set1 {r : Dg} {s s' : Value} {st wi : Int} : spl (dl r s st wi) 8 [s'] = dl r s' st wi := by
  have := spl_mid (pre := dc r) (old := [s]) (post := [.int .i64 st, .int .i64 wi]) (l := [s']) rfl
  rw [dc_length] at this
  exact this
theorem dl_set2 {r : Dg} {s : Value} {st st' wi : Int} : spl (dl r s st wi) 9 [.int .i64 st'] = dl r s st' wi := by
  have := spl_mid (pre := dc r ++ [s]) (old := [.int .i64 st]) (post := [.int .i64 wi]) (l := [.int .i64 st']) rfl
  rw [List.length_append, dc_length] at this
  simpa [dl] using this
theorem dl_set3 {r : Dg} {s : Value} {st wi wi' : Int} : spl (dl r s st wi) 10 [.int .i64 wi'] = dl r s st wi' := by
  have := spl_mid (pre := dc r ++ [s, .int .i64 st]) (old := [.int .i64 wi]) (post := []) (l := [.int .i64 wi']) rfl
  rw [List.length_append, dc_length] at this
  simpa [dl] using this
theorem bdz (w : World) : (Instr.build 53 #[]).run Tryz.prog w = .ok (dealV zd (.slice none 0 0) 0 0) w := by kernel_rfl
theorem bdr' (w : World) (a0 a1 a2 a3 a4 a5 a6 a7 : UInt8) : (Instr.build 53 #[(0, .agg #[bv a0, bv a1, bv a2, bv a3, bv a4, bv a5, bv a6, bv a7])]).run Tryz.prog w = .ok (.agg #[bv a0, bv a1, bv a2, bv a3, bv a4, bv a5, bv a6, bv a7, .slice none 0 0, .int .i64 0, .int .i64 0]) w := by kernel_rfl
theorem bdr (r : Dg) (w : World) : (Instr.build 53 #[(0, dv r)]).run Tryz.prog w = .ok (dealV r (.slice none 0 0) 0 0) w := by
  obtain ⟨l, hl⟩ := r
  match l, hl with
  | [a0, a1, a2, a3, a4, a5, a6, a7], _ => exact bdr' w a0 a1 a2 a3 a4 a5 a6 a7
theorem pw_take {l : List Ofr} {i : Nat} (h : i < l.length) (hp : (l.take i).Pairwise fitP) (hb : (l.take i).any (fun x => !decide (fitP x l[i])) = false) : (l.take (i + 1)).Pairwise fitP := by
  rw [List.take_succ_eq_append_getElem h, List.pairwise_append]
  refine ⟨hp, List.pairwise_singleton _ _, fun x hx y hy => ?_⟩
  rw [List.mem_singleton] at hy
  subst hy
  have := List.any_eq_false.1 hb x hx
  simpa using this
theorem pw_not {l : List Ofr} {i : Nat} (h : i < l.length) (hb : (l.take i).any (fun x => !decide (fitP x l[i])) = true) : ¬ l.Pairwise fitP := by
  intro hp
  obtain ⟨x, hx, hx2⟩ := List.any_eq_true.1 hb
  have h1 : (l.take (i + 1)).Pairwise fitP := hp.sublist (List.take_sublist _ _)
  rw [List.take_succ_eq_append_getElem h, List.pairwise_append] at h1
  have := h1.2.2 x hx l[i] (by simp)
  simp [this] at hx2
theorem Row.part {w : World} {b off : Nat} {l : List Value} (h : Row w b off l) (pre m post : List Value) (he : l = pre ++ (m ++ post)) : Row w b (off + pre.length) m := by
  obtain ⟨cs, T, f, h1, h2⟩ := h
  refine ⟨cs, T, f, h1, fun i v hv => ?_⟩
  rw [Nat.add_assoc]
  refine h2 _ v ?_
  have hi := (List.getElem?_eq_some_iff.1 hv).1
  rw [he, List.getElem?_append_right (by omega), Nat.add_sub_cancel_left, List.getElem?_append_left hi]
  exact hv
theorem ec_rowsO {w : World} {b off : Nat} {o : Ofr} (h : Row w b off (ec o)) : Row w b off (dc o.who) ∧ Row w b (off + 8) (dc o.rules) ∧ Row w b (off + 16) [.int .i64 o.seats] ∧ Row w b (off + 17) [.int .i64 o.least] ∧ Row w b (off + 18) [.int .i64 o.most] ∧ Row w b (off + 19) [.int .i64 o.window] ∧ Row w b (off + 20) [.int .i64 o.till] := by
  have l8 : (dc o.who).length = 8 := dc_length _
  have l16 : (dc o.who ++ dc o.rules).length = 16 := by simp [dc_length]
  refine ⟨?_, ?_, ?_, ?_, ?_, ?_, ?_⟩
  · exact h.part [] (dc o.who) _ rfl
  · have := h.part (dc o.who) (dc o.rules) _ rfl
    rwa [l8] at this
  · have := h.part (dc o.who ++ dc o.rules) [.int .i64 o.seats] [.int .i64 o.least, .int .i64 o.most, .int .i64 o.window, .int .i64 o.till] (by simp [ec])
    rwa [l16] at this
  · have := h.part (dc o.who ++ dc o.rules ++ [.int .i64 o.seats]) [.int .i64 o.least] [.int .i64 o.most, .int .i64 o.window, .int .i64 o.till] (by simp [ec])
    rwa [List.length_append, l16] at this
  · have := h.part (dc o.who ++ dc o.rules ++ [.int .i64 o.seats, .int .i64 o.least]) [.int .i64 o.most] [.int .i64 o.window, .int .i64 o.till] (by simp [ec])
    rwa [List.length_append, l16] at this
  · have := h.part (dc o.who ++ dc o.rules ++ [.int .i64 o.seats, .int .i64 o.least, .int .i64 o.most]) [.int .i64 o.window] [.int .i64 o.till] (by simp [ec])
    rwa [List.length_append, l16] at this
  · have := h.part (dc o.who ++ dc o.rules ++ [.int .i64 o.seats, .int .i64 o.least, .int .i64 o.most, .int .i64 o.window]) [.int .i64 o.till] [] (by simp [ec])
    rwa [List.length_append, l16] at this
theorem own_neb {w : World} {base n sz : Nat} {T T' : TypeId} {v : Value} {xs : List Value} {z : Nat} {cs : Array Value} (ho : w.ownsRow base T sz v n xs) (hT : T' ≠ T) (hz : Blk w z (.cells cs T')) : ∀ b, v.ownBlock = some b → b ∉ [z] := by
  intro b hb hm
  rw [List.mem_singleton] at hm
  subst hm
  rcases ho.2 with ⟨rfl, _⟩ | ⟨g, cap, cur, rfl, _, hg, _⟩
  · cases hb
  · cases hb
    have := hz.uniq hg
    simp only [Obj.cells.injEq] at this
    exact hT this.2.1
theorem own_lt {w : World} {base n sz : Nat} {T : TypeId} {v : Value} {xs : List Value} (ho : w.ownsRow base T sz v n xs) : ∀ b, v.ownBlock = some b → b < w.heap.size := by
  intro b hb
  rcases ho.2 with ⟨rfl, _⟩ | ⟨g, cap, cur, rfl, _, hg, _⟩
  · cases hb
  · cases hb
    exact (Array.getElem?_eq_some_iff.1 hg).1
theorem own_notB {v : Value} {z : Nat} (h : ∀ b, v.ownBlock = some b → b < z) : z ∉ ownB v := by
  intro hm
  have := h z (ownB_mem hm)
  omega
/-- A deal, as it is answered. -/
def DealAt (w0 w : World) (T : TypeId) (v : Value) (d : Del) : Prop := ∃ s, v = dealV d.rules s d.stake d.window ∧ w.ownsRow w0.heap.size T 8 s d.who.length (flt dc d.who)
attribute [local irreducible] CG NG SG Vals Der Row Blk MapIs IterAt addI xorI orI andI shlI shrI mulI twoI cmpD cmpW kW digO manyI mixD sortK maxs
set_option maxHeartbeats 32000000 in
theorem of2_spec {w : World} {l : List Ofr} {a : Option Addr} {c : Nat} (hS : Sl ec 21 w a l) (hl : l.length ≤ 10000) (hc : l.length ≤ c) : Calls Tryz.prog 20 #[.slice a l.length c] w (fun e w' => ∃ v, e = .returned (.tuple #[v, .int .i64 (dealOf l).2]) ∧ DealAt w w' 39 v (dealOf l).1 ∧ Kp [] w w') := by
  refine enter1 Tryz.func20 rfl Tryz.ntmps20 rfl ?_
  have hz0 : ∀ W, DealAt w W 39 (dealV zd (.slice none 0 0) 0 0) zDel := fun W => ⟨_, rfl, own_nil⟩
  repeat (first|apply cA|apply cB|apply cD|apply cE|apply cF|apply cG|apply cH|apply cJ|apply cM|apply cN|apply cU|refine cV rfl ?_|apply cY|refine cZ rfl rfl rfl rfl (by first|((first|apply qmf|apply qmv|apply qas|apply qlc|apply qla|apply qfa|apply qic|apply qix|apply qpk|apply qls|apply qei|apply qni|apply qad|apply qln|apply qnt|apply qto|apply qmx)<;>(first|exact rfl|assumption|exact Ar.mk (by omega)|exact dct (by first|assumption|omega)|exact dcf (by first|assumption|omega)|exact List.not_mem_nil|apply dc_length|apply ec_length|apply dl_length|exact nm1 (by omega)|fail))|fail) ?_)
  refine SG.alloc rfl rfl rfl (fun b2 w1 hk1 hb2 hB2 => ?_)
  have hB2 : Blk w1 b2 (.cells (dl zd (.slice none 0 0) 0 0).toArray 53) := hB2
  have l2 := hB2.lt
  have s1 := hk1.size
  cases l with
  | nil =>
    have g0 : (([] : List Ofr).length : Int) = 0 := rfl
    repeat (first | first|apply cA|apply cB|apply cD|apply cE|apply cF|apply cG|apply cH|apply cJ|apply cM|apply cN|apply cU|refine cV rfl ?_|apply cY|refine cZ rfl rfl rfl rfl (by first|((first|apply qmf|apply qmv|apply qas|apply qlc|apply qla|apply qfa|apply qic|apply qix|apply qpk|apply qls|apply qei|apply qni|apply qad|apply qln|apply qnt|apply qto|apply qmx)<;>(first|exact rfl|assumption|exact Ar.mk (by omega)|exact dct (by first|assumption|omega)|exact dcf (by first|assumption|omega)|exact List.not_mem_nil|apply dc_length|apply ec_length|apply dl_length|exact nm1 (by omega)|fail))|fail) ?_ | refine dA rfl rfl ?_)
    refine dD rfl (by exact rho_of rfl) rfl ?_
    repeat (first|apply cA|apply cB|apply cD|apply cE|apply cF|apply cG|apply cH|apply cJ|apply cM|apply cN|apply cU|refine cV rfl ?_|apply cY|refine cZ rfl rfl rfl rfl (by first|((first|apply qmf|apply qmv|apply qas|apply qlc|apply qla|apply qfa|apply qic|apply qix|apply qpk|apply qls|apply qei|apply qni|apply qad|apply qln|apply qnt|apply qto|apply qmx)<;>(first|exact rfl|assumption|exact Ar.mk (by omega)|exact dct (by first|assumption|omega)|exact dcf (by first|assumption|omega)|exact List.not_mem_nil|apply dc_length|apply ec_length|apply dl_length|exact nm1 (by omega)|fail))|fail) ?_)
    refine cZ rfl rfl rfl rfl (vals_build rfl bdz) ?_
    refine SG.setAll (old := dl zd (.slice none 0 0) 0 0) (l := dl zd (.slice none 0 0) 0 0) rfl rfl (by exact rho_of rfl) (by exact rho_of rfl) hB2 (dl_length _ _ _ _) (dl_length _ _ _ _) (dl_one _ _ _ _ _ _) (fun w2 hk2 hB3 => ?_)
    have hr : Row w2 b2 0 (dl zd (.slice none 0 0) 0 0) := Row.all hB3 rfl
    repeat (first|apply cA|apply cB|apply cD|apply cE|apply cF|apply cG|apply cH|apply cJ|apply cM|apply cN|apply cU|refine cV rfl ?_|apply cY|refine cZ rfl rfl rfl rfl (by first|((first|apply qmf|apply qmv|apply qas|apply qlc|apply qla|apply qfa|apply qic|apply qix|apply qpk|apply qls|apply qei|apply qni|apply qad|apply qln|apply qnt|apply qto|apply qmx)<;>(first|exact rfl|assumption|exact Ar.mk (by omega)|exact dct (by first|assumption|omega)|exact dcf (by first|assumption|omega)|exact List.not_mem_nil|apply dc_length|apply ec_length|apply dl_length|exact nm1 (by omega)|fail))|fail) ?_)
    refine ret2 (Or.inl rfl) Tryz.results20 (ResV.agg rfl rfl hr (dl_length _ _ _ _)) (by first | exact ResV.tmp rfl | exact ResV.agg rfl rfl (by assumption) (by first | exact dc_length _ | exact nc_length _ | exact rc_length _ _ _ | exact ec_length _ | exact dl_length _ _ _ _ | rfl) | exact ResV.cell rfl rfl (by assumption)) ?_
    exact ⟨_, rfl, hz0 w2, hk1.trans_new hk2 (new1 (by omega))⟩
  | cons o r =>
    generalize hL : o :: r = l at hS hl hc ⊢
    have hpos : 0 < l.length := by rw [← hL]; simp
    have ho : l[0] = o := by subst hL; rfl
    obtain ⟨ba, oa, rfl, hr0⟩ := (hS.kp0 hk1).at hpos
    rw [ho] at hr0
    obtain ⟨-, rru, rs, -⟩ := ec_rowsO hr0
    have e0 : dealOf l = if (l.length : Int) = o.seats then (if l.all (fun x => decide x.Ok) then (if decide (l.Pairwise fitP) then (goodDel o.rules l, 0) else (zDel, 11)) else (zDel, 2)) else (zDel, 3) := by
      rw [← hL]
      rfl
    have g0 : ¬ (l.length : Int) = 0 := by omega
    by_cases hse : (l.length : Int) = o.seats
    rotate_left
    · rw [if_neg hse] at e0
      repeat (first | first|apply cA|apply cB|apply cD|apply cE|apply cF|apply cG|apply cH|apply cJ|apply cM|apply cN|apply cU|refine cV rfl ?_|apply cY|refine cZ rfl rfl rfl rfl (by first|((first|apply qmf|apply qmv|apply qas|apply qlc|apply qla|apply qfa|apply qic|apply qix|apply qpk|apply qls|apply qei|apply qni|apply qad|apply qln|apply qnt|apply qto|apply qmx)<;>(first|exact rfl|assumption|exact Ar.mk (by omega)|exact dct (by first|assumption|omega)|exact dcf (by first|assumption|omega)|exact List.not_mem_nil|apply dc_length|apply ec_length|apply dl_length|exact nm1 (by omega)|fail))|fail) ?_ | refine dA rfl rfl ?_)
      refine dD rfl (by exact rho_of rfl) rfl ?_
      repeat (first|apply cA|apply cB|apply cD|apply cE|apply cF|apply cG|apply cH|apply cJ|apply cM|apply cN|apply cU|refine cV rfl ?_|apply cY|refine cZ rfl rfl rfl rfl (by first|((first|apply qmf|apply qmv|apply qas|apply qlc|apply qla|apply qfa|apply qic|apply qix|apply qpk|apply qls|apply qei|apply qni|apply qad|apply qln|apply qnt|apply qto|apply qmx)<;>(first|exact rfl|assumption|exact Ar.mk (by omega)|exact dct (by first|assumption|omega)|exact dcf (by first|assumption|omega)|exact List.not_mem_nil|apply dc_length|apply ec_length|apply dl_length|exact nm1 (by omega)|fail))|fail) ?_)
      refine cZ rfl rfl rfl rfl (vals_build rfl bdz) ?_
      refine SG.setAll (old := dl zd (.slice none 0 0) 0 0) (l := dl zd (.slice none 0 0) 0 0) rfl rfl (by exact rho_of rfl) (by exact rho_of rfl) hB2 (dl_length _ _ _ _) (dl_length _ _ _ _) (dl_one _ _ _ _ _ _) (fun wz hkz hBz => ?_)
      have hrz : Row wz b2 0 (dl zd (.slice none 0 0) 0 0) := Row.all hBz rfl
      repeat (first|apply cA|apply cB|apply cD|apply cE|apply cF|apply cG|apply cH|apply cJ|apply cM|apply cN|apply cU|refine cV rfl ?_|apply cY|refine cZ rfl rfl rfl rfl (by first|((first|apply qmf|apply qmv|apply qas|apply qlc|apply qla|apply qfa|apply qic|apply qix|apply qpk|apply qls|apply qei|apply qni|apply qad|apply qln|apply qnt|apply qto|apply qmx)<;>(first|exact rfl|assumption|exact Ar.mk (by omega)|exact dct (by first|assumption|omega)|exact dcf (by first|assumption|omega)|exact List.not_mem_nil|apply dc_length|apply ec_length|apply dl_length|exact nm1 (by omega)|fail))|fail) ?_)
      refine ret2 (Or.inl rfl) Tryz.results20 (ResV.agg rfl rfl hrz (dl_length _ _ _ _)) (by first | exact ResV.tmp rfl | exact ResV.agg rfl rfl (by assumption) (by first | exact dc_length _ | exact nc_length _ | exact rc_length _ _ _ | exact ec_length _ | exact dl_length _ _ _ _ | rfl) | exact ResV.cell rfl rfl (by assumption)) ?_
      rw [e0]
      exact ⟨_, rfl, hz0 wz, hk1.trans_new hkz (new1 (by omega))⟩
    rw [if_pos hse] at e0
    repeat (first | first|apply cA|apply cB|apply cD|apply cE|apply cF|apply cG|apply cH|apply cJ|apply cM|apply cN|apply cU|refine cV rfl ?_|apply cY|refine cZ rfl rfl rfl rfl (by first|((first|apply qmf|apply qmv|apply qas|apply qlc|apply qla|apply qfa|apply qic|apply qix|apply qpk|apply qls|apply qei|apply qni|apply qad|apply qln|apply qnt|apply qto|apply qmx)<;>(first|exact rfl|assumption|exact Ar.mk (by omega)|exact dct (by first|assumption|omega)|exact dcf (by first|assumption|omega)|exact List.not_mem_nil|apply dc_length|apply ec_length|apply dl_length|exact nm1 (by omega)|fail))|fail) ?_ | refine dA rfl rfl ?_)
    refine dE rfl (by exact rho_of rfl) rfl ?_
    repeat (first|apply cA|apply cB|apply cD|apply cE|apply cF|apply cG|apply cH|apply cJ|apply cM|apply cN|apply cU|refine cV rfl ?_|apply cY|refine cZ rfl rfl rfl rfl (by first|((first|apply qmf|apply qmv|apply qas|apply qlc|apply qla|apply qfa|apply qic|apply qix|apply qpk|apply qls|apply qei|apply qni|apply qad|apply qln|apply qnt|apply qto|apply qmx)<;>(first|exact rfl|assumption|exact Ar.mk (by omega)|exact dct (by first|assumption|omega)|exact dcf (by first|assumption|omega)|exact List.not_mem_nil|apply dc_length|apply ec_length|apply dl_length|exact nm1 (by omega)|fail))|fail) ?_)
    refine CG.loop (X := Nat) (fun i => [(0, .slice (some ⟨ba, oa, none⟩) l.length c), (2, .pointer (some ⟨b2, 0, none⟩)), (25, .slice (some ⟨ba, oa, none⟩) l.length c), (26, .int .i64 (l.length : Int)), (27, .int .i64 (i : Int))]) (fun i w' => i ≤ l.length ∧ Kp [] w1 w' ∧ ∀ j (h : j < l.length), j < i → l[j].Ok) (fun i => l.length - i) 0 ⟨by omega, Kp.refl _ _, fun j _ h => absurd h (Nat.not_lt_zero j)⟩ (by (repeat' (first | exact True.intro | exact rfl | refine And.intro ?_ ?_))) ?_
    rintro i w2 ⟨hi, hk2, hall⟩
    have hB2 := hB2.kp0 hk2
    by_cases hlt : i < l.length
    · have g1 : (i : Int) < (l.length : Int) := by omega
      have hri := (hS.kp0 (hk1.trans hk2)).row (List.getElem?_eq_getElem hlt)
      repeat (first|apply cA|apply cB|apply cD|apply cE|apply cF|apply cG|apply cH|apply cJ|apply cM|apply cN|apply cU|refine cV rfl ?_|apply cY|refine cZ rfl rfl rfl rfl (by first|((first|apply qmf|apply qmv|apply qas|apply qlc|apply qla|apply qfa|apply qic|apply qix|apply qpk|apply qls|apply qei|apply qni|apply qad|apply qln|apply qnt|apply qto|apply qmx)<;>(first|exact rfl|assumption|exact Ar.mk (by omega)|exact dct (by first|assumption|omega)|exact dcf (by first|assumption|omega)|exact List.not_mem_nil|apply dc_length|apply ec_length|apply dl_length|exact nm1 (by omega)|fail))|fail) ?_)
      refine dD rfl (by exact rho_of rfl) rfl ?_
      repeat (first|apply cA|apply cB|apply cD|apply cE|apply cF|apply cG|apply cH|apply cJ|apply cM|apply cN|apply cU|refine cV rfl ?_|apply cY|refine cZ rfl rfl rfl rfl (by first|((first|apply qmf|apply qmv|apply qas|apply qlc|apply qla|apply qfa|apply qic|apply qix|apply qpk|apply qls|apply qei|apply qni|apply qad|apply qln|apply qnt|apply qto|apply qmx)<;>(first|exact rfl|assumption|exact Ar.mk (by omega)|exact dct (by first|assumption|omega)|exact dcf (by first|assumption|omega)|exact List.not_mem_nil|apply dc_length|apply ec_length|apply dl_length|exact nm1 (by omega)|fail))|fail) ?_)
      refine SG.alloc rfl rfl rfl (fun b5 w3 hk3 hb5 hB5 => ?_)
      refine SG.setAll (l := ec l[i]) rfl rfl (by exact rho_of rfl) (by exact rho_of rfl) hB5 (ec_length _) rfl (ec_one _) (fun w4 hk4 hB6 => ?_)
      have hr6 : Row w4 b5 0 (ec l[i]) := Row.all hB6 rfl
      have k4 : Kp [] w2 w4 := hk3.trans_new hk4 (new1 (by omega))
      repeat (first|apply cA|apply cB|apply cD|apply cE|apply cF|apply cG|apply cH|apply cJ|apply cM|apply cN|apply cU|refine cV rfl ?_|apply cY|refine cZ rfl rfl rfl rfl (by first|((first|apply qmf|apply qmv|apply qas|apply qlc|apply qla|apply qfa|apply qic|apply qix|apply qpk|apply qls|apply qei|apply qni|apply qad|apply qln|apply qnt|apply qto|apply qmx)<;>(first|exact rfl|assumption|exact Ar.mk (by omega)|exact dct (by first|assumption|omega)|exact dcf (by first|assumption|omega)|exact List.not_mem_nil|apply dc_length|apply ec_length|apply dl_length|exact nm1 (by omega)|fail))|fail) ?_)
      refine SG.ret rfl rfl rfl (vs := [ov l[i]]) (by repeat' (first | exact True.intro | exact rho_of rfl | refine And.intro ?_ ?_)) (check_spec l[i] w4) (fun w5 hk5 => ?_)
      have k5 := k4.trans hk5
      by_cases hok : l[i].Ok
      · have g2 : (if l[i].Ok then 0 else 2 : Int) = 0 := if_pos hok
        rw [g2]
        repeat (first|apply cA|apply cB|apply cD|apply cE|apply cF|apply cG|apply cH|apply cJ|apply cM|apply cN|apply cU|refine cV rfl ?_|apply cY|refine cZ rfl rfl rfl rfl (by first|((first|apply qmf|apply qmv|apply qas|apply qlc|apply qla|apply qfa|apply qic|apply qix|apply qpk|apply qls|apply qei|apply qni|apply qad|apply qln|apply qnt|apply qto|apply qmx)<;>(first|exact rfl|assumption|exact Ar.mk (by omega)|exact dct (by first|assumption|omega)|exact dcf (by first|assumption|omega)|exact List.not_mem_nil|apply dc_length|apply ec_length|apply dl_length|exact nm1 (by omega)|fail))|fail) ?_)
        refine dE rfl (by exact rho_of rfl) rfl ?_
        repeat (first|apply cA|apply cB|apply cD|apply cE|apply cF|apply cG|apply cH|apply cJ|apply cM|apply cN|apply cU|refine cV rfl ?_|apply cY|refine cZ rfl rfl rfl rfl (by first|((first|apply qmf|apply qmv|apply qas|apply qlc|apply qla|apply qfa|apply qic|apply qix|apply qpk|apply qls|apply qei|apply qni|apply qad|apply qln|apply qnt|apply qto|apply qmx)<;>(first|exact rfl|assumption|exact Ar.mk (by omega)|exact dct (by first|assumption|omega)|exact dcf (by first|assumption|omega)|exact List.not_mem_nil|apply dc_length|apply ec_length|apply dl_length|exact nm1 (by omega)|fail))|fail) ?_)
        refine NG.round (i + 1) (by (repeat' (first | exact True.intro | exact rfl | refine And.intro ?_ ?_))) ⟨by omega, hk2.trans k5, fun j h hj => ?_⟩ (by omega)
        by_cases e : j = i
        · subst e; exact hok
        · exact hall j h (by omega)
      · have g2 : (if l[i].Ok then 0 else 2 : Int) = 2 := if_neg hok
        have hno : ¬ (l.all (fun x => decide x.Ok) = true) := fun h => by
          have := List.all_eq_true.1 h l[i] (List.getElem_mem hlt)
          exact hok (of_decide_eq_true this)
        rw [if_neg hno] at e0
        rw [g2]
        repeat (first|apply cA|apply cB|apply cD|apply cE|apply cF|apply cG|apply cH|apply cJ|apply cM|apply cN|apply cU|refine cV rfl ?_|apply cY|refine cZ rfl rfl rfl rfl (by first|((first|apply qmf|apply qmv|apply qas|apply qlc|apply qla|apply qfa|apply qic|apply qix|apply qpk|apply qls|apply qei|apply qni|apply qad|apply qln|apply qnt|apply qto|apply qmx)<;>(first|exact rfl|assumption|exact Ar.mk (by omega)|exact dct (by first|assumption|omega)|exact dcf (by first|assumption|omega)|exact List.not_mem_nil|apply dc_length|apply ec_length|apply dl_length|exact nm1 (by omega)|fail))|fail) ?_)
        refine dD rfl (by exact rho_of rfl) rfl ?_
        repeat (first|apply cA|apply cB|apply cD|apply cE|apply cF|apply cG|apply cH|apply cJ|apply cM|apply cN|apply cU|refine cV rfl ?_|apply cY|refine cZ rfl rfl rfl rfl (by first|((first|apply qmf|apply qmv|apply qas|apply qlc|apply qla|apply qfa|apply qic|apply qix|apply qpk|apply qls|apply qei|apply qni|apply qad|apply qln|apply qnt|apply qto|apply qmx)<;>(first|exact rfl|assumption|exact Ar.mk (by omega)|exact dct (by first|assumption|omega)|exact dcf (by first|assumption|omega)|exact List.not_mem_nil|apply dc_length|apply ec_length|apply dl_length|exact nm1 (by omega)|fail))|fail) ?_)
        refine cZ rfl rfl rfl rfl (vals_build rfl bdz) ?_
        refine SG.setAll (old := dl zd (.slice none 0 0) 0 0) (l := dl zd (.slice none 0 0) 0 0) rfl rfl (by exact rho_of rfl) (by exact rho_of rfl) (hB2.kp0 k5) (dl_length _ _ _ _) (dl_length _ _ _ _) (dl_one _ _ _ _ _ _) (fun wz hkz hBz => ?_)
        have hrz : Row wz b2 0 (dl zd (.slice none 0 0) 0 0) := Row.all hBz rfl
        repeat (first|apply cA|apply cB|apply cD|apply cE|apply cF|apply cG|apply cH|apply cJ|apply cM|apply cN|apply cU|refine cV rfl ?_|apply cY|refine cZ rfl rfl rfl rfl (by first|((first|apply qmf|apply qmv|apply qas|apply qlc|apply qla|apply qfa|apply qic|apply qix|apply qpk|apply qls|apply qei|apply qni|apply qad|apply qln|apply qnt|apply qto|apply qmx)<;>(first|exact rfl|assumption|exact Ar.mk (by omega)|exact dct (by first|assumption|omega)|exact dcf (by first|assumption|omega)|exact List.not_mem_nil|apply dc_length|apply ec_length|apply dl_length|exact nm1 (by omega)|fail))|fail) ?_)
        refine ret2 (Or.inl rfl) Tryz.results20 (ResV.agg rfl rfl hrz (dl_length _ _ _ _)) (by first | exact ResV.tmp rfl | exact ResV.agg rfl rfl (by assumption) (by first | exact dc_length _ | exact nc_length _ | exact rc_length _ _ _ | exact ec_length _ | exact dl_length _ _ _ _ | rfl) | exact ResV.cell rfl rfl (by assumption)) ?_
        rw [e0]
        exact ⟨_, rfl, hz0 wz, (hk1.trans (hk2.trans k5)).trans_new hkz (new1 (by omega))⟩
    have g1 : ¬ (i : Int) < (l.length : Int) := by omega
    have hok : l.all (fun x => decide x.Ok) = true := List.all_eq_true.2 (fun x hx => by
      obtain ⟨j, hj, rfl⟩ := List.getElem_of_mem hx
      exact decide_eq_true (hall j hj (by omega)))
    rw [if_pos hok] at e0
    clear hall
    repeat (first|apply cA|apply cB|apply cD|apply cE|apply cF|apply cG|apply cH|apply cJ|apply cM|apply cN|apply cU|refine cV rfl ?_|apply cY|refine cZ rfl rfl rfl rfl (by first|((first|apply qmf|apply qmv|apply qas|apply qlc|apply qla|apply qfa|apply qic|apply qix|apply qpk|apply qls|apply qei|apply qni|apply qad|apply qln|apply qnt|apply qto|apply qmx)<;>(first|exact rfl|assumption|exact Ar.mk (by omega)|exact dct (by first|assumption|omega)|exact dcf (by first|assumption|omega)|exact List.not_mem_nil|apply dc_length|apply ec_length|apply dl_length|exact nm1 (by omega)|fail))|fail) ?_)
    refine dE rfl (by exact rho_of rfl) rfl ?_
    repeat (first|apply cA|apply cB|apply cD|apply cE|apply cF|apply cG|apply cH|apply cJ|apply cM|apply cN|apply cU|refine cV rfl ?_|apply cY|refine cZ rfl rfl rfl rfl (by first|((first|apply qmf|apply qmv|apply qas|apply qlc|apply qla|apply qfa|apply qic|apply qix|apply qpk|apply qls|apply qei|apply qni|apply qad|apply qln|apply qnt|apply qto|apply qmx)<;>(first|exact rfl|assumption|exact Ar.mk (by omega)|exact dct (by first|assumption|omega)|exact dcf (by first|assumption|omega)|exact List.not_mem_nil|apply dc_length|apply ec_length|apply dl_length|exact nm1 (by omega)|fail))|fail) ?_)
    refine CG.loop (X := Nat) (fun i => [(0, .slice (some ⟨ba, oa, none⟩) l.length c), (2, .pointer (some ⟨b2, 0, none⟩)), (36, .slice (some ⟨ba, oa, none⟩) l.length c), (37, .int .i64 (l.length : Int)), (38, .int .i64 (i : Int))]) (fun i w' => i ≤ l.length ∧ Kp [] w2 w' ∧ (l.take i).Pairwise fitP) (fun i => l.length - i) 0 ⟨by omega, Kp.refl _ _, List.Pairwise.nil⟩ (by (repeat' (first | exact True.intro | exact rfl | refine And.intro ?_ ?_))) ?_
    clear hi g1 hlt i
    rintro i w3 ⟨hi, hk3, hpw⟩
    have hB2 := hB2.kp0 hk3
    by_cases hlt : i < l.length
    · have g1 : (i : Int) < (l.length : Int) := by omega
      have k3 := (hk1.trans hk2).trans hk3
      have hri := (hS.kp0 k3).row (List.getElem?_eq_getElem hlt)
      have hlen : (l.take i).length = i := by rw [List.length_take]; omega
      repeat (first|apply cA|apply cB|apply cD|apply cE|apply cF|apply cG|apply cH|apply cJ|apply cM|apply cN|apply cU|refine cV rfl ?_|apply cY|refine cZ rfl rfl rfl rfl (by first|((first|apply qmf|apply qmv|apply qas|apply qlc|apply qla|apply qfa|apply qic|apply qix|apply qpk|apply qls|apply qei|apply qni|apply qad|apply qln|apply qnt|apply qto|apply qmx)<;>(first|exact rfl|assumption|exact Ar.mk (by omega)|exact dct (by first|assumption|omega)|exact dcf (by first|assumption|omega)|exact List.not_mem_nil|apply dc_length|apply ec_length|apply dl_length|exact nm1 (by omega)|fail))|fail) ?_)
      refine dD rfl (by exact rho_of rfl) rfl ?_
      repeat (first|apply cA|apply cB|apply cD|apply cE|apply cF|apply cG|apply cH|apply cJ|apply cM|apply cN|apply cU|refine cV rfl ?_|apply cY|refine cZ rfl rfl rfl rfl (by first|((first|apply qmf|apply qmv|apply qas|apply qlc|apply qla|apply qfa|apply qic|apply qix|apply qpk|apply qls|apply qei|apply qni|apply qad|apply qln|apply qnt|apply qto|apply qmx)<;>(first|exact rfl|assumption|exact Ar.mk (by omega)|exact dct (by first|assumption|omega)|exact dcf (by first|assumption|omega)|exact List.not_mem_nil|apply dc_length|apply ec_length|apply dl_length|exact nm1 (by omega)|fail))|fail) ?_)
      refine SG.alloc rfl rfl rfl (fun b5 w4 hk4 hb5 hB5 => ?_)
      repeat (first|apply cA|apply cB|apply cD|apply cE|apply cF|apply cG|apply cH|apply cJ|apply cM|apply cN|apply cU|refine cV rfl ?_|apply cY|refine cZ rfl rfl rfl rfl (by first|((first|apply qmf|apply qmv|apply qas|apply qlc|apply qla|apply qfa|apply qic|apply qix|apply qpk|apply qls|apply qei|apply qni|apply qad|apply qln|apply qnt|apply qto|apply qmx)<;>(first|exact rfl|assumption|exact Ar.mk (by omega)|exact dct (by first|assumption|omega)|exact dcf (by first|assumption|omega)|exact List.not_mem_nil|apply dc_length|apply ec_length|apply dl_length|exact nm1 (by omega)|fail))|fail) ?_)
      refine SG.setAll (l := ec l[i]) rfl rfl (by exact rho_of rfl) (by exact rho_of rfl) hB5 (ec_length _) rfl (ec_one _) (fun w5 hk5 hB6 => ?_)
      have hr6 : Row w5 b5 0 (ec l[i]) := Row.all hB6 rfl
      have k5 : Kp [] w3 w5 := hk4.trans_new hk5 (new1 (by omega))
      have hf : ∀ W, Kp [] w5 W → Ret Tryz.prog 30 #[.slice (some ⟨ba, oa, none⟩) i c, ov l[i]] W (.bool (!(l.take i).any (fun x => !decide (fitP x l[i])))) := fun W hk => by
        have := fits_spec (c := c) (((hS.take i).kp0 (k3.trans k5)).kp0 hk) (by rw [hlen]; omega) l[i]
        rwa [hlen] at this
      have hbt := pw_take hlt hpw
      have hbf := pw_not (l := l) hlt
      generalize (l.take i).any (fun x => !decide (fitP x l[i])) = bb at hf hbt hbf
      repeat (first|apply cA|apply cB|apply cD|apply cE|apply cF|apply cG|apply cH|apply cJ|apply cM|apply cN|apply cU|refine cV rfl ?_|apply cY|refine cZ rfl rfl rfl rfl (by first|((first|apply qmf|apply qmv|apply qas|apply qlc|apply qla|apply qfa|apply qic|apply qix|apply qpk|apply qls|apply qei|apply qni|apply qad|apply qln|apply qnt|apply qto|apply qmx)<;>(first|exact rfl|assumption|exact Ar.mk (by omega)|exact dct (by first|assumption|omega)|exact dcf (by first|assumption|omega)|exact List.not_mem_nil|apply dc_length|apply ec_length|apply dl_length|exact nm1 (by omega)|fail))|fail) ?_)
      refine CG.draw0 mixed [0, 1, 2, 3, 4, 5] [] (by kernel_rfl) ?_
      repeat (refine dB rfl rfl rfl (by first|((first|apply qmf|apply qmv|apply qas|apply qlc|apply qla|apply qfa|apply qic|apply qix|apply qpk|apply qls|apply qei|apply qni|apply qad|apply qln|apply qnt|apply qto|apply qmx)<;>(first|exact rfl|assumption|exact Ar.mk (by omega)|exact dct (by first|assumption|omega)|exact dcf (by first|assumption|omega)|exact List.not_mem_nil|apply dc_length|apply ec_length|apply dl_length|exact nm1 (by omega)|fail))|fail) ?_)
      refine Der.call rfl rfl rfl (vs := [.slice (some ⟨ba, oa, none⟩) i c, ov l[i]]) (by repeat' (first | exact True.intro | exact rho_of rfl | refine And.intro ?_ ?_)) (fun W hk _ => hf W hk) ?_
      repeat (refine dB rfl rfl rfl (by first|((first|apply qmf|apply qmv|apply qas|apply qlc|apply qla|apply qfa|apply qic|apply qix|apply qpk|apply qls|apply qei|apply qni|apply qad|apply qln|apply qnt|apply qto|apply qmx)<;>(first|exact rfl|assumption|exact Ar.mk (by omega)|exact dct (by first|assumption|omega)|exact dcf (by first|assumption|omega)|exact List.not_mem_nil|apply dc_length|apply ec_length|apply dl_length|exact nm1 (by omega)|fail))|fail) ?_)
      refine Der.fin (fun w6 hk6 _ _ => ?_)
      have k6 := k5.trans hk6
      cases bb with
      | false =>
        repeat (first|apply cA|apply cB|apply cD|apply cE|apply cF|apply cG|apply cH|apply cJ|apply cM|apply cN|apply cU|refine cV rfl ?_|apply cY|refine cZ rfl rfl rfl rfl (by first|((first|apply qmf|apply qmv|apply qas|apply qlc|apply qla|apply qfa|apply qic|apply qix|apply qpk|apply qls|apply qei|apply qni|apply qad|apply qln|apply qnt|apply qto|apply qmx)<;>(first|exact rfl|assumption|exact Ar.mk (by omega)|exact dct (by first|assumption|omega)|exact dcf (by first|assumption|omega)|exact List.not_mem_nil|apply dc_length|apply ec_length|apply dl_length|exact nm1 (by omega)|fail))|fail) ?_)
        refine dE rfl (by exact rho_of rfl) rfl ?_
        repeat (first|apply cA|apply cB|apply cD|apply cE|apply cF|apply cG|apply cH|apply cJ|apply cM|apply cN|apply cU|refine cV rfl ?_|apply cY|refine cZ rfl rfl rfl rfl (by first|((first|apply qmf|apply qmv|apply qas|apply qlc|apply qla|apply qfa|apply qic|apply qix|apply qpk|apply qls|apply qei|apply qni|apply qad|apply qln|apply qnt|apply qto|apply qmx)<;>(first|exact rfl|assumption|exact Ar.mk (by omega)|exact dct (by first|assumption|omega)|exact dcf (by first|assumption|omega)|exact List.not_mem_nil|apply dc_length|apply ec_length|apply dl_length|exact nm1 (by omega)|fail))|fail) ?_)
        refine NG.round (i + 1) (by (repeat' (first | exact True.intro | exact rfl | refine And.intro ?_ ?_))) ⟨by omega, hk3.trans k6, hbt rfl⟩ (by omega)
      | true =>
        have hno : ¬ (decide (l.Pairwise fitP) = true) := fun h => hbf rfl (of_decide_eq_true h)
        rw [if_neg hno] at e0
        repeat (first|apply cA|apply cB|apply cD|apply cE|apply cF|apply cG|apply cH|apply cJ|apply cM|apply cN|apply cU|refine cV rfl ?_|apply cY|refine cZ rfl rfl rfl rfl (by first|((first|apply qmf|apply qmv|apply qas|apply qlc|apply qla|apply qfa|apply qic|apply qix|apply qpk|apply qls|apply qei|apply qni|apply qad|apply qln|apply qnt|apply qto|apply qmx)<;>(first|exact rfl|assumption|exact Ar.mk (by omega)|exact dct (by first|assumption|omega)|exact dcf (by first|assumption|omega)|exact List.not_mem_nil|apply dc_length|apply ec_length|apply dl_length|exact nm1 (by omega)|fail))|fail) ?_)
        refine dD rfl (by exact rho_of rfl) rfl ?_
        repeat (first|apply cA|apply cB|apply cD|apply cE|apply cF|apply cG|apply cH|apply cJ|apply cM|apply cN|apply cU|refine cV rfl ?_|apply cY|refine cZ rfl rfl rfl rfl (by first|((first|apply qmf|apply qmv|apply qas|apply qlc|apply qla|apply qfa|apply qic|apply qix|apply qpk|apply qls|apply qei|apply qni|apply qad|apply qln|apply qnt|apply qto|apply qmx)<;>(first|exact rfl|assumption|exact Ar.mk (by omega)|exact dct (by first|assumption|omega)|exact dcf (by first|assumption|omega)|exact List.not_mem_nil|apply dc_length|apply ec_length|apply dl_length|exact nm1 (by omega)|fail))|fail) ?_)
        refine cZ rfl rfl rfl rfl (vals_build rfl bdz) ?_
        refine SG.setAll (old := dl zd (.slice none 0 0) 0 0) (l := dl zd (.slice none 0 0) 0 0) rfl rfl (by exact rho_of rfl) (by exact rho_of rfl) (hB2.kp0 k6) (dl_length _ _ _ _) (dl_length _ _ _ _) (dl_one _ _ _ _ _ _) (fun wz hkz hBz => ?_)
        have hrz : Row wz b2 0 (dl zd (.slice none 0 0) 0 0) := Row.all hBz rfl
        repeat (first|apply cA|apply cB|apply cD|apply cE|apply cF|apply cG|apply cH|apply cJ|apply cM|apply cN|apply cU|refine cV rfl ?_|apply cY|refine cZ rfl rfl rfl rfl (by first|((first|apply qmf|apply qmv|apply qas|apply qlc|apply qla|apply qfa|apply qic|apply qix|apply qpk|apply qls|apply qei|apply qni|apply qad|apply qln|apply qnt|apply qto|apply qmx)<;>(first|exact rfl|assumption|exact Ar.mk (by omega)|exact dct (by first|assumption|omega)|exact dcf (by first|assumption|omega)|exact List.not_mem_nil|apply dc_length|apply ec_length|apply dl_length|exact nm1 (by omega)|fail))|fail) ?_)
        refine ret2 (Or.inl rfl) Tryz.results20 (ResV.agg rfl rfl hrz (dl_length _ _ _ _)) (by first | exact ResV.tmp rfl | exact ResV.agg rfl rfl (by assumption) (by first | exact dc_length _ | exact nc_length _ | exact rc_length _ _ _ | exact ec_length _ | exact dl_length _ _ _ _ | rfl) | exact ResV.cell rfl rfl (by assumption)) ?_
        rw [e0]
        exact ⟨_, rfl, hz0 wz, (hk1.trans (hk2.trans (hk3.trans k6))).trans_new hkz (new1 (by omega))⟩
    have g1 : ¬ (i : Int) < (l.length : Int) := by omega
    rw [List.take_of_length_le (by omega)] at hpw
    rw [if_pos (decide_eq_true hpw)] at e0
    have k3 := (hk1.trans hk2).trans hk3
    have k13 := hk2.trans hk3
    have rru := rru.kp0 k13
    repeat (first|apply cA|apply cB|apply cD|apply cE|apply cF|apply cG|apply cH|apply cJ|apply cM|apply cN|apply cU|refine cV rfl ?_|apply cY|refine cZ rfl rfl rfl rfl (by first|((first|apply qmf|apply qmv|apply qas|apply qlc|apply qla|apply qfa|apply qic|apply qix|apply qpk|apply qls|apply qei|apply qni|apply qad|apply qln|apply qnt|apply qto|apply qmx)<;>(first|exact rfl|assumption|exact Ar.mk (by omega)|exact dct (by first|assumption|omega)|exact dcf (by first|assumption|omega)|exact List.not_mem_nil|apply dc_length|apply ec_length|apply dl_length|exact nm1 (by omega)|fail))|fail) ?_)
    refine dE rfl (by exact rho_of rfl) rfl ?_
    repeat (first|apply cA|apply cB|apply cD|apply cE|apply cF|apply cG|apply cH|apply cJ|apply cM|apply cN|apply cU|refine cV rfl ?_|apply cY|refine cZ rfl rfl rfl rfl (by first|((first|apply qmf|apply qmv|apply qas|apply qlc|apply qla|apply qfa|apply qic|apply qix|apply qpk|apply qls|apply qei|apply qni|apply qad|apply qln|apply qnt|apply qto|apply qmx)<;>(first|exact rfl|assumption|exact Ar.mk (by omega)|exact dct (by first|assumption|omega)|exact dcf (by first|assumption|omega)|exact List.not_mem_nil|apply dc_length|apply ec_length|apply dl_length|exact nm1 (by omega)|fail))|fail) ?_)
    refine cZ rfl rfl rfl rfl (vals_build rfl (bdr _)) ?_
    refine SG.alloc rfl rfl rfl (fun b8 w4 hk4 hb8 hB8 => ?_)
    refine SG.setAll (l := dl o.rules (.slice none 0 0) 0 0) rfl rfl (by exact rho_of rfl) (by exact rho_of rfl) hB8 (dl_length _ _ _ _) rfl (dl_one _ _ _ _ _ _) (fun w5 hk5 hB9 => ?_)
    have hB9 : Blk w5 b8 (.cells (dl o.rules (.slice none 0 0) 0 0).toArray 53) := hB9
    have s3 := k3.size
    have s13 := k13.size
    have s4 := hk4.size
    have s5 := hk5.size
    have l8 := hB9.lt
    have k5 : Kp [] w3 w5 := hk4.trans_new hk5 (new1 (by omega))
    repeat (first|apply cA|apply cB|apply cD|apply cE|apply cF|apply cG|apply cH|apply cJ|apply cM|apply cN|apply cU|refine cV rfl ?_|apply cY|refine cZ rfl rfl rfl rfl (by first|((first|apply qmf|apply qmv|apply qas|apply qlc|apply qla|apply qfa|apply qic|apply qix|apply qpk|apply qls|apply qei|apply qni|apply qad|apply qln|apply qnt|apply qto|apply qmx)<;>(first|exact rfl|assumption|exact Ar.mk (by omega)|exact dct (by first|assumption|omega)|exact dcf (by first|assumption|omega)|exact List.not_mem_nil|apply dc_length|apply ec_length|apply dl_length|exact nm1 (by omega)|fail))|fail) ?_)
    refine CG.loop (X := Value × Nat) (fun x => [(0, .slice (some ⟨ba, oa, none⟩) l.length c), (2, .pointer (some ⟨b2, 0, none⟩)), (8, .pointer (some ⟨b8, 0, none⟩)), (56, .slice (some ⟨ba, oa, none⟩) l.length c), (57, .int .i64 (l.length : Int)), (58, .int .i64 (x.2 : Int))])
      (fun x w' => x.2 ≤ l.length ∧ Kp [] w3 w' ∧ w5.heap.size ≤ w'.heap.size ∧ Blk w' b8 (.cells (dl o.rules x.1 (maxs (·.least) (l.take x.2)) (maxs (·.window) (l.take x.2))).toArray 53) ∧ w'.ownsRow w3.heap.size 39 8 x.1 ((l.take x.2).map (·.who)).length (flt dc ((l.take x.2).map (·.who)))) (fun x => l.length - x.2) (.slice none 0 0, 0) ⟨by simp only; omega, k5, Nat.le_refl _, by simp only [List.take_zero, maxs_nil]; exact hB9, own_nil⟩ (by (repeat' (first | exact True.intro | exact rfl | refine And.intro ?_ ?_))) ?_
    clear hi g1 hlt i hpw
    rintro ⟨v, i⟩ w6 ⟨hi, hk6, s6, hB, hov⟩
    simp only at hi hB hov
    refine CG.to [(0, .slice (some ⟨ba, oa, none⟩) l.length c), (2, .pointer (some ⟨b2, 0, none⟩)), (8, .pointer (some ⟨b8, 0, none⟩)), (56, .slice (some ⟨ba, oa, none⟩) l.length c), (57, .int .i64 (l.length : Int)), (58, .int .i64 (i : Int))] (by (repeat' (first | exact True.intro | exact rfl | refine And.intro ?_ ?_))) ?_
    have hlen : ((l.take i).map (·.who)).length = i := by rw [List.length_map, List.length_take]; omega
    obtain ⟨av, cv, rfl, hcv, hSv⟩ := Sl.own dc_length hov rfl
    by_cases hlt : i < l.length
    · have g1 : (i : Int) < (l.length : Int) := by omega
      have hri := (hS.kp0 (k3.trans hk6)).row (List.getElem?_eq_getElem hlt)
      have em1 := maxs_snoc (·.least) l i hlt
      have em2 := maxs_snoc (·.window) l i hlt
      repeat (first|apply cA|apply cB|apply cD|apply cE|apply cF|apply cG|apply cH|apply cJ|apply cM|apply cN|apply cU|refine cV rfl ?_|apply cY|refine cZ rfl rfl rfl rfl (by first|((first|apply qmf|apply qmv|apply qas|apply qlc|apply qla|apply qfa|apply qic|apply qix|apply qpk|apply qls|apply qei|apply qni|apply qad|apply qln|apply qnt|apply qto|apply qmx)<;>(first|exact rfl|assumption|exact Ar.mk (by omega)|exact dct (by first|assumption|omega)|exact dcf (by first|assumption|omega)|exact List.not_mem_nil|apply dc_length|apply ec_length|apply dl_length|exact nm1 (by omega)|fail))|fail) ?_)
      refine dD rfl (by exact rho_of rfl) rfl ?_
      repeat (first|apply cA|apply cB|apply cD|apply cE|apply cF|apply cG|apply cH|apply cJ|apply cM|apply cN|apply cU|refine cV rfl ?_|apply cY|refine cZ rfl rfl rfl rfl (by first|((first|apply qmf|apply qmv|apply qas|apply qlc|apply qla|apply qfa|apply qic|apply qix|apply qpk|apply qls|apply qei|apply qni|apply qad|apply qln|apply qnt|apply qto|apply qmx)<;>(first|exact rfl|assumption|exact Ar.mk (by omega)|exact dct (by first|assumption|omega)|exact dcf (by first|assumption|omega)|exact List.not_mem_nil|apply dc_length|apply ec_length|apply dl_length|exact nm1 (by omega)|fail))|fail) ?_)
      refine SG.alloc rfl rfl rfl (fun b10 w7 hk7 hb10 hB10 => ?_)
      refine SG.setAll (l := ec l[i]) rfl rfl (by exact rho_of rfl) (by exact rho_of rfl) hB10 (ec_length _) rfl (ec_one _) (fun w8 hk8 hB11 => ?_)
      have hB11 : Blk w8 b10 (.cells (ec l[i]).toArray 41) := hB11
      have k8 : Kp [] w6 w8 := hk7.trans_new hk8 (new1 (by omega))
      obtain ⟨q0, -, -, q3, -, q5, -, -⟩ := ec_rows hB11
      have hBa := hB.kp0 k8
      obtain ⟨-, d1, d2, d3, -⟩ := dl_rows hBa
      have s7 := hk7.size
      have l10 := hB11.lt
      repeat (first|apply cA|apply cB|apply cD|apply cE|apply cF|apply cG|apply cH|apply cJ|apply cM|apply cN|apply cU|refine cV rfl ?_|apply cY|refine cZ rfl rfl rfl rfl (by first|((first|apply qmf|apply qmv|apply qas|apply qlc|apply qla|apply qfa|apply qic|apply qix|apply qpk|apply qls|apply qei|apply qni|apply qad|apply qln|apply qnt|apply qto|apply qmx)<;>(first|exact rfl|assumption|exact Ar.mk (by omega)|exact dct (by first|assumption|omega)|exact dcf (by first|assumption|omega)|exact List.not_mem_nil|apply dc_length|apply ec_length|apply dl_length|exact nm1 (by omega)|fail))|fail) ?_)
      refine SG.buildSlice rfl rfl rfl rfl (bsg _) (fun b12 w9 hk9 hb12 hB12 => ?_)
      have k9 := k8.trans hk9
      have hov9 := own_kp0 hov k9
      refine SG.appO (enc := dc) (xs := (l.take i).map (·.who)) (ys := [l[i].who]) (base := w3.heap.size) rfl rfl rfl (by exact rho_of rfl) (by exact rho_of rfl) rfl rfl rfl rfl dc_length dc_one hov9 (sl_one dc_length hB12) (by rw [hlen]; simp only [maxLen, List.length_cons, List.length_nil]; omega) (by rw [hlen]; show (i + 1) * 8 ≤ _; omega) (hk6.trans k9).size (fun v13 w10 hk10 ho13 _ => ?_)
      have e : (l.take i).map (·.who) ++ [l[i].who] = (l.take (i + 1)).map (·.who) := by rw [List.take_succ_eq_append_getElem hlt, List.map_append]; rfl
      rw [e] at ho13
      have hBb := blk_own hov9 (by decide) (hBa.kp0 hk9) hk10
      have hBo := blk_own hov9 (by decide) (hB11.kp0 hk9) hk10
      have k10 : Kp [] w3 w10 := (hk6.trans k9).trans_new hk10 (own_new hov9 (Nat.le_refl _))
      obtain ⟨a13, c13, rfl, _, _⟩ := Sl.own dc_length ho13 rfl
      repeat (first|apply cA|apply cB|apply cD|apply cE|apply cF|apply cG|apply cH|apply cJ|apply cM|apply cN|apply cU|refine cV rfl ?_|apply cY|refine cZ rfl rfl rfl rfl (by first|((first|apply qmf|apply qmv|apply qas|apply qlc|apply qla|apply qfa|apply qic|apply qix|apply qpk|apply qls|apply qei|apply qni|apply qad|apply qln|apply qnt|apply qto|apply qmx)<;>(first|exact rfl|assumption|exact Ar.mk (by omega)|exact dct (by first|assumption|omega)|exact dcf (by first|assumption|omega)|exact List.not_mem_nil|apply dc_length|apply ec_length|apply dl_length|exact nm1 (by omega)|fail))|fail) ?_)
      refine SG.store rfl rfl (by exact rho_of rfl) (by exact rho_of rfl) hBb rfl (by show 8 + 1 ≤ _; simp [dl_length]) rfl (fun w11 hk11 hBc => ?_)
      have ho14 := own_kp ho13 hk11 (own_neb ho13 (by decide) hBb)
      have hBc : Blk w11 b8 (.cells (spl (dl o.rules (.slice av ((l.take i).map (·.who)).length cv) (maxs (·.least) (l.take i)) (maxs (·.window) (l.take i))) 8 [.slice a13 ((l.take (i + 1)).map (·.who)).length c13]).toArray 53) := hBc
      rw [dl_set1] at hBc
      have hBo := hBo.kp hk11 (nm1 (by omega))
      obtain ⟨-, -, d2, d3, -⟩ := dl_rows hBc
      obtain ⟨-, -, -, q3, -, -, -, -⟩ := ec_rows hBo
      repeat (first|apply cA|apply cB|apply cD|apply cE|apply cF|apply cG|apply cH|apply cJ|apply cM|apply cN|apply cU|refine cV rfl ?_|apply cY|refine cZ rfl rfl rfl rfl (by first|((first|apply qmf|apply qmv|apply qas|apply qlc|apply qla|apply qfa|apply qic|apply qix|apply qpk|apply qls|apply qei|apply qni|apply qad|apply qln|apply qnt|apply qto|apply qmx)<;>(first|exact rfl|assumption|exact Ar.mk (by omega)|exact dct (by first|assumption|omega)|exact dcf (by first|assumption|omega)|exact List.not_mem_nil|apply dc_length|apply ec_length|apply dl_length|exact nm1 (by omega)|fail))|fail) ?_)
      rw [← em1]
      refine SG.store rfl rfl (by exact rho_of rfl) (by exact rho_of rfl) hBc rfl (by show 9 + 1 ≤ _; simp [dl_length]) rfl (fun w12 hk12 hBd => ?_)
      have ho15 := own_kp ho14 hk12 (own_neb ho14 (by decide) hBc)
      have hBd : Blk w12 b8 (.cells (spl (dl o.rules (.slice a13 ((l.take (i + 1)).map (·.who)).length c13) (maxs (·.least) (l.take i)) (maxs (·.window) (l.take i))) 9 [.int .i64 (maxs (·.least) (l.take (i + 1)))]).toArray 53) := hBd
      rw [dl_set2] at hBd
      have hBo := hBo.kp hk12 (nm1 (by omega))
      obtain ⟨-, -, -, d3, -⟩ := dl_rows hBd
      obtain ⟨-, -, -, -, -, q5, -, -⟩ := ec_rows hBo
      repeat (first|apply cA|apply cB|apply cD|apply cE|apply cF|apply cG|apply cH|apply cJ|apply cM|apply cN|apply cU|refine cV rfl ?_|apply cY|refine cZ rfl rfl rfl rfl (by first|((first|apply qmf|apply qmv|apply qas|apply qlc|apply qla|apply qfa|apply qic|apply qix|apply qpk|apply qls|apply qei|apply qni|apply qad|apply qln|apply qnt|apply qto|apply qmx)<;>(first|exact rfl|assumption|exact Ar.mk (by omega)|exact dct (by first|assumption|omega)|exact dcf (by first|assumption|omega)|exact List.not_mem_nil|apply dc_length|apply ec_length|apply dl_length|exact nm1 (by omega)|fail))|fail) ?_)
      rw [← em2]
      refine SG.store rfl rfl (by exact rho_of rfl) (by exact rho_of rfl) hBd rfl (by show 10 + 1 ≤ _; simp [dl_length]) rfl (fun w13 hk13 hBe => ?_)
      have ho16 := own_kp ho15 hk13 (own_neb ho15 (by decide) hBd)
      have hBe : Blk w13 b8 (.cells (spl (dl o.rules (.slice a13 ((l.take (i + 1)).map (·.who)).length c13) (maxs (·.least) (l.take (i + 1))) (maxs (·.window) (l.take i))) 10 [.int .i64 (maxs (·.window) (l.take (i + 1)))]).toArray 53) := hBe
      rw [dl_set3] at hBe
      have s9 := (hk6.trans k9).size
      have k13 : Kp [] w3 w13 := ((k10.trans_new hk11 (new1 (by omega))).trans_new hk12 (new1 (by omega))).trans_new hk13 (new1 (by omega))
      have z1 := k9.size
      have z2 := hk10.size
      have z3 := hk11.size
      have z4 := hk12.size
      have z5 := hk13.size
      repeat (first|apply cA|apply cB|apply cD|apply cE|apply cF|apply cG|apply cH|apply cJ|apply cM|apply cN|apply cU|refine cV rfl ?_|apply cY|refine cZ rfl rfl rfl rfl (by first|((first|apply qmf|apply qmv|apply qas|apply qlc|apply qla|apply qfa|apply qic|apply qix|apply qpk|apply qls|apply qei|apply qni|apply qad|apply qln|apply qnt|apply qto|apply qmx)<;>(first|exact rfl|assumption|exact Ar.mk (by omega)|exact dct (by first|assumption|omega)|exact dcf (by first|assumption|omega)|exact List.not_mem_nil|apply dc_length|apply ec_length|apply dl_length|exact nm1 (by omega)|fail))|fail) ?_)
      refine NG.round (.slice a13 ((l.take (i + 1)).map (·.who)).length c13, i + 1) (by (repeat' (first | exact True.intro | exact rfl | refine And.intro ?_ ?_))) ⟨by simp only; omega, k13, by omega, hBe, ho16⟩ (by simp only; omega)
    · have g1 : ¬ (i : Int) < (l.length : Int) := by omega
      rw [List.take_of_length_le (by omega)] at hov hB hSv ⊢
      have k6 := k3.trans hk6
      repeat (first|apply cA|apply cB|apply cD|apply cE|apply cF|apply cG|apply cH|apply cJ|apply cM|apply cN|apply cU|refine cV rfl ?_|apply cY|refine cZ rfl rfl rfl rfl (by first|((first|apply qmf|apply qmv|apply qas|apply qlc|apply qla|apply qfa|apply qic|apply qix|apply qpk|apply qls|apply qei|apply qni|apply qad|apply qln|apply qnt|apply qto|apply qmx)<;>(first|exact rfl|assumption|exact Ar.mk (by omega)|exact dct (by first|assumption|omega)|exact dcf (by first|assumption|omega)|exact List.not_mem_nil|apply dc_length|apply ec_length|apply dl_length|exact nm1 (by omega)|fail))|fail) ?_)
      refine dE rfl (by exact rho_of rfl) rfl ?_
      repeat (first|apply cA|apply cB|apply cD|apply cE|apply cF|apply cG|apply cH|apply cJ|apply cM|apply cN|apply cU|refine cV rfl ?_|apply cY|refine cZ rfl rfl rfl rfl (by first|((first|apply qmf|apply qmv|apply qas|apply qlc|apply qla|apply qfa|apply qic|apply qix|apply qpk|apply qls|apply qei|apply qni|apply qad|apply qln|apply qnt|apply qto|apply qmx)<;>(first|exact rfl|assumption|exact Ar.mk (by omega)|exact dct (by first|assumption|omega)|exact dcf (by first|assumption|omega)|exact List.not_mem_nil|apply dc_length|apply ec_length|apply dl_length|exact nm1 (by omega)|fail))|fail) ?_)
      refine SG.ret rfl rfl rfl (vs := [.slice (some ⟨ba, oa, none⟩) l.length c]) (by repeat' (first | exact True.intro | exact rho_of rfl | refine And.intro ?_ ?_)) (mix_spec (c := c) (hS.kp0 k6) (by omega)) (fun w7 hk7 => ?_)
      refine SG.alloc rfl rfl rfl (fun b11 w8 hk8 hb11 hB11 => ?_)
      refine SG.setAll (l := dc (mixD l)) rfl rfl (by exact rho_of rfl) (by exact rho_of rfl) hB11 (dc_length _) rfl (dc_one _) (fun w9 hk9 hB12 => ?_)
      have hr12 : Row w9 b11 0 (dc (mixD l)) := Row.all hB12 rfl
      have s7 := hk7.size
      have k9 : Kp [] w6 w9 := (hk7.trans hk8).trans_new hk9 (new1 (by omega))
      have hov9 := own_kp0 hov k9
      have hBd := hB.kp0 k9
      obtain ⟨-, d1, -, -, -⟩ := dl_rows hBd
      have hlt6 := own_lt hov
      have hnb : b11 ∉ ownB (.slice av (l.map (·.who)).length cv) := own_notB (fun b hb => by have := hlt6 b hb; omega)
      repeat (first|apply cA|apply cB|apply cD|apply cE|apply cF|apply cG|apply cH|apply cJ|apply cM|apply cN|apply cU|refine cV rfl ?_|apply cY|refine cZ rfl rfl rfl rfl (by first|((first|apply qmf|apply qmv|apply qas|apply qlc|apply qla|apply qfa|apply qic|apply qix|apply qpk|apply qls|apply qei|apply qni|apply qad|apply qln|apply qnt|apply qto|apply qmx)<;>(first|exact rfl|assumption|exact Ar.mk (by omega)|exact dct (by first|assumption|omega)|exact dcf (by first|assumption|omega)|exact List.not_mem_nil|apply dc_length|apply ec_length|apply dl_length|exact nm1 (by omega)|fail))|fail) ?_)
      refine cZ rfl rfl rfl rfl (qmf (vs := [.pointer (some ⟨b11, 0, none⟩)]) rfl) ?_
      have hsw := sortw_spec (m := mixD l) (bm := b11) hov9 (by rw [List.length_map]; omega) hr12 hnb
      refine SG.call rfl rfl rfl (vs := [.slice av (l.map (·.who)).length cv, fnv 39 [.pointer (some ⟨b11, 0, none⟩)]]) ⟨rho_of rfl, rho_of rfl, True.intro⟩ ?_
      refine hsw.mono (fun e w10 hh => ?_)
      obtain ⟨he, hk10, ho10⟩ := hh
      refine ⟨_, he, ?_⟩
      have hBe := blk_own hov9 (by decide) hBd hk10
      have hB2z := blk_own hov9 (by decide) ((hB2.kp0 hk6).kp0 k9) hk10
      have hrd := Row.all (l := dl o.rules (.slice av (l.map (·.who)).length cv) (maxs (·.least) l) (maxs (·.window) l)) hBe rfl
      have k10 : Kp [] w3 w10 := (hk6.trans k9).trans_new hk10 (own_new hov9 (Nat.le_refl _))
      repeat (first|apply cA|apply cB|apply cD|apply cE|apply cF|apply cG|apply cH|apply cJ|apply cM|apply cN|apply cU|refine cV rfl ?_|apply cY|refine cZ rfl rfl rfl rfl (by first|((first|apply qmf|apply qmv|apply qas|apply qlc|apply qla|apply qfa|apply qic|apply qix|apply qpk|apply qls|apply qei|apply qni|apply qad|apply qln|apply qnt|apply qto|apply qmx)<;>(first|exact rfl|assumption|exact Ar.mk (by omega)|exact dct (by first|assumption|omega)|exact dcf (by first|assumption|omega)|exact List.not_mem_nil|apply dc_length|apply ec_length|apply dl_length|exact nm1 (by omega)|fail))|fail) ?_)
      refine SG.setAll (old := dl zd (.slice none 0 0) 0 0) (l := dl o.rules (.slice av (l.map (·.who)).length cv) (maxs (·.least) l) (maxs (·.window) l)) rfl rfl (by exact rho_of rfl) (by exact rho_of rfl) hB2z (dl_length _ _ _ _) (dl_length _ _ _ _) (dl_one _ _ _ _ _ _) (fun w11 hk11 hB13 => ?_)
      have hrz : Row w11 b2 0 (dl o.rules (.slice av (l.map (·.who)).length cv) (maxs (·.least) l) (maxs (·.window) l)) := Row.all hB13 rfl
      have ho11 := own_kp ho10 hk11 (own_neb ho10 (by decide) hB2z)
      repeat (first|apply cA|apply cB|apply cD|apply cE|apply cF|apply cG|apply cH|apply cJ|apply cM|apply cN|apply cU|refine cV rfl ?_|apply cY|refine cZ rfl rfl rfl rfl (by first|((first|apply qmf|apply qmv|apply qas|apply qlc|apply qla|apply qfa|apply qic|apply qix|apply qpk|apply qls|apply qei|apply qni|apply qad|apply qln|apply qnt|apply qto|apply qmx)<;>(first|exact rfl|assumption|exact Ar.mk (by omega)|exact dct (by first|assumption|omega)|exact dcf (by first|assumption|omega)|exact List.not_mem_nil|apply dc_length|apply ec_length|apply dl_length|exact nm1 (by omega)|fail))|fail) ?_)
      refine ret2 (Or.inl rfl) Tryz.results20 (ResV.agg rfl rfl hrz (dl_length _ _ _ _)) (by first | exact ResV.tmp rfl | exact ResV.agg rfl rfl (by assumption) (by first | exact dc_length _ | exact nc_length _ | exact rc_length _ _ _ | exact ec_length _ | exact dl_length _ _ _ _ | rfl) | exact ResV.cell rfl rfl (by assumption)) ?_
      rw [e0]
      have elen : (l.map (·.who)).length = (sortK (kW (mixD l)) (l.map (·.who))).length := (sortK_perm _ (l.map (·.who))).length_eq.symm
      refine ⟨_, rfl, ⟨_, rfl, ?_⟩, (k3.trans k10).trans_new hk11 (new1 (by omega))⟩
      show w11.ownsRow w.heap.size 39 8 (.slice av (l.map (·.who)).length cv) (sortK (kW (mixD l)) (l.map (·.who))).length (flt dc (sortK (kW (mixD l)) (l.map (·.who))))
      rw [← elen]
      exact own_mono ho11 k3.size
end Go.Proofs.YtnoipmimddoioaaGreat
namespace Go.Proofs.YtnoipmimddoioaaGreat
open Go.Proofs Go.Shelf Go.Sort
set_option linter.unusedVariables false
/-- A lobby of a law: its block, its row. -/
structure Lob (base : Nat) (w : World) (bt : Nat) (room : Int) (v : Value) (l : List Ofr) : Prop where
  blk : Blk w bt (.cells #[.int .i64 room, v] 66)
  own : w.ownsRow base 41 21 v l.length (flt ec l)
theorem Lob.kp0 {base : Nat} {w w' : World} {bt : Nat} {room : Int} {v : Value} {l : List Ofr} (h : Lob base w bt room v l) (hk : Kp [] w w') : Lob base w' bt room v l := ⟨h.blk.kp0 hk, own_kp0 h.own hk⟩
theorem Lob.rows {base : Nat} {w : World} {bt : Nat} {room : Int} {v : Value} {l : List Ofr} (h : Lob base w bt room v l) : Row w bt 0 [.int .i64 room] ∧ Row w bt 1 [v] :=
  ⟨Row.of h.blk [] [v] rfl rfl, Row.of h.blk [.int .i64 room] [] rfl rfl⟩
attribute [local irreducible] CG NG SG Vals Der Row Blk MapIs IterAt addI xorI orI andI shlI shrI mulI twoI cmpD cmpW kW digO manyI
set_option maxHeartbeats 16000000 in
theorem late1_spec {w : World} {b : Nat} {now : Int} (h : Row w b 0 [.int .i64 now]) (o : Ofr) : Ret Tryz.prog 43 #[ov o, .pointer (some ⟨b, 0, none⟩)] w (.bool (decide (o.till < now))) := by
  refine enter2 Tryz.func43 rfl Tryz.ntmps43 rfl ?_
  repeat (first|apply cA|apply cB|apply cD|apply cE|apply cH|refine cZ rfl rfl rfl rfl (by first|((first|apply qmf|apply qmv|apply qas|apply qlc|apply qla|apply qfa|apply qnc|apply qls|apply qed)<;>(first|exact rfl|assumption|exact dct (by first|assumption|omega)|exact dcf (by first|assumption|omega)|exact List.not_mem_nil|apply dc_length|apply ec_length|fail))|fail) ?_)
  refine SG.box rfl rfl rfl (by exact rho_of rfl) (fun b2 w2 hk2 hb2 hB2 => ?_)
  obtain ⟨-, -, -, -, -, -, q6, -⟩ := ec_rows (o := o) hB2
  have h2 := h.kp0 hk2
  by_cases hlt : o.till < now
  · rw [decide_eq_true hlt]
    repeat (first|apply cA|apply cB|apply cD|apply cE|apply cH|refine cZ rfl rfl rfl rfl (by first|((first|apply qmf|apply qmv|apply qas|apply qlc|apply qla|apply qfa|apply qnc|apply qls|apply qed)<;>(first|exact rfl|assumption|exact dct (by first|assumption|omega)|exact dcf (by first|assumption|omega)|exact List.not_mem_nil|apply dc_length|apply ec_length|fail))|fail) ?_)
    refine ret1 (Or.inl rfl) Tryz.results43 (by first | exact ResV.tmp rfl | exact ResV.agg rfl rfl (by assumption) (by first | exact dc_length _ | exact nc_length _ | exact rc_length _ _ _ | exact ec_length _ | exact dl_length _ _ _ _ | rfl) | exact ResV.cell rfl rfl (by assumption)) ?_
    exact ⟨rfl, hk2⟩
  · rw [decide_eq_false hlt]
    repeat (first|apply cA|apply cB|apply cD|apply cE|apply cH|refine cZ rfl rfl rfl rfl (by first|((first|apply qmf|apply qmv|apply qas|apply qlc|apply qla|apply qfa|apply qnc|apply qls|apply qed)<;>(first|exact rfl|assumption|exact dct (by first|assumption|omega)|exact dcf (by first|assumption|omega)|exact List.not_mem_nil|apply dc_length|apply ec_length|fail))|fail) ?_)
    refine ret1 (Or.inl rfl) Tryz.results43 (by first | exact ResV.tmp rfl | exact ResV.agg rfl rfl (by assumption) (by first | exact dc_length _ | exact nc_length _ | exact rc_length _ _ _ | exact ec_length _ | exact dl_length _ _ _ _ | rfl) | exact ResV.cell rfl rfl (by assumption)) ?_
    exact ⟨rfl, hk2⟩
set_option maxHeartbeats 16000000 in
theorem of1_spec {w : World} {b : Nat} {d : Dg} (h : Row w b 0 (dc d)) (o : Ofr) : Ret Tryz.prog 44 #[ov o, .pointer (some ⟨b, 0, none⟩)] w (.bool (decide (o.who = d))) := by
  refine enter2 Tryz.func44 rfl Tryz.ntmps44 rfl ?_
  repeat (first|apply cA|apply cB|apply cD|apply cE|apply cH|refine cZ rfl rfl rfl rfl (by first|((first|apply qmf|apply qmv|apply qas|apply qlc|apply qla|apply qfa|apply qnc|apply qls|apply qed)<;>(first|exact rfl|assumption|exact dct (by first|assumption|omega)|exact dcf (by first|assumption|omega)|exact List.not_mem_nil|apply dc_length|apply ec_length|fail))|fail) ?_)
  refine SG.box rfl rfl rfl (by exact rho_of rfl) (fun b2 w2 hk2 hb2 hB2 => ?_)
  obtain ⟨q0, -, -, -, -, -, -, -⟩ := ec_rows (o := o) hB2
  have h2 := h.kp0 hk2
  by_cases hlt : o.who = d
  · rw [decide_eq_true hlt]
    repeat (first|apply cA|apply cB|apply cD|apply cE|apply cH|refine cZ rfl rfl rfl rfl (by first|((first|apply qmf|apply qmv|apply qas|apply qlc|apply qla|apply qfa|apply qnc|apply qls|apply qed)<;>(first|exact rfl|assumption|exact dct (by first|assumption|omega)|exact dcf (by first|assumption|omega)|exact List.not_mem_nil|apply dc_length|apply ec_length|fail))|fail) ?_)
    refine ret1 (Or.inl rfl) Tryz.results44 (by first | exact ResV.tmp rfl | exact ResV.agg rfl rfl (by assumption) (by first | exact dc_length _ | exact nc_length _ | exact rc_length _ _ _ | exact ec_length _ | exact dl_length _ _ _ _ | rfl) | exact ResV.cell rfl rfl (by assumption)) ?_
    exact ⟨rfl, hk2⟩
  · rw [decide_eq_false hlt]
    repeat (first|apply cA|apply cB|apply cD|apply cE|apply cH|refine cZ rfl rfl rfl rfl (by first|((first|apply qmf|apply qmv|apply qas|apply qlc|apply qla|apply qfa|apply qnc|apply qls|apply qed)<;>(first|exact rfl|assumption|exact dct (by first|assumption|omega)|exact dcf (by first|assumption|omega)|exact List.not_mem_nil|apply dc_length|apply ec_length|fail))|fail) ?_)
    refine ret1 (Or.inl rfl) Tryz.results44 (by first | exact ResV.tmp rfl | exact ResV.agg rfl rfl (by assumption) (by first | exact dc_length _ | exact nc_length _ | exact rc_length _ _ _ | exact ec_length _ | exact dl_length _ _ _ _ | rfl) | exact ResV.cell rfl rfl (by assumption)) ?_
    exact ⟨rfl, hk2⟩
set_option maxHeartbeats 16000000 in
theorem ldrop_spec {w : World} {base bt : Nat} {room : Int} {v : Value} {l : List Ofr} {f : FuncId} [Fn : Fnc Tryz.prog f] {caps : List Value} {p : Ofr → Bool} (hL : Lob base w bt room v l) (hl : l.length ≤ 1000000000) (hp : ∀ o ∈ l, ∀ W, Kp (ownB v) w W → Ret Tryz.prog f (ov o :: caps).toArray W (.bool (p o))) :
    Calls Tryz.prog 24 #[.pointer (some ⟨bt, 0, none⟩), fnv f caps] w (fun e w' => e = .returned (.tuple #[]) ∧ Kp (bt :: ownB v) w w' ∧ ∃ v', Lob base w' bt room v' (l.filter (fun x => !p x)) ∧ ∀ b, v'.ownBlock = some b → v.ownBlock = some b) := by
  refine enter2 Tryz.func24 rfl Tryz.ntmps24 rfl ?_
  obtain ⟨r0, r1⟩ := hL.rows
  repeat (first|apply cA|apply cB|apply cD|apply cE|apply cH|refine cZ rfl rfl rfl rfl (by first|((first|apply qmf|apply qmv|apply qas|apply qlc|apply qla|apply qfa|apply qnc|apply qls|apply qed)<;>(first|exact rfl|assumption|exact dct (by first|assumption|omega)|exact dcf (by first|assumption|omega)|exact List.not_mem_nil|apply dc_length|apply ec_length|fail))|fail) ?_)
  refine SG.call rfl rfl rfl (vs := [v, fnv f caps]) (by repeat' (first | exact True.intro | exact rho_of rfl | refine And.intro ?_ ?_)) ((delf_spec (Fn := Fn) (caps := caps) (p := p) hL.own hl hp).mono (fun e w1 hh => ?_))
  obtain ⟨v1, he, ho1, hk1, hv1⟩ := hh
  refine ⟨_, he, ?_⟩
  have hB1 := blk_own hL.own (by decide) hL.blk hk1
  obtain ⟨a1, c1, rfl, _, _⟩ := Sl.own ec_length ho1 rfl
  repeat (first|apply cA|apply cB|apply cD|apply cE|apply cH|refine cZ rfl rfl rfl rfl (by first|((first|apply qmf|apply qmv|apply qas|apply qlc|apply qla|apply qfa|apply qnc|apply qls|apply qed)<;>(first|exact rfl|assumption|exact dct (by first|assumption|omega)|exact dcf (by first|assumption|omega)|exact List.not_mem_nil|apply dc_length|apply ec_length|fail))|fail) ?_)
  refine SG.store rfl rfl (by exact rho_of rfl) (by exact rho_of rfl) hB1 rfl (by show 0 + 1 + 1 ≤ 2; omega) rfl (fun w2 hk2 hB2 => ?_)
  have ho2 := own_kp ho1 hk2 (own_neb ho1 (by decide) hB1)
  repeat (first|apply cA|apply cB|apply cD|apply cE|apply cH|refine cZ rfl rfl rfl rfl (by first|((first|apply qmf|apply qmv|apply qas|apply qlc|apply qla|apply qfa|apply qnc|apply qls|apply qed)<;>(first|exact rfl|assumption|exact dct (by first|assumption|omega)|exact dcf (by first|assumption|omega)|exact List.not_mem_nil|apply dc_length|apply ec_length|fail))|fail) ?_)
  refine ret0 (Or.inr rfl) Tryz.results24 ?_
  exact ⟨rfl, (hk1.mono (fun z hz => List.mem_cons_of_mem _ hz)).trans (hk2.mono (fun z hz => by
    rw [List.mem_singleton] at hz
    subst hz
    exact List.mem_cons_self)), _, ⟨hB2, ho2⟩, hv1⟩
set_option maxHeartbeats 16000000 in
theorem late_spec (now : Int) (w : World) : Calls Tryz.prog 25 #[.int .i64 now] w (fun e w' => ∃ b, e = .returned (fnv 43 [.pointer (some ⟨b, 0, none⟩)]) ∧ Kp [] w w' ∧ w.heap.size ≤ b ∧ Row w' b 0 [.int .i64 now]) := by
  refine enter1 Tryz.func25 rfl Tryz.ntmps25 rfl ?_
  repeat (first|apply cA|apply cB|apply cD|apply cE|apply cH|refine cZ rfl rfl rfl rfl (by first|((first|apply qmf|apply qmv|apply qas|apply qlc|apply qla|apply qfa|apply qnc|apply qls|apply qed)<;>(first|exact rfl|assumption|exact dct (by first|assumption|omega)|exact dcf (by first|assumption|omega)|exact List.not_mem_nil|apply dc_length|apply ec_length|fail))|fail) ?_)
  refine SG.box rfl rfl rfl (by exact rho_of rfl) (fun b1 w1 hk1 hb1 hB1 => ?_)
  have hr : Row w1 b1 0 [.int .i64 now] := Row.of hB1 [] [] rfl rfl
  repeat (first|apply cA|apply cB|apply cD|apply cE|apply cH|refine cZ rfl rfl rfl rfl (by first|((first|apply qmf|apply qmv|apply qas|apply qlc|apply qla|apply qfa|apply qnc|apply qls|apply qed)<;>(first|exact rfl|assumption|exact dct (by first|assumption|omega)|exact dcf (by first|assumption|omega)|exact List.not_mem_nil|apply dc_length|apply ec_length|fail))|fail) ?_)
  refine cZ rfl rfl rfl rfl (qmf (vs := [.pointer (some ⟨b1, 0, none⟩)]) rfl) ?_
  repeat (first|apply cA|apply cB|apply cD|apply cE|apply cH|refine cZ rfl rfl rfl rfl (by first|((first|apply qmf|apply qmv|apply qas|apply qlc|apply qla|apply qfa|apply qnc|apply qls|apply qed)<;>(first|exact rfl|assumption|exact dct (by first|assumption|omega)|exact dcf (by first|assumption|omega)|exact List.not_mem_nil|apply dc_length|apply ec_length|fail))|fail) ?_)
  refine ret1 (Or.inl rfl) Tryz.results25 (by first | exact ResV.tmp rfl | exact ResV.agg rfl rfl (by assumption) (by first | exact dc_length _ | exact nc_length _ | exact rc_length _ _ _ | exact ec_length _ | exact dl_length _ _ _ _ | rfl) | exact ResV.cell rfl rfl (by assumption)) ?_
  exact ⟨b1, rfl, hk1, hb1, hr⟩
set_option maxHeartbeats 16000000 in
theorem of0_spec (d : Dg) (w : World) : Calls Tryz.prog 26 #[dv d] w (fun e w' => ∃ b, e = .returned (fnv 44 [.pointer (some ⟨b, 0, none⟩)]) ∧ Kp [] w w' ∧ w.heap.size ≤ b ∧ Row w' b 0 (dc d)) := by
  refine enter1 Tryz.func26 rfl Tryz.ntmps26 rfl ?_
  repeat (first|apply cA|apply cB|apply cD|apply cE|apply cH|refine cZ rfl rfl rfl rfl (by first|((first|apply qmf|apply qmv|apply qas|apply qlc|apply qla|apply qfa|apply qnc|apply qls|apply qed)<;>(first|exact rfl|assumption|exact dct (by first|assumption|omega)|exact dcf (by first|assumption|omega)|exact List.not_mem_nil|apply dc_length|apply ec_length|fail))|fail) ?_)
  refine SG.box rfl rfl rfl (by exact rho_of rfl) (fun b1 w1 hk1 hb1 hB1 => ?_)
  have hB1 : Blk w1 b1 (.cells (dc d).toArray 39) := hB1
  have hr : Row w1 b1 0 (dc d) := Row.all hB1 rfl
  repeat (first|apply cA|apply cB|apply cD|apply cE|apply cH|refine cZ rfl rfl rfl rfl (by first|((first|apply qmf|apply qmv|apply qas|apply qlc|apply qla|apply qfa|apply qnc|apply qls|apply qed)<;>(first|exact rfl|assumption|exact dct (by first|assumption|omega)|exact dcf (by first|assumption|omega)|exact List.not_mem_nil|apply dc_length|apply ec_length|fail))|fail) ?_)
  refine cZ rfl rfl rfl rfl (qmf (vs := [.pointer (some ⟨b1, 0, none⟩)]) rfl) ?_
  repeat (first|apply cA|apply cB|apply cD|apply cE|apply cH|refine cZ rfl rfl rfl rfl (by first|((first|apply qmf|apply qmv|apply qas|apply qlc|apply qla|apply qfa|apply qnc|apply qls|apply qed)<;>(first|exact rfl|assumption|exact dct (by first|assumption|omega)|exact dcf (by first|assumption|omega)|exact List.not_mem_nil|apply dc_length|apply ec_length|fail))|fail) ?_)
  refine ret1 (Or.inl rfl) Tryz.results26 (by first | exact ResV.tmp rfl | exact ResV.agg rfl rfl (by assumption) (by first | exact dc_length _ | exact nc_length _ | exact rc_length _ _ _ | exact ec_length _ | exact dl_length _ _ _ _ | rfl) | exact ResV.cell rfl rfl (by assumption)) ?_
  exact ⟨b1, rfl, hk1, hb1, hr⟩
end Go.Proofs.YtnoipmimddoioaaGreat
namespace Go.Proofs.YtnoipmimddoioaaGreat
open Go.Proofs Go.Shelf Go.Sort
set_option linter.unusedVariables false
set_option maxRecDepth 20000 in
theorem bso' (w : World) (a0 a1 a2 a3 a4 a5 a6 a7 b0 b1 b2 b3 b4 b5 b6 b7 : UInt8) (x y z u v : Int) : (Instr.buildSlice 54 1 #[(0, .agg #[bv a0, bv a1, bv a2, bv a3, bv a4, bv a5, bv a6, bv a7, bv b0, bv b1, bv b2, bv b3, bv b4, bv b5, bv b6, bv b7, .int .i64 x, .int .i64 y, .int .i64 z, .int .i64 u, .int .i64 v])]).run Tryz.prog w = .ok (.slice (some ⟨w.heap.size, 0, none⟩) 1 1) { w with heap := w.heap.push (.cells #[bv a0, bv a1, bv a2, bv a3, bv a4, bv a5, bv a6, bv a7, bv b0, bv b1, bv b2, bv b3, bv b4, bv b5, bv b6, bv b7, .int .i64 x, .int .i64 y, .int .i64 z, .int .i64 u, .int .i64 v] 41) } := by kernel_rfl
theorem bso (o : Ofr) (w : World) : (Instr.buildSlice 54 1 #[(0, ov o)]).run Tryz.prog w = .ok (.slice (some ⟨w.heap.size, 0, none⟩) 1 1) { w with heap := w.heap.push (.cells (ec o).toArray 41) } := by
  obtain ⟨⟨l, hl⟩, ⟨m, hm⟩, x, y, z, u, v⟩ := o
  match l, hl, m, hm with
  | [a0, a1, a2, a3, a4, a5, a6, a7], _, [b0, b1, b2, b3, b4, b5, b6, b7], _ => exact bso' w a0 a1 a2 a3 a4 a5 a6 a7 b0 b1 b2 b3 b4 b5 b6 b7 x y z u v
set_option maxRecDepth 20000 in
theorem bto' (w : World) (a0 a1 a2 a3 a4 a5 a6 a7 b0 b1 b2 b3 b4 b5 b6 b7 : UInt8) (x y z u v : Int) : (Instr.build 41 #[(0, .agg #[bv a0, bv a1, bv a2, bv a3, bv a4, bv a5, bv a6, bv a7]), (1, .agg #[bv b0, bv b1, bv b2, bv b3, bv b4, bv b5, bv b6, bv b7]), (2, .int .i64 x), (3, .int .i64 y), (4, .int .i64 z), (5, .int .i64 u), (6, .int .i64 v)]).run Tryz.prog w = .ok (.agg #[bv a0, bv a1, bv a2, bv a3, bv a4, bv a5, bv a6, bv a7, bv b0, bv b1, bv b2, bv b3, bv b4, bv b5, bv b6, bv b7, .int .i64 x, .int .i64 y, .int .i64 z, .int .i64 u, .int .i64 v]) w := by kernel_rfl
theorem bto (o : Ofr) (w : World) : (Instr.build 41 #[(0, dv o.who), (1, dv o.rules), (2, .int .i64 o.seats), (3, .int .i64 o.least), (4, .int .i64 o.most), (5, .int .i64 o.window), (6, .int .i64 o.till)]).run Tryz.prog w = .ok (ov o) w := by
  obtain ⟨⟨l, hl⟩, ⟨m, hm⟩, x, y, z, u, v⟩ := o
  match l, hl, m, hm with
  | [a0, a1, a2, a3, a4, a5, a6, a7], _, [b0, b1, b2, b3, b4, b5, b6, b7], _ => exact bto' w a0 a1 a2 a3 a4 a5 a6 a7 b0 b1 b2 b3 b4 b5 b6 b7 x y z u v
def d1 (x : UInt8) : Dg := ⟨[x, 0, 0, 0, 0, 0, 0, 0], rfl⟩
theorem bd1 (x : UInt8) (w : World) : (Instr.build 39 #[(0, bv x)]).run Tryz.prog w = .ok (dv (d1 x)) w := by kernel_rfl
def oneO (x : UInt8) (least most window : Int) : Ofr := ⟨d1 x, d1 7, 2, least, most, window, 50⟩
set_option maxRecDepth 20000 in
theorem bso2' (w : World) (a b : UInt8) (x y z x' y' z' : Int) : (Instr.buildSlice 54 2 #[(0, ov (oneO a x y z)), (1, ov (oneO b x' y' z'))]).run Tryz.prog w = .ok (.slice (some ⟨w.heap.size, 0, none⟩) 2 2) { w with heap := w.heap.push (.cells (flt ec [oneO a x y z, oneO b x' y' z']).toArray 41) } := by kernel_rfl
theorem own_sl {w : World} {base n sz : Nat} {T : TypeId} {v : Value} {xs : List Value} (ho : w.ownsRow base T sz v n xs) : ∃ a c, v = .slice a n c := by
  rcases ho.2 with ⟨rfl, rfl⟩ | ⟨g, cap, cur, rfl, _⟩
  · exact ⟨_, _, rfl⟩
  · exact ⟨_, _, rfl⟩
attribute [local irreducible] CG NG SG Vals Der Row Blk MapIs IterAt addI xorI orI andI shlI shrI mulI twoI cmpD cmpW kW digO manyI mixD sortK maxs
set_option maxHeartbeats 16000000 in
theorem to_spec (o : Ofr) (w : World) : Ret Tryz.prog 8 #[ov o] w (ov o) := by
  refine enter1 Tryz.func8 rfl Tryz.ntmps8 rfl ?_
  repeat (first|apply cA|apply cB|apply cD|apply cE|apply cF|apply cG|apply cH|apply cJ|apply cU|refine cV rfl ?_|apply cY|refine cZ rfl rfl rfl rfl (by first|((first|apply qmv|apply qas|apply qlc|apply qla|apply qfa|apply qix|apply qpk|apply qls|apply qad|apply qln)<;>(first|exact rfl|assumption|exact Ar.mk (by omega)|exact dct (by first|assumption|omega)|exact dcf (by first|assumption|omega)|exact List.not_mem_nil|apply dc_length|apply ec_length|fail))|fail) ?_)
  refine SG.box rfl rfl rfl (by exact rho_of rfl) (fun b1 w1 hk1 hb1 hB1 => ?_)
  have hB1 : Blk w1 b1 (.cells (ec o).toArray 33) := hB1
  refine SG.alloc rfl rfl rfl (fun b2 w2 hk2 hb2 hB2 => ?_)
  obtain ⟨r0, r1, r2, r3, r4, r5, r6, -⟩ := ec_rows (hB1.kp0 hk2)
  repeat (first|apply cA|apply cB|apply cD|apply cE|apply cF|apply cG|apply cH|apply cJ|apply cU|refine cV rfl ?_|apply cY|refine cZ rfl rfl rfl rfl (by first|((first|apply qmv|apply qas|apply qlc|apply qla|apply qfa|apply qix|apply qpk|apply qls|apply qad|apply qln)<;>(first|exact rfl|assumption|exact Ar.mk (by omega)|exact dct (by first|assumption|omega)|exact dcf (by first|assumption|omega)|exact List.not_mem_nil|apply dc_length|apply ec_length|fail))|fail) ?_)
  refine cZ rfl rfl rfl rfl (vals_build rfl (bto o)) ?_
  refine SG.setAll (l := ec o) rfl rfl (by exact rho_of rfl) (by exact rho_of rfl) hB2 (ec_length _) rfl (ec_one _) (fun w3 hk3 hB3 => ?_)
  have hr : Row w3 b2 0 (ec o) := Row.all hB3 rfl
  have s1 := hk1.size
  repeat (first|apply cA|apply cB|apply cD|apply cE|apply cF|apply cG|apply cH|apply cJ|apply cU|refine cV rfl ?_|apply cY|refine cZ rfl rfl rfl rfl (by first|((first|apply qmv|apply qas|apply qlc|apply qla|apply qfa|apply qix|apply qpk|apply qls|apply qad|apply qln)<;>(first|exact rfl|assumption|exact Ar.mk (by omega)|exact dct (by first|assumption|omega)|exact dcf (by first|assumption|omega)|exact List.not_mem_nil|apply dc_length|apply ec_length|fail))|fail) ?_)
  refine ret1 (Or.inl rfl) Tryz.results8 (by first | exact ResV.tmp rfl | exact ResV.agg rfl rfl (by assumption) (by first | exact dc_length _ | exact nc_length _ | exact rc_length _ _ _ | exact ec_length _ | exact dl_length _ _ _ _ | rfl) | exact ResV.cell rfl rfl (by assumption)) ?_
  exact ⟨rfl, (hk1.trans hk2).trans_new hk3 (new1 (by omega))⟩
set_option maxHeartbeats 16000000 in
theorem one_spec (x : UInt8) (least most window : Int) (w : World) : Ret Tryz.prog 21 #[bv x, .int .i64 least, .int .i64 most, .int .i64 window] w (ov (oneO x least most window)) := by
  refine enter4 Tryz.func21 rfl Tryz.ntmps21 rfl ?_
  repeat (first|apply cA|apply cB|apply cD|apply cE|apply cF|apply cG|apply cH|apply cJ|apply cU|refine cV rfl ?_|apply cY|refine cZ rfl rfl rfl rfl (by first|((first|apply qmv|apply qas|apply qlc|apply qla|apply qfa|apply qix|apply qpk|apply qls|apply qad|apply qln)<;>(first|exact rfl|assumption|exact Ar.mk (by omega)|exact dct (by first|assumption|omega)|exact dcf (by first|assumption|omega)|exact List.not_mem_nil|apply dc_length|apply ec_length|fail))|fail) ?_)
  refine SG.alloc rfl rfl rfl (fun b2 w1 hk1 hb2 hB2 => ?_)
  repeat (first|apply cA|apply cB|apply cD|apply cE|apply cF|apply cG|apply cH|apply cJ|apply cU|refine cV rfl ?_|apply cY|refine cZ rfl rfl rfl rfl (by first|((first|apply qmv|apply qas|apply qlc|apply qla|apply qfa|apply qix|apply qpk|apply qls|apply qad|apply qln)<;>(first|exact rfl|assumption|exact Ar.mk (by omega)|exact dct (by first|assumption|omega)|exact dcf (by first|assumption|omega)|exact List.not_mem_nil|apply dc_length|apply ec_length|fail))|fail) ?_)
  refine cZ rfl rfl rfl rfl (vals_build rfl (bd1 x)) ?_
  refine cZ rfl rfl rfl rfl (vals_build rfl (bd1 7)) ?_
  repeat (first|apply cA|apply cB|apply cD|apply cE|apply cF|apply cG|apply cH|apply cJ|apply cU|refine cV rfl ?_|apply cY|refine cZ rfl rfl rfl rfl (by first|((first|apply qmv|apply qas|apply qlc|apply qla|apply qfa|apply qix|apply qpk|apply qls|apply qad|apply qln)<;>(first|exact rfl|assumption|exact Ar.mk (by omega)|exact dct (by first|assumption|omega)|exact dcf (by first|assumption|omega)|exact List.not_mem_nil|apply dc_length|apply ec_length|fail))|fail) ?_)
  refine cZ rfl rfl rfl rfl (vals_build rfl (bto (oneO x least most window))) ?_
  refine SG.setAll (l := ec (oneO x least most window)) rfl rfl (by exact rho_of rfl) (by exact rho_of rfl) hB2 (ec_length _) rfl (ec_one _) (fun w3 hk3 hB3 => ?_)
  have hr : Row w3 b2 0 (ec (oneO x least most window)) := Row.all hB3 rfl
  repeat (first|apply cA|apply cB|apply cD|apply cE|apply cF|apply cG|apply cH|apply cJ|apply cU|refine cV rfl ?_|apply cY|refine cZ rfl rfl rfl rfl (by first|((first|apply qmv|apply qas|apply qlc|apply qla|apply qfa|apply qix|apply qpk|apply qls|apply qad|apply qln)<;>(first|exact rfl|assumption|exact Ar.mk (by omega)|exact dct (by first|assumption|omega)|exact dcf (by first|assumption|omega)|exact List.not_mem_nil|apply dc_length|apply ec_length|fail))|fail) ?_)
  refine ret1 (Or.inl rfl) Tryz.results21 (by first | exact ResV.tmp rfl | exact ResV.agg rfl rfl (by assumption) (by first | exact dc_length _ | exact nc_length _ | exact rc_length _ _ _ | exact ec_length _ | exact dl_length _ _ _ _ | rfl) | exact ResV.cell rfl rfl (by assumption)) ?_
  exact ⟨rfl, hk1.trans_new hk3 (new1 (by omega))⟩
end Go.Proofs.YtnoipmimddoioaaGreat
namespace Go.Proofs.YtnoipmimddoioaaGreat
open Go.Proofs Go.Shelf Go.Sort
set_option linter.unusedVariables false
def keepL (now : Int) (o : Ofr) (l : List Ofr) : List Ofr := (l.filter (fun x => !decide (x.till < now))).filter (fun x => !decide (x.who = o.who))
def postL (room now : Int) (o : Ofr) (l : List Ofr) : List Ofr := if room ≤ (keepL now o l).length then keepL now o l else keepL now o l ++ [o]
def postE (room now : Int) (o : Ofr) (l : List Ofr) : Int := if room ≤ (keepL now o l).length then 8 else 0
attribute [local irreducible] CG NG SG Vals Der Row Blk MapIs IterAt addI xorI orI andI shlI shrI mulI twoI cmpD cmpW kW digO manyI
set_option maxHeartbeats 16000000 in
theorem post_no {w : World} {bt : Nat} {now : Int} (h0 : 0 ≤ now) (h1 : now ≤ 1099511627776) (o : Ofr) (hb : ¬ o.Ok ∨ o.till < now) : Ret Tryz.prog 7 #[.pointer (some ⟨bt, 0, none⟩), .int .i64 now, ov o] w (.int .i64 (if o.Ok then 19 else 2)) := by
  refine enter3 Tryz.func7 rfl Tryz.ntmps7 rfl ?_
  have g1 : ¬ now < 0 := by omega
  have g2 : ¬ 1099511627776 < now := by omega
  have h00 : (0 : Int) = 0 := rfl
  have h20 : ¬ (2 : Int) = 0 := by decide
  repeat (first|apply cA|apply cB|apply cD|apply cE|apply cF|apply cH|apply cM|refine cZ rfl rfl rfl rfl (by first|((first|apply qep|apply qmv|apply qas|apply qlc|apply qla|apply qfa|apply qpk|apply qls|apply qni|apply qgt|apply qep)<;>(first|exact rfl|assumption|exact dct (by first|assumption|omega)|exact dcf (by first|assumption|omega)|exact List.not_mem_nil|apply ec_length|fail))|fail) ?_)
  refine SG.box rfl rfl rfl (by exact rho_of rfl) (fun b5 w1 hk1 hb5 hB5 => ?_)
  obtain ⟨-, -, -, -, -, -, q6, q7⟩ := ec_rows (o := o) hB5
  repeat (first|apply cA|apply cB|apply cD|apply cE|apply cF|apply cH|apply cM|refine cZ rfl rfl rfl rfl (by first|((first|apply qep|apply qmv|apply qas|apply qlc|apply qla|apply qfa|apply qpk|apply qls|apply qni|apply qgt|apply qep)<;>(first|exact rfl|assumption|exact dct (by first|assumption|omega)|exact dcf (by first|assumption|omega)|exact List.not_mem_nil|apply ec_length|fail))|fail) ?_)
  refine dE rfl (by exact rho_of rfl) rfl ?_
  repeat (first | first|apply cA|apply cB|apply cD|apply cE|apply cF|apply cH|apply cM|refine cZ rfl rfl rfl rfl (by first|((first|apply qep|apply qmv|apply qas|apply qlc|apply qla|apply qfa|apply qpk|apply qls|apply qni|apply qgt|apply qep)<;>(first|exact rfl|assumption|exact dct (by first|assumption|omega)|exact dcf (by first|assumption|omega)|exact List.not_mem_nil|apply ec_length|fail))|fail) ?_ | refine dA rfl rfl ?_)
  refine SG.ret rfl rfl rfl (vs := [ov o]) (by repeat' (first | exact True.intro | exact rho_of rfl | refine And.intro ?_ ?_)) (check_spec o w1) (fun w2 hk2 => ?_)
  have q6 := q6.kp0 hk2
  by_cases hok : o.Ok
  · rw [if_pos hok, if_pos hok]
    have hlt : o.till < now := hb.resolve_left (fun h => h hok)
    repeat (first | first|apply cA|apply cB|apply cD|apply cE|apply cF|apply cH|apply cM|refine cZ rfl rfl rfl rfl (by first|((first|apply qep|apply qmv|apply qas|apply qlc|apply qla|apply qfa|apply qpk|apply qls|apply qni|apply qgt|apply qep)<;>(first|exact rfl|assumption|exact dct (by first|assumption|omega)|exact dcf (by first|assumption|omega)|exact List.not_mem_nil|apply ec_length|fail))|fail) ?_ | refine dA rfl rfl ?_)
    refine dE rfl (by exact rho_of rfl) rfl ?_
    repeat (first|apply cA|apply cB|apply cD|apply cE|apply cF|apply cH|apply cM|refine cZ rfl rfl rfl rfl (by first|((first|apply qep|apply qmv|apply qas|apply qlc|apply qla|apply qfa|apply qpk|apply qls|apply qni|apply qgt|apply qep)<;>(first|exact rfl|assumption|exact dct (by first|assumption|omega)|exact dcf (by first|assumption|omega)|exact List.not_mem_nil|apply ec_length|fail))|fail) ?_)
    refine dD rfl (by exact rho_of rfl) rfl ?_
    repeat (first|apply cA|apply cB|apply cD|apply cE|apply cF|apply cH|apply cM|refine cZ rfl rfl rfl rfl (by first|((first|apply qep|apply qmv|apply qas|apply qlc|apply qla|apply qfa|apply qpk|apply qls|apply qni|apply qgt|apply qep)<;>(first|exact rfl|assumption|exact dct (by first|assumption|omega)|exact dcf (by first|assumption|omega)|exact List.not_mem_nil|apply ec_length|fail))|fail) ?_)
    refine ret1 (Or.inl rfl) Tryz.results7 (by first | exact ResV.tmp rfl | exact ResV.agg rfl rfl (by assumption) (by first | exact dc_length _ | exact nc_length _ | exact rc_length _ _ _ | exact ec_length _ | exact dl_length _ _ _ _ | rfl) | exact ResV.cell rfl rfl (by assumption)) ?_
    exact ⟨rfl, hk1.trans hk2⟩
  · rw [if_neg hok, if_neg hok]
    repeat (first | first|apply cA|apply cB|apply cD|apply cE|apply cF|apply cH|apply cM|refine cZ rfl rfl rfl rfl (by first|((first|apply qep|apply qmv|apply qas|apply qlc|apply qla|apply qfa|apply qpk|apply qls|apply qni|apply qgt|apply qep)<;>(first|exact rfl|assumption|exact dct (by first|assumption|omega)|exact dcf (by first|assumption|omega)|exact List.not_mem_nil|apply ec_length|fail))|fail) ?_ | refine dA rfl rfl ?_)
    refine dD rfl (by exact rho_of rfl) rfl ?_
    repeat (first|apply cA|apply cB|apply cD|apply cE|apply cF|apply cH|apply cM|refine cZ rfl rfl rfl rfl (by first|((first|apply qep|apply qmv|apply qas|apply qlc|apply qla|apply qfa|apply qpk|apply qls|apply qni|apply qgt|apply qep)<;>(first|exact rfl|assumption|exact dct (by first|assumption|omega)|exact dcf (by first|assumption|omega)|exact List.not_mem_nil|apply ec_length|fail))|fail) ?_)
    refine ret1 (Or.inl rfl) Tryz.results7 (by first | exact ResV.tmp rfl | exact ResV.agg rfl rfl (by assumption) (by first | exact dc_length _ | exact nc_length _ | exact rc_length _ _ _ | exact ec_length _ | exact dl_length _ _ _ _ | rfl) | exact ResV.cell rfl rfl (by assumption)) ?_
    exact ⟨rfl, hk1.trans hk2⟩
end Go.Proofs.YtnoipmimddoioaaGreat
namespace Go.Proofs.YtnoipmimddoioaaGreat
set_option linter.unusedVariables false
section
variable {P : Program} {n : Nat} {ops : List Oper} {Q : Exit → Act → World → Prop} {w0 : World} {L : Env} {G : List (Nat × GD)} {K : Env → List Fact → Prop} {Γ : List Fact} {i : Nat} {ord : List Nat} {ty : TypeId} {pos : String} {af : Array Edge} {g : Option (Nat × Bool)}
/-- What is promised of a slice written out: its block. -/
def gB (m : Nat) (E : TypeId) (k : Nat) (cs : Array Value) : GD := ⟨Nat, 0, fun b => .slice (some ⟨b, 0, none⟩) k k, fun b w => m ≤ b ∧ Blk w b (.cells cs E)⟩
/-- .. of something that holds such a slice. -/
def gW (m : Nat) (E : TypeId) (k : Nat) (cs : Array Value) (mk : Value → Value) : GD := ⟨Nat, 0, fun b => mk (.slice (some ⟨b, 0, none⟩) k k), fun b w => m ≤ b ∧ Blk w b (.cells cs E)⟩
/-- .. of a variable just made. -/
def gA (m : Nat) (T : TypeId) (cs : Array Value) : GD := ⟨Nat, 0, fun b => .pointer (some ⟨b, 0, none⟩), fun b w => m ≤ b ∧ Blk w b (.cells cs T)⟩
end
section
variable {P : Program} {S : List Nat} {w0 : World} {F : World → Prop} {L : Env} {d : Option Nat} {ty : TypeId} {pos : String} {af : Array Edge} {g : Option (Nat × Bool)}
end
end Go.Proofs.YtnoipmimddoioaaGreat
namespace Go.Proofs.YtnoipmimddoioaaGreat
set_option linter.unusedVariables false
section
variable {P : Program} {n : Nat} {ops : List Oper} {Q : Exit → Act → World → Prop} {w0 : World} {L : Env} {G : List (Nat × GD)} {K : Env → List Fact → Prop} {Γ : List Fact} {i : Nat} {ord : List Nat} {ty : TypeId} {pos : String} {af : Array Edge} {g : Option (Nat × Bool)}
/-- What is promised of the bytes of a string, and of what holds them. -/
def gT (l : List UInt8) (mk : Value → Value) : GD := ⟨Nat × Nat, (0, 0), fun q => mk (.slice (some ⟨q.1, 0, none⟩) l.length q.2), fun q w => Sl (fun u : UInt8 => [bv u]) 1 w (some ⟨q.1, 0, none⟩) l⟩
/-- .. of an owned row, and of what holds it. -/
def gOW {α : Type} (m : Nat) (E : TypeId) (enc : α → List Value) (sz : Nat) (l : List α) (mk : Value → Value) : GD := ⟨Value, undef, mk, fun v w => w.ownsRow m E sz v l.length (flt enc l)⟩
end
end Go.Proofs.YtnoipmimddoioaaGreat
namespace Go.Proofs.YtnoipmimddoioaaGreat
set_option linter.unusedVariables false
section
variable {P : Program} {n : Nat} {ops : List Oper} {Q : Exit → Act → World → Prop} {w0 : World} {L : Env} {G : List (Nat × GD)} {K : Env → List Fact → Prop} {Γ : List Fact} {i : Nat} {ord : List Nat} {ty : TypeId} {pos : String} {af : Array Edge} {g : Option (Nat × Bool)}
/-- A variable just made, whatever it comes to hold. -/
def gV (m : Nat) (T : TypeId) (k : Nat) : GD := ⟨Nat, 0, fun b => .pointer (some ⟨b, 0, none⟩), fun b w => m ≤ b ∧ ∃ cs, Blk w b (.cells cs T) ∧ cs.size = k⟩
/-- .. filled. -/
def gP (m : Nat) (T : TypeId) : GD := ⟨Nat × Array Value, (0, #[]), fun _ => undef, fun q w => m ≤ q.1 ∧ Blk w q.1 (.cells q.2 T)⟩
/-- An owned row, as the slice that it is, and what holds it. -/
def gOP {α : Type} (m : Nat) (E : TypeId) (enc : α → List Value) (sz : Nat) (l : List α) (mk : Value → Value) : GD := ⟨Option Addr × Nat, (none, 0), fun q => mk (.slice q.1 l.length q.2), fun q w => w.ownsRow m E sz (.slice q.1 l.length q.2) l.length (flt enc l)⟩
end
end Go.Proofs.YtnoipmimddoioaaGreat
namespace Go.Proofs.YtnoipmimddoioaaGreat
set_option linter.unusedVariables false
/-- In place. -/
def Room (e : TypeId) (w : World) (v v' : Value) (n m : Nat) : Prop := ∃ g cap cur, v = .slice (some ⟨g, 0, none⟩) n cap ∧ Blk w g (.cells cur e) ∧ n + m ≤ cap ∧ v' = .slice (some ⟨g, 0, none⟩) (n + m) cap
theorem run_appendR {P : Program} {w : World} {base : Nat} {t ty e : TypeId} {i : TypeInfo} [u : Ut P t (.slice e)] [f : Inf P e i] {z : Value} (hz : i.zero = some z) (hzs : z.cells.size = i.size) (hsz : 0 < i.size)
    {v : Value} {n : Nat} {xs : List Value} (hown : w.ownsRow base e i.size v n xs) {b off m c : Nat} {news : List Value} (hl : news.length = m * i.size) (hr : Row w b off news) (h1 : allOne news = true) (hm : 0 < m)
    (h63 : n + m ≤ maxLen) (hbytes : (n + m) * i.bytes ≤ 140737488355328) (hbase : base ≤ w.heap.size) :
    ∃ v' w', (Builtin.append_ #[t, t] ty #[v, .slice (some ⟨b, off, none⟩) m c]).run P w = .ok v' w' ∧ w'.ownsRow base e i.size v' (n + m) (xs ++ news) ∧ Kp (ownB v) w w' ∧ (Kp [] w w' ∨ Room e w v v' n m) := by
  obtain ⟨v', w', hrun, hown', hkp⟩ := run_append (P := P) (ty := ty) (d := .bool) (c := c) (u := u) (f := f) hz hzs hsz hown hl hr h1 h63 hbytes hbase
  refine ⟨v', w', hrun, hown', hkp, ?_⟩
  have hnews : ∀ j u, news[j]? = some u → w.cell? ((⟨b, off, none⟩ : Addr).add j) = some u := fun j u hu => by rw [add_none]; exact hr.cell hu
  have h1' : ∀ u ∈ news, u.oneCell' = true := fun u hu => by rw [one_iff]; exact List.all_eq_true.1 h1 u hu
  rcases hown.2 with ⟨rfl, rfl⟩ | ⟨g, cap, cur, rfl, hbg, hg, hnc, hcm, hcs, htake⟩
  · exact Or.inl (by simpa [ownB, Value.ownBlock] using hkp)
  · by_cases hroom : n + m ≤ cap
    · have hfit : n * i.size + news.length ≤ cur.size := by rw [hl, hcs, ← Nat.add_mul]; exact Nat.mul_le_mul_right _ hroom
      have hr2 := run_append_room (P := P) w t ty e i u.eq f.eq g n cap cur hg ⟨b, off, none⟩ m c news hl hnews h1' hroom hfit
      rw [hr2] at hrun
      cases hrun
      exact Or.inr ⟨g, cap, cur, rfl, hg, hroom, rfl⟩
    · have holds : ∀ j u, xs[j]? = some u → w.cell? ((⟨g, 0, none⟩ : Addr).add j) = some u := hown.cells (g := g) rfl
      have hr2 := run_append_grow (P := P) w t ty e i z u.eq f.eq hz ⟨g, 0, none⟩ n cap xs hown.1 holds ⟨b, off, none⟩ m c news hl hnews (by omega) (by simp only [maxLen] at h63; omega) (growslice_fits (by omega) hbytes)
      rw [hr2] at hrun
      cases hrun
      exact Or.inl (Kp.alloc_drew w _ rfl)
section
variable {w w' : World} {base n m sz : Nat} {e : TypeId} {v v' : Value} {xs news : List Value}
end
section
variable {P : Program} {n : Nat} {ops : List Oper} {Q : Exit → Act → World → Prop} {w0 : World} {L : Env} {G : List (Nat × GD)} {K : Env → List Fact → Prop} {Γ : List Fact} {i : Nat} {ord : List Nat} {ty : TypeId} {pos : String} {af : Array Edge} {g : Option (Nat × Bool)}
end
end Go.Proofs.YtnoipmimddoioaaGreat
namespace Go.Proofs.YtnoipmimddoioaaGreat
set_option linter.unusedVariables false
/-- An effect: its place (from 1000 on: there before), its chain, what it promises of its value. -/
structure RE where
  i : Nat
  ch : Nat
  phi : Value → World → Prop
structure RE.Ok (e : RE) : Prop where
  keep : ∀ v w w', w.heap.size ≤ w'.heap.size → (∀ z o, v.ownBlock = some z → Blk w z o → Blk w' z o) → e.phi v w → e.phi v w'
  lt : ∀ v w b, e.phi v w → v.ownBlock = some b → b < w.heap.size
def sees (ops : List Oper) (i p : Nat) : Bool := Nat.ble 1000 p || anc ops i p
def isR (G : List RE) (i : Nat) : Bool := G.any (fun e => Nat.beq e.i i)
def atR (G : List RE) (i : Nat) : List RE := G.filter (fun e => Nat.beq e.i i)
theorem atR_mem {G : List RE} {i : Nat} {E : RE} (h : atR G i = [E]) {e : RE} (he : e ∈ G) (hi : e.i = i) : e = E := by
  have : e ∈ atR G i := List.mem_filter.2 ⟨he, by rw [hi]; simp⟩
  rw [h] at this
  simpa using this
theorem atR_in {G : List RE} {i : Nat} {E : RE} (h : atR G i = [E]) : E ∈ G ∧ E.i = i := by
  have : E ∈ atR G i := by rw [h]; simp
  have := List.mem_filter.1 this
  exact ⟨this.1, by simpa using this.2⟩
theorem isR_no {G : List RE} {i : Nat} (h : isR G i = false) {e : RE} (he : e ∈ G) : e.i ≠ i := by
  intro e1
  have := List.any_eq_false.1 h e he
  rw [e1] at this
  simp at this
abbrev Gm := List (Nat × Value)
def FactsR (ops : List Oper) (G : List RE) (i : Nat) (Γ : Gm) (w : World) : Prop := ∀ p ∈ Γ, sees ops i p.1 = true → ∀ e ∈ G, e.i = p.1 → e.phi p.2 w
/-- What is so where the effects in D are done. -/
structure SOk (S : List Nat) (w0 : World) (G : List RE) (D : Nat → Bool) (V : Nat → Value) (w : World) : Prop where
  kp : Kp S w0 w
  row : ∀ e ∈ G, D e.i = true → e.phi (V e.i) w
  sep : ∀ e ∈ G, ∀ e' ∈ G, D e.i = true → D e'.i = true → e.ch ≠ e'.ch → ∀ b, (V e.i).ownBlock = some b → (V e'.i).ownBlock ≠ some b
  own : ∀ e ∈ G, D e.i = true → ∀ b, (V e.i).ownBlock = some b → b ∈ S ∨ w0.heap.size ≤ b
def updR (V : Nat → Value) (i : Nat) (v : Value) : Nat → Value := fun j => if j = i then v else V j
theorem updR_same {V : Nat → Value} {i : Nat} {v : Value} : updR V i v i = v := by simp [updR]
theorem updR_ne {V : Nat → Value} {i j : Nat} {v : Value} (h : j ≠ i) : updR V i v j = V j := by simp [updR, h]
section
variable {S : List Nat} {w0 w w' : World} {G : List RE} {D D' : Nat → Bool} {V V' : Nat → Value}
theorem SOk.kp0 (hG : ∀ e ∈ G, e.Ok) (h : SOk S w0 G D V w) (hk : Kp [] w w') : SOk S w0 G D V w' :=
  ⟨h.kp.trans hk.any, fun e he hd => (hG e he).keep _ _ _ hk.size (fun z o _ hB => hB.kp0 hk) (h.row e he hd), h.sep, h.own⟩
theorem SOk.congr (h : SOk S w0 G D V w) (he : ∀ e ∈ G, D e.i = D' e.i ∧ V e.i = V' e.i) : SOk S w0 G D' V' w :=
  ⟨h.kp, fun e hm hd => by obtain ⟨h1, h2⟩ := he e hm; rw [← h2]; exact h.row e hm (by rw [h1]; exact hd),
   fun e hm e' hm' hd hd' hc b hb => by
    obtain ⟨h1, h2⟩ := he e hm
    obtain ⟨h3, h4⟩ := he e' hm'
    rw [← h4]
    rw [← h2] at hb
    exact h.sep e hm e' hm' (by rw [h1]; exact hd) (by rw [h3]; exact hd') hc b hb,
   fun e hm hd b hb => by obtain ⟨h1, h2⟩ := he e hm; rw [← h2] at hb; exact h.own e hm (by rw [h1]; exact hd) b hb⟩
/-- An effect that makes something new. -/
theorem SOk.new (hG : ∀ e ∈ G, e.Ok) (h : SOk S w0 G D V w) {i : Nat} {E : RE} {v : Value} (hE : atR G i = [E]) (hk : Kp [] w w') (hp : E.phi v w') (hb : ∀ b, v.ownBlock = some b → w.heap.size ≤ b) : SOk S w0 G (setD D i) (updR V i v) w' := by
  have h' := h.kp0 hG hk
  have hlt : ∀ e ∈ G, D e.i = true → ∀ b, (V e.i).ownBlock = some b → b < w.heap.size := fun e he hd b hb => (hG e he).lt _ _ b (h.row e he hd) hb
  refine ⟨h'.kp, fun e he hd => ?_, fun e he e' he' hd hd' hc b h1 => ?_, fun e he hd b h1 => ?_⟩
  · by_cases hi : e.i = i
    · rw [atR_mem hE he hi]
      have : E.i = i := (atR_in hE).2
      rw [this, updR_same]
      exact hp
    · rw [setD_ne hi] at hd
      rw [updR_ne hi]
      exact h'.row e he hd
  · by_cases hi : e.i = i
    · by_cases hi' : e'.i = i
      · exact absurd (by rw [atR_mem hE he hi, atR_mem hE he' hi']) hc
      · rw [setD_ne hi'] at hd'
        rw [updR_ne hi']
        rw [hi, updR_same] at h1
        intro h2
        have := hlt e' he' hd' b h2
        have := hb b h1
        omega
    · rw [setD_ne hi] at hd
      rw [updR_ne hi] at h1
      by_cases hi' : e'.i = i
      · rw [hi', updR_same]
        intro h2
        have := hlt e he hd b h1
        have := hb b h2
        omega
      · rw [setD_ne hi'] at hd'
        rw [updR_ne hi']
        exact h.sep e he e' he' hd hd' hc b h1
  · by_cases hi : e.i = i
    · rw [hi, updR_same] at h1
      have := hb b h1
      by_cases hS : w0.heap.size ≤ b
      · exact Or.inr hS
      · have := h.kp.size
        omega
    · rw [setD_ne hi] at hd
      rw [updR_ne hi] at h1
      exact h.own e he hd b h1
/-- An effect that turns the block of one of its chain. -/
theorem SOk.turn (hG : ∀ e ∈ G, e.Ok) (h : SOk S w0 G D V w) {i src : Nat} {E0 E : RE} {v : Value} (h0 : atR G src = [E0]) (hd0 : D src = true) (hE : atR G i = [E]) (hc : E.ch = E0.ch) (hk : Kp S w0 w') (hsz : w.heap.size ≤ w'.heap.size)
    (hoth : ∀ z o, (V src).ownBlock ≠ some z → Blk w z o → Blk w' z o) (hp : E.phi v w') (hb : ∀ b, v.ownBlock = some b → (V src).ownBlock = some b ∨ w.heap.size ≤ b)
    (hch : ∀ e ∈ G, e.ch = E0.ch → e.i ≠ i → D e.i = true → e.phi (V e.i) w → e.phi (V e.i) w') : SOk S w0 G (setD D i) (updR V i v) w' := by
  have hlt : ∀ e ∈ G, D e.i = true → ∀ b, (V e.i).ownBlock = some b → b < w.heap.size := fun e he hd b hb => (hG e he).lt _ _ b (h.row e he hd) hb
  obtain ⟨m0, i0⟩ := atR_in h0
  have hEi : E.i = i := (atR_in hE).2
  refine ⟨hk, fun e he hd => ?_, fun e he e' he' hd hd' hcc b h1 => ?_, fun e he hd b h1 => ?_⟩
  · by_cases hi : e.i = i
    · rw [atR_mem hE he hi, hEi, updR_same]
      exact hp
    · rw [setD_ne hi] at hd
      rw [updR_ne hi]
      by_cases hce : e.ch = E0.ch
      · exact hch e he hce hi hd (h.row e he hd)
      · refine (hG e he).keep _ _ _ hsz (fun z o hz hB => hoth z o (fun e1 => ?_) hB) (h.row e he hd)
        have := h.sep e he E0 m0 hd (by rw [i0]; exact hd0) hce z hz
        rw [i0] at this
        exact this e1
  · by_cases hi : e.i = i
    · by_cases hi' : e'.i = i
      · exact absurd (by rw [atR_mem hE he hi, atR_mem hE he' hi']) hcc
      · rw [setD_ne hi'] at hd'
        rw [updR_ne hi']
        rw [hi, updR_same] at h1
        intro h2
        rcases hb b h1 with h3 | h3
        · have hce : E0.ch ≠ e'.ch := by rw [← hc, ← atR_mem hE he hi]; exact hcc
          exact h.sep E0 m0 e' he' (by rw [i0]; exact hd0) hd' hce b (by rw [i0]; exact h3) h2
        · have := hlt e' he' hd' b h2
          omega
    · rw [setD_ne hi] at hd
      rw [updR_ne hi] at h1
      by_cases hi' : e'.i = i
      · rw [hi', updR_same]
        intro h2
        rcases hb b h2 with h3 | h3
        · have hce : e.ch ≠ E0.ch := by rw [← hc, ← atR_mem hE he' hi']; exact hcc
          have := h.sep e he E0 m0 hd (by rw [i0]; exact hd0) hce b h1
          rw [i0] at this
          exact this h3
        · have := hlt e he hd b h1
          omega
      · rw [setD_ne hi'] at hd'
        rw [updR_ne hi']
        exact h.sep e he e' he' hd hd' hcc b h1
  · by_cases hi : e.i = i
    · rw [hi, updR_same] at h1
      rcases hb b h1 with h3 | h3
      · exact h.own E0 m0 (by rw [i0]; exact hd0) b (by rw [i0]; exact h3)
      · have := h.kp.size
        exact Or.inr (by omega)
    · rw [setD_ne hi] at hd
      rw [updR_ne hi] at h1
      exact h.own e he hd b h1
end
section
variable (P : Program) (S : List Nat) (w0 : World) (ops : List Oper) (G : List RE) (K : Env → Gm → Prop)
def LiveR (D : Nat → Bool) (V : Nat → Value) : List Nat → Env → Gm → Prop
  | [], L, Γ => K L Γ
  | i :: ord, L, Γ => ∃ o, ops[i]? = some o ∧
      ((isR G i = false ∧ ((D i = true ∧ LiveR D V ord (addD o.dst (V i) L) Γ) ∨
          (D i = false ∧ want ops L o = some false ∧ LiveR D V ord (addD o.dst undef L) Γ) ∨
          (D i = false ∧ want ops L o = some true ∧ ∃ v, o.op.operands.toList.all (known L) = true ∧ (∀ w, Kp S w0 w → FactsR ops G i Γ w → OpRun P (rho L) o w (fun v' w' => v' = v ∧ Kp [] w w')) ∧ LiveR D V ord (addD o.dst v L) Γ))) ∨
       (isR G i = true ∧ ((D i = true ∧ LiveR D V ord (addD o.dst (V i) L) ((i, V i) :: Γ)) ∨
          (D i = false ∧ want ops L o = some true ∧ o.op.operands.toList.all (known L) = true ∧
            (∀ D' V' w, SOk S w0 G D' V' w → (∀ p ∈ Γ, sees ops i p.1 = true → D' p.1 = true ∧ V' p.1 = p.2) → D' i = false → (∀ j, anc ops j i = true → D' j = false) → OpRun P (rho L) o w (fun v w' => SOk S w0 G (setD D' i) (updR V' i v) w')) ∧
            ∀ v, LiveR D V ord (addD o.dst v L) ((i, v) :: Γ)))))
/-- The derivation: nothing is done yet. -/
def DerR : List Nat → Env → Gm → Prop := LiveR P S w0 ops G K (fun _ => false) (fun _ => undef)
end
section
variable {P : Program} {n : Nat} {S : List Nat} {ops : List Oper} {Q : Exit → Act → World → Prop} {w0 : World} {L0 : Env} {G : List RE} {K : Env → Gm → Prop}
theorem LiveR.congr {D D' : Nat → Bool} {V V' : Nat → Value} : ∀ {ord : List Nat} {L : Env} {Γ : Gm}, (∀ i ∈ ord, D i = D' i ∧ V i = V' i) → LiveR P S w0 ops G K D V ord L Γ → LiveR P S w0 ops G K D' V' ord L Γ
  | [], _, _, _, h => h
  | i :: ord, L, Γ, he, ⟨o, ho, h⟩ => by
    obtain ⟨e1, e2⟩ := he i (by simp)
    have he' : ∀ j ∈ ord, D j = D' j ∧ V j = V' j := fun j hj => he j (by simp [hj])
    refine ⟨o, ho, ?_⟩
    rcases h with ⟨hg, h⟩ | ⟨hg, h⟩
    · refine Or.inl ⟨hg, ?_⟩
      rcases h with ⟨hd, h⟩ | ⟨hd, hw, h⟩ | ⟨hd, hw, v, hk, hc, h⟩
      · exact Or.inl ⟨by rw [← e1]; exact hd, by rw [← e2]; exact LiveR.congr he' h⟩
      · exact Or.inr (Or.inl ⟨by rw [← e1]; exact hd, hw, LiveR.congr he' h⟩)
      · exact Or.inr (Or.inr ⟨by rw [← e1]; exact hd, hw, v, hk, hc, LiveR.congr he' h⟩)
    · refine Or.inr ⟨hg, ?_⟩
      rcases h with ⟨hd, h⟩ | ⟨hd, hw, hk, hc, h⟩
      · exact Or.inl ⟨by rw [← e1]; exact hd, by rw [← e2]; exact LiveR.congr he' h⟩
      · exact Or.inr ⟨by rw [← e1]; exact hd, hw, hk, hc, fun x => LiveR.congr he' (h x)⟩
def WayR (ops : List Oper) (L0 : Env) (D : Nat → Bool) (V : Nat → Value) (pre : List Nat) (L : Env) : Prop :=
  ∀ t v, look L t = some v → (∃ j ∈ pre, dstOf ops j = some t ∧ (D j = true → v = V j)) ∨ ((∀ j ∈ pre, dstOf ops j ≠ some t) ∧ look L0 t = some v)
theorem WayR.nil {D : Nat → Bool} {V : Nat → Value} : WayR ops L0 D V [] L0 := fun t v h => Or.inr ⟨by simp, h⟩
theorem WayR.cons {D : Nat → Bool} {V : Nat → Value} {pre : List Nat} {L : Env} {i : Nat} {o : Oper} {u : Value} (h : WayR ops L0 D V pre L) (ho : ops[i]? = some o) (hu : D i = true → u = V i) : WayR ops L0 D V (i :: pre) (addD o.dst u L) := by
  intro t v hv
  rw [look_addD] at hv
  have hdi : dstOf ops i = o.dst := by simp [dstOf, ho]
  by_cases e : o.dst = some t
  · rw [if_pos e] at hv
    cases hv
    exact Or.inl ⟨i, by simp, by rw [hdi, e], hu⟩
  · rw [if_neg e] at hv
    rcases h t v hv with ⟨j, hj, h1, h2⟩ | ⟨h1, h2⟩
    · exact Or.inl ⟨j, by simp [hj], h1, h2⟩
    · refine Or.inr ⟨fun j hj => ?_, h2⟩
      rcases List.mem_cons.1 hj with rfl | hj
      · rw [hdi]; exact e
      · exact h1 j hj
/-- The way to an operation that has no effect: all effects ahead of it are done. -/
theorem LiveR.plain {D : Nat → Bool} {V : Nat → Value} {r : Nat} (hgr : isR G r = false) (hdr : D r = false) : ∀ {ord pre : List Nat} {L : Env} {Γ : Gm}, ord.Nodup → r ∈ ord →
    (∀ g A B, ord = A ++ g :: B → r ∈ B → isR G g = true → D g = true) → WayR ops L0 D V pre L → (∀ p ∈ Γ, D p.1 = true ∧ V p.1 = p.2) → LiveR P S w0 ops G K D V ord L Γ →
    ∃ o L' Γ' A B, ord = A ++ r :: B ∧ ops[r]? = some o ∧ WayR ops L0 D V (A.reverse ++ pre) L' ∧ (∀ p ∈ Γ', D p.1 = true ∧ V p.1 = p.2) ∧
      ((want ops L' o = some false ∧ LiveR P S w0 ops G K (setD D r) (updR V r undef) ord L Γ) ∨
       (want ops L' o = some true ∧ ∃ v, o.op.operands.toList.all (known L') = true ∧ (∀ w, Kp S w0 w → FactsR ops G r Γ' w → OpRun P (rho L') o w (fun v' w' => v' = v ∧ Kp [] w w')) ∧ LiveR P S w0 ops G K (setD D r) (updR V r v) ord L Γ))
  | [], _, _, _, _, hm, _, _, _, _ => by cases hm
  | i :: ord, pre, L, Γ, hn, hm, hgd, hway, hfa, ⟨o, ho, h⟩ => by
    have hn' := List.nodup_cons.1 hn
    by_cases hir : i = r
    · subst hir
      have hsame : ∀ j ∈ ord, D j = setD D i j ∧ ∀ v, V j = updR V i v j := fun j hj => by
        have hne : j ≠ i := fun e => hn'.1 (e ▸ hj)
        exact ⟨(setD_ne hne).symm, fun v => by simp [updR, hne]⟩
      refine ⟨o, L, Γ, [], ord, rfl, ho, by simpa using hway, hfa, ?_⟩
      rcases h with ⟨hg, h⟩ | ⟨hg, h⟩
      · rcases h with ⟨hd, h⟩ | ⟨hd, hw, h⟩ | ⟨hd, hw, v, hk, hc, h⟩
        · rw [hdr] at hd; cases hd
        · refine Or.inl ⟨hw, o, ho, Or.inl ⟨hg, Or.inl ⟨setD_same, ?_⟩⟩⟩
          rw [updR_same]
          exact LiveR.congr (fun j hj => ⟨(hsame j hj).1, (hsame j hj).2 _⟩) h
        · refine Or.inr ⟨hw, v, hk, hc, o, ho, Or.inl ⟨hg, Or.inl ⟨setD_same, ?_⟩⟩⟩
          rw [updR_same]
          exact LiveR.congr (fun j hj => ⟨(hsame j hj).1, (hsame j hj).2 _⟩) h
      · rw [hgr] at hg; cases hg
    · have hm' : r ∈ ord := by
        rcases List.mem_cons.1 hm with h | h
        · exact absurd h.symm hir
        · exact h
      have hgd' : ∀ g A B, ord = A ++ g :: B → r ∈ B → isR G g = true → D g = true := fun g A B e hb => hgd g (i :: A) B (by rw [e]; rfl) hb
      have key : ∀ {L1 : Env} {Γ1 : Gm}, WayR ops L0 D V (i :: pre) L1 → (∀ p ∈ Γ1, D p.1 = true ∧ V p.1 = p.2) → LiveR P S w0 ops G K D V ord L1 Γ1 →
          ∃ o' L' Γ' A B, i :: ord = A ++ r :: B ∧ ops[r]? = some o' ∧ WayR ops L0 D V (A.reverse ++ pre) L' ∧ (∀ p ∈ Γ', D p.1 = true ∧ V p.1 = p.2) ∧
            ((want ops L' o' = some false ∧ LiveR P S w0 ops G K (setD D r) (updR V r undef) ord L1 Γ1) ∨
             (want ops L' o' = some true ∧ ∃ v, o'.op.operands.toList.all (known L') = true ∧ (∀ w, Kp S w0 w → FactsR ops G r Γ' w → OpRun P (rho L') o' w (fun v' w' => v' = v ∧ Kp [] w w')) ∧ LiveR P S w0 ops G K (setD D r) (updR V r v) ord L1 Γ1)) := by
        intro L1 Γ1 hw1 hf1 h1
        obtain ⟨o', L', Γ', A, B, e1, e2, e3, e4, e5⟩ := LiveR.plain hgr hdr hn'.2 hm' hgd' hw1 hf1 h1
        exact ⟨o', L', Γ', i :: A, B, by rw [e1]; rfl, e2, by simpa using e3, e4, e5⟩
      have eD : setD D r i = D i := setD_ne hir
      have eV : ∀ v, updR V r v i = V i := fun v => by simp [updR, hir]
      rcases h with ⟨hg, h⟩ | ⟨hg, h⟩
      · rcases h with ⟨hd, h⟩ | ⟨hd, hw, h⟩ | ⟨hd, hw, v, hk, hc, h⟩
        · obtain ⟨o', L', Γ', A, B, e1, e2, e3, e4, e5⟩ := key (hway.cons ho (fun _ => rfl)) hfa h
          refine ⟨o', L', Γ', A, B, e1, e2, e3, e4, ?_⟩
          rcases e5 with ⟨f1, f2⟩ | ⟨f1, v, f2, f3, f4⟩
          · exact Or.inl ⟨f1, o, ho, Or.inl ⟨hg, Or.inl ⟨by rw [eD]; exact hd, by rw [eV]; exact f2⟩⟩⟩
          · exact Or.inr ⟨f1, v, f2, f3, o, ho, Or.inl ⟨hg, Or.inl ⟨by rw [eD]; exact hd, by rw [eV]; exact f4⟩⟩⟩
        · obtain ⟨o', L', Γ', A, B, e1, e2, e3, e4, e5⟩ := key (hway.cons ho (fun hd' => by rw [hd] at hd'; cases hd')) hfa h
          refine ⟨o', L', Γ', A, B, e1, e2, e3, e4, ?_⟩
          rcases e5 with ⟨f1, f2⟩ | ⟨f1, v, f2, f3, f4⟩
          · exact Or.inl ⟨f1, o, ho, Or.inl ⟨hg, Or.inr (Or.inl ⟨by rw [eD]; exact hd, hw, f2⟩)⟩⟩
          · exact Or.inr ⟨f1, v, f2, f3, o, ho, Or.inl ⟨hg, Or.inr (Or.inl ⟨by rw [eD]; exact hd, hw, f4⟩)⟩⟩
        · obtain ⟨o', L', Γ', A, B, e1, e2, e3, e4, e5⟩ := key (hway.cons ho (fun hd' => by rw [hd] at hd'; cases hd')) hfa h
          refine ⟨o', L', Γ', A, B, e1, e2, e3, e4, ?_⟩
          rcases e5 with ⟨f1, f2⟩ | ⟨f1, v', f2, f3, f4⟩
          · exact Or.inl ⟨f1, o, ho, Or.inl ⟨hg, Or.inr (Or.inr ⟨by rw [eD]; exact hd, hw, v, hk, hc, f2⟩)⟩⟩
          · exact Or.inr ⟨f1, v', f2, f3, o, ho, Or.inl ⟨hg, Or.inr (Or.inr ⟨by rw [eD]; exact hd, hw, v, hk, hc, f4⟩)⟩⟩
      · have hdi : D i = true := hgd i [] ord rfl hm' hg
        rcases h with ⟨hd, h⟩ | ⟨hd, _⟩
        · obtain ⟨o', L', Γ', A, B, e1, e2, e3, e4, e5⟩ := key (hway.cons ho (fun _ => rfl)) (fun p hp => by
            rcases List.mem_cons.1 hp with rfl | hp
            · exact ⟨hd, rfl⟩
            · exact hfa p hp) h
          refine ⟨o', L', Γ', A, B, e1, e2, e3, e4, ?_⟩
          rcases e5 with ⟨f1, f2⟩ | ⟨f1, v, f2, f3, f4⟩
          · exact Or.inl ⟨f1, o, ho, Or.inr ⟨hg, Or.inl ⟨by rw [eD]; exact hd, by rw [eV]; exact f2⟩⟩⟩
          · exact Or.inr ⟨f1, v, f2, f3, o, ho, Or.inr ⟨hg, Or.inl ⟨by rw [eD]; exact hd, by rw [eV]; exact f4⟩⟩⟩
        · rw [hdi] at hd; cases hd
/-- What is so at an effect. -/
def EffR (P : Program) (S : List Nat) (w0 : World) (ops : List Oper) (G : List RE) (r : Nat) (o : Oper) (L' : Env) (Γ' : Gm) : Prop :=
  ∀ D' V' w, SOk S w0 G D' V' w → (∀ p ∈ Γ', sees ops r p.1 = true → D' p.1 = true ∧ V' p.1 = p.2) → D' r = false → (∀ j, anc ops j r = true → D' j = false) → OpRun P (rho L') o w (fun v w' => SOk S w0 G (setD D' r) (updR V' r v) w')
/-- The way to an effect: others may stand beside it, undone. -/
theorem LiveR.effect {D : Nat → Bool} {V : Nat → Value} {r : Nat} (hgr : isR G r = true) (hdr : D r = false) : ∀ {ord pre : List Nat} {L : Env} {Γ : Gm}, ord.Nodup → r ∈ ord →
    WayR ops L0 D V pre L → (∀ p ∈ Γ, D p.1 = true → V p.1 = p.2) → LiveR P S w0 ops G K D V ord L Γ →
    ∃ o L' Γ' A B, ord = A ++ r :: B ∧ ops[r]? = some o ∧ WayR ops L0 D V (A.reverse ++ pre) L' ∧ (∀ p ∈ Γ', D p.1 = true → V p.1 = p.2) ∧ want ops L' o = some true ∧ o.op.operands.toList.all (known L') = true ∧ EffR P S w0 ops G r o L' Γ' ∧ ∀ v, LiveR P S w0 ops G K (setD D r) (updR V r v) ord L Γ
  | [], _, _, _, _, hm, _, _, _ => by cases hm
  | i :: ord, pre, L, Γ, hn, hm, hway, hfa, ⟨o, ho, h⟩ => by
    have hn' := List.nodup_cons.1 hn
    by_cases hir : i = r
    · subst hir
      have hcg : ∀ (x : Value) {L1 : Env} {Γ1 : Gm}, LiveR P S w0 ops G K D V ord L1 Γ1 → LiveR P S w0 ops G K (setD D i) (updR V i x) ord L1 Γ1 := fun x {L1 Γ1} h1 => LiveR.congr (fun j hj => by
        have hne : j ≠ i := fun e => hn'.1 (e ▸ hj)
        exact ⟨(setD_ne hne).symm, (updR_ne hne).symm⟩) h1
      rcases h with ⟨hg, h⟩ | ⟨hg, h⟩
      · rw [hgr] at hg; cases hg
      · rcases h with ⟨hd, h⟩ | ⟨hd, hw, hk, hc, h⟩
        · rw [hdr] at hd; cases hd
        · refine ⟨o, L, Γ, [], ord, rfl, ho, by simpa using hway, hfa, hw, hk, hc, fun x => ⟨o, ho, Or.inr ⟨hg, Or.inl ⟨setD_same, ?_⟩⟩⟩⟩
          rw [updR_same]
          exact hcg x (h x)
    · have hm' : r ∈ ord := by
        rcases List.mem_cons.1 hm with h | h
        · exact absurd h.symm hir
        · exact h
      have eD : setD D r i = D i := setD_ne hir
      have eX : ∀ x, updR V r x i = V i := fun x => updR_ne hir
      have key : ∀ {L1 : Env} {Γ1 : Gm}, WayR ops L0 D V (i :: pre) L1 → (∀ p ∈ Γ1, D p.1 = true → V p.1 = p.2) → LiveR P S w0 ops G K D V ord L1 Γ1 →
          ∃ o L' Γ' A B, i :: ord = A ++ r :: B ∧ ops[r]? = some o ∧ WayR ops L0 D V (A.reverse ++ pre) L' ∧ (∀ p ∈ Γ', D p.1 = true → V p.1 = p.2) ∧ want ops L' o = some true ∧ o.op.operands.toList.all (known L') = true ∧ EffR P S w0 ops G r o L' Γ' ∧ ∀ v, LiveR P S w0 ops G K (setD D r) (updR V r v) ord L1 Γ1 := by
        intro L1 Γ1 hw1 hf1 h1
        obtain ⟨o', L', Γ', A, B, e1, e2, e3, e4, e5, e6, e7, e8⟩ := LiveR.effect hgr hdr hn'.2 hm' hw1 hf1 h1
        exact ⟨o', L', Γ', i :: A, B, by rw [e1]; rfl, e2, by simpa using e3, e4, e5, e6, e7, e8⟩
      rcases h with ⟨hg, h⟩ | ⟨hg, h⟩
      · rcases h with ⟨hd, h⟩ | ⟨hd, hw, h⟩ | ⟨hd, hw, v, hk, hc, h⟩
        · obtain ⟨o', L', Γ', A, B, e1, e2, e3, e4, e5, e6, e7, e8⟩ := key (hway.cons ho (fun _ => rfl)) hfa h
          exact ⟨o', L', Γ', A, B, e1, e2, e3, e4, e5, e6, e7, fun x => ⟨o, ho, Or.inl ⟨hg, Or.inl ⟨by rw [eD]; exact hd, by rw [eX]; exact e8 x⟩⟩⟩⟩
        · obtain ⟨o', L', Γ', A, B, e1, e2, e3, e4, e5, e6, e7, e8⟩ := key (hway.cons ho (fun hd' => by rw [hd] at hd'; cases hd')) hfa h
          exact ⟨o', L', Γ', A, B, e1, e2, e3, e4, e5, e6, e7, fun x => ⟨o, ho, Or.inl ⟨hg, Or.inr (Or.inl ⟨by rw [eD]; exact hd, hw, e8 x⟩)⟩⟩⟩
        · obtain ⟨o', L', Γ', A, B, e1, e2, e3, e4, e5, e6, e7, e8⟩ := key (hway.cons ho (fun hd' => by rw [hd] at hd'; cases hd')) hfa h
          exact ⟨o', L', Γ', A, B, e1, e2, e3, e4, e5, e6, e7, fun x => ⟨o, ho, Or.inl ⟨hg, Or.inr (Or.inr ⟨by rw [eD]; exact hd, hw, v, hk, hc, e8 x⟩)⟩⟩⟩
      · rcases h with ⟨hd, h⟩ | ⟨hd, hw, hk, hc, h⟩
        · obtain ⟨o', L', Γ', A, B, e1, e2, e3, e4, e5, e6, e7, e8⟩ := key (hway.cons ho (fun _ => rfl)) (fun p hp hpd => by
            rcases List.mem_cons.1 hp with rfl | hp
            · rfl
            · exact hfa p hp hpd) h
          exact ⟨o', L', Γ', A, B, e1, e2, e3, e4, e5, e6, e7, fun x => ⟨o, ho, Or.inr ⟨hg, Or.inl ⟨by rw [eD]; exact hd, by rw [eX]; exact e8 x⟩⟩⟩⟩
        · have hf : ∀ (y : Value), ∀ p ∈ ((i, y) :: Γ : Gm), D p.1 = true → V p.1 = p.2 := fun y p hp hpd => by
            rcases List.mem_cons.1 hp with rfl | hp
            · simp only at hpd; rw [hd] at hpd; cases hpd
            · exact hfa p hp hpd
          have all : ∀ y, ∀ x, LiveR P S w0 ops G K (setD D r) (updR V r x) ord (addD o.dst y L) ((i, y) :: Γ) := fun y => by
            obtain ⟨o', L', Γ', A, B, e1, e2, e3, e4, e5, e6, e7, e8⟩ := key (hway.cons ho (fun hd' => by rw [hd] at hd'; cases hd')) (hf y) (h y)
            exact e8
          obtain ⟨o', L', Γ', A, B, e1, e2, e3, e4, e5, e6, e7, e8⟩ := key (hway.cons ho (fun hd' => by rw [hd] at hd'; cases hd')) (hf undef) (h undef)
          exact ⟨o', L', Γ', A, B, e1, e2, e3, e4, e5, e6, e7, fun x => ⟨o, ho, Or.inr ⟨hg, Or.inr ⟨by rw [eD]; exact hd, hw, hk, hc, fun y => all y x⟩⟩⟩⟩
/-- All is done. -/
theorem LiveR.done {D : Nat → Bool} {V : Nat → Value} : ∀ {ord pre : List Nat} {L : Env} {Γ : Gm}, (∀ i ∈ ord, D i = true) → WayR ops L0 D V pre L → (∀ p ∈ Γ, V p.1 = p.2) → LiveR P S w0 ops G K D V ord L Γ →
    ∃ L' Γ', WayR ops L0 D V (ord.reverse ++ pre) L' ∧ (∀ p ∈ Γ', V p.1 = p.2) ∧ K L' Γ'
  | [], pre, L, Γ, _, hway, hfa, h => ⟨L, Γ, by simpa using hway, hfa, h⟩
  | i :: ord, pre, L, Γ, hall, hway, hfa, ⟨o, ho, h⟩ => by
    have hdi := hall i (by simp)
    have hall' : ∀ j ∈ ord, D j = true := fun j hj => hall j (by simp [hj])
    rcases h with ⟨hg, h⟩ | ⟨hg, h⟩
    · rcases h with ⟨hd, h⟩ | ⟨hd, _⟩ | ⟨hd, _⟩
      · obtain ⟨L', Γ', e1, e2, e3⟩ := LiveR.done hall' (hway.cons ho (fun _ => rfl)) hfa h
        exact ⟨L', Γ', by simpa using e1, e2, e3⟩
      · rw [hdi] at hd; cases hd
      · rw [hdi] at hd; cases hd
    · rcases h with ⟨hd, h⟩ | ⟨hd, _⟩
      · obtain ⟨L', Γ', e1, e2, e3⟩ := LiveR.done hall' (hway.cons ho (fun _ => rfl)) (fun p hp => by
          rcases List.mem_cons.1 hp with rfl | hp
          · rfl
          · exact hfa p hp) h
        exact ⟨L', Γ', by simpa using e1, e2, e3⟩
      · rw [hdi] at hd; cases hd
end
end Go.Proofs.YtnoipmimddoioaaGreat
namespace Go.Proofs.YtnoipmimddoioaaGreat
set_option linter.unusedVariables false
def chkY (n : Nat) (ops : List Oper) (ord gi : List Nat) (k0 k : Nat) : Bool :=
  ops.all (fun o => !isSelect o.op) && ops.all (fun o => o.dst.all (fun d => Nat.blt d n)) && nodupB (ops.filterMap (·.dst)) &&
  (List.range k).all (fun i => Nat.blt i k0 || ord.elem i) && nodupB ord && ordX ops gi [] ord && ord.all (fun i => Nat.blt i k && Nat.ble k0 i) && Nat.ble k ops.length &&
  ((List.range ops.length).all fun i => ((ops[i]?).map fun o => (edges o).all (fun e => Nat.blt e i)).getD false) &&
  ((List.range ops.length).all fun i => Nat.blt i k || (List.range k).all (fun j => Nat.blt j k0 || anc ops i j)) && gi.all (fun i => ord.elem i)
section
variable {P : Program} {n : Nat} {ops : List Oper} {Q : Exit → Act → World → Prop} {w0 : World} {L0 : Env} {G : List (Nat × GD)} {ord gi : List Nat} {k0 k : Nat}
structure ChkY (n : Nat) (ops : List Oper) (ord gi : List Nat) (k0 k : Nat) : Prop where
  sel : ∀ o ∈ ops, isSelect o.op = false
  dlt : ∀ o ∈ ops, ∀ d, o.dst = some d → d < n
  one : ∀ (i j : Nat) (oi oj : Oper) (t : Nat), ops[i]? = some oi → ops[j]? = some oj → oi.dst = some t → oj.dst = some t → i = j
  cover : ∀ i, k0 ≤ i → i < k → i ∈ ord
  nodup : ord.Nodup
  ok : ordX ops gi [] ord = true
  lt : ∀ i ∈ ord, i < k
  ge : ∀ i ∈ ord, k0 ≤ i
  le : k ≤ ops.length
  ed : ∀ (i : Nat) (o : Oper), ops[i]? = some o → ∀ e ∈ edges o, e < i
  tl : ∀ i, i < ops.length → k ≤ i → ∀ j, k0 ≤ j → j < k → anc ops i j = true
  gi : ∀ i ∈ gi, i ∈ ord
/-- What is so on the way. -/
structure StY (P : Program) (n : Nat) (ops : List Oper) (k0 : Nat) (w0 : World) (L0 : Env) (G : List (Nat × GD)) (K : Env → List Fact → Prop) (ord : List Nat) (D : Nat → Bool) (V : Nat → Value) (ξ : (i : Nat) → (gdOf G i).X) (a : Act) (w : World) : Prop where
  closed : ∀ (i : Nat) (o : Oper), ops[i]? = some o → D i = true → ∀ e ∈ edges o, D e = true
  size : a.tmps.size = n
  defers : a.defers = []
  slot : ∀ (i : Nat) (o : Oper) (d : Nat), k0 ≤ i → ops[i]? = some o → D i = true → o.dst = some d → a.tmps[d]? = some (gave G V ξ i)
  old : ∀ t v, look L0 t = some v → (∀ (i : Nat) (o : Oper), k0 ≤ i → ops[i]? = some o → D i = true → o.dst ≠ some t) → a.tmps[t]? = some v
  kp : Kp [] w0 w
  ph : ∀ i, isGh G i = true → D i = true → (gdOf G i).phi (ξ i) w
  live : Live P w0 ops G K D V ξ ord L0 []
/-- The first k are done. -/
def lst (N k : Nat) : Array Bool := ((List.range N).map (fun i => decide (i < k))).toArray
/-- The region, its first k done. -/
def RG (P : Program) (n : Nat) (ops : List Oper) (Q : Exit → Act → World → Prop) (k : Nat) (L : Env) (w : World) : Prop := ∀ a, Fits n a L → Go.wpAny P .any ops.toArray Q (ops.length - k) (lst ops.length k) a w
def KY (n : Nat) (w0 : World) (P : Program) (ops : List Oper) (Q : Exit → Act → World → Prop) (k : Nat) (L : Env) (Γ : List Fact) : Prop :=
  ∀ w', Kp [] w0 w' → (∀ p ∈ Γ, p.2 w') → RG P n ops Q k L w'
theorem cnt_of {listed : Array Bool} (hle : k ≤ ops.length) (hdec : ∀ i, i < ops.length → listed.getD i true = decide (i < k)) : (List.range ops.length).countP (fun i => !listed.getD i true) = ops.length - k := by
  have e1 : (List.range ops.length).countP (fun i => !listed.getD i true) = (List.range ops.length).countP (fun i => !decide (i < k)) := by
    apply List.countP_congr
    intro i hi
    rw [hdec i (by simpa using hi)]
  rw [e1]
  have : ops.length = k + (ops.length - k) := by omega
  rw [this, List.range_add, List.countP_append, List.countP_map]
  have h1 : (List.range k).countP (fun i => !decide (i < k)) = 0 := by
    rw [List.countP_eq_zero]; intro i hi; simp at hi; simp [hi]
  have h2 : (List.range (ops.length - k)).countP ((fun i => !decide (i < k)) ∘ fun x => k + x) = (List.range (ops.length - k)).length := by
    rw [List.countP_eq_length]; intro i hi; simp
  rw [h1, h2]
  simp
end
end Go.Proofs.YtnoipmimddoioaaGreat
namespace Go.Proofs.YtnoipmimddoioaaGreat
set_option linter.unusedVariables false
def giR (G : List RE) : List Nat := (G.map (·.i)).filter (fun i => Nat.blt i 1000)
theorem isR_iff {G : List RE} {i : Nat} (hi : i < 1000) : isR G i = (giR G).elem i := by
  rw [Bool.eq_iff_iff, List.elem_eq_mem, decide_eq_true_iff]
  unfold isR giR
  rw [List.any_eq_true, List.mem_filter, List.mem_map]
  constructor
  · rintro ⟨e, he, h⟩
    exact ⟨⟨e, he, by simpa using h⟩, by simp [Nat.blt_eq, hi]⟩
  · rintro ⟨⟨e, he, h⟩, _⟩
    exact ⟨e, he, by simp [h]⟩
theorem befs_len : ∀ (r : List Oper) (acc : List Nat), (befs r acc).length = acc.length + r.length
  | [], acc => by simp [befs]
  | o :: r, acc => by simp only [befs]; rw [befs_len r]; simp; omega
/-- Where nothing is done the values don't count. -/
theorem LiveR.anyV {P : Program} {S : List Nat} {w0 : World} {ops : List Oper} {G : List RE} {K : Env → Gm → Prop} {D : Nat → Bool} {V V' : Nat → Value} : ∀ {ord : List Nat} {L : Env} {Γ : Gm}, (∀ i ∈ ord, D i = false) → LiveR P S w0 ops G K D V ord L Γ → LiveR P S w0 ops G K D V' ord L Γ
  | [], _, _, _, h => h
  | i :: ord, L, Γ, he, ⟨o, ho, h⟩ => by
    have e1 := he i (by simp)
    have he' : ∀ j ∈ ord, D j = false := fun j hj => he j (by simp [hj])
    refine ⟨o, ho, ?_⟩
    rcases h with ⟨hg, h⟩ | ⟨hg, h⟩
    · refine Or.inl ⟨hg, ?_⟩
      rcases h with ⟨hd, h⟩ | ⟨hd, hw, h⟩ | ⟨hd, hw, v, hk, hc, h⟩
      · rw [e1] at hd; cases hd
      · exact Or.inr (Or.inl ⟨hd, hw, LiveR.anyV he' h⟩)
      · exact Or.inr (Or.inr ⟨hd, hw, v, hk, hc, LiveR.anyV he' h⟩)
    · refine Or.inr ⟨hg, ?_⟩
      rcases h with ⟨hd, h⟩ | ⟨hd, hw, hk, hc, h⟩
      · rw [e1] at hd; cases hd
      · exact Or.inr ⟨hd, hw, hk, hc, fun x => LiveR.anyV he' (h x)⟩
section
variable {P : Program} {n : Nat} {S : List Nat} {ops : List Oper} {Q : Exit → Act → World → Prop} {w0 : World} {L0 : Env} {G : List RE} {Γ0 : Gm} {ord : List Nat} {k : Nat}
structure StR (P : Program) (n : Nat) (S : List Nat) (ops : List Oper) (w0 : World) (L0 : Env) (G : List RE) (Γ0 : Gm) (K : Env → Gm → Prop) (ord : List Nat) (D : Nat → Bool) (V : Nat → Value) (a : Act) (w : World) : Prop where
  closed : ∀ (i : Nat) (o : Oper), ops[i]? = some o → D i = true → ∀ e ∈ edges o, D e = true
  size : a.tmps.size = n
  defers : a.defers = []
  slot : ∀ (i : Nat) (o : Oper) (d : Nat), ops[i]? = some o → D i = true → o.dst = some d → a.tmps[d]? = some (V i)
  old : ∀ t v, look L0 t = some v → (∀ (i : Nat) (o : Oper), ops[i]? = some o → D i = true → o.dst ≠ some t) → a.tmps[t]? = some v
  ok : SOk S w0 G D V w
  ini : ∀ p ∈ Γ0, V p.1 = p.2 ∧ D p.1 = true ∧ ops.length ≤ p.1
  live : LiveR P S w0 ops G K D V ord L0 Γ0
theorem StR.looks {K : Env → Gm → Prop} {D : Nat → Bool} {V : Nat → Value} {a : Act} {w : World} (c : ChkX n ops ord (giR G) k) (hst : StR P n S ops w0 L0 G Γ0 K ord D V a w) (htl : ∀ i, i < ops.length → k ≤ i → D i = false)
    {r : Nat} {o : Oper} {A B : List Nat} {L' : Env} (he : ord = A ++ r :: B) (ho : ops[r]? = some o) (hdr : D r = false) (hanc : ∀ j, anc ops r j = true → D j = true) (hway : WayR ops L0 D V (A.reverse ++ []) L') :
    ∀ t ∈ lks ops o, ∀ v, look L' t = some v → a.tmps[t]? = some v := by
  intro t ht v hv
  obtain ⟨g1, _⟩ := ordX_spec ord [] c.ok A r B he o ho
  rcases hway t v hv with ⟨j, hj, h1, h2⟩ | ⟨h1, h2⟩
  · have hjA : j ∈ A := by simpa using hj
    have hdj := hanc j ((g1 t ht).1 j (Or.inl hjA) h1)
    unfold dstOf at h1
    cases hoj : ops[j]? with
    | none => rw [hoj] at h1; simp at h1
    | some oj =>
      rw [hoj] at h1
      simp only [Option.bind_some] at h1
      rw [hst.slot j oj t hoj hdj h1, h2 hdj]
  · refine hst.old t v h2 (fun i oi hoi hdi e => ?_)
    have hil := (List.getElem?_eq_some_iff.1 hoi).1
    have hik : i < k := by
      by_cases h : i < k
      · exact h
      · rw [htl i hil (by omega)] at hdi; cases hdi
    have hio := c.cover i hik
    have hdi' : dstOf ops i = some t := by simp [dstOf, hoi, e]
    rw [he] at hio
    rcases List.mem_append.1 hio with hA | hB
    · exact h1 i (by simpa using hA) hdi'
    · rcases List.mem_cons.1 hB with rfl | hB
      · rw [hdr] at hdi; cases hdi
      · have h3 := (g1 t ht).2 i hB hdi'
        have := anc_closed hst.closed i oi hoi (hst.closed i oi hoi hdi) r h3
        rw [hdr] at this
        cases this
/-- One is done. -/
theorem StR.did {K : Env → Gm → Prop} {D : Nat → Bool} {V : Nat → Value} {a : Act} {w w' : World} (c : ChkX n ops ord (giR G) k) (hst : StR P n S ops w0 L0 G Γ0 K ord D V a w) {r : Nat} {o : Oper} {v : Value} (ho : ops[r]? = some o) (hed : ∀ e ∈ edges o, D e = true)
    (hok : SOk S w0 G (setD D r) (updR V r v) w') (hlive : LiveR P S w0 ops G K (setD D r) (updR V r v) ord L0 Γ0) :
    StR P n S ops w0 L0 G Γ0 K ord (setD D r) (updR V r v) (a.put o.dst v) w' := by
  have hrl := (List.getElem?_eq_some_iff.1 ho).1
  refine ⟨fun i oi hoi hdi e he => ?_, ?_, ?_, fun i oi d hoi hdi hd => ?_, fun t u hu hno => ?_, hok, fun p hp => ?_, hlive⟩
  · by_cases hir : i = r
    · subst hir
      rw [ho] at hoi
      cases hoi
      exact setD_of (hed e he)
    · rw [setD_ne hir] at hdi
      exact setD_of (hst.closed i oi hoi hdi e he)
  · cases hdd : o.dst with
    | none => exact hst.size
    | some d => simp [Act.put, hst.size]
  · cases hdd : o.dst <;> exact hst.defers
  · by_cases hir : i = r
    · subst hir
      rw [ho] at hoi
      cases hoi
      rw [hd, updR_same]
      exact put_here hst.size (c.dlt o (List.mem_of_getElem? ho) d hd)
    · rw [setD_ne hir] at hdi
      rw [updR_ne hir]
      exact put_slot hst.size d _ (hst.slot i oi d hoi hdi hd) (fun e => hir (c.one i r oi o d hoi ho hd e))
  · refine put_slot hst.size t u (hst.old t u hu (fun i oi hoi hdi => hno i oi hoi (setD_of hdi))) (hno r o ho setD_same)
  · obtain ⟨h1, h2, h3⟩ := hst.ini p hp
    exact ⟨by rw [updR_ne (by omega)]; exact h1, setD_of h2, h3⟩
def KR (n : Nat) (S : List Nat) (w0 : World) (P : Program) (ops : List Oper) (Q : Exit → Act → World → Prop) (k : Nat) (G : List RE) (L : Env) (Γ : Gm) : Prop :=
  ∀ w' V, SOk S w0 G (fun _ => true) V w' → (∀ p ∈ Γ, V p.1 = p.2) → SG P n ops Q (ops.drop k) L w'
theorem StR.wpAny (c : ChkX n ops ord (giR G) k) (hG : ∀ e ∈ G, e.Ok) (hlen : ops.length ≤ 1000) : ∀ (fuel : Nat) (listed : Array Bool) (V : Nat → Value) (a : Act) (w : World),
    listed.size = ops.length → StR P n S ops w0 L0 G Γ0 (KR n S w0 P ops Q k G) ord (fun j => listed.getD j true) V a w → (∀ i, i < ops.length → k ≤ i → listed.getD i true = false) →
    (List.range ops.length).countP (fun i => !listed.getD i true) = fuel → Go.wpAny P .any ops.toArray Q fuel listed a w := by
  have hfin : ∀ (listed : Array Bool) (V : Nat → Value) (a : Act) (w : World), listed.size = ops.length → StR P n S ops w0 L0 G Γ0 (KR n S w0 P ops Q k G) ord (fun j => listed.getD j true) V a w → (∀ i, i < ops.length → k ≤ i → listed.getD i true = false) → (∀ i, i < k → listed.getD i true = true) → wpList P ops.toArray Q (ops.drop k) a w := by
    intro listed V a w hsz hst htl hpre
    obtain ⟨L', Γ', h1, h2, h3⟩ := LiveR.done (L0 := L0) (pre := []) (fun i hi => hpre i (c.lt i hi)) WayR.nil (fun p hp => (hst.ini p hp).1) hst.live
    refine h3 w V (hst.ok.congr (fun e he => ⟨?_, rfl⟩)) h2 a ⟨fun t v hv => ?_, hst.size, hst.defers⟩
    · by_cases h : e.i < 1000
      · have hg : (giR G).elem e.i = true := by
          rw [← isR_iff h]
          exact List.any_eq_true.2 ⟨e, he, by simp⟩
        rw [List.elem_eq_mem] at hg
        exact hpre _ (c.lt _ (c.gi _ (of_decide_eq_true hg)))
      · simp [Array.getD_eq_getD_getElem?, Array.getElem?_eq_none (show listed.size ≤ e.i by omega)]
    · rcases h1 t v hv with ⟨j, hj, g1, g2⟩ | ⟨g1, g2⟩
      · have hjo : j ∈ ord := by simpa using hj
        have hdj := hpre j (c.lt j hjo)
        unfold dstOf at g1
        cases hoj : ops[j]? with
        | none => rw [hoj] at g1; simp at g1
        | some oj =>
          rw [hoj] at g1
          simp only [Option.bind_some] at g1
          rw [hst.slot j oj t hoj hdj g1, g2 hdj]
      · refine hst.old t v g2 (fun i oi hoi hdi e => ?_)
        have hil := (List.getElem?_eq_some_iff.1 hoi).1
        have hik : i < k := by
          by_cases h : i < k
          · exact h
          · simp only [htl i hil (by omega)] at hdi; cases hdi
        exact g1 i (by simpa using c.cover i hik) (by simp [dstOf, hoi, e])
  intro fuel
  induction fuel with
  | zero =>
    intro listed V a w hsz hst htl hcnt
    rw [List.countP_eq_zero] at hcnt
    have hall : ∀ i, i < ops.length → listed.getD i true = true := fun i hi => by simpa using hcnt i (by simpa using hi)
    have hle := c.le
    have hk : k = ops.length := by
      by_cases h : k < ops.length
      · have := htl k h (Nat.le_refl _)
        rw [hall k h] at this
        cases this
      · omega
    exact wpAny_tail c.ed 0 k listed a w (by omega) hsz c.tl hst.closed (fun i hi => by rw [hall i hi]; simp; omega) (hfin listed V a w hsz hst htl (fun i hi => hall i (by omega)))
  | succ fuel ih =>
    intro listed V a w hsz hst htl hcnt
    have hle := c.le
    by_cases hpre : ∀ i, i < k → listed.getD i true = true
    · have hdec : ∀ i, i < ops.length → listed.getD i true = decide (i < k) := by
        intro i hi
        by_cases hik : i < k
        · rw [hpre i hik]; simp [hik]
        · rw [htl i hi (by omega)]; simp [hik]
      have hm : k + (fuel + 1) = ops.length := by
        have := cnt_of hle hdec
        omega
      exact wpAny_tail c.ed (fuel + 1) k listed a w hm hsz c.tl hst.closed hdec (hfin listed V a w hsz hst htl hpre)
    · constructor
      · intro hr
        exfalso
        apply hpre
        intro i
        induction i using Nat.strongRecOn with
        | _ i ihi =>
          intro hik
          cases hd : listed.getD i true with
          | true => rfl
          | false =>
            exfalso
            have : i ∈ Region.ready .any ops.toArray listed := by
              refine (ready_iff hsz).2 ⟨ops[i], by simp, hd, fun e he => ?_⟩
              have hei := c.ed i ops[i] (by simp) e he
              have := ihi e hei (by omega)
              simp only [Array.getD_eq_getD_getElem?] at this ⊢
              rw [Array.getElem?_eq_getElem (by omega)] at this ⊢
              exact this
            rw [hr] at this
            cases this
      · intro i hi
        obtain ⟨o, ho, hnd, hed'⟩ := (ready_iff hsz).1 hi
        have hil : i < ops.length := (List.getElem?_eq_some_iff.1 ho).1
        have hed : ∀ e ∈ edges o, listed.getD e true = true := by
          intro e he
          have := hed' e he
          simp only [Array.getD_eq_getD_getElem?] at this ⊢
          cases h : listed[e]? with
          | none => rfl
          | some b => rw [h] at this; exact this
        have hanc : ∀ j, anc ops i j = true → listed.getD j true = true := anc_closed hst.closed i o ho hed
        have hsz' : (listed.setIfInBounds i true).size = ops.length := by simp [hsz]
        have hset : (fun j => (listed.setIfInBounds i true).getD j true) = setD (fun j => listed.getD j true) i := funext fun j => getD_set (by omega)
        have hini : ∀ p ∈ Γ0, listed.getD p.1 true = true ∧ V p.1 = p.2 := fun p hp => ⟨(hst.ini p hp).2.1, (hst.ini p hp).1⟩
        have hlater : ∀ j, anc ops j i = true → listed.getD j true = false := by
          intro j hj
          cases hd : listed.getD j true with
          | false => rfl
          | true =>
            exfalso
            by_cases hjl : j < ops.length
            · have hoj : ops[j]? = some ops[j] := by simp
              have := anc_closed hst.closed j ops[j] hoj (hst.closed j ops[j] hoj hd) i hj
              rw [hnd] at this
              cases this
            · unfold anc at hj
              rw [List.getD_eq_getElem?_getD, List.getElem?_eq_none (by rw [befs_len]; simp; omega)] at hj
              simp at hj
        by_cases hik : i < k
        · have htl' : ∀ j, j < ops.length → k ≤ j → (listed.setIfInBounds i true).getD j true = false := by
            intro j hj hkj
            rw [getD_set (by omega), setD_ne (by omega)]
            exact htl j hj hkj
          have hcnt' : (List.range ops.length).countP (fun j => !(listed.setIfInBounds i true).getD j true) = fuel := by
            have key : ∀ (l : List Nat), l.Nodup → i ∈ l → l.countP (fun j => !listed.getD j true) = l.countP (fun j => !(listed.setIfInBounds i true).getD j true) + 1 := by
              intro l
              induction l with
              | nil => intro _ h; cases h
              | cons y l ihl =>
                intro hnl hm
                rw [List.nodup_cons] at hnl
                rw [List.countP_cons, List.countP_cons]
                by_cases e : y = i
                · subst e
                  have hsame : l.countP (fun j => !listed.getD j true) = l.countP (fun j => !(listed.setIfInBounds y true).getD j true) := by
                    apply List.countP_congr
                    intro j hj
                    rw [getD_set (by omega), setD_ne (show j ≠ y from fun e1 => hnl.1 (e1 ▸ hj))]
                  rw [hsame, getD_set (by omega), setD_same, hnd]
                  simp
                · have hm' : i ∈ l := by
                    rcases List.mem_cons.1 hm with h | h
                    · exact absurd h.symm e
                    · exact h
                  rw [ihl hnl.2 hm', getD_set (by omega), setD_ne e]
                  omega
            have := key (List.range ops.length) List.nodup_range (by simpa using hil)
            omega
          have hio := c.cover i hik
          cases hg : isR G i with
          | false =>
            have hgd : ∀ g A B, ord = A ++ g :: B → i ∈ B → isR G g = true → listed.getD g true = true := by
              intro g A B he hb hgg
              have hgo : g ∈ ord := by rw [he]; simp
              have hgl : g < ops.length := Nat.lt_of_lt_of_le (c.lt g hgo) hle
              obtain ⟨_, g2⟩ := ordX_spec ord [] c.ok A g B he ops[g] (by simp [hgl])
              rcases g2 (by rw [← isR_iff (by omega)]; exact hgg) i hb with h | h
              · rw [← isR_iff (by omega), hg] at h; cases h
              · exact hanc g h
            obtain ⟨o', L', Γ', A, B, e1, e2, e3, e4, e5⟩ := LiveR.plain (D := fun j => listed.getD j true) hg hnd c.nodup hio hgd WayR.nil hini hst.live
            have heo : o = o' := Option.some.inj (ho.symm.trans e2)
            subst heo
            have hlk := hst.looks c htl e1 ho hnd hanc e3
            rcases e5 with ⟨hw, hl⟩ | ⟨hw, v, hkn, hrun, hl⟩
            · refine wpOp_of ho (wanted_of hlk hw) (fun h => by cases h) (fun _ => ?_)
              refine ih _ (updR V i undef) _ w hsz' ?_ htl' hcnt'
              rw [hset]
              exact hst.did c ho hed (hst.ok.congr (fun e he => ⟨(setD_ne (D := fun j => listed.getD j true) (isR_no hg he)).symm, (updR_ne (isR_no hg he)).symm⟩)) hl
            · refine wpOp_of ho (wanted_of hlk hw) (fun _ => ?_) (fun h => by cases h)
              have hr := hrun w hst.ok.kp (fun p hp ha e he hei => by
                obtain ⟨h1, h2⟩ := e4 p hp
                rw [← h2, ← hei]
                exact hst.ok.row e he (by rw [hei]; exact h1))
              have hr' := OpRun.congr (c.sel o (List.mem_of_getElem? ho)) (eval_of hlk hkn) hr
              refine hr'.wp (fun v' w' ⟨h1, h2⟩ => ?_)
              subst h1
              refine ih _ (updR V i v') _ w' hsz' ?_ htl' hcnt'
              rw [hset]
              exact hst.did c ho hed ((hst.ok.kp0 hG h2).congr (fun e he => ⟨(setD_ne (D := fun j => listed.getD j true) (isR_no hg he)).symm, (updR_ne (isR_no hg he)).symm⟩)) hl
          | true =>
            obtain ⟨o', L', Γ', A, B, e1, e2, e3, e4, hw, hkn, hrun, hl⟩ := LiveR.effect (D := fun j => listed.getD j true) hg hnd c.nodup hio WayR.nil (fun p hp _ => (hini p hp).2) hst.live
            have heo : o = o' := Option.some.inj (ho.symm.trans e2)
            subst heo
            have hlk := hst.looks c htl e1 ho hnd hanc e3
            refine wpOp_of ho (wanted_of hlk hw) (fun _ => ?_) (fun h => by cases h)
            have hr := hrun (fun j => listed.getD j true) V w hst.ok (fun p hp hs => by
              have hD : listed.getD p.1 true = true := by
                unfold sees at hs
                rw [Bool.or_eq_true] at hs
                rcases hs with hs | hs
                · have hs := Nat.le_of_ble_eq_true hs
                  simp [Array.getD_eq_getD_getElem?, Array.getElem?_eq_none (show listed.size ≤ p.1 by omega)]
                · exact hanc p.1 hs
              exact ⟨hD, e4 p hp hD⟩) hnd hlater
            have hr' := OpRun.congr (c.sel o (List.mem_of_getElem? ho)) (eval_of hlk hkn) hr
            refine hr'.wp (fun v' w' hok => ?_)
            refine ih _ (updR V i v') _ w' hsz' ?_ htl' hcnt'
            rw [hset]
            exact hst.did c ho hed hok (hl v')
        · exfalso
          apply hpre
          intro j hj
          exact hanc j (c.tl i hil (by omega) j (by omega))
/-- The rule, with slices that were there before (Γ0, their places from 1000 on). -/
theorem CG.rowsI {id : Nat} (hm : P.follows .mixedOrders = true) (k : Nat) (ord : List Nat) (G : List RE) (Γ0 : Gm) (S : List Nat) (V0 : Nat → Value) (hc : chkX n ops ord (giR G) k = true) (hlen : Nat.ble ops.length 1000 = true) (hG : ∀ e ∈ G, e.Ok)
    (h0 : ∀ w', Kp [] w0 w' → SOk S w0 G (fun j => Nat.ble 1000 j) V0 w') (hV : ∀ p ∈ Γ0, V0 p.1 = p.2 ∧ 1000 ≤ p.1)
    (h : DerR P S w0 ops G (KR n S w0 P ops Q k G) ord L0 Γ0) : CG P n (.region id ops.toArray true) Q L0 w0 := by
  intro a ha
  have c := ChkX.of hc
  have hlen := Nat.le_of_ble_eq_true hlen
  refine wp_region_any hm ?_
  have hget : ∀ j, (Array.replicate ops.toArray.size false).getD j true = !decide (j < ops.length) := by
    intro j
    simp [Array.getD_eq_getD_getElem?, Array.getElem?_replicate]
    split <;> simp_all
  refine StR.wpAny (S := S) (w0 := w0) (L0 := L0) (G := G) (Γ0 := Γ0) c hG hlen _ _ V0 a _ (by simp) ?_ ?_ ?_
  · have hD : (fun j => (Array.replicate ops.toArray.size false).getD j true) = fun j => !decide (j < ops.length) := funext hget
    rw [hD]
    refine ⟨fun i o ho hd => ?_, ha.size, ha.defers, fun i o d ho hd => ?_, fun t v hv _ => ha.slot t v hv, (h0 _ (Kp.refl [] w0).drew).congr (fun e he => ⟨?_, rfl⟩), fun p hp => ?_, ?_⟩
    · simp [(List.getElem?_eq_some_iff.1 ho).1] at hd
    · simp [(List.getElem?_eq_some_iff.1 ho).1] at hd
    · by_cases h : e.i < 1000
      · have hg : (giR G).elem e.i = true := by
          rw [← isR_iff h]
          exact List.any_eq_true.2 ⟨e, he, by simp⟩
        rw [List.elem_eq_mem] at hg
        have h1 := c.lt _ (c.gi _ (of_decide_eq_true hg))
        have h2 := c.le
        have h3 : e.i < ops.length := by omega
        have h4 : Nat.ble 1000 e.i = false := by
          rw [← Bool.not_eq_true, Nat.ble_eq]; omega
        simp [h3, h4]
      · have h3 : ¬ e.i < ops.length := by omega
        have h4 : Nat.ble 1000 e.i = true := by rw [Nat.ble_eq]; omega
        simp [h3, h4]
    · obtain ⟨h1, h2⟩ := hV p hp
      have h3 : ¬ p.1 < ops.length := by omega
      exact ⟨h1, by simp [h3], by omega⟩
    · refine LiveR.congr (fun i hi => ⟨?_, ?_⟩) (show LiveR P S w0 ops G (KR n S w0 P ops Q k G) (fun _ => false) V0 ord L0 Γ0 from ?_)
      · have h1 := c.lt i hi
        have hle := c.le
        have hil : i < ops.length := by omega
        simp [hil]
      · rfl
      · exact LiveR.anyV (fun _ _ => rfl) h
  · intro i hi _
    rw [hget]; simp [hi]
  · have : (List.range ops.length).countP (fun i => !(Array.replicate ops.toArray.size false).getD i true) = (List.range ops.length).length := by
      rw [List.countP_eq_length]
      intro i hi
      rw [hget]
      simp at hi
      simp [hi]
    rw [this]
    simp
theorem CG.rows {id : Nat} (hm : P.follows .mixedOrders = true) (k : Nat) (ord : List Nat) (G : List RE) (hc : chkX n ops ord (giR G) k = true) (hlen : Nat.ble ops.length 1000 = true) (hlow : G.all (fun e => Nat.blt e.i 1000) = true) (hG : ∀ e ∈ G, e.Ok)
    (h : DerR P [] w0 ops G (KR n [] w0 P ops Q k G) ord L0 []) : CG P n (.region id ops.toArray true) Q L0 w0 := by
  have hno : ∀ e ∈ G, Nat.ble 1000 e.i = true → False := fun e he h1 => by
    have h2 := List.all_eq_true.1 hlow e he
    rw [Nat.blt_eq] at h2
    have h3 := Nat.le_of_ble_eq_true h1
    omega
  exact CG.rowsI hm k ord G [] [] (fun _ => undef) hc hlen hG (fun w' hk => ⟨hk, fun e he h1 => (hno e he h1).elim, fun e he e' _ h1 => (hno e he h1).elim, fun e he h1 => (hno e he h1).elim⟩) (fun p hp => by cases hp) h
end
end Go.Proofs.YtnoipmimddoioaaGreat
namespace Go.Proofs.YtnoipmimddoioaaGreat
set_option linter.unusedVariables false
section
variable {P : Program} {n : Nat} {ops : List Oper} {Q : Exit → Act → World → Prop} {w w0 : World} {L : Env} {ty : TypeId} {pos : String} {af : Array Edge} {g : Option (Nat × Bool)} {rest : List Oper}
end
end Go.Proofs.YtnoipmimddoioaaGreat
namespace Go.Proofs.YtnoipmimddoioaaGreat
set_option linter.unusedVariables false
/-- An owned row; a slice written out. -/
def oP {α : Type} (base : Nat) (E : TypeId) (sz : Nat) (enc : α → List Value) (l : List α) : Value → World → Prop := fun v w => w.ownsRow base E sz v l.length (flt enc l)
def bP (m : Nat) (E : TypeId) (k : Nat) (cs : Array Value) : Value → World → Prop := fun v w => ∃ b f, v = .slice (some ⟨b, 0, none⟩) k k ∧ m ≤ b ∧ Blk w b (.cells cs E f)
theorem oP_ok {α : Type} {i ch base : Nat} {E : TypeId} {sz : Nat} {enc : α → List Value} {l : List α} : RE.Ok ⟨i, ch, oP base E sz enc l⟩ := by
  refine ⟨fun v w w' _ h hp => ?_, fun v w b hp hb => ?_⟩
  · rcases hp with ⟨h1, h2 | ⟨g, cap, cur, rfl, hg, hh, hr⟩⟩
    · exact ⟨h1, Or.inl h2⟩
    · exact ⟨h1, Or.inr ⟨g, cap, cur, rfl, hg, h g _ rfl hh, hr⟩⟩
  · rcases hp with ⟨h1, ⟨rfl, _⟩ | ⟨g, cap, cur, rfl, hg, hh, hr⟩⟩
    · cases hb
    · cases hb
      exact (Array.getElem?_eq_some_iff.1 hh).1
theorem bP_ok {i ch m k : Nat} {E : TypeId} {cs : Array Value} : RE.Ok ⟨i, ch, bP m E k cs⟩ := by
  refine ⟨fun v w w' _ h hp => ?_, fun v w b hp hb => ?_⟩
  · obtain ⟨b, f, rfl, hm, hB⟩ := hp
    exact ⟨b, f, rfl, hm, h b _ rfl hB⟩
  · obtain ⟨b, f, rfl, hm, hB⟩ := hp
    cases hb
    exact hB.lt
inductive OkL : List RE → Prop
  | nil : OkL []
  | cons {e : RE} {r : List RE} : e.Ok → OkL r → OkL (e :: r)
theorem OkL.all : ∀ {G : List RE}, OkL G → ∀ e ∈ G, e.Ok
  | _, .nil, _, h => by cases h
  | _, .cons h1 h2, e, h => by
    rcases List.mem_cons.1 h with rfl | h
    · exact h1
    · exact h2.all e h
theorem oP.sl {α : Type} {base : Nat} {E : TypeId} {sz : Nat} {enc : α → List Value} {l : List α} {v : Value} {w : World} (he : ∀ x, (enc x).length = sz) (h : oP base E sz enc l v w) : ∃ a c, v = .slice a l.length c ∧ Sl enc sz w a l := by
  obtain ⟨a, c, h1, _, h2⟩ := Sl.own he h rfl
  exact ⟨a, c, h1, h2⟩
theorem bP.sl {α : Type} {m : Nat} {E : TypeId} {k sz : Nat} {enc : α → List Value} {l : List α} {v : Value} {w : World} (he : ∀ x, (enc x).length = sz) (hk : k = l.length) (h : bP m E k (flt enc l).toArray v w) : ∃ a c, v = .slice a l.length c ∧ Sl enc sz w a l := by
  subst hk
  obtain ⟨b, f, rfl, hm, hB⟩ := h
  exact ⟨_, _, rfl, flt_rowf he hB⟩
def LeAll {α : Type} (n : Nat) : List (Nat × List α) → Prop
  | [] => True
  | q :: r => q.2.length ≤ n ∧ LeAll n r
theorem LeAll.mem {α : Type} {n : Nat} : ∀ {l : List (Nat × List α)}, LeAll n l → ∀ q ∈ l, q.2.length ≤ n
  | [], _, _, h => by cases h
  | q :: r, ⟨h1, h2⟩, p, h => by
    rcases List.mem_cons.1 h with rfl | h
    · exact h1
    · exact h2.mem p h
/-- Rows no longer than the elder one stay. -/
theorem app_keptS {w w' : World} {base n m sz : Nat} {e : TypeId} {v v' : Value} {xs news : List Value} (hown : w.ownsRow base e sz v n xs) (hown' : w'.ownsRow base e sz v' (n + m) (xs ++ news)) (hk : Kp (ownB v) w w') (h : Kp [] w w' ∨ Room e w v v' n m) {base2 n2 : Nat} {v2 : Value} {xs2 : List Value} (hn : n2 ≤ n) (h2 : w.ownsRow base2 e sz v2 n2 xs2) : w'.ownsRow base2 e sz v2 n2 xs2 := by
  rcases h with h | ⟨g, cap, cur, rfl, hB, hroom, rfl⟩
  · exact own_kp0 h2 h
  · have hk : Kp [g] w w' := hk
    obtain ⟨h20, ⟨rfl, h21⟩ | ⟨g2, cap2, cur2, rfl, hb2, hh2, hc1, hc2, hc3, hc4⟩⟩ := h2
    · exact ⟨h20, Or.inl ⟨rfl, h21⟩⟩
    · by_cases eg : g2 = g
      · subst eg
        have hu := hB.uniq hh2
        simp only [Obj.cells.injEq] at hu
        obtain ⟨rfl, _, _⟩ := hu
        obtain ⟨hx0, ⟨hx, _⟩ | ⟨g3, cap3, cur3, hx, hb3, hh3, d1, d2, d3, d4⟩⟩ := hown
        · cases hx
        · simp only [Value.slice.injEq, Option.some.injEq, Addr.mk.injEq] at hx
          obtain ⟨⟨rfl, _⟩, _, rfl⟩ := hx
          have hu := hB.uniq hh3
          simp only [Obj.cells.injEq] at hu
          obtain ⟨rfl, _, _⟩ := hu
          obtain ⟨hy0, ⟨hy, _⟩ | ⟨g4, cap4, cur4, hy, hb4, hh4, f1, f2, f3, f4⟩⟩ := hown'
          · cases hy
          · simp only [Value.slice.injEq, Option.some.injEq, Addr.mk.injEq] at hy
            obtain ⟨⟨rfl, _⟩, _, rfl⟩ := hy
            refine ⟨h20, Or.inr ⟨g2, cap2, cur4, rfl, hb2, hh4, hc1, hc2, by rw [f3, ← d3, hc3], ?_⟩⟩
            have h5 := congrArg (List.take (n * sz)) f4
            rw [List.take_take, Nat.min_eq_left (Nat.mul_le_mul_right sz (by omega)), List.take_append_of_le_length (by omega), ← hx0, List.take_length, hx0] at h5
            have h6 := congrArg (List.take (n2 * sz)) (h5.trans d4.symm)
            rw [List.take_take, List.take_take, Nat.min_eq_left (Nat.mul_le_mul_right sz hn)] at h6
            rw [h6, hc4]
      · exact ⟨h20, Or.inr ⟨g2, cap2, cur2, rfl, hb2, by rw [hk.blk g2 (Array.getElem?_eq_some_iff.1 hh2).1 (by simp [eg])]; exact hh2, hc1, hc2, hc3, hc4⟩⟩
/-- append of any slice to an owned row: all that comes of it. -/
theorem run_appA {α : Type} {enc : α → List Value} {P : Program} {w : World} {base : Nat} {t ty e : TypeId} {i : TypeInfo} [u : Ut P t (.slice e)] [f : Inf P e i] {z : Value} (hz : i.zero = some z) (hzs : z.cells.size = i.size) (hsz : 0 < i.size) (hel : ∀ x, (enc x).length = i.size) (hone : ∀ x, allOne (enc x) = true)
    {v : Value} {l ys : List α} (hown : w.ownsRow base e i.size v l.length (flt enc l)) {a2 : Option Addr} {c2 : Nat} (hS : Sl enc i.size w a2 ys) (h63 : l.length + ys.length ≤ maxLen) (hbytes : (l.length + ys.length) * i.bytes ≤ 140737488355328) (hbase : base ≤ w.heap.size) :
    ∃ v' w', (Builtin.append_ #[t, t] ty #[v, .slice a2 ys.length c2]).run P w = .ok v' w' ∧ w'.ownsRow base e i.size v' (l ++ ys).length (flt enc (l ++ ys)) ∧ Kp (ownB v) w w' ∧ (∀ g, v'.ownBlock = some g → v.ownBlock = some g ∨ w.heap.size ≤ g) ∧
      (∀ {base2 n2 : Nat} {v2 : Value} {xs2 : List Value}, n2 ≤ l.length → w.ownsRow base2 e i.size v2 n2 xs2 → w'.ownsRow base2 e i.size v2 n2 xs2) := by
  cases ys with
  | nil =>
    refine ⟨v, w, ?_, by rw [List.append_nil]; exact hown, Kp.refl _ _, fun g hg => Or.inl hg, fun _ h => h⟩
    simpa using run_app0 (P := P) (ty := ty) (u := u) (f := f) hown a2 c2
  | cons y ys =>
    obtain ⟨b, off, rfl, _⟩ := hS.at (i := 0) (by simp)
    have hr := Sl.flat hel (by simp) hS
    obtain ⟨v', w', e1, e2, e3, e4⟩ := run_appendR (P := P) (ty := ty) (c := c2) (u := u) (f := f) hz hzs hsz hown (m := (y :: ys).length) (flt_length hel _) hr (flt_all hone _) (by simp) h63 hbytes hbase
    refine ⟨v', w', e1, by rw [flt_append, List.length_append]; exact e2, e3, fun g hg => ?_, fun hn h2 => app_keptS hown e2 e3 e4 hn h2⟩
    rcases append_where (P := P) (ty := ty) (u := u) (f := f) hz hown (flt_length hel _) hr (flt_all hone _) h63 hbytes e1 g hg with h | h
    · exact Or.inl h
    · exact Or.inr (by omega)
section
variable {P : Program} {n : Nat} {S : List Nat} {ops : List Oper} {Q : Exit → Act → World → Prop} {w0 : World} {L : Env} {G : List RE} {K : Env → Gm → Prop} {Γ : Gm} {i : Nat} {ord : List Nat} {ty : TypeId} {pos : String} {af : Array Edge} {g : Option (Nat × Bool)}
theorem FactsR.get {w : World} (h : FactsR ops G i Γ w) {j : Nat} {v : Value} {E : RE} (hp : (j, v) ∈ Γ) (hs : sees ops i j = true) (hE : atR G j = [E]) : E.phi v w := h (j, v) hp hs E (atR_in hE).1 (atR_in hE).2
theorem SOk.get {V : Nat → Value} {w : World} (h : SOk S w0 G (fun _ => true) V w) (hV : ∀ p ∈ Γ, V p.1 = p.2) {j : Nat} {v : Value} {E : RE} (hp : (j, v) ∈ Γ) (hE : atR G j = [E]) : E.phi v w := by
  have h1 := h.row E (atR_in hE).1 rfl
  have h2 := hV _ hp
  rw [(atR_in hE).2] at h1
  simp only at h2
  rwa [h2] at h1
theorem SOk.apart {V : Nat → Value} {w : World} (h : SOk S w0 G (fun _ => true) V w) (hV : ∀ p ∈ Γ, V p.1 = p.2) {j j' : Nat} {v v' : Value} {E E' : RE} (hp : (j, v) ∈ Γ) (hp' : (j', v') ∈ Γ) (hE : atR G j = [E]) (hE' : atR G j' = [E']) (hc : E.ch ≠ E'.ch) : Apart v v' := by
  have h1 := h.sep E (atR_in hE).1 E' (atR_in hE').1 rfl rfl hc
  rw [(atR_in hE).2, (atR_in hE').2] at h1
  have h2 := hV _ hp
  have h3 := hV _ hp'
  simp only at h2 h3
  rw [h2, h3] at h1
  exact h1
theorem SOk.ownS {V : Nat → Value} {w : World} (h : SOk S w0 G (fun _ => true) V w) (hV : ∀ p ∈ Γ, V p.1 = p.2) {j : Nat} {v : Value} {E : RE} (hp : (j, v) ∈ Γ) (hE : atR G j = [E]) : ∀ b, v.ownBlock = some b → b ∈ S ∨ w0.heap.size ≤ b := by
  have h1 := h.own E (atR_in hE).1 rfl
  rw [(atR_in hE).2] at h1
  have h2 := hV _ hp
  simp only at h2
  rw [h2] at h1
  exact h1
theorem DerR.val {d : Nat} {op : Op} {v : Value} (hg : isR G i = false) (ho : ops[i]? = some ⟨some d, op, ty, pos, af, g⟩) (hw : want ops L ⟨some d, op, ty, pos, af, g⟩ = some true) (hk : op.operands.toList.all (known L) = true)
    (hv : Vals P S w0 (FactsR ops G i Γ) L ⟨some d, op, ty, pos, af, g⟩ v) (h : DerR P S w0 ops G K ord ((d, v) :: L) Γ) : DerR P S w0 ops G K (i :: ord) L Γ :=
  ⟨_, ho, Or.inl ⟨hg, Or.inr (Or.inr ⟨rfl, hw, v, hk, fun w hkp hF => by unfold OpRun; rw [hv w hkp hF]; exact ⟨rfl, Kp.refl _ _⟩, h⟩)⟩⟩
/-- A call with a fixed answer. -/
theorem DerR.call {d : Nat} {f : FuncId} [Fnc P f] {args : List Operand} {vs : List Value} {tys : Array TypeId} {v : Value} (hg : isR G i = false)
    (ho : ops[i]? = some ⟨some d, .call ⟨.value (.func f), args.toArray, tys⟩, ty, pos, af, g⟩) (hw : want ops L ⟨some d, .call ⟨.value (.func f), args.toArray, tys⟩, ty, pos, af, g⟩ = some true) (hk : (Op.call ⟨.value (.func f), args.toArray, tys⟩).operands.toList.all (known L) = true)
    (he : Evs L args vs) (hc : ∀ w, Kp S w0 w → FactsR ops G i Γ w → Ret P f vs.toArray w v) (h : DerR P S w0 ops G K ord ((d, v) :: L) Γ) : DerR P S w0 ops G K (i :: ord) L Γ :=
  ⟨_, ho, Or.inl ⟨hg, Or.inr (Or.inr ⟨rfl, hw, v, hk, fun w h1 h2 => orun_call (by rw [he.arr]; exact (hc w h1 h2).mono (fun e w' ⟨g1, g2⟩ => ⟨v, g1, rfl, g2⟩)), h⟩)⟩⟩
theorem SOk.facts {D : Nat → Bool} {V : Nat → Value} {w : World} (h : SOk S w0 G D V w) (hc : ∀ p ∈ Γ, sees ops i p.1 = true → D p.1 = true ∧ V p.1 = p.2) : FactsR ops G i Γ w := fun p hp hs e he hi => by
  obtain ⟨h1, h2⟩ := hc p hp hs
  rw [← h2, ← hi]
  exact h.row e he (by rw [hi]; exact h1)
/-- An effect that makes something new. -/
theorem DerR.eff {o : Oper} {E : RE} (hE : atR G i = [E]) (ho : ops[i]? = some o) (hw : want ops L o = some true) (hk : o.op.operands.toList.all (known L) = true) (hG : OkL G)
    (hc : ∀ w, Kp S w0 w → FactsR ops G i Γ w → OpRun P (rho L) o w (fun v w' => E.phi v w' ∧ Kp [] w w' ∧ ∀ b, v.ownBlock = some b → w.heap.size ≤ b))
    (h : ∀ v, DerR P S w0 ops G K ord (addD o.dst v L) ((i, v) :: Γ)) : DerR P S w0 ops G K (i :: ord) L Γ := by
  have hr : isR G i = true := List.any_eq_true.2 ⟨E, (atR_in hE).1, by rw [(atR_in hE).2]; simp⟩
  exact ⟨o, ho, Or.inr ⟨hr, Or.inr ⟨rfl, hw, hk, fun D' V' w hs hcon hd hl => (hc w hs.kp (hs.facts hcon)).mono (fun v w' ⟨g1, g2, g3⟩ => hs.new hG.all hE g2 g1 g3), h⟩⟩⟩
/-- A call that answers an owned row. -/
theorem DerR.callO {α : Type} {enc : α → List Value} {E : TypeId} {base sz c d : Nat} {f : FuncId} [Fnc P f] {args : List Operand} {vs : List Value} {tys : Array TypeId} (l : List α) (hE : atR G i = [⟨i, c, oP base E sz enc l⟩])
    (ho : ops[i]? = some ⟨some d, .call ⟨.value (.func f), args.toArray, tys⟩, ty, pos, af, g⟩) (hw : want ops L ⟨some d, .call ⟨.value (.func f), args.toArray, tys⟩, ty, pos, af, g⟩ = some true) (hk : (Op.call ⟨.value (.func f), args.toArray, tys⟩).operands.toList.all (known L) = true) (hG : OkL G)
    (he : Evs L args vs) (hb : base ≤ w0.heap.size) (hc : ∀ w, Kp S w0 w → FactsR ops G i Γ w → RetO P E enc sz f vs.toArray w l) (h : ∀ v, DerR P S w0 ops G K ord ((d, v) :: L) ((i, v) :: Γ)) : DerR P S w0 ops G K (i :: ord) L Γ :=
  DerR.eff hE ho hw hk hG (fun w h1 h2 => orun_call (by
    rw [he.arr]
    refine (hc w h1 h2).mono (fun e w' ⟨v, g1, g2, g3⟩ => ⟨v, g1, own_mono g2 (Nat.le_trans hb h1.size), g3, fun b hb' => ?_⟩)
    rcases g2.2 with ⟨rfl, _⟩ | ⟨g4, cap, cur, rfl, hg, _⟩
    · cases hb'
    · cases hb'
      exact hg)) h
/-- A slice written out. -/
theorem DerR.build {m c d k : Nat} {T E : TypeId} {parts : List (Nat × Operand)} {vs : List (Nat × Value)} {cs : Array Value} (hE : atR G i = [⟨i, c, bP m E k cs⟩])
    (ho : ops[i]? = some ⟨some d, .buildSlice T k parts.toArray, ty, pos, af, g⟩) (hw : want ops L ⟨some d, .buildSlice T k parts.toArray, ty, pos, af, g⟩ = some true) (hk : (Op.buildSlice T k parts.toArray).operands.toList.all (known L) = true) (hG : OkL G)
    (he : (parts.map fun p => (p.1, rho L p.2)) = vs) (hm : m ≤ w0.heap.size) (hrun : ∀ w : World, (Instr.buildSlice T k vs.toArray).run P w = .ok (.slice (some ⟨w.heap.size, 0, none⟩) k k) { w with heap := w.heap.push (.cells cs E) })
    (h : ∀ v, DerR P S w0 ops G K ord ((d, v) :: L) ((i, v) :: Γ)) : DerR P S w0 ops G K (i :: ord) L Γ := by
  refine DerR.eff hE ho hw hk hG (fun w h1 h2 => ?_) h
  unfold OpRun
  have e : (parts.toArray.map fun (p : Nat × Operand) => (p.1, rho L p.2)) = vs.toArray := by simp [he]
  have : (execOp (rho L) ⟨some d, .buildSlice T k parts.toArray, ty, pos, af, g⟩).run P w = .ok (.value (.slice (some ⟨w.heap.size, 0, none⟩) k k)) { w with heap := w.heap.push (.cells cs E) } := by
    simp only [execOp, e, Sem.run_bind, hrun w, Result.andThen, Sem.run_pure]
  rw [this]
  exact ⟨⟨w.heap.size, _, rfl, Nat.le_trans hm h1.size, Blk.push w _⟩, Kp.push w _ rfl, fun b hb => by cases hb; exact Nat.le_refl _⟩
/-- .. that is an owned row at once. -/
theorem DerR.buildO {α : Type} {enc : α → List Value} {base sz c d k : Nat} {T E : TypeId} {parts : List (Nat × Operand)} {vs : List (Nat × Value)} (l : List α) (hel : ∀ x, (enc x).length = sz) (hE : atR G i = [⟨i, c, oP base E sz enc l⟩]) (hl : k = l.length)
    (ho : ops[i]? = some ⟨some d, .buildSlice T k parts.toArray, ty, pos, af, g⟩) (hw : want ops L ⟨some d, .buildSlice T k parts.toArray, ty, pos, af, g⟩ = some true) (hk : (Op.buildSlice T k parts.toArray).operands.toList.all (known L) = true) (hG : OkL G)
    (he : (parts.map fun p => (p.1, rho L p.2)) = vs) (hm : base ≤ w0.heap.size) (hlen : l.length ≤ maxLen) (hrun : ∀ w : World, (Instr.buildSlice T k vs.toArray).run P w = .ok (.slice (some ⟨w.heap.size, 0, none⟩) k k) { w with heap := w.heap.push (.cells (flt enc l).toArray E) })
    (h : ∀ v, DerR P S w0 ops G K ord ((d, v) :: L) ((i, v) :: Γ)) : DerR P S w0 ops G K (i :: ord) L Γ := by
  subst hl
  refine DerR.eff hE ho hw hk hG (fun w h1 h2 => ?_) h
  unfold OpRun
  have e : (parts.toArray.map fun (p : Nat × Operand) => (p.1, rho L p.2)) = vs.toArray := by simp [he]
  have : (execOp (rho L) ⟨some d, .buildSlice T l.length parts.toArray, ty, pos, af, g⟩).run P w = .ok (.value (.slice (some ⟨w.heap.size, 0, none⟩) l.length l.length)) { w with heap := w.heap.push (.cells (flt enc l).toArray E) } := by
    simp only [execOp, e, Sem.run_bind, hrun w, Result.andThen, Sem.run_pure]
  rw [this]
  exact ⟨own_made hel (Blk.push w _) (Nat.le_trans hm h1.size) rfl hlen, Kp.push w _ rfl, fun b hb => by cases hb; exact Nat.le_refl _⟩
/-- 'append'. -/
theorem DerR.append {α : Type} {enc : α → List Value} {base d c src : Nat} {t e : TypeId} {inf : TypeInfo} [u : Ut P t (.slice e)] [f : Inf P e inf] {z : Value} {s y : Operand} {v v2 : Value} (l l2 : List α) (LL : List (Nat × List α)) (hel : ∀ x, (enc x).length = inf.size) (hone : ∀ x, allOne (enc x) = true)
    (hE : atR G i = [⟨i, c, oP base e inf.size enc (l ++ l2)⟩]) (hE0 : atR G src = [⟨src, c, oP base e inf.size enc l⟩])
    (hLL : G.filter (fun q => Nat.beq q.ch c && !Nat.beq q.i i && !anc ops q.i i) = LL.map (fun q => ⟨q.1, c, oP base e inf.size enc q.2⟩)) (hle : LeAll l.length LL)
    (ho : ops[i]? = some ⟨some d, .call { callee := .builtin .append, args := #[s, y], argTypes := #[t, t] }, ty, pos, af, g⟩) (hw : want ops L ⟨some d, .call { callee := .builtin .append, args := #[s, y], argTypes := #[t, t] }, ty, pos, af, g⟩ = some true) (hk : (known L s && known L y) = true) (hG : OkL G)
    (hs : rho L s = v) (hx : rho L y = v2) (hz : inf.zero = some z) (hzs : Nat.beq z.cells.size inf.size = true) (hsz : Nat.blt 0 inf.size = true) (h63 : l.length + l2.length ≤ maxLen) (hbytes : (l.length + l2.length) * inf.bytes ≤ 140737488355328) (hbase : base ≤ w0.heap.size)
    (hsrc : (src, v) ∈ Γ) (hsee : sees ops i src = true) (hY : ∀ w, Kp S w0 w → FactsR ops G i Γ w → ∃ a2 c2, v2 = .slice a2 l2.length c2 ∧ Sl enc inf.size w a2 l2)
    (h : ∀ v' : Value, DerR P S w0 ops G K ord ((d, v') :: L) ((i, v') :: Γ)) : DerR P S w0 ops G K (i :: ord) L Γ := by
  have hr : isR G i = true := List.any_eq_true.2 ⟨_, (atR_in hE).1, by simp⟩
  refine ⟨_, ho, Or.inr ⟨hr, Or.inr ⟨rfl, hw, by simpa [Op.operands, Call.operands] using hk, fun D' V' w hok hcon hd hl => ?_, h⟩⟩⟩
  have hF := hok.facts hcon
  obtain ⟨hds, hvs⟩ := hcon _ hsrc hsee
  simp only at hds hvs
  have hown : w.ownsRow base e inf.size v l.length (flt enc l) := hF.get hsrc hsee hE0
  obtain ⟨a2, c2, rfl, hS⟩ := hY w hok.kp hF
  obtain ⟨v', w', e1, e2, e3, e4, e5⟩ := run_appA (P := P) (ty := ty) (c2 := c2) (u := u) (f := f) hz (Nat.eq_of_beq_eq_true hzs) (by simpa [Nat.blt_eq] using hsz) hel hone hown hS h63 hbytes (Nat.le_trans hbase hok.kp.size)
  have hbS : ∀ b, v.ownBlock = some b → b ∈ S ∨ w0.heap.size ≤ b := fun b hb => by
    have := hok.own _ (atR_in hE0).1 (by simpa using hds) b
    simp only at this
    rw [hvs] at this
    exact this hb
  unfold OpRun
  have : (execOp (rho L) ⟨some d, .call { callee := .builtin .append, args := #[s, y], argTypes := #[t, t] }, ty, pos, af, g⟩).run P w = .ok (.value v') w' := by
    simp only [execOp, resolve, invoke, builtin, Sem.run_bind, Sem.run_pure, Result.andThen_ok, List.map_toArray, List.map_cons, List.map_nil, hs, hx, e1]
  rw [this]
  have hownB : ∀ z, z ∈ ownB v → v.ownBlock = some z := fun z hz => by
    unfold ownB at hz
    split at hz
    · rename_i b hb
      rw [List.mem_singleton] at hz
      rw [hb, hz]
    · cases hz
  refine hok.turn hG.all hE0 (by simpa using hds) hE rfl (hok.kp.trans_new e3 (fun z hz => hbS z (hownB z hz))) e3.size (fun z o hz hB => hB.kp e3 (fun hm => hz (by rw [hvs]; exact hownB z hm))) e2 (fun b hb => by rw [hvs]; exact e4 b hb) (fun q hq hc hi hdq hp => ?_)
  by_cases ha : anc ops q.i i = true
  · have := hl q.i ha
    rw [hdq] at this
    cases this
  · have hm : q ∈ G.filter (fun q => Nat.beq q.ch c && !Nat.beq q.i i && !anc ops q.i i) := by
      refine List.mem_filter.2 ⟨hq, ?_⟩
      have h1 : Nat.beq q.ch c = true := by rw [Nat.beq_eq]; exact hc
      have h2 : Nat.beq q.i i = false := by rw [← Bool.not_eq_true, Nat.beq_eq]; exact hi
      simp [h1, h2, ha]
    rw [hLL] at hm
    obtain ⟨qq, hqq, rfl⟩ := List.mem_map.1 hm
    exact e5 (hle.mem qq hqq) hp
/-- A slice of bytes written as a string: it is marked. -/
theorem DerR.mark {T E : TypeId} [u : Ut P T (.slice E)] [e : Ut P E (.int .u8)] {m c src d k : Nat} {E' : TypeId} {cs : Array Value} {x : Operand} {v : Value} (hE : atR G i = [⟨i, c, bP m E' k cs⟩]) (hE0 : atR G src = [⟨src, c, bP m E' k cs⟩])
    (hLL : G.filter (fun q => Nat.beq q.ch c && !Nat.beq q.i i && !anc ops q.i i) = [⟨src, c, bP m E' k cs⟩])
    (ho : ops[i]? = some ⟨some d, .convert T T x, ty, pos, af, g⟩) (hw : want ops L ⟨some d, .convert T T x, ty, pos, af, g⟩ = some true) (hk : known L x = true) (hG : OkL G) (hx : rho L x = v) (hm : m = w0.heap.size) (hsrc : (src, v) ∈ Γ) (hsee : sees ops i src = true)
    (h : ∀ v' : Value, DerR P S w0 ops G K ord ((d, v') :: L) ((i, v') :: Γ)) : DerR P S w0 ops G K (i :: ord) L Γ := by
  have hr : isR G i = true := List.any_eq_true.2 ⟨_, (atR_in hE).1, by simp⟩
  refine ⟨_, ho, Or.inr ⟨hr, Or.inr ⟨rfl, hw, by simpa [Op.operands] using hk, fun D' V' w hok hcon hd hl => ?_, h⟩⟩⟩
  have hF := hok.facts hcon
  obtain ⟨hds, hvs⟩ := hcon _ hsrc hsee
  simp only at hds hvs
  obtain ⟨b, f, rfl, hmb, hB⟩ : bP m E' k cs v w := hF.get hsrc hsee hE0
  have hrun : (convert T T (.slice (some ⟨b, 0, none⟩) k k)).run P w = .ok (.slice (some ⟨b, 0, none⟩) k k) (w.freeze ⟨b, cs.size, none⟩ 1) := by
    unfold Blk at hB
    have hs : w.shape? b = some (E', cs.size) := by simp [World.shape?, hB]
    simp [convert, run_underlying u.eq, run_underlying e.eq, markStringish, shape, freeze, Sem.run, hs, Result.andThen]
  unfold OpRun
  have hexec : (execOp (rho L) ⟨some d, .convert T T x, ty, pos, af, g⟩).run P w = .ok (.value (.slice (some ⟨b, 0, none⟩) k k)) (w.freeze ⟨b, cs.size, none⟩ 1) := by
    simp only [execOp, hx, Sem.run_bind, hrun, Result.andThen, Sem.run_pure]
  rw [hexec]
  have hoth : ∀ z, z ≠ b → (w.freeze ⟨b, cs.size, none⟩ 1).heap[z]? = w.heap[z]? := fun z hz => by
    simp [World.freeze, Array.getElem?_modify, Ne.symm hz]
  have hB' : ∃ f', Blk (w.freeze ⟨b, cs.size, none⟩ 1) b (.cells cs E' f') := by
    unfold Blk at hB ⊢
    obtain ⟨f1, f2⟩ := f
    refine ⟨if (f1 == f2) = true then (cs.size, cs.size + 1) else (min f1 cs.size, max f2 (cs.size + 1)), ?_⟩
    simp [World.freeze, Array.getElem?_modify, hB]
  obtain ⟨f', hB'⟩ := hB'
  have hbn : w0.heap.size ≤ b := by omega
  have hkp : Kp S w0 (w.freeze ⟨b, cs.size, none⟩ 1) := by
    have h0 := hok.kp
    refine ⟨?_, fun z hz hS => ?_, ?_, ?_, ?_, fun a ha => ?_, h0.drawn⟩
    · simpa [World.freeze] using h0.size
    · rw [hoth z (by omega)]
      exact h0.blk z hz hS
    · simpa [World.freeze] using h0.os
    · simpa [World.freeze] using h0.tape
    · simpa [World.freeze] using h0.output
    · rw [← h0.fz a ha]
      unfold World.frozen?
      rw [hoth a.block (by omega)]
  refine hok.turn hG.all hE0 (by simpa using hds) hE rfl hkp (by simp [World.freeze]) (fun z o hz hBz => ?_) ⟨b, f', rfl, hmb, hB'⟩ (fun b' hb => Or.inl (by rw [hvs]; exact hb)) (fun q hq hc hi hdq hp => ?_)
  · have : z ≠ b := fun e1 => hz (by rw [hvs, e1]; rfl)
    unfold Blk
    rw [hoth z this]
    exact hBz
  · by_cases ha : anc ops q.i i = true
    · have := hl q.i ha
      rw [hdq] at this
      cases this
    · have hm : q ∈ G.filter (fun q => Nat.beq q.ch c && !Nat.beq q.i i && !anc ops q.i i) := by
        refine List.mem_filter.2 ⟨hq, ?_⟩
        have h1 : Nat.beq q.ch c = true := by rw [Nat.beq_eq]; exact hc
        have h2 : Nat.beq q.i i = false := by rw [← Bool.not_eq_true, Nat.beq_eq]; exact hi
        simp [h1, h2, ha]
      rw [hLL] at hm
      rw [List.mem_singleton] at hm
      subst hm
      simp only at hp ⊢
      rw [hvs] at hp ⊢
      exact ⟨b, f', rfl, hmb, hB'⟩
theorem DerR.tl {k : Nat} (h : ∀ w' V, SOk S w0 G (fun _ => true) V w' → (∀ p ∈ Γ, V p.1 = p.2) → SG P n ops Q (ops.drop k) L w') : DerR P S w0 ops G (KR n S w0 P ops Q k G) [] L Γ := h
/-- With one owned row that was there before. -/
theorem CG.rows1 {α : Type} {L0 : Env} {enc : α → List Value} {E : TypeId} {id base sz c : Nat} {v : Value} {l : List α} (hm : P.follows .mixedOrders = true) (k : Nat) (ord : List Nat) (G : List RE) (hi : G.filter (fun e => Nat.ble 1000 e.i) = [⟨1000, c, oP base E sz enc l⟩]) (ho : w0.ownsRow base E sz v l.length (flt enc l)) (hc : chkX n ops ord (giR G) k = true) (hlen : Nat.ble ops.length 1000 = true) (hG : OkL G)
    (h : DerR P (ownB v) w0 ops G (KR n (ownB v) w0 P ops Q k G) ord L0 [(1000, v)]) : CG P n (.region id ops.toArray true) Q L0 w0 := by
  have hin : ∀ e ∈ G, Nat.ble 1000 e.i = true → e = ⟨1000, c, oP base E sz enc l⟩ := fun e he h1 => by
    have : e ∈ G.filter (fun e => Nat.ble 1000 e.i) := List.mem_filter.2 ⟨he, h1⟩
    rw [hi] at this
    simpa using this
  refine CG.rowsI hm k ord G [(1000, v)] (ownB v) (fun _ => v) hc hlen hG.all (fun w' hk => ⟨hk.any, fun e he h1 => ?_, fun e he e' he' h1 h2 hcc => ?_, fun e he h1 b hb => ?_⟩) (fun p hp => ?_) h
  · rw [hin e he h1]
    exact own_kp0 ho hk
  · rw [hin e he h1, hin e' he' h2] at hcc
    exact absurd rfl hcc
  · left
    unfold ownB
    rw [hb]
    simp
  · simp only [List.mem_singleton] at hp
    subst hp
    exact ⟨rfl, Nat.le_refl _⟩
end
end Go.Proofs.YtnoipmimddoioaaGreat
namespace Go.Proofs.YtnoipmimddoioaaGreat
open Go.Proofs Go.Shelf Go.Sort
set_option linter.unusedVariables false
attribute [local irreducible] CG NG SG Vals Der Row Blk MapIs IterAt addI xorI orI andI shlI shrI mulI twoI cmpD cmpW kW digO manyI
theorem own_out {w : World} {base n sz : Nat} {T : TypeId} {v : Value} {xs : List Value} {b : Nat} (ho : w.ownsRow base T sz v n xs) (hb : w.heap.size ≤ b) : b ∉ ownB v := fun hm => by
  have := own_lt ho b (ownB_mem hm)
  omega
theorem ownB_of {v : Value} {b : Nat} (h : v.ownBlock = some b) : b ∈ ownB v := by
  unfold ownB
  rw [h]
  simp
theorem own_notbt {base : Nat} {w : World} {bt : Nat} {room : Int} {v : Value} {l : List Ofr} (h : Lob base w bt room v l) : bt ∉ ownB v := fun hm => own_neb h.own (by decide) h.blk bt (ownB_mem hm) (by simp)
set_option maxHeartbeats 16000000 in
theorem post_yes {w : World} {base bt : Nat} {room : Int} {v : Value} {l : List Ofr} {now : Int} (h0 : 0 ≤ now) (h1 : now ≤ 1099511627776) (o : Ofr) (hok : o.Ok) (hlt : ¬ o.till < now) (hL : Lob base w bt room v l) (hl : l.length ≤ 100000) (hbase : base ≤ w.heap.size) : Calls Tryz.prog 7 #[.pointer (some ⟨bt, 0, none⟩), .int .i64 now, ov o] w (fun e w' => e = .returned (.int .i64 (postE room now o l)) ∧ Kp (bt :: ownB v) w w' ∧ ∃ v', Lob base w' bt room v' (postL room now o l) ∧ ∀ g, v'.ownBlock = some g → g ∈ ownB v ∨ w.heap.size ≤ g) := by
  refine enter3 Tryz.func7 rfl Tryz.ntmps7 rfl ?_
  have g1 : ¬ now < 0 := by omega
  have g2 : ¬ 1099511627776 < now := by omega
  have h00 : (0 : Int) = 0 := rfl
  repeat (first|apply cA|apply cB|apply cD|apply cE|apply cF|apply cG|apply cH|apply cJ|apply cK|apply cM|apply cN|apply cQ|apply cU|refine cV rfl ?_|refine cX rfl ?_|apply NG.exit_scope|apply cY|apply NG.normal_scope|refine cZ rfl rfl rfl rfl (by first|((first|apply qid|apply qia0|apply qia|apply qmf|apply qmn|apply qep|apply qmv|apply qas|apply qlc|apply qla|apply qfa|apply qnc|apply qic|apply qix|apply qpk|apply qls|apply qei|apply qni|apply qed|apply qnd|apply qad|apply qln|apply qle|apply qgt|apply qge|apply qlk|apply qlv|apply qxt|apply qsb|apply qnt|apply qep|apply qnp|apply qeb|apply qnb|apply qcv|apply qlm|apply qfr|apply qto|apply qmx|apply qen|apply qsn)<;>(first|exact rfl|exact Ar.mk (by omega)|assumption|exact dct (by first|assumption|omega)|exact dcf (by first|assumption|omega)|exact List.not_mem_nil|apply dc_length|apply ec_length|apply dl_length|exact nm1 (by omega)|exact (Int.toNat_of_nonneg (by omega)).symm|exact dcu|fail))|fail) ?_)
  refine SG.box rfl rfl rfl (by exact rho_of rfl) (fun b5 w1 hk1 hb5 hB5 => ?_)
  obtain ⟨-, -, -, -, -, -, q6, q7⟩ := ec_rows (o := o) hB5
  repeat (first|apply cA|apply cB|apply cD|apply cE|apply cF|apply cG|apply cH|apply cJ|apply cK|apply cM|apply cN|apply cQ|apply cU|refine cV rfl ?_|refine cX rfl ?_|apply NG.exit_scope|apply cY|apply NG.normal_scope|refine cZ rfl rfl rfl rfl (by first|((first|apply qid|apply qia0|apply qia|apply qmf|apply qmn|apply qep|apply qmv|apply qas|apply qlc|apply qla|apply qfa|apply qnc|apply qic|apply qix|apply qpk|apply qls|apply qei|apply qni|apply qed|apply qnd|apply qad|apply qln|apply qle|apply qgt|apply qge|apply qlk|apply qlv|apply qxt|apply qsb|apply qnt|apply qep|apply qnp|apply qeb|apply qnb|apply qcv|apply qlm|apply qfr|apply qto|apply qmx|apply qen|apply qsn)<;>(first|exact rfl|exact Ar.mk (by omega)|assumption|exact dct (by first|assumption|omega)|exact dcf (by first|assumption|omega)|exact List.not_mem_nil|apply dc_length|apply ec_length|apply dl_length|exact nm1 (by omega)|exact (Int.toNat_of_nonneg (by omega)).symm|exact dcu|fail))|fail) ?_)
  refine dE rfl (by exact rho_of rfl) rfl ?_
  repeat (first | first|apply cA|apply cB|apply cD|apply cE|apply cF|apply cG|apply cH|apply cJ|apply cK|apply cM|apply cN|apply cQ|apply cU|refine cV rfl ?_|refine cX rfl ?_|apply NG.exit_scope|apply cY|apply NG.normal_scope|refine cZ rfl rfl rfl rfl (by first|((first|apply qid|apply qia0|apply qia|apply qmf|apply qmn|apply qep|apply qmv|apply qas|apply qlc|apply qla|apply qfa|apply qnc|apply qic|apply qix|apply qpk|apply qls|apply qei|apply qni|apply qed|apply qnd|apply qad|apply qln|apply qle|apply qgt|apply qge|apply qlk|apply qlv|apply qxt|apply qsb|apply qnt|apply qep|apply qnp|apply qeb|apply qnb|apply qcv|apply qlm|apply qfr|apply qto|apply qmx|apply qen|apply qsn)<;>(first|exact rfl|exact Ar.mk (by omega)|assumption|exact dct (by first|assumption|omega)|exact dcf (by first|assumption|omega)|exact List.not_mem_nil|apply dc_length|apply ec_length|apply dl_length|exact nm1 (by omega)|exact (Int.toNat_of_nonneg (by omega)).symm|exact dcu|fail))|fail) ?_ | refine dA rfl rfl ?_)
  refine SG.ret rfl rfl rfl (vs := [ov o]) (by repeat' (first | exact True.intro | exact rho_of rfl | refine And.intro ?_ ?_)) (check_spec o w1) (fun w2 hk2 => ?_)
  rw [if_pos hok]
  obtain ⟨q0, -, -, -, -, -, q6, q7⟩ := ec_rows (o := o) (hB5.kp0 hk2)
  repeat (first | first|apply cA|apply cB|apply cD|apply cE|apply cF|apply cG|apply cH|apply cJ|apply cK|apply cM|apply cN|apply cQ|apply cU|refine cV rfl ?_|refine cX rfl ?_|apply NG.exit_scope|apply cY|apply NG.normal_scope|refine cZ rfl rfl rfl rfl (by first|((first|apply qid|apply qia0|apply qia|apply qmf|apply qmn|apply qep|apply qmv|apply qas|apply qlc|apply qla|apply qfa|apply qnc|apply qic|apply qix|apply qpk|apply qls|apply qei|apply qni|apply qed|apply qnd|apply qad|apply qln|apply qle|apply qgt|apply qge|apply qlk|apply qlv|apply qxt|apply qsb|apply qnt|apply qep|apply qnp|apply qeb|apply qnb|apply qcv|apply qlm|apply qfr|apply qto|apply qmx|apply qen|apply qsn)<;>(first|exact rfl|exact Ar.mk (by omega)|assumption|exact dct (by first|assumption|omega)|exact dcf (by first|assumption|omega)|exact List.not_mem_nil|apply dc_length|apply ec_length|apply dl_length|exact nm1 (by omega)|exact (Int.toNat_of_nonneg (by omega)).symm|exact dcu|fail))|fail) ?_ | refine dA rfl rfl ?_)
  refine dE rfl (by exact rho_of rfl) rfl ?_
  repeat (first|apply cA|apply cB|apply cD|apply cE|apply cF|apply cG|apply cH|apply cJ|apply cK|apply cM|apply cN|apply cQ|apply cU|refine cV rfl ?_|refine cX rfl ?_|apply NG.exit_scope|apply cY|apply NG.normal_scope|refine cZ rfl rfl rfl rfl (by first|((first|apply qid|apply qia0|apply qia|apply qmf|apply qmn|apply qep|apply qmv|apply qas|apply qlc|apply qla|apply qfa|apply qnc|apply qic|apply qix|apply qpk|apply qls|apply qei|apply qni|apply qed|apply qnd|apply qad|apply qln|apply qle|apply qgt|apply qge|apply qlk|apply qlv|apply qxt|apply qsb|apply qnt|apply qep|apply qnp|apply qeb|apply qnb|apply qcv|apply qlm|apply qfr|apply qto|apply qmx|apply qen|apply qsn)<;>(first|exact rfl|exact Ar.mk (by omega)|assumption|exact dct (by first|assumption|omega)|exact dcf (by first|assumption|omega)|exact List.not_mem_nil|apply dc_length|apply ec_length|apply dl_length|exact nm1 (by omega)|exact (Int.toNat_of_nonneg (by omega)).symm|exact dcu|fail))|fail) ?_)
  refine dE rfl (by exact rho_of rfl) rfl ?_
  repeat (first|apply cA|apply cB|apply cD|apply cE|apply cF|apply cG|apply cH|apply cJ|apply cK|apply cM|apply cN|apply cQ|apply cU|refine cV rfl ?_|refine cX rfl ?_|apply NG.exit_scope|apply cY|apply NG.normal_scope|refine cZ rfl rfl rfl rfl (by first|((first|apply qid|apply qia0|apply qia|apply qmf|apply qmn|apply qep|apply qmv|apply qas|apply qlc|apply qla|apply qfa|apply qnc|apply qic|apply qix|apply qpk|apply qls|apply qei|apply qni|apply qed|apply qnd|apply qad|apply qln|apply qle|apply qgt|apply qge|apply qlk|apply qlv|apply qxt|apply qsb|apply qnt|apply qep|apply qnp|apply qeb|apply qnb|apply qcv|apply qlm|apply qfr|apply qto|apply qmx|apply qen|apply qsn)<;>(first|exact rfl|exact Ar.mk (by omega)|assumption|exact dct (by first|assumption|omega)|exact dcf (by first|assumption|omega)|exact List.not_mem_nil|apply dc_length|apply ec_length|apply dl_length|exact nm1 (by omega)|exact (Int.toNat_of_nonneg (by omega)).symm|exact dcu|fail))|fail) ?_)
  refine SG.call rfl rfl rfl (vs := [.int .i64 now]) (by repeat' (first | exact True.intro | exact rho_of rfl | refine And.intro ?_ ?_)) ((late_spec now w2).mono (fun e w3 hh => ?_))
  obtain ⟨b6, he, hk3, hb6, hr6⟩ := hh
  refine ⟨_, he, ?_⟩
  have hL3 := (hL.kp0 (hk1.trans hk2)).kp0 hk3
  have hn6 := own_out (b := b6) (hL.kp0 (hk1.trans hk2)).own hb6
  refine SG.call rfl rfl rfl (vs := [.pointer (some ⟨bt, 0, none⟩), fnv 43 [.pointer (some ⟨b6, 0, none⟩)]]) (by repeat' (first | exact True.intro | exact rho_of rfl | refine And.intro ?_ ?_)) ((ldrop_spec (p := fun x => decide (x.till < now)) hL3 (by omega) (fun x hx W hk => late1_spec (hr6.kp hk hn6) x)).mono (fun e w4 hh => ?_))
  obtain ⟨he, hk4, v4, hL4, hv4⟩ := hh
  refine ⟨_, he, ?_⟩
  have k24 : Kp (bt :: ownB v) w2 w4 := hk3.any.trans hk4
  have hq : b5 ∉ bt :: ownB v := fun hm => by
    rcases List.mem_cons.1 hm with h | h
    · have := hL.blk.lt
      omega
    · exact own_out hL.own hb5 h
  clear q0 q6 q7
  obtain ⟨q0, -, -, -, -, -, -, -⟩ := ec_rows (o := o) ((hB5.kp0 hk2).kp k24 hq)
  repeat (first|apply cA|apply cB|apply cD|apply cE|apply cF|apply cG|apply cH|apply cJ|apply cK|apply cM|apply cN|apply cQ|apply cU|refine cV rfl ?_|refine cX rfl ?_|apply NG.exit_scope|apply cY|apply NG.normal_scope|refine cZ rfl rfl rfl rfl (by first|((first|apply qid|apply qia0|apply qia|apply qmf|apply qmn|apply qep|apply qmv|apply qas|apply qlc|apply qla|apply qfa|apply qnc|apply qic|apply qix|apply qpk|apply qls|apply qei|apply qni|apply qed|apply qnd|apply qad|apply qln|apply qle|apply qgt|apply qge|apply qlk|apply qlv|apply qxt|apply qsb|apply qnt|apply qep|apply qnp|apply qeb|apply qnb|apply qcv|apply qlm|apply qfr|apply qto|apply qmx|apply qen|apply qsn)<;>(first|exact rfl|exact Ar.mk (by omega)|assumption|exact dct (by first|assumption|omega)|exact dcf (by first|assumption|omega)|exact List.not_mem_nil|apply dc_length|apply ec_length|apply dl_length|exact nm1 (by omega)|exact (Int.toNat_of_nonneg (by omega)).symm|exact dcu|fail))|fail) ?_)
  refine SG.call rfl rfl rfl (vs := [dv o.who]) (by repeat' (first | exact True.intro | exact rho_of rfl | refine And.intro ?_ ?_)) ((of0_spec o.who w4).mono (fun e w5 hh => ?_))
  obtain ⟨b7, he, hk5, hb7, hr7⟩ := hh
  refine ⟨_, he, ?_⟩
  have hn7 := own_out (b := b7) hL4.own hb7
  have hf4 : (l.filter (fun x => !decide (x.till < now))).length ≤ l.length := List.length_filter_le _ _
  refine SG.call rfl rfl rfl (vs := [.pointer (some ⟨bt, 0, none⟩), fnv 44 [.pointer (some ⟨b7, 0, none⟩)]]) (by repeat' (first | exact True.intro | exact rho_of rfl | refine And.intro ?_ ?_)) ((ldrop_spec (p := fun x => decide (x.who = o.who)) (hL4.kp0 hk5) (by omega) (fun x hx W hk => of1_spec (hr7.kp hk hn7) x)).mono (fun e w6 hh => ?_))
  obtain ⟨he, hk6, v6, hL6, hv6⟩ := hh
  refine ⟨_, he, ?_⟩
  have k46 : Kp (bt :: ownB v4) w4 w6 := hk5.any.trans hk6
  have hq4 : b5 ∉ bt :: ownB v4 := fun hm => by
    rcases List.mem_cons.1 hm with h | h
    · have := hL.blk.lt
      omega
    · have := hv4 b5 (ownB_mem h)
      exact own_out hL.own hb5 (ownB_of this)
  have hB6 := ((hB5.kp0 hk2).kp k24 hq).kp k46 hq4
  have hq6 : b5 ∉ ownB v6 := fun h => by
    have := hv4 b5 (hv6 b5 (ownB_mem h))
    exact own_out hL.own hb5 (ownB_of this)
  clear q0
  have hK : ((l.filter (fun x => !decide (x.till < now))).filter (fun x => !decide (x.who = o.who))) = keepL now o l := rfl
  rw [hK] at hL6
  have hKl : (keepL now o l).length ≤ l.length := by
    have := List.length_filter_le (fun x : Ofr => !decide (x.who = o.who)) (l.filter (fun x => !decide (x.till < now)))
    unfold keepL
    omega
  have hpe : postE room now o l = if room ≤ (keepL now o l).length then 8 else 0 := rfl
  have hpl : postL room now o l = if room ≤ (keepL now o l).length then keepL now o l else keepL now o l ++ [o] := rfl
  generalize keepL now o l = K at hL6 hKl hpe hpl
  have hk06 : Kp (bt :: ownB v) w w6 := ((hk1.trans hk2).any.trans k24).trans (k46.mono (fun z hz => by
    rcases List.mem_cons.1 hz with h | h
    · exact h ▸ List.mem_cons_self
    · exact List.mem_cons_of_mem _ (ownB_of (hv4 z (ownB_mem h)))))
  have s6 := hk06.size
  have hvv : ∀ z ∈ ownB v6, z ∈ bt :: ownB v := fun z h => List.mem_cons_of_mem _ (ownB_of (hv4 z (hv6 z (ownB_mem h))))
  obtain ⟨a6, c6, rfl, hc6, hS6⟩ := Sl.own ec_length hL6.own rfl
  obtain ⟨r0, r1⟩ := hL6.rows
  have hnb : bt ∉ ownB (.slice a6 K.length c6) := own_notbt hL6
  clear hL hL3 hL4 hk1 hk2 hk3 hk5 hB5 hr6 hr7 hk4 hk6 hn6 hn7 k24 k46 hq hq4
  by_cases hr : room ≤ (K.length : Int)
  · rw [if_pos hr] at hpe hpl
    rw [hpe, hpl]
    repeat (first|apply cA|apply cB|apply cD|apply cE|apply cF|apply cG|apply cH|apply cJ|apply cK|apply cM|apply cN|apply cQ|apply cU|refine cV rfl ?_|refine cX rfl ?_|apply NG.exit_scope|apply cY|apply NG.normal_scope|refine cZ rfl rfl rfl rfl (by first|((first|apply qid|apply qia0|apply qia|apply qmf|apply qmn|apply qep|apply qmv|apply qas|apply qlc|apply qla|apply qfa|apply qnc|apply qic|apply qix|apply qpk|apply qls|apply qei|apply qni|apply qed|apply qnd|apply qad|apply qln|apply qle|apply qgt|apply qge|apply qlk|apply qlv|apply qxt|apply qsb|apply qnt|apply qep|apply qnp|apply qeb|apply qnb|apply qcv|apply qlm|apply qfr|apply qto|apply qmx|apply qen|apply qsn)<;>(first|exact rfl|exact Ar.mk (by omega)|assumption|exact dct (by first|assumption|omega)|exact dcf (by first|assumption|omega)|exact List.not_mem_nil|apply dc_length|apply ec_length|apply dl_length|exact nm1 (by omega)|exact (Int.toNat_of_nonneg (by omega)).symm|exact dcu|fail))|fail) ?_)
    refine CG.draw0 mixed [0, 1, 2, 3, 4, 5, 6, 7, 8, 9] [] (by kernel_rfl) ?_
    repeat (refine dB rfl rfl rfl (by first|((first|apply qid|apply qia0|apply qia|apply qmf|apply qmn|apply qep|apply qmv|apply qas|apply qlc|apply qla|apply qfa|apply qnc|apply qic|apply qix|apply qpk|apply qls|apply qei|apply qni|apply qed|apply qnd|apply qad|apply qln|apply qle|apply qgt|apply qge|apply qlk|apply qlv|apply qxt|apply qsb|apply qnt|apply qep|apply qnp|apply qeb|apply qnb|apply qcv|apply qlm|apply qfr|apply qto|apply qmx|apply qen|apply qsn)<;>(first|exact rfl|exact Ar.mk (by omega)|assumption|exact dct (by first|assumption|omega)|exact dcf (by first|assumption|omega)|exact List.not_mem_nil|apply dc_length|apply ec_length|apply dl_length|exact nm1 (by omega)|exact (Int.toNat_of_nonneg (by omega)).symm|exact dcu|fail))|fail) ?_)
    refine Der.fin (fun w7 hk7 _ _ => ?_)
    repeat (first|apply cA|apply cB|apply cD|apply cE|apply cF|apply cG|apply cH|apply cJ|apply cK|apply cM|apply cN|apply cQ|apply cU|refine cV rfl ?_|refine cX rfl ?_|apply NG.exit_scope|apply cY|apply NG.normal_scope|refine cZ rfl rfl rfl rfl (by first|((first|apply qid|apply qia0|apply qia|apply qmf|apply qmn|apply qep|apply qmv|apply qas|apply qlc|apply qla|apply qfa|apply qnc|apply qic|apply qix|apply qpk|apply qls|apply qei|apply qni|apply qed|apply qnd|apply qad|apply qln|apply qle|apply qgt|apply qge|apply qlk|apply qlv|apply qxt|apply qsb|apply qnt|apply qep|apply qnp|apply qeb|apply qnb|apply qcv|apply qlm|apply qfr|apply qto|apply qmx|apply qen|apply qsn)<;>(first|exact rfl|exact Ar.mk (by omega)|assumption|exact dct (by first|assumption|omega)|exact dcf (by first|assumption|omega)|exact List.not_mem_nil|apply dc_length|apply ec_length|apply dl_length|exact nm1 (by omega)|exact (Int.toNat_of_nonneg (by omega)).symm|exact dcu|fail))|fail) ?_)
    refine dD rfl (by exact rho_of rfl) rfl ?_
    repeat (first|apply cA|apply cB|apply cD|apply cE|apply cF|apply cG|apply cH|apply cJ|apply cK|apply cM|apply cN|apply cQ|apply cU|refine cV rfl ?_|refine cX rfl ?_|apply NG.exit_scope|apply cY|apply NG.normal_scope|refine cZ rfl rfl rfl rfl (by first|((first|apply qid|apply qia0|apply qia|apply qmf|apply qmn|apply qep|apply qmv|apply qas|apply qlc|apply qla|apply qfa|apply qnc|apply qic|apply qix|apply qpk|apply qls|apply qei|apply qni|apply qed|apply qnd|apply qad|apply qln|apply qle|apply qgt|apply qge|apply qlk|apply qlv|apply qxt|apply qsb|apply qnt|apply qep|apply qnp|apply qeb|apply qnb|apply qcv|apply qlm|apply qfr|apply qto|apply qmx|apply qen|apply qsn)<;>(first|exact rfl|exact Ar.mk (by omega)|assumption|exact dct (by first|assumption|omega)|exact dcf (by first|assumption|omega)|exact List.not_mem_nil|apply dc_length|apply ec_length|apply dl_length|exact nm1 (by omega)|exact (Int.toNat_of_nonneg (by omega)).symm|exact dcu|fail))|fail) ?_)
    refine ret1 (Or.inl rfl) Tryz.results7 (by first | exact ResV.tmp rfl | exact ResV.agg rfl rfl (by assumption) (by first | exact dc_length _ | exact nc_length _ | exact rc_length _ _ _ | exact ec_length _ | exact dl_length _ _ _ _ | rfl) | exact ResV.cell rfl rfl (by assumption)) ?_
    exact ⟨rfl, hk06.trans hk7.any, _, hL6.kp0 hk7, fun g hg => Or.inl (ownB_of (hv4 g (hv6 g hg)))⟩
  · rw [if_neg hr] at hpe hpl
    rw [hpe, hpl]
    repeat (first|apply cA|apply cB|apply cD|apply cE|apply cF|apply cG|apply cH|apply cJ|apply cK|apply cM|apply cN|apply cQ|apply cU|refine cV rfl ?_|refine cX rfl ?_|apply NG.exit_scope|apply cY|apply NG.normal_scope|refine cZ rfl rfl rfl rfl (by first|((first|apply qid|apply qia0|apply qia|apply qmf|apply qmn|apply qep|apply qmv|apply qas|apply qlc|apply qla|apply qfa|apply qnc|apply qic|apply qix|apply qpk|apply qls|apply qei|apply qni|apply qed|apply qnd|apply qad|apply qln|apply qle|apply qgt|apply qge|apply qlk|apply qlv|apply qxt|apply qsb|apply qnt|apply qep|apply qnp|apply qeb|apply qnb|apply qcv|apply qlm|apply qfr|apply qto|apply qmx|apply qen|apply qsn)<;>(first|exact rfl|exact Ar.mk (by omega)|assumption|exact dct (by first|assumption|omega)|exact dcf (by first|assumption|omega)|exact List.not_mem_nil|apply dc_length|apply ec_length|apply dl_length|exact nm1 (by omega)|exact (Int.toNat_of_nonneg (by omega)).symm|exact dcu|fail))|fail) ?_)
    refine CG.draw0 mixed [0, 1, 2, 3, 4, 5, 6, 7, 8, 9] [] (by kernel_rfl) ?_
    repeat (refine dB rfl rfl rfl (by first|((first|apply qid|apply qia0|apply qia|apply qmf|apply qmn|apply qep|apply qmv|apply qas|apply qlc|apply qla|apply qfa|apply qnc|apply qic|apply qix|apply qpk|apply qls|apply qei|apply qni|apply qed|apply qnd|apply qad|apply qln|apply qle|apply qgt|apply qge|apply qlk|apply qlv|apply qxt|apply qsb|apply qnt|apply qep|apply qnp|apply qeb|apply qnb|apply qcv|apply qlm|apply qfr|apply qto|apply qmx|apply qen|apply qsn)<;>(first|exact rfl|exact Ar.mk (by omega)|assumption|exact dct (by first|assumption|omega)|exact dcf (by first|assumption|omega)|exact List.not_mem_nil|apply dc_length|apply ec_length|apply dl_length|exact nm1 (by omega)|exact (Int.toNat_of_nonneg (by omega)).symm|exact dcu|fail))|fail) ?_)
    refine Der.fin (fun w7 hk7 _ _ => ?_)
    have hL7 := hL6.kp0 hk7
    have hB7 := hB6.kp0 hk7
    have hR7 : Row w7 b5 0 (ec o) := Row.all hB7 rfl
    clear r0 r1
    obtain ⟨r0, r1⟩ := hL7.rows
    have s7 := hk7.size
    repeat (first|apply cA|apply cB|apply cD|apply cE|apply cF|apply cG|apply cH|apply cJ|apply cK|apply cM|apply cN|apply cQ|apply cU|refine cV rfl ?_|refine cX rfl ?_|apply NG.exit_scope|apply cY|apply NG.normal_scope|refine cZ rfl rfl rfl rfl (by first|((first|apply qid|apply qia0|apply qia|apply qmf|apply qmn|apply qep|apply qmv|apply qas|apply qlc|apply qla|apply qfa|apply qnc|apply qic|apply qix|apply qpk|apply qls|apply qei|apply qni|apply qed|apply qnd|apply qad|apply qln|apply qle|apply qgt|apply qge|apply qlk|apply qlv|apply qxt|apply qsb|apply qnt|apply qep|apply qnp|apply qeb|apply qnb|apply qcv|apply qlm|apply qfr|apply qto|apply qmx|apply qen|apply qsn)<;>(first|exact rfl|exact Ar.mk (by omega)|assumption|exact dct (by first|assumption|omega)|exact dcf (by first|assumption|omega)|exact List.not_mem_nil|apply dc_length|apply ec_length|apply dl_length|exact nm1 (by omega)|exact (Int.toNat_of_nonneg (by omega)).symm|exact dcu|fail))|fail) ?_)
    refine dE rfl (by exact rho_of rfl) rfl ?_
    repeat (first|apply cA|apply cB|apply cD|apply cE|apply cF|apply cG|apply cH|apply cJ|apply cK|apply cM|apply cN|apply cQ|apply cU|refine cV rfl ?_|refine cX rfl ?_|apply NG.exit_scope|apply cY|apply NG.normal_scope|refine cZ rfl rfl rfl rfl (by first|((first|apply qid|apply qia0|apply qia|apply qmf|apply qmn|apply qep|apply qmv|apply qas|apply qlc|apply qla|apply qfa|apply qnc|apply qic|apply qix|apply qpk|apply qls|apply qei|apply qni|apply qed|apply qnd|apply qad|apply qln|apply qle|apply qgt|apply qge|apply qlk|apply qlv|apply qxt|apply qsb|apply qnt|apply qep|apply qnp|apply qeb|apply qnb|apply qcv|apply qlm|apply qfr|apply qto|apply qmx|apply qen|apply qsn)<;>(first|exact rfl|exact Ar.mk (by omega)|assumption|exact dct (by first|assumption|omega)|exact dcf (by first|assumption|omega)|exact List.not_mem_nil|apply dc_length|apply ec_length|apply dl_length|exact nm1 (by omega)|exact (Int.toNat_of_nonneg (by omega)).symm|exact dcu|fail))|fail) ?_)
    refine CG.rows1 (base := base) (enc := ec) (E := 41) (sz := 21) (v := .slice a6 K.length c6) (l := K) mixed 8 [0, 1, 2, 3, 4, 5, 6, 7] [⟨1000, 0, oP base 41 21 ec K⟩, ⟨6, 1, oP w7.heap.size 41 21 ec [o]⟩, ⟨7, 0, oP base 41 21 ec (K ++ [o])⟩] rfl hL7.own (by kernel_rfl) (by kernel_rfl) (by repeat' (first | exact OkL.nil | refine OkL.cons ?_ ?_ | exact oP_ok | exact bP_ok)) ?_
    repeat (refine DerR.val rfl rfl rfl rfl (by first|((first|apply qid|apply qia0|apply qia|apply qmf|apply qmn|apply qep|apply qmv|apply qas|apply qlc|apply qla|apply qfa|apply qnc|apply qic|apply qix|apply qpk|apply qls|apply qei|apply qni|apply qed|apply qnd|apply qad|apply qln|apply qle|apply qgt|apply qge|apply qlk|apply qlv|apply qxt|apply qsb|apply qnt|apply qep|apply qnp|apply qeb|apply qnb|apply qcv|apply qlm|apply qfr|apply qto|apply qmx|apply qen|apply qsn)<;>(first|exact rfl|exact Ar.mk (by omega)|assumption|exact dct (by first|assumption|omega)|exact dcf (by first|assumption|omega)|exact List.not_mem_nil|apply dc_length|apply ec_length|apply dl_length|exact nm1 (by omega)|exact (Int.toNat_of_nonneg (by omega)).symm|exact dcu|fail))|fail) ?_)
    refine DerR.buildO [o] ec_length rfl rfl rfl rfl rfl (by repeat' (first | exact OkL.nil | refine OkL.cons ?_ ?_ | exact oP_ok | exact bP_ok)) rfl (Nat.le_refl _) (by simp [maxLen]) (fun w => by rw [flt_one]; exact bso o w) (fun v8 => ?_)
    refine DerR.append (src := 1000) K [o] [(1000, K)] ec_length ec_one rfl rfl (by kernel_rfl) ⟨Nat.le_refl _, trivial⟩ rfl rfl rfl (by repeat' (first | exact OkL.nil | refine OkL.cons ?_ ?_ | exact oP_ok | exact bP_ok)) (by exact rho_of rfl) (by exact rho_of rfl) rfl rfl rfl (by simp only [maxLen, List.length_cons, List.length_nil]; omega) (by show (K.length + 1) * 56 ≤ _; omega) (by omega) (.tail _ (.head _)) (by kernel_rfl) (fun w hk hF => oP.sl ec_length (hF.get (.head _) (by kernel_rfl) rfl)) (fun v9 => ?_)
    refine DerR.tl (fun w8 V hok hV => ?_)
    have ho8 : w8.ownsRow base 41 21 v9 (K ++ [o]).length (flt ec (K ++ [o])) := hok.get hV (.head _) rfl
    have hk8 := hok.kp
    have hB8 := hL7.blk.kp hk8 hnb
    have hown := hok.ownS hV (.head _) rfl
    obtain ⟨a9, c9, rfl, _, _⟩ := Sl.own ec_length ho8 rfl
    repeat (first|apply cA|apply cB|apply cD|apply cE|apply cF|apply cG|apply cH|apply cJ|apply cK|apply cM|apply cN|apply cQ|apply cU|refine cV rfl ?_|refine cX rfl ?_|apply NG.exit_scope|apply cY|apply NG.normal_scope|refine cZ rfl rfl rfl rfl (by first|((first|apply qid|apply qia0|apply qia|apply qmf|apply qmn|apply qep|apply qmv|apply qas|apply qlc|apply qla|apply qfa|apply qnc|apply qic|apply qix|apply qpk|apply qls|apply qei|apply qni|apply qed|apply qnd|apply qad|apply qln|apply qle|apply qgt|apply qge|apply qlk|apply qlv|apply qxt|apply qsb|apply qnt|apply qep|apply qnp|apply qeb|apply qnb|apply qcv|apply qlm|apply qfr|apply qto|apply qmx|apply qen|apply qsn)<;>(first|exact rfl|exact Ar.mk (by omega)|assumption|exact dct (by first|assumption|omega)|exact dcf (by first|assumption|omega)|exact List.not_mem_nil|apply dc_length|apply ec_length|apply dl_length|exact nm1 (by omega)|exact (Int.toNat_of_nonneg (by omega)).symm|exact dcu|fail))|fail) ?_)
    refine SG.store rfl rfl (by exact rho_of rfl) (by exact rho_of rfl) hB8 rfl (by show 0 + 1 + 1 ≤ 2; omega) rfl (fun w9 hk9 hB9 => ?_)
    have ho9 := own_kp ho8 hk9 (own_neb ho8 (by decide) hB8)
    repeat (first|apply cA|apply cB|apply cD|apply cE|apply cF|apply cG|apply cH|apply cJ|apply cK|apply cM|apply cN|apply cQ|apply cU|refine cV rfl ?_|refine cX rfl ?_|apply NG.exit_scope|apply cY|apply NG.normal_scope|refine cZ rfl rfl rfl rfl (by first|((first|apply qid|apply qia0|apply qia|apply qmf|apply qmn|apply qep|apply qmv|apply qas|apply qlc|apply qla|apply qfa|apply qnc|apply qic|apply qix|apply qpk|apply qls|apply qei|apply qni|apply qed|apply qnd|apply qad|apply qln|apply qle|apply qgt|apply qge|apply qlk|apply qlv|apply qxt|apply qsb|apply qnt|apply qep|apply qnp|apply qeb|apply qnb|apply qcv|apply qlm|apply qfr|apply qto|apply qmx|apply qen|apply qsn)<;>(first|exact rfl|exact Ar.mk (by omega)|assumption|exact dct (by first|assumption|omega)|exact dcf (by first|assumption|omega)|exact List.not_mem_nil|apply dc_length|apply ec_length|apply dl_length|exact nm1 (by omega)|exact (Int.toNat_of_nonneg (by omega)).symm|exact dcu|fail))|fail) ?_)
    refine ret1 (Or.inl rfl) Tryz.results7 (by first | exact ResV.tmp rfl | exact ResV.agg rfl rfl (by assumption) (by first | exact dc_length _ | exact nc_length _ | exact rc_length _ _ _ | exact ec_length _ | exact dl_length _ _ _ _ | rfl) | exact ResV.cell rfl rfl (by assumption)) ?_
    exact ⟨rfl, ((hk06.trans hk7.any).trans (hk8.mono hvv)).trans (hk9.mono (fun z hz => by
      rw [List.mem_singleton] at hz
      exact hz ▸ List.mem_cons_self)), _, ⟨hB9, ho9⟩, fun g hg => (hown g hg).elim (fun h => Or.inl (ownB_of (hv4 g (hv6 g (ownB_mem h))))) (fun h => Or.inr (by omega))⟩
end Go.Proofs.YtnoipmimddoioaaGreat
namespace Go.Proofs.YtnoipmimddoioaaGreat
set_option linter.unusedVariables false
/-- Those that are taken, behind some; as many as that. -/
def grab (s : Int) : List Ofr → List Ofr → Option (List Ofr)
  | _, [] => none
  | t, o :: r => if t.any (fun x => !decide (fitP x o)) then grab s t r else if ((t ++ [o]).length : Int) = s then some (t ++ [o]) else grab s (t ++ [o]) r
/-- The first deal that some come to. -/
def findD : List Ofr → Option (List Ofr)
  | [] => none
  | o :: r => match grab o.seats [o] r with
    | some t => some t
    | none => findD r
theorem grab_nil (s : Int) (t : List Ofr) : grab s t [] = none := by
  unfold grab
  rfl
theorem grab_no {s : Int} {t : List Ofr} {o : Ofr} {r : List Ofr} (h : t.any (fun x => !decide (fitP x o)) = true) : grab s t (o :: r) = grab s t r := by
  rw [grab, if_pos h]
theorem grab_end {s : Int} {t : List Ofr} {o : Ofr} {r : List Ofr} (h : t.any (fun x => !decide (fitP x o)) = false) (h2 : ((t ++ [o]).length : Int) = s) : grab s t (o :: r) = some (t ++ [o]) := by
  rw [grab, if_neg (by rw [h]; decide), if_pos h2]
theorem grab_on {s : Int} {t : List Ofr} {o : Ofr} {r : List Ofr} (h : t.any (fun x => !decide (fitP x o)) = false) (h2 : ¬ ((t ++ [o]).length : Int) = s) : grab s t (o :: r) = grab s (t ++ [o]) r := by
  rw [grab, if_neg (by rw [h]; decide), if_neg h2]
theorem pw_more {t : List Ofr} {o : Ofr} (hp : t.Pairwise fitP) (h : t.any (fun x => !decide (fitP x o)) = false) : (t ++ [o]).Pairwise fitP := by
  refine List.pairwise_append.2 ⟨hp, List.pairwise_singleton _ _, fun x hx y hy => ?_⟩
  rw [List.mem_singleton] at hy
  subst hy
  rw [List.any_eq_false] at h
  have := h x hx
  simpa using this
/-- What is taken: of those that come, in their order, of which each fits all others. -/
theorem grab_some {s : Int} : ∀ {r t u : List Ofr}, grab s t r = some u → t.Pairwise fitP → (∃ v, u = t ++ v ∧ v.Sublist r) ∧ u.Pairwise fitP ∧ (u.length : Int) = s
  | [], t, u, h, _ => by
    rw [grab_nil] at h
    cases h
  | o :: r, t, u, h, hp => by
    cases ha : t.any (fun x => !decide (fitP x o)) with
    | true =>
      rw [grab_no ha] at h
      obtain ⟨⟨v, h1, h2⟩, h3⟩ := grab_some h hp
      exact ⟨⟨v, h1, h2.cons _⟩, h3⟩
    | false =>
      have hp' := pw_more hp ha
      by_cases hs : ((t ++ [o]).length : Int) = s
      · rw [grab_end ha hs] at h
        cases h
        exact ⟨⟨[o], rfl, (List.nil_sublist _).cons_cons _⟩, hp', hs⟩
      · rw [grab_on ha hs] at h
        obtain ⟨⟨v, h1, h2⟩, h3⟩ := grab_some h hp'
        exact ⟨⟨o :: v, by rw [h1]; simp, h2.cons_cons _⟩, h3⟩
theorem findD_some : ∀ {l u : List Ofr}, findD l = some u → u.Sublist l ∧ u.Pairwise fitP ∧ ∃ o v, u = o :: v ∧ (u.length : Int) = o.seats
  | [], u, h => by
    unfold findD at h
    cases h
  | o :: r, u, h => by
    unfold findD at h
    cases hg : grab o.seats [o] r with
    | some t =>
      rw [hg] at h
      cases h
      obtain ⟨⟨v, h1, h2⟩, h3, h4⟩ := grab_some hg (List.pairwise_singleton _ _)
      exact ⟨by rw [h1]; exact h2.cons_cons _, h3, o, v, h1, h4⟩
    | none =>
      rw [hg] at h
      obtain ⟨h1, h2, h3⟩ := findD_some h
      exact ⟨h1.cons _, h2, h3⟩
end Go.Proofs.YtnoipmimddoioaaGreat
