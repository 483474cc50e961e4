import Derived.Test.YtnoipmimddoioaaQp4
/-
  The document's digests: states begun, stirred, taken in, given; numbers.
-/
namespace Go.Proofs.Ytnoipmimddoioaa
open Go.Proofs
set_option linter.unusedVariables false

theorem bsr (w : World) (a b c e : Int) : (Instr.build 114 #[(0, .int .u64 a), (1, .int .u64 b), (2, .int .u64 c), (3, .int .u64 e)]).run Try.prog w = .ok (.agg (hsl ⟨a, b, c, e⟩).toArray) w := by kernel_rfl
theorem bz8 (w : World) : (Instr.build 23 #[]).run Try.prog w = .ok (dv zd) w := by kernel_rfl

attribute [local irreducible] CG NG SG Vals Der Row Blk MapIs IterAt addI xorI orI andI shlI shrI mulI
set_option maxHeartbeats 8000000 in
theorem left_spec (w : World) (x k : Int) (h0 : 0 ≤ k ∧ k ≤ 64) : Ret Try.prog 109 #[.int .u64 x, .int .u64 k] w (.int .u64 (rotI x k)) := by
  refine enter2 Try.func109 rfl Try.ntmps109 rfl ?_
  repeat (first|apply CG.seq|apply CG.region|apply SG.nil|apply NG.next|apply CG.skip|apply CG.block|apply CG.ret|apply CG.exit|apply NG.exit_then|refine NG.exit_block rfl ?_|apply NG.normal_block|refine SG.val rfl rfl rfl rfl (by first|((first|apply quad|apply quxo|apply quor|apply qush|apply qusr|apply qusb|apply qia0|apply qmv|apply qas|apply qlc|apply qla|apply qle)<;>(first|exact rfl|assumption|exact Ar.mk (by omega)|exact dct (by first|assumption|omega)|exact dcf (by first|assumption|omega)|exact List.not_mem_nil|exact nm1 (by omega)|fail))|fail) ?_)
  refine ret1 (Or.inl rfl) Try.results109 (by first | exact ResV.tmp rfl | exact ResV.agg rfl rfl (by assumption) (by first | exact dc_length _ | exact nc_length _ | exact rc_length _ _ _ | exact ec_length _ | exact dl_length _ _ _ _ | rfl) | exact ResV.cell rfl rfl (by assumption)) ?_
  exact ⟨rfl, Kp.refl _ _⟩
theorem left32 (w : World) (x : Int) : Ret Try.prog 109 #[.int .u64 x, .int .u64 32] w (.int .u64 (rotI x 32)) := left_spec w x 32 (by omega)
theorem left24 (w : World) (x : Int) : Ret Try.prog 109 #[.int .u64 x, .int .u64 24] w (.int .u64 (rotI x 24)) := left_spec w x 24 (by omega)
theorem left16 (w : World) (x : Int) : Ret Try.prog 109 #[.int .u64 x, .int .u64 16] w (.int .u64 (rotI x 16)) := left_spec w x 16 (by omega)
theorem left63 (w : World) (x : Int) : Ret Try.prog 109 #[.int .u64 x, .int .u64 63] w (.int .u64 (rotI x 63)) := left_spec w x 63 (by omega)
set_option maxHeartbeats 16000000 in
theorem rstir_spec (s : Hs) (w : World) : Ret Try.prog 99 #[.agg (hsl s).toArray] w (.agg (hsl (stirI s)).toArray) := by
  refine enter1 Try.func99 rfl Try.ntmps99 rfl ?_
  repeat (first|apply CG.seq|apply CG.region|apply SG.nil|apply NG.next|apply CG.skip|apply CG.block|apply CG.ret|apply CG.exit|apply NG.exit_then|refine NG.exit_block rfl ?_|apply NG.normal_block|refine SG.val rfl rfl rfl rfl (by first|((first|apply quad|apply quxo|apply quor|apply qush|apply qusr|apply qusb|apply qia0|apply qmv|apply qas|apply qlc|apply qla|apply qle)<;>(first|exact rfl|assumption|exact Ar.mk (by omega)|exact dct (by first|assumption|omega)|exact dcf (by first|assumption|omega)|exact List.not_mem_nil|exact nm1 (by omega)|fail))|fail) ?_)
  refine SG.box rfl rfl rfl (by exact rho_of rfl) (fun b1 w1 hk1 hb1 hB1 => ?_)
  have hB1 : Blk w1 b1 (.cells (hsl s).toArray 114) := hB1
  refine SG.alloc rfl rfl rfl (fun b2 w2 hk2 hb2 hB2 => ?_)
  have hB2 : Blk w2 b2 (.cells (hsl ⟨0, 0, 0, 0⟩).toArray 114) := hB2
  have l1 := hB1.lt
  have s1 := hk1.size
  have s2 := hk2.size
  have k2 := hk1.trans hk2
  repeat (first|apply CG.seq|apply CG.region|apply SG.nil|apply NG.next|apply CG.skip|apply CG.block|apply CG.ret|apply CG.exit|apply NG.exit_then|refine NG.exit_block rfl ?_|apply NG.normal_block|refine SG.val rfl rfl rfl rfl (by first|((first|apply quad|apply quxo|apply quor|apply qush|apply qusr|apply qusb|apply qia0|apply qmv|apply qas|apply qlc|apply qla|apply qle)<;>(first|exact rfl|assumption|exact Ar.mk (by omega)|exact dct (by first|assumption|omega)|exact dcf (by first|assumption|omega)|exact List.not_mem_nil|exact nm1 (by omega)|fail))|fail) ?_)
  refine CG.loop (X := Nat) (fun i => [(1, .pointer (some ⟨b1, 0, none⟩)), (2, .pointer (some ⟨b2, 0, none⟩)), (3, .int .u64 ((i + 1 : Nat) : Int))])
    (fun i w' => i ≤ 6 ∧ Kp [b1] w2 w' ∧ Blk w' b1 (.cells (hsl (roundsI s i)).toArray 114)) (fun i => 6 - i) 0 ⟨by omega, Kp.refl _ _, hB1.kp0 hk2⟩ (by (repeat' (first | exact True.intro | exact rfl | refine And.intro ?_ ?_))) ?_
  rintro i v0 ⟨hi, hk, hB⟩
  by_cases hlt : i < 6
  · have g1 : ((i + 1 : Nat) : Int) ≤ 6 := by omega
    have e1 := addI_small (k := i + 1) (by omega)
    obtain ⟨r0, r1, r2, r3, _⟩ := hs_rows hB
    generalize hq : roundsI s i = q at hB r0 r1 r2 r3
    repeat (first|apply CG.seq|apply CG.region|apply SG.nil|apply NG.next|apply CG.skip|apply CG.block|apply CG.ret|apply CG.exit|apply NG.exit_then|refine NG.exit_block rfl ?_|apply NG.normal_block|refine SG.val rfl rfl rfl rfl (by first|((first|apply quad|apply quxo|apply quor|apply qush|apply qusr|apply qusb|apply qia0|apply qmv|apply qas|apply qlc|apply qla|apply qle)<;>(first|exact rfl|assumption|exact Ar.mk (by omega)|exact dct (by first|assumption|omega)|exact dcf (by first|assumption|omega)|exact List.not_mem_nil|exact nm1 (by omega)|fail))|fail) ?_)
    refine CG.cond_t rfl (by exact rho_of rfl) rfl ?_
    repeat (first|apply CG.seq|apply CG.region|apply SG.nil|apply NG.next|apply CG.skip|apply CG.block|apply CG.ret|apply CG.exit|apply NG.exit_then|refine NG.exit_block rfl ?_|apply NG.normal_block|refine SG.val rfl rfl rfl rfl (by first|((first|apply quad|apply quxo|apply quor|apply qush|apply qusr|apply qusb|apply qia0|apply qmv|apply qas|apply qlc|apply qla|apply qle)<;>(first|exact rfl|assumption|exact Ar.mk (by omega)|exact dct (by first|assumption|omega)|exact dcf (by first|assumption|omega)|exact List.not_mem_nil|exact nm1 (by omega)|fail))|fail) ?_)
    generalize hy0 : xorI (addI q.a q.b) ((i + 1 : Nat) : Int) = y0
    refine SG.store rfl rfl (by exact rho_of rfl) (by exact rho_of rfl) hB rfl (by show 0 + 1 ≤ 4; omega) rfl (fun v1 hj1 hB => ?_)
    have hB : Blk v1 b1 (.cells (hsl ⟨y0, q.b, q.c, q.d⟩).toArray 114) := hB
    have hk := hk.trans hj1
    clear r0 r1 r2 r3
    obtain ⟨r0, r1, r2, r3, _⟩ := hs_rows hB
    repeat (first|apply CG.seq|apply CG.region|apply SG.nil|apply NG.next|apply CG.skip|apply CG.block|apply CG.ret|apply CG.exit|apply NG.exit_then|refine NG.exit_block rfl ?_|apply NG.normal_block|refine SG.val rfl rfl rfl rfl (by first|((first|apply quad|apply quxo|apply quor|apply qush|apply qusr|apply qusb|apply qia0|apply qmv|apply qas|apply qlc|apply qla|apply qle)<;>(first|exact rfl|assumption|exact Ar.mk (by omega)|exact dct (by first|assumption|omega)|exact dcf (by first|assumption|omega)|exact List.not_mem_nil|exact nm1 (by omega)|fail))|fail) ?_)
    refine SG.ret rfl rfl rfl (by repeat' (first | exact True.intro | exact rho_of rfl | refine And.intro ?_ ?_)) (left32 v1 _) (fun v2 hj2 => ?_)
    have hB := hB.kp0 hj2
    have hk := hk.trans hj2.any
    repeat (first|apply CG.seq|apply CG.region|apply SG.nil|apply NG.next|apply CG.skip|apply CG.block|apply CG.ret|apply CG.exit|apply NG.exit_then|refine NG.exit_block rfl ?_|apply NG.normal_block|refine SG.val rfl rfl rfl rfl (by first|((first|apply quad|apply quxo|apply quor|apply qush|apply qusr|apply qusb|apply qia0|apply qmv|apply qas|apply qlc|apply qla|apply qle)<;>(first|exact rfl|assumption|exact Ar.mk (by omega)|exact dct (by first|assumption|omega)|exact dcf (by first|assumption|omega)|exact List.not_mem_nil|exact nm1 (by omega)|fail))|fail) ?_)
    generalize hy1 : rotI (xorI q.d y0) 32 = y1
    refine SG.store rfl rfl (by exact rho_of rfl) (by exact rho_of rfl) hB rfl (by show 3 + 1 ≤ 4; omega) rfl (fun v3 hj3 hB => ?_)
    have hB : Blk v3 b1 (.cells (hsl ⟨y0, q.b, q.c, y1⟩).toArray 114) := hB
    have hk := hk.trans hj3
    clear r0 r1 r2 r3
    obtain ⟨r0, r1, r2, r3, _⟩ := hs_rows hB
    repeat (first|apply CG.seq|apply CG.region|apply SG.nil|apply NG.next|apply CG.skip|apply CG.block|apply CG.ret|apply CG.exit|apply NG.exit_then|refine NG.exit_block rfl ?_|apply NG.normal_block|refine SG.val rfl rfl rfl rfl (by first|((first|apply quad|apply quxo|apply quor|apply qush|apply qusr|apply qusb|apply qia0|apply qmv|apply qas|apply qlc|apply qla|apply qle)<;>(first|exact rfl|assumption|exact Ar.mk (by omega)|exact dct (by first|assumption|omega)|exact dcf (by first|assumption|omega)|exact List.not_mem_nil|exact nm1 (by omega)|fail))|fail) ?_)
    generalize hy2 : addI q.c y1 = y2
    refine SG.store rfl rfl (by exact rho_of rfl) (by exact rho_of rfl) hB rfl (by show 2 + 1 ≤ 4; omega) rfl (fun v4 hj4 hB => ?_)
    have hB : Blk v4 b1 (.cells (hsl ⟨y0, q.b, y2, y1⟩).toArray 114) := hB
    have hk := hk.trans hj4
    clear r0 r1 r2 r3
    obtain ⟨r0, r1, r2, r3, _⟩ := hs_rows hB
    repeat (first|apply CG.seq|apply CG.region|apply SG.nil|apply NG.next|apply CG.skip|apply CG.block|apply CG.ret|apply CG.exit|apply NG.exit_then|refine NG.exit_block rfl ?_|apply NG.normal_block|refine SG.val rfl rfl rfl rfl (by first|((first|apply quad|apply quxo|apply quor|apply qush|apply qusr|apply qusb|apply qia0|apply qmv|apply qas|apply qlc|apply qla|apply qle)<;>(first|exact rfl|assumption|exact Ar.mk (by omega)|exact dct (by first|assumption|omega)|exact dcf (by first|assumption|omega)|exact List.not_mem_nil|exact nm1 (by omega)|fail))|fail) ?_)
    refine SG.ret rfl rfl rfl (by repeat' (first | exact True.intro | exact rho_of rfl | refine And.intro ?_ ?_)) (left24 v4 _) (fun v5 hj5 => ?_)
    have hB := hB.kp0 hj5
    have hk := hk.trans hj5.any
    repeat (first|apply CG.seq|apply CG.region|apply SG.nil|apply NG.next|apply CG.skip|apply CG.block|apply CG.ret|apply CG.exit|apply NG.exit_then|refine NG.exit_block rfl ?_|apply NG.normal_block|refine SG.val rfl rfl rfl rfl (by first|((first|apply quad|apply quxo|apply quor|apply qush|apply qusr|apply qusb|apply qia0|apply qmv|apply qas|apply qlc|apply qla|apply qle)<;>(first|exact rfl|assumption|exact Ar.mk (by omega)|exact dct (by first|assumption|omega)|exact dcf (by first|assumption|omega)|exact List.not_mem_nil|exact nm1 (by omega)|fail))|fail) ?_)
    generalize hy3 : rotI (xorI q.b y2) 24 = y3
    refine SG.store rfl rfl (by exact rho_of rfl) (by exact rho_of rfl) hB rfl (by show 1 + 1 ≤ 4; omega) rfl (fun v6 hj6 hB => ?_)
    have hB : Blk v6 b1 (.cells (hsl ⟨y0, y3, y2, y1⟩).toArray 114) := hB
    have hk := hk.trans hj6
    clear r0 r1 r2 r3
    obtain ⟨r0, r1, r2, r3, _⟩ := hs_rows hB
    repeat (first|apply CG.seq|apply CG.region|apply SG.nil|apply NG.next|apply CG.skip|apply CG.block|apply CG.ret|apply CG.exit|apply NG.exit_then|refine NG.exit_block rfl ?_|apply NG.normal_block|refine SG.val rfl rfl rfl rfl (by first|((first|apply quad|apply quxo|apply quor|apply qush|apply qusr|apply qusb|apply qia0|apply qmv|apply qas|apply qlc|apply qla|apply qle)<;>(first|exact rfl|assumption|exact Ar.mk (by omega)|exact dct (by first|assumption|omega)|exact dcf (by first|assumption|omega)|exact List.not_mem_nil|exact nm1 (by omega)|fail))|fail) ?_)
    generalize hy4 : addI y0 y3 = y4
    refine SG.store rfl rfl (by exact rho_of rfl) (by exact rho_of rfl) hB rfl (by show 0 + 1 ≤ 4; omega) rfl (fun v7 hj7 hB => ?_)
    have hB : Blk v7 b1 (.cells (hsl ⟨y4, y3, y2, y1⟩).toArray 114) := hB
    have hk := hk.trans hj7
    clear r0 r1 r2 r3
    obtain ⟨r0, r1, r2, r3, _⟩ := hs_rows hB
    repeat (first|apply CG.seq|apply CG.region|apply SG.nil|apply NG.next|apply CG.skip|apply CG.block|apply CG.ret|apply CG.exit|apply NG.exit_then|refine NG.exit_block rfl ?_|apply NG.normal_block|refine SG.val rfl rfl rfl rfl (by first|((first|apply quad|apply quxo|apply quor|apply qush|apply qusr|apply qusb|apply qia0|apply qmv|apply qas|apply qlc|apply qla|apply qle)<;>(first|exact rfl|assumption|exact Ar.mk (by omega)|exact dct (by first|assumption|omega)|exact dcf (by first|assumption|omega)|exact List.not_mem_nil|exact nm1 (by omega)|fail))|fail) ?_)
    refine SG.ret rfl rfl rfl (by repeat' (first | exact True.intro | exact rho_of rfl | refine And.intro ?_ ?_)) (left16 v7 _) (fun v8 hj8 => ?_)
    have hB := hB.kp0 hj8
    have hk := hk.trans hj8.any
    repeat (first|apply CG.seq|apply CG.region|apply SG.nil|apply NG.next|apply CG.skip|apply CG.block|apply CG.ret|apply CG.exit|apply NG.exit_then|refine NG.exit_block rfl ?_|apply NG.normal_block|refine SG.val rfl rfl rfl rfl (by first|((first|apply quad|apply quxo|apply quor|apply qush|apply qusr|apply qusb|apply qia0|apply qmv|apply qas|apply qlc|apply qla|apply qle)<;>(first|exact rfl|assumption|exact Ar.mk (by omega)|exact dct (by first|assumption|omega)|exact dcf (by first|assumption|omega)|exact List.not_mem_nil|exact nm1 (by omega)|fail))|fail) ?_)
    generalize hy5 : rotI (xorI y1 y4) 16 = y5
    refine SG.store rfl rfl (by exact rho_of rfl) (by exact rho_of rfl) hB rfl (by show 3 + 1 ≤ 4; omega) rfl (fun v9 hj9 hB => ?_)
    have hB : Blk v9 b1 (.cells (hsl ⟨y4, y3, y2, y5⟩).toArray 114) := hB
    have hk := hk.trans hj9
    clear r0 r1 r2 r3
    obtain ⟨r0, r1, r2, r3, _⟩ := hs_rows hB
    repeat (first|apply CG.seq|apply CG.region|apply SG.nil|apply NG.next|apply CG.skip|apply CG.block|apply CG.ret|apply CG.exit|apply NG.exit_then|refine NG.exit_block rfl ?_|apply NG.normal_block|refine SG.val rfl rfl rfl rfl (by first|((first|apply quad|apply quxo|apply quor|apply qush|apply qusr|apply qusb|apply qia0|apply qmv|apply qas|apply qlc|apply qla|apply qle)<;>(first|exact rfl|assumption|exact Ar.mk (by omega)|exact dct (by first|assumption|omega)|exact dcf (by first|assumption|omega)|exact List.not_mem_nil|exact nm1 (by omega)|fail))|fail) ?_)
    generalize hy6 : addI y2 y5 = y6
    refine SG.store rfl rfl (by exact rho_of rfl) (by exact rho_of rfl) hB rfl (by show 2 + 1 ≤ 4; omega) rfl (fun v10 hj10 hB => ?_)
    have hB : Blk v10 b1 (.cells (hsl ⟨y4, y3, y6, y5⟩).toArray 114) := hB
    have hk := hk.trans hj10
    clear r0 r1 r2 r3
    obtain ⟨r0, r1, r2, r3, _⟩ := hs_rows hB
    repeat (first|apply CG.seq|apply CG.region|apply SG.nil|apply NG.next|apply CG.skip|apply CG.block|apply CG.ret|apply CG.exit|apply NG.exit_then|refine NG.exit_block rfl ?_|apply NG.normal_block|refine SG.val rfl rfl rfl rfl (by first|((first|apply quad|apply quxo|apply quor|apply qush|apply qusr|apply qusb|apply qia0|apply qmv|apply qas|apply qlc|apply qla|apply qle)<;>(first|exact rfl|assumption|exact Ar.mk (by omega)|exact dct (by first|assumption|omega)|exact dcf (by first|assumption|omega)|exact List.not_mem_nil|exact nm1 (by omega)|fail))|fail) ?_)
    refine SG.ret rfl rfl rfl (by repeat' (first | exact True.intro | exact rho_of rfl | refine And.intro ?_ ?_)) (left63 v10 _) (fun v11 hj11 => ?_)
    have hB := hB.kp0 hj11
    have hk := hk.trans hj11.any
    repeat (first|apply CG.seq|apply CG.region|apply SG.nil|apply NG.next|apply CG.skip|apply CG.block|apply CG.ret|apply CG.exit|apply NG.exit_then|refine NG.exit_block rfl ?_|apply NG.normal_block|refine SG.val rfl rfl rfl rfl (by first|((first|apply quad|apply quxo|apply quor|apply qush|apply qusr|apply qusb|apply qia0|apply qmv|apply qas|apply qlc|apply qla|apply qle)<;>(first|exact rfl|assumption|exact Ar.mk (by omega)|exact dct (by first|assumption|omega)|exact dcf (by first|assumption|omega)|exact List.not_mem_nil|exact nm1 (by omega)|fail))|fail) ?_)
    generalize hy7 : rotI (xorI y3 y6) 63 = y7
    refine SG.store rfl rfl (by exact rho_of rfl) (by exact rho_of rfl) hB rfl (by show 1 + 1 ≤ 4; omega) rfl (fun v12 hj12 hB => ?_)
    have hB : Blk v12 b1 (.cells (hsl ⟨y4, y7, y6, y5⟩).toArray 114) := hB
    have hk := hk.trans hj12
    clear r0 r1 r2 r3
    obtain ⟨r0, r1, r2, r3, _⟩ := hs_rows hB
    repeat (first|apply CG.seq|apply CG.region|apply SG.nil|apply NG.next|apply CG.skip|apply CG.block|apply CG.ret|apply CG.exit|apply NG.exit_then|refine NG.exit_block rfl ?_|apply NG.normal_block|refine SG.val rfl rfl rfl rfl (by first|((first|apply quad|apply quxo|apply quor|apply qush|apply qusr|apply qusb|apply qia0|apply qmv|apply qas|apply qlc|apply qla|apply qle)<;>(first|exact rfl|assumption|exact Ar.mk (by omega)|exact dct (by first|assumption|omega)|exact dcf (by first|assumption|omega)|exact List.not_mem_nil|exact nm1 (by omega)|fail))|fail) ?_)
    rw [e1]
    refine NG.round (i + 1) (by (repeat' (first | exact True.intro | exact rfl | refine And.intro ?_ ?_))) ⟨by omega, hk, ?_⟩ (by omega)
    have e : roundsI s (i + 1) = ⟨y4, y7, y6, y5⟩ := by
      rw [roundsI, hq, ← hy7, ← hy6, ← hy5, ← hy4, ← hy3, ← hy2, ← hy1, ← hy0]
      rfl
    rw [e]
    exact hB
  · have g1 : ¬ ((i + 1 : Nat) : Int) ≤ 6 := by omega
    have e6 : i = 6 := by omega
    subst e6
    have hr : Row v0 b1 0 (hsl (stirI s)) := Row.all hB rfl
    repeat (first|apply CG.seq|apply CG.region|apply SG.nil|apply NG.next|apply CG.skip|apply CG.block|apply CG.ret|apply CG.exit|apply NG.exit_then|refine NG.exit_block rfl ?_|apply NG.normal_block|refine SG.val rfl rfl rfl rfl (by first|((first|apply quad|apply quxo|apply quor|apply qush|apply qusr|apply qusb|apply qia0|apply qmv|apply qas|apply qlc|apply qla|apply qle)<;>(first|exact rfl|assumption|exact Ar.mk (by omega)|exact dct (by first|assumption|omega)|exact dcf (by first|assumption|omega)|exact List.not_mem_nil|exact nm1 (by omega)|fail))|fail) ?_)
    refine CG.cond_f rfl (by exact rho_of rfl) rfl ?_
    repeat (first|apply CG.seq|apply CG.region|apply SG.nil|apply NG.next|apply CG.skip|apply CG.block|apply CG.ret|apply CG.exit|apply NG.exit_then|refine NG.exit_block rfl ?_|apply NG.normal_block|refine SG.val rfl rfl rfl rfl (by first|((first|apply quad|apply quxo|apply quor|apply qush|apply qusr|apply qusb|apply qia0|apply qmv|apply qas|apply qlc|apply qla|apply qle)<;>(first|exact rfl|assumption|exact Ar.mk (by omega)|exact dct (by first|assumption|omega)|exact dcf (by first|assumption|omega)|exact List.not_mem_nil|exact nm1 (by omega)|fail))|fail) ?_)
    refine SG.setAll (old := hsl ⟨0, 0, 0, 0⟩) (l := hsl (stirI s)) rfl rfl (by exact rho_of rfl) (by exact rho_of rfl) (hB2.kp hk (nm1 (by omega))) rfl rfl rfl (fun w3 hk3 hB3 => ?_)
    have hr3 : Row w3 b2 0 (hsl (stirI s)) := Row.all hB3 rfl
    repeat (first|apply CG.seq|apply CG.region|apply SG.nil|apply NG.next|apply CG.skip|apply CG.block|apply CG.ret|apply CG.exit|apply NG.exit_then|refine NG.exit_block rfl ?_|apply NG.normal_block|refine SG.val rfl rfl rfl rfl (by first|((first|apply quad|apply quxo|apply quor|apply qush|apply qusr|apply qusb|apply qia0|apply qmv|apply qas|apply qlc|apply qla|apply qle)<;>(first|exact rfl|assumption|exact Ar.mk (by omega)|exact dct (by first|assumption|omega)|exact dcf (by first|assumption|omega)|exact List.not_mem_nil|exact nm1 (by omega)|fail))|fail) ?_)
    refine ret1 (Or.inl rfl) Try.results99 (by first | exact ResV.tmp rfl | exact ResV.agg rfl rfl (by assumption) (by first | exact dc_length _ | exact nc_length _ | exact rc_length _ _ _ | exact ec_length _ | exact dl_length _ _ _ _ | rfl) | exact ResV.cell rfl rfl (by assumption)) ?_
    exact ⟨rfl, (k2.trans_new hk (new1 (by omega))).trans_new hk3 (new1 (by omega))⟩
set_option maxHeartbeats 8000000 in
theorem rbegin_spec (z : Int) (w : World) : Ret Try.prog 74 #[.int .u64 z] w (.agg (hsl (beginI z)).toArray) := by
  refine enter1 Try.func74 rfl Try.ntmps74 rfl ?_
  repeat (first|apply CG.seq|apply CG.region|apply SG.nil|apply NG.next|apply CG.skip|apply CG.block|apply CG.ret|apply CG.exit|apply NG.exit_then|refine NG.exit_block rfl ?_|apply NG.normal_block|refine SG.val rfl rfl rfl rfl (by first|((first|apply quad|apply quxo|apply quor|apply qush|apply qusr|apply qusb|apply qia0|apply qmv|apply qas|apply qlc|apply qla|apply qle)<;>(first|exact rfl|assumption|exact Ar.mk (by omega)|exact dct (by first|assumption|omega)|exact dcf (by first|assumption|omega)|exact List.not_mem_nil|exact nm1 (by omega)|fail))|fail) ?_)
  refine SG.alloc rfl rfl rfl (fun b2 w1 hk1 hb2 hB2 => ?_)
  have hB2 : Blk w1 b2 (.cells (hsl ⟨0, 0, 0, 0⟩).toArray 114) := hB2
  repeat (first|apply CG.seq|apply CG.region|apply SG.nil|apply NG.next|apply CG.skip|apply CG.block|apply CG.ret|apply CG.exit|apply NG.exit_then|refine NG.exit_block rfl ?_|apply NG.normal_block|refine SG.val rfl rfl rfl rfl (by first|((first|apply quad|apply quxo|apply quor|apply qush|apply qusr|apply qusb|apply qia0|apply qmv|apply qas|apply qlc|apply qla|apply qle)<;>(first|exact rfl|assumption|exact Ar.mk (by omega)|exact dct (by first|assumption|omega)|exact dcf (by first|assumption|omega)|exact List.not_mem_nil|exact nm1 (by omega)|fail))|fail) ?_)
  refine SG.val rfl rfl rfl rfl (vals_build rfl (fun w => bsr w _ _ _ _)) ?_
  refine SG.setAll (old := hsl ⟨0, 0, 0, 0⟩) (l := hsl (beginI z)) rfl rfl (by exact rho_of rfl) (by exact rho_of rfl) hB2 rfl rfl rfl (fun w2 hk2 hB3 => ?_)
  have hr : Row w2 b2 0 (hsl (beginI z)) := Row.all hB3 rfl
  repeat (first|apply CG.seq|apply CG.region|apply SG.nil|apply NG.next|apply CG.skip|apply CG.block|apply CG.ret|apply CG.exit|apply NG.exit_then|refine NG.exit_block rfl ?_|apply NG.normal_block|refine SG.val rfl rfl rfl rfl (by first|((first|apply quad|apply quxo|apply quor|apply qush|apply qusr|apply qusb|apply qia0|apply qmv|apply qas|apply qlc|apply qla|apply qle)<;>(first|exact rfl|assumption|exact Ar.mk (by omega)|exact dct (by first|assumption|omega)|exact dcf (by first|assumption|omega)|exact List.not_mem_nil|exact nm1 (by omega)|fail))|fail) ?_)
  refine ret1 (Or.inl rfl) Try.results74 (by first | exact ResV.tmp rfl | exact ResV.agg rfl rfl (by assumption) (by first | exact dc_length _ | exact nc_length _ | exact rc_length _ _ _ | exact ec_length _ | exact dl_length _ _ _ _ | rfl) | exact ResV.cell rfl rfl (by assumption)) ?_
  exact ⟨rfl, hk1.trans_new hk2 (new1 hb2)⟩
set_option maxHeartbeats 8000000 in
theorem rin_spec (s : Hs) (z : Int) (w : World) : Ret Try.prog 75 #[.agg (hsl s).toArray, .int .u64 z] w (.agg (hsl (takeI s z)).toArray) := by
  refine enter2 Try.func75 rfl Try.ntmps75 rfl ?_
  repeat (first|apply CG.seq|apply CG.region|apply SG.nil|apply NG.next|apply CG.skip|apply CG.block|apply CG.ret|apply CG.exit|apply NG.exit_then|refine NG.exit_block rfl ?_|apply NG.normal_block|refine SG.val rfl rfl rfl rfl (by first|((first|apply quad|apply quxo|apply quor|apply qush|apply qusr|apply qusb|apply qia0|apply qmv|apply qas|apply qlc|apply qla|apply qle)<;>(first|exact rfl|assumption|exact Ar.mk (by omega)|exact dct (by first|assumption|omega)|exact dcf (by first|assumption|omega)|exact List.not_mem_nil|exact nm1 (by omega)|fail))|fail) ?_)
  refine SG.box rfl rfl rfl (by exact rho_of rfl) (fun b1 w1 hk1 hb1 hB1 => ?_)
  have hB1 : Blk w1 b1 (.cells (hsl s).toArray 114) := hB1
  refine SG.alloc rfl rfl rfl (fun b2 w2 hk2 hb2 hB2 => ?_)
  have hB2 : Blk w2 b2 (.cells (hsl ⟨0, 0, 0, 0⟩).toArray 114) := hB2
  have l1 := hB1.lt
  have hB1 := hB1.kp0 hk2
  obtain ⟨r0, r1, r2, r3, _⟩ := hs_rows hB1
  repeat (first|apply CG.seq|apply CG.region|apply SG.nil|apply NG.next|apply CG.skip|apply CG.block|apply CG.ret|apply CG.exit|apply NG.exit_then|refine NG.exit_block rfl ?_|apply NG.normal_block|refine SG.val rfl rfl rfl rfl (by first|((first|apply quad|apply quxo|apply quor|apply qush|apply qusr|apply qusb|apply qia0|apply qmv|apply qas|apply qlc|apply qla|apply qle)<;>(first|exact rfl|assumption|exact Ar.mk (by omega)|exact dct (by first|assumption|omega)|exact dcf (by first|assumption|omega)|exact List.not_mem_nil|exact nm1 (by omega)|fail))|fail) ?_)
  refine SG.store rfl rfl (by exact rho_of rfl) (by exact rho_of rfl) hB1 rfl (by show 0 + 1 ≤ 4; omega) rfl (fun w3 hk3 hB => ?_)
  have hB : Blk w3 b1 (.cells (hsl ⟨xorI s.a z, s.b, s.c, s.d⟩).toArray 114) := hB
  have hr := Row.all hB rfl
  have hr : Row w3 b1 0 (hsl ⟨xorI s.a z, s.b, s.c, s.d⟩) := hr
  repeat (first|apply CG.seq|apply CG.region|apply SG.nil|apply NG.next|apply CG.skip|apply CG.block|apply CG.ret|apply CG.exit|apply NG.exit_then|refine NG.exit_block rfl ?_|apply NG.normal_block|refine SG.val rfl rfl rfl rfl (by first|((first|apply quad|apply quxo|apply quor|apply qush|apply qusr|apply qusb|apply qia0|apply qmv|apply qas|apply qlc|apply qla|apply qle)<;>(first|exact rfl|assumption|exact Ar.mk (by omega)|exact dct (by first|assumption|omega)|exact dcf (by first|assumption|omega)|exact List.not_mem_nil|exact nm1 (by omega)|fail))|fail) ?_)
  refine SG.ret rfl rfl rfl (by repeat' (first | exact True.intro | exact rho_of rfl | refine And.intro ?_ ?_)) (rstir_spec _ w3) (fun w4 hk4 => ?_)
  refine SG.setAll (old := hsl ⟨0, 0, 0, 0⟩) (l := hsl (takeI s z)) rfl rfl (by exact rho_of rfl) (by exact rho_of rfl) ((hB2.kp hk3 (nm1 (by omega))).kp0 hk4) rfl rfl rfl (fun w5 hk5 hB5 => ?_)
  have hr5 : Row w5 b2 0 (hsl (takeI s z)) := Row.all hB5 rfl
  have s1 := hk1.size
  have s2 := hk2.size
  repeat (first|apply CG.seq|apply CG.region|apply SG.nil|apply NG.next|apply CG.skip|apply CG.block|apply CG.ret|apply CG.exit|apply NG.exit_then|refine NG.exit_block rfl ?_|apply NG.normal_block|refine SG.val rfl rfl rfl rfl (by first|((first|apply quad|apply quxo|apply quor|apply qush|apply qusr|apply qusb|apply qia0|apply qmv|apply qas|apply qlc|apply qla|apply qle)<;>(first|exact rfl|assumption|exact Ar.mk (by omega)|exact dct (by first|assumption|omega)|exact dcf (by first|assumption|omega)|exact List.not_mem_nil|exact nm1 (by omega)|fail))|fail) ?_)
  refine ret1 (Or.inl rfl) Try.results75 (by first | exact ResV.tmp rfl | exact ResV.agg rfl rfl (by assumption) (by first | exact dc_length _ | exact nc_length _ | exact rc_length _ _ _ | exact ec_length _ | exact dl_length _ _ _ _ | rfl) | exact ResV.cell rfl rfl (by assumption)) ?_
  exact ⟨rfl, (((hk1.trans hk2).trans_new hk3 (new1 (by omega))).trans hk4).trans_new hk5 (new1 (by omega))⟩
end Go.Proofs.Ytnoipmimddoioaa
/-
  The document's digest of a number.
-/
namespace Go.Proofs.Ytnoipmimddoioaa
open Go.Proofs
set_option linter.unusedVariables false
attribute [local irreducible] CG NG SG Vals Der Row Blk MapIs IterAt addI xorI orI andI shlI shrI mulI
theorem frm_step {n i : Nat} : UInt8.ofNat (n / 2 ^ (8 * i)) = toB (((n / 2 ^ (8 * i) : Nat) : Int) % 256) := by
  unfold toB
  have e : ((n / 2 ^ (8 * i) : Nat) : Int) % 256 % 256 = ((n / 2 ^ (8 * i) % 256 : Nat) : Int) := by omega
  rw [e, Int.toNat_natCast]
  apply UInt8.toNat_inj.1
  rw [UInt8.toNat_ofNat', UInt8.toNat_ofNat']
  omega
set_option maxHeartbeats 8000000 in
theorem rfrom_spec (n : Nat) (hn : n < 18446744073709551616) (w : World) : Ret Try.prog 100 #[.int .u64 (n : Int)] w (dv (frm n)) := by
  refine enter1 Try.func100 rfl Try.ntmps100 rfl ?_
  repeat (first|apply CG.seq|apply CG.region|apply SG.nil|apply NG.next|apply CG.skip|apply CG.block|apply CG.ret|apply CG.exit|apply NG.exit_then|refine NG.exit_block rfl ?_|apply NG.normal_block|refine SG.val rfl rfl rfl rfl (by first|(apply q64b<;>(first|exact rfl|assumption|exact Ar.mk (by omega)|exact dct (by first|assumption|omega)|exact dcf (by first|assumption|omega)|exact List.not_mem_nil|apply dc_length|exact nm1 (by omega)|fail))|((first|apply qqu|apply qru|apply qia|apply qmv|apply qas|apply qla|apply qls|apply qad)<;>(first|exact rfl|assumption|exact Ar.mk (by omega)|exact dct (by first|assumption|omega)|exact dcf (by first|assumption|omega)|exact List.not_mem_nil|apply dc_length|exact nm1 (by omega)|fail))|fail) ?_)
  refine SG.alloc rfl rfl rfl (fun b2 w1 hk1 hb2 hB2 => ?_)
  repeat (first|apply CG.seq|apply CG.region|apply SG.nil|apply NG.next|apply CG.skip|apply CG.block|apply CG.ret|apply CG.exit|apply NG.exit_then|refine NG.exit_block rfl ?_|apply NG.normal_block|refine SG.val rfl rfl rfl rfl (by first|(apply q64b<;>(first|exact rfl|assumption|exact Ar.mk (by omega)|exact dct (by first|assumption|omega)|exact dcf (by first|assumption|omega)|exact List.not_mem_nil|apply dc_length|exact nm1 (by omega)|fail))|((first|apply qqu|apply qru|apply qia|apply qmv|apply qas|apply qla|apply qls|apply qad)<;>(first|exact rfl|assumption|exact Ar.mk (by omega)|exact dct (by first|assumption|omega)|exact dcf (by first|assumption|omega)|exact List.not_mem_nil|apply dc_length|exact nm1 (by omega)|fail))|fail) ?_)
  refine SG.val rfl rfl rfl rfl (vals_build rfl bz8) ?_
  refine SG.alloc rfl rfl rfl (fun b3 w2 hk2 hb3 hB3 => ?_)
  have hB2 : Blk w1 b2 (.cells (dc zd).toArray 23) := hB2
  have hB3 : Blk w2 b3 (.cells (dc zd).toArray 23) := hB3
  refine SG.setAll (old := dc zd) (l := dc zd) rfl rfl (by exact rho_of rfl) (by exact rho_of rfl) hB3 (dc_length _) (dc_length _) (dc_one _) (fun w2' hk2' hB3 => ?_)
  have hl2 := hB2.lt
  have s1 := hk1.size
  have s2 := hk2.size
  repeat (first|apply CG.seq|apply CG.region|apply SG.nil|apply NG.next|apply CG.skip|apply CG.block|apply CG.ret|apply CG.exit|apply NG.exit_then|refine NG.exit_block rfl ?_|apply NG.normal_block|refine SG.val rfl rfl rfl rfl (by first|(apply q64b<;>(first|exact rfl|assumption|exact Ar.mk (by omega)|exact dct (by first|assumption|omega)|exact dcf (by first|assumption|omega)|exact List.not_mem_nil|apply dc_length|exact nm1 (by omega)|fail))|((first|apply qqu|apply qru|apply qia|apply qmv|apply qas|apply qla|apply qls|apply qad)<;>(first|exact rfl|assumption|exact Ar.mk (by omega)|exact dct (by first|assumption|omega)|exact dcf (by first|assumption|omega)|exact List.not_mem_nil|apply dc_length|exact nm1 (by omega)|fail))|fail) ?_)
  refine CG.loop (X := Nat) (fun i => [(0, .int .u64 ((n / 2 ^ (8 * i) : Nat) : Int)), (2, .pointer (some ⟨b2, 0, none⟩)), (3, .pointer (some ⟨b3, 0, none⟩)), (4, .int .i64 (i : Int))])
    (fun i w' => i ≤ 8 ∧ Kp [b3] w2 w' ∧ Blk w' b3 (.cells (part n i).toArray 23)) (fun i => 8 - i) 0 ⟨by omega, hk2', hB3⟩ (by simp only [Nat.mul_zero, Nat.pow_zero, Nat.div_one]; (repeat' (first | exact True.intro | exact rfl | refine And.intro ?_ ?_))) ?_
  rintro i w3 ⟨hi, hk3, hB⟩
  by_cases hlt : i < 8
  · have g1 : (i : Int) < 8 := by omega
    have hb : Ar (0 ≤ ((n / 2 ^ (8 * i) : Nat) : Int) ∧ ((n / 2 ^ (8 * i) : Nat) : Int) < 18446744073709551616 ∧ (0 : Int) < 256) := ⟨by
      have h1 := Nat.div_le_self n (2 ^ (8 * i))
      generalize n / 2 ^ (8 * i) = q at h1 ⊢
      omega⟩
    have e2 : ((n / 2 ^ (8 * i) : Nat) : Int) / 256 = ((n / 2 ^ (8 * (i + 1)) : Nat) : Int) := by
      have : (2 : Nat) ^ (8 * (i + 1)) = 2 ^ (8 * i) * 256 := by rw [Nat.mul_add, Nat.pow_add]
      rw [this, ← Nat.div_div_eq_div_mul]
      omega
    have e3 := frm_step (n := n) (i := i)
    generalize hm : n / 2 ^ (8 * i) = m at hb e2 e3 ⊢
    repeat (first|apply CG.seq|apply CG.region|apply SG.nil|apply NG.next|apply CG.skip|apply CG.block|apply CG.ret|apply CG.exit|apply NG.exit_then|refine NG.exit_block rfl ?_|apply NG.normal_block|refine SG.val rfl rfl rfl rfl (by first|(apply q64b<;>(first|exact rfl|assumption|exact Ar.mk (by omega)|exact dct (by first|assumption|omega)|exact dcf (by first|assumption|omega)|exact List.not_mem_nil|apply dc_length|exact nm1 (by omega)|fail))|((first|apply qqu|apply qru|apply qia|apply qmv|apply qas|apply qla|apply qls|apply qad)<;>(first|exact rfl|assumption|exact Ar.mk (by omega)|exact dct (by first|assumption|omega)|exact dcf (by first|assumption|omega)|exact List.not_mem_nil|apply dc_length|exact nm1 (by omega)|fail))|fail) ?_)
    refine CG.cond_t rfl (by exact rho_of rfl) rfl ?_
    repeat (first|apply CG.seq|apply CG.region|apply SG.nil|apply NG.next|apply CG.skip|apply CG.block|apply CG.ret|apply CG.exit|apply NG.exit_then|refine NG.exit_block rfl ?_|apply NG.normal_block|refine SG.val rfl rfl rfl rfl (by first|(apply q64b<;>(first|exact rfl|assumption|exact Ar.mk (by omega)|exact dct (by first|assumption|omega)|exact dcf (by first|assumption|omega)|exact List.not_mem_nil|apply dc_length|exact nm1 (by omega)|fail))|((first|apply qqu|apply qru|apply qia|apply qmv|apply qas|apply qla|apply qls|apply qad)<;>(first|exact rfl|assumption|exact Ar.mk (by omega)|exact dct (by first|assumption|omega)|exact dcf (by first|assumption|omega)|exact List.not_mem_nil|apply dc_length|exact nm1 (by omega)|fail))|fail) ?_)
    rw [← e3]
    refine SG.store rfl rfl (by exact rho_of rfl) (by exact rho_of rfl) hB rfl (by show 0 + i * 1 + 1 ≤ (part n i).toArray.size; simp [part_length hi]; omega) rfl (fun w4 hk4 hB4 => ?_)
    have hB4 : Blk w4 b3 (.cells (spl (part n i) (0 + i * 1) [bv (UInt8.ofNat m)]).toArray 23) := hB4
    repeat (first|apply CG.seq|apply CG.region|apply SG.nil|apply NG.next|apply CG.skip|apply CG.block|apply CG.ret|apply CG.exit|apply NG.exit_then|refine NG.exit_block rfl ?_|apply NG.normal_block|refine SG.val rfl rfl rfl rfl (by first|(apply q64b<;>(first|exact rfl|assumption|exact Ar.mk (by omega)|exact dct (by first|assumption|omega)|exact dcf (by first|assumption|omega)|exact List.not_mem_nil|apply dc_length|exact nm1 (by omega)|fail))|((first|apply qqu|apply qru|apply qia|apply qmv|apply qas|apply qla|apply qls|apply qad)<;>(first|exact rfl|assumption|exact Ar.mk (by omega)|exact dct (by first|assumption|omega)|exact dcf (by first|assumption|omega)|exact List.not_mem_nil|apply dc_length|exact nm1 (by omega)|fail))|fail) ?_)
    rw [e2]
    refine NG.round (i + 1) (by (repeat' (first | exact True.intro | exact rfl | refine And.intro ?_ ?_))) ⟨by omega, hk3.trans hk4, ?_⟩ (by omega)
    rw [← hm, show 0 + i * 1 = i from by omega, part_step hlt] at hB4
    exact hB4
  · have g1 : ¬ (i : Int) < 8 := by omega
    have e8 : i = 8 := by omega
    subst e8
    rw [part_all] at hB
    have hr : Row w3 b3 0 (dc (frm n)) := Row.all hB rfl
    repeat (first|apply CG.seq|apply CG.region|apply SG.nil|apply NG.next|apply CG.skip|apply CG.block|apply CG.ret|apply CG.exit|apply NG.exit_then|refine NG.exit_block rfl ?_|apply NG.normal_block|refine SG.val rfl rfl rfl rfl (by first|(apply q64b<;>(first|exact rfl|assumption|exact Ar.mk (by omega)|exact dct (by first|assumption|omega)|exact dcf (by first|assumption|omega)|exact List.not_mem_nil|apply dc_length|exact nm1 (by omega)|fail))|((first|apply qqu|apply qru|apply qia|apply qmv|apply qas|apply qla|apply qls|apply qad)<;>(first|exact rfl|assumption|exact Ar.mk (by omega)|exact dct (by first|assumption|omega)|exact dcf (by first|assumption|omega)|exact List.not_mem_nil|apply dc_length|exact nm1 (by omega)|fail))|fail) ?_)
    refine CG.cond_f rfl (by exact rho_of rfl) rfl ?_
    repeat (first|apply CG.seq|apply CG.region|apply SG.nil|apply NG.next|apply CG.skip|apply CG.block|apply CG.ret|apply CG.exit|apply NG.exit_then|refine NG.exit_block rfl ?_|apply NG.normal_block|refine SG.val rfl rfl rfl rfl (by first|(apply q64b<;>(first|exact rfl|assumption|exact Ar.mk (by omega)|exact dct (by first|assumption|omega)|exact dcf (by first|assumption|omega)|exact List.not_mem_nil|apply dc_length|exact nm1 (by omega)|fail))|((first|apply qqu|apply qru|apply qia|apply qmv|apply qas|apply qla|apply qls|apply qad)<;>(first|exact rfl|assumption|exact Ar.mk (by omega)|exact dct (by first|assumption|omega)|exact dcf (by first|assumption|omega)|exact List.not_mem_nil|apply dc_length|exact nm1 (by omega)|fail))|fail) ?_)
    refine SG.setAll (old := dc zd) (l := dc (frm n)) rfl rfl (by exact rho_of rfl) (by exact rho_of rfl) ((hB2.kp0 hk2).kp hk3 (nm1 (by omega))) (dc_length _) (dc_length _) (dc_one _) (fun w4 hk4 hB4 => ?_)
    have hr4 : Row w4 b2 0 (dc (frm n)) := Row.all hB4 rfl
    repeat (first|apply CG.seq|apply CG.region|apply SG.nil|apply NG.next|apply CG.skip|apply CG.block|apply CG.ret|apply CG.exit|apply NG.exit_then|refine NG.exit_block rfl ?_|apply NG.normal_block|refine SG.val rfl rfl rfl rfl (by first|(apply q64b<;>(first|exact rfl|assumption|exact Ar.mk (by omega)|exact dct (by first|assumption|omega)|exact dcf (by first|assumption|omega)|exact List.not_mem_nil|apply dc_length|exact nm1 (by omega)|fail))|((first|apply qqu|apply qru|apply qia|apply qmv|apply qas|apply qla|apply qls|apply qad)<;>(first|exact rfl|assumption|exact Ar.mk (by omega)|exact dct (by first|assumption|omega)|exact dcf (by first|assumption|omega)|exact List.not_mem_nil|apply dc_length|exact nm1 (by omega)|fail))|fail) ?_)
    refine ret1 (Or.inl rfl) Try.results100 (by first | exact ResV.tmp rfl | exact ResV.agg rfl rfl (by assumption) (by first | exact dc_length _ | exact nc_length _ | exact rc_length _ _ _ | exact ec_length _ | exact dl_length _ _ _ _ | rfl) | exact ResV.cell rfl rfl (by assumption)) ?_
    exact ⟨rfl, ((hk1.trans hk2).trans_new hk3 (new1 (by omega))).trans_new hk4 (new1 hb2)⟩
end Go.Proofs.Ytnoipmimddoioaa
/-
  The document's digests: a digest's number, what a state gives, bytes taken in.
-/
namespace Go.Proofs.Ytnoipmimddoioaa
open Go.Proofs
set_option linter.unusedVariables false

theorem row_at {w : World} {b off i : Nat} {l : List Value} {v : Value} (h : Row w b off l) (hv : l[i]? = some v) : Row w b (off + i * 1) [v] := by
  obtain ⟨cs, T, f, h1, h2⟩ := h
  refine ⟨cs, T, f, h1, fun j u hj => ?_⟩
  cases j with
  | zero =>
    simp at hj
    subst hj
    rw [show off + i * 1 + 0 = off + i from by omega]
    exact h2 i v hv
  | succ j => simp at hj
attribute [local irreducible] CG NG SG Vals Der Row Blk MapIs IterAt addI xorI orI andI shlI shrI mulI
set_option maxHeartbeats 8000000 in
theorem rnum_spec (d : Dg) (w : World) : Ret Try.prog 45 #[dv d] w (.int .u64 (num d : Int)) := by
  refine enter1 Try.func45 rfl Try.ntmps45 rfl ?_
  repeat (first|apply CG.seq|apply CG.region|apply SG.nil|apply NG.next|apply CG.skip|apply CG.block|apply CG.ret|apply CG.exit|apply NG.exit_then|refine NG.exit_block rfl ?_|apply NG.normal_block|refine SG.val rfl rfl rfl rfl (by first|(apply qb64<;>(first|exact rfl|assumption|exact Ar.mk (by omega)|exact dct (by first|assumption|omega)|exact dcf (by first|assumption|omega)|exact List.not_mem_nil|apply dc_length|fail))|((first|apply quad|apply quml|apply quxo|apply qia0|apply qia|apply qmv|apply qas|apply qlc|apply qge|apply qsb)<;>(first|exact rfl|assumption|exact Ar.mk (by omega)|exact dct (by first|assumption|omega)|exact dcf (by first|assumption|omega)|exact List.not_mem_nil|apply dc_length|fail))|fail) ?_)
  refine SG.box rfl rfl rfl (by exact rho_of rfl) (fun b1 w1 hk1 hb1 hB1 => ?_)
  have hB1 : Blk w1 b1 (.cells (dc d).toArray 23) := hB1
  have hr := Row.all hB1 (l := dc d) rfl
  repeat (first|apply CG.seq|apply CG.region|apply SG.nil|apply NG.next|apply CG.skip|apply CG.block|apply CG.ret|apply CG.exit|apply NG.exit_then|refine NG.exit_block rfl ?_|apply NG.normal_block|refine SG.val rfl rfl rfl rfl (by first|(apply qb64<;>(first|exact rfl|assumption|exact Ar.mk (by omega)|exact dct (by first|assumption|omega)|exact dcf (by first|assumption|omega)|exact List.not_mem_nil|apply dc_length|fail))|((first|apply quad|apply quml|apply quxo|apply qia0|apply qia|apply qmv|apply qas|apply qlc|apply qge|apply qsb)<;>(first|exact rfl|assumption|exact Ar.mk (by omega)|exact dct (by first|assumption|omega)|exact dcf (by first|assumption|omega)|exact List.not_mem_nil|apply dc_length|fail))|fail) ?_)
  have h8 : val (d.1.drop 8) = 0 := by rw [List.drop_of_length_le (by rw [d.2]; omega)]; rfl
  refine CG.loop (X := Nat) (fun j => [(1, .pointer (some ⟨b1, 0, none⟩)), (3, .int .u64 (val (d.1.drop j) : Int)), (4, .int .i64 ((j : Int) - 1))])
    (fun j w' => j ≤ 8 ∧ w' = w1) (fun j => j) 8 ⟨by omega, rfl⟩ (by rw [h8]; (repeat' (first | exact True.intro | exact rfl | refine And.intro ?_ ?_))) ?_
  rintro j w2 ⟨hj, rfl⟩
  cases j with
  | zero =>
    have g1 : ¬ (0 : Int) ≤ ((0 : Nat) : Int) - 1 := by omega
    have e0 : val (d.1.drop 0) = num d := rfl
    rw [e0]
    generalize ((0 : Nat) : Int) - 1 = m at g1 ⊢
    repeat (first|apply CG.seq|apply CG.region|apply SG.nil|apply NG.next|apply CG.skip|apply CG.block|apply CG.ret|apply CG.exit|apply NG.exit_then|refine NG.exit_block rfl ?_|apply NG.normal_block|refine SG.val rfl rfl rfl rfl (by first|(apply qb64<;>(first|exact rfl|assumption|exact Ar.mk (by omega)|exact dct (by first|assumption|omega)|exact dcf (by first|assumption|omega)|exact List.not_mem_nil|apply dc_length|fail))|((first|apply quad|apply quml|apply quxo|apply qia0|apply qia|apply qmv|apply qas|apply qlc|apply qge|apply qsb)<;>(first|exact rfl|assumption|exact Ar.mk (by omega)|exact dct (by first|assumption|omega)|exact dcf (by first|assumption|omega)|exact List.not_mem_nil|apply dc_length|fail))|fail) ?_)
    refine CG.cond_f rfl (by exact rho_of rfl) rfl ?_
    repeat (first|apply CG.seq|apply CG.region|apply SG.nil|apply NG.next|apply CG.skip|apply CG.block|apply CG.ret|apply CG.exit|apply NG.exit_then|refine NG.exit_block rfl ?_|apply NG.normal_block|refine SG.val rfl rfl rfl rfl (by first|(apply qb64<;>(first|exact rfl|assumption|exact Ar.mk (by omega)|exact dct (by first|assumption|omega)|exact dcf (by first|assumption|omega)|exact List.not_mem_nil|apply dc_length|fail))|((first|apply quad|apply quml|apply quxo|apply qia0|apply qia|apply qmv|apply qas|apply qlc|apply qge|apply qsb)<;>(first|exact rfl|assumption|exact Ar.mk (by omega)|exact dct (by first|assumption|omega)|exact dcf (by first|assumption|omega)|exact List.not_mem_nil|apply dc_length|fail))|fail) ?_)
    refine ret1 (Or.inl rfl) Try.results45 (by first | exact ResV.tmp rfl | exact ResV.agg rfl rfl (by assumption) (by first | exact dc_length _ | exact nc_length _ | exact rc_length _ _ _ | exact ec_length _ | exact dl_length _ _ _ _ | rfl) | exact ResV.cell rfl rfl (by assumption)) ?_
    exact ⟨rfl, hk1⟩
  | succ k =>
    have hk8 : k < d.1.length := by rw [d.2]; omega
    have ek : ((k + 1 : Nat) : Int) - 1 = (k : Int) := by omega
    have g1 : (0 : Int) ≤ (k : Int) := by omega
    have hv := val_drop (l := d.1) (i := k) hk8
    have hlt : val (d.1.drop (k + 1)) * 256 + d.1[k].toNat < 18446744073709551616 := by
      rw [← hv]
      have h1 := val_lt (d.1.drop k)
      have h2 : (256 : Nat) ^ (d.1.drop k).length ≤ 256 ^ 8 := Nat.pow_le_pow_right (by omega) (by rw [List.length_drop, d.2]; omega)
      have h3 : (256 : Nat) ^ 8 = 18446744073709551616 := rfl
      rw [← h3]
      exact Nat.lt_of_lt_of_le h1 h2
    have e1 := addmul_nat hlt
    rw [← hv] at e1
    clear hlt
    have hrk := row_at hr (i := k) (v := bv d.1[k]) (by simp [dc, hk8])
    rw [ek]
    repeat (first|apply CG.seq|apply CG.region|apply SG.nil|apply NG.next|apply CG.skip|apply CG.block|apply CG.ret|apply CG.exit|apply NG.exit_then|refine NG.exit_block rfl ?_|apply NG.normal_block|refine SG.val rfl rfl rfl rfl (by first|(apply qb64<;>(first|exact rfl|assumption|exact Ar.mk (by omega)|exact dct (by first|assumption|omega)|exact dcf (by first|assumption|omega)|exact List.not_mem_nil|apply dc_length|fail))|((first|apply quad|apply quml|apply quxo|apply qia0|apply qia|apply qmv|apply qas|apply qlc|apply qge|apply qsb)<;>(first|exact rfl|assumption|exact Ar.mk (by omega)|exact dct (by first|assumption|omega)|exact dcf (by first|assumption|omega)|exact List.not_mem_nil|apply dc_length|fail))|fail) ?_)
    refine CG.cond_t rfl (by exact rho_of rfl) rfl ?_
    repeat (first|apply CG.seq|apply CG.region|apply SG.nil|apply NG.next|apply CG.skip|apply CG.block|apply CG.ret|apply CG.exit|apply NG.exit_then|refine NG.exit_block rfl ?_|apply NG.normal_block|refine SG.val rfl rfl rfl rfl (by first|(apply qb64<;>(first|exact rfl|assumption|exact Ar.mk (by omega)|exact dct (by first|assumption|omega)|exact dcf (by first|assumption|omega)|exact List.not_mem_nil|apply dc_length|fail))|((first|apply quad|apply quml|apply quxo|apply qia0|apply qia|apply qmv|apply qas|apply qlc|apply qge|apply qsb)<;>(first|exact rfl|assumption|exact Ar.mk (by omega)|exact dct (by first|assumption|omega)|exact dcf (by first|assumption|omega)|exact List.not_mem_nil|apply dc_length|fail))|fail) ?_)
    rw [e1]
    refine NG.round k (by (repeat' (first | exact True.intro | exact rfl | refine And.intro ?_ ?_))) ⟨by omega, rfl⟩ (by omega)
set_option maxHeartbeats 8000000 in
theorem rout_spec (s : Hs) (w : World) : Ret Try.prog 76 #[.agg (hsl s).toArray] w (dv (givesI s)) := by
  refine enter1 Try.func76 rfl Try.ntmps76 rfl ?_
  obtain ⟨n, hn, hn2⟩ := xorI_nat s.a s.c
  have hg : givesI s = frm n := by unfold givesI; rw [hn]; rfl
  rw [hg]
  have hspec := fun w => rfrom_spec n hn2 w
  clear hn2 hg
  repeat (first|apply CG.seq|apply CG.region|apply SG.nil|apply NG.next|apply CG.skip|apply CG.block|apply CG.ret|apply CG.exit|apply NG.exit_then|refine NG.exit_block rfl ?_|apply NG.normal_block|refine SG.val rfl rfl rfl rfl (by first|(apply qb64<;>(first|exact rfl|assumption|exact Ar.mk (by omega)|exact dct (by first|assumption|omega)|exact dcf (by first|assumption|omega)|exact List.not_mem_nil|apply dc_length|fail))|((first|apply quad|apply quml|apply quxo|apply qia0|apply qia|apply qmv|apply qas|apply qlc|apply qge|apply qsb)<;>(first|exact rfl|assumption|exact Ar.mk (by omega)|exact dct (by first|assumption|omega)|exact dcf (by first|assumption|omega)|exact List.not_mem_nil|apply dc_length|fail))|fail) ?_)
  refine SG.box rfl rfl rfl (by exact rho_of rfl) (fun b1 w1 hk1 hb1 hB1 => ?_)
  have hB1 : Blk w1 b1 (.cells (hsl s).toArray 114) := hB1
  refine SG.alloc rfl rfl rfl (fun b2 w2 hk2 hb2 hB2 => ?_)
  have hB2 : Blk w2 b2 (.cells (dc zd).toArray 23) := hB2
  obtain ⟨r0, r1, r2, r3, _⟩ := hs_rows (hB1.kp0 hk2)
  repeat (first|apply CG.seq|apply CG.region|apply SG.nil|apply NG.next|apply CG.skip|apply CG.block|apply CG.ret|apply CG.exit|apply NG.exit_then|refine NG.exit_block rfl ?_|apply NG.normal_block|refine SG.val rfl rfl rfl rfl (by first|(apply qb64<;>(first|exact rfl|assumption|exact Ar.mk (by omega)|exact dct (by first|assumption|omega)|exact dcf (by first|assumption|omega)|exact List.not_mem_nil|apply dc_length|fail))|((first|apply quad|apply quml|apply quxo|apply qia0|apply qia|apply qmv|apply qas|apply qlc|apply qge|apply qsb)<;>(first|exact rfl|assumption|exact Ar.mk (by omega)|exact dct (by first|assumption|omega)|exact dcf (by first|assumption|omega)|exact List.not_mem_nil|apply dc_length|fail))|fail) ?_)
  rw [hn]
  refine SG.ret rfl rfl rfl (by repeat' (first | exact True.intro | exact rho_of rfl | refine And.intro ?_ ?_)) (hspec w2) (fun w3 hk3 => ?_)
  refine SG.setAll (old := dc zd) (l := dc (frm n)) rfl rfl (by exact rho_of rfl) (by exact rho_of rfl) (hB2.kp0 hk3) (dc_length _) (dc_length _) (dc_one _) (fun w4 hk4 hB4 => ?_)
  have hr4 : Row w4 b2 0 (dc (frm n)) := Row.all hB4 rfl
  have s1 := hk1.size
  repeat (first|apply CG.seq|apply CG.region|apply SG.nil|apply NG.next|apply CG.skip|apply CG.block|apply CG.ret|apply CG.exit|apply NG.exit_then|refine NG.exit_block rfl ?_|apply NG.normal_block|refine SG.val rfl rfl rfl rfl (by first|(apply qb64<;>(first|exact rfl|assumption|exact Ar.mk (by omega)|exact dct (by first|assumption|omega)|exact dcf (by first|assumption|omega)|exact List.not_mem_nil|apply dc_length|fail))|((first|apply quad|apply quml|apply quxo|apply qia0|apply qia|apply qmv|apply qas|apply qlc|apply qge|apply qsb)<;>(first|exact rfl|assumption|exact Ar.mk (by omega)|exact dct (by first|assumption|omega)|exact dcf (by first|assumption|omega)|exact List.not_mem_nil|apply dc_length|fail))|fail) ?_)
  refine ret1 (Or.inl rfl) Try.results76 (by first | exact ResV.tmp rfl | exact ResV.agg rfl rfl (by assumption) (by first | exact dc_length _ | exact nc_length _ | exact rc_length _ _ _ | exact ec_length _ | exact dl_length _ _ _ _ | rfl) | exact ResV.cell rfl rfl (by assumption)) ?_
  exact ⟨rfl, ((hk1.trans hk2).trans hk3).trans_new hk4 (new1 (by omega))⟩

/-! ### bytes taken in -/
def padAll (l : List UInt8) : List UInt8 := l ++ 1 :: List.replicate (7 - l.length % 8) 0
theorem padAll_length (l : List UInt8) : (padAll l).length = (l.length / 8 + 1) * 8 := by simp [padAll]; omega
theorem eights_prefix (r : List UInt8) : ∀ (k : Nat) (s : Hs) (l : List UInt8), k * 8 ≤ l.length → eightsI s (l ++ r) k = eightsI s l k
  | 0, _, _, _ => rfl
  | k + 1, s, l, h => by
    have h8 : 8 ≤ l.length := by omega
    rw [eightsI, eightsI, List.take_append_of_le_length h8, List.drop_append_of_le_length h8]
    exact eights_prefix r k _ _ (by rw [List.length_drop]; omega)
theorem eights_pad (s : Hs) (l : List UInt8) : eightsI s (padAll l) (l.length / 8 + 1) = takeI (eightsI s l (l.length / 8)) (val (l.drop (l.length / 8 * 8) ++ [1]) : Int) := by
  rw [eights_step]
  have e1 : eightsI s (padAll l) (l.length / 8) = eightsI s l (l.length / 8) := eights_prefix _ _ _ _ (by omega)
  have e2 : (padAll l).drop (l.length / 8 * 8) = padL (l.drop (l.length / 8 * 8)) := by
    unfold padAll padL
    rw [List.drop_append_of_le_length (by omega), List.length_drop, show l.length - l.length / 8 * 8 = l.length % 8 from by omega]
  have e3 : (l.drop (l.length / 8 * 8)).length < 8 := by rw [List.length_drop]; omega
  rw [e1, e2, List.take_of_length_le (by rw [pad_length e3]; omega), pad_val]
def fillp (r : List UInt8) (k : Nat) : List Value := (r.take k).map bv ++ List.replicate (8 - k) (bv 0)
theorem fillp_length {r : List UInt8} {k : Nat} (h : r.length = 8) (hk : k ≤ 8) : (fillp r k).length = 8 := by simp [fillp]; omega
theorem fillp_zero (r : List UInt8) : fillp r 0 = dc zd := rfl
theorem fillp_all {r : List UInt8} (h : r.length = 8) : fillp r 8 = dc (⟨r, h⟩ : Dg) := by simp [fillp, dc, List.take_of_length_le (Nat.le_of_eq h)]
theorem fillp_step {r : List UInt8} {k : Nat} (hr : r.length = 8) (h : k < 8) : spl (fillp r k) k [bv (r[k]'(by omega))] = fillp r (k + 1) := by
  have hrp : List.replicate (8 - k) (bv 0) = [bv 0] ++ List.replicate (8 - (k + 1)) (bv 0) := by
    rw [show 8 - k = (8 - (k + 1)) + 1 from by omega, List.replicate_succ]
    rfl
  have := spl_mid (pre := (r.take k).map bv) (old := [bv 0]) (post := List.replicate (8 - (k + 1)) (bv 0)) (l := [bv (r[k]'(by omega))]) rfl
  rw [← hrp] at this
  simp only [List.length_map, List.length_take, Nat.min_eq_left (show k ≤ r.length by omega)] at this
  unfold fillp
  rw [this, show r.take (k + 1) = r.take k ++ [r[k]'(by omega)] from List.take_succ_eq_append_getElem (by omega), List.map_append, List.append_assoc]
  rfl
theorem bs0 (w : World) : (Instr.buildSlice 58 0 #[]).run Try.prog w = .ok (.slice (some ⟨w.heap.size, 0, none⟩) 0 0) { w with heap := w.heap.push (.cells #[] 5) } := by kernel_rfl
end Go.Proofs.Ytnoipmimddoioaa
/-
  The document's digests of bytes.
-/
namespace Go.Proofs.Ytnoipmimddoioaa
open Go.Proofs
set_option linter.unusedVariables false

/-- What stands behind the bytes after k zeros. -/
def padK (l : List UInt8) (k : Nat) : List UInt8 := l ++ 1 :: List.replicate k 0
theorem padK_length (l : List UInt8) (k : Nat) : (padK l k).length = l.length + 1 + k := by simp [padK]; omega
theorem padK_step (l : List UInt8) (k : Nat) : padK l k ++ [0] = padK l (k + 1) := by
  unfold padK
  rw [List.append_assoc, List.cons_append, ← List.replicate_succ']
attribute [local irreducible] CG NG SG Vals Der Row Blk MapIs IterAt addI xorI orI andI shlI shrI mulI
set_option maxHeartbeats 16000000 in
theorem rbytes_spec {w : World} {s : Hs} {a : Option Addr} {c : Nat} {l : List UInt8} (hS : Sl by1 1 w a l) (hl : l.length ≤ 100000000) :
    Ret Try.prog 81 #[.agg (hsl s).toArray, .slice a l.length c] w (.agg (hsl (bytesI s l)).toArray) := by
  refine enter2 Try.func81 rfl Try.ntmps81 rfl ?_
  repeat (first|apply CG.seq|apply CG.region|apply SG.nil|apply NG.next|apply CG.skip|apply CG.block|apply CG.ret|apply CG.exit|apply NG.exit_then|refine NG.exit_block rfl ?_|apply NG.normal_block|refine SG.val rfl rfl rfl rfl (by first|(apply qi64<;>(first|exact rfl|assumption|exact Ar.mk (by omega)|exact dct (by first|assumption|omega)|exact dcf (by first|assumption|omega)|exact List.not_mem_nil|apply dc_length|exact nm1 (by omega)|fail))|((first|apply qri|apply qia|apply qmv|apply qas|apply qlc|apply qla|apply qix|apply qls|apply qni|apply qad|apply qln)<;>(first|exact rfl|assumption|exact Ar.mk (by omega)|exact dct (by first|assumption|omega)|exact dcf (by first|assumption|omega)|exact List.not_mem_nil|apply dc_length|exact nm1 (by omega)|fail))|fail) ?_)
  refine SG.box rfl rfl rfl (by exact rho_of rfl) (fun b1 w1 hk1 hb1 hB1 => ?_)
  have hB1 : Blk w1 b1 (.cells (hsl s).toArray 114) := hB1
  refine SG.alloc rfl rfl rfl (fun b2 w2 hk2 hb2 hB2 => ?_)
  have hB2 : Blk w2 b2 (.cells (hsl ⟨0, 0, 0, 0⟩).toArray 114) := hB2
  have l1 := hB1.lt
  have l2 := hB2.lt
  have s1 := hk1.size
  have s2 := hk2.size
  have hB1 := hB1.kp0 hk2
  have k2 := hk1.trans hk2
  repeat (first|apply CG.seq|apply CG.region|apply SG.nil|apply NG.next|apply CG.skip|apply CG.block|apply CG.ret|apply CG.exit|apply NG.exit_then|refine NG.exit_block rfl ?_|apply NG.normal_block|refine SG.val rfl rfl rfl rfl (by first|(apply qi64<;>(first|exact rfl|assumption|exact Ar.mk (by omega)|exact dct (by first|assumption|omega)|exact dcf (by first|assumption|omega)|exact List.not_mem_nil|apply dc_length|exact nm1 (by omega)|fail))|((first|apply qri|apply qia|apply qmv|apply qas|apply qlc|apply qla|apply qix|apply qls|apply qni|apply qad|apply qln)<;>(first|exact rfl|assumption|exact Ar.mk (by omega)|exact dct (by first|assumption|omega)|exact dcf (by first|assumption|omega)|exact List.not_mem_nil|apply dc_length|exact nm1 (by omega)|fail))|fail) ?_)
  refine SG.buildSlice rfl rfl rfl rfl bs0 (fun b9 w3 hk3 hb9 hB9 => ?_)
  have ho0 : w3.ownsRow w2.heap.size 5 1 (.slice (some ⟨b9, 0, none⟩) 0 0) ([] : List UInt8).length (flt by1 []) := own_made by1_len hB9 hb9 rfl (by simp [maxLen])
  repeat (first|apply CG.seq|apply CG.region|apply SG.nil|apply NG.next|apply CG.skip|apply CG.block|apply CG.ret|apply CG.exit|apply NG.exit_then|refine NG.exit_block rfl ?_|apply NG.normal_block|refine SG.val rfl rfl rfl rfl (by first|(apply qi64<;>(first|exact rfl|assumption|exact Ar.mk (by omega)|exact dct (by first|assumption|omega)|exact dcf (by first|assumption|omega)|exact List.not_mem_nil|apply dc_length|exact nm1 (by omega)|fail))|((first|apply qri|apply qia|apply qmv|apply qas|apply qlc|apply qla|apply qix|apply qls|apply qni|apply qad|apply qln)<;>(first|exact rfl|assumption|exact Ar.mk (by omega)|exact dct (by first|assumption|omega)|exact dcf (by first|assumption|omega)|exact List.not_mem_nil|apply dc_length|exact nm1 (by omega)|fail))|fail) ?_)
  refine SG.appO (enc := by1) (xs := []) (ys := l) (base := w2.heap.size) rfl rfl rfl (by exact rho_of rfl) (by exact rho_of rfl) rfl rfl rfl rfl by1_len by1_one ho0 ((hS.kp0 k2).kp0 hk3) (by simp only [maxLen, List.length_nil]; omega) (by show (0 + l.length) * 1 ≤ _; omega) hk3.size (fun v4 w4 hk4 ho4 _ => ?_)
  have k4 : Kp [] w2 w4 := hk3.trans_new hk4 (own_new ho0 (Nat.le_refl _))
  rw [List.nil_append] at ho4
  refine SG.buildSlice rfl rfl rfl rfl (bs1 1) (fun b5 w5 hk5 hb5 hB5 => ?_)
  have hS5 : Sl by1 1 w5 (some ⟨b5, 0, none⟩) [(1 : UInt8)] := Sl.of_blk (pre := []) (post := []) by1_len (l := [1]) (T := 5) hB5
  refine SG.appO (enc := by1) (xs := l) (ys := [1]) (base := w2.heap.size) rfl rfl rfl (by exact rho_of rfl) (by exact rho_of rfl) rfl rfl rfl rfl by1_len by1_one (own_kp0 ho4 hk5) hS5 (by simp only [maxLen, List.length_cons, List.length_nil]; omega) (by show (l.length + 1) * 1 ≤ _; omega) (Nat.le_trans k4.size hk5.size) (fun v6 w6 hk6 ho6 _ => ?_)
  have k6 : Kp [] w2 w6 := (k4.trans hk5).trans_new hk6 (own_new (own_kp0 ho4 hk5) (Nat.le_refl _))
  have ho6 : w6.ownsRow w2.heap.size 5 1 v6 (padK l 0).length (flt by1 (padK l 0)) := ho6
  clear ho0 ho4 hS5 hB5 hB9
  repeat (first|apply CG.seq|apply CG.region|apply SG.nil|apply NG.next|apply CG.skip|apply CG.block|apply CG.ret|apply CG.exit|apply NG.exit_then|refine NG.exit_block rfl ?_|apply NG.normal_block|refine SG.val rfl rfl rfl rfl (by first|(apply qi64<;>(first|exact rfl|assumption|exact Ar.mk (by omega)|exact dct (by first|assumption|omega)|exact dcf (by first|assumption|omega)|exact List.not_mem_nil|apply dc_length|exact nm1 (by omega)|fail))|((first|apply qri|apply qia|apply qmv|apply qas|apply qlc|apply qla|apply qix|apply qls|apply qni|apply qad|apply qln)<;>(first|exact rfl|assumption|exact Ar.mk (by omega)|exact dct (by first|assumption|omega)|exact dcf (by first|assumption|omega)|exact List.not_mem_nil|apply dc_length|exact nm1 (by omega)|fail))|fail) ?_)
  refine CG.loop (X := Value × Nat) (fun x => [(1, .slice a l.length c), (2, .pointer (some ⟨b1, 0, none⟩)), (4, .pointer (some ⟨b2, 0, none⟩)), (5, x.1)])
    (fun x w' => x.2 ≤ 7 - l.length % 8 ∧ Kp [] w2 w' ∧ w'.ownsRow w2.heap.size 5 1 x.1 (padK l x.2).length (flt by1 (padK l x.2))) (fun x => 7 - l.length % 8 - x.2) (v6, 0) ⟨by simp only; omega, k6, ho6⟩ (by (repeat' (first | exact True.intro | exact rfl | refine And.intro ?_ ?_))) ?_
  rintro ⟨v7, k⟩ w7 ⟨hk, k7, ho7⟩
  simp only at hk ho7
  refine CG.to [(1, .slice a l.length c), (2, .pointer (some ⟨b1, 0, none⟩)), (4, .pointer (some ⟨b2, 0, none⟩)), (5, v7)] (by (repeat' (first | exact True.intro | exact rfl | refine And.intro ?_ ?_))) ?_
  clear ho6 k6
  have hpl := padK_length l k
  obtain ⟨a7, c7, rfl, hc7, hS7⟩ := Sl.own by1_len ho7 rfl
  by_cases hlt : k < 7 - l.length % 8
  · have g1 : ¬ ((padK l k).length : Int) % 8 = 0 := by omega
    repeat (first|apply CG.seq|apply CG.region|apply SG.nil|apply NG.next|apply CG.skip|apply CG.block|apply CG.ret|apply CG.exit|apply NG.exit_then|refine NG.exit_block rfl ?_|apply NG.normal_block|refine SG.val rfl rfl rfl rfl (by first|(apply qi64<;>(first|exact rfl|assumption|exact Ar.mk (by omega)|exact dct (by first|assumption|omega)|exact dcf (by first|assumption|omega)|exact List.not_mem_nil|apply dc_length|exact nm1 (by omega)|fail))|((first|apply qri|apply qia|apply qmv|apply qas|apply qlc|apply qla|apply qix|apply qls|apply qni|apply qad|apply qln)<;>(first|exact rfl|assumption|exact Ar.mk (by omega)|exact dct (by first|assumption|omega)|exact dcf (by first|assumption|omega)|exact List.not_mem_nil|apply dc_length|exact nm1 (by omega)|fail))|fail) ?_)
    refine CG.cond_t rfl (by exact rho_of rfl) rfl ?_
    repeat (first|apply CG.seq|apply CG.region|apply SG.nil|apply NG.next|apply CG.skip|apply CG.block|apply CG.ret|apply CG.exit|apply NG.exit_then|refine NG.exit_block rfl ?_|apply NG.normal_block|refine SG.val rfl rfl rfl rfl (by first|(apply qi64<;>(first|exact rfl|assumption|exact Ar.mk (by omega)|exact dct (by first|assumption|omega)|exact dcf (by first|assumption|omega)|exact List.not_mem_nil|apply dc_length|exact nm1 (by omega)|fail))|((first|apply qri|apply qia|apply qmv|apply qas|apply qlc|apply qla|apply qix|apply qls|apply qni|apply qad|apply qln)<;>(first|exact rfl|assumption|exact Ar.mk (by omega)|exact dct (by first|assumption|omega)|exact dcf (by first|assumption|omega)|exact List.not_mem_nil|apply dc_length|exact nm1 (by omega)|fail))|fail) ?_)
    refine SG.buildSlice rfl rfl rfl rfl (bs1 0) (fun b8 w8 hk8 hb8 hB8 => ?_)
    have hS8 : Sl by1 1 w8 (some ⟨b8, 0, none⟩) [(0 : UInt8)] := Sl.of_blk (pre := []) (post := []) by1_len (l := [0]) (T := 5) hB8
    refine SG.appO (enc := by1) (xs := padK l k) (ys := [0]) (base := w2.heap.size) rfl rfl rfl (by exact rho_of rfl) (by exact rho_of rfl) rfl rfl rfl rfl by1_len by1_one (own_kp0 ho7 hk8) hS8 (by simp only [maxLen, List.length_cons, List.length_nil]; omega) (by show ((padK l k).length + 1) * 1 ≤ _; omega) (Nat.le_trans k7.size hk8.size) (fun v9 w9 hk9 ho9 _ => ?_)
    rw [padK_step] at ho9
    repeat (first|apply CG.seq|apply CG.region|apply SG.nil|apply NG.next|apply CG.skip|apply CG.block|apply CG.ret|apply CG.exit|apply NG.exit_then|refine NG.exit_block rfl ?_|apply NG.normal_block|refine SG.val rfl rfl rfl rfl (by first|(apply qi64<;>(first|exact rfl|assumption|exact Ar.mk (by omega)|exact dct (by first|assumption|omega)|exact dcf (by first|assumption|omega)|exact List.not_mem_nil|apply dc_length|exact nm1 (by omega)|fail))|((first|apply qri|apply qia|apply qmv|apply qas|apply qlc|apply qla|apply qix|apply qls|apply qni|apply qad|apply qln)<;>(first|exact rfl|assumption|exact Ar.mk (by omega)|exact dct (by first|assumption|omega)|exact dcf (by first|assumption|omega)|exact List.not_mem_nil|apply dc_length|exact nm1 (by omega)|fail))|fail) ?_)
    refine NG.round (v9, k + 1) (by (repeat' (first | exact True.intro | exact rfl | refine And.intro ?_ ?_))) ⟨by simp only; omega, (k7.trans hk8).trans_new hk9 (own_new (own_kp0 ho7 hk8) (Nat.le_refl _)), ho9⟩ (by simp only; omega)
  · have ek : k = 7 - l.length % 8 := by omega
    have epad : padK l k = padAll l := by rw [ek]; rfl
    have g1 : ((padK l k).length : Int) % 8 = 0 := by omega
    rw [epad] at hS7 hpl g1 ho7 ⊢
    have hB17 := hB1.kp0 k7
    have hB27 := hB2.kp0 k7
    have hlen := padAll_length l
    generalize hM : l.length / 8 + 1 = M at hlen
    have hnew : ∀ b off, a7 = some ⟨b, off, none⟩ → w2.heap.size ≤ b := fun b off e => by
      rcases ho7.2 with ⟨h1, _⟩ | ⟨g, cap, cur, h1, h2, _⟩
      · simp only [Value.slice.injEq] at h1
        rw [h1.1] at e
        cases e
      · simp only [Value.slice.injEq] at h1
        rw [h1.1] at e
        cases e
        exact h2
    clear ho7
    repeat (first|apply CG.seq|apply CG.region|apply SG.nil|apply NG.next|apply CG.skip|apply CG.block|apply CG.ret|apply CG.exit|apply NG.exit_then|refine NG.exit_block rfl ?_|apply NG.normal_block|refine SG.val rfl rfl rfl rfl (by first|(apply qi64<;>(first|exact rfl|assumption|exact Ar.mk (by omega)|exact dct (by first|assumption|omega)|exact dcf (by first|assumption|omega)|exact List.not_mem_nil|apply dc_length|exact nm1 (by omega)|fail))|((first|apply qri|apply qia|apply qmv|apply qas|apply qlc|apply qla|apply qix|apply qls|apply qni|apply qad|apply qln)<;>(first|exact rfl|assumption|exact Ar.mk (by omega)|exact dct (by first|assumption|omega)|exact dcf (by first|assumption|omega)|exact List.not_mem_nil|apply dc_length|exact nm1 (by omega)|fail))|fail) ?_)
    refine CG.cond_f rfl (by exact rho_of rfl) rfl ?_
    repeat (first|apply CG.seq|apply CG.region|apply SG.nil|apply NG.next|apply CG.skip|apply CG.block|apply CG.ret|apply CG.exit|apply NG.exit_then|refine NG.exit_block rfl ?_|apply NG.normal_block|refine SG.val rfl rfl rfl rfl (by first|(apply qi64<;>(first|exact rfl|assumption|exact Ar.mk (by omega)|exact dct (by first|assumption|omega)|exact dcf (by first|assumption|omega)|exact List.not_mem_nil|apply dc_length|exact nm1 (by omega)|fail))|((first|apply qri|apply qia|apply qmv|apply qas|apply qlc|apply qla|apply qix|apply qls|apply qni|apply qad|apply qln)<;>(first|exact rfl|assumption|exact Ar.mk (by omega)|exact dct (by first|assumption|omega)|exact dcf (by first|assumption|omega)|exact List.not_mem_nil|apply dc_length|exact nm1 (by omega)|fail))|fail) ?_)
    refine CG.loop (X := Nat) (fun q => [(1, .slice a l.length c), (2, .pointer (some ⟨b1, 0, none⟩)), (4, .pointer (some ⟨b2, 0, none⟩)), (5, .slice a7 (padAll l).length c7), (6, .int .i64 ((q * 8 : Nat) : Int))])
      (fun q w' => q ≤ M ∧ Kp [b1] w7 w' ∧ Blk w' b1 (.cells (hsl (eightsI s (padAll l) q)).toArray 114)) (fun q => M - q) 0 ⟨by omega, Kp.refl _ _, hB17⟩ (by rw [Nat.zero_mul]; (repeat' (first | exact True.intro | exact rfl | refine And.intro ?_ ?_))) ?_
    rintro q w8 ⟨hq, k8, hB8⟩
    by_cases hqM : q < M
    · have g2 : ((q * 8 : Nat) : Int) < ((padAll l).length : Int) := by omega
      have h8 : (((padAll l).drop (q * 8)).take 8).length = 8 := by simp; omega
      obtain ⟨b7, off, rfl, _⟩ := hS7.at (i := q * 8) (by omega)
      have hb7 := hnew b7 off rfl
      have hS8 := hS7.kp k8 (fun b3 off3 e => by cases e; exact nm1 (by omega))
      generalize hr : ((padAll l).drop (q * 8)).take 8 = r at h8
      have l7 : b7 < w7.heap.size := by
        obtain ⟨_, _, e, hrow⟩ := hS7.at (i := q * 8) (by omega)
        cases e
        exact hrow.lt
      have s8 := k8.size
      repeat (first|apply CG.seq|apply CG.region|apply SG.nil|apply NG.next|apply CG.skip|apply CG.block|apply CG.ret|apply CG.exit|apply NG.exit_then|refine NG.exit_block rfl ?_|apply NG.normal_block|refine SG.val rfl rfl rfl rfl (by first|(apply qi64<;>(first|exact rfl|assumption|exact Ar.mk (by omega)|exact dct (by first|assumption|omega)|exact dcf (by first|assumption|omega)|exact List.not_mem_nil|apply dc_length|exact nm1 (by omega)|fail))|((first|apply qri|apply qia|apply qmv|apply qas|apply qlc|apply qla|apply qix|apply qls|apply qni|apply qad|apply qln)<;>(first|exact rfl|assumption|exact Ar.mk (by omega)|exact dct (by first|assumption|omega)|exact dcf (by first|assumption|omega)|exact List.not_mem_nil|apply dc_length|exact nm1 (by omega)|fail))|fail) ?_)
      refine CG.cond_t rfl (by exact rho_of rfl) rfl ?_
      repeat (first|apply CG.seq|apply CG.region|apply SG.nil|apply NG.next|apply CG.skip|apply CG.block|apply CG.ret|apply CG.exit|apply NG.exit_then|refine NG.exit_block rfl ?_|apply NG.normal_block|refine SG.val rfl rfl rfl rfl (by first|(apply qi64<;>(first|exact rfl|assumption|exact Ar.mk (by omega)|exact dct (by first|assumption|omega)|exact dcf (by first|assumption|omega)|exact List.not_mem_nil|apply dc_length|exact nm1 (by omega)|fail))|((first|apply qri|apply qia|apply qmv|apply qas|apply qlc|apply qla|apply qix|apply qls|apply qni|apply qad|apply qln)<;>(first|exact rfl|assumption|exact Ar.mk (by omega)|exact dct (by first|assumption|omega)|exact dcf (by first|assumption|omega)|exact List.not_mem_nil|apply dc_length|exact nm1 (by omega)|fail))|fail) ?_)
      refine SG.val rfl rfl rfl rfl (vals_build rfl bz8) ?_
      refine SG.alloc rfl rfl rfl (fun b3 w9 hk9 hb3 hB3 => ?_)
      have hB3 : Blk w9 b3 (.cells (dc zd).toArray 23) := hB3
      refine SG.setAll (old := dc zd) (l := dc zd) rfl rfl (by exact rho_of rfl) (by exact rho_of rfl) hB3 (dc_length _) (dc_length _) (dc_one _) (fun w10 hk10 hB3 => ?_)
      have l3 := hB3.lt
      have s9 := hk9.size
      have hS10 := (hS8.kp0 hk9).kp hk10 (fun b4 off4 e => by cases e; exact nm1 (by omega))
      repeat (first|apply CG.seq|apply CG.region|apply SG.nil|apply NG.next|apply CG.skip|apply CG.block|apply CG.ret|apply CG.exit|apply NG.exit_then|refine NG.exit_block rfl ?_|apply NG.normal_block|refine SG.val rfl rfl rfl rfl (by first|(apply qi64<;>(first|exact rfl|assumption|exact Ar.mk (by omega)|exact dct (by first|assumption|omega)|exact dcf (by first|assumption|omega)|exact List.not_mem_nil|apply dc_length|exact nm1 (by omega)|fail))|((first|apply qri|apply qia|apply qmv|apply qas|apply qlc|apply qla|apply qix|apply qls|apply qni|apply qad|apply qln)<;>(first|exact rfl|assumption|exact Ar.mk (by omega)|exact dct (by first|assumption|omega)|exact dcf (by first|assumption|omega)|exact List.not_mem_nil|apply dc_length|exact nm1 (by omega)|fail))|fail) ?_)
      refine CG.loop (X := Nat) (fun k => [(1, .slice a l.length c), (2, .pointer (some ⟨b1, 0, none⟩)), (4, .pointer (some ⟨b2, 0, none⟩)), (5, .slice (some ⟨b7, off, none⟩) (padAll l).length c7), (6, .int .i64 ((q * 8 : Nat) : Int)), (7, .pointer (some ⟨b3, 0, none⟩)), (8, .int .i64 (k : Int))])
        (fun k w' => k ≤ 8 ∧ Kp [b3] w10 w' ∧ Blk w' b3 (.cells (fillp r k).toArray 23)) (fun k => 8 - k) 0 ⟨by omega, Kp.refl _ _, by rw [fillp_zero]; exact hB3⟩ (by (repeat' (first | exact True.intro | exact rfl | refine And.intro ?_ ?_))) ?_
      rintro k w11 ⟨hk8, k11, hB11⟩
      by_cases hk : k < 8
      · have g3 : (k : Int) < 8 := by omega
        have hS11 := hS10.kp k11 (fun b4 off4 e => by cases e; exact nm1 (by omega))
        have hg : (padAll l)[q * 8 + k]? = some (r[k]'(by omega)) := by
          rw [← List.getElem?_eq_getElem, ← hr, List.getElem?_take_of_lt hk, List.getElem?_drop]
        have hrow := hS11.row hg
        have hrow : Row w11 b7 (off + (q * 8 + k) * 1) [bv (r[k]'(by omega))] := hrow
        have ez : ((q * 8 : Nat) : Int) + (k : Int) = ((q * 8 + k : Nat) : Int) := by omega
        repeat (first|apply CG.seq|apply CG.region|apply SG.nil|apply NG.next|apply CG.skip|apply CG.block|apply CG.ret|apply CG.exit|apply NG.exit_then|refine NG.exit_block rfl ?_|apply NG.normal_block|refine SG.val rfl rfl rfl rfl (by first|(apply qi64<;>(first|exact rfl|assumption|exact Ar.mk (by omega)|exact dct (by first|assumption|omega)|exact dcf (by first|assumption|omega)|exact List.not_mem_nil|apply dc_length|exact nm1 (by omega)|fail))|((first|apply qri|apply qia|apply qmv|apply qas|apply qlc|apply qla|apply qix|apply qls|apply qni|apply qad|apply qln)<;>(first|exact rfl|assumption|exact Ar.mk (by omega)|exact dct (by first|assumption|omega)|exact dcf (by first|assumption|omega)|exact List.not_mem_nil|apply dc_length|exact nm1 (by omega)|fail))|fail) ?_)
        refine CG.cond_t rfl (by exact rho_of rfl) rfl ?_
        repeat (first|apply CG.seq|apply CG.region|apply SG.nil|apply NG.next|apply CG.skip|apply CG.block|apply CG.ret|apply CG.exit|apply NG.exit_then|refine NG.exit_block rfl ?_|apply NG.normal_block|refine SG.val rfl rfl rfl rfl (by first|(apply qi64<;>(first|exact rfl|assumption|exact Ar.mk (by omega)|exact dct (by first|assumption|omega)|exact dcf (by first|assumption|omega)|exact List.not_mem_nil|apply dc_length|exact nm1 (by omega)|fail))|((first|apply qri|apply qia|apply qmv|apply qas|apply qlc|apply qla|apply qix|apply qls|apply qni|apply qad|apply qln)<;>(first|exact rfl|assumption|exact Ar.mk (by omega)|exact dct (by first|assumption|omega)|exact dcf (by first|assumption|omega)|exact List.not_mem_nil|apply dc_length|exact nm1 (by omega)|fail))|fail) ?_)
        rw [ez]
        repeat (first|apply CG.seq|apply CG.region|apply SG.nil|apply NG.next|apply CG.skip|apply CG.block|apply CG.ret|apply CG.exit|apply NG.exit_then|refine NG.exit_block rfl ?_|apply NG.normal_block|refine SG.val rfl rfl rfl rfl (by first|(apply qi64<;>(first|exact rfl|assumption|exact Ar.mk (by omega)|exact dct (by first|assumption|omega)|exact dcf (by first|assumption|omega)|exact List.not_mem_nil|apply dc_length|exact nm1 (by omega)|fail))|((first|apply qri|apply qia|apply qmv|apply qas|apply qlc|apply qla|apply qix|apply qls|apply qni|apply qad|apply qln)<;>(first|exact rfl|assumption|exact Ar.mk (by omega)|exact dct (by first|assumption|omega)|exact dcf (by first|assumption|omega)|exact List.not_mem_nil|apply dc_length|exact nm1 (by omega)|fail))|fail) ?_)
        refine SG.store rfl rfl (by exact rho_of rfl) (by exact rho_of rfl) hB11 rfl (by show 0 + k * 1 + 1 ≤ (fillp r k).toArray.size; simp [fillp_length h8 hk8]; omega) rfl (fun w12 hk12 hB12 => ?_)
        have hB12 : Blk w12 b3 (.cells (spl (fillp r k) (0 + k * 1) [bv (r[k]'(by omega))]).toArray 23) := hB12
        rw [show 0 + k * 1 = k from by omega, fillp_step h8 hk] at hB12
        repeat (first|apply CG.seq|apply CG.region|apply SG.nil|apply NG.next|apply CG.skip|apply CG.block|apply CG.ret|apply CG.exit|apply NG.exit_then|refine NG.exit_block rfl ?_|apply NG.normal_block|refine SG.val rfl rfl rfl rfl (by first|(apply qi64<;>(first|exact rfl|assumption|exact Ar.mk (by omega)|exact dct (by first|assumption|omega)|exact dcf (by first|assumption|omega)|exact List.not_mem_nil|apply dc_length|exact nm1 (by omega)|fail))|((first|apply qri|apply qia|apply qmv|apply qas|apply qlc|apply qla|apply qix|apply qls|apply qni|apply qad|apply qln)<;>(first|exact rfl|assumption|exact Ar.mk (by omega)|exact dct (by first|assumption|omega)|exact dcf (by first|assumption|omega)|exact List.not_mem_nil|apply dc_length|exact nm1 (by omega)|fail))|fail) ?_)
        refine NG.round (k + 1) (by (repeat' (first | exact True.intro | exact rfl | refine And.intro ?_ ?_))) ⟨by omega, k11.trans hk12, hB12⟩ (by omega)
      · have g3 : ¬ (k : Int) < 8 := by omega
        have e8 : k = 8 := by omega
        subst e8
        rw [fillp_all h8] at hB11
        have hrd : Row w11 b3 0 (dc (⟨r, h8⟩ : Dg)) := Row.all hB11 rfl
        have hBs := ((hB8.kp0 hk9).kp hk10 (nm1 (by omega))).kp k11 (nm1 (by omega))
        have hrs := Row.all (l := hsl (eightsI s (padAll l) q)) hBs rfl
        repeat (first|apply CG.seq|apply CG.region|apply SG.nil|apply NG.next|apply CG.skip|apply CG.block|apply CG.ret|apply CG.exit|apply NG.exit_then|refine NG.exit_block rfl ?_|apply NG.normal_block|refine SG.val rfl rfl rfl rfl (by first|(apply qi64<;>(first|exact rfl|assumption|exact Ar.mk (by omega)|exact dct (by first|assumption|omega)|exact dcf (by first|assumption|omega)|exact List.not_mem_nil|apply dc_length|exact nm1 (by omega)|fail))|((first|apply qri|apply qia|apply qmv|apply qas|apply qlc|apply qla|apply qix|apply qls|apply qni|apply qad|apply qln)<;>(first|exact rfl|assumption|exact Ar.mk (by omega)|exact dct (by first|assumption|omega)|exact dcf (by first|assumption|omega)|exact List.not_mem_nil|apply dc_length|exact nm1 (by omega)|fail))|fail) ?_)
        refine CG.cond_f rfl (by exact rho_of rfl) rfl ?_
        repeat (first|apply CG.seq|apply CG.region|apply SG.nil|apply NG.next|apply CG.skip|apply CG.block|apply CG.ret|apply CG.exit|apply NG.exit_then|refine NG.exit_block rfl ?_|apply NG.normal_block|refine SG.val rfl rfl rfl rfl (by first|(apply qi64<;>(first|exact rfl|assumption|exact Ar.mk (by omega)|exact dct (by first|assumption|omega)|exact dcf (by first|assumption|omega)|exact List.not_mem_nil|apply dc_length|exact nm1 (by omega)|fail))|((first|apply qri|apply qia|apply qmv|apply qas|apply qlc|apply qla|apply qix|apply qls|apply qni|apply qad|apply qln)<;>(first|exact rfl|assumption|exact Ar.mk (by omega)|exact dct (by first|assumption|omega)|exact dcf (by first|assumption|omega)|exact List.not_mem_nil|apply dc_length|exact nm1 (by omega)|fail))|fail) ?_)
        refine CG.tail mixed 3 [0, 1, 2] (by kernel_rfl) ?_
        repeat (refine Der.val rfl rfl rfl (by first|(apply qi64<;>(first|exact rfl|assumption|exact Ar.mk (by omega)|exact dct (by first|assumption|omega)|exact dcf (by first|assumption|omega)|exact List.not_mem_nil|apply dc_length|exact nm1 (by omega)|fail))|((first|apply qri|apply qia|apply qmv|apply qas|apply qlc|apply qla|apply qix|apply qls|apply qni|apply qad|apply qln)<;>(first|exact rfl|assumption|exact Ar.mk (by omega)|exact dct (by first|assumption|omega)|exact dcf (by first|assumption|omega)|exact List.not_mem_nil|apply dc_length|exact nm1 (by omega)|fail))|fail) ?_)
        refine Der.call rfl rfl rfl (vs := [dv (⟨r, h8⟩ : Dg)]) (by repeat' (first | exact True.intro | exact rho_of rfl | refine And.intro ?_ ?_)) (fun w _ _ => rnum_spec ⟨r, h8⟩ w) ?_
        refine Der.tl (fun w12 hk12 _ _ => ?_)
        refine SG.ret rfl rfl rfl (by repeat' (first | exact True.intro | exact rho_of rfl | refine And.intro ?_ ?_)) (rin_spec (eightsI s (padAll l) q) (num (⟨r, h8⟩ : Dg) : Int) w12) (fun w13 hk13 => ?_)
        refine SG.setAll (old := hsl (eightsI s (padAll l) q)) (l := hsl (takeI (eightsI s (padAll l) q) (num (⟨r, h8⟩ : Dg) : Int))) rfl rfl (by exact rho_of rfl) (by exact rho_of rfl) ((hBs.kp0 hk12).kp0 hk13) rfl rfl rfl (fun w14 hk14 hB14 => ?_)
        have ez : ((q * 8 : Nat) : Int) + 8 = (((q + 1) * 8 : Nat) : Int) := by omega
        repeat (first|apply CG.seq|apply CG.region|apply SG.nil|apply NG.next|apply CG.skip|apply CG.block|apply CG.ret|apply CG.exit|apply NG.exit_then|refine NG.exit_block rfl ?_|apply NG.normal_block|refine SG.val rfl rfl rfl rfl (by first|(apply qi64<;>(first|exact rfl|assumption|exact Ar.mk (by omega)|exact dct (by first|assumption|omega)|exact dcf (by first|assumption|omega)|exact List.not_mem_nil|apply dc_length|exact nm1 (by omega)|fail))|((first|apply qri|apply qia|apply qmv|apply qas|apply qlc|apply qla|apply qix|apply qls|apply qni|apply qad|apply qln)<;>(first|exact rfl|assumption|exact Ar.mk (by omega)|exact dct (by first|assumption|omega)|exact dcf (by first|assumption|omega)|exact List.not_mem_nil|apply dc_length|exact nm1 (by omega)|fail))|fail) ?_)
        rw [ez]
        have kk : Kp [b1] w8 w14 := ((((hk9.trans_new hk10 (new1 (by omega))).trans_new k11 (new1 (by omega))).trans hk12).trans hk13).any.trans hk14
        refine NG.round (q + 1) (by (repeat' (first | exact True.intro | exact rfl | refine And.intro ?_ ?_))) ⟨by omega, k8.trans kk, ?_⟩ (by omega)
        rw [eights_step, hr]
        exact hB14
    · have g2 : ¬ ((q * 8 : Nat) : Int) < ((padAll l).length : Int) := by omega
      have eq : q = M := by omega
      subst eq
      have hrs := Row.all (l := hsl (eightsI s (padAll l) q)) hB8 rfl
      repeat (first|apply CG.seq|apply CG.region|apply SG.nil|apply NG.next|apply CG.skip|apply CG.block|apply CG.ret|apply CG.exit|apply NG.exit_then|refine NG.exit_block rfl ?_|apply NG.normal_block|refine SG.val rfl rfl rfl rfl (by first|(apply qi64<;>(first|exact rfl|assumption|exact Ar.mk (by omega)|exact dct (by first|assumption|omega)|exact dcf (by first|assumption|omega)|exact List.not_mem_nil|apply dc_length|exact nm1 (by omega)|fail))|((first|apply qri|apply qia|apply qmv|apply qas|apply qlc|apply qla|apply qix|apply qls|apply qni|apply qad|apply qln)<;>(first|exact rfl|assumption|exact Ar.mk (by omega)|exact dct (by first|assumption|omega)|exact dcf (by first|assumption|omega)|exact List.not_mem_nil|apply dc_length|exact nm1 (by omega)|fail))|fail) ?_)
      refine CG.cond_f rfl (by exact rho_of rfl) rfl ?_
      repeat (first|apply CG.seq|apply CG.region|apply SG.nil|apply NG.next|apply CG.skip|apply CG.block|apply CG.ret|apply CG.exit|apply NG.exit_then|refine NG.exit_block rfl ?_|apply NG.normal_block|refine SG.val rfl rfl rfl rfl (by first|(apply qi64<;>(first|exact rfl|assumption|exact Ar.mk (by omega)|exact dct (by first|assumption|omega)|exact dcf (by first|assumption|omega)|exact List.not_mem_nil|apply dc_length|exact nm1 (by omega)|fail))|((first|apply qri|apply qia|apply qmv|apply qas|apply qlc|apply qla|apply qix|apply qls|apply qni|apply qad|apply qln)<;>(first|exact rfl|assumption|exact Ar.mk (by omega)|exact dct (by first|assumption|omega)|exact dcf (by first|assumption|omega)|exact List.not_mem_nil|apply dc_length|exact nm1 (by omega)|fail))|fail) ?_)
      refine SG.ret rfl rfl rfl (by repeat' (first | exact True.intro | exact rho_of rfl | refine And.intro ?_ ?_)) (rin_spec (eightsI s (padAll l) q) (l.length : Int) w8) (fun w9 hk9 => ?_)
      refine SG.setAll (old := hsl ⟨0, 0, 0, 0⟩) (l := hsl (bytesI s l)) rfl rfl (by exact rho_of rfl) ?_ (((hB27.kp k8 (nm1 (by omega))).kp0 hk9)) rfl rfl rfl (fun w10 hk10 hB10 => ?_)
      · rw [← hM, eights_pad]
        exact rho_of rfl
      · have hr10 : Row w10 b2 0 (hsl (bytesI s l)) := Row.all hB10 rfl
        repeat (first|apply CG.seq|apply CG.region|apply SG.nil|apply NG.next|apply CG.skip|apply CG.block|apply CG.ret|apply CG.exit|apply NG.exit_then|refine NG.exit_block rfl ?_|apply NG.normal_block|refine SG.val rfl rfl rfl rfl (by first|(apply qi64<;>(first|exact rfl|assumption|exact Ar.mk (by omega)|exact dct (by first|assumption|omega)|exact dcf (by first|assumption|omega)|exact List.not_mem_nil|apply dc_length|exact nm1 (by omega)|fail))|((first|apply qri|apply qia|apply qmv|apply qas|apply qlc|apply qla|apply qix|apply qls|apply qni|apply qad|apply qln)<;>(first|exact rfl|assumption|exact Ar.mk (by omega)|exact dct (by first|assumption|omega)|exact dcf (by first|assumption|omega)|exact List.not_mem_nil|apply dc_length|exact nm1 (by omega)|fail))|fail) ?_)
        refine ret1 (Or.inl rfl) Try.results81 (by first | exact ResV.tmp rfl | exact ResV.agg rfl rfl (by assumption) (by first | exact dc_length _ | exact nc_length _ | exact rc_length _ _ _ | exact ec_length _ | exact dl_length _ _ _ _ | rfl) | exact ResV.cell rfl rfl (by assumption)) ?_
        exact ⟨rfl, (((k2.trans k7).trans_new k8 (new1 (by omega))).trans hk9).trans_new hk10 (new1 (by omega))⟩
end Go.Proofs.Ytnoipmimddoioaa
/-
  The document's digests: of bytes, of two digests, of many; numbers' bytes.
-/
namespace Go.Proofs.Ytnoipmimddoioaa
open Go.Proofs
set_option linter.unusedVariables false

theorem putS_nat (n : Nat) : toB (addI 128 ((n : Int) % 128)) = UInt8.ofNat (128 + n % 128) := by
  have e : (128 : Int) + (n : Int) % 128 = ((128 + n % 128 : Nat) : Int) := by omega
  have e2 : addI 128 ((n : Int) % 128) = ((128 + n % 128 : Nat) : Int) := by
    unfold addI
    rw [e]
    exact wrap64_nat (by omega)
  rw [e2, toB_nat]
attribute [local irreducible] CG NG SG Vals Der Row Blk MapIs IterAt addI xorI orI andI shlI shrI mulI
set_option maxHeartbeats 8000000 in
theorem rof_spec {w : World} {a : Option Addr} {c : Nat} {l : List UInt8} (hS : Sl by1 1 w a l) (hl : l.length ≤ 100000000) : Ret Try.prog 55 #[.slice a l.length c] w (dv (ofI l)) := by
  refine enter1 Try.func55 rfl Try.ntmps55 rfl ?_
  repeat (first|apply CG.seq|apply CG.region|apply SG.nil|apply NG.next|apply CG.skip|apply CG.block|apply CG.ret|apply CG.exit|apply NG.exit_then|refine NG.exit_block rfl ?_|apply NG.normal_block|refine SG.val rfl rfl rfl rfl (by first|(apply q64b<;>(first|exact rfl|assumption|exact Ar.mk (by omega)|exact dct (by first|assumption|omega)|exact dcf (by first|assumption|omega)|exact List.not_mem_nil|apply dc_length|exact nm1 (by omega)|fail))|(apply qi64<;>(first|exact rfl|assumption|exact Ar.mk (by omega)|exact dct (by first|assumption|omega)|exact dcf (by first|assumption|omega)|exact List.not_mem_nil|apply dc_length|exact nm1 (by omega)|fail))|((first|apply quad|apply qqu|apply qru|apply qmv|apply qas|apply qla|apply qix|apply qls|apply qad|apply qln|apply qge)<;>(first|exact rfl|assumption|exact Ar.mk (by omega)|exact dct (by first|assumption|omega)|exact dcf (by first|assumption|omega)|exact List.not_mem_nil|apply dc_length|exact nm1 (by omega)|fail))|fail) ?_)
  refine SG.alloc rfl rfl rfl (fun b2 w1 hk1 hb2 hB2 => ?_)
  have hB2 : Blk w1 b2 (.cells (dc zd).toArray 23) := hB2
  repeat (first|apply CG.seq|apply CG.region|apply SG.nil|apply NG.next|apply CG.skip|apply CG.block|apply CG.ret|apply CG.exit|apply NG.exit_then|refine NG.exit_block rfl ?_|apply NG.normal_block|refine SG.val rfl rfl rfl rfl (by first|(apply q64b<;>(first|exact rfl|assumption|exact Ar.mk (by omega)|exact dct (by first|assumption|omega)|exact dcf (by first|assumption|omega)|exact List.not_mem_nil|apply dc_length|exact nm1 (by omega)|fail))|(apply qi64<;>(first|exact rfl|assumption|exact Ar.mk (by omega)|exact dct (by first|assumption|omega)|exact dcf (by first|assumption|omega)|exact List.not_mem_nil|apply dc_length|exact nm1 (by omega)|fail))|((first|apply quad|apply qqu|apply qru|apply qmv|apply qas|apply qla|apply qix|apply qls|apply qad|apply qln|apply qge)<;>(first|exact rfl|assumption|exact Ar.mk (by omega)|exact dct (by first|assumption|omega)|exact dcf (by first|assumption|omega)|exact List.not_mem_nil|apply dc_length|exact nm1 (by omega)|fail))|fail) ?_)
  refine SG.ret rfl rfl rfl (by repeat' (first | exact True.intro | exact rho_of rfl | refine And.intro ?_ ?_)) (rbegin_spec 1 w1) (fun w2 hk2 => ?_)
  repeat (first|apply CG.seq|apply CG.region|apply SG.nil|apply NG.next|apply CG.skip|apply CG.block|apply CG.ret|apply CG.exit|apply NG.exit_then|refine NG.exit_block rfl ?_|apply NG.normal_block|refine SG.val rfl rfl rfl rfl (by first|(apply q64b<;>(first|exact rfl|assumption|exact Ar.mk (by omega)|exact dct (by first|assumption|omega)|exact dcf (by first|assumption|omega)|exact List.not_mem_nil|apply dc_length|exact nm1 (by omega)|fail))|(apply qi64<;>(first|exact rfl|assumption|exact Ar.mk (by omega)|exact dct (by first|assumption|omega)|exact dcf (by first|assumption|omega)|exact List.not_mem_nil|apply dc_length|exact nm1 (by omega)|fail))|((first|apply quad|apply qqu|apply qru|apply qmv|apply qas|apply qla|apply qix|apply qls|apply qad|apply qln|apply qge)<;>(first|exact rfl|assumption|exact Ar.mk (by omega)|exact dct (by first|assumption|omega)|exact dcf (by first|assumption|omega)|exact List.not_mem_nil|apply dc_length|exact nm1 (by omega)|fail))|fail) ?_)
  refine SG.ret rfl rfl rfl (by repeat' (first | exact True.intro | exact rho_of rfl | refine And.intro ?_ ?_)) (rbytes_spec (s := beginI 1) (c := c) ((hS.kp0 hk1).kp0 hk2) hl) (fun w3 hk3 => ?_)
  refine SG.ret rfl rfl rfl (by repeat' (first | exact True.intro | exact rho_of rfl | refine And.intro ?_ ?_)) (rout_spec _ w3) (fun w4 hk4 => ?_)
  refine SG.setAll (old := dc zd) (l := dc (ofI l)) rfl rfl (by exact rho_of rfl) (by exact rho_of rfl) (((hB2.kp0 hk2).kp0 hk3).kp0 hk4) (dc_length _) (dc_length _) (dc_one _) (fun w5 hk5 hB5 => ?_)
  have hr4 : Row w5 b2 0 (dc (ofI l)) := Row.all hB5 rfl
  repeat (first|apply CG.seq|apply CG.region|apply SG.nil|apply NG.next|apply CG.skip|apply CG.block|apply CG.ret|apply CG.exit|apply NG.exit_then|refine NG.exit_block rfl ?_|apply NG.normal_block|refine SG.val rfl rfl rfl rfl (by first|(apply q64b<;>(first|exact rfl|assumption|exact Ar.mk (by omega)|exact dct (by first|assumption|omega)|exact dcf (by first|assumption|omega)|exact List.not_mem_nil|apply dc_length|exact nm1 (by omega)|fail))|(apply qi64<;>(first|exact rfl|assumption|exact Ar.mk (by omega)|exact dct (by first|assumption|omega)|exact dcf (by first|assumption|omega)|exact List.not_mem_nil|apply dc_length|exact nm1 (by omega)|fail))|((first|apply quad|apply qqu|apply qru|apply qmv|apply qas|apply qla|apply qix|apply qls|apply qad|apply qln|apply qge)<;>(first|exact rfl|assumption|exact Ar.mk (by omega)|exact dct (by first|assumption|omega)|exact dcf (by first|assumption|omega)|exact List.not_mem_nil|apply dc_length|exact nm1 (by omega)|fail))|fail) ?_)
  refine ret1 (Or.inl rfl) Try.results55 (by first | exact ResV.tmp rfl | exact ResV.agg rfl rfl (by assumption) (by first | exact dc_length _ | exact nc_length _ | exact rc_length _ _ _ | exact ec_length _ | exact dl_length _ _ _ _ | rfl) | exact ResV.cell rfl rfl (by assumption)) ?_
  exact ⟨rfl, (((hk1.trans hk2).trans hk3).trans hk4).trans_new hk5 (new1 (by omega))⟩
set_option maxHeartbeats 8000000 in
theorem rtwo_spec (x y : Dg) (w : World) : Ret Try.prog 46 #[dv x, dv y] w (dv (twoI x y)) := by
  refine enter2 Try.func46 rfl Try.ntmps46 rfl ?_
  repeat (first|apply CG.seq|apply CG.region|apply SG.nil|apply NG.next|apply CG.skip|apply CG.block|apply CG.ret|apply CG.exit|apply NG.exit_then|refine NG.exit_block rfl ?_|apply NG.normal_block|refine SG.val rfl rfl rfl rfl (by first|(apply q64b<;>(first|exact rfl|assumption|exact Ar.mk (by omega)|exact dct (by first|assumption|omega)|exact dcf (by first|assumption|omega)|exact List.not_mem_nil|apply dc_length|exact nm1 (by omega)|fail))|(apply qi64<;>(first|exact rfl|assumption|exact Ar.mk (by omega)|exact dct (by first|assumption|omega)|exact dcf (by first|assumption|omega)|exact List.not_mem_nil|apply dc_length|exact nm1 (by omega)|fail))|((first|apply quad|apply qqu|apply qru|apply qmv|apply qas|apply qla|apply qix|apply qls|apply qad|apply qln|apply qge)<;>(first|exact rfl|assumption|exact Ar.mk (by omega)|exact dct (by first|assumption|omega)|exact dcf (by first|assumption|omega)|exact List.not_mem_nil|apply dc_length|exact nm1 (by omega)|fail))|fail) ?_)
  refine SG.box rfl rfl rfl (by exact rho_of rfl) (fun bx wa hka hbx hBx => ?_)
  have hBx : Blk wa bx (.cells (dc x).toArray 23) := hBx
  refine SG.box rfl rfl rfl (by exact rho_of rfl) (fun by' wb hkb hby hBy => ?_)
  have hBy : Blk wb by' (.cells (dc y).toArray 23) := hBy
  refine SG.alloc rfl rfl rfl (fun b2 w1 hk1 hb2 hB2 => ?_)
  have hB2 : Blk w1 b2 (.cells (dc zd).toArray 23) := hB2
  have rx := (Row.all (l := dc x) hBx rfl).kp0 (hkb.trans hk1)
  have ry := (Row.all (l := dc y) hBy rfl).kp0 hk1
  have sa := hka.size
  have sb := hkb.size
  repeat (first|apply CG.seq|apply CG.region|apply SG.nil|apply NG.next|apply CG.skip|apply CG.block|apply CG.ret|apply CG.exit|apply NG.exit_then|refine NG.exit_block rfl ?_|apply NG.normal_block|refine SG.val rfl rfl rfl rfl (by first|(apply q64b<;>(first|exact rfl|assumption|exact Ar.mk (by omega)|exact dct (by first|assumption|omega)|exact dcf (by first|assumption|omega)|exact List.not_mem_nil|apply dc_length|exact nm1 (by omega)|fail))|(apply qi64<;>(first|exact rfl|assumption|exact Ar.mk (by omega)|exact dct (by first|assumption|omega)|exact dcf (by first|assumption|omega)|exact List.not_mem_nil|apply dc_length|exact nm1 (by omega)|fail))|((first|apply quad|apply qqu|apply qru|apply qmv|apply qas|apply qla|apply qix|apply qls|apply qad|apply qln|apply qge)<;>(first|exact rfl|assumption|exact Ar.mk (by omega)|exact dct (by first|assumption|omega)|exact dcf (by first|assumption|omega)|exact List.not_mem_nil|apply dc_length|exact nm1 (by omega)|fail))|fail) ?_)
  refine CG.tail mixed 5 [0, 1, 2, 3, 4] (by kernel_rfl) ?_
  refine Der.call rfl rfl rfl (vs := [.int .u64 3]) (by repeat' (first | exact True.intro | exact rho_of rfl | refine And.intro ?_ ?_)) (fun w _ _ => rbegin_spec 3 w) ?_
  repeat (refine Der.val rfl rfl rfl (by first|(apply q64b<;>(first|exact rfl|assumption|exact Ar.mk (by omega)|exact dct (by first|assumption|omega)|exact dcf (by first|assumption|omega)|exact List.not_mem_nil|apply dc_length|exact nm1 (by omega)|fail))|(apply qi64<;>(first|exact rfl|assumption|exact Ar.mk (by omega)|exact dct (by first|assumption|omega)|exact dcf (by first|assumption|omega)|exact List.not_mem_nil|apply dc_length|exact nm1 (by omega)|fail))|((first|apply quad|apply qqu|apply qru|apply qmv|apply qas|apply qla|apply qix|apply qls|apply qad|apply qln|apply qge)<;>(first|exact rfl|assumption|exact Ar.mk (by omega)|exact dct (by first|assumption|omega)|exact dcf (by first|assumption|omega)|exact List.not_mem_nil|apply dc_length|exact nm1 (by omega)|fail))|fail) ?_)
  refine Der.call rfl rfl rfl (vs := [dv x]) (by repeat' (first | exact True.intro | exact rho_of rfl | refine And.intro ?_ ?_)) (fun w _ _ => rnum_spec x w) ?_
  refine Der.call rfl rfl rfl (vs := [.agg (hsl (beginI 3)).toArray, .int .u64 (num x : Int)]) (by repeat' (first | exact True.intro | exact rho_of rfl | refine And.intro ?_ ?_)) (fun w _ _ => rin_spec (beginI 3) _ w) ?_
  repeat (refine Der.val rfl rfl rfl (by first|(apply q64b<;>(first|exact rfl|assumption|exact Ar.mk (by omega)|exact dct (by first|assumption|omega)|exact dcf (by first|assumption|omega)|exact List.not_mem_nil|apply dc_length|exact nm1 (by omega)|fail))|(apply qi64<;>(first|exact rfl|assumption|exact Ar.mk (by omega)|exact dct (by first|assumption|omega)|exact dcf (by first|assumption|omega)|exact List.not_mem_nil|apply dc_length|exact nm1 (by omega)|fail))|((first|apply quad|apply qqu|apply qru|apply qmv|apply qas|apply qla|apply qix|apply qls|apply qad|apply qln|apply qge)<;>(first|exact rfl|assumption|exact Ar.mk (by omega)|exact dct (by first|assumption|omega)|exact dcf (by first|assumption|omega)|exact List.not_mem_nil|apply dc_length|exact nm1 (by omega)|fail))|fail) ?_)
  refine Der.tl (fun w2 hk2 _ _ => ?_)
  refine SG.ret rfl rfl rfl (by repeat' (first | exact True.intro | exact rho_of rfl | refine And.intro ?_ ?_)) (rnum_spec y w2) (fun w3 hk3 => ?_)
  refine SG.ret rfl rfl rfl (by repeat' (first | exact True.intro | exact rho_of rfl | refine And.intro ?_ ?_)) (rin_spec _ (num y : Int) w3) (fun w4 hk4 => ?_)
  refine SG.ret rfl rfl rfl (by repeat' (first | exact True.intro | exact rho_of rfl | refine And.intro ?_ ?_)) (rout_spec _ w4) (fun w5 hk5 => ?_)
  refine SG.setAll (old := dc zd) (l := dc (twoI x y)) rfl rfl (by exact rho_of rfl) (by exact rho_of rfl) ((((hB2.kp0 hk2).kp0 hk3).kp0 hk4).kp0 hk5) (dc_length _) (dc_length _) (dc_one _) (fun wz hkz hBz => ?_)
  have hr4 : Row wz b2 0 (dc (twoI x y)) := Row.all hBz rfl
  repeat (first|apply CG.seq|apply CG.region|apply SG.nil|apply NG.next|apply CG.skip|apply CG.block|apply CG.ret|apply CG.exit|apply NG.exit_then|refine NG.exit_block rfl ?_|apply NG.normal_block|refine SG.val rfl rfl rfl rfl (by first|(apply q64b<;>(first|exact rfl|assumption|exact Ar.mk (by omega)|exact dct (by first|assumption|omega)|exact dcf (by first|assumption|omega)|exact List.not_mem_nil|apply dc_length|exact nm1 (by omega)|fail))|(apply qi64<;>(first|exact rfl|assumption|exact Ar.mk (by omega)|exact dct (by first|assumption|omega)|exact dcf (by first|assumption|omega)|exact List.not_mem_nil|apply dc_length|exact nm1 (by omega)|fail))|((first|apply quad|apply qqu|apply qru|apply qmv|apply qas|apply qla|apply qix|apply qls|apply qad|apply qln|apply qge)<;>(first|exact rfl|assumption|exact Ar.mk (by omega)|exact dct (by first|assumption|omega)|exact dcf (by first|assumption|omega)|exact List.not_mem_nil|apply dc_length|exact nm1 (by omega)|fail))|fail) ?_)
  refine ret1 (Or.inl rfl) Try.results46 (by first | exact ResV.tmp rfl | exact ResV.agg rfl rfl (by assumption) (by first | exact dc_length _ | exact nc_length _ | exact rc_length _ _ _ | exact ec_length _ | exact dl_length _ _ _ _ | rfl) | exact ResV.cell rfl rfl (by assumption)) ?_
  exact ⟨rfl, (((((hka.trans hkb).trans hk1).trans hk2).trans hk3).trans (hk4.trans hk5)).trans_new hkz (new1 (by omega))⟩
set_option maxHeartbeats 8000000 in
theorem rmany_spec {w : World} {a : Option Addr} {l : List Dg} (c : Nat) (hS : Sl dc 8 w a l) (hl : l.length ≤ 1000000000) :
    Ret Try.prog 43 #[.slice a l.length c] w (dv (manyI l)) := by
  refine enter1 Try.func43 rfl Try.ntmps43 rfl ?_
  repeat (first|apply CG.seq|apply CG.region|apply SG.nil|apply NG.next|apply CG.skip|apply CG.block|apply CG.ret|apply CG.exit|apply NG.exit_then|refine NG.exit_block rfl ?_|apply NG.normal_block|refine SG.val rfl rfl rfl rfl (by first|(apply q64b<;>(first|exact rfl|assumption|exact Ar.mk (by omega)|exact dct (by first|assumption|omega)|exact dcf (by first|assumption|omega)|exact List.not_mem_nil|apply dc_length|exact nm1 (by omega)|fail))|(apply qi64<;>(first|exact rfl|assumption|exact Ar.mk (by omega)|exact dct (by first|assumption|omega)|exact dcf (by first|assumption|omega)|exact List.not_mem_nil|apply dc_length|exact nm1 (by omega)|fail))|((first|apply quad|apply qqu|apply qru|apply qmv|apply qas|apply qla|apply qix|apply qls|apply qad|apply qln|apply qge)<;>(first|exact rfl|assumption|exact Ar.mk (by omega)|exact dct (by first|assumption|omega)|exact dcf (by first|assumption|omega)|exact List.not_mem_nil|apply dc_length|exact nm1 (by omega)|fail))|fail) ?_)
  refine SG.alloc rfl rfl rfl (fun b2 w1 hk1 hb2 hB2 => ?_)
  have hB2 : Blk w1 b2 (.cells (dc zd).toArray 23) := hB2
  have l2 := hB2.lt
  repeat (first|apply CG.seq|apply CG.region|apply SG.nil|apply NG.next|apply CG.skip|apply CG.block|apply CG.ret|apply CG.exit|apply NG.exit_then|refine NG.exit_block rfl ?_|apply NG.normal_block|refine SG.val rfl rfl rfl rfl (by first|(apply q64b<;>(first|exact rfl|assumption|exact Ar.mk (by omega)|exact dct (by first|assumption|omega)|exact dcf (by first|assumption|omega)|exact List.not_mem_nil|apply dc_length|exact nm1 (by omega)|fail))|(apply qi64<;>(first|exact rfl|assumption|exact Ar.mk (by omega)|exact dct (by first|assumption|omega)|exact dcf (by first|assumption|omega)|exact List.not_mem_nil|apply dc_length|exact nm1 (by omega)|fail))|((first|apply quad|apply qqu|apply qru|apply qmv|apply qas|apply qla|apply qix|apply qls|apply qad|apply qln|apply qge)<;>(first|exact rfl|assumption|exact Ar.mk (by omega)|exact dct (by first|assumption|omega)|exact dcf (by first|assumption|omega)|exact List.not_mem_nil|apply dc_length|exact nm1 (by omega)|fail))|fail) ?_)
  refine SG.ret rfl rfl rfl (by repeat' (first | exact True.intro | exact rho_of rfl | refine And.intro ?_ ?_)) (rbegin_spec 5 w1) (fun w2 hk2 => ?_)
  refine SG.alloc rfl rfl rfl (fun b3 w3 hk3 hb3 hB3 => ?_)
  have hB3 : Blk w3 b3 (.cells (hsl ⟨0, 0, 0, 0⟩).toArray 114) := hB3
  refine SG.setAll (old := hsl ⟨0, 0, 0, 0⟩) (l := hsl (beginI 5)) rfl rfl (by exact rho_of rfl) (by exact rho_of rfl) hB3 rfl rfl rfl (fun w4 hk4 hB4 => ?_)
  have s1 := hk1.size
  have s2 := hk2.size
  have s3 := hk3.size
  have k3 : Kp [] w w3 := (hk1.trans hk2).trans hk3
  have k4 : Kp [] w w4 := k3.trans_new hk4 (new1 (by omega))
  have l3 := hB3.lt
  have hB24 : Blk w4 b2 (.cells (dc zd).toArray 23) := ((hB2.kp0 hk2).kp0 hk3).kp hk4 (nm1 (by omega))
  repeat (first|apply CG.seq|apply CG.region|apply SG.nil|apply NG.next|apply CG.skip|apply CG.block|apply CG.ret|apply CG.exit|apply NG.exit_then|refine NG.exit_block rfl ?_|apply NG.normal_block|refine SG.val rfl rfl rfl rfl (by first|(apply q64b<;>(first|exact rfl|assumption|exact Ar.mk (by omega)|exact dct (by first|assumption|omega)|exact dcf (by first|assumption|omega)|exact List.not_mem_nil|apply dc_length|exact nm1 (by omega)|fail))|(apply qi64<;>(first|exact rfl|assumption|exact Ar.mk (by omega)|exact dct (by first|assumption|omega)|exact dcf (by first|assumption|omega)|exact List.not_mem_nil|apply dc_length|exact nm1 (by omega)|fail))|((first|apply quad|apply qqu|apply qru|apply qmv|apply qas|apply qla|apply qix|apply qls|apply qad|apply qln|apply qge)<;>(first|exact rfl|assumption|exact Ar.mk (by omega)|exact dct (by first|assumption|omega)|exact dcf (by first|assumption|omega)|exact List.not_mem_nil|apply dc_length|exact nm1 (by omega)|fail))|fail) ?_)
  refine CG.loop (X := Nat) (fun i => [(0, .slice a l.length c), (2, .pointer (some ⟨b2, 0, none⟩)), (3, .pointer (some ⟨b3, 0, none⟩)), (4, .int .i64 (i : Int))])
    (fun i w' => i ≤ l.length ∧ Kp [] w w' ∧ w4.heap.size ≤ w'.heap.size ∧ Blk w' b3 (.cells (hsl (manyS (beginI 5) (l.take i))).toArray 114) ∧ Blk w' b2 (.cells (dc zd).toArray 23)) (fun i => l.length - i) 0 ⟨by omega, k4, Nat.le_refl _, by simpa [manyS] using hB4, hB24⟩ (by (repeat' (first | exact True.intro | exact rfl | refine And.intro ?_ ?_))) ?_
  rintro i w5 ⟨hi, k5, s5, hB5, hB25⟩
  have hr5 := Row.all (l := hsl (manyS (beginI 5) (l.take i))) hB5 rfl
  by_cases hlt : i < l.length
  · have g1 : (i : Int) < (l.length : Int) := by omega
    obtain ⟨ba, off, rfl, hrow⟩ := (hS.kp0 k5).at hlt
    repeat (first|apply CG.seq|apply CG.region|apply SG.nil|apply NG.next|apply CG.skip|apply CG.block|apply CG.ret|apply CG.exit|apply NG.exit_then|refine NG.exit_block rfl ?_|apply NG.normal_block|refine SG.val rfl rfl rfl rfl (by first|(apply q64b<;>(first|exact rfl|assumption|exact Ar.mk (by omega)|exact dct (by first|assumption|omega)|exact dcf (by first|assumption|omega)|exact List.not_mem_nil|apply dc_length|exact nm1 (by omega)|fail))|(apply qi64<;>(first|exact rfl|assumption|exact Ar.mk (by omega)|exact dct (by first|assumption|omega)|exact dcf (by first|assumption|omega)|exact List.not_mem_nil|apply dc_length|exact nm1 (by omega)|fail))|((first|apply quad|apply qqu|apply qru|apply qmv|apply qas|apply qla|apply qix|apply qls|apply qad|apply qln|apply qge)<;>(first|exact rfl|assumption|exact Ar.mk (by omega)|exact dct (by first|assumption|omega)|exact dcf (by first|assumption|omega)|exact List.not_mem_nil|apply dc_length|exact nm1 (by omega)|fail))|fail) ?_)
    refine CG.cond_t rfl (by exact rho_of rfl) rfl ?_
    repeat (first|apply CG.seq|apply CG.region|apply SG.nil|apply NG.next|apply CG.skip|apply CG.block|apply CG.ret|apply CG.exit|apply NG.exit_then|refine NG.exit_block rfl ?_|apply NG.normal_block|refine SG.val rfl rfl rfl rfl (by first|(apply q64b<;>(first|exact rfl|assumption|exact Ar.mk (by omega)|exact dct (by first|assumption|omega)|exact dcf (by first|assumption|omega)|exact List.not_mem_nil|apply dc_length|exact nm1 (by omega)|fail))|(apply qi64<;>(first|exact rfl|assumption|exact Ar.mk (by omega)|exact dct (by first|assumption|omega)|exact dcf (by first|assumption|omega)|exact List.not_mem_nil|apply dc_length|exact nm1 (by omega)|fail))|((first|apply quad|apply qqu|apply qru|apply qmv|apply qas|apply qla|apply qix|apply qls|apply qad|apply qln|apply qge)<;>(first|exact rfl|assumption|exact Ar.mk (by omega)|exact dct (by first|assumption|omega)|exact dcf (by first|assumption|omega)|exact List.not_mem_nil|apply dc_length|exact nm1 (by omega)|fail))|fail) ?_)
    refine CG.tail mixed 6 [0, 1, 2, 3, 4, 5] (by kernel_rfl) ?_
    repeat (refine Der.val rfl rfl rfl (by first|(apply q64b<;>(first|exact rfl|assumption|exact Ar.mk (by omega)|exact dct (by first|assumption|omega)|exact dcf (by first|assumption|omega)|exact List.not_mem_nil|apply dc_length|exact nm1 (by omega)|fail))|(apply qi64<;>(first|exact rfl|assumption|exact Ar.mk (by omega)|exact dct (by first|assumption|omega)|exact dcf (by first|assumption|omega)|exact List.not_mem_nil|apply dc_length|exact nm1 (by omega)|fail))|((first|apply quad|apply qqu|apply qru|apply qmv|apply qas|apply qla|apply qix|apply qls|apply qad|apply qln|apply qge)<;>(first|exact rfl|assumption|exact Ar.mk (by omega)|exact dct (by first|assumption|omega)|exact dcf (by first|assumption|omega)|exact List.not_mem_nil|apply dc_length|exact nm1 (by omega)|fail))|fail) ?_)
    refine Der.call rfl rfl rfl (vs := [dv l[i]]) (by repeat' (first | exact True.intro | exact rho_of rfl | refine And.intro ?_ ?_)) (fun w _ _ => rnum_spec l[i] w) ?_
    refine Der.tl (fun w6 hk6 _ _ => ?_)
    refine SG.ret rfl rfl rfl (by repeat' (first | exact True.intro | exact rho_of rfl | refine And.intro ?_ ?_)) (rin_spec _ (num l[i] : Int) w6) (fun w7 hk7 => ?_)
    refine SG.setAll (old := hsl (manyS (beginI 5) (l.take i))) (l := hsl (takeI (manyS (beginI 5) (l.take i)) (num l[i] : Int))) rfl rfl (by exact rho_of rfl) (by exact rho_of rfl) ((hB5.kp0 hk6).kp0 hk7) rfl rfl rfl (fun w8 hk8 hB8 => ?_)
    have s6 := hk6.size
    have s7 := hk7.size
    have s8 := hk8.size
    repeat (first|apply CG.seq|apply CG.region|apply SG.nil|apply NG.next|apply CG.skip|apply CG.block|apply CG.ret|apply CG.exit|apply NG.exit_then|refine NG.exit_block rfl ?_|apply NG.normal_block|refine SG.val rfl rfl rfl rfl (by first|(apply q64b<;>(first|exact rfl|assumption|exact Ar.mk (by omega)|exact dct (by first|assumption|omega)|exact dcf (by first|assumption|omega)|exact List.not_mem_nil|apply dc_length|exact nm1 (by omega)|fail))|(apply qi64<;>(first|exact rfl|assumption|exact Ar.mk (by omega)|exact dct (by first|assumption|omega)|exact dcf (by first|assumption|omega)|exact List.not_mem_nil|apply dc_length|exact nm1 (by omega)|fail))|((first|apply quad|apply qqu|apply qru|apply qmv|apply qas|apply qla|apply qix|apply qls|apply qad|apply qln|apply qge)<;>(first|exact rfl|assumption|exact Ar.mk (by omega)|exact dct (by first|assumption|omega)|exact dcf (by first|assumption|omega)|exact List.not_mem_nil|apply dc_length|exact nm1 (by omega)|fail))|fail) ?_)
    refine NG.round (i + 1) (by (repeat' (first | exact True.intro | exact rfl | refine And.intro ?_ ?_))) ⟨by omega, ((k5.trans hk6).trans hk7).trans_new hk8 (new1 (by omega)), by omega, ?_, ((hB25.kp0 hk6).kp0 hk7).kp hk8 (nm1 (by omega))⟩ (by omega)
    rw [List.take_succ_eq_append_getElem hlt, manyS_append]
    exact hB8
  · have g1 : ¬ (i : Int) < (l.length : Int) := by omega
    have e8 : i = l.length := by omega
    subst e8
    rw [List.take_of_length_le (Nat.le_refl _)] at hB5 hr5
    repeat (first|apply CG.seq|apply CG.region|apply SG.nil|apply NG.next|apply CG.skip|apply CG.block|apply CG.ret|apply CG.exit|apply NG.exit_then|refine NG.exit_block rfl ?_|apply NG.normal_block|refine SG.val rfl rfl rfl rfl (by first|(apply q64b<;>(first|exact rfl|assumption|exact Ar.mk (by omega)|exact dct (by first|assumption|omega)|exact dcf (by first|assumption|omega)|exact List.not_mem_nil|apply dc_length|exact nm1 (by omega)|fail))|(apply qi64<;>(first|exact rfl|assumption|exact Ar.mk (by omega)|exact dct (by first|assumption|omega)|exact dcf (by first|assumption|omega)|exact List.not_mem_nil|apply dc_length|exact nm1 (by omega)|fail))|((first|apply quad|apply qqu|apply qru|apply qmv|apply qas|apply qla|apply qix|apply qls|apply qad|apply qln|apply qge)<;>(first|exact rfl|assumption|exact Ar.mk (by omega)|exact dct (by first|assumption|omega)|exact dcf (by first|assumption|omega)|exact List.not_mem_nil|apply dc_length|exact nm1 (by omega)|fail))|fail) ?_)
    refine CG.cond_f rfl (by exact rho_of rfl) rfl ?_
    repeat (first|apply CG.seq|apply CG.region|apply SG.nil|apply NG.next|apply CG.skip|apply CG.block|apply CG.ret|apply CG.exit|apply NG.exit_then|refine NG.exit_block rfl ?_|apply NG.normal_block|refine SG.val rfl rfl rfl rfl (by first|(apply q64b<;>(first|exact rfl|assumption|exact Ar.mk (by omega)|exact dct (by first|assumption|omega)|exact dcf (by first|assumption|omega)|exact List.not_mem_nil|apply dc_length|exact nm1 (by omega)|fail))|(apply qi64<;>(first|exact rfl|assumption|exact Ar.mk (by omega)|exact dct (by first|assumption|omega)|exact dcf (by first|assumption|omega)|exact List.not_mem_nil|apply dc_length|exact nm1 (by omega)|fail))|((first|apply quad|apply qqu|apply qru|apply qmv|apply qas|apply qla|apply qix|apply qls|apply qad|apply qln|apply qge)<;>(first|exact rfl|assumption|exact Ar.mk (by omega)|exact dct (by first|assumption|omega)|exact dcf (by first|assumption|omega)|exact List.not_mem_nil|apply dc_length|exact nm1 (by omega)|fail))|fail) ?_)
    refine SG.ret rfl rfl rfl (by repeat' (first | exact True.intro | exact rho_of rfl | refine And.intro ?_ ?_)) (rin_spec _ (l.length : Int) w5) (fun w6 hk6 => ?_)
    refine SG.ret rfl rfl rfl (by repeat' (first | exact True.intro | exact rho_of rfl | refine And.intro ?_ ?_)) (rout_spec _ w6) (fun w7 hk7 => ?_)
    refine SG.setAll (old := dc zd) (l := dc (manyI l)) rfl rfl (by exact rho_of rfl) (by exact rho_of rfl) ((hB25.kp0 hk6).kp0 hk7) (dc_length _) (dc_length _) (dc_one _) (fun w8 hk8 hB8 => ?_)
    have hr4 : Row w8 b2 0 (dc (manyI l)) := Row.all hB8 rfl
    repeat (first|apply CG.seq|apply CG.region|apply SG.nil|apply NG.next|apply CG.skip|apply CG.block|apply CG.ret|apply CG.exit|apply NG.exit_then|refine NG.exit_block rfl ?_|apply NG.normal_block|refine SG.val rfl rfl rfl rfl (by first|(apply q64b<;>(first|exact rfl|assumption|exact Ar.mk (by omega)|exact dct (by first|assumption|omega)|exact dcf (by first|assumption|omega)|exact List.not_mem_nil|apply dc_length|exact nm1 (by omega)|fail))|(apply qi64<;>(first|exact rfl|assumption|exact Ar.mk (by omega)|exact dct (by first|assumption|omega)|exact dcf (by first|assumption|omega)|exact List.not_mem_nil|apply dc_length|exact nm1 (by omega)|fail))|((first|apply quad|apply qqu|apply qru|apply qmv|apply qas|apply qla|apply qix|apply qls|apply qad|apply qln|apply qge)<;>(first|exact rfl|assumption|exact Ar.mk (by omega)|exact dct (by first|assumption|omega)|exact dcf (by first|assumption|omega)|exact List.not_mem_nil|apply dc_length|exact nm1 (by omega)|fail))|fail) ?_)
    refine ret1 (Or.inl rfl) Try.results43 (by first | exact ResV.tmp rfl | exact ResV.agg rfl rfl (by assumption) (by first | exact dc_length _ | exact nc_length _ | exact rc_length _ _ _ | exact ec_length _ | exact dl_length _ _ _ _ | rfl) | exact ResV.cell rfl rfl (by assumption)) ?_
    exact ⟨rfl, ((k5.trans hk6).trans hk7).trans_new hk8 (new1 (by omega))⟩

/-! ### numbers' bytes -/
set_option maxHeartbeats 8000000 in
theorem rput_spec (n : Nat) (hn : n < 18446744073709551616) (w : World) : RetO Try.prog 5 by1 1 80 #[.int .u64 (n : Int)] w (putU n) := by
  refine enter1 Try.func80 rfl Try.ntmps80 rfl ?_
  repeat (first|apply CG.seq|apply CG.region|apply SG.nil|apply NG.next|apply CG.skip|apply CG.block|apply CG.ret|apply CG.exit|apply NG.exit_then|refine NG.exit_block rfl ?_|apply NG.normal_block|refine SG.val rfl rfl rfl rfl (by first|(apply q64b<;>(first|exact rfl|assumption|exact Ar.mk (by omega)|exact dct (by first|assumption|omega)|exact dcf (by first|assumption|omega)|exact List.not_mem_nil|apply dc_length|exact nm1 (by omega)|fail))|(apply qi64<;>(first|exact rfl|assumption|exact Ar.mk (by omega)|exact dct (by first|assumption|omega)|exact dcf (by first|assumption|omega)|exact List.not_mem_nil|apply dc_length|exact nm1 (by omega)|fail))|((first|apply quad|apply qqu|apply qru|apply qmv|apply qas|apply qla|apply qix|apply qls|apply qad|apply qln|apply qge)<;>(first|exact rfl|assumption|exact Ar.mk (by omega)|exact dct (by first|assumption|omega)|exact dcf (by first|assumption|omega)|exact List.not_mem_nil|apply dc_length|exact nm1 (by omega)|fail))|fail) ?_)
  refine CG.loop (X := Value × Nat × List UInt8 × Nat) (fun x => [(0, .int .u64 (x.2.2.2 : Int)), (3, x.1)])
    (fun x w' => w'.ownsRow w.heap.size 5 1 x.1 x.2.2.1.length (flt by1 x.2.2.1) ∧ x.2.1 ≤ 10 ∧ x.2.2.1.length = 10 - x.2.1 ∧ x.2.2.2 < 128 ^ (x.2.1 + 1) ∧ x.2.2.1 ++ putN x.2.1 x.2.2.2 = putU n ∧ Kp [] w w' ∧ Ar (0 ≤ (x.2.2.2 : Int) ∧ (x.2.2.2 : Int) < 18446744073709551616 ∧ (0 : Int) < 128)) (fun x => x.2.1) (.slice none 0 0, 10, [], n) ⟨own_nil, Nat.le_refl _, rfl, Nat.lt_of_lt_of_le hn (show 18446744073709551616 ≤ 128 ^ 11 by decide), rfl, Kp.refl _ _, ⟨by simp only; omega⟩⟩ (by (repeat' (first | exact True.intro | exact rfl | refine And.intro ?_ ?_))) ?_
  clear hn
  rintro ⟨v1, f, done, m⟩ w1 ⟨ho1, hf, hd, hm, hp, hk1, hm64⟩
  simp only at ho1 hf hd hm hp hm64
  refine CG.to [(0, .int .u64 (m : Int)), (3, v1)] (by (repeat' (first | exact True.intro | exact rfl | refine And.intro ?_ ?_))) ?_
  have hs1 := hk1.size
  by_cases hlt : m < 128
  · have g1 : ¬ (128 : Int) ≤ (m : Int) := by omega
    have hput : putN f m = [UInt8.ofNat m] := by
      cases f with
      | zero => rfl
      | succ f => simp [putN, hlt]
    rw [hput] at hp
    repeat (first|apply CG.seq|apply CG.region|apply SG.nil|apply NG.next|apply CG.skip|apply CG.block|apply CG.ret|apply CG.exit|apply NG.exit_then|refine NG.exit_block rfl ?_|apply NG.normal_block|refine SG.val rfl rfl rfl rfl (by first|(apply q64b<;>(first|exact rfl|assumption|exact Ar.mk (by omega)|exact dct (by first|assumption|omega)|exact dcf (by first|assumption|omega)|exact List.not_mem_nil|apply dc_length|exact nm1 (by omega)|fail))|(apply qi64<;>(first|exact rfl|assumption|exact Ar.mk (by omega)|exact dct (by first|assumption|omega)|exact dcf (by first|assumption|omega)|exact List.not_mem_nil|apply dc_length|exact nm1 (by omega)|fail))|((first|apply quad|apply qqu|apply qru|apply qmv|apply qas|apply qla|apply qix|apply qls|apply qad|apply qln|apply qge)<;>(first|exact rfl|assumption|exact Ar.mk (by omega)|exact dct (by first|assumption|omega)|exact dcf (by first|assumption|omega)|exact List.not_mem_nil|apply dc_length|exact nm1 (by omega)|fail))|fail) ?_)
    refine CG.cond_f rfl (by exact rho_of rfl) rfl ?_
    repeat (first|apply CG.seq|apply CG.region|apply SG.nil|apply NG.next|apply CG.skip|apply CG.block|apply CG.ret|apply CG.exit|apply NG.exit_then|refine NG.exit_block rfl ?_|apply NG.normal_block|refine SG.val rfl rfl rfl rfl (by first|(apply q64b<;>(first|exact rfl|assumption|exact Ar.mk (by omega)|exact dct (by first|assumption|omega)|exact dcf (by first|assumption|omega)|exact List.not_mem_nil|apply dc_length|exact nm1 (by omega)|fail))|(apply qi64<;>(first|exact rfl|assumption|exact Ar.mk (by omega)|exact dct (by first|assumption|omega)|exact dcf (by first|assumption|omega)|exact List.not_mem_nil|apply dc_length|exact nm1 (by omega)|fail))|((first|apply quad|apply qqu|apply qru|apply qmv|apply qas|apply qla|apply qix|apply qls|apply qad|apply qln|apply qge)<;>(first|exact rfl|assumption|exact Ar.mk (by omega)|exact dct (by first|assumption|omega)|exact dcf (by first|assumption|omega)|exact List.not_mem_nil|apply dc_length|exact nm1 (by omega)|fail))|fail) ?_)
    rw [toB_nat]
    refine SG.buildSlice rfl rfl rfl rfl (bs1 (UInt8.ofNat m)) (fun b2 w2 hk2 hb2 hB2 => ?_)
    have hS2 : Sl by1 1 w2 (some ⟨b2, 0, none⟩) [UInt8.ofNat m] := Sl.of_blk (pre := []) (post := []) by1_len (l := [UInt8.ofNat m]) (T := 5) hB2
    refine SG.appO (enc := by1) (xs := done) (ys := [UInt8.ofNat m]) (base := w.heap.size) rfl rfl rfl (by exact rho_of rfl) (by exact rho_of rfl) rfl rfl rfl rfl by1_len by1_one (own_kp0 ho1 hk2) hS2 (by simp only [maxLen, List.length_cons, List.length_nil]; omega) (by show (done.length + 1) * 1 ≤ _; omega) (Nat.le_trans hs1 hk2.size) (fun v3 w3 hk3 ho3 hw3 => ?_)
    rw [hp] at ho3
    repeat (first|apply CG.seq|apply CG.region|apply SG.nil|apply NG.next|apply CG.skip|apply CG.block|apply CG.ret|apply CG.exit|apply NG.exit_then|refine NG.exit_block rfl ?_|apply NG.normal_block|refine SG.val rfl rfl rfl rfl (by first|(apply q64b<;>(first|exact rfl|assumption|exact Ar.mk (by omega)|exact dct (by first|assumption|omega)|exact dcf (by first|assumption|omega)|exact List.not_mem_nil|apply dc_length|exact nm1 (by omega)|fail))|(apply qi64<;>(first|exact rfl|assumption|exact Ar.mk (by omega)|exact dct (by first|assumption|omega)|exact dcf (by first|assumption|omega)|exact List.not_mem_nil|apply dc_length|exact nm1 (by omega)|fail))|((first|apply quad|apply qqu|apply qru|apply qmv|apply qas|apply qla|apply qix|apply qls|apply qad|apply qln|apply qge)<;>(first|exact rfl|assumption|exact Ar.mk (by omega)|exact dct (by first|assumption|omega)|exact dcf (by first|assumption|omega)|exact List.not_mem_nil|apply dc_length|exact nm1 (by omega)|fail))|fail) ?_)
    refine ret1 (Or.inl rfl) Try.results80 (by first | exact ResV.tmp rfl | exact ResV.agg rfl rfl (by assumption) (by first | exact dc_length _ | exact nc_length _ | exact rc_length _ _ _ | exact ec_length _ | exact dl_length _ _ _ _ | rfl) | exact ResV.cell rfl rfl (by assumption)) ?_
    exact ⟨_, rfl, ho3, (hk1.trans hk2).trans_new hk3 (own_new (own_kp0 ho1 hk2) (Nat.le_refl _))⟩
  · have g1 : (128 : Int) ≤ (m : Int) := by omega
    cases f with
    | zero => simp at hm; omega
    | succ f =>
      have hput : putN (f + 1) m = UInt8.ofNat (128 + m % 128) :: putN f (m / 128) := by simp [putN, hlt]
      rw [hput] at hp
      have e8 := putS_nat m
      have e9 : (m : Int) / 128 = ((m / 128 : Nat) : Int) := by omega
      repeat (first|apply CG.seq|apply CG.region|apply SG.nil|apply NG.next|apply CG.skip|apply CG.block|apply CG.ret|apply CG.exit|apply NG.exit_then|refine NG.exit_block rfl ?_|apply NG.normal_block|refine SG.val rfl rfl rfl rfl (by first|(apply q64b<;>(first|exact rfl|assumption|exact Ar.mk (by omega)|exact dct (by first|assumption|omega)|exact dcf (by first|assumption|omega)|exact List.not_mem_nil|apply dc_length|exact nm1 (by omega)|fail))|(apply qi64<;>(first|exact rfl|assumption|exact Ar.mk (by omega)|exact dct (by first|assumption|omega)|exact dcf (by first|assumption|omega)|exact List.not_mem_nil|apply dc_length|exact nm1 (by omega)|fail))|((first|apply quad|apply qqu|apply qru|apply qmv|apply qas|apply qla|apply qix|apply qls|apply qad|apply qln|apply qge)<;>(first|exact rfl|assumption|exact Ar.mk (by omega)|exact dct (by first|assumption|omega)|exact dcf (by first|assumption|omega)|exact List.not_mem_nil|apply dc_length|exact nm1 (by omega)|fail))|fail) ?_)
      refine CG.cond_t rfl (by exact rho_of rfl) rfl ?_
      repeat (first|apply CG.seq|apply CG.region|apply SG.nil|apply NG.next|apply CG.skip|apply CG.block|apply CG.ret|apply CG.exit|apply NG.exit_then|refine NG.exit_block rfl ?_|apply NG.normal_block|refine SG.val rfl rfl rfl rfl (by first|(apply q64b<;>(first|exact rfl|assumption|exact Ar.mk (by omega)|exact dct (by first|assumption|omega)|exact dcf (by first|assumption|omega)|exact List.not_mem_nil|apply dc_length|exact nm1 (by omega)|fail))|(apply qi64<;>(first|exact rfl|assumption|exact Ar.mk (by omega)|exact dct (by first|assumption|omega)|exact dcf (by first|assumption|omega)|exact List.not_mem_nil|apply dc_length|exact nm1 (by omega)|fail))|((first|apply quad|apply qqu|apply qru|apply qmv|apply qas|apply qla|apply qix|apply qls|apply qad|apply qln|apply qge)<;>(first|exact rfl|assumption|exact Ar.mk (by omega)|exact dct (by first|assumption|omega)|exact dcf (by first|assumption|omega)|exact List.not_mem_nil|apply dc_length|exact nm1 (by omega)|fail))|fail) ?_)
      rw [e8]
      refine SG.buildSlice rfl rfl rfl rfl (bs1 (UInt8.ofNat (128 + m % 128))) (fun b2 w2 hk2 hb2 hB2 => ?_)
      have hS2 : Sl by1 1 w2 (some ⟨b2, 0, none⟩) [UInt8.ofNat (128 + m % 128)] := Sl.of_blk (pre := []) (post := []) by1_len (l := [UInt8.ofNat (128 + m % 128)]) (T := 5) hB2
      refine SG.appO (enc := by1) (xs := done) (ys := [UInt8.ofNat (128 + m % 128)]) (base := w.heap.size) rfl rfl rfl (by exact rho_of rfl) (by exact rho_of rfl) rfl rfl rfl rfl by1_len by1_one (own_kp0 ho1 hk2) hS2 (by simp only [maxLen, List.length_cons, List.length_nil]; omega) (by show (done.length + 1) * 1 ≤ _; omega) (Nat.le_trans hs1 hk2.size) (fun v3 w3 hk3 ho3 hw3 => ?_)
      repeat (first|apply CG.seq|apply CG.region|apply SG.nil|apply NG.next|apply CG.skip|apply CG.block|apply CG.ret|apply CG.exit|apply NG.exit_then|refine NG.exit_block rfl ?_|apply NG.normal_block|refine SG.val rfl rfl rfl rfl (by first|(apply q64b<;>(first|exact rfl|assumption|exact Ar.mk (by omega)|exact dct (by first|assumption|omega)|exact dcf (by first|assumption|omega)|exact List.not_mem_nil|apply dc_length|exact nm1 (by omega)|fail))|(apply qi64<;>(first|exact rfl|assumption|exact Ar.mk (by omega)|exact dct (by first|assumption|omega)|exact dcf (by first|assumption|omega)|exact List.not_mem_nil|apply dc_length|exact nm1 (by omega)|fail))|((first|apply quad|apply qqu|apply qru|apply qmv|apply qas|apply qla|apply qix|apply qls|apply qad|apply qln|apply qge)<;>(first|exact rfl|assumption|exact Ar.mk (by omega)|exact dct (by first|assumption|omega)|exact dcf (by first|assumption|omega)|exact List.not_mem_nil|apply dc_length|exact nm1 (by omega)|fail))|fail) ?_)
      rw [e9]
      have hm' := hm64.h
      refine NG.round (v3, f, done ++ [UInt8.ofNat (128 + m % 128)], m / 128) (by (repeat' (first | exact True.intro | exact rfl | refine And.intro ?_ ?_))) ⟨ho3, by simp only; omega, by simp; omega, ?_, by simp only [List.append_assoc, List.singleton_append]; exact hp, (hk1.trans hk2).trans_new hk3 (own_new (own_kp0 ho1 hk2) (Nat.le_refl _)), ⟨by simp only; omega⟩⟩ (by simp only; omega)
      simp only
      rw [Nat.pow_succ] at hm
      exact Nat.div_lt_of_lt_mul (by rw [Nat.mul_comm]; exact hm)
set_option maxHeartbeats 8000000 in
theorem rpb_spec {w : World} {a : Option Addr} {c : Nat} {l : List UInt8} (hS : Sl by1 1 w a l) (hl : l.length ≤ 100000000) : RetO Try.prog 5 by1 1 52 #[.slice a l.length c] w (putU l.length ++ l) := by
  refine enter1 Try.func52 rfl Try.ntmps52 rfl ?_
  have hp := putN_len 10 l.length
  have hsp := fun w => rput_spec l.length (by omega) w
  repeat (first|apply CG.seq|apply CG.region|apply SG.nil|apply NG.next|apply CG.skip|apply CG.block|apply CG.ret|apply CG.exit|apply NG.exit_then|refine NG.exit_block rfl ?_|apply NG.normal_block|refine SG.val rfl rfl rfl rfl (by first|(apply q64b<;>(first|exact rfl|assumption|exact Ar.mk (by omega)|exact dct (by first|assumption|omega)|exact dcf (by first|assumption|omega)|exact List.not_mem_nil|apply dc_length|exact nm1 (by omega)|fail))|(apply qi64<;>(first|exact rfl|assumption|exact Ar.mk (by omega)|exact dct (by first|assumption|omega)|exact dcf (by first|assumption|omega)|exact List.not_mem_nil|apply dc_length|exact nm1 (by omega)|fail))|((first|apply quad|apply qqu|apply qru|apply qmv|apply qas|apply qla|apply qix|apply qls|apply qad|apply qln|apply qge)<;>(first|exact rfl|assumption|exact Ar.mk (by omega)|exact dct (by first|assumption|omega)|exact dcf (by first|assumption|omega)|exact List.not_mem_nil|apply dc_length|exact nm1 (by omega)|fail))|fail) ?_)
  refine SG.call rfl rfl rfl (by repeat' (first | exact True.intro | exact rho_of rfl | refine And.intro ?_ ?_)) ((hsp w).mono (fun e w1 hh => ?_))
  obtain ⟨v1, he, ho1, hk1⟩ := hh
  refine ⟨_, he, ?_⟩
  repeat (first|apply CG.seq|apply CG.region|apply SG.nil|apply NG.next|apply CG.skip|apply CG.block|apply CG.ret|apply CG.exit|apply NG.exit_then|refine NG.exit_block rfl ?_|apply NG.normal_block|refine SG.val rfl rfl rfl rfl (by first|(apply q64b<;>(first|exact rfl|assumption|exact Ar.mk (by omega)|exact dct (by first|assumption|omega)|exact dcf (by first|assumption|omega)|exact List.not_mem_nil|apply dc_length|exact nm1 (by omega)|fail))|(apply qi64<;>(first|exact rfl|assumption|exact Ar.mk (by omega)|exact dct (by first|assumption|omega)|exact dcf (by first|assumption|omega)|exact List.not_mem_nil|apply dc_length|exact nm1 (by omega)|fail))|((first|apply quad|apply qqu|apply qru|apply qmv|apply qas|apply qla|apply qix|apply qls|apply qad|apply qln|apply qge)<;>(first|exact rfl|assumption|exact Ar.mk (by omega)|exact dct (by first|assumption|omega)|exact dcf (by first|assumption|omega)|exact List.not_mem_nil|apply dc_length|exact nm1 (by omega)|fail))|fail) ?_)
  refine SG.appO (enc := by1) (xs := putU l.length) (ys := l) (base := w.heap.size) rfl rfl rfl (by exact rho_of rfl) (by exact rho_of rfl) rfl rfl rfl rfl by1_len by1_one ho1 (hS.kp0 hk1) (by simp only [maxLen]; show (putN 10 l.length).length + _ ≤ _; omega) (by show ((putN 10 l.length).length + _) * 1 ≤ _; omega) hk1.size (fun v3 w3 hk3 ho3 hw3 => ?_)
  repeat (first|apply CG.seq|apply CG.region|apply SG.nil|apply NG.next|apply CG.skip|apply CG.block|apply CG.ret|apply CG.exit|apply NG.exit_then|refine NG.exit_block rfl ?_|apply NG.normal_block|refine SG.val rfl rfl rfl rfl (by first|(apply q64b<;>(first|exact rfl|assumption|exact Ar.mk (by omega)|exact dct (by first|assumption|omega)|exact dcf (by first|assumption|omega)|exact List.not_mem_nil|apply dc_length|exact nm1 (by omega)|fail))|(apply qi64<;>(first|exact rfl|assumption|exact Ar.mk (by omega)|exact dct (by first|assumption|omega)|exact dcf (by first|assumption|omega)|exact List.not_mem_nil|apply dc_length|exact nm1 (by omega)|fail))|((first|apply quad|apply qqu|apply qru|apply qmv|apply qas|apply qla|apply qix|apply qls|apply qad|apply qln|apply qge)<;>(first|exact rfl|assumption|exact Ar.mk (by omega)|exact dct (by first|assumption|omega)|exact dcf (by first|assumption|omega)|exact List.not_mem_nil|apply dc_length|exact nm1 (by omega)|fail))|fail) ?_)
  refine ret1 (Or.inl rfl) Try.results52 (by first | exact ResV.tmp rfl | exact ResV.agg rfl rfl (by assumption) (by first | exact dc_length _ | exact nc_length _ | exact rc_length _ _ _ | exact ec_length _ | exact dl_length _ _ _ _ | rfl) | exact ResV.cell rfl rfl (by assumption)) ?_
  exact ⟨_, rfl, ho3, hk1.trans_new hk3 (own_new ho1 (Nat.le_refl _))⟩
end Go.Proofs.Ytnoipmimddoioaa
/-
  The document's digest of an offer.
-/
namespace Go.Proofs.Ytnoipmimddoioaa
open Go.Proofs
set_option linter.unusedVariables false

theorem bs5 (w : World) : (Instr.buildSlice 58 5 #[(0, bv 111), (1, bv 102), (2, bv 102), (3, bv 101), (4, bv 114)]).run Try.prog w = .ok (.slice (some ⟨w.heap.size, 0, none⟩) 5 5) { w with heap := w.heap.push (.cells (flt by1 offT).toArray 5) } := by kernel_rfl
theorem bs4 (w : World) : (Instr.buildSlice 58 4 #[(0, bv 100), (1, bv 101), (2, bv 97), (3, bv 108)]).run Try.prog w = .ok (.slice (some ⟨w.heap.size, 0, none⟩) 4 4) { w with heap := w.heap.push (.cells (flt by1 dealT).toArray 5) } := by kernel_rfl
abbrev oB (base : Nat) (l : List UInt8) := oP base 5 1 by1 l

attribute [local irreducible] CG NG SG Vals Der Row Blk MapIs IterAt addI xorI orI andI shlI shrI mulI DerR
set_option maxHeartbeats 16000000 in
theorem rkey_spec (d : Dg) (w : World) : RetO Try.prog 5 by1 1 53 #[dv d] w (putU (num d)) := by
  refine enter1 Try.func53 rfl Try.ntmps53 rfl ?_
  have hp := fun w => rput_spec (num d) (num_lt d) w
  repeat (first|apply CG.seq|apply CG.region|apply SG.nil|apply NG.next|apply CG.ret|refine SG.val rfl rfl rfl rfl (by first|((first|apply qmv|apply qas|apply qlc|apply qla|apply qfa|apply qcv)<;>(first|exact rfl|assumption|exact List.not_mem_nil|apply dc_length|fail))|fail) ?_)
  refine SG.box rfl rfl rfl (by exact rho_of rfl) (fun b1 w1 hk1 hb1 hB1 => ?_)
  have hB1 : Blk w1 b1 (.cells (dc d).toArray 23) := hB1
  have hr := Row.all (l := dc d) hB1 rfl
  repeat (first|apply CG.seq|apply CG.region|apply SG.nil|apply NG.next|apply CG.ret|refine SG.val rfl rfl rfl rfl (by first|((first|apply qmv|apply qas|apply qlc|apply qla|apply qfa|apply qcv)<;>(first|exact rfl|assumption|exact List.not_mem_nil|apply dc_length|fail))|fail) ?_)
  refine SG.ret rfl rfl rfl (by repeat' (first | exact True.intro | exact rho_of rfl | refine And.intro ?_ ?_)) (rnum_spec d w1) (fun w2 hk2 => ?_)
  refine SG.call rfl rfl rfl (by repeat' (first | exact True.intro | exact rho_of rfl | refine And.intro ?_ ?_)) ((hp w2).mono (fun e w3 hh => ?_))
  obtain ⟨v3, he, ho3, hk3⟩ := hh
  refine ⟨_, he, ?_⟩
  have k2 := hk1.trans hk2
  repeat (first|apply CG.seq|apply CG.region|apply SG.nil|apply NG.next|apply CG.ret|refine SG.val rfl rfl rfl rfl (by first|((first|apply qmv|apply qas|apply qlc|apply qla|apply qfa|apply qcv)<;>(first|exact rfl|assumption|exact List.not_mem_nil|apply dc_length|fail))|fail) ?_)
  refine ret1 (Or.inl rfl) Try.results53 (by first | exact ResV.tmp rfl | exact ResV.agg rfl rfl (by assumption) (by first | exact dc_length _ | exact nc_length _ | exact rc_length _ _ _ | exact ec_length _ | exact dl_length _ _ _ _ | rfl) | exact ResV.cell rfl rfl (by assumption)) ?_
  exact ⟨_, rfl, own_mono ho3 k2.size, k2.trans hk3⟩
set_option maxHeartbeats 16000000 in
theorem rnumb_spec (z : Int) (w : World) : RetO Try.prog 5 by1 1 54 #[.int .i64 z] w (putU (un z)) := by
  refine enter1 Try.func54 rfl Try.ntmps54 rfl ?_
  have hp := fun w => rput_spec (un z) (un_lt z) w
  repeat (first|apply CG.seq|apply CG.region|apply SG.nil|apply NG.next|apply CG.ret|refine SG.val rfl rfl rfl rfl (by first|((first|apply qmv|apply qas|apply qlc|apply qla|apply qfa|apply qcv)<;>(first|exact rfl|assumption|exact List.not_mem_nil|apply dc_length|fail))|fail) ?_)
  rw [un_eq]
  refine SG.call rfl rfl rfl (by repeat' (first | exact True.intro | exact rho_of rfl | refine And.intro ?_ ?_)) ((hp w).mono (fun e w3 hh => ?_))
  obtain ⟨v3, he, ho3, hk3⟩ := hh
  refine ⟨_, he, ?_⟩
  repeat (first|apply CG.seq|apply CG.region|apply SG.nil|apply NG.next|apply CG.ret|refine SG.val rfl rfl rfl rfl (by first|((first|apply qmv|apply qas|apply qlc|apply qla|apply qfa|apply qcv)<;>(first|exact rfl|assumption|exact List.not_mem_nil|apply dc_length|fail))|fail) ?_)
  refine ret1 (Or.inl rfl) Try.results54 (by first | exact ResV.tmp rfl | exact ResV.agg rfl rfl (by assumption) (by first | exact dc_length _ | exact nc_length _ | exact rc_length _ _ _ | exact ec_length _ | exact dl_length _ _ _ _ | rfl) | exact ResV.cell rfl rfl (by assumption)) ?_
  exact ⟨_, rfl, ho3, hk3⟩
set_option maxHeartbeats 16000000 in
theorem rdigest_spec (o : Ofr) (w : World) : Ret Try.prog 23 #[ov o] w (dv (digO o)) := by
  refine enter1 Try.func23 rfl Try.ntmps23 rfl ?_
  repeat (first|apply CG.seq|apply CG.region|apply SG.nil|apply NG.next|apply CG.ret|refine SG.val rfl rfl rfl rfl (by first|((first|apply qmv|apply qas|apply qlc|apply qla|apply qfa|apply qcv)<;>(first|exact rfl|assumption|exact List.not_mem_nil|apply dc_length|fail))|fail) ?_)
  refine SG.box rfl rfl rfl (by exact rho_of rfl) (fun b1 w1 hk1 hb1 hB1 => ?_)
  have hB1 : Blk w1 b1 (.cells (ec o).toArray 35) := hB1
  refine SG.alloc rfl rfl rfl (fun b2 w2 hk2 hb2 hB2 => ?_)
  have hB2 : Blk w2 b2 (.cells (dc zd).toArray 23) := hB2
  have s1 := hk1.size
  have l1 := hB1.lt
  have l2 := hB2.lt
  have k2 := hk1.trans hk2
  obtain ⟨r0, r1, r2, r3, r4, r5, r6, -⟩ := ec_rows (hB1.kp0 hk2)
  have q1 := putU_len 5
  have q2 := putU_len (num o.who)
  have q3 := putU_len (num o.rules)
  have q4 : offT.length = 5 := rfl
  have q5 := putU_len (un o.seats)
  have q6 := putU_len (un o.least)
  have q7 := putU_len (un o.most)
  have q8 := putU_len (un o.window)
  have q9 := putU_len (un o.till)
  repeat (first|apply CG.seq|apply CG.region|apply SG.nil|apply NG.next|apply CG.ret|refine SG.val rfl rfl rfl rfl (by first|((first|apply qmv|apply qas|apply qlc|apply qla|apply qfa|apply qcv)<;>(first|exact rfl|assumption|exact List.not_mem_nil|apply dc_length|fail))|fail) ?_)
  refine CG.rows mixed 9 [3, 4, 7, 8, 0, 1, 2, 5, 6] [⟨0, 0, bP w2.heap.size 5 5 (flt by1 offT).toArray⟩, ⟨1, 0, bP w2.heap.size 5 5 (flt by1 offT).toArray⟩, ⟨2, 1, oB w2.heap.size (putU 5 ++ offT)⟩, ⟨5, 2, oB w2.heap.size (putU (num o.who))⟩, ⟨6, 1, oB w2.heap.size (putU 5 ++ offT ++ putU (num o.who))⟩] (by kernel_rfl) (by kernel_rfl) (by kernel_rfl) (OkL.all (by repeat' (first | exact OkL.nil | refine OkL.cons ?_ ?_ | exact oP_ok | exact bP_ok))) ?_
  repeat (refine DerR.val rfl rfl rfl rfl (by first|((first|apply qmv|apply qas|apply qlc|apply qla|apply qfa|apply qcv)<;>(first|exact rfl|assumption|exact List.not_mem_nil|apply dc_length|fail))|fail) ?_)
  refine DerR.build rfl rfl rfl rfl (by repeat' (first | exact OkL.nil | refine OkL.cons ?_ ?_ | exact oP_ok | exact bP_ok)) rfl (Nat.le_refl _) bs5 (fun v0 => ?_)
  refine DerR.mark rfl rfl (by kernel_rfl) rfl rfl rfl (by repeat' (first | exact OkL.nil | refine OkL.cons ?_ ?_ | exact oP_ok | exact bP_ok)) rfl rfl (.head _) (by kernel_rfl) (fun v1 => ?_)
  refine DerR.callO (putU 5 ++ offT) rfl rfl rfl rfl (by repeat' (first | exact OkL.nil | refine OkL.cons ?_ ?_ | exact oP_ok | exact bP_ok)) (vs := [v1]) (by repeat' (first | exact True.intro | exact rho_of rfl | refine And.intro ?_ ?_)) (Nat.le_refl _) (fun w hk hF => ?_) (fun v2 => ?_)
  · obtain ⟨a, c, rfl, hS⟩ := bP.sl (l := offT) by1_len rfl (hF.get (.head _) (by kernel_rfl) rfl)
    exact rpb_spec (c := c) hS (by omega)
  refine DerR.callO (putU (num o.who)) rfl rfl rfl rfl (by repeat' (first | exact OkL.nil | refine OkL.cons ?_ ?_ | exact oP_ok | exact bP_ok)) (vs := [dv o.who]) (by repeat' (first | exact True.intro | exact rho_of rfl | refine And.intro ?_ ?_)) (Nat.le_refl _) (fun w hk hF => rkey_spec o.who w) (fun v5 => ?_)
  refine DerR.append (src := 2) (putU 5 ++ offT) (putU (num o.who)) [(2, putU 5 ++ offT)] by1_len by1_one rfl rfl (by kernel_rfl) ⟨Nat.le_refl _, trivial⟩ rfl rfl rfl (by repeat' (first | exact OkL.nil | refine OkL.cons ?_ ?_ | exact oP_ok | exact bP_ok)) (by exact rho_of rfl) (by exact rho_of rfl) rfl rfl rfl (by simp only [maxLen, List.length_append]; omega) (by simp only [List.length_append]; show (_ + _) * 1 ≤ _; omega) (Nat.le_refl _) (.tail _ (.head _)) (by kernel_rfl) (fun w hk hF => oP.sl by1_len (hF.get (.head _) (by kernel_rfl) rfl)) (fun v6 => ?_)
  refine DerR.tl (fun w3 V hok hV => ?_)
  have ho6 : w3.ownsRow w2.heap.size 5 1 v6 (putU 5 ++ offT ++ putU (num o.who)).length (flt by1 (putU 5 ++ offT ++ putU (num o.who))) := hok.get hV (.head _) rfl
  have hk3 := hok.kp
  refine SG.call rfl rfl rfl (vs := [dv o.rules]) (by repeat' (first | exact True.intro | exact rho_of rfl | refine And.intro ?_ ?_)) ((rkey_spec o.rules w3).mono (fun e w4 hh => ?_))
  obtain ⟨v7, he, ho7, hk4⟩ := hh
  refine ⟨_, he, ?_⟩
  obtain ⟨a7, c7, rfl, _, hS7⟩ := Sl.own by1_len ho7 rfl
  have k4 := hk3.trans hk4
  refine SG.appO (enc := by1) (xs := putU 5 ++ offT ++ putU (num o.who)) (ys := putU (num o.rules)) (base := w2.heap.size) rfl rfl rfl (by exact rho_of rfl) (by exact rho_of rfl) rfl rfl rfl rfl by1_len by1_one (own_kp0 ho6 hk4) hS7 (by simp only [maxLen, List.length_append]; omega) (by simp only [List.length_append]; show (_ + _) * 1 ≤ _; omega) k4.size (fun v8 w5 hk5 ho8 _ => ?_)
  have k5 : Kp [] w2 w5 := k4.trans_new hk5 (own_new (own_kp0 ho6 hk4) (Nat.le_refl _))
  generalize hX : putU 5 ++ offT ++ putU (num o.who) ++ putU (num o.rules) = X at ho8
  have hXl : X.length ≤ 38 := by rw [← hX]; simp only [List.length_append]; omega
  clear hV hok V ho6 ho7 hS7 hk4 hk5
  have r2 := r2.kp0 k5
  have r3 := r3.kp0 k5
  have r4 := r4.kp0 k5
  have r5 := r5.kp0 k5
  have r6 := r6.kp0 k5
  have hb8 := own_nb ho8
  have nb1 := hb8 b1 (by omega)
  have nb2 := hb8 b2 (by omega)
  have s5 := k5.size
  repeat (first|apply CG.seq|apply CG.region|apply SG.nil|apply NG.next|apply CG.ret|refine SG.val rfl rfl rfl rfl (by first|((first|apply qmv|apply qas|apply qlc|apply qla|apply qfa|apply qcv)<;>(first|exact rfl|assumption|exact List.not_mem_nil|apply dc_length|fail))|fail) ?_)
  refine CG.rows1 (base := w2.heap.size) (enc := by1) (E := 5) (sz := 1) (v := v8) (l := X) mixed 11 [0, 1, 2, 5, 6, 9, 10, 3, 4, 7, 8] [⟨1000, 0, oB w2.heap.size X⟩, ⟨3, 1, oB w2.heap.size (putU (un o.seats))⟩, ⟨4, 0, oB w2.heap.size (X ++ putU (un o.seats))⟩, ⟨7, 2, oB w2.heap.size (putU (un o.least))⟩, ⟨8, 0, oB w2.heap.size (X ++ putU (un o.seats) ++ putU (un o.least))⟩] rfl ho8 (by kernel_rfl) (by kernel_rfl) (by repeat' (first | exact OkL.nil | refine OkL.cons ?_ ?_ | exact oP_ok | exact bP_ok)) ?_
  repeat (refine DerR.val rfl rfl rfl rfl (by first|((first|apply qmv|apply qas|apply qlc|apply qla|apply qfa|apply qcv)<;>(first|exact rfl|assumption|exact List.not_mem_nil|apply dc_length|fail))|fail) ?_)
  refine DerR.callO (putU (un o.seats)) rfl rfl rfl rfl (by repeat' (first | exact OkL.nil | refine OkL.cons ?_ ?_ | exact oP_ok | exact bP_ok)) (vs := [.int .i64 o.seats]) (by repeat' (first | exact True.intro | exact rho_of rfl | refine And.intro ?_ ?_)) s5 (fun w hk hF => rnumb_spec o.seats w) (fun v3 => ?_)
  refine DerR.append (src := 1000) X (putU (un o.seats)) [(1000, X)] by1_len by1_one rfl rfl (by kernel_rfl) ⟨Nat.le_refl _, trivial⟩ rfl rfl rfl (by repeat' (first | exact OkL.nil | refine OkL.cons ?_ ?_ | exact oP_ok | exact bP_ok)) (by exact rho_of rfl) (by exact rho_of rfl) rfl rfl rfl (by simp only [maxLen]; omega) (by show (_ + _) * 1 ≤ _; omega) s5 (.tail _ (.head _)) (by kernel_rfl) (fun w hk hF => oP.sl by1_len (hF.get (.head _) (by kernel_rfl) rfl)) (fun v4 => ?_)
  refine DerR.callO (putU (un o.least)) rfl rfl rfl rfl (by repeat' (first | exact OkL.nil | refine OkL.cons ?_ ?_ | exact oP_ok | exact bP_ok)) (vs := [.int .i64 o.least]) (by repeat' (first | exact True.intro | exact rho_of rfl | refine And.intro ?_ ?_)) s5 (fun w hk hF => rnumb_spec o.least w) (fun v7 => ?_)
  refine DerR.append (src := 4) (X ++ putU (un o.seats)) (putU (un o.least)) [(1000, X), (4, X ++ putU (un o.seats))] by1_len by1_one rfl rfl (by kernel_rfl) ⟨by simp only [List.length_append]; omega, Nat.le_refl _, trivial⟩ rfl rfl rfl (by repeat' (first | exact OkL.nil | refine OkL.cons ?_ ?_ | exact oP_ok | exact bP_ok)) (by exact rho_of rfl) (by exact rho_of rfl) rfl rfl rfl (by simp only [maxLen, List.length_append]; omega) (by simp only [List.length_append]; show (_ + _) * 1 ≤ _; omega) s5 (.tail _ (.head _)) (by kernel_rfl) (fun w hk hF => oP.sl by1_len (hF.get (.head _) (by kernel_rfl) rfl)) (fun v9 => ?_)
  refine DerR.tl (fun w6 V hok hV => ?_)
  have ho9 : w6.ownsRow w2.heap.size 5 1 v9 (X ++ putU (un o.seats) ++ putU (un o.least)).length (flt by1 (X ++ putU (un o.seats) ++ putU (un o.least))) := hok.get hV (.head _) rfl
  have hk6 := hok.kp
  have k6 : Kp [] w2 w6 := k5.trans_new hk6 (own_new ho8 (Nat.le_refl _))
  have r5 := r5.kp hk6 nb1
  have r6 := r6.kp hk6 nb1
  refine SG.call rfl rfl rfl (vs := [.int .i64 o.most]) (by repeat' (first | exact True.intro | exact rho_of rfl | refine And.intro ?_ ?_)) ((rnumb_spec o.most w6).mono (fun e w7 hh => ?_))
  obtain ⟨v10, he, ho10, hk7⟩ := hh
  refine ⟨_, he, ?_⟩
  obtain ⟨a10, c10, rfl, _, hS10⟩ := Sl.own by1_len ho10 rfl
  have k7 := k6.trans hk7
  refine SG.appO (enc := by1) (xs := X ++ putU (un o.seats) ++ putU (un o.least)) (ys := putU (un o.most)) (base := w2.heap.size) rfl rfl rfl (by exact rho_of rfl) (by exact rho_of rfl) rfl rfl rfl rfl by1_len by1_one (own_kp0 ho9 hk7) hS10 (by simp only [maxLen, List.length_append]; omega) (by simp only [List.length_append]; show (_ + _) * 1 ≤ _; omega) k7.size (fun v11 w8 hk8 ho11 _ => ?_)
  have k8 : Kp [] w2 w8 := k7.trans_new hk8 (own_new (own_kp0 ho9 hk7) (Nat.le_refl _))
  have nb9 := own_nb ho9 b1 (by omega)
  have r5 := (r5.kp0 hk7).kp hk8 nb9
  have r6 := (r6.kp0 hk7).kp hk8 nb9
  generalize hY : X ++ putU (un o.seats) ++ putU (un o.least) ++ putU (un o.most) = Y at ho11
  have hYl : Y.length ≤ 71 := by rw [← hY]; simp only [List.length_append]; omega
  clear hV hok V ho10 hS10 hk8 hk7 ho9 hk6 ho8
  have nb1 := own_nb ho11 b1 (by omega)
  have nb2 := own_nb ho11 b2 (by omega)
  have s8 := k8.size
  repeat (first|apply CG.seq|apply CG.region|apply SG.nil|apply NG.next|apply CG.ret|refine SG.val rfl rfl rfl rfl (by first|((first|apply qmv|apply qas|apply qlc|apply qla|apply qfa|apply qcv)<;>(first|exact rfl|assumption|exact List.not_mem_nil|apply dc_length|fail))|fail) ?_)
  refine CG.rows1 (base := w2.heap.size) (enc := by1) (E := 5) (sz := 1) (v := v11) (l := Y) mixed 7 [0, 1, 2, 5, 6, 3, 4] [⟨1000, 0, oB w2.heap.size Y⟩, ⟨3, 1, oB w2.heap.size (putU (un o.window))⟩, ⟨4, 0, oB w2.heap.size (Y ++ putU (un o.window))⟩] rfl ho11 (by kernel_rfl) (by kernel_rfl) (by repeat' (first | exact OkL.nil | refine OkL.cons ?_ ?_ | exact oP_ok | exact bP_ok)) ?_
  repeat (refine DerR.val rfl rfl rfl rfl (by first|((first|apply qmv|apply qas|apply qlc|apply qla|apply qfa|apply qcv)<;>(first|exact rfl|assumption|exact List.not_mem_nil|apply dc_length|fail))|fail) ?_)
  refine DerR.callO (putU (un o.window)) rfl rfl rfl rfl (by repeat' (first | exact OkL.nil | refine OkL.cons ?_ ?_ | exact oP_ok | exact bP_ok)) (vs := [.int .i64 o.window]) (by repeat' (first | exact True.intro | exact rho_of rfl | refine And.intro ?_ ?_)) s8 (fun w hk hF => rnumb_spec o.window w) (fun v3 => ?_)
  refine DerR.append (src := 1000) Y (putU (un o.window)) [(1000, Y)] by1_len by1_one rfl rfl (by kernel_rfl) ⟨Nat.le_refl _, trivial⟩ rfl rfl rfl (by repeat' (first | exact OkL.nil | refine OkL.cons ?_ ?_ | exact oP_ok | exact bP_ok)) (by exact rho_of rfl) (by exact rho_of rfl) rfl rfl rfl (by simp only [maxLen]; omega) (by show (_ + _) * 1 ≤ _; omega) s8 (.tail _ (.head _)) (by kernel_rfl) (fun w hk hF => oP.sl by1_len (hF.get (.head _) (by kernel_rfl) rfl)) (fun v4 => ?_)
  refine DerR.tl (fun w9 V hok hV => ?_)
  have ho12 : w9.ownsRow w2.heap.size 5 1 v4 (Y ++ putU (un o.window)).length (flt by1 (Y ++ putU (un o.window))) := hok.get hV (.head _) rfl
  have hk9 := hok.kp
  have k9 : Kp [] w2 w9 := k8.trans_new hk9 (own_new ho11 (Nat.le_refl _))
  refine SG.call rfl rfl rfl (vs := [.int .i64 o.till]) (by repeat' (first | exact True.intro | exact rho_of rfl | refine And.intro ?_ ?_)) ((rnumb_spec o.till w9).mono (fun e w10 hh => ?_))
  obtain ⟨v13, he, ho13, hk10⟩ := hh
  refine ⟨_, he, ?_⟩
  obtain ⟨a13, c13, rfl, _, hS13⟩ := Sl.own by1_len ho13 rfl
  have k10 := k9.trans hk10
  refine SG.appO (enc := by1) (xs := Y ++ putU (un o.window)) (ys := putU (un o.till)) (base := w2.heap.size) rfl rfl rfl (by exact rho_of rfl) (by exact rho_of rfl) rfl rfl rfl rfl by1_len by1_one (own_kp0 ho12 hk10) hS13 (by simp only [maxLen, List.length_append]; omega) (by simp only [List.length_append]; show (_ + _) * 1 ≤ _; omega) k10.size (fun v14 w11 hk11 ho14 _ => ?_)
  have k11 : Kp [] w2 w11 := k10.trans_new hk11 (own_new (own_kp0 ho12 hk10) (Nat.le_refl _))
  have e14 : Y ++ putU (un o.window) ++ putU (un o.till) = digB o := by
    rw [← hY, ← hX]
    simp [digB, putZ, List.append_assoc]
  rw [e14] at ho14
  obtain ⟨a14, c14, rfl, _, hS14⟩ := Sl.own by1_len ho14 rfl
  have hdl : (digB o).length ≤ 100000000 := by
    rw [← e14]
    simp only [List.length_append]
    omega
  refine SG.ret rfl rfl rfl (by repeat' (first | exact True.intro | exact rho_of rfl | refine And.intro ?_ ?_)) (rof_spec (l := digB o) (c := c14) hS14 hdl) (fun w12 hk12 => ?_)
  have k12 := k11.trans hk12
  refine SG.setAll (old := dc zd) (l := dc (digO o)) rfl rfl (by exact rho_of rfl) (by exact rho_of rfl) (hB2.kp0 k12) (dc_length _) (dc_length _) (dc_one _) (fun w13 hk13 hB13 => ?_)
  have hrr : Row w13 b2 0 (dc (digO o)) := Row.all hB13 rfl
  repeat (first|apply CG.seq|apply CG.region|apply SG.nil|apply NG.next|apply CG.ret|refine SG.val rfl rfl rfl rfl (by first|((first|apply qmv|apply qas|apply qlc|apply qla|apply qfa|apply qcv)<;>(first|exact rfl|assumption|exact List.not_mem_nil|apply dc_length|fail))|fail) ?_)
  refine ret1 (Or.inl rfl) Try.results23 (by first | exact ResV.tmp rfl | exact ResV.agg rfl rfl (by assumption) (by first | exact dc_length _ | exact nc_length _ | exact rc_length _ _ _ | exact ec_length _ | exact dl_length _ _ _ _ | rfl) | exact ResV.cell rfl rfl (by assumption)) ?_
  exact ⟨rfl, (k2.trans k12).trans_new hk13 (new1 (by omega))⟩
end Go.Proofs.Ytnoipmimddoioaa
/-
  A deal's name, by the document.
-/
namespace Go.Proofs.Ytnoipmimddoioaa
open Go.Proofs
set_option linter.unusedVariables false

attribute [local irreducible] CG NG SG Vals Der Row Blk MapIs IterAt addI xorI orI andI shlI shrI mulI DerR
set_option maxHeartbeats 16000000 in
theorem rname_spec {w : World} (d : Del) {a : Option Addr} {c : Nat} (hS : Sl dc 8 w a d.who) (hl : d.who.length ≤ 1000) : Ret Try.prog 18 #[dealV d.rules (.slice a d.who.length c) d.stake d.window] w (dv (nameD d)) := by
  refine enter1 Try.func18 rfl Try.ntmps18 rfl ?_
  repeat (first|apply CG.seq|apply CG.region|apply SG.nil|apply NG.next|apply CG.skip|apply CG.block|apply CG.ret|apply CG.exit|apply NG.exit_then|refine NG.exit_block rfl ?_|apply NG.normal_block|refine SG.val rfl rfl rfl rfl (by first|((first|apply qmv|apply qas|apply qlc|apply qla|apply qfa|apply qix|apply qls|apply qad|apply qln)<;>(first|exact rfl|assumption|exact Ar.mk (by omega)|exact dct (by first|assumption|omega)|exact dcf (by first|assumption|omega)|exact List.not_mem_nil|apply dc_length|fail))|fail) ?_)
  refine SG.box rfl rfl rfl (by exact rho_of rfl) (fun b1 w1 hk1 hb1 hB1 => ?_)
  have hB1 : Blk w1 b1 (.cells (dl d.rules (.slice a d.who.length c) d.stake d.window).toArray 39) := hB1
  refine SG.alloc rfl rfl rfl (fun b2 w2 hk2 hb2 hB2 => ?_)
  have hB2 : Blk w2 b2 (.cells (dc zd).toArray 23) := hB2
  have s1 := hk1.size
  have l1 := hB1.lt
  have l2 := hB2.lt
  have k2 := hk1.trans hk2
  have hB1 := hB1.kp0 hk2
  have q1 := putU_len 4
  have q2 := putU_len (num d.rules)
  have q3 : dealT.length = 4 := rfl
  have q4 := putU_len d.who.length
  have q5 := putU_len (un d.stake)
  have q6 := putU_len (un d.window)
  obtain ⟨r0, r1, r2, r3, -⟩ := dl_rows hB1
  have eun : un (d.who.length : Int) = d.who.length := un_nat (by omega)
  have hnum := fun w => rnumb_spec (d.who.length : Int) w
  rw [eun] at hnum
  repeat (first|apply CG.seq|apply CG.region|apply SG.nil|apply NG.next|apply CG.skip|apply CG.block|apply CG.ret|apply CG.exit|apply NG.exit_then|refine NG.exit_block rfl ?_|apply NG.normal_block|refine SG.val rfl rfl rfl rfl (by first|((first|apply qmv|apply qas|apply qlc|apply qla|apply qfa|apply qix|apply qls|apply qad|apply qln)<;>(first|exact rfl|assumption|exact Ar.mk (by omega)|exact dct (by first|assumption|omega)|exact dcf (by first|assumption|omega)|exact List.not_mem_nil|apply dc_length|fail))|fail) ?_)
  refine CG.rows mixed 10 [3, 4, 7, 8, 9, 0, 1, 2, 5, 6] [⟨0, 0, bP w2.heap.size 5 4 (flt by1 dealT).toArray⟩, ⟨1, 0, bP w2.heap.size 5 4 (flt by1 dealT).toArray⟩, ⟨2, 1, oB w2.heap.size (putU 4 ++ dealT)⟩, ⟨5, 2, oB w2.heap.size (putU (num d.rules))⟩, ⟨6, 1, oB w2.heap.size (putU 4 ++ dealT ++ putU (num d.rules))⟩] (by kernel_rfl) (by kernel_rfl) (by kernel_rfl) (OkL.all (by repeat' (first | exact OkL.nil | refine OkL.cons ?_ ?_ | exact oP_ok | exact bP_ok))) ?_
  repeat (refine DerR.val rfl rfl rfl rfl (by first|((first|apply qmv|apply qas|apply qlc|apply qla|apply qfa|apply qix|apply qls|apply qad|apply qln)<;>(first|exact rfl|assumption|exact Ar.mk (by omega)|exact dct (by first|assumption|omega)|exact dcf (by first|assumption|omega)|exact List.not_mem_nil|apply dc_length|fail))|fail) ?_)
  refine DerR.build rfl rfl rfl rfl (by repeat' (first | exact OkL.nil | refine OkL.cons ?_ ?_ | exact oP_ok | exact bP_ok)) rfl (Nat.le_refl _) bs4 (fun v0 => ?_)
  refine DerR.mark rfl rfl (by kernel_rfl) rfl rfl rfl (by repeat' (first | exact OkL.nil | refine OkL.cons ?_ ?_ | exact oP_ok | exact bP_ok)) rfl rfl (.head _) (by kernel_rfl) (fun v1 => ?_)
  refine DerR.callO (putU 4 ++ dealT) rfl rfl rfl rfl (by repeat' (first | exact OkL.nil | refine OkL.cons ?_ ?_ | exact oP_ok | exact bP_ok)) (vs := [v1]) (by repeat' (first | exact True.intro | exact rho_of rfl | refine And.intro ?_ ?_)) (Nat.le_refl _) (fun w hk hF => ?_) (fun v2 => ?_)
  · obtain ⟨a, c, rfl, hS⟩ := bP.sl (l := dealT) by1_len rfl (hF.get (.head _) (by kernel_rfl) rfl)
    exact rpb_spec (c := c) hS (by omega)
  refine DerR.callO (putU (num d.rules)) rfl rfl rfl rfl (by repeat' (first | exact OkL.nil | refine OkL.cons ?_ ?_ | exact oP_ok | exact bP_ok)) (vs := [dv d.rules]) (by repeat' (first | exact True.intro | exact rho_of rfl | refine And.intro ?_ ?_)) (Nat.le_refl _) (fun w hk hF => rkey_spec d.rules w) (fun v5 => ?_)
  refine DerR.append (src := 2) (putU 4 ++ dealT) (putU (num d.rules)) [(2, putU 4 ++ dealT)] by1_len by1_one rfl rfl (by kernel_rfl) ⟨Nat.le_refl _, trivial⟩ rfl rfl rfl (by repeat' (first | exact OkL.nil | refine OkL.cons ?_ ?_ | exact oP_ok | exact bP_ok)) (by exact rho_of rfl) (by exact rho_of rfl) rfl rfl rfl (by simp only [maxLen, List.length_append]; omega) (by simp only [List.length_append]; show (_ + _) * 1 ≤ _; omega) (Nat.le_refl _) (.tail _ (.head _)) (by kernel_rfl) (fun w hk hF => oP.sl by1_len (hF.get (.head _) (by kernel_rfl) rfl)) (fun v6 => ?_)
  refine DerR.tl (fun w3 V hok hV => ?_)
  have ho6 : w3.ownsRow w2.heap.size 5 1 v6 (putU 4 ++ dealT ++ putU (num d.rules)).length (flt by1 (putU 4 ++ dealT ++ putU (num d.rules))) := hok.get hV (.head _) rfl
  have hk3 := hok.kp
  refine SG.call rfl rfl rfl (vs := [.int .i64 (d.who.length : Int)]) (by repeat' (first | exact True.intro | exact rho_of rfl | refine And.intro ?_ ?_)) ((hnum w3).mono (fun e w4 hh => ?_))
  obtain ⟨v7, he, ho7, hk4⟩ := hh
  refine ⟨_, he, ?_⟩
  obtain ⟨a7, c7, rfl, _, hS7⟩ := Sl.own by1_len ho7 rfl
  have k4 := hk3.trans hk4
  refine SG.appO (enc := by1) (xs := putU 4 ++ dealT ++ putU (num d.rules)) (ys := putU d.who.length) (base := w2.heap.size) rfl rfl rfl (by exact rho_of rfl) (by exact rho_of rfl) rfl rfl rfl rfl by1_len by1_one (own_kp0 ho6 hk4) hS7 (by simp only [maxLen, List.length_append]; omega) (by simp only [List.length_append]; show (_ + _) * 1 ≤ _; omega) k4.size (fun v8 w5 hk5 ho8 _ => ?_)
  have k5 : Kp [] w2 w5 := k4.trans_new hk5 (own_new (own_kp0 ho6 hk4) (Nat.le_refl _))
  generalize hX : putU 4 ++ dealT ++ putU (num d.rules) ++ putU d.who.length = X at ho8
  have hXl : X.length ≤ 37 := by rw [← hX]; simp only [List.length_append]; omega
  have ho8 : w5.ownsRow w2.heap.size 5 1 v8 X.length (flt by1 X) := ho8
  clear hV hok V ho6 ho7 hS7 hk4 hk5 hnum
  repeat (first|apply CG.seq|apply CG.region|apply SG.nil|apply NG.next|apply CG.skip|apply CG.block|apply CG.ret|apply CG.exit|apply NG.exit_then|refine NG.exit_block rfl ?_|apply NG.normal_block|refine SG.val rfl rfl rfl rfl (by first|((first|apply qmv|apply qas|apply qlc|apply qla|apply qfa|apply qix|apply qls|apply qad|apply qln)<;>(first|exact rfl|assumption|exact Ar.mk (by omega)|exact dct (by first|assumption|omega)|exact dcf (by first|assumption|omega)|exact List.not_mem_nil|apply dc_length|fail))|fail) ?_)
  refine CG.loop (X := Value × Nat) (fun x => [(1, .pointer (some ⟨b1, 0, none⟩)), (2, .pointer (some ⟨b2, 0, none⟩)), (3, x.1), (4, .int .i64 (x.2 : Int))])
    (fun x w' => x.2 ≤ d.who.length ∧ Kp [] w2 w' ∧ w'.ownsRow w2.heap.size 5 1 x.1 (X ++ whoB (d.who.take x.2)).length (flt by1 (X ++ whoB (d.who.take x.2)))) (fun x => d.who.length - x.2) (v8, 0) ⟨by simp only; omega, k5, by simpa [whoB] using ho8⟩ (by (repeat' (first | exact True.intro | exact rfl | refine And.intro ?_ ?_))) ?_
  rintro ⟨v9, i⟩ w6 ⟨hi, k6, ho9⟩
  simp only at hi ho9
  refine CG.to [(1, .pointer (some ⟨b1, 0, none⟩)), (2, .pointer (some ⟨b2, 0, none⟩)), (3, v9), (4, .int .i64 (i : Int))] (by (repeat' (first | exact True.intro | exact rfl | refine And.intro ?_ ?_))) ?_
  clear ho8 k5 k4 hk3
  have hwl := whoB_len (d.who.take i)
  rw [List.length_take] at hwl
  obtain ⟨r0, r1, r2, r3, -⟩ := dl_rows (hB1.kp0 k6)
  have s6 := k6.size
  by_cases hlt : i < d.who.length
  · have g1 : (i : Int) < (d.who.length : Int) := by omega
    have qi := putU_len (num d.who[i])
    obtain ⟨bz, oz, rfl, hrz⟩ := (hS.kp0 (k2.trans k6)).at hlt
    repeat (first|apply CG.seq|apply CG.region|apply SG.nil|apply NG.next|apply CG.skip|apply CG.block|apply CG.ret|apply CG.exit|apply NG.exit_then|refine NG.exit_block rfl ?_|apply NG.normal_block|refine SG.val rfl rfl rfl rfl (by first|((first|apply qmv|apply qas|apply qlc|apply qla|apply qfa|apply qix|apply qls|apply qad|apply qln)<;>(first|exact rfl|assumption|exact Ar.mk (by omega)|exact dct (by first|assumption|omega)|exact dcf (by first|assumption|omega)|exact List.not_mem_nil|apply dc_length|fail))|fail) ?_)
    refine CG.cond_t rfl (by exact rho_of rfl) rfl ?_
    repeat (first|apply CG.seq|apply CG.region|apply SG.nil|apply NG.next|apply CG.skip|apply CG.block|apply CG.ret|apply CG.exit|apply NG.exit_then|refine NG.exit_block rfl ?_|apply NG.normal_block|refine SG.val rfl rfl rfl rfl (by first|((first|apply qmv|apply qas|apply qlc|apply qla|apply qfa|apply qix|apply qls|apply qad|apply qln)<;>(first|exact rfl|assumption|exact Ar.mk (by omega)|exact dct (by first|assumption|omega)|exact dcf (by first|assumption|omega)|exact List.not_mem_nil|apply dc_length|fail))|fail) ?_)
    refine SG.call rfl rfl rfl (vs := [dv d.who[i]]) (by repeat' (first | exact True.intro | exact rho_of rfl | refine And.intro ?_ ?_)) ((rkey_spec d.who[i] w6).mono (fun e w7 hh => ?_))
    obtain ⟨v10, he, ho10, hk7⟩ := hh
    refine ⟨_, he, ?_⟩
    obtain ⟨a10, c10, rfl, _, hS10⟩ := Sl.own by1_len ho10 rfl
    have k7 := k6.trans hk7
    refine SG.appO (enc := by1) (xs := X ++ whoB (d.who.take i)) (ys := putU (num d.who[i])) (base := w2.heap.size) rfl rfl rfl (by exact rho_of rfl) (by exact rho_of rfl) rfl rfl rfl rfl by1_len by1_one (own_kp0 ho9 hk7) hS10 (by simp only [maxLen, List.length_append]; omega) (by simp only [List.length_append]; show (_ + _) * 1 ≤ _; omega) k7.size (fun v11 w8 hk8 ho11 _ => ?_)
    rw [List.append_assoc, ← whoB_snoc d.who i hlt] at ho11
    repeat (first|apply CG.seq|apply CG.region|apply SG.nil|apply NG.next|apply CG.skip|apply CG.block|apply CG.ret|apply CG.exit|apply NG.exit_then|refine NG.exit_block rfl ?_|apply NG.normal_block|refine SG.val rfl rfl rfl rfl (by first|((first|apply qmv|apply qas|apply qlc|apply qla|apply qfa|apply qix|apply qls|apply qad|apply qln)<;>(first|exact rfl|assumption|exact Ar.mk (by omega)|exact dct (by first|assumption|omega)|exact dcf (by first|assumption|omega)|exact List.not_mem_nil|apply dc_length|fail))|fail) ?_)
    exact NG.round (v11, i + 1) (by (repeat' (first | exact True.intro | exact rfl | refine And.intro ?_ ?_))) ⟨by simp only; omega, k7.trans_new hk8 (own_new (own_kp0 ho9 hk7) (Nat.le_refl _)), ho11⟩ (by simp only; omega)
  · have g1 : ¬ (i : Int) < (d.who.length : Int) := by omega
    have ei : i = d.who.length := by omega
    subst ei
    rw [List.take_of_length_le (Nat.le_refl _)] at ho9
    have hwl := whoB_len d.who
    generalize hY : X ++ whoB d.who = Y at ho9
    have hYl : Y.length ≤ 12000 := by rw [← hY]; simp only [List.length_append]; omega
    have nb1 := own_nb ho9 b1 (by omega)
    repeat (first|apply CG.seq|apply CG.region|apply SG.nil|apply NG.next|apply CG.skip|apply CG.block|apply CG.ret|apply CG.exit|apply NG.exit_then|refine NG.exit_block rfl ?_|apply NG.normal_block|refine SG.val rfl rfl rfl rfl (by first|((first|apply qmv|apply qas|apply qlc|apply qla|apply qfa|apply qix|apply qls|apply qad|apply qln)<;>(first|exact rfl|assumption|exact Ar.mk (by omega)|exact dct (by first|assumption|omega)|exact dcf (by first|assumption|omega)|exact List.not_mem_nil|apply dc_length|fail))|fail) ?_)
    refine CG.cond_f rfl (by exact rho_of rfl) rfl ?_
    repeat (first|apply CG.seq|apply CG.region|apply SG.nil|apply NG.next|apply CG.skip|apply CG.block|apply CG.ret|apply CG.exit|apply NG.exit_then|refine NG.exit_block rfl ?_|apply NG.normal_block|refine SG.val rfl rfl rfl rfl (by first|((first|apply qmv|apply qas|apply qlc|apply qla|apply qfa|apply qix|apply qls|apply qad|apply qln)<;>(first|exact rfl|assumption|exact Ar.mk (by omega)|exact dct (by first|assumption|omega)|exact dcf (by first|assumption|omega)|exact List.not_mem_nil|apply dc_length|fail))|fail) ?_)
    refine CG.rows1 (base := w2.heap.size) (enc := by1) (E := 5) (sz := 1) (v := v9) (l := Y) mixed 7 [0, 1, 2, 5, 6, 3, 4] [⟨1000, 0, oB w2.heap.size Y⟩, ⟨3, 1, oB w2.heap.size (putU (un d.stake))⟩, ⟨4, 0, oB w2.heap.size (Y ++ putU (un d.stake))⟩] rfl ho9 (by kernel_rfl) (by kernel_rfl) (by repeat' (first | exact OkL.nil | refine OkL.cons ?_ ?_ | exact oP_ok | exact bP_ok)) ?_
    repeat (refine DerR.val rfl rfl rfl rfl (by first|((first|apply qmv|apply qas|apply qlc|apply qla|apply qfa|apply qix|apply qls|apply qad|apply qln)<;>(first|exact rfl|assumption|exact Ar.mk (by omega)|exact dct (by first|assumption|omega)|exact dcf (by first|assumption|omega)|exact List.not_mem_nil|apply dc_length|fail))|fail) ?_)
    refine DerR.callO (putU (un d.stake)) rfl rfl rfl rfl (by repeat' (first | exact OkL.nil | refine OkL.cons ?_ ?_ | exact oP_ok | exact bP_ok)) (vs := [.int .i64 d.stake]) (by repeat' (first | exact True.intro | exact rho_of rfl | refine And.intro ?_ ?_)) s6 (fun w hk hF => rnumb_spec d.stake w) (fun v3 => ?_)
    refine DerR.append (src := 1000) Y (putU (un d.stake)) [(1000, Y)] by1_len by1_one rfl rfl (by kernel_rfl) ⟨Nat.le_refl _, trivial⟩ rfl rfl rfl (by repeat' (first | exact OkL.nil | refine OkL.cons ?_ ?_ | exact oP_ok | exact bP_ok)) (by exact rho_of rfl) (by exact rho_of rfl) rfl rfl rfl (by simp only [maxLen]; omega) (by show (_ + _) * 1 ≤ _; omega) s6 (.tail _ (.head _)) (by kernel_rfl) (fun w hk hF => oP.sl by1_len (hF.get (.head _) (by kernel_rfl) rfl)) (fun v4 => ?_)
    refine DerR.tl (fun w9 V hok hV => ?_)
    have ho12 : w9.ownsRow w2.heap.size 5 1 v4 (Y ++ putU (un d.stake)).length (flt by1 (Y ++ putU (un d.stake))) := hok.get hV (.head _) rfl
    have hk9 := hok.kp
    have k9 : Kp [] w2 w9 := k6.trans_new hk9 (own_new ho9 (Nat.le_refl _))
    refine SG.call rfl rfl rfl (vs := [.int .i64 d.window]) (by repeat' (first | exact True.intro | exact rho_of rfl | refine And.intro ?_ ?_)) ((rnumb_spec d.window w9).mono (fun e w10 hh => ?_))
    obtain ⟨v13, he, ho13, hk10⟩ := hh
    refine ⟨_, he, ?_⟩
    obtain ⟨a13, c13, rfl, _, hS13⟩ := Sl.own by1_len ho13 rfl
    have k10 := k9.trans hk10
    refine SG.appO (enc := by1) (xs := Y ++ putU (un d.stake)) (ys := putU (un d.window)) (base := w2.heap.size) rfl rfl rfl (by exact rho_of rfl) (by exact rho_of rfl) rfl rfl rfl rfl by1_len by1_one (own_kp0 ho12 hk10) hS13 (by simp only [maxLen, List.length_append]; omega) (by simp only [List.length_append]; show (_ + _) * 1 ≤ _; omega) k10.size (fun v14 w11 hk11 ho14 _ => ?_)
    have k11 : Kp [] w2 w11 := k10.trans_new hk11 (own_new (own_kp0 ho12 hk10) (Nat.le_refl _))
    have e14 : Y ++ putU (un d.stake) ++ putU (un d.window) = nameB d := by
      rw [← hY, ← hX]
      simp [nameB, putZ, List.append_assoc]
    rw [e14] at ho14
    obtain ⟨a14, c14, rfl, _, hS14⟩ := Sl.own by1_len ho14 rfl
    have hdl := nameB_len hl
    refine SG.ret rfl rfl rfl (by repeat' (first | exact True.intro | exact rho_of rfl | refine And.intro ?_ ?_)) (rof_spec (l := nameB d) (c := c14) hS14 (by omega)) (fun w12 hk12 => ?_)
    have k12 := k11.trans hk12
    refine SG.setAll (old := dc zd) (l := dc (nameD d)) rfl rfl (by exact rho_of rfl) (by exact rho_of rfl) (hB2.kp0 k12) (dc_length _) (dc_length _) (dc_one _) (fun w13 hk13 hB13 => ?_)
    have hrr : Row w13 b2 0 (dc (nameD d)) := Row.all hB13 rfl
    repeat (first|apply CG.seq|apply CG.region|apply SG.nil|apply NG.next|apply CG.skip|apply CG.block|apply CG.ret|apply CG.exit|apply NG.exit_then|refine NG.exit_block rfl ?_|apply NG.normal_block|refine SG.val rfl rfl rfl rfl (by first|((first|apply qmv|apply qas|apply qlc|apply qla|apply qfa|apply qix|apply qls|apply qad|apply qln)<;>(first|exact rfl|assumption|exact Ar.mk (by omega)|exact dct (by first|assumption|omega)|exact dcf (by first|assumption|omega)|exact List.not_mem_nil|apply dc_length|fail))|fail) ?_)
    refine ret1 (Or.inl rfl) Try.results18 (by first | exact ResV.tmp rfl | exact ResV.agg rfl rfl (by assumption) (by first | exact dc_length _ | exact nc_length _ | exact rc_length _ _ _ | exact ec_length _ | exact dl_length _ _ _ _ | rfl) | exact ResV.cell rfl rfl (by assumption)) ?_
    exact ⟨rfl, (k2.trans k12).trans_new hk13 (new1 (by omega))⟩
end Go.Proofs.Ytnoipmimddoioaa
/-
  LobbyNames, walked: a deal as the law hands it to the document; names, and what is the same.
-/
namespace Go.Proofs.Ytnoipmimddoioaa
open Go.Proofs Go.Shelf Go.Sort
set_option linter.unusedVariables false

theorem bdn' (w : World) (a0 a1 a2 a3 a4 a5 a6 a7 : UInt8) (x y : Int) : (Instr.build 39 #[(0, .agg #[bv a0, bv a1, bv a2, bv a3, bv a4, bv a5, bv a6, bv a7]), (2, .int .i64 x), (3, .int .i64 y)]).run Try.prog w = .ok (.agg #[bv a0, bv a1, bv a2, bv a3, bv a4, bv a5, bv a6, bv a7, .slice none 0 0, .int .i64 x, .int .i64 y]) w := by kernel_rfl
theorem bdn (r : Dg) (x y : Int) (w : World) : (Instr.build 39 #[(0, dv r), (2, .int .i64 x), (3, .int .i64 y)]).run Try.prog w = .ok (dealV r (.slice none 0 0) x y) w := by
  obtain ⟨l, hl⟩ := r
  match l, hl with
  | [a0, a1, a2, a3, a4, a5, a6, a7], _ => exact bdn' w a0 a1 a2 a3 a4 a5 a6 a7 x y
theorem bse8' (w : World) (a0 a1 a2 a3 a4 a5 a6 a7 : UInt8) : (Instr.buildSlice 37 1 #[(0, .agg #[bv a0, bv a1, bv a2, bv a3, bv a4, bv a5, bv a6, bv a7])]).run Try.prog w = .ok (.slice (some ⟨w.heap.size, 0, none⟩) 1 1) { w with heap := w.heap.push (.cells #[bv a0, bv a1, bv a2, bv a3, bv a4, bv a5, bv a6, bv a7] 23) } := by kernel_rfl
theorem bse8 (x : Dg) (w : World) : (Instr.buildSlice 37 1 #[(0, dv x)]).run Try.prog w = .ok (.slice (some ⟨w.heap.size, 0, none⟩) 1 1) { w with heap := w.heap.push (.cells (dc x).toArray 23) } := by
  obtain ⟨l, hl⟩ := x
  match l, hl with
  | [a0, a1, a2, a3, a4, a5, a6, a7], _ => exact bse8' w a0 a1 a2 a3 a4 a5 a6 a7

attribute [local irreducible] CG NG SG Vals Der Row Blk MapIs IterAt addI xorI orI andI shlI shrI mulI twoI cmpD cmpW kW digO manyI mixD sortK maxs dealOf nameD DerX
set_option maxHeartbeats 16000000 in
theorem deal_spec {w : World} (d : Del) {a : Option Addr} {c : Nat} (hS : Sl dc 8 w a d.who) (hl : d.who.length ≤ 20) : Calls Try.prog 16 #[dealV d.rules (.slice a d.who.length c) d.stake d.window] w (fun e w' => ∃ v, e = .returned v ∧ DealAt w w' 23 v d ∧ Kp [] w w') := by
  refine enter1 Try.func16 rfl Try.ntmps16 rfl ?_
  repeat (first|apply CG.seq|apply CG.region|apply SG.nil|apply NG.next|apply CG.skip|apply CG.block|apply CG.ret|apply CG.exit|apply NG.exit_then|refine NG.exit_block rfl ?_|apply NG.normal_block|refine SG.val rfl rfl rfl rfl (by first|((first|apply qmv|apply qas|apply qlc|apply qla|apply qfa|apply qix|apply qpk|apply qls|apply qad|apply qln)<;>(first|exact rfl|assumption|exact Ar.mk (by omega)|exact dct (by first|assumption|omega)|exact dcf (by first|assumption|omega)|exact List.not_mem_nil|apply dc_length|apply dl_length|fail))|fail) ?_)
  refine SG.box rfl rfl rfl (by exact rho_of rfl) (fun b1 w1 hk1 hb1 hB1 => ?_)
  have hB1 : Blk w1 b1 (.cells (dl d.rules (.slice a d.who.length c) d.stake d.window).toArray 27) := hB1
  refine SG.alloc rfl rfl rfl (fun b2 w2 hk2 hb2 hB2 => ?_)
  have hB2 : Blk w2 b2 (.cells (dl zd (.slice none 0 0) 0 0).toArray 39) := hB2
  have s1 := hk1.size
  have l1 := hB1.lt
  have l2 := hB2.lt
  have k2 := hk1.trans hk2
  have hB1 := hB1.kp0 hk2
  obtain ⟨r0, r1, r2, r3, -⟩ := dl_rows hB1
  repeat (first|apply CG.seq|apply CG.region|apply SG.nil|apply NG.next|apply CG.skip|apply CG.block|apply CG.ret|apply CG.exit|apply NG.exit_then|refine NG.exit_block rfl ?_|apply NG.normal_block|refine SG.val rfl rfl rfl rfl (by first|((first|apply qmv|apply qas|apply qlc|apply qla|apply qfa|apply qix|apply qpk|apply qls|apply qad|apply qln)<;>(first|exact rfl|assumption|exact Ar.mk (by omega)|exact dct (by first|assumption|omega)|exact dcf (by first|assumption|omega)|exact List.not_mem_nil|apply dc_length|apply dl_length|fail))|fail) ?_)
  refine SG.val rfl rfl rfl rfl (vals_build rfl (bdn d.rules d.stake d.window)) ?_
  refine SG.alloc rfl rfl rfl (fun b3 w3 hk3 hb3 hB3 => ?_)
  refine SG.setAll (l := dl d.rules (.slice none 0 0) d.stake d.window) rfl rfl (by exact rho_of rfl) (by exact rho_of rfl) hB3 (dl_length _ _ _ _) rfl (dl_one _ _ _ _ _ _) (fun w4 hk4 hB4 => ?_)
  have hB4 : Blk w4 b3 (.cells (dl d.rules (.slice none 0 0) d.stake d.window).toArray 39) := hB4
  have k4 : Kp [] w2 w4 := hk3.trans_new hk4 (new1 (by omega))
  have s2 := hk2.size
  have s4 := k4.size
  have l3 := hB4.lt
  repeat (first|apply CG.seq|apply CG.region|apply SG.nil|apply NG.next|apply CG.skip|apply CG.block|apply CG.ret|apply CG.exit|apply NG.exit_then|refine NG.exit_block rfl ?_|apply NG.normal_block|refine SG.val rfl rfl rfl rfl (by first|((first|apply qmv|apply qas|apply qlc|apply qla|apply qfa|apply qix|apply qpk|apply qls|apply qad|apply qln)<;>(first|exact rfl|assumption|exact Ar.mk (by omega)|exact dct (by first|assumption|omega)|exact dcf (by first|assumption|omega)|exact List.not_mem_nil|apply dc_length|apply dl_length|fail))|fail) ?_)
  refine CG.loop (X := Value × Nat) (fun x => [(1, .pointer (some ⟨b1, 0, none⟩)), (2, .pointer (some ⟨b2, 0, none⟩)), (3, .pointer (some ⟨b3, 0, none⟩)), (4, .int .i64 (x.2 : Int))])
    (fun x w' => x.2 ≤ d.who.length ∧ Kp [] w2 w' ∧ w4.heap.size ≤ w'.heap.size ∧ Blk w' b3 (.cells (dl d.rules x.1 d.stake d.window).toArray 39) ∧ w'.ownsRow w2.heap.size 23 8 x.1 (d.who.take x.2).length (flt dc (d.who.take x.2))) (fun x => d.who.length - x.2) (.slice none 0 0, 0) ⟨by simp only; omega, k4, Nat.le_refl _, hB4, own_nil⟩ (by (repeat' (first | exact True.intro | exact rfl | refine And.intro ?_ ?_))) ?_
  rintro ⟨v, i⟩ w5 ⟨hi, k5, s5, hB5, ho⟩
  simp only at hi hB5 ho
  refine CG.to [(1, .pointer (some ⟨b1, 0, none⟩)), (2, .pointer (some ⟨b2, 0, none⟩)), (3, .pointer (some ⟨b3, 0, none⟩)), (4, .int .i64 (i : Int))] (by (repeat' (first | exact True.intro | exact rfl | refine And.intro ?_ ?_))) ?_
  have hlen : (d.who.take i).length = i := by rw [List.length_take]; omega
  obtain ⟨av, cv, rfl, hcv, hSv⟩ := Sl.own dc_length ho rfl
  obtain ⟨r0, r1, r2, r3, -⟩ := dl_rows (hB1.kp0 k5)
  obtain ⟨p0, p1, p2, p3, p4⟩ := dl_rows hB5
  by_cases hlt : i < d.who.length
  · have g1 : (i : Int) < (d.who.length : Int) := by omega
    have g2 : (i : Int) < 20 := by omega
    obtain ⟨bz, oz, rfl, hrz⟩ := (hS.kp0 (k2.trans k5)).at hlt
    repeat (first | first|apply CG.seq|apply CG.region|apply SG.nil|apply NG.next|apply CG.skip|apply CG.block|apply CG.ret|apply CG.exit|apply NG.exit_then|refine NG.exit_block rfl ?_|apply NG.normal_block|refine SG.val rfl rfl rfl rfl (by first|((first|apply qmv|apply qas|apply qlc|apply qla|apply qfa|apply qix|apply qpk|apply qls|apply qad|apply qln)<;>(first|exact rfl|assumption|exact Ar.mk (by omega)|exact dct (by first|assumption|omega)|exact dcf (by first|assumption|omega)|exact List.not_mem_nil|apply dc_length|apply dl_length|fail))|fail) ?_ | refine SG.skip rfl rfl ?_)
    refine CG.cond_t rfl (by exact rho_of rfl) rfl ?_
    repeat (first|apply CG.seq|apply CG.region|apply SG.nil|apply NG.next|apply CG.skip|apply CG.block|apply CG.ret|apply CG.exit|apply NG.exit_then|refine NG.exit_block rfl ?_|apply NG.normal_block|refine SG.val rfl rfl rfl rfl (by first|((first|apply qmv|apply qas|apply qlc|apply qla|apply qfa|apply qix|apply qpk|apply qls|apply qad|apply qln)<;>(first|exact rfl|assumption|exact Ar.mk (by omega)|exact dct (by first|assumption|omega)|exact dcf (by first|assumption|omega)|exact List.not_mem_nil|apply dc_length|apply dl_length|fail))|fail) ?_)
    refine CG.free mixed 8 [0, 1, 2, 3, 4, 5, 6, 7] [(7, gS w5.heap.size dc 8 [d.who[i]])] (by kernel_rfl) (by intro p hp y; simp at hp; rcases hp with rfl; exact gS_stab y) ?_
    repeat (refine DerX.val rfl rfl rfl rfl (by first|((first|apply qmv|apply qas|apply qlc|apply qla|apply qfa|apply qix|apply qpk|apply qls|apply qad|apply qln)<;>(first|exact rfl|assumption|exact Ar.mk (by omega)|exact dct (by first|assumption|omega)|exact dcf (by first|assumption|omega)|exact List.not_mem_nil|apply dc_length|apply dl_length|fail))|fail) ?_)
    refine DerX.buildSlice [d.who[i]] dc_length rfl rfl rfl rfl rfl rfl (Nat.le_refl _) (fun w => by rw [flt_one]; exact bse8 d.who[i] w) (fun a9 c9 => ?_)
    refine DerX.tl (fun w6 hk6 hF => ?_)
    have hS9 : SlF w5.heap.size dc 8 w6 a9 c9 [d.who[i]] := hF _ (.head _)
    have ho6 := own_kp0 ho hk6
    refine SG.appO (enc := dc) (xs := d.who.take i) (ys := [d.who[i]]) (base := w2.heap.size) rfl rfl rfl (by exact rho_of rfl) (by exact rho_of rfl) rfl rfl rfl rfl dc_length dc_one ho6 hS9.sl (by rw [hlen]; simp only [maxLen, List.length_cons, List.length_nil]; omega) (by rw [hlen]; show (i + 1) * 8 ≤ _; omega) (k5.trans hk6).size (fun v7 w7 hk7 ho7 _ => ?_)
    rw [← List.take_succ_eq_append_getElem hlt] at ho7
    have hBb := blk_own ho6 (by decide) (hB5.kp0 hk6) hk7
    have k7 : Kp [] w2 w7 := (k5.trans hk6).trans_new hk7 (own_new ho6 (Nat.le_refl _))
    obtain ⟨a7, c7, rfl, _, _⟩ := Sl.own dc_length ho7 rfl
    repeat (first|apply CG.seq|apply CG.region|apply SG.nil|apply NG.next|apply CG.skip|apply CG.block|apply CG.ret|apply CG.exit|apply NG.exit_then|refine NG.exit_block rfl ?_|apply NG.normal_block|refine SG.val rfl rfl rfl rfl (by first|((first|apply qmv|apply qas|apply qlc|apply qla|apply qfa|apply qix|apply qpk|apply qls|apply qad|apply qln)<;>(first|exact rfl|assumption|exact Ar.mk (by omega)|exact dct (by first|assumption|omega)|exact dcf (by first|assumption|omega)|exact List.not_mem_nil|apply dc_length|apply dl_length|fail))|fail) ?_)
    refine SG.store rfl rfl (by exact rho_of rfl) (by exact rho_of rfl) hBb rfl (by show 8 + 1 ≤ _; simp [dl_length]) rfl (fun w8 hk8 hBc => ?_)
    have ho8 := own_kp ho7 hk8 (own_neb ho7 (by decide) hBb)
    have hBc : Blk w8 b3 (.cells (spl (dl d.rules (.slice av (d.who.take i).length cv) d.stake d.window) 8 [.slice a7 (d.who.take (i + 1)).length c7]).toArray 39) := hBc
    rw [dl_set1] at hBc
    have z1 := hk6.size
    have z2 := hk7.size
    have z3 := hk8.size
    have k8 : Kp [] w2 w8 := k7.trans_new hk8 (new1 (by omega))
    repeat (first|apply CG.seq|apply CG.region|apply SG.nil|apply NG.next|apply CG.skip|apply CG.block|apply CG.ret|apply CG.exit|apply NG.exit_then|refine NG.exit_block rfl ?_|apply NG.normal_block|refine SG.val rfl rfl rfl rfl (by first|((first|apply qmv|apply qas|apply qlc|apply qla|apply qfa|apply qix|apply qpk|apply qls|apply qad|apply qln)<;>(first|exact rfl|assumption|exact Ar.mk (by omega)|exact dct (by first|assumption|omega)|exact dcf (by first|assumption|omega)|exact List.not_mem_nil|apply dc_length|apply dl_length|fail))|fail) ?_)
    refine NG.round (.slice a7 (d.who.take (i + 1)).length c7, i + 1) (by (repeat' (first | exact True.intro | exact rfl | refine And.intro ?_ ?_))) ⟨by simp only; omega, k8, by omega, hBc, ho8⟩ (by simp only; omega)
  · have g1 : ¬ (i : Int) < (d.who.length : Int) := by omega
    rw [List.take_of_length_le (by omega)] at ho hB5 hSv p4 ⊢
    repeat (first | first|apply CG.seq|apply CG.region|apply SG.nil|apply NG.next|apply CG.skip|apply CG.block|apply CG.ret|apply CG.exit|apply NG.exit_then|refine NG.exit_block rfl ?_|apply NG.normal_block|refine SG.val rfl rfl rfl rfl (by first|((first|apply qmv|apply qas|apply qlc|apply qla|apply qfa|apply qix|apply qpk|apply qls|apply qad|apply qln)<;>(first|exact rfl|assumption|exact Ar.mk (by omega)|exact dct (by first|assumption|omega)|exact dcf (by first|assumption|omega)|exact List.not_mem_nil|apply dc_length|apply dl_length|fail))|fail) ?_ | refine SG.skip rfl rfl ?_)
    refine CG.cond_f rfl (by exact rho_of rfl) rfl ?_
    repeat (first|apply CG.seq|apply CG.region|apply SG.nil|apply NG.next|apply CG.skip|apply CG.block|apply CG.ret|apply CG.exit|apply NG.exit_then|refine NG.exit_block rfl ?_|apply NG.normal_block|refine SG.val rfl rfl rfl rfl (by first|((first|apply qmv|apply qas|apply qlc|apply qla|apply qfa|apply qix|apply qpk|apply qls|apply qad|apply qln)<;>(first|exact rfl|assumption|exact Ar.mk (by omega)|exact dct (by first|assumption|omega)|exact dcf (by first|assumption|omega)|exact List.not_mem_nil|apply dc_length|apply dl_length|fail))|fail) ?_)
    refine SG.setAll (l := dl d.rules (.slice av d.who.length cv) d.stake d.window) rfl rfl (by exact rho_of rfl) (by exact rho_of rfl) (hB2.kp0 k5) (dl_length _ _ _ _) rfl (dl_one _ _ _ _ _ _) (fun w6 hk6 hB6 => ?_)
    have hr : Row w6 b2 0 (dl d.rules (.slice av d.who.length cv) d.stake d.window) := Row.all hB6 rfl
    repeat (first|apply CG.seq|apply CG.region|apply SG.nil|apply NG.next|apply CG.skip|apply CG.block|apply CG.ret|apply CG.exit|apply NG.exit_then|refine NG.exit_block rfl ?_|apply NG.normal_block|refine SG.val rfl rfl rfl rfl (by first|((first|apply qmv|apply qas|apply qlc|apply qla|apply qfa|apply qix|apply qpk|apply qls|apply qad|apply qln)<;>(first|exact rfl|assumption|exact Ar.mk (by omega)|exact dct (by first|assumption|omega)|exact dcf (by first|assumption|omega)|exact List.not_mem_nil|apply dc_length|apply dl_length|fail))|fail) ?_)
    refine ret1 (Or.inl rfl) Try.results16 (ResV.agg rfl rfl hr (dl_length _ _ _ _)) ?_
    exact ⟨_, rfl, ⟨_, rfl, own_mono (own_kp ho hk6 (own_neb ho (by decide) (hB2.kp0 k5))) k2.size⟩, (k2.trans k5).trans_new hk6 (new1 (by omega))⟩
end Go.Proofs.Ytnoipmimddoioaa
/-
  Digests put in order, by the document.
-/
namespace Go.Proofs.Ytnoipmimddoioaa
open Go.Proofs Go.Shelf Go.Sort
set_option linter.unusedVariables false

/-! ### plainly -/
theorem insK_at {α : Type} (key : α → Nat) (x : α) : ∀ (l : List α) (j : Nat), j ≤ l.length → (∀ i (h : i < l.length), i < j → key l[i] ≤ key x) → (∀ h : j < l.length, ¬ key l[j] ≤ key x) → insK key x l = l.take j ++ [x] ++ l.drop j
  | [], j, hj, _, _ => by
    have : j = 0 := by simpa using hj
    subst this
    rfl
  | y :: r, 0, _, _, h2 => by
    have h := h2 (by simp)
    simp only [List.getElem_cons_zero] at h
    unfold insK
    rw [if_neg h]
    rfl
  | y :: r, j + 1, hj, h1, h2 => by
    have h := h1 0 (by simp) (by omega)
    simp only [List.getElem_cons_zero] at h
    unfold insK
    rw [if_pos h, insK_at key x r j (by simpa using hj) (fun i hi hij => by
      have := h1 (i + 1) (by simp; omega) (by omega)
      simpa using this) (fun hjr => by
      have := h2 (by simp; omega)
      simpa using this)]
    rfl
theorem sortK_snoc {α : Type} (key : α → Nat) (l : List α) (i : Nat) (h : i < l.length) : sortK key (l.take (i + 1)) = insK key l[i] (sortK key (l.take i)) := by
  unfold sortK
  rw [List.take_succ_eq_append_getElem h, List.foldl_append]
  rfl
/-- A row's end. -/
theorem own_form {w : World} {base n sz : Nat} {T : TypeId} {a : Option Addr} {m c : Nat} {xs : List Value} (ho : w.ownsRow base T sz (.slice a m c) n xs) : a = none ∨ ∃ b off, a = some ⟨b, off, none⟩ := by
  rcases ho.2 with ⟨h, _⟩ | ⟨g, cap, cur, h, _⟩
  · cases h
    exact Or.inl rfl
  · cases h
    exact Or.inr ⟨_, _, rfl⟩
theorem sl_drop {α : Type} {enc : α → List Value} {sz : Nat} {w : World} {b off c j : Nat} {l : List α} (hS : Sl enc sz w (some ⟨b, off, none⟩) l) (hc : l.length ≤ c) : Sl enc sz w (some ⟨b, if c = j then off else off + j * sz, none⟩) (l.drop j) := fun i x hx => by
  rw [List.getElem?_drop] at hx
  have hlt := (List.getElem?_eq_some_iff.1 hx).1
  obtain ⟨b', off', h, hr⟩ := hS _ x hx
  cases h
  rw [if_neg (by omega)]
  refine ⟨_, _, rfl, ?_⟩
  rw [Nat.add_mul, ← Nat.add_assoc] at hr
  exact hr
theorem vals_drop {α : Type} {enc : α → List Value} {P : Program} {sz : Nat} {E : TypeId} [f : Sz P E sz] {w : World} {a : Option Addr} {c j : Nat} {l : List α} (hS : Sl enc sz w a l) (hc : l.length ≤ c) (hf : a = none ∨ ∃ b off, a = some ⟨b, off, none⟩) (hj : j ≤ l.length) :
    ∃ a', Sl enc sz w a' (l.drop j) ∧ ∀ {T : TypeId} [u : Ut P T (.slice E)] {S : List Nat} {w0 : World} {F : World → Prop} {L : Env} {d : Option Nat} {ty : TypeId} {pos : String} {af : Array Edge} {g : Option (Nat × Bool)} {x lo : Operand} {k : IntKind}, ro L x = some (.slice a l.length c) → ro L lo = some (.int k (j : Int)) →
      Vals P S w0 F L ⟨d, .slice T x (some lo) none none, ty, pos, af, g⟩ (.slice a' (l.drop j).length (c - j)) := by
  rcases hf with rfl | ⟨b, off, rfl⟩
  · refine ⟨none, fun i x hx => ?_, fun hx hlo => ?_⟩
    · rw [List.getElem?_drop] at hx
      obtain ⟨b, off, h, _⟩ := hS _ x hx
      cases h
    · rw [List.length_drop]
      exact vals_fromN hx hlo hj
  · refine ⟨some ⟨b, if c = j then off else off + j * sz, none⟩, sl_drop hS hc, fun hx hlo => ?_⟩
    · rw [List.length_drop]
      exact qfr hx hlo rfl ⟨hj⟩
theorem sortK_nil {α : Type} (key : α → Nat) : sortK key ([] : List α) = [] := rfl
theorem bse0 (w : World) : (Instr.buildSlice 37 0 #[]).run Try.prog w = .ok (.slice (some ⟨w.heap.size, 0, none⟩) 0 0) { w with heap := w.heap.push (.cells #[] 23) } := by kernel_rfl
abbrev oD (base : Nat) (l : List Dg) := oP base 23 8 dc l

attribute [local irreducible] CG NG SG Vals Der Row Blk MapIs IterAt addI xorI orI andI shlI shrI mulI twoI cmpD cmpW kW digO manyI mixD sortK maxs dealOf nameD DerX DerR insK
set_option maxHeartbeats 16000000 in
theorem sorted_spec {w : World} {l : List Dg} {a : Option Addr} {c : Nat} (hS : Sl dc 8 w a l) (hl : l.length ≤ 100000) : RetO Try.prog 23 dc 8 44 #[.slice a l.length c] w (sortK num l) := by
  refine enter1 Try.func44 rfl Try.ntmps44 rfl ?_
  have e0 : sortK num ([] : List Dg) = [] := sortK_nil num
  repeat (first|apply CG.seq|apply CG.region|apply SG.nil|apply NG.next|apply CG.skip|apply CG.block|apply CG.ret|apply CG.exit|apply NG.exit_then|refine NG.exit_block rfl ?_|apply NG.normal_block|refine SG.val rfl rfl rfl rfl (by first|((first|apply qmv|apply qas|apply qla|apply qix|apply qpk|apply qls|apply qad|apply qln|apply qle|apply qfr|apply qto)<;>(first|exact rfl|assumption|exact Ar.mk (by omega)|exact dct (by first|assumption|omega)|exact dcf (by first|assumption|omega)|exact List.not_mem_nil|apply dc_length|fail))|fail) ?_)
  refine CG.loop (X := Value × Nat) (fun x => [(0, .slice a l.length c), (3, x.1), (4, .int .i64 (x.2 : Int))]) (fun x w' => x.2 ≤ l.length ∧ Kp [] w w' ∧ w'.ownsRow w.heap.size 23 8 x.1 (sortK num (l.take x.2)).length (flt dc (sortK num (l.take x.2)))) (fun x => l.length - x.2) (.slice none 0 0, 0) ⟨by simp only; omega, Kp.refl _ _, by simp only [List.take_zero, e0]; exact own_nil⟩ (by (repeat' (first | exact True.intro | exact rfl | refine And.intro ?_ ?_))) ?_
  rintro ⟨v, i⟩ w1 ⟨hi, hk1, ho⟩
  simp only at hi ho
  refine CG.to [(0, .slice a l.length c), (3, v), (4, .int .i64 (i : Int))] (by (repeat' (first | exact True.intro | exact rfl | refine And.intro ?_ ?_))) ?_
  clear e0
  by_cases hlt : i < l.length
  · have g1 : (i : Int) < (l.length : Int) := by omega
    have hsn := sortK_snoc num l i hlt
    have hO : (sortK num (l.take i)).length = i := by rw [(sortK_perm num _).length_eq, List.length_take]; omega
    generalize sortK num (l.take i) = O at ho hsn hO
    obtain ⟨bz, oz, rfl, hrz⟩ := (hS.kp0 hk1).at hlt
    obtain ⟨av, cv, rfl, hcv, hSv⟩ := Sl.own dc_length ho rfl
    generalize hx : l[i] = x at hrz hsn
    repeat (first|apply CG.seq|apply CG.region|apply SG.nil|apply NG.next|apply CG.skip|apply CG.block|apply CG.ret|apply CG.exit|apply NG.exit_then|refine NG.exit_block rfl ?_|apply NG.normal_block|refine SG.val rfl rfl rfl rfl (by first|((first|apply qmv|apply qas|apply qla|apply qix|apply qpk|apply qls|apply qad|apply qln|apply qle|apply qfr|apply qto)<;>(first|exact rfl|assumption|exact Ar.mk (by omega)|exact dct (by first|assumption|omega)|exact dcf (by first|assumption|omega)|exact List.not_mem_nil|apply dc_length|fail))|fail) ?_)
    refine CG.cond_t rfl (by exact rho_of rfl) rfl ?_
    repeat (first|apply CG.seq|apply CG.region|apply SG.nil|apply NG.next|apply CG.skip|apply CG.block|apply CG.ret|apply CG.exit|apply NG.exit_then|refine NG.exit_block rfl ?_|apply NG.normal_block|refine SG.val rfl rfl rfl rfl (by first|((first|apply qmv|apply qas|apply qla|apply qix|apply qpk|apply qls|apply qad|apply qln|apply qle|apply qfr|apply qto)<;>(first|exact rfl|assumption|exact Ar.mk (by omega)|exact dct (by first|assumption|omega)|exact dcf (by first|assumption|omega)|exact List.not_mem_nil|apply dc_length|fail))|fail) ?_)
    refine CG.loop (X := Nat) (fun j => [(0, .slice (some ⟨bz, oz, none⟩) l.length c), (3, .slice av O.length cv), (4, .int .i64 (i : Int)), (5, .int .i64 (j : Int))]) (fun j w' => j ≤ O.length ∧ Kp [] w1 w' ∧ ∀ k (h : k < O.length), k < j → num O[k] ≤ num x) (fun j => O.length - j) 0 ⟨by omega, Kp.refl _ _, fun _ _ h => absurd h (Nat.not_lt_zero _)⟩ (by (repeat' (first | exact True.intro | exact rfl | refine And.intro ?_ ?_))) ?_
    rintro j w2 ⟨hj, hk2, hle⟩
    have hrz2 := hrz.kp0 hk2
    have hcase : (∃ h : j < O.length, num O[j] ≤ num x) ∨ (∃ h : j < O.length, ¬ num O[j] ≤ num x) ∨ ¬ j < O.length := by
      by_cases h : j < O.length
      · by_cases h2 : num O[j] ≤ num x
        · exact Or.inl ⟨h, h2⟩
        · exact Or.inr (Or.inl ⟨h, h2⟩)
      · exact Or.inr (Or.inr h)
    have fin : (∀ h : j < O.length, ¬ num O[j] ≤ num x) → insK num x O = O.take j ++ [x] ++ O.drop j := fun h => insK_at num x O j hj hle h
    rcases hcase with ⟨h, h2⟩ | hcase
    · have g2 : (j : Int) < (O.length : Int) := by omega
      have g3 : (num O[j] : Int) ≤ (num x : Int) := by omega
      obtain ⟨bo, oo, rfl, hro⟩ := (hSv.kp0 hk2).at h
      repeat (first|apply CG.seq|apply CG.region|apply SG.nil|apply NG.next|apply CG.skip|apply CG.block|apply CG.ret|apply CG.exit|apply NG.exit_then|refine NG.exit_block rfl ?_|apply NG.normal_block|refine SG.val rfl rfl rfl rfl (by first|((first|apply qmv|apply qas|apply qla|apply qix|apply qpk|apply qls|apply qad|apply qln|apply qle|apply qfr|apply qto)<;>(first|exact rfl|assumption|exact Ar.mk (by omega)|exact dct (by first|assumption|omega)|exact dcf (by first|assumption|omega)|exact List.not_mem_nil|apply dc_length|fail))|fail) ?_)
      refine CG.draw0 mixed [0, 1, 2, 3, 4, 5, 6, 7, 8, 9, 10, 11, 12, 13, 14, 15, 16] [] (by kernel_rfl) ?_
      repeat (first | refine Der.val rfl rfl rfl (by first|((first|apply qmv|apply qas|apply qla|apply qix|apply qpk|apply qls|apply qad|apply qln|apply qle|apply qfr|apply qto)<;>(first|exact rfl|assumption|exact Ar.mk (by omega)|exact dct (by first|assumption|omega)|exact dcf (by first|assumption|omega)|exact List.not_mem_nil|apply dc_length|fail))|fail) ?_ | refine Der.skip rfl rfl ?_)
      refine Der.call (vs := [dv O[j]]) rfl rfl rfl (by repeat' (first | exact True.intro | exact rho_of rfl | refine And.intro ?_ ?_)) (fun w _ _ => rnum_spec O[j] w) ?_
      repeat (first | refine Der.val rfl rfl rfl (by first|((first|apply qmv|apply qas|apply qla|apply qix|apply qpk|apply qls|apply qad|apply qln|apply qle|apply qfr|apply qto)<;>(first|exact rfl|assumption|exact Ar.mk (by omega)|exact dct (by first|assumption|omega)|exact dcf (by first|assumption|omega)|exact List.not_mem_nil|apply dc_length|fail))|fail) ?_ | refine Der.skip rfl rfl ?_)
      refine Der.call (vs := [dv x]) rfl rfl rfl (by repeat' (first | exact True.intro | exact rho_of rfl | refine And.intro ?_ ?_)) (fun w _ _ => rnum_spec x w) ?_
      repeat (first | refine Der.val rfl rfl rfl (by first|((first|apply qmv|apply qas|apply qla|apply qix|apply qpk|apply qls|apply qad|apply qln|apply qle|apply qfr|apply qto)<;>(first|exact rfl|assumption|exact Ar.mk (by omega)|exact dct (by first|assumption|omega)|exact dcf (by first|assumption|omega)|exact List.not_mem_nil|apply dc_length|fail))|fail) ?_ | refine Der.skip rfl rfl ?_)
      refine Der.fin (fun w3 hk3 _ _ => ?_)
      repeat (first|apply CG.seq|apply CG.region|apply SG.nil|apply NG.next|apply CG.skip|apply CG.block|apply CG.ret|apply CG.exit|apply NG.exit_then|refine NG.exit_block rfl ?_|apply NG.normal_block|refine SG.val rfl rfl rfl rfl (by first|((first|apply qmv|apply qas|apply qla|apply qix|apply qpk|apply qls|apply qad|apply qln|apply qle|apply qfr|apply qto)<;>(first|exact rfl|assumption|exact Ar.mk (by omega)|exact dct (by first|assumption|omega)|exact dcf (by first|assumption|omega)|exact List.not_mem_nil|apply dc_length|fail))|fail) ?_)
      refine CG.cond_t rfl (by exact rho_of rfl) rfl ?_
      repeat (first|apply CG.seq|apply CG.region|apply SG.nil|apply NG.next|apply CG.skip|apply CG.block|apply CG.ret|apply CG.exit|apply NG.exit_then|refine NG.exit_block rfl ?_|apply NG.normal_block|refine SG.val rfl rfl rfl rfl (by first|((first|apply qmv|apply qas|apply qla|apply qix|apply qpk|apply qls|apply qad|apply qln|apply qle|apply qfr|apply qto)<;>(first|exact rfl|assumption|exact Ar.mk (by omega)|exact dct (by first|assumption|omega)|exact dcf (by first|assumption|omega)|exact List.not_mem_nil|apply dc_length|fail))|fail) ?_)
      refine NG.round (j + 1) (by (repeat' (first | exact True.intro | exact rfl | refine And.intro ?_ ?_))) ⟨by omega, hk2.trans hk3, fun k hk hkj => ?_⟩ (by omega)
      by_cases e : k = j
      · subst e; exact h2
      · exact hle k hk (by omega)
    · have hins : insK num x O = O.take j ++ [x] ++ O.drop j := fin (fun h => by
        rcases hcase with ⟨_, h2⟩ | h2
        · exact h2
        · exact absurd h h2)
      have hjl : (O.take j).length = j := by rw [List.length_take]; omega
      have hdl : (O.drop j).length = O.length - j := List.length_drop
      have hfo := own_form ho
      rcases hcase with ⟨h, h2⟩ | h
      · have g2 : (j : Int) < (O.length : Int) := by omega
        have g3 : ¬ (num O[j] : Int) ≤ (num x : Int) := by omega
        obtain ⟨bo, oo, rfl, hro⟩ := (hSv.kp0 hk2).at h
        repeat (first|apply CG.seq|apply CG.region|apply SG.nil|apply NG.next|apply CG.skip|apply CG.block|apply CG.ret|apply CG.exit|apply NG.exit_then|refine NG.exit_block rfl ?_|apply NG.normal_block|refine SG.val rfl rfl rfl rfl (by first|((first|apply qmv|apply qas|apply qla|apply qix|apply qpk|apply qls|apply qad|apply qln|apply qle|apply qfr|apply qto)<;>(first|exact rfl|assumption|exact Ar.mk (by omega)|exact dct (by first|assumption|omega)|exact dcf (by first|assumption|omega)|exact List.not_mem_nil|apply dc_length|fail))|fail) ?_)
        refine CG.draw0 mixed [0, 1, 2, 3, 4, 5, 6, 7, 8, 9, 10, 11, 12, 13, 14, 15, 16] [] (by kernel_rfl) ?_
        repeat (first | refine Der.val rfl rfl rfl (by first|((first|apply qmv|apply qas|apply qla|apply qix|apply qpk|apply qls|apply qad|apply qln|apply qle|apply qfr|apply qto)<;>(first|exact rfl|assumption|exact Ar.mk (by omega)|exact dct (by first|assumption|omega)|exact dcf (by first|assumption|omega)|exact List.not_mem_nil|apply dc_length|fail))|fail) ?_ | refine Der.skip rfl rfl ?_)
        refine Der.call (vs := [dv O[j]]) rfl rfl rfl (by repeat' (first | exact True.intro | exact rho_of rfl | refine And.intro ?_ ?_)) (fun w _ _ => rnum_spec O[j] w) ?_
        repeat (first | refine Der.val rfl rfl rfl (by first|((first|apply qmv|apply qas|apply qla|apply qix|apply qpk|apply qls|apply qad|apply qln|apply qle|apply qfr|apply qto)<;>(first|exact rfl|assumption|exact Ar.mk (by omega)|exact dct (by first|assumption|omega)|exact dcf (by first|assumption|omega)|exact List.not_mem_nil|apply dc_length|fail))|fail) ?_ | refine Der.skip rfl rfl ?_)
        refine Der.call (vs := [dv x]) rfl rfl rfl (by repeat' (first | exact True.intro | exact rho_of rfl | refine And.intro ?_ ?_)) (fun w _ _ => rnum_spec x w) ?_
        repeat (first | refine Der.val rfl rfl rfl (by first|((first|apply qmv|apply qas|apply qla|apply qix|apply qpk|apply qls|apply qad|apply qln|apply qle|apply qfr|apply qto)<;>(first|exact rfl|assumption|exact Ar.mk (by omega)|exact dct (by first|assumption|omega)|exact dcf (by first|assumption|omega)|exact List.not_mem_nil|apply dc_length|fail))|fail) ?_ | refine Der.skip rfl rfl ?_)
        refine Der.fin (fun w3 hk3 _ _ => ?_)
        repeat (first|apply CG.seq|apply CG.region|apply SG.nil|apply NG.next|apply CG.skip|apply CG.block|apply CG.ret|apply CG.exit|apply NG.exit_then|refine NG.exit_block rfl ?_|apply NG.normal_block|refine SG.val rfl rfl rfl rfl (by first|((first|apply qmv|apply qas|apply qla|apply qix|apply qpk|apply qls|apply qad|apply qln|apply qle|apply qfr|apply qto)<;>(first|exact rfl|assumption|exact Ar.mk (by omega)|exact dct (by first|assumption|omega)|exact dcf (by first|assumption|omega)|exact List.not_mem_nil|apply dc_length|fail))|fail) ?_)
        refine CG.cond_f rfl (by exact rho_of rfl) rfl ?_
        repeat (first|apply CG.seq|apply CG.region|apply SG.nil|apply NG.next|apply CG.skip|apply CG.block|apply CG.ret|apply CG.exit|apply NG.exit_then|refine NG.exit_block rfl ?_|apply NG.normal_block|refine SG.val rfl rfl rfl rfl (by first|((first|apply qmv|apply qas|apply qla|apply qix|apply qpk|apply qls|apply qad|apply qln|apply qle|apply qfr|apply qto)<;>(first|exact rfl|assumption|exact Ar.mk (by omega)|exact dct (by first|assumption|omega)|exact dcf (by first|assumption|omega)|exact List.not_mem_nil|apply dc_length|fail))|fail) ?_)
        have hk3 := hk2.trans hk3
        have hrz3 := hrz.kp0 hk3
        have hSv3 := hSv.kp0 hk3
        have ho3 := own_kp0 ho hk3
        refine CG.rows mixed 10 [1, 2, 3, 5, 6, 7, 8, 0, 4, 9] [⟨0, 0, oD w3.heap.size []⟩, ⟨4, 0, oD w3.heap.size ([] ++ O.take j)⟩, ⟨9, 1, oD w3.heap.size [x]⟩] (by kernel_rfl) (by kernel_rfl) (by kernel_rfl) (OkL.all (by repeat' (first | exact OkL.nil | refine OkL.cons ?_ ?_ | exact oP_ok | exact bP_ok))) ?_
        repeat (refine DerR.val rfl rfl rfl rfl (by first|((first|apply qmv|apply qas|apply qla|apply qix|apply qpk|apply qls|apply qad|apply qln|apply qle|apply qfr|apply qto)<;>(first|exact rfl|assumption|exact Ar.mk (by omega)|exact dct (by first|assumption|omega)|exact dcf (by first|assumption|omega)|exact List.not_mem_nil|apply dc_length|fail))|fail) ?_)
        refine DerR.buildO [] dc_length rfl rfl rfl rfl rfl (by repeat' (first | exact OkL.nil | refine OkL.cons ?_ ?_ | exact oP_ok | exact bP_ok)) rfl (Nat.le_refl _) (by simp) bse0 (fun v0 => ?_)
        refine DerR.append (src := 0) [] (O.take j) [(0, [])] dc_length dc_one rfl rfl (by kernel_rfl) ⟨Nat.le_refl _, trivial⟩ rfl rfl rfl (by repeat' (first | exact OkL.nil | refine OkL.cons ?_ ?_ | exact oP_ok | exact bP_ok)) (by exact rho_of rfl) (by exact rho_of rfl) rfl rfl rfl (by simp only [maxLen, List.length_nil]; omega) (by rw [hjl]; show (0 + j) * 8 ≤ _; omega) (Nat.le_refl _) (.head _) (by kernel_rfl) (fun w hk hF => ⟨_, _, by rw [hjl], (hSv3.kp0 hk).take j⟩) (fun v4 => ?_)
        refine DerR.buildO [x] dc_length rfl rfl rfl rfl rfl (by repeat' (first | exact OkL.nil | refine OkL.cons ?_ ?_ | exact oP_ok | exact bP_ok)) rfl (Nat.le_refl _) (by simp [maxLen]) (fun w => by rw [flt_one]; exact bse8 x w) (fun v9 => ?_)
        refine DerR.tl (fun w4 V hok hV => ?_)
        have ho4 : w4.ownsRow w3.heap.size 23 8 v4 (O.take j).length (flt dc (O.take j)) := hok.get hV (.tail _ (.head _)) rfl
        have ho9 : w4.ownsRow w3.heap.size 23 8 v9 ([x] : List Dg).length (flt dc [x]) := hok.get hV (.head _) rfl
        have hk4 := hok.kp
        obtain ⟨a9, c9, rfl, _, hS9⟩ := Sl.own dc_length ho9 rfl
        refine SG.appO (enc := dc) (xs := O.take j) (ys := [x]) (base := w3.heap.size) rfl rfl rfl (by exact rho_of rfl) (by exact rho_of rfl) rfl rfl rfl rfl dc_length dc_one ho4 hS9 (by rw [hjl]; simp only [maxLen, List.length_cons, List.length_nil]; omega) (by rw [hjl]; show (j + 1) * 8 ≤ _; omega) hk4.size (fun v10 w5 hk5 ho10 _ => ?_)
        have k5 : Kp [] w3 w5 := hk4.trans_new hk5 (own_new ho4 (Nat.le_refl _))
        have hSd := sl_drop (j := j) (hSv3.kp0 k5) hcv
        repeat (first|apply CG.seq|apply CG.region|apply SG.nil|apply NG.next|apply CG.skip|apply CG.block|apply CG.ret|apply CG.exit|apply NG.exit_then|refine NG.exit_block rfl ?_|apply NG.normal_block|refine SG.val rfl rfl rfl rfl (by first|((first|apply qmv|apply qas|apply qla|apply qix|apply qpk|apply qls|apply qad|apply qln|apply qle|apply qfr|apply qto)<;>(first|exact rfl|assumption|exact Ar.mk (by omega)|exact dct (by first|assumption|omega)|exact dcf (by first|assumption|omega)|exact List.not_mem_nil|apply dc_length|fail))|fail) ?_)
        refine SG.appO (enc := dc) (xs := O.take j ++ [x]) (ys := O.drop j) (base := w3.heap.size) rfl rfl rfl (by exact rho_of rfl) (by exact rho_of rfl) hdl.symm rfl rfl rfl dc_length dc_one ho10 hSd (by rw [hdl, List.length_append, hjl]; simp only [maxLen, List.length_cons, List.length_nil]; omega) (by rw [hdl, List.length_append, hjl]; show (j + 1 + _) * 8 ≤ _; omega) k5.size (fun v12 w6 hk6 ho12 _ => ?_)
        have k6 : Kp [] w3 w6 := k5.trans_new hk6 (own_new ho10 (Nat.le_refl _))
        rw [← hins, ← hsn] at ho12
        have k13 := hk1.trans hk3
        repeat (first|apply CG.seq|apply CG.region|apply SG.nil|apply NG.next|apply CG.skip|apply CG.block|apply CG.ret|apply CG.exit|apply NG.exit_then|refine NG.exit_block rfl ?_|apply NG.normal_block|refine SG.val rfl rfl rfl rfl (by first|((first|apply qmv|apply qas|apply qla|apply qix|apply qpk|apply qls|apply qad|apply qln|apply qle|apply qfr|apply qto)<;>(first|exact rfl|assumption|exact Ar.mk (by omega)|exact dct (by first|assumption|omega)|exact dcf (by first|assumption|omega)|exact List.not_mem_nil|apply dc_length|fail))|fail) ?_)
        refine NG.round (v12, i + 1) (by (repeat' (first | exact True.intro | exact rfl | refine And.intro ?_ ?_))) ⟨by simp only; omega, k13.trans k6, own_mono ho12 k13.size⟩ (by simp only; omega)
      · have g2 : ¬ (j : Int) < (O.length : Int) := by omega
        repeat (first|apply CG.seq|apply CG.region|apply SG.nil|apply NG.next|apply CG.skip|apply CG.block|apply CG.ret|apply CG.exit|apply NG.exit_then|refine NG.exit_block rfl ?_|apply NG.normal_block|refine SG.val rfl rfl rfl rfl (by first|((first|apply qmv|apply qas|apply qla|apply qix|apply qpk|apply qls|apply qad|apply qln|apply qle|apply qfr|apply qto)<;>(first|exact rfl|assumption|exact Ar.mk (by omega)|exact dct (by first|assumption|omega)|exact dcf (by first|assumption|omega)|exact List.not_mem_nil|apply dc_length|fail))|fail) ?_)
        refine CG.draw0 mixed [0, 1, 2, 3, 4, 5, 6, 7, 8, 9, 10, 11, 12, 13, 14, 15, 16] [] (by kernel_rfl) ?_
        repeat (first | refine Der.val rfl rfl rfl (by first|((first|apply qmv|apply qas|apply qla|apply qix|apply qpk|apply qls|apply qad|apply qln|apply qle|apply qfr|apply qto)<;>(first|exact rfl|assumption|exact Ar.mk (by omega)|exact dct (by first|assumption|omega)|exact dcf (by first|assumption|omega)|exact List.not_mem_nil|apply dc_length|fail))|fail) ?_ | refine Der.skip rfl rfl ?_)
        refine Der.fin (fun w3 hk3 _ _ => ?_)
        repeat (first|apply CG.seq|apply CG.region|apply SG.nil|apply NG.next|apply CG.skip|apply CG.block|apply CG.ret|apply CG.exit|apply NG.exit_then|refine NG.exit_block rfl ?_|apply NG.normal_block|refine SG.val rfl rfl rfl rfl (by first|((first|apply qmv|apply qas|apply qla|apply qix|apply qpk|apply qls|apply qad|apply qln|apply qle|apply qfr|apply qto)<;>(first|exact rfl|assumption|exact Ar.mk (by omega)|exact dct (by first|assumption|omega)|exact dcf (by first|assumption|omega)|exact List.not_mem_nil|apply dc_length|fail))|fail) ?_)
        refine CG.cond_f rfl (by exact rho_of rfl) rfl ?_
        repeat (first|apply CG.seq|apply CG.region|apply SG.nil|apply NG.next|apply CG.skip|apply CG.block|apply CG.ret|apply CG.exit|apply NG.exit_then|refine NG.exit_block rfl ?_|apply NG.normal_block|refine SG.val rfl rfl rfl rfl (by first|((first|apply qmv|apply qas|apply qla|apply qix|apply qpk|apply qls|apply qad|apply qln|apply qle|apply qfr|apply qto)<;>(first|exact rfl|assumption|exact Ar.mk (by omega)|exact dct (by first|assumption|omega)|exact dcf (by first|assumption|omega)|exact List.not_mem_nil|apply dc_length|fail))|fail) ?_)
        have hk3 := hk2.trans hk3
        have hrz3 := hrz.kp0 hk3
        have hSv3 := hSv.kp0 hk3
        have ho3 := own_kp0 ho hk3
        refine CG.rows mixed 10 [1, 2, 3, 5, 6, 7, 8, 0, 4, 9] [⟨0, 0, oD w3.heap.size []⟩, ⟨4, 0, oD w3.heap.size ([] ++ O.take j)⟩, ⟨9, 1, oD w3.heap.size [x]⟩] (by kernel_rfl) (by kernel_rfl) (by kernel_rfl) (OkL.all (by repeat' (first | exact OkL.nil | refine OkL.cons ?_ ?_ | exact oP_ok | exact bP_ok))) ?_
        repeat (refine DerR.val rfl rfl rfl rfl (by first|((first|apply qmv|apply qas|apply qla|apply qix|apply qpk|apply qls|apply qad|apply qln|apply qle|apply qfr|apply qto)<;>(first|exact rfl|assumption|exact Ar.mk (by omega)|exact dct (by first|assumption|omega)|exact dcf (by first|assumption|omega)|exact List.not_mem_nil|apply dc_length|fail))|fail) ?_)
        refine DerR.buildO [] dc_length rfl rfl rfl rfl rfl (by repeat' (first | exact OkL.nil | refine OkL.cons ?_ ?_ | exact oP_ok | exact bP_ok)) rfl (Nat.le_refl _) (by simp) bse0 (fun v0 => ?_)
        refine DerR.append (src := 0) [] (O.take j) [(0, [])] dc_length dc_one rfl rfl (by kernel_rfl) ⟨Nat.le_refl _, trivial⟩ rfl rfl rfl (by repeat' (first | exact OkL.nil | refine OkL.cons ?_ ?_ | exact oP_ok | exact bP_ok)) (by exact rho_of rfl) (by exact rho_of rfl) rfl rfl rfl (by simp only [maxLen, List.length_nil]; omega) (by rw [hjl]; show (0 + j) * 8 ≤ _; omega) (Nat.le_refl _) (.head _) (by kernel_rfl) (fun w hk hF => ⟨_, _, by rw [hjl], (hSv3.kp0 hk).take j⟩) (fun v4 => ?_)
        refine DerR.buildO [x] dc_length rfl rfl rfl rfl rfl (by repeat' (first | exact OkL.nil | refine OkL.cons ?_ ?_ | exact oP_ok | exact bP_ok)) rfl (Nat.le_refl _) (by simp [maxLen]) (fun w => by rw [flt_one]; exact bse8 x w) (fun v9 => ?_)
        refine DerR.tl (fun w4 V hok hV => ?_)
        have ho4 : w4.ownsRow w3.heap.size 23 8 v4 (O.take j).length (flt dc (O.take j)) := hok.get hV (.tail _ (.head _)) rfl
        have ho9 : w4.ownsRow w3.heap.size 23 8 v9 ([x] : List Dg).length (flt dc [x]) := hok.get hV (.head _) rfl
        have hk4 := hok.kp
        obtain ⟨a9, c9, rfl, _, hS9⟩ := Sl.own dc_length ho9 rfl
        refine SG.appO (enc := dc) (xs := O.take j) (ys := [x]) (base := w3.heap.size) rfl rfl rfl (by exact rho_of rfl) (by exact rho_of rfl) rfl rfl rfl rfl dc_length dc_one ho4 hS9 (by rw [hjl]; simp only [maxLen, List.length_cons, List.length_nil]; omega) (by rw [hjl]; show (j + 1) * 8 ≤ _; omega) hk4.size (fun v10 w5 hk5 ho10 _ => ?_)
        have k5 : Kp [] w3 w5 := hk4.trans_new hk5 (own_new ho4 (Nat.le_refl _))
        obtain ⟨ad, hSd, hvd⟩ := vals_drop (P := Try.prog) (E := 23) (hSv3.kp0 k5) hcv hfo hj
        repeat (first|apply CG.seq|apply CG.region|apply SG.nil|apply NG.next|apply CG.skip|apply CG.block|apply CG.ret|apply CG.exit|apply NG.exit_then|refine NG.exit_block rfl ?_|apply NG.normal_block|refine SG.val rfl rfl rfl rfl (by first|((first|apply qmv|apply qas|apply qla|apply qix|apply qpk|apply qls|apply qad|apply qln|apply qle|apply qfr|apply qto)<;>(first|exact rfl|assumption|exact Ar.mk (by omega)|exact dct (by first|assumption|omega)|exact dcf (by first|assumption|omega)|exact List.not_mem_nil|apply dc_length|fail))|fail) ?_)
        refine SG.val rfl rfl rfl rfl (hvd rfl rfl) ?_
        refine SG.appO (enc := dc) (xs := O.take j ++ [x]) (ys := O.drop j) (base := w3.heap.size) rfl rfl rfl (by exact rho_of rfl) (by exact rho_of rfl) rfl rfl rfl rfl dc_length dc_one ho10 hSd (by rw [hdl, List.length_append, hjl]; simp only [maxLen, List.length_cons, List.length_nil]; omega) (by rw [hdl, List.length_append, hjl]; show (j + 1 + _) * 8 ≤ _; omega) k5.size (fun v12 w6 hk6 ho12 _ => ?_)
        have k6 : Kp [] w3 w6 := k5.trans_new hk6 (own_new ho10 (Nat.le_refl _))
        rw [← hins, ← hsn] at ho12
        have k13 := hk1.trans hk3
        repeat (first|apply CG.seq|apply CG.region|apply SG.nil|apply NG.next|apply CG.skip|apply CG.block|apply CG.ret|apply CG.exit|apply NG.exit_then|refine NG.exit_block rfl ?_|apply NG.normal_block|refine SG.val rfl rfl rfl rfl (by first|((first|apply qmv|apply qas|apply qla|apply qix|apply qpk|apply qls|apply qad|apply qln|apply qle|apply qfr|apply qto)<;>(first|exact rfl|assumption|exact Ar.mk (by omega)|exact dct (by first|assumption|omega)|exact dcf (by first|assumption|omega)|exact List.not_mem_nil|apply dc_length|fail))|fail) ?_)
        refine NG.round (v12, i + 1) (by (repeat' (first | exact True.intro | exact rfl | refine And.intro ?_ ?_))) ⟨by simp only; omega, k13.trans k6, own_mono ho12 k13.size⟩ (by simp only; omega)
  · have g1 : ¬ (i : Int) < (l.length : Int) := by omega
    rw [List.take_of_length_le (by omega)] at ho
    repeat (first|apply CG.seq|apply CG.region|apply SG.nil|apply NG.next|apply CG.skip|apply CG.block|apply CG.ret|apply CG.exit|apply NG.exit_then|refine NG.exit_block rfl ?_|apply NG.normal_block|refine SG.val rfl rfl rfl rfl (by first|((first|apply qmv|apply qas|apply qla|apply qix|apply qpk|apply qls|apply qad|apply qln|apply qle|apply qfr|apply qto)<;>(first|exact rfl|assumption|exact Ar.mk (by omega)|exact dct (by first|assumption|omega)|exact dcf (by first|assumption|omega)|exact List.not_mem_nil|apply dc_length|fail))|fail) ?_)
    refine CG.cond_f rfl (by exact rho_of rfl) rfl ?_
    repeat (first|apply CG.seq|apply CG.region|apply SG.nil|apply NG.next|apply CG.skip|apply CG.block|apply CG.ret|apply CG.exit|apply NG.exit_then|refine NG.exit_block rfl ?_|apply NG.normal_block|refine SG.val rfl rfl rfl rfl (by first|((first|apply qmv|apply qas|apply qla|apply qix|apply qpk|apply qls|apply qad|apply qln|apply qle|apply qfr|apply qto)<;>(first|exact rfl|assumption|exact Ar.mk (by omega)|exact dct (by first|assumption|omega)|exact dcf (by first|assumption|omega)|exact List.not_mem_nil|apply dc_length|fail))|fail) ?_)
    refine ret1 (Or.inl rfl) Try.results44 (by first | exact ResV.tmp rfl | exact ResV.agg rfl rfl (by assumption) (by first | exact dc_length _ | exact nc_length _ | exact rc_length _ _ _ | exact ec_length _ | exact dl_length _ _ _ _ | rfl) | exact ResV.cell rfl rfl (by assumption)) ?_
    exact ⟨_, rfl, ho, hk1⟩
end Go.Proofs.Ytnoipmimddoioaa
/-
  A region with two owned rows that were there before.
-/
namespace Go.Proofs.Ytnoipmimddoioaa
set_option linter.unusedVariables false
section
variable {P : Program} {n : Nat} {ops : List Oper} {Q : Exit → Act → World → Prop} {w0 : World}
theorem CG.rows2 {α : Type} {L0 : Env} {enc : α → List Value} {E : TypeId} {id base base' sz c c' : Nat} {v v' : Value} {l l' : List α} (hm : P.follows .mixedOrders = true) (k : Nat) (ord : List Nat) (G : List RE) (hi : G.filter (fun e => Nat.ble 1000 e.i) = [⟨1000, c, oP base E sz enc l⟩, ⟨1001, c', oP base' E sz enc l'⟩]) (hap : Apart v v') (ho : w0.ownsRow base E sz v l.length (flt enc l)) (ho' : w0.ownsRow base' E sz v' l'.length (flt enc l')) (hc : chkX n ops ord (giR G) k = true) (hlen : Nat.ble ops.length 1000 = true) (hG : OkL G)
    (h : DerR P (ownB v ++ ownB v') w0 ops G (KR n (ownB v ++ ownB v') w0 P ops Q k G) ord L0 [(1001, v'), (1000, v)]) : CG P n (.region id ops.toArray true) Q L0 w0 := by
  have hin : ∀ e ∈ G, Nat.ble 1000 e.i = true → e = ⟨1000, c, oP base E sz enc l⟩ ∨ e = ⟨1001, c', oP base' E sz enc l'⟩ := fun e he h1 => by
    have : e ∈ G.filter (fun e => Nat.ble 1000 e.i) := List.mem_filter.2 ⟨he, h1⟩
    rw [hi] at this
    simpa using this
  refine CG.rowsI hm k ord G [(1001, v'), (1000, v)] (ownB v ++ ownB v') (fun j => if j = 1000 then v else v') hc hlen hG.all (fun w' hk => ⟨hk.any, fun e he h1 => ?_, fun e he e' he' h1 h2 hcc => ?_, fun e he h1 b hb => ?_⟩) (fun p hp => ?_) h
  · rcases hin e he h1 with rfl | rfl
    · exact own_kp0 ho hk
    · exact own_kp0 ho' hk
  · rcases hin e he h1 with rfl | rfl
    · rcases hin e' he' h2 with rfl | rfl
      · exact absurd rfl hcc
      · exact hap
    · rcases hin e' he' h2 with rfl | rfl
      · exact hap.symm
      · exact absurd rfl hcc
  · left
    rcases hin e he h1 with rfl | rfl
    · have hb : v.ownBlock = some b := hb
      refine List.mem_append_left _ ?_
      unfold ownB
      rw [hb]
      simp
    · have hb : v'.ownBlock = some b := hb
      refine List.mem_append_right _ ?_
      unfold ownB
      rw [hb]
      simp
  · simp only [List.mem_cons, List.not_mem_nil, or_false] at hp
    rcases hp with rfl | rfl
    · exact ⟨rfl, by simp only; omega⟩
    · exact ⟨rfl, by simp only; omega⟩
end
end Go.Proofs.Ytnoipmimddoioaa
/-
  The document's way to put in order by a mix: the least is taken out again and again.
-/
namespace Go.Proofs.Ytnoipmimddoioaa
open Go.Proofs Go.Shelf Go.Sort
set_option linter.unusedVariables false

structure Sel (m : Dg) (all out W : List Dg) : Prop where
  perm : (out ++ W).Perm all
  ord : out.Pairwise (fun a b => kW m a ≤ kW m b)
  nums : W.Pairwise (fun a b => num a ≤ num b)
  le : ∀ x ∈ out, ∀ y ∈ W, kW m x ≤ kW m y
theorem Sel.init (m : Dg) (all : List Dg) : Sel m all [] (sortK num all) := ⟨sortK_perm num all, List.Pairwise.nil, sortK_sorted num all, fun x hx => by cases hx⟩
theorem Sel.done {m : Dg} {all out : List Dg} (h : Sel m all out []) : out = sortK (kW m) all := by
  have hp := h.perm
  rw [List.append_nil] at hp
  exact sorted_uniq (fun x y e => kW_inj e) hp (sortK_perm _ all) h.ord (sortK_sorted _ all)
theorem kW_le {m x y : Dg} (h : num (twoI m x) < num (twoI m y) ∨ (num (twoI m x) ≤ num (twoI m y) ∧ num x ≤ num y)) : kW m x ≤ kW m y := by
  have hx := num_lt x
  have hy := num_lt y
  unfold kW
  rcases h with h | ⟨h1, h2⟩ <;> omega
theorem Sel.step {m : Dg} {all out W : List Dg} (h : Sel m all out W) {b : Nat} (hb : b < W.length) (hmin : ∀ i (hi : i < W.length), num (twoI m W[b]) ≤ num (twoI m W[i])) (hfst : ∀ i (hi : i < W.length), i < b → num (twoI m W[b]) < num (twoI m W[i])) :
    Sel m all (out ++ [W[b]]) (W.take b ++ W.drop (b + 1)) := by
  have hle : ∀ y ∈ W.take b ++ W.drop (b + 1), kW m W[b] ≤ kW m y := fun y hy => by
    rcases List.mem_append.1 hy with hy | hy
    · obtain ⟨i, hi, rfl⟩ := List.getElem_of_mem hy
      rw [List.length_take] at hi
      rw [List.getElem_take]
      exact kW_le (Or.inl (hfst i (by omega) (by omega)))
    · obtain ⟨i, hi, rfl⟩ := List.getElem_of_mem hy
      rw [List.length_drop] at hi
      rw [List.getElem_drop]
      exact kW_le (Or.inr ⟨hmin _ (by omega), List.pairwise_iff_getElem.1 h.nums b (b + 1 + i) hb (by omega) (by omega)⟩)
  have hsub : (W.take b ++ W.drop (b + 1)).Sublist W := by
    have e : W = W.take b ++ W.drop b := (List.take_append_drop b W).symm
    conv => rhs; rw [e]
    exact (List.Sublist.refl _).append (List.drop_sublist_drop_left W (Nat.le_succ b))
  have e2 : W.drop b = W[b] :: W.drop (b + 1) := List.drop_eq_getElem_cons hb
  refine ⟨?_, ?_, h.nums.sublist hsub, ?_⟩
  · refine List.Perm.trans ?_ h.perm
    rw [List.append_assoc]
    refine List.Perm.append_left _ ?_
    have e3 : W.Perm (W.take b ++ W[b] :: W.drop (b + 1)) := by rw [← e2, List.take_append_drop]
    show (W[b] :: (W.take b ++ W.drop (b + 1))).Perm W
    exact (List.perm_middle (l₁ := W.take b)).symm.trans e3.symm
  · rw [List.pairwise_append]
    refine ⟨h.ord, List.pairwise_singleton _ _, fun x hx y hy => ?_⟩
    rw [List.mem_singleton] at hy
    subst hy
    exact h.le x hx _ (List.getElem_mem hb)
  · intro x hx y hy
    rcases List.mem_append.1 hx with hx | hx
    · exact h.le x hx y (hsub.subset hy)
    · rw [List.mem_singleton] at hx
      subst hx
      exact hle y hy
theorem apart_new {w w' : World} {base n sz n' sz' : Nat} {T T' : TypeId} {v v' : Value} {xs xs' : List Value} (h1 : w.ownsRow base T sz v n xs) (h2 : w'.ownsRow w.heap.size T' sz' v' n' xs') : Apart v v' := fun b hb hb' =>
  own_nb h2 b (own_lt h1 b hb) (by unfold ownB; rw [hb']; simp)
theorem apart_notin {v v' : Value} (h : Apart v v') : ∀ b, v'.ownBlock = some b → b ∉ ownB v := fun b hb hm => h b (ownB_mem hm) hb
end Go.Proofs.Ytnoipmimddoioaa
