/-
  The fork: a block's id, the tip, a new tree.
-/
import Derived.Test.YtpnenekgldggbaaPart
namespace Go.Proofs.Ytpnenekgldggbaa
set_option linter.unusedVariables false
attribute [local irreducible] CG NG SG Vals Der Row Blk MapIs

def idD (u : UInt8) : Dg := ⟨[u, 1, 0, 0, 0, 0, 0, 0], rfl⟩

set_option maxHeartbeats 4000000 in
theorem id_spec (u : UInt8) (w : World) : Ret Try.prog 11 #[bv u] w (dv (idD u)) := by
  refine enter1 Try.func11 rfl Try.ntmps11 rfl ?_
  repeat (first | apply CG.seq | apply CG.region | apply SG.nil | apply NG.next | apply CG.skip | apply CG.block | apply CG.ret | apply CG.exit | apply CG.scope | apply NG.ret_then | apply NG.ret_block | apply NG.ret_scope | apply NG.exit_then | refine NG.exit_block rfl ?_ | refine NG.exit_other rfl ?_ | apply NG.exit_scope | apply NG.normal_block | apply NG.normal_scope | refine SG.v (hr := ?_))
  refine SG.alloc rfl rfl rfl (fun b2 w1 hk1 hb2 hB2 => ?_)
  repeat (first | apply CG.seq | apply CG.region | apply SG.nil | apply NG.next | apply CG.skip | apply CG.block | apply CG.ret | apply CG.exit | apply CG.scope | apply NG.ret_then | apply NG.ret_block | apply NG.ret_scope | apply NG.exit_then | refine NG.exit_block rfl ?_ | refine NG.exit_other rfl ?_ | apply NG.exit_scope | apply NG.normal_block | apply NG.normal_scope | refine SG.v (hr := ?_))
  refine SG.val rfl rfl rfl rfl (vals_build (v := dv (idD u)) rfl (fun w => by kernel_rfl)) ?_
  refine SG.setAll (old := dc (n := 8) ⟨[0, 0, 0, 0, 0, 0, 0, 0], rfl⟩) rfl rfl ev ev hB2 ln ln on (fun w2 hk2 hB2 => ?_)
  have hR2 : Row w2 b2 0 (dc (idD u)) := Row.all hB2 rfl
  repeat (first | apply CG.seq | apply CG.region | apply SG.nil | apply NG.next | apply CG.skip | apply CG.block | apply CG.ret | apply CG.exit | apply CG.scope | apply NG.ret_then | apply NG.ret_block | apply NG.ret_scope | apply NG.exit_then | refine NG.exit_block rfl ?_ | refine NG.exit_other rfl ?_ | apply NG.exit_scope | apply NG.normal_block | apply NG.normal_scope | refine SG.v (hr := ?_))
  refine ret1 (Or.inl rfl) Try.results11 rv ?_
  exact ⟨rfl, hk1.trans_new hk2 nw⟩

set_option maxHeartbeats 4000000 in
theorem tip_spec {w : World} {bt bm : Nat} {t : Tr} (hT : TreeAt w bt bm t) : Ret Try.prog 13 #[.pointer (some ⟨bt, 0, none⟩)] w (dv t.tip) := by
  refine enter1 Try.func13 rfl Try.ntmps13 rfl ?_
  repeat (first | apply CG.seq | apply CG.region | apply SG.nil | apply NG.next | apply CG.skip | apply CG.block | apply CG.ret | apply CG.exit | apply CG.scope | apply NG.ret_then | apply NG.ret_block | apply NG.ret_scope | apply NG.exit_then | refine NG.exit_block rfl ?_ | refine NG.exit_other rfl ?_ | apply NG.exit_scope | apply NG.normal_block | apply NG.normal_scope | refine SG.v (hr := ?_))
  refine SG.alloc rfl rfl rfl (fun b2 w1 hk1 hb2 hB2 => ?_)
  have hT1 := hT.kp0 hk1
  have hr8 := hT1.r8
  repeat (first | apply CG.seq | apply CG.region | apply SG.nil | apply NG.next | apply CG.skip | apply CG.block | apply CG.ret | apply CG.exit | apply CG.scope | apply NG.ret_then | apply NG.ret_block | apply NG.ret_scope | apply NG.exit_then | refine NG.exit_block rfl ?_ | refine NG.exit_other rfl ?_ | apply NG.exit_scope | apply NG.normal_block | apply NG.normal_scope | refine SG.v (hr := ?_))
  refine CG.cond_f rfl ev rfl ?_
  repeat (first | apply CG.seq | apply CG.region | apply SG.nil | apply NG.next | apply CG.skip | apply CG.block | apply CG.ret | apply CG.exit | apply CG.scope | apply NG.ret_then | apply NG.ret_block | apply NG.ret_scope | apply NG.exit_then | refine NG.exit_block rfl ?_ | refine NG.exit_other rfl ?_ | apply NG.exit_scope | apply NG.normal_block | apply NG.normal_scope | refine SG.v (hr := ?_))
  refine SG.setAll (old := dc (n := 8) ⟨[0, 0, 0, 0, 0, 0, 0, 0], rfl⟩) rfl rfl ev ev hB2 ln ln on (fun w2 hk2 hB2 => ?_)
  have hR2 : Row w2 b2 0 (dc t.tip) := Row.all hB2 rfl
  repeat (first | apply CG.seq | apply CG.region | apply SG.nil | apply NG.next | apply CG.skip | apply CG.block | apply CG.ret | apply CG.exit | apply CG.scope | apply NG.ret_then | apply NG.ret_block | apply NG.ret_scope | apply NG.exit_then | refine NG.exit_block rfl ?_ | refine NG.exit_other rfl ?_ | apply NG.exit_scope | apply NG.normal_block | apply NG.normal_scope | refine SG.v (hr := ?_))
  refine ret1 (Or.inl rfl) Try.results13 rv ?_
  exact ⟨rfl, hk1.trans_new hk2 nw⟩

def Tr.new (first : Dg) (depth : Nat) : Tr := ⟨first, first, depth, [(first, nd0)]⟩

set_option maxHeartbeats 4000000 in
theorem new_bad (w : World) (first : Dg) (depth : Int) (h : depth < 0 ∨ 1000 < depth) : Ret Try.prog 10 #[dv first, .int .i64 depth] w (.tuple #[.pointer none, .int .i64 2]) := by
  refine enter2 Try.func10 rfl Try.ntmps10 rfl ?_
  repeat (first | apply CG.seq | apply CG.region | apply SG.nil | apply NG.next | apply CG.skip | apply CG.block | apply CG.ret | apply CG.exit | apply CG.scope | apply NG.ret_then | apply NG.ret_block | apply NG.ret_scope | apply NG.exit_then | refine NG.exit_block rfl ?_ | refine NG.exit_other rfl ?_ | apply NG.exit_scope | apply NG.normal_block | apply NG.normal_scope | refine SG.v (hr := ?_))
  refine SG.box rfl rfl rfl ev (fun b2 w1 hk1 hb2 hB2 => ?_)
  by_cases h0 : depth < 0
  · repeat (first | apply CG.seq | apply CG.region | apply SG.nil | apply NG.next | apply CG.skip | apply CG.block | apply CG.ret | apply CG.exit | apply CG.scope | apply NG.ret_then | apply NG.ret_block | apply NG.ret_scope | apply NG.exit_then | refine NG.exit_block rfl ?_ | refine NG.exit_other rfl ?_ | apply NG.exit_scope | apply NG.normal_block | apply NG.normal_scope | refine SG.v (hr := ?_))
    refine SG.skip rfl rfl ?_
    refine SG.skip rfl rfl ?_
    repeat (first | apply CG.seq | apply CG.region | apply SG.nil | apply NG.next | apply CG.skip | apply CG.block | apply CG.ret | apply CG.exit | apply CG.scope | apply NG.ret_then | apply NG.ret_block | apply NG.ret_scope | apply NG.exit_then | refine NG.exit_block rfl ?_ | refine NG.exit_other rfl ?_ | apply NG.exit_scope | apply NG.normal_block | apply NG.normal_scope | refine SG.v (hr := ?_))
    refine CG.cond_t rfl ev rfl ?_
    repeat (first | apply CG.seq | apply CG.region | apply SG.nil | apply NG.next | apply CG.skip | apply CG.block | apply CG.ret | apply CG.exit | apply CG.scope | apply NG.ret_then | apply NG.ret_block | apply NG.ret_scope | apply NG.exit_then | refine NG.exit_block rfl ?_ | refine NG.exit_other rfl ?_ | apply NG.exit_scope | apply NG.normal_block | apply NG.normal_scope | refine SG.v (hr := ?_))
    refine ret2 (Or.inl rfl) Try.results10 rv rv ?_
    exact ⟨rfl, hk1⟩
  · have h1 : 1000 < depth := by omega
    repeat (first | apply CG.seq | apply CG.region | apply SG.nil | apply NG.next | apply CG.skip | apply CG.block | apply CG.ret | apply CG.exit | apply CG.scope | apply NG.ret_then | apply NG.ret_block | apply NG.ret_scope | apply NG.exit_then | refine NG.exit_block rfl ?_ | refine NG.exit_other rfl ?_ | apply NG.exit_scope | apply NG.normal_block | apply NG.normal_scope | refine SG.v (hr := ?_))
    refine CG.cond_t rfl ev rfl ?_
    repeat (first | apply CG.seq | apply CG.region | apply SG.nil | apply NG.next | apply CG.skip | apply CG.block | apply CG.ret | apply CG.exit | apply CG.scope | apply NG.ret_then | apply NG.ret_block | apply NG.ret_scope | apply NG.exit_then | refine NG.exit_block rfl ?_ | refine NG.exit_other rfl ?_ | apply NG.exit_scope | apply NG.normal_block | apply NG.normal_scope | refine SG.v (hr := ?_))
    refine ret2 (Or.inl rfl) Try.results10 rv rv ?_
    exact ⟨rfl, hk1⟩

theorem build72' (w : World) (a0 a1 a2 a3 a4 a5 a6 a7 b0 b1 b2 b3 b4 b5 b6 b7 : UInt8) (n : Int) (bm : Nat) : (Instr.build 72 #[(0, .agg #[bv a0, bv a1, bv a2, bv a3, bv a4, bv a5, bv a6, bv a7]), (1, .agg #[bv b0, bv b1, bv b2, bv b3, bv b4, bv b5, bv b6, bv b7]), (2, Value.int .i64 n), (3, Value.map (some bm))]).run Try.prog w =
    .ok (.agg #[bv a0, bv a1, bv a2, bv a3, bv a4, bv a5, bv a6, bv a7, bv b0, bv b1, bv b2, bv b3, bv b4, bv b5, bv b6, bv b7, Value.int .i64 n, Value.map (some bm)]) w := by kernel_rfl
theorem build72 (w : World) (a b : Dg) (n : Int) (bm : Nat) : (Instr.build 72 #[(0, dv a), (1, dv b), (2, Value.int .i64 n), (3, Value.map (some bm))]).run Try.prog w = .ok (.agg (dc a ++ (dc b ++ [Value.int .i64 n, Value.map (some bm)])).toArray) w := by
  obtain ⟨la, ha⟩ := a
  obtain ⟨lb, hb⟩ := b
  match la, ha with
  | [a0, a1, a2, a3, a4, a5, a6, a7], _ =>
    match lb, hb with
    | [b0, b1, b2, b3, b4, b5, b6, b7], _ => exact build72' w a0 a1 a2 a3 a4 a5 a6 a7 b0 b1 b2 b3 b4 b5 b6 b7 n bm

set_option maxHeartbeats 4000000 in
theorem new_good (w : World) (first : Dg) (depth : Nat) (h : depth ≤ 1000) : Calls Try.prog 10 #[dv first, .int .i64 depth] w (fun e w' => ∃ bt bm, e = .returned (.tuple #[.pointer (some ⟨bt, 0, none⟩), .int .i64 0]) ∧ TreeAt w' bt bm (Tr.new first depth) ∧ w.heap.size ≤ bt ∧ w.heap.size ≤ bm ∧ bt ≠ bm ∧ Kp [] w w') := by
  refine enter2 Try.func10 rfl Try.ntmps10 rfl ?_
  repeat (first | apply CG.seq | apply CG.region | apply SG.nil | apply NG.next | apply CG.skip | apply CG.block | apply CG.ret | apply CG.exit | apply CG.scope | apply NG.ret_then | apply NG.ret_block | apply NG.ret_scope | apply NG.exit_then | refine NG.exit_block rfl ?_ | refine NG.exit_other rfl ?_ | apply NG.exit_scope | apply NG.normal_block | apply NG.normal_scope | refine SG.v (hr := ?_))
  refine SG.box rfl rfl rfl ev (fun b2 w1 hk1 hb2 hB2 => ?_)
  have h0 : ¬ (depth : Int) < 0 := by omega
  have h1 : ¬ (1000 : Int) < (depth : Int) := by omega
  have hR2 : Row w1 b2 0 (dc first) := Row.all hB2 rfl
  repeat (first | apply CG.seq | apply CG.region | apply SG.nil | apply NG.next | apply CG.skip | apply CG.block | apply CG.ret | apply CG.exit | apply CG.scope | apply NG.ret_then | apply NG.ret_block | apply NG.ret_scope | apply NG.exit_then | refine NG.exit_block rfl ?_ | refine NG.exit_other rfl ?_ | apply NG.exit_scope | apply NG.normal_block | apply NG.normal_scope | refine SG.v (hr := ?_))
  refine CG.cond_f rfl ev rfl ?_
  repeat (first | apply CG.seq | apply CG.region | apply SG.nil | apply NG.next | apply CG.skip | apply CG.block | apply CG.ret | apply CG.exit | apply CG.scope | apply NG.ret_then | apply NG.ret_block | apply NG.ret_scope | apply NG.exit_then | refine NG.exit_block rfl ?_ | refine NG.exit_other rfl ?_ | apply NG.exit_scope | apply NG.normal_block | apply NG.normal_scope | refine SG.v (hr := ?_))
  refine CG.tailg mixed 9 [0, 1, 2, 4, 5, 3, 6, 7, 8] [3, 6] [] (fun _ => True) (by kernel_rfl) trivial (fun _ _ _ _ => trivial) ?_
  repeat (refine Der.v (hd := ?_))
  refine Der.val rfl rfl rfl (vals_build (v := nv nd0) rfl (fun w => by kernel_rfl)) ?_
  refine Der.makeMap (dv (n := 8)) nv rfl rfl rfl (fun bm => ?_)
  refine Der.insert (enc := dv (n := 8)) (V := nv) (kx := first) (vy := nd0) rfl rfl rfl rfl ev ev ev BArr.key ?_
  repeat (refine Der.v (hd := ?_))
  refine Der.val rfl rfl rfl (vals_build rfl (fun w => build72 w first first depth bm)) ?_
  refine Der.tl (fun w2 hk2 _ hR => ?_)
  refine SG.box rfl rfl rfl ev (fun bt w3 hk3 hbt hBt => ?_)
  repeat (first | apply CG.seq | apply CG.region | apply SG.nil | apply NG.next | apply CG.skip | apply CG.block | apply CG.ret | apply CG.exit | apply CG.scope | apply NG.ret_then | apply NG.ret_block | apply NG.ret_scope | apply NG.exit_then | refine NG.exit_block rfl ?_ | refine NG.exit_other rfl ?_ | apply NG.exit_scope | apply NG.normal_block | apply NG.normal_scope | refine SG.v (hr := ?_))
  refine ret2 (Or.inl rfl) Try.results10 rv rv ?_
  obtain ⟨hbm, hm⟩ := hR
  have := hm.lt
  have := hk1.size
  have := hk2.size
  exact ⟨bt, bm, rfl, ⟨hBt, hm.kp0 hk3⟩, by omega, by omega, by omega, (hk1.trans hk2).trans hk3⟩
end Go.Proofs.Ytpnenekgldggbaa
