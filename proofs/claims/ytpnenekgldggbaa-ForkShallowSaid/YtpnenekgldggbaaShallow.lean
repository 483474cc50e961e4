/-
  ForkShallow's walk.
-/
import Derived.Test.YtpnenekgldggbaaTold
import Derived.Test.YtpnenekgldggbaaArith
namespace Go.Proofs.Ytpnenekgldggbaa
set_option linter.unusedVariables false
attribute [local irreducible] CG NG SG Vals Der Row Blk MapIs

/-- The blocks that come, in memory: pairs of bytes. -/
def Coms (w : World) (a : Option Addr) (n : Nat) (c : Nat → UInt8 × UInt8) : Prop := ∀ i, i < n → ∃ b off, a = some ⟨b, off, none⟩ ∧ Row w b (off + i * 2) [bv (c i).1] ∧ Row w b (off + i * 2 + 1) [bv (c i).2]
theorem Coms.kp0 {w w' : World} {a : Option Addr} {n : Nat} {c : Nat → UInt8 × UInt8} (h : Coms w a n c) (hk : Kp [] w w') : Coms w' a n c := fun i hi => by
  obtain ⟨b, off, h1, h2, h3⟩ := h i hi
  exact ⟨b, off, h1, h2.kp0 hk, h3.kp0 hk⟩

theorem height_has {t : Tr} {x : Dg} (h : t.has x = true) : t.height x = (t.ht x : Int) := by rw [Tr.height, Tr.has_some h]; rfl

set_option maxHeartbeats 16000000 in
theorem shallow_spec (w : World) (depth : Int) (a : Option Addr) (n c : Nat) (l : Nat → UInt8 × UInt8) (hl : Coms w a n l) : Ret Try.prog 3 #[.int .i64 depth, .slice a n c] w (.bool true) := by
  obtain ⟨D, hD, hD1, hD2, hD3, hD4⟩ := conv_rem depth 8 (by omega) (by omega)
  refine enter2 Try.func3 rfl Try.ntmps3 rfl ?_
  repeat (first | apply CG.seq | apply CG.region | apply SG.nil | apply NG.next | apply CG.skip | apply CG.block | apply CG.ret | apply CG.exit | apply CG.scope | apply NG.ret_then | apply NG.ret_block | apply NG.ret_scope | apply NG.exit_then | refine NG.exit_block rfl ?_ | refine NG.exit_other rfl ?_ | apply NG.exit_scope | apply NG.normal_block | apply NG.normal_scope | refine SG.v (hr := ?_))
  refine SG.val rfl rfl rfl rfl (vals_remu (b := 8) ev rfl hD3 hD4 (by omega)) ?_
  rw [show IntKind.wrap .u64 depth % 8 = (D : Int) from hD1]
  repeat (first | apply CG.seq | apply CG.region | apply SG.nil | apply NG.next | apply CG.skip | apply CG.block | apply CG.ret | apply CG.exit | apply CG.scope | apply NG.ret_then | apply NG.ret_block | apply NG.ret_scope | apply NG.exit_then | refine NG.exit_block rfl ?_ | refine NG.exit_other rfl ?_ | apply NG.exit_scope | apply NG.normal_block | apply NG.normal_scope | refine SG.v (hr := ?_))
  rw [hD2]
  repeat (first | apply CG.seq | apply CG.region | apply SG.nil | apply NG.next | apply CG.skip | apply CG.block | apply CG.ret | apply CG.exit | apply CG.scope | apply NG.ret_then | apply NG.ret_block | apply NG.ret_scope | apply NG.exit_then | refine NG.exit_block rfl ?_ | refine NG.exit_other rfl ?_ | apply NG.exit_scope | apply NG.normal_block | apply NG.normal_scope | refine SG.v (hr := ?_))
  refine SG.ret rfl rfl rfl (vs := [bv 0]) ⟨rfl, True.intro⟩ (id_spec 0 w) (fun w1 hk1 => ?_)
  repeat (first | apply CG.seq | apply CG.region | apply SG.nil | apply NG.next | apply CG.skip | apply CG.block | apply CG.ret | apply CG.exit | apply CG.scope | apply NG.ret_then | apply NG.ret_block | apply NG.ret_scope | apply NG.exit_then | refine NG.exit_block rfl ?_ | refine NG.exit_other rfl ?_ | apply NG.exit_scope | apply NG.normal_block | apply NG.normal_scope | refine SG.v (hr := ?_))
  refine SG.call rfl rfl rfl (vs := [dv (idD 0), .int .i64 (D : Nat)]) ⟨rfl, rfl, True.intro⟩ ((new_good w1 (idD 0) D (by omega)).mono (fun e w2 h => ?_))
  obtain ⟨bt, bm, he, hT, hbt, hbm, hne, hk2⟩ := h
  refine ⟨_, he, ?_⟩
  have hk := hk1.trans hk2
  have s1 := hk1.size
  repeat (first | apply CG.seq | apply CG.region | apply SG.nil | apply NG.next | apply CG.skip | apply CG.block | apply CG.ret | apply CG.exit | apply CG.scope | apply NG.ret_then | apply NG.ret_block | apply NG.ret_scope | apply NG.exit_then | refine NG.exit_block rfl ?_ | refine NG.exit_other rfl ?_ | apply NG.exit_scope | apply NG.normal_block | apply NG.normal_scope | refine SG.v (hr := ?_))
  refine SG.ret rfl rfl rfl (vs := []) True.intro (told_spec w2) (fun w3 hk3 => ?_)
  repeat (first | apply CG.seq | apply CG.region | apply SG.nil | apply NG.next | apply CG.skip | apply CG.block | apply CG.ret | apply CG.exit | apply CG.scope | apply NG.ret_then | apply NG.ret_block | apply NG.ret_scope | apply NG.exit_then | refine NG.exit_block rfl ?_ | refine NG.exit_other rfl ?_ | apply NG.exit_scope | apply NG.normal_block | apply NG.normal_scope | refine SG.v (hr := ?_))
  refine CG.cond_f rfl ev rfl ?_
  repeat (first | apply CG.seq | apply CG.region | apply SG.nil | apply NG.next | apply CG.skip | apply CG.block | apply CG.ret | apply CG.exit | apply CG.scope | apply NG.ret_then | apply NG.ret_block | apply NG.ret_scope | apply NG.exit_then | refine NG.exit_block rfl ?_ | refine NG.exit_other rfl ?_ | apply NG.exit_scope | apply NG.normal_block | apply NG.normal_scope | refine SG.v (hr := ?_))
  have hT := hT.kp0 hk3
  have hk := hk.trans hk3
  refine SG.ret rfl rfl rfl au (tip_spec hT) (fun w4 hk4 => ?_)
  refine SG.alloc rfl rfl rfl (fun b8 w5 hk5 hb8 hB8 => ?_)
  have eT := hT.blk.lt
  have eM := hT.map.lt
  have s4 := hk4.size
  have s0 := hk.size
  refine SG.setAll (old := dc (n := 8) ⟨[0, 0, 0, 0, 0, 0, 0, 0], rfl⟩) rfl rfl ev ev hB8 ln ln on (fun w6 hk6 hB8 => ?_)
  have hT := ((hT.kp0 hk4).kp0 hk5).kp hk6 ni ni
  have hk := ((hk.trans hk4).trans hk5).trans_new hk6 nw
  repeat (first | apply CG.seq | apply CG.region | apply SG.nil | apply NG.next | apply CG.skip | apply CG.block | apply CG.ret | apply CG.exit | apply CG.scope | apply NG.ret_then | apply NG.ret_block | apply NG.ret_scope | apply NG.exit_then | refine NG.exit_block rfl ?_ | refine NG.exit_other rfl ?_ | apply NG.exit_scope | apply NG.normal_block | apply NG.normal_scope | refine SG.v (hr := ?_))
  refine CG.loop (X := Tr × Nat) (fun x => [(1, .slice a n c), (5, .int .i64 (D : Int)), (6, .pointer (some ⟨bt, 0, none⟩)), (8, .pointer (some ⟨b8, 0, none⟩)), (9, .int .i64 (x.2 : Int))])
    (fun x w' => Kp [] w w' ∧ TreeAt w' bt bm x.1 ∧ Blk w' b8 (.cells (dc x.1.tip).toArray 29) ∧ x.1.WF ∧ x.1.depth = D ∧ x.2 ≤ n)
    (fun x => n - x.2) (Tr.new (idD 0) D, 0) ⟨hk, hT, hB8, new_wf _ _, rfl, by omega⟩ su ?_
  rintro ⟨t, i⟩ w7 ⟨hk, hT, hB8, wf, hdep, hi⟩
  simp only at hT hB8 wf hdep hi
  have fin : ∀ {L : Env} {w' : World}, Kp [] w w' → look L 4 = some (.bool true) → NG 91 .ret (bodyPost Try.prog Try.f3 (fun e w' => e = .returned (.bool true) ∧ Kp [] w w')) L w' :=
    fun hk' hL => ret1 (Or.inl rfl) Try.results3 (ResV.tmp hL) ⟨rfl, hk'⟩
  by_cases h1 : i < n
  case neg =>
    have g1 : ¬ (i : Int) < (n : Int) := by omega
    repeat (first | apply CG.seq | apply CG.region | apply SG.nil | apply NG.next | apply CG.skip | apply CG.block | apply CG.ret | apply CG.exit | apply CG.scope | apply NG.ret_then | apply NG.ret_block | apply NG.ret_scope | apply NG.exit_then | refine NG.exit_block rfl ?_ | refine NG.exit_other rfl ?_ | apply NG.exit_scope | apply NG.normal_block | apply NG.normal_scope | refine SG.v (hr := ?_))
    refine SG.skip rfl rfl ?_
    refine SG.skip rfl rfl ?_
    repeat (first | apply CG.seq | apply CG.region | apply SG.nil | apply NG.next | apply CG.skip | apply CG.block | apply CG.ret | apply CG.exit | apply CG.scope | apply NG.ret_then | apply NG.ret_block | apply NG.ret_scope | apply NG.exit_then | refine NG.exit_block rfl ?_ | refine NG.exit_other rfl ?_ | apply NG.exit_scope | apply NG.normal_block | apply NG.normal_scope | refine SG.v (hr := ?_))
    refine CG.cond_f rfl ev rfl ?_
    repeat (first | apply CG.seq | apply CG.region | apply SG.nil | apply NG.next | apply CG.skip | apply CG.block | apply CG.ret | apply CG.exit | apply CG.scope | apply NG.ret_then | apply NG.ret_block | apply NG.ret_scope | apply NG.exit_then | refine NG.exit_block rfl ?_ | refine NG.exit_other rfl ?_ | apply NG.exit_scope | apply NG.normal_block | apply NG.normal_scope | refine SG.v (hr := ?_))
    exact fin hk rfl
  have g1 : (i : Int) < (n : Int) := by omega
  by_cases h2 : i < 80
  case neg =>
    have g2 : ¬ (i : Int) < 80 := by omega
    repeat (first | apply CG.seq | apply CG.region | apply SG.nil | apply NG.next | apply CG.skip | apply CG.block | apply CG.ret | apply CG.exit | apply CG.scope | apply NG.ret_then | apply NG.ret_block | apply NG.ret_scope | apply NG.exit_then | refine NG.exit_block rfl ?_ | refine NG.exit_other rfl ?_ | apply NG.exit_scope | apply NG.normal_block | apply NG.normal_scope | refine SG.v (hr := ?_))
    refine CG.cond_f rfl ev rfl ?_
    repeat (first | apply CG.seq | apply CG.region | apply SG.nil | apply NG.next | apply CG.skip | apply CG.block | apply CG.ret | apply CG.exit | apply CG.scope | apply NG.ret_then | apply NG.ret_block | apply NG.ret_scope | apply NG.exit_then | refine NG.exit_block rfl ?_ | refine NG.exit_other rfl ?_ | apply NG.exit_scope | apply NG.normal_block | apply NG.normal_scope | refine SG.v (hr := ?_))
    exact fin hk rfl
  have g2 : (i : Int) < 80 := by omega
  repeat (first | apply CG.seq | apply CG.region | apply SG.nil | apply NG.next | apply CG.skip | apply CG.block | apply CG.ret | apply CG.exit | apply CG.scope | apply NG.ret_then | apply NG.ret_block | apply NG.ret_scope | apply NG.exit_then | refine NG.exit_block rfl ?_ | refine NG.exit_other rfl ?_ | apply NG.exit_scope | apply NG.normal_block | apply NG.normal_scope | refine SG.v (hr := ?_))
  refine CG.cond_t rfl ev rfl ?_
  repeat (first | apply CG.seq | apply CG.region | apply SG.nil | apply NG.next | apply CG.skip | apply CG.block | apply CG.ret | apply CG.exit | apply CG.scope | apply NG.ret_then | apply NG.ret_block | apply NG.ret_scope | apply NG.exit_then | refine NG.exit_block rfl ?_ | refine NG.exit_other rfl ?_ | apply NG.exit_scope | apply NG.normal_block | apply NG.normal_scope | refine SG.v (hr := ?_))
  obtain ⟨b, off, rfl, r1, r2⟩ := (hl.kp0 hk) i h1
  have r0 : Row w7 b (off + i * 2 + 0) [bv (l i).1] := r1
  refine CG.tail mixed 13 [0, 1, 2, 3, 4, 5, 6, 7, 8, 9, 10, 11, 12] (by kernel_rfl) ?_
  repeat (refine Der.v (hd := ?_))
  refine Der.call rfl rfl rfl (vs := [bv (l i).1]) ⟨rfl, True.intro⟩ (fun w hk _ => id_spec (l i).1 w) ?_
  repeat (refine Der.v (hd := ?_))
  refine Der.call rfl rfl rfl (vs := [bv (l i).2]) ⟨rfl, True.intro⟩ (fun w hk _ => id_spec (l i).2 w) ?_
  refine Der.tl (fun w8 hk8 _ _ => ?_)
  have eT := hT.blk.lt
  have eM := hT.map.lt
  have e8 := hB8.lt
  have hT := hT.kp0 hk8
  have hB8 := hB8.kp0 hk8
  have hk := hk.trans hk8
  refine SG.add rfl rfl rfl ev ev ev hT hne wf (by omega) (fun w9 hT hk9 => ?_)
  have hb8t : b8 ≠ bt := fun e => by omega
  have hB8 := hB8.kp hk9 ni
  have hk := hk.trans_new hk9 (new2 (by omega) (by omega))
  obtain ⟨wf', hdep', _, hth, htt, hund, hcase⟩ := add_step wf (idD (l i).1) (idD (l i).2)
  generalize t.add (idD (l i).1) (idD (l i).2) = t' at hT wf' hdep' hth htt hund hcase ⊢
  generalize t.addE (idD (l i).1) (idD (l i).2) = er
  repeat (first | apply CG.seq | apply CG.region | apply SG.nil | apply NG.next | apply CG.skip | apply CG.block | apply CG.ret | apply CG.exit | apply CG.scope | apply NG.ret_then | apply NG.ret_block | apply NG.ret_scope | apply NG.exit_then | refine NG.exit_block rfl ?_ | refine NG.exit_other rfl ?_ | apply NG.exit_scope | apply NG.normal_block | apply NG.normal_scope | refine SG.v (hr := ?_))
  refine SG.ret rfl rfl rfl au (tip_spec hT) (fun w10 hk10 => ?_)
  refine SG.alloc rfl rfl rfl (fun b10 w11 hk11 hb10 hB10 => ?_)
  have eT := hT.blk.lt
  have eM := hT.map.lt
  have e8 := hB8.lt
  have s10 := hk10.size
  have s9 := hk.size
  refine SG.setAll (old := dc (n := 8) ⟨[0, 0, 0, 0, 0, 0, 0, 0], rfl⟩) rfl rfl ev ev hB10 ln ln on (fun w12 hk12 hB10 => ?_)
  have hT := ((hT.kp0 hk10).kp0 hk11).kp hk12 ni ni
  have hB8 := ((hB8.kp0 hk10).kp0 hk11).kp hk12 ni
  have hk := ((hk.trans hk10).trans hk11).trans_new hk12 nw
  have hR8 : Row w12 b8 0 (dc t.tip) := Row.all hB8 rfl
  have hR10 : Row w12 b10 0 (dc t'.tip) := Row.all hB10 rfl
  have hbt' := wf'.bound wf'.tip
  have hbt := wf'.bound hth
  repeat (first | apply CG.seq | apply CG.region | apply SG.nil | apply NG.next | apply CG.skip | apply CG.block | apply CG.ret | apply CG.exit | apply CG.scope | apply NG.ret_then | apply NG.ret_block | apply NG.ret_scope | apply NG.exit_then | refine NG.exit_block rfl ?_ | refine NG.exit_other rfl ?_ | apply NG.exit_scope | apply NG.normal_block | apply NG.normal_scope | refine SG.v (hr := ?_))
  refine CG.draw0 mixed [0, 1, 2, 5, 3, 4, 6, 7, 8, 9, 10, 11, 12, 13, 14, 15, 16, 17, 18, 19, 20, 21, 22, 23, 24, 25, 26, 27, 28, 29, 30] [3] (by kernel_rfl) ?_
  repeat (refine Der.v (hd := ?_))
  refine Der.callG (X := Nat × Nat × Nat) (vs := [.pointer (some ⟨bt, 0, none⟩), dv t.tip, dv t'.tip]) (fun q => .slice (some ⟨q.1, q.2.1, none⟩) (t'.und t.tip t'.tip) q.2.2) (fun _ _ => True) rfl rfl rfl rfl au (fun _ _ _ _ h => h) (fun _ _ _ h => h) (fun w hk _ => ?_) (fun q => ?_)
  · refine (undone_spec (hT.kp0 hk) wf' hth wf'.tip).mono (fun e w' h => ?_)
    obtain ⟨b, off, c, pre, post, h1, _, _, _, h5⟩ := h
    exact ⟨(b, off, c), h1, trivial, h5⟩
  have g3 : ¬ (D : Int) < (t'.und t.tip t'.tip : Int) := by omega
  repeat (refine Der.v (hd := ?_))
  refine Der.call rfl rfl rfl au (fun w hk _ => height_spec (hT.kp0 hk) t'.tip) ?_
  repeat (refine Der.v (hd := ?_))
  refine Der.call rfl rfl rfl au (fun w hk _ => height_spec (hT.kp0 hk) t.tip) ?_
  rw [height_has wf'.tip, height_has hth]
  have hup : t.ht t.tip ≤ t'.ht t'.tip := by
    rcases hcase with h | h
    · rw [h, htt]; omega
    · omega
  have g4 : ¬ (t'.ht t'.tip : Int) < (t'.ht t.tip : Int) := by omega
  by_cases hsame : t'.tip = t.tip
  · have hsm : t'.tip = t.tip := hsame
    repeat (refine Der.v (hd := ?_))
    refine Der.skip rfl rfl ?_
    refine Der.skip rfl rfl ?_
    refine Der.skip rfl rfl ?_
    refine Der.skip rfl rfl ?_
    refine Der.skip rfl rfl ?_
    refine Der.skip rfl rfl ?_
    refine Der.skip rfl rfl ?_
    refine Der.skip rfl rfl ?_
    repeat (refine Der.v (hd := ?_))
    refine Der.fin (fun w13 hk13 _ _ => ?_)
    have e8 := hB8.lt
    have e10 := hB10.lt
    have hR10 := hR10.kp0 hk13
    have hB8 := hB8.kp0 hk13
    have hT := hT.kp0 hk13
    have hk := hk.trans hk13
    repeat (first | apply CG.seq | apply CG.region | apply SG.nil | apply NG.next | apply CG.skip | apply CG.block | apply CG.ret | apply CG.exit | apply CG.scope | apply NG.ret_then | apply NG.ret_block | apply NG.ret_scope | apply NG.exit_then | refine NG.exit_block rfl ?_ | refine NG.exit_other rfl ?_ | apply NG.exit_scope | apply NG.normal_block | apply NG.normal_scope | refine SG.v (hr := ?_))
    refine CG.cond_f rfl ev rfl ?_
    repeat (first | apply CG.seq | apply CG.region | apply SG.nil | apply NG.next | apply CG.skip | apply CG.block | apply CG.ret | apply CG.exit | apply CG.scope | apply NG.ret_then | apply NG.ret_block | apply NG.ret_scope | apply NG.exit_then | refine NG.exit_block rfl ?_ | refine NG.exit_other rfl ?_ | apply NG.exit_scope | apply NG.normal_block | apply NG.normal_scope | refine SG.v (hr := ?_))
    refine SG.setAll (old := dc t.tip) rfl rfl ev ev hB8 ln ln on (fun w14 hk14 hB8 => ?_)
    repeat (first | apply CG.seq | apply CG.region | apply SG.nil | apply NG.next | apply CG.skip | apply CG.block | apply CG.ret | apply CG.exit | apply CG.scope | apply NG.ret_then | apply NG.ret_block | apply NG.ret_scope | apply NG.exit_then | refine NG.exit_block rfl ?_ | refine NG.exit_other rfl ?_ | apply NG.exit_scope | apply NG.normal_block | apply NG.normal_scope | refine SG.v (hr := ?_))
    exact NG.round (t', i + 1) su ⟨hk.trans_new hk14 nw, hT.kp hk14 ni ni, hB8, wf', hdep'.trans hdep, by show i + 1 ≤ n; omega⟩ (by show n - (i + 1) < n - i; omega)
  · have hne' : t'.tip ≠ t.tip := hsame
    have hstep : t'.ht t'.tip = t.ht t.tip + 1 := by
      rcases hcase with h | h
      · exact absurd h hsame
      · exact h.2
    repeat (refine Der.v (hd := ?_))
    refine Der.call rfl rfl rfl au (fun w hk _ => height_spec (hT.kp0 hk) t'.tip) ?_
    repeat (refine Der.v (hd := ?_))
    refine Der.call rfl rfl rfl au (fun w hk _ => height_spec (hT.kp0 hk) t.tip) ?_
    rw [height_has wf'.tip, height_has hth]
    repeat (refine Der.v (hd := ?_))
    refine Der.fin (fun w13 hk13 _ _ => ?_)
    have e8 := hB8.lt
    have e10 := hB10.lt
    have hR10 := hR10.kp0 hk13
    have hB8 := hB8.kp0 hk13
    have hT := hT.kp0 hk13
    have hk := hk.trans hk13
    repeat (first | apply CG.seq | apply CG.region | apply SG.nil | apply NG.next | apply CG.skip | apply CG.block | apply CG.ret | apply CG.exit | apply CG.scope | apply NG.ret_then | apply NG.ret_block | apply NG.ret_scope | apply NG.exit_then | refine NG.exit_block rfl ?_ | refine NG.exit_other rfl ?_ | apply NG.exit_scope | apply NG.normal_block | apply NG.normal_scope | refine SG.v (hr := ?_))
    refine CG.cond_f rfl ev rfl ?_
    repeat (first | apply CG.seq | apply CG.region | apply SG.nil | apply NG.next | apply CG.skip | apply CG.block | apply CG.ret | apply CG.exit | apply CG.scope | apply NG.ret_then | apply NG.ret_block | apply NG.ret_scope | apply NG.exit_then | refine NG.exit_block rfl ?_ | refine NG.exit_other rfl ?_ | apply NG.exit_scope | apply NG.normal_block | apply NG.normal_scope | refine SG.v (hr := ?_))
    refine SG.setAll (old := dc t.tip) rfl rfl ev ev hB8 ln ln on (fun w14 hk14 hB8 => ?_)
    repeat (first | apply CG.seq | apply CG.region | apply SG.nil | apply NG.next | apply CG.skip | apply CG.block | apply CG.ret | apply CG.exit | apply CG.scope | apply NG.ret_then | apply NG.ret_block | apply NG.ret_scope | apply NG.exit_then | refine NG.exit_block rfl ?_ | refine NG.exit_other rfl ?_ | apply NG.exit_scope | apply NG.normal_block | apply NG.normal_scope | refine SG.v (hr := ?_))
    exact NG.round (t', i + 1) su ⟨hk.trans_new hk14 nw, hT.kp hk14 ni ni, hB8, wf', hdep'.trans hdep, by show i + 1 ≤ n; omega⟩ (by show n - (i + 1) < n - i; omega)
end Go.Proofs.Ytpnenekgldggbaa
