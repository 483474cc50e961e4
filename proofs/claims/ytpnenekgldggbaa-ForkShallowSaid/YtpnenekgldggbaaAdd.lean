/-
  The fork: a block comes.
-/
import Derived.Test.YtpnenekgldggbaaSmall
namespace Go.Proofs.Ytpnenekgldggbaa
set_option linter.unusedVariables false

theorem vals_nf0 {S : List Nat} {w0 : World} {F : World → Prop} {L : Env} {d : Option Nat} {ty : TypeId} {pos : String} {af : Array Edge} {g : Option (Nat × Bool)} {x : Operand} {n : Nd} (hx : rho L x = nv n) : Vals Try.prog S w0 F L ⟨d, .field 69 x 0, ty, pos, af, g⟩ (dv n.parent) :=
  vals_field_agg [] (dc n.parent) [.int .i64 n.height] hx rfl rfl rfl (dc_length _)
theorem vals_nf1 {S : List Nat} {w0 : World} {F : World → Prop} {L : Env} {d : Option Nat} {ty : TypeId} {pos : String} {af : Array Edge} {g : Option (Nat × Bool)} {x : Operand} {n : Nd} (hx : rho L x = nv n) : Vals Try.prog S w0 F L ⟨d, .field 69 x 1, ty, pos, af, g⟩ (.int .i64 n.height) :=
  vals_field_cell (dc n.parent) [] hx rfl rfl (dc_length _)

attribute [local irreducible] CG NG SG Vals Der Row Blk MapIs

theorem build69' (w : World) (a0 a1 a2 a3 a4 a5 a6 a7 : UInt8) (n : Int) : (Instr.build 69 #[(0, .agg #[bv a0, bv a1, bv a2, bv a3, bv a4, bv a5, bv a6, bv a7]), (1, Value.int .i64 n)]).run Try.prog w = .ok (.agg #[bv a0, bv a1, bv a2, bv a3, bv a4, bv a5, bv a6, bv a7, Value.int .i64 n]) w := by kernel_rfl
theorem build69 (w : World) (a : Dg) (n : Nat) : (Instr.build 69 #[(0, dv a), (1, Value.int .i64 (n : Int))]).run Try.prog w = .ok (nv ⟨a, n⟩) w := by
  obtain ⟨la, ha⟩ := a
  match la, ha with
  | [a0, a1, a2, a3, a4, a5, a6, a7], _ => exact build69' w a0 a1 a2 a3 a4 a5 a6 a7 n

def Tr.deep (t : Tr) (p : Dg) : Bool := decide (t.depth + t.ht (t.part p t.tip) < t.ht t.tip)
def Tr.addE (t : Tr) (x p : Dg) : Int := if t.has x then 7 else if !t.has p then 24 else if 4096 ≤ t.nodes.length then 8 else if t.deep p then 25 else 0
def Tr.put (t : Tr) (x p : Dg) : Tr := { t with nodes := aput t.nodes x ⟨p, t.ht p + 1⟩, tip := if t.ht t.tip < t.ht p + 1 then x else t.tip }
def Tr.add (t : Tr) (x p : Dg) : Tr := if t.addE x p = 0 then t.put x p else t

theorem partF_has {t : Tr} (wf : t.WF) : ∀ (n : Nat) (a b : Dg), t.has a = true → t.has b = true → t.has (t.partF n a b) = true
  | 0, a, b, ha, hb => ha
  | n + 1, a, b, ha, hb => by
    simp only [Tr.partF]
    by_cases e : a = b
    · rw [if_pos e]; exact ha
    · rw [if_neg e]
      obtain ⟨h1, h2, _⟩ := wf.round ha hb e
      exact partF_has wf n _ _ h1 h2
theorem part_has {t : Tr} (wf : t.WF) {a b : Dg} (ha : t.has a = true) (hb : t.has b = true) : t.has (t.part a b) = true := partF_has wf _ a b ha hb

theorem Tr.has_none {t : Tr} {x : Dg} (h : ¬ t.has x = true) : alook t.nodes x = none := by
  unfold Tr.has at h
  cases hh : alook t.nodes x with
  | none => rfl
  | some n => rw [hh] at h; simp at h

set_option maxHeartbeats 8000000 in
theorem add_spec {w : World} {bt bm : Nat} {t : Tr} (hT : TreeAt w bt bm t) (hbm : bt ≠ bm) (wf : t.WF) (hdep : t.depth ≤ 1000) (x p : Dg) : Calls Try.prog 14 #[.pointer (some ⟨bt, 0, none⟩), dv x, dv p] w
    (fun e w' => e = .returned (.int .i64 (t.addE x p)) ∧ TreeAt w' bt bm (t.add x p) ∧ Kp [bt, bm] w w') := by
  refine enter3 Try.func14 rfl Try.ntmps14 rfl ?_
  repeat (first | apply CG.seq | apply CG.region | apply SG.nil | apply NG.next | apply CG.skip | apply CG.block | apply CG.ret | apply CG.exit | apply CG.scope | apply NG.ret_then | apply NG.ret_block | apply NG.ret_scope | apply NG.exit_then | refine NG.exit_block rfl ?_ | refine NG.exit_other rfl ?_ | apply NG.exit_scope | apply NG.normal_block | apply NG.normal_scope | refine SG.v (hr := ?_))
  refine SG.box rfl rfl rfl ev (fun b4 w1 hk1 hb4 hB4 => ?_)
  refine SG.box rfl rfl rfl ev (fun b5 w2 hk2 hb5 hB5 => ?_)
  have e4 := hB4.lt
  have hk02 := hk1.trans hk2
  have hT2 := hT.kp0 hk02
  have eT := hT.blk.lt
  have eM := hT.map.lt
  have hR4 : Row w2 b4 0 (dc x) := Row.all (hB4.kp0 hk2) rfl
  have hR5 : Row w2 b5 0 (dc p) := Row.all hB5 rfl
  have hr17 := hT2.r17
  have hm := hT2.map
  repeat (first | apply CG.seq | apply CG.region | apply SG.nil | apply NG.next | apply CG.skip | apply CG.block | apply CG.ret | apply CG.exit | apply CG.scope | apply NG.ret_then | apply NG.ret_block | apply NG.ret_scope | apply NG.exit_then | refine NG.exit_block rfl ?_ | refine NG.exit_other rfl ?_ | apply NG.exit_scope | apply NG.normal_block | apply NG.normal_scope | refine SG.v (hr := ?_))
  refine CG.cond_f rfl ev rfl ?_
  repeat (first | apply CG.seq | apply CG.region | apply SG.nil | apply NG.next | apply CG.skip | apply CG.block | apply CG.ret | apply CG.exit | apply CG.scope | apply NG.ret_then | apply NG.ret_block | apply NG.ret_scope | apply NG.exit_then | refine NG.exit_block rfl ?_ | refine NG.exit_other rfl ?_ | apply NG.exit_scope | apply NG.normal_block | apply NG.normal_scope | refine SG.v (hr := ?_))
  refine CG.drawv mixed [0, 1, 2, 3, 4, 5, 6, 7, 8, 11] [(9, 10, 7, .tmp 21)] (by kernel_rfl) (by kernel_rfl) ?_
  by_cases hx : t.has x = true
  · have hrx := Tr.has_some hx
    repeat (refine Der.v (hd := ?_))
    refine Der.one vr (fun b7 w3 hk3 hb7 hB7 => ?_)
    repeat (first | apply CG.seq | apply CG.region | apply SG.nil | apply NG.next | apply CG.skip | apply CG.block | apply CG.ret | apply CG.exit | apply CG.scope | apply NG.ret_then | apply NG.ret_block | apply NG.ret_scope | apply NG.exit_then | refine NG.exit_block rfl ?_ | refine NG.exit_other rfl ?_ | apply NG.exit_scope | apply NG.normal_block | apply NG.normal_scope | refine SG.v (hr := ?_))
    refine CG.cond_t rfl ev rfl ?_
    repeat (first | apply CG.seq | apply CG.region | apply SG.nil | apply NG.next | apply CG.skip | apply CG.block | apply CG.ret | apply CG.exit | apply CG.scope | apply NG.ret_then | apply NG.ret_block | apply NG.ret_scope | apply NG.exit_then | refine NG.exit_block rfl ?_ | refine NG.exit_other rfl ?_ | apply NG.exit_scope | apply NG.normal_block | apply NG.normal_scope | refine SG.v (hr := ?_))
    refine ret1 (Or.inl rfl) Try.results14 rv ?_
    have hk03 := hk02.trans hk3
    exact ⟨by simp [Tr.addE, hx], by simp [Tr.add, Tr.addE, hx]; exact hT.kp0 hk03, hk03.any⟩
  have hrx := Tr.has_none hx
  repeat (refine Der.v (hd := ?_))
  refine Der.one vr (fun b7 w3 hk3 hb7 hB7 => ?_)
  repeat (first | apply CG.seq | apply CG.region | apply SG.nil | apply NG.next | apply CG.skip | apply CG.block | apply CG.ret | apply CG.exit | apply CG.scope | apply NG.ret_then | apply NG.ret_block | apply NG.ret_scope | apply NG.exit_then | refine NG.exit_block rfl ?_ | refine NG.exit_other rfl ?_ | apply NG.exit_scope | apply NG.normal_block | apply NG.normal_scope | refine SG.v (hr := ?_))
  refine CG.cond_f rfl ev rfl ?_
  repeat (first | apply CG.seq | apply CG.region | apply SG.nil | apply NG.next | apply CG.skip | apply CG.block | apply CG.ret | apply CG.exit | apply CG.scope | apply NG.ret_then | apply NG.ret_block | apply NG.ret_scope | apply NG.exit_then | refine NG.exit_block rfl ?_ | refine NG.exit_other rfl ?_ | apply NG.exit_scope | apply NG.normal_block | apply NG.normal_scope | refine SG.v (hr := ?_))
  have hk03 := hk02.trans hk3
  have hT3 := hT.kp0 hk03
  have hR4 := hR4.kp0 hk3
  have hR5 := hR5.kp0 hk3
  have hr17 := hT3.r17
  have hm := hT3.map
  refine CG.drawv mixed [0, 1, 2, 3, 4, 5, 6, 7, 8, 11] [(9, 10, 9, .tmp 31)] (by kernel_rfl) (by kernel_rfl) ?_
  by_cases hp : t.has p = true
  · have hrp := Tr.has_some hp
    repeat (refine Der.v (hd := ?_))
    refine Der.one vr (fun b9 w4 hk4 hb9 hB9 => ?_)
    repeat (first | apply CG.seq | apply CG.region | apply SG.nil | apply NG.next | apply CG.skip | apply CG.block | apply CG.ret | apply CG.exit | apply CG.scope | apply NG.ret_then | apply NG.ret_block | apply NG.ret_scope | apply NG.exit_then | refine NG.exit_block rfl ?_ | refine NG.exit_other rfl ?_ | apply NG.exit_scope | apply NG.normal_block | apply NG.normal_scope | refine SG.v (hr := ?_))
    refine CG.cond_f rfl ev rfl ?_
    have hk04 := hk03.trans hk4
    have hT4 := hT.kp0 hk04
    have hR4 := hR4.kp0 hk4
    have hR5 := hR5.kp0 hk4
    have hr17 := hT4.r17
    have hr16 := hT4.r16
    have hr8 := hT4.r8
    have hm := hT4.map
    have hR9 : Row w4 b9 0 (nc (t.nd p)) := Row.all hB9 rfl
    have hR9h := hR9.nch
    have hbp := wf.bound hp
    have hbt := wf.bound wf.tip
    have f1 : (t.nd p).height = t.ht p := rfl
    have f2 : (t.nd t.tip).height = t.ht t.tip := rfl
    have hrt := Tr.has_some wf.tip
    by_cases hfull : 4096 ≤ t.nodes.length
    · have g1 : (4096 : Int) ≤ (t.nodes.length : Int) := by omega
      repeat (first | apply CG.seq | apply CG.region | apply SG.nil | apply NG.next | apply CG.skip | apply CG.block | apply CG.ret | apply CG.exit | apply CG.scope | apply NG.ret_then | apply NG.ret_block | apply NG.ret_scope | apply NG.exit_then | refine NG.exit_block rfl ?_ | refine NG.exit_other rfl ?_ | apply NG.exit_scope | apply NG.normal_block | apply NG.normal_scope | refine SG.v (hr := ?_))
      refine CG.cond_t rfl ev rfl ?_
      repeat (first | apply CG.seq | apply CG.region | apply SG.nil | apply NG.next | apply CG.skip | apply CG.block | apply CG.ret | apply CG.exit | apply CG.scope | apply NG.ret_then | apply NG.ret_block | apply NG.ret_scope | apply NG.exit_then | refine NG.exit_block rfl ?_ | refine NG.exit_other rfl ?_ | apply NG.exit_scope | apply NG.normal_block | apply NG.normal_scope | refine SG.v (hr := ?_))
      refine ret1 (Or.inl rfl) Try.results14 rv ?_
      exact ⟨by simp [Tr.addE, hx, hp, hfull], by simp [Tr.add, Tr.addE, hx, hp, hfull]; exact hT4, hk04.any⟩
    have g1 : ¬ (4096 : Int) ≤ (t.nodes.length : Int) := by omega
    repeat (first | apply CG.seq | apply CG.region | apply SG.nil | apply NG.next | apply CG.skip | apply CG.block | apply CG.ret | apply CG.exit | apply CG.scope | apply NG.ret_then | apply NG.ret_block | apply NG.ret_scope | apply NG.exit_then | refine NG.exit_block rfl ?_ | refine NG.exit_other rfl ?_ | apply NG.exit_scope | apply NG.normal_block | apply NG.normal_scope | refine SG.v (hr := ?_))
    refine CG.cond_f rfl ev rfl ?_
    repeat (first | apply CG.seq | apply CG.region | apply SG.nil | apply NG.next | apply CG.skip | apply CG.block | apply CG.ret | apply CG.exit | apply CG.scope | apply NG.ret_then | apply NG.ret_block | apply NG.ret_scope | apply NG.exit_then | refine NG.exit_block rfl ?_ | refine NG.exit_other rfl ?_ | apply NG.exit_scope | apply NG.normal_block | apply NG.normal_scope | refine SG.v (hr := ?_))
    refine CG.draw0 mixed [0, 1, 2, 3, 4, 5, 6, 7, 8, 9, 10] [] (by kernel_rfl) ?_
    repeat (refine Der.v (hd := ?_))
    refine Der.fin (fun w5 hk5 _ _ => ?_)
    have hk05 := hk04.trans hk5
    have hT5 := hT.kp0 hk05
    have hR4 := hR4.kp0 hk5
    have hR5 := hR5.kp0 hk5
    have hR9h := hR9h.kp0 hk5
    have hr17 := hT5.r17
    have hr16 := hT5.r16
    have hr8 := hT5.r8
    have hm := hT5.map
    repeat (first | apply CG.seq | apply CG.region | apply SG.nil | apply NG.next | apply CG.skip | apply CG.block | apply CG.ret | apply CG.exit | apply CG.scope | apply NG.ret_then | apply NG.ret_block | apply NG.ret_scope | apply NG.exit_then | refine NG.exit_block rfl ?_ | refine NG.exit_other rfl ?_ | apply NG.exit_scope | apply NG.normal_block | apply NG.normal_scope | refine SG.v (hr := ?_))
    have hpp := part_has wf hp wf.tip
    have hrpp := Tr.has_some hpp
    have hbpp := wf.bound hpp
    have f3 : (t.nd (t.part p t.tip)).height = t.ht (t.part p t.tip) := rfl
    refine CG.draw0 mixed [0, 1, 2, 3, 4, 5, 6, 7, 8, 9, 10, 11, 12, 13, 14, 15, 16, 17, 18, 19] [] (by kernel_rfl) ?_
    repeat (refine Der.v (hd := ?_))
    refine Der.call rfl rfl rfl au (fun w hk _ => part_spec (hT5.kp0 hk) wf hp wf.tip) ?_
    by_cases hd : t.depth + t.ht (t.part p t.tip) < t.ht t.tip
    · have g2 : (t.depth : Int) < ((t.nd t.tip).height : Int) - ((t.nd (t.part p t.tip)).height : Int) := by omega
      repeat (refine Der.v (hd := ?_))
      refine Der.fin (fun w6 hk6 _ _ => ?_)
      have hk06 := hk05.trans hk6
      repeat (first | apply CG.seq | apply CG.region | apply SG.nil | apply NG.next | apply CG.skip | apply CG.block | apply CG.ret | apply CG.exit | apply CG.scope | apply NG.ret_then | apply NG.ret_block | apply NG.ret_scope | apply NG.exit_then | refine NG.exit_block rfl ?_ | refine NG.exit_other rfl ?_ | apply NG.exit_scope | apply NG.normal_block | apply NG.normal_scope | refine SG.v (hr := ?_))
      refine CG.cond_t rfl ev rfl ?_
      repeat (first | apply CG.seq | apply CG.region | apply SG.nil | apply NG.next | apply CG.skip | apply CG.block | apply CG.ret | apply CG.exit | apply CG.scope | apply NG.ret_then | apply NG.ret_block | apply NG.ret_scope | apply NG.exit_then | refine NG.exit_block rfl ?_ | refine NG.exit_other rfl ?_ | apply NG.exit_scope | apply NG.normal_block | apply NG.normal_scope | refine SG.v (hr := ?_))
      refine ret1 (Or.inl rfl) Try.results14 rv ?_
      have hdp : t.deep p = true := by simp [Tr.deep, hd]
      exact ⟨by simp [Tr.addE, hx, hp, hfull, hdp], by simp [Tr.add, Tr.addE, hx, hp, hfull, hdp]; exact hT.kp0 hk06, hk06.any⟩
    have g2 : ¬ (t.depth : Int) < ((t.nd t.tip).height : Int) - ((t.nd (t.part p t.tip)).height : Int) := by omega
    repeat (refine Der.v (hd := ?_))
    refine Der.fin (fun w6 hk6 _ _ => ?_)
    have hdp : t.deep p = false := by simp [Tr.deep, hd]
    have hae : t.addE x p = 0 := by simp [Tr.addE, hx, hp, hfull, hdp]
    have hk06 := hk05.trans hk6
    have hT6 := hT.kp0 hk06
    have hR4 := hR4.kp0 hk6
    have hR5 := hR5.kp0 hk6
    have hR9h := hR9h.kp0 hk6
    have hr17 := hT6.r17
    have hm := hT6.map
    repeat (first | apply CG.seq | apply CG.region | apply SG.nil | apply NG.next | apply CG.skip | apply CG.block | apply CG.ret | apply CG.exit | apply CG.scope | apply NG.ret_then | apply NG.ret_block | apply NG.ret_scope | apply NG.exit_then | refine NG.exit_block rfl ?_ | refine NG.exit_other rfl ?_ | apply NG.exit_scope | apply NG.normal_block | apply NG.normal_scope | refine SG.v (hr := ?_))
    refine CG.cond_f rfl ev rfl ?_
    repeat (first | apply CG.seq | apply CG.region | apply SG.nil | apply NG.next | apply CG.skip | apply CG.block | apply CG.ret | apply CG.exit | apply CG.scope | apply NG.ret_then | apply NG.ret_block | apply NG.ret_scope | apply NG.exit_then | refine NG.exit_block rfl ?_ | refine NG.exit_other rfl ?_ | apply NG.exit_scope | apply NG.normal_block | apply NG.normal_scope | refine SG.v (hr := ?_))
    refine CG.tail mixed 10 [0, 1, 2, 3, 4, 5, 6, 7, 8, 9] (by kernel_rfl) ?_
    repeat (refine Der.v (hd := ?_))
    refine Der.val rfl rfl rfl (vals_build rfl (fun w => build69 w p (t.ht p + 1))) ?_
    refine Der.tl (fun w7 hk7 _ _ => ?_)
    have hk07 := hk06.trans hk7
    have hT7 := hT.kp0 hk07
    refine SG.mapUpdate (enc := dv (n := 8)) (V := nv) (kx := x) (vy := ⟨p, t.ht p + 1⟩) rfl rfl ev ev ev hT7.map BArr.key (fun w8 hk8 hm8 => ?_)
    have e9 := hR9h.lt
    have eW3 := hk03.size
    have hR4 := (hR4.kp0 hk7).kp hk8 ni
    have hR9h := (hR9h.kp0 hk7).kp hk8 ni
    have hT8 : TreeAt w8 bt bm { t with nodes := aput t.nodes x ⟨p, t.ht p + 1⟩ } := ⟨hT7.blk.kp hk8 ni, hm8⟩
    have hk08 : Kp [bt, bm] w w8 := (hk07.any (S := [bt, bm])).trans (hk8.mono (by simp))
    have hadd : t.add x p = t.put x p := by rw [Tr.add, if_pos hae]
    by_cases hup : t.ht t.tip < t.ht p + 1
    · have g3 : ((t.nd t.tip).height : Int) < ((t.nd p).height : Int) + 1 := by omega
      repeat (first | apply CG.seq | apply CG.region | apply SG.nil | apply NG.next | apply CG.skip | apply CG.block | apply CG.ret | apply CG.exit | apply CG.scope | apply NG.ret_then | apply NG.ret_block | apply NG.ret_scope | apply NG.exit_then | refine NG.exit_block rfl ?_ | refine NG.exit_other rfl ?_ | apply NG.exit_scope | apply NG.normal_block | apply NG.normal_scope | refine SG.v (hr := ?_))
      refine CG.cond_t rfl ev rfl ?_
      repeat (first | apply CG.seq | apply CG.region | apply SG.nil | apply NG.next | apply CG.skip | apply CG.block | apply CG.ret | apply CG.exit | apply CG.scope | apply NG.ret_then | apply NG.ret_block | apply NG.ret_scope | apply NG.exit_then | refine NG.exit_block rfl ?_ | refine NG.exit_other rfl ?_ | apply NG.exit_scope | apply NG.normal_block | apply NG.normal_scope | refine SG.v (hr := ?_))
      refine SG.setMid (dc t.first) (dc t.tip) [.int .i64 t.depth, .map (some bm)] rfl rfl ev ev hT8.blk rfl ln ln ln on (fun w9 hk9 hB => ?_)
      repeat (first | apply CG.seq | apply CG.region | apply SG.nil | apply NG.next | apply CG.skip | apply CG.block | apply CG.ret | apply CG.exit | apply CG.scope | apply NG.ret_then | apply NG.ret_block | apply NG.ret_scope | apply NG.exit_then | refine NG.exit_block rfl ?_ | refine NG.exit_other rfl ?_ | apply NG.exit_scope | apply NG.normal_block | apply NG.normal_scope | refine SG.v (hr := ?_))
      refine ret1 (Or.inl rfl) Try.results14 rv ?_
      refine ⟨by rw [hae], ?_, hk08.trans (hk9.mono (by simp))⟩
      rw [hadd, Tr.put, if_pos hup]
      exact ⟨hB, hm8.kp hk9 ni⟩
    · have g3 : ¬ ((t.nd t.tip).height : Int) < ((t.nd p).height : Int) + 1 := by omega
      repeat (first | apply CG.seq | apply CG.region | apply SG.nil | apply NG.next | apply CG.skip | apply CG.block | apply CG.ret | apply CG.exit | apply CG.scope | apply NG.ret_then | apply NG.ret_block | apply NG.ret_scope | apply NG.exit_then | refine NG.exit_block rfl ?_ | refine NG.exit_other rfl ?_ | apply NG.exit_scope | apply NG.normal_block | apply NG.normal_scope | refine SG.v (hr := ?_))
      refine CG.cond_f rfl ev rfl ?_
      repeat (first | apply CG.seq | apply CG.region | apply SG.nil | apply NG.next | apply CG.skip | apply CG.block | apply CG.ret | apply CG.exit | apply CG.scope | apply NG.ret_then | apply NG.ret_block | apply NG.ret_scope | apply NG.exit_then | refine NG.exit_block rfl ?_ | refine NG.exit_other rfl ?_ | apply NG.exit_scope | apply NG.normal_block | apply NG.normal_scope | refine SG.v (hr := ?_))
      refine ret1 (Or.inl rfl) Try.results14 rv ?_
      refine ⟨by rw [hae], ?_, hk08⟩
      rw [hadd, Tr.put, if_neg hup]
      exact hT8
  · have hrp := Tr.has_none hp
    repeat (refine Der.v (hd := ?_))
    refine Der.one vr (fun b9 w4 hk4 hb9 hB9 => ?_)
    repeat (first | apply CG.seq | apply CG.region | apply SG.nil | apply NG.next | apply CG.skip | apply CG.block | apply CG.ret | apply CG.exit | apply CG.scope | apply NG.ret_then | apply NG.ret_block | apply NG.ret_scope | apply NG.exit_then | refine NG.exit_block rfl ?_ | refine NG.exit_other rfl ?_ | apply NG.exit_scope | apply NG.normal_block | apply NG.normal_scope | refine SG.v (hr := ?_))
    refine CG.cond_t rfl ev rfl ?_
    repeat (first | apply CG.seq | apply CG.region | apply SG.nil | apply NG.next | apply CG.skip | apply CG.block | apply CG.ret | apply CG.exit | apply CG.scope | apply NG.ret_then | apply NG.ret_block | apply NG.ret_scope | apply NG.exit_then | refine NG.exit_block rfl ?_ | refine NG.exit_other rfl ?_ | apply NG.exit_scope | apply NG.normal_block | apply NG.normal_scope | refine SG.v (hr := ?_))
    refine ret1 (Or.inl rfl) Try.results14 rv ?_
    have hk04 := hk03.trans hk4
    exact ⟨by simp [Tr.addE, hx, hp], by simp [Tr.add, Tr.addE, hx, hp]; exact hT.kp0 hk04, hk04.any⟩
end Go.Proofs.Ytpnenekgldggbaa
