/-
  LobbySooner answers true for every input, and leaves its arguments as they were. No conditions.
-/
import Derived.Test.YtnoipmimddoioaaQs5
/-
  LobbySooner, walked.
-/
namespace Go.Proofs.Ytnoipmimddoioaa
open Go.Proofs Go.Shelf Go.Sort
set_option linter.unusedVariables false

/-! ### plain -/
def wi (i : Nat) : Dg := ⟨[UInt8.ofNat i, 9, 0, 0, 0, 0, 0, 0], rfl⟩
def offN (o : Ofr) (d : Dg) : Ofr := { o with who := d }
theorem wi_inj {i j : Nat} (hi : i < 256) (hj : j < 256) (h : wi i = wi j) : i = j := by
  have h1 : UInt8.ofNat i = UInt8.ofNat j := by
    have := congrArg Subtype.val h
    simpa [wi] using this
  have h2 := congrArg UInt8.toNat h1
  simp at h2
  omega
theorem grab_all {s : Int} : ∀ (r t : List Ofr), (t ++ r).Pairwise fitP → (t.length : Int) < s → s ≤ ((t ++ r).length : Int) → grab s t r = some ((t ++ r).take s.toNat)
  | [], t, _, h1, h2 => by
    rw [List.append_nil] at h2
    omega
  | o :: r, t, hp, h1, h2 => by
    have ha : t.any (fun x => !decide (fitP x o)) = false := by
      rw [List.any_eq_false]
      intro x hx
      have := (List.pairwise_append.1 hp).2.2 x hx o List.mem_cons_self
      simpa using this
    have e : t ++ o :: r = (t ++ [o]) ++ r := by simp
    by_cases hs : ((t ++ [o]).length : Int) = s
    · rw [grab_end ha hs, e, show s.toNat = (t ++ [o]).length by omega, List.take_left']
      rfl
    · rw [grab_on ha hs, e]
      rw [e] at hp h2
      exact grab_all r (t ++ [o]) hp (by rw [List.length_append, List.length_singleton] at hs ⊢; omega) h2
theorem findD_all {l : List Ofr} {s : Int} (hp : l.Pairwise fitP) (hs : ∀ x ∈ l, x.seats = s) (h1 : 2 ≤ s) (h2 : s ≤ (l.length : Int)) : findD l = some (l.take s.toNat) := by
  cases l with
  | nil => simp at h2; omega
  | cons o r =>
    unfold findD
    rw [hs o List.mem_cons_self, grab_all r [o] hp (by simp; omega) h2]
    rfl
theorem findD_few {l : List Ofr} {s : Int} (hs : ∀ x ∈ l, x.seats = s) (h2 : (l.length : Int) < s) : findD l = none := by
  cases h : findD l with
  | none => rfl
  | some t =>
    obtain ⟨h3, _, o, v, rfl, h4⟩ := findD_some h
    have := h3.length_le
    rw [hs o (h3.subset List.mem_cons_self)] at h4
    omega
theorem filter_drop {α : Type} [DecidableEq α] {l : List α} (hn : l.Nodup) (k : Nat) : l.filter (fun x => !decide (x ∈ l.take k)) = l.drop k := by
  have hn2 := hn
  rw [← List.take_append_drop k l, List.nodup_append] at hn2
  have e : l.filter (fun x => !decide (x ∈ l.take k)) = (l.take k).filter (fun x => !decide (x ∈ l.take k)) ++ (l.drop k).filter (fun x => !decide (x ∈ l.take k)) := by
    rw [← List.filter_append, List.take_append_drop]
  rw [e]
  have e1 : (l.take k).filter (fun x => !decide (x ∈ l.take k)) = [] := by
    rw [List.filter_eq_nil_iff]
    intro x hx
    simp [hx]
  have e2 : (l.drop k).filter (fun x => !decide (x ∈ l.take k)) = l.drop k := by
    rw [List.filter_eq_self]
    intro x hx
    have : x ∉ l.take k := fun hm => hn2.2.2 x hm x hx rfl
    simp [this]
  rw [e1, e2, List.nil_append]
def offs (o : Ofr) (n : Nat) : List Ofr := (List.range n).map (fun i => offN o (wi i))
theorem offs_len (o : Ofr) (n : Nat) : (offs o n).length = n := by simp [offs]
theorem offs_get (o : Ofr) (n i : Nat) (h : i < (offs o n).length) : (offs o n)[i] = offN o (wi i) := by simp [offs]
theorem offs_succ (o : Ofr) (n : Nat) : offs o (n + 1) = offs o n ++ [offN o (wi n)] := by simp [offs, List.range_succ]
theorem offs_mem {o x : Ofr} {n : Nat} (h : x ∈ offs o n) : ∃ i, i < n ∧ x = offN o (wi i) := by
  obtain ⟨i, hi, rfl⟩ := List.mem_map.1 h
  exact ⟨i, List.mem_range.1 hi, rfl⟩
theorem offN_ok {o : Ofr} (h : o.Ok) (d : Dg) : (offN o d).Ok := ⟨h.s1, h.s2, h.l1, h.l2, h.l3, h.w1, h.w2, h.t1, h.t2⟩
theorem offs_keep {o : Ofr} {n : Nat} (ho : o.Ok) (hn : n < 256) : keepL 0 (offN o (wi n)) (offs o n) = offs o n := by
  unfold keepL
  have h1 : (offs o n).filter (fun x => !decide (x.till < 0)) = offs o n := by
    rw [List.filter_eq_self]
    intro x hx
    obtain ⟨i, hi, rfl⟩ := offs_mem hx
    have : ¬ (offN o (wi i)).till < 0 := by have := ho.t1; show ¬ o.till < 0; omega
    simp [this]
  rw [h1, List.filter_eq_self]
  intro x hx
  obtain ⟨i, hi, rfl⟩ := offs_mem hx
  have : ¬ (offN o (wi i)).who = (offN o (wi n)).who := fun e => by
    have := wi_inj (by omega) hn e
    omega
  simp [this]
theorem Wait.drop {m : List Ofr} (h : Wait m) (k : Nat) : Wait (m.drop k) := ⟨fun x hx => h.ok x (List.mem_of_mem_drop hx), h.nd.sublist ((List.drop_sublist _ _).map _)⟩
theorem alike_fit {o : Ofr} {n k : Nat} (h : Wait (offs o n)) : ((offs o n).drop k).Pairwise fitP := by
  have hd := h.drop k
  have h1 := hd.nd
  rw [List.Nodup, List.pairwise_map] at h1
  refine h1.imp_of_mem (fun {a b} ha hb hne => ?_)
  obtain ⟨i, _, rfl⟩ := offs_mem (List.mem_of_mem_drop ha)
  obtain ⟨j, _, rfl⟩ := offs_mem (List.mem_of_mem_drop hb)
  have hle : o.least ≤ o.most := (hd.ok _ ha).l2
  exact ⟨hne, rfl, rfl, hle, hle⟩
theorem wrapB {i : Nat} (h : i < 256) : IntKind.wrap .u8 (i : Int) = ((UInt8.ofNat i).toNat : Int) := by
  simp [IntKind.wrap, IntKind.signed, IntKind.bits]
theorem wrapB' {i j : Nat} (h : i + j < 256) : IntKind.wrap .u8 ((i : Int) + (j : Int)) = ((UInt8.ofNat (i + j)).toNat : Int) := by
  rw [← wrapB h]
  rfl
theorem wrap17 (u : UInt8) : IntKind.wrap .i64 ((u.toNat : Int) % 17) = ((u.toNat % 17 : Nat) : Int) := by
  have : u.toNat % 17 < 17 := Nat.mod_lt _ (by decide)
  simp [IntKind.wrap, IntKind.signed, IntKind.bits]
  omega
theorem bwi' (x : UInt8) (w : World) : (Instr.build 23 #[(0, bv x), (1, .int .u8 9)]).run Try.prog w = .ok (.agg #[bv x, .int .u8 9, .int .u8 0, .int .u8 0, .int .u8 0, .int .u8 0, .int .u8 0, .int .u8 0]) w := by kernel_rfl
theorem bwi (i : Nat) (w : World) : (Instr.build 23 #[(0, .int .u8 ((UInt8.ofNat i).toNat : Int)), (1, .int .u8 9)]).run Try.prog w = .ok (dv (wi i)) w := bwi' _ w
theorem bwh' (x : UInt8) (w : World) : (Instr.build 24 #[(0, bv x), (1, .int .u8 9)]).run Try.prog w = .ok (.agg #[bv x, .int .u8 9, .int .u8 0, .int .u8 0, .int .u8 0, .int .u8 0, .int .u8 0, .int .u8 0]) w := by kernel_rfl
theorem bwh (i : Nat) (w : World) : (Instr.build 24 #[(0, .int .u8 ((UInt8.ofNat i).toNat : Int)), (1, .int .u8 9)]).run Try.prog w = .ok (dv (wi i)) w := bwh' _ w
theorem ec_who (o : Ofr) (d e : Dg) : spl (ec (offN o d)) 0 (dc e) = ec (offN o e) := by
  have := spl_mid (pre := []) (old := dc d) (l := dc e) (post := dc o.rules ++ [.int .i64 o.seats, .int .i64 o.least, .int .i64 o.most, .int .i64 o.window, .int .i64 o.till]) (by simp [dc_length])
  simpa [ec, offN] using this
theorem vals_rem8 {P : Program} {S : List Nat} {w0 : World} {F : World → Prop} {L : Env} {dd : Option Nat} {ty : TypeId} {pos : String} {af : Array Edge} {g : Option (Nat × Bool)} {T T' : TypeId} {x y : Operand} {u : UInt8} {b : Int} (hx : ro L x = some (bv u)) (hy : ro L y = some (.int .u8 b)) (h : 0 < b) :
    Vals P S w0 F L ⟨dd, .binOp .rem T x y T', ty, pos, af, g⟩ (.int .u8 ((u.toNat : Int) % b)) := fun w _ _ => by
  have hb : b ≠ 0 := by omega
  have hx' : rho L x = .int .u8 (u.toNat : Int) := rho_of hx
  simp [execOp, hx', rho_of hy, eqGuard, binOp, Op.intDiv, hb]
  exact Int.tmod_eq_emod_of_nonneg (by omega)
theorem vals_remi {P : Program} {S : List Nat} {w0 : World} {F : World → Prop} {L : Env} {d : Option Nat} {ty : TypeId} {pos : String} {af : Array Edge} {g : Option (Nat × Bool)} {T T' : TypeId} {x y : Operand} {a b : Int} (hx : ro L x = some (.int .i64 a)) (hy : ro L y = some (.int .i64 b)) (h : 0 < b) (ha : 0 ≤ a) :
    Vals P S w0 F L ⟨d, .binOp .rem T x y T', ty, pos, af, g⟩ (.int .i64 (a % b)) := fun w _ _ => by
  have hb : b ≠ 0 := by omega
  rw [← Int.tmod_eq_emod_of_nonneg ha]
  simp [execOp, rho_of hx, rho_of hy, eqGuard, binOp, Op.intDiv, hb]

attribute [local irreducible] CG NG SG Vals Der Row Blk MapIs IterAt addI xorI orI andI shlI shrI mulI twoI cmpD cmpW kW digO manyI mixD sortK maxs dealOf
theorem all2_S {w : World} {base bt : Nat} {room : Int} {v : Value} {l : List Ofr} (hL : Lob base w bt room v l) (hl : l.length ≤ 100000) (hW : Wait l) : RetS Try.prog ec 21 31 #[.pointer (some ⟨bt, 0, none⟩), .int .i64 0] w l := by
  refine (all2_spec 0 hL hl).mono (fun e w' hh => ?_)
  obtain ⟨v', he, ho, hk⟩ := hh
  rw [hW.late] at ho
  obtain ⟨a, c, rfl, hS⟩ := SlF.own ec_length ho rfl
  exact ⟨a, c, he, hS, hk⟩
set_option maxHeartbeats 32000000 in
theorem sooner_walk (w : World) (o : Ofr) (u : UInt8) : Ret Try.prog 8 #[ov o, bv u] w (.bool true) := by
  refine enter2 Try.func8 rfl Try.ntmps8 rfl ?_
  have h00 : (0 : Int) = 0 := rfl
  have hn17 : u.toNat % 17 ≤ 16 := by omega
  repeat (first|apply CG.seq|apply CG.region|apply SG.nil|apply NG.next|apply CG.skip|apply CG.block|apply CG.ret|apply CG.exit|apply NG.ret_then|apply NG.exit_then|refine NG.exit_block rfl ?_|apply NG.normal_block|refine SG.val rfl rfl rfl rfl (by first|((first|apply qep|apply qmv|apply qas|apply qlc|apply qla|apply qfa|apply qix|apply qpk|apply qls|apply qei|apply qni|apply qnd|apply qad|apply qln|apply qle|apply qxt|apply qnt|apply qep|apply qcv)<;>(first|exact rfl|assumption|exact Ar.mk (by omega)|exact dct (by first|assumption|omega)|exact dcf (by first|assumption|omega)|exact List.not_mem_nil|apply dc_length|apply ec_length|apply dl_length|exact nm1 (by omega)|fail))|fail) ?_)
  refine SG.box rfl rfl rfl (by exact rho_of rfl) (fun b2 w1 hk1 hb2 hB2 => ?_)
  have hB2 : Blk w1 b2 (.cells (ec o).toArray 35) := hB2
  have hR2 : Row w1 b2 0 (ec o) := Row.all hB2 rfl
  have l2 := hB2.lt
  repeat (first|apply CG.seq|apply CG.region|apply SG.nil|apply NG.next|apply CG.skip|apply CG.block|apply CG.ret|apply CG.exit|apply NG.ret_then|apply NG.exit_then|refine NG.exit_block rfl ?_|apply NG.normal_block|refine SG.val rfl rfl rfl rfl (by first|((first|apply qep|apply qmv|apply qas|apply qlc|apply qla|apply qfa|apply qix|apply qpk|apply qls|apply qei|apply qni|apply qnd|apply qad|apply qln|apply qle|apply qxt|apply qnt|apply qep|apply qcv)<;>(first|exact rfl|assumption|exact Ar.mk (by omega)|exact dct (by first|assumption|omega)|exact dcf (by first|assumption|omega)|exact List.not_mem_nil|apply dc_length|apply ec_length|apply dl_length|exact nm1 (by omega)|fail))|fail) ?_)
  refine SG.val rfl rfl rfl rfl (vals_rem8 rfl rfl (by decide)) ?_
  repeat (first|apply CG.seq|apply CG.region|apply SG.nil|apply NG.next|apply CG.skip|apply CG.block|apply CG.ret|apply CG.exit|apply NG.ret_then|apply NG.exit_then|refine NG.exit_block rfl ?_|apply NG.normal_block|refine SG.val rfl rfl rfl rfl (by first|((first|apply qep|apply qmv|apply qas|apply qlc|apply qla|apply qfa|apply qix|apply qpk|apply qls|apply qei|apply qni|apply qnd|apply qad|apply qln|apply qle|apply qxt|apply qnt|apply qep|apply qcv)<;>(first|exact rfl|assumption|exact Ar.mk (by omega)|exact dct (by first|assumption|omega)|exact dcf (by first|assumption|omega)|exact List.not_mem_nil|apply dc_length|apply ec_length|apply dl_length|exact nm1 (by omega)|fail))|fail) ?_)
  rw [wrap17 u]
  generalize u.toNat % 17 = n at hn17
  repeat (first|apply CG.seq|apply CG.region|apply SG.nil|apply NG.next|apply CG.skip|apply CG.block|apply CG.ret|apply CG.exit|apply NG.ret_then|apply NG.exit_then|refine NG.exit_block rfl ?_|apply NG.normal_block|refine SG.val rfl rfl rfl rfl (by first|((first|apply qep|apply qmv|apply qas|apply qlc|apply qla|apply qfa|apply qix|apply qpk|apply qls|apply qei|apply qni|apply qnd|apply qad|apply qln|apply qle|apply qxt|apply qnt|apply qep|apply qcv)<;>(first|exact rfl|assumption|exact Ar.mk (by omega)|exact dct (by first|assumption|omega)|exact dcf (by first|assumption|omega)|exact List.not_mem_nil|apply dc_length|apply ec_length|apply dl_length|exact nm1 (by omega)|fail))|fail) ?_)
  refine SG.ret rfl rfl rfl (vs := [ov o]) (by repeat' (first | exact True.intro | exact rho_of rfl | refine And.intro ?_ ?_)) (right_spec o w1) (fun w2 hk2 => ?_)
  by_cases ho : o.Ok
  rotate_left
  · rw [decide_eq_false ho]
    repeat (first|apply CG.seq|apply CG.region|apply SG.nil|apply NG.next|apply CG.skip|apply CG.block|apply CG.ret|apply CG.exit|apply NG.ret_then|apply NG.exit_then|refine NG.exit_block rfl ?_|apply NG.normal_block|refine SG.val rfl rfl rfl rfl (by first|((first|apply qep|apply qmv|apply qas|apply qlc|apply qla|apply qfa|apply qix|apply qpk|apply qls|apply qei|apply qni|apply qnd|apply qad|apply qln|apply qle|apply qxt|apply qnt|apply qep|apply qcv)<;>(first|exact rfl|assumption|exact Ar.mk (by omega)|exact dct (by first|assumption|omega)|exact dcf (by first|assumption|omega)|exact List.not_mem_nil|apply dc_length|apply ec_length|apply dl_length|exact nm1 (by omega)|fail))|fail) ?_)
    refine CG.cond_t rfl (by exact rho_of rfl) rfl ?_
    repeat (first|apply CG.seq|apply CG.region|apply SG.nil|apply NG.next|apply CG.skip|apply CG.block|apply CG.ret|apply CG.exit|apply NG.ret_then|apply NG.exit_then|refine NG.exit_block rfl ?_|apply NG.normal_block|refine SG.val rfl rfl rfl rfl (by first|((first|apply qep|apply qmv|apply qas|apply qlc|apply qla|apply qfa|apply qix|apply qpk|apply qls|apply qei|apply qni|apply qnd|apply qad|apply qln|apply qle|apply qxt|apply qnt|apply qep|apply qcv)<;>(first|exact rfl|assumption|exact Ar.mk (by omega)|exact dct (by first|assumption|omega)|exact dcf (by first|assumption|omega)|exact List.not_mem_nil|apply dc_length|apply ec_length|apply dl_length|exact nm1 (by omega)|fail))|fail) ?_)
    refine SG.ret rfl rfl rfl (vs := []) (by repeat' (first | exact True.intro | exact rho_of rfl | refine And.intro ?_ ?_)) (known_spec w2) (fun w4 hk4 => ?_)
    repeat (first|apply CG.seq|apply CG.region|apply SG.nil|apply NG.next|apply CG.skip|apply CG.block|apply CG.ret|apply CG.exit|apply NG.ret_then|apply NG.exit_then|refine NG.exit_block rfl ?_|apply NG.normal_block|refine SG.val rfl rfl rfl rfl (by first|((first|apply qep|apply qmv|apply qas|apply qlc|apply qla|apply qfa|apply qix|apply qpk|apply qls|apply qei|apply qni|apply qnd|apply qad|apply qln|apply qle|apply qxt|apply qnt|apply qep|apply qcv)<;>(first|exact rfl|assumption|exact Ar.mk (by omega)|exact dct (by first|assumption|omega)|exact dcf (by first|assumption|omega)|exact List.not_mem_nil|apply dc_length|apply ec_length|apply dl_length|exact nm1 (by omega)|fail))|fail) ?_)
    refine ret1 (Or.inl rfl) Try.results8 (by first | exact ResV.tmp rfl | exact ResV.agg rfl rfl (by assumption) (by first | exact dc_length _ | exact nc_length _ | exact rc_length _ _ _ | exact ec_length _ | exact dl_length _ _ _ _ | rfl) | exact ResV.cell rfl rfl (by assumption)) ?_
    exact ⟨rfl, (hk1.trans hk2).trans hk4⟩
  rw [decide_eq_true ho]
  have hs1 := ho.s1
  have hs2 := ho.s2
  repeat (first|apply CG.seq|apply CG.region|apply SG.nil|apply NG.next|apply CG.skip|apply CG.block|apply CG.ret|apply CG.exit|apply NG.ret_then|apply NG.exit_then|refine NG.exit_block rfl ?_|apply NG.normal_block|refine SG.val rfl rfl rfl rfl (by first|((first|apply qep|apply qmv|apply qas|apply qlc|apply qla|apply qfa|apply qix|apply qpk|apply qls|apply qei|apply qni|apply qnd|apply qad|apply qln|apply qle|apply qxt|apply qnt|apply qep|apply qcv)<;>(first|exact rfl|assumption|exact Ar.mk (by omega)|exact dct (by first|assumption|omega)|exact dcf (by first|assumption|omega)|exact List.not_mem_nil|apply dc_length|apply ec_length|apply dl_length|exact nm1 (by omega)|fail))|fail) ?_)
  refine CG.cond_f rfl (by exact rho_of rfl) rfl ?_
  repeat (first|apply CG.seq|apply CG.region|apply SG.nil|apply NG.next|apply CG.skip|apply CG.block|apply CG.ret|apply CG.exit|apply NG.ret_then|apply NG.exit_then|refine NG.exit_block rfl ?_|apply NG.normal_block|refine SG.val rfl rfl rfl rfl (by first|((first|apply qep|apply qmv|apply qas|apply qlc|apply qla|apply qfa|apply qix|apply qpk|apply qls|apply qei|apply qni|apply qnd|apply qad|apply qln|apply qle|apply qxt|apply qnt|apply qep|apply qcv)<;>(first|exact rfl|assumption|exact Ar.mk (by omega)|exact dct (by first|assumption|omega)|exact dcf (by first|assumption|omega)|exact List.not_mem_nil|apply dc_length|apply ec_length|apply dl_length|exact nm1 (by omega)|fail))|fail) ?_)
  refine SG.call rfl rfl rfl (vs := [.int .i64 20]) (by repeat' (first | exact True.intro | exact rho_of rfl | refine And.intro ?_ ?_)) ((new_spec 20 (by omega) (by omega) w2).mono (fun e w3 hh => ?_))
  obtain ⟨b, he, hk3, hb, hB⟩ := hh
  refine ⟨_, he, ?_⟩
  have k3 := (hk1.trans hk2).trans hk3
  have hL1 : Lob w.heap.size w3 b 20 (.slice none 0 0) [] := ⟨hB, own_nil⟩
  have hB2 := (hB2.kp0 hk2).kp0 hk3
  have s1 := hk1.size
  have s2 := hk2.size
  have hbw : w.heap.size ≤ b := by omega
  repeat (first | first|apply CG.seq|apply CG.region|apply SG.nil|apply NG.next|apply CG.skip|apply CG.block|apply CG.ret|apply CG.exit|apply NG.ret_then|apply NG.exit_then|refine NG.exit_block rfl ?_|apply NG.normal_block|refine SG.val rfl rfl rfl rfl (by first|((first|apply qep|apply qmv|apply qas|apply qlc|apply qla|apply qfa|apply qix|apply qpk|apply qls|apply qei|apply qni|apply qnd|apply qad|apply qln|apply qle|apply qxt|apply qnt|apply qep|apply qcv)<;>(first|exact rfl|assumption|exact Ar.mk (by omega)|exact dct (by first|assumption|omega)|exact dcf (by first|assumption|omega)|exact List.not_mem_nil|apply dc_length|apply ec_length|apply dl_length|exact nm1 (by omega)|fail))|fail) ?_ | refine SG.skip rfl rfl ?_)
  refine CG.cond_f rfl (by exact rho_of rfl) rfl ?_
  repeat (first|apply CG.seq|apply CG.region|apply SG.nil|apply NG.next|apply CG.skip|apply CG.block|apply CG.ret|apply CG.exit|apply NG.ret_then|apply NG.exit_then|refine NG.exit_block rfl ?_|apply NG.normal_block|refine SG.val rfl rfl rfl rfl (by first|((first|apply qep|apply qmv|apply qas|apply qlc|apply qla|apply qfa|apply qix|apply qpk|apply qls|apply qei|apply qni|apply qnd|apply qad|apply qln|apply qle|apply qxt|apply qnt|apply qep|apply qcv)<;>(first|exact rfl|assumption|exact Ar.mk (by omega)|exact dct (by first|assumption|omega)|exact dcf (by first|assumption|omega)|exact List.not_mem_nil|apply dc_length|apply ec_length|apply dl_length|exact nm1 (by omega)|fail))|fail) ?_)
  refine CG.loop (X := Value × Dg × Nat) (fun x => [(2, .pointer (some ⟨b2, 0, none⟩)), (5, .int .i64 (n : Int)), (6, .pointer (some ⟨b, 0, none⟩)), (8, .int .i64 (x.2.2 : Int))])
    (fun x w' => x.2.2 ≤ n ∧ Kp [] w w' ∧ Blk w' b2 (.cells (ec (offN o x.2.1)).toArray 35) ∧ Lob w.heap.size w' b 20 x.1 (offs o x.2.2) ∧ Wait (offs o x.2.2)) (fun x => n - x.2.2) (.slice none 0 0, o.who, 0) ⟨Nat.zero_le _, k3, hB2, hL1, Wait.nil⟩ (by (repeat' (first | exact True.intro | exact rfl | refine And.intro ?_ ?_))) ?_
  clear hL1 hB2 hB hR2
  rintro ⟨v, d, i⟩ w4 ⟨hi, hk4, hB2, hL4, hW4⟩
  simp only at hi hB2 hL4 hW4
  refine CG.to [(2, .pointer (some ⟨b2, 0, none⟩)), (5, .int .i64 (n : Int)), (6, .pointer (some ⟨b, 0, none⟩)), (8, .int .i64 (i : Int))] (by (repeat' (first | exact True.intro | exact rfl | refine And.intro ?_ ?_))) ?_
  have hbb : b2 ≠ b := by omega
  by_cases hlt : i < n
  · have g1 : (i : Int) < (n : Int) := by omega
    repeat (first|apply CG.seq|apply CG.region|apply SG.nil|apply NG.next|apply CG.skip|apply CG.block|apply CG.ret|apply CG.exit|apply NG.ret_then|apply NG.exit_then|refine NG.exit_block rfl ?_|apply NG.normal_block|refine SG.val rfl rfl rfl rfl (by first|((first|apply qep|apply qmv|apply qas|apply qlc|apply qla|apply qfa|apply qix|apply qpk|apply qls|apply qei|apply qni|apply qnd|apply qad|apply qln|apply qle|apply qxt|apply qnt|apply qep|apply qcv)<;>(first|exact rfl|assumption|exact Ar.mk (by omega)|exact dct (by first|assumption|omega)|exact dcf (by first|assumption|omega)|exact List.not_mem_nil|apply dc_length|apply ec_length|apply dl_length|exact nm1 (by omega)|fail))|fail) ?_)
    refine CG.cond_t rfl (by exact rho_of rfl) rfl ?_
    repeat (first|apply CG.seq|apply CG.region|apply SG.nil|apply NG.next|apply CG.skip|apply CG.block|apply CG.ret|apply CG.exit|apply NG.ret_then|apply NG.exit_then|refine NG.exit_block rfl ?_|apply NG.normal_block|refine SG.val rfl rfl rfl rfl (by first|((first|apply qep|apply qmv|apply qas|apply qlc|apply qla|apply qfa|apply qix|apply qpk|apply qls|apply qei|apply qni|apply qnd|apply qad|apply qln|apply qle|apply qxt|apply qnt|apply qep|apply qcv)<;>(first|exact rfl|assumption|exact Ar.mk (by omega)|exact dct (by first|assumption|omega)|exact dcf (by first|assumption|omega)|exact List.not_mem_nil|apply dc_length|apply ec_length|apply dl_length|exact nm1 (by omega)|fail))|fail) ?_)
    rw [wrapB (show i < 256 by omega)]
    refine SG.val rfl rfl rfl rfl (vals_build rfl (bwi i)) ?_
    repeat (first|apply CG.seq|apply CG.region|apply SG.nil|apply NG.next|apply CG.skip|apply CG.block|apply CG.ret|apply CG.exit|apply NG.ret_then|apply NG.exit_then|refine NG.exit_block rfl ?_|apply NG.normal_block|refine SG.val rfl rfl rfl rfl (by first|((first|apply qep|apply qmv|apply qas|apply qlc|apply qla|apply qfa|apply qix|apply qpk|apply qls|apply qei|apply qni|apply qnd|apply qad|apply qln|apply qle|apply qxt|apply qnt|apply qep|apply qcv)<;>(first|exact rfl|assumption|exact Ar.mk (by omega)|exact dct (by first|assumption|omega)|exact dcf (by first|assumption|omega)|exact List.not_mem_nil|apply dc_length|apply ec_length|apply dl_length|exact nm1 (by omega)|fail))|fail) ?_)
    refine SG.store rfl rfl (by exact rho_of rfl) (by exact rho_of rfl) hB2 rfl (by show 0 + 8 ≤ _; simp [ec_length]) rfl (fun w5 hk5 hB5 => ?_)
    have hB5 : Blk w5 b2 (.cells (spl (ec (offN o d)) 0 (dc (wi i))).toArray 35) := hB5
    rw [ec_who] at hB5
    have hR5 : Row w5 b2 0 (ec (offN o (wi i))) := Row.all hB5 rfl
    have k5 : Kp [] w w5 := hk4.trans_new hk5 (new1 (by omega))
    have hL5 : Lob w.heap.size w5 b 20 v (offs o i) := ⟨hL4.blk.kp hk5 (nm1 (by omega)), own_kp hL4.own hk5 (own_neb hL4.own (by decide) hB2)⟩
    repeat (first|apply CG.seq|apply CG.region|apply SG.nil|apply NG.next|apply CG.skip|apply CG.block|apply CG.ret|apply CG.exit|apply NG.ret_then|apply NG.exit_then|refine NG.exit_block rfl ?_|apply NG.normal_block|refine SG.val rfl rfl rfl rfl (by first|((first|apply qep|apply qmv|apply qas|apply qlc|apply qla|apply qfa|apply qix|apply qpk|apply qls|apply qei|apply qni|apply qnd|apply qad|apply qln|apply qle|apply qxt|apply qnt|apply qep|apply qcv)<;>(first|exact rfl|assumption|exact Ar.mk (by omega)|exact dct (by first|assumption|omega)|exact dcf (by first|assumption|omega)|exact List.not_mem_nil|apply dc_length|apply ec_length|apply dl_length|exact nm1 (by omega)|fail))|fail) ?_)
    refine SG.ret rfl rfl rfl (vs := [ov (offN o (wi i))]) (by repeat' (first | exact True.intro | exact rho_of rfl | refine And.intro ?_ ?_)) (to_spec (offN o (wi i)) w5) (fun w6 hk6 => ?_)
    have hL6 := hL5.kp0 hk6
    have hB6 := hB5.kp0 hk6
    have k6 := k5.trans hk6
    have hok := offN_ok ho (wi i)
    repeat (first|apply CG.seq|apply CG.region|apply SG.nil|apply NG.next|apply CG.skip|apply CG.block|apply CG.ret|apply CG.exit|apply NG.ret_then|apply NG.exit_then|refine NG.exit_block rfl ?_|apply NG.normal_block|refine SG.val rfl rfl rfl rfl (by first|((first|apply qep|apply qmv|apply qas|apply qlc|apply qla|apply qfa|apply qix|apply qpk|apply qls|apply qei|apply qni|apply qnd|apply qad|apply qln|apply qle|apply qxt|apply qnt|apply qep|apply qcv)<;>(first|exact rfl|assumption|exact Ar.mk (by omega)|exact dct (by first|assumption|omega)|exact dcf (by first|assumption|omega)|exact List.not_mem_nil|apply dc_length|apply ec_length|apply dl_length|exact nm1 (by omega)|fail))|fail) ?_)
    refine SG.call rfl rfl rfl (vs := [.pointer (some ⟨b, 0, none⟩), .int .i64 0, ov (offN o (wi i))]) (by repeat' (first | exact True.intro | exact rho_of rfl | refine And.intro ?_ ?_)) ((post_any (offN o (wi i)) hL6 (by rw [offs_len]; omega) k6.size hW4 (by rw [offs_len]; omega)).mono (fun e w7 hh => ?_))
    obtain ⟨⟨z, he, hz⟩, hk7, v', m', hL7, hW7, -, hm7⟩ := hh
    rw [hz hok] at he
    refine ⟨_, he, ?_⟩
    have e7 : m' = offs o (i + 1) := by rw [hm7 hok, offs_keep ho (by omega), offs_succ]
    subst e7
    have k7 := hL6.kp2 hbw k6 hk7
    have hB7 := hB6.kp hk7 (fun hm => by
      rcases List.mem_cons.1 hm with h | h
      · exact hbb h
      · exact own_neb hL6.own (by decide) hB6 b2 (ownB_mem h) (by simp))
    repeat (first|apply CG.seq|apply CG.region|apply SG.nil|apply NG.next|apply CG.skip|apply CG.block|apply CG.ret|apply CG.exit|apply NG.ret_then|apply NG.exit_then|refine NG.exit_block rfl ?_|apply NG.normal_block|refine SG.val rfl rfl rfl rfl (by first|((first|apply qep|apply qmv|apply qas|apply qlc|apply qla|apply qfa|apply qix|apply qpk|apply qls|apply qei|apply qni|apply qnd|apply qad|apply qln|apply qle|apply qxt|apply qnt|apply qep|apply qcv)<;>(first|exact rfl|assumption|exact Ar.mk (by omega)|exact dct (by first|assumption|omega)|exact dcf (by first|assumption|omega)|exact List.not_mem_nil|apply dc_length|apply ec_length|apply dl_length|exact nm1 (by omega)|fail))|fail) ?_)
    refine CG.cond_f rfl (by exact rho_of rfl) rfl ?_
    repeat (first|apply CG.seq|apply CG.region|apply SG.nil|apply NG.next|apply CG.skip|apply CG.block|apply CG.ret|apply CG.exit|apply NG.ret_then|apply NG.exit_then|refine NG.exit_block rfl ?_|apply NG.normal_block|refine SG.val rfl rfl rfl rfl (by first|((first|apply qep|apply qmv|apply qas|apply qlc|apply qla|apply qfa|apply qix|apply qpk|apply qls|apply qei|apply qni|apply qnd|apply qad|apply qln|apply qle|apply qxt|apply qnt|apply qep|apply qcv)<;>(first|exact rfl|assumption|exact Ar.mk (by omega)|exact dct (by first|assumption|omega)|exact dcf (by first|assumption|omega)|exact List.not_mem_nil|apply dc_length|apply ec_length|apply dl_length|exact nm1 (by omega)|fail))|fail) ?_)
    refine NG.round (v', wi i, i + 1) (by (repeat' (first | exact True.intro | exact rfl | refine And.intro ?_ ?_))) ⟨by simp only; omega, k7, hB7, hL7, hW7⟩ (by simp only; omega)
  have g1 : ¬ (i : Int) < (n : Int) := by omega
  have hin : i = n := by omega
  subst hin
  repeat (first|apply CG.seq|apply CG.region|apply SG.nil|apply NG.next|apply CG.skip|apply CG.block|apply CG.ret|apply CG.exit|apply NG.ret_then|apply NG.exit_then|refine NG.exit_block rfl ?_|apply NG.normal_block|refine SG.val rfl rfl rfl rfl (by first|((first|apply qep|apply qmv|apply qas|apply qlc|apply qla|apply qfa|apply qix|apply qpk|apply qls|apply qei|apply qni|apply qnd|apply qad|apply qln|apply qle|apply qxt|apply qnt|apply qep|apply qcv)<;>(first|exact rfl|assumption|exact Ar.mk (by omega)|exact dct (by first|assumption|omega)|exact dcf (by first|assumption|omega)|exact List.not_mem_nil|apply dc_length|apply ec_length|apply dl_length|exact nm1 (by omega)|fail))|fail) ?_)
  refine CG.cond_f rfl (by exact rho_of rfl) rfl ?_
  repeat (first|apply CG.seq|apply CG.region|apply SG.nil|apply NG.next|apply CG.skip|apply CG.block|apply CG.ret|apply CG.exit|apply NG.ret_then|apply NG.exit_then|refine NG.exit_block rfl ?_|apply NG.normal_block|refine SG.val rfl rfl rfl rfl (by first|((first|apply qep|apply qmv|apply qas|apply qlc|apply qla|apply qfa|apply qix|apply qpk|apply qls|apply qei|apply qni|apply qnd|apply qad|apply qln|apply qle|apply qxt|apply qnt|apply qep|apply qcv)<;>(first|exact rfl|assumption|exact Ar.mk (by omega)|exact dct (by first|assumption|omega)|exact dcf (by first|assumption|omega)|exact List.not_mem_nil|apply dc_length|apply ec_length|apply dl_length|exact nm1 (by omega)|fail))|fail) ?_)
  obtain ⟨S, hS⟩ : ∃ S : Nat, o.seats = (S : Int) := ⟨o.seats.toNat, by omega⟩
  have hSt : o.seats.toNat = S := by omega
  have hst : ∀ k, ∀ x ∈ (offs o i).drop k, x.seats = o.seats := fun k x hx => by
    obtain ⟨j, _, rfl⟩ := offs_mem (List.mem_of_mem_drop hx)
    rfl
  refine CG.loop (X := Value × Nat) (fun x => [(2, .pointer (some ⟨b2, 0, none⟩)), (5, .int .i64 (i : Int)), (6, .pointer (some ⟨b, 0, none⟩)), (9, .int .i64 (x.2 : Int))])
    (fun x w' => x.2 ≤ i ∧ S ∣ x.2 ∧ Kp [] w w' ∧ Blk w' b2 (.cells (ec (offN o d)).toArray 35) ∧ Lob w.heap.size w' b 20 x.1 ((offs o i).drop x.2)) (fun x => i - x.2) (v, 0) ⟨Nat.zero_le _, Nat.dvd_zero _, hk4, hB2, hL4⟩ (by (repeat' (first | exact True.intro | exact rfl | refine And.intro ?_ ?_))) ?_
  clear hL4 hB2 hk4 v w4
  rintro ⟨v, f⟩ w4 ⟨hf, hdv, hk4, hB2, hL4⟩
  simp only at hf hdv hL4
  refine CG.to [(2, .pointer (some ⟨b2, 0, none⟩)), (5, .int .i64 (i : Int)), (6, .pointer (some ⟨b, 0, none⟩)), (9, .int .i64 (f : Int))] (by (repeat' (first | exact True.intro | exact rfl | refine And.intro ?_ ?_))) ?_
  have hWf := hW4.drop f
  have hlf : ((offs o i).drop f).length = i - f := by rw [List.length_drop, offs_len]
  have hpf := alike_fit (k := f) hW4
  obtain ⟨-, -, q2, -⟩ := ec_rows hB2
  have q2 : Row w4 b2 16 [.int .i64 (S : Int)] := hS ▸ q2
  by_cases hlt : f + S ≤ i
  · have g1 : (f : Int) + (S : Int) ≤ (i : Int) := by omega
    have hF := findD_all hpf (hst f) hs1 (by rw [hlf]; omega)
    rw [hSt] at hF
    repeat (first|apply CG.seq|apply CG.region|apply SG.nil|apply NG.next|apply CG.skip|apply CG.block|apply CG.ret|apply CG.exit|apply NG.ret_then|apply NG.exit_then|refine NG.exit_block rfl ?_|apply NG.normal_block|refine SG.val rfl rfl rfl rfl (by first|((first|apply qep|apply qmv|apply qas|apply qlc|apply qla|apply qfa|apply qix|apply qpk|apply qls|apply qei|apply qni|apply qnd|apply qad|apply qln|apply qle|apply qxt|apply qnt|apply qep|apply qcv)<;>(first|exact rfl|assumption|exact Ar.mk (by omega)|exact dct (by first|assumption|omega)|exact dcf (by first|assumption|omega)|exact List.not_mem_nil|apply dc_length|apply ec_length|apply dl_length|exact nm1 (by omega)|fail))|fail) ?_)
    refine CG.cond_t rfl (by exact rho_of rfl) rfl ?_
    repeat (first|apply CG.seq|apply CG.region|apply SG.nil|apply NG.next|apply CG.skip|apply CG.block|apply CG.ret|apply CG.exit|apply NG.ret_then|apply NG.exit_then|refine NG.exit_block rfl ?_|apply NG.normal_block|refine SG.val rfl rfl rfl rfl (by first|((first|apply qep|apply qmv|apply qas|apply qlc|apply qla|apply qfa|apply qix|apply qpk|apply qls|apply qei|apply qni|apply qnd|apply qad|apply qln|apply qle|apply qxt|apply qnt|apply qep|apply qcv)<;>(first|exact rfl|assumption|exact Ar.mk (by omega)|exact dct (by first|assumption|omega)|exact dcf (by first|assumption|omega)|exact List.not_mem_nil|apply dc_length|apply ec_length|apply dl_length|exact nm1 (by omega)|fail))|fail) ?_)
    refine SG.call rfl rfl rfl (vs := [.pointer (some ⟨b, 0, none⟩), .int .i64 0]) (by repeat' (first | exact True.intro | exact rho_of rfl | refine And.intro ?_ ?_)) ((match_spec 0 hL4 (by omega) hWf.ok).mono (fun e w5 hh => ?_))
    rw [hWf.late, hF] at hh
    rcases hh with ⟨h, _⟩ | ⟨t, vd, vt, v', ht, he, hD, ht5, hk5, hL5, _⟩
    · cases h
    cases ht
    refine ⟨_, he, ?_⟩
    obtain ⟨sd, rfl, hsd⟩ := hD
    have k5 := hL4.kp2 hbw hk4 hk5
    have htl : (((offs o i).drop f).take S).length = S := by rw [List.length_take, hlf]; omega
    have hB5 := hB2.kp hk5 (fun hm => by
      rcases List.mem_cons.1 hm with h | h
      · exact hbb h
      · exact own_neb hL4.own (by decide) hB2 b2 (ownB_mem h) (by simp))
    rw [filter_drop hWf.nodup S, List.drop_drop] at hL5
    have hget : ∀ j (h : j < (((offs o i).drop f).take S).length), (((offs o i).drop f).take S)[j] = offN o (wi (f + j)) := fun j h => by
      rw [List.getElem_take, List.getElem_drop, offs_get]
    generalize ((offs o i).drop f).take S = T at hsd ht5 htl hget
    generalize (dealOf T).1 = D at hsd
    obtain ⟨at', ct, rfl, hct, hSt⟩ := Sl.own ec_length ht5 rfl
    obtain ⟨ad, cd, rfl, hcd, hSd⟩ := Sl.own dc_length hsd rfl
    repeat (first|apply CG.seq|apply CG.region|apply SG.nil|apply NG.next|apply CG.skip|apply CG.block|apply CG.ret|apply CG.exit|apply NG.ret_then|apply NG.exit_then|refine NG.exit_block rfl ?_|apply NG.normal_block|refine SG.val rfl rfl rfl rfl (by first|((first|apply qep|apply qmv|apply qas|apply qlc|apply qla|apply qfa|apply qix|apply qpk|apply qls|apply qei|apply qni|apply qnd|apply qad|apply qln|apply qle|apply qxt|apply qnt|apply qep|apply qcv)<;>(first|exact rfl|assumption|exact Ar.mk (by omega)|exact dct (by first|assumption|omega)|exact dcf (by first|assumption|omega)|exact List.not_mem_nil|apply dc_length|apply ec_length|apply dl_length|exact nm1 (by omega)|fail))|fail) ?_)
    refine SG.alloc rfl rfl rfl (fun b8 w6 hk6 hb8 hB8 => ?_)
    refine SG.setAll (l := dl D.rules (.slice ad D.who.length cd) D.stake D.window) rfl rfl (by exact rho_of rfl) (by exact rho_of rfl) hB8 (dl_length _ _ _ _) rfl (dl_one _ _ _ _ _ _) (fun w7 hk7 hB9 => ?_)
    have k57 : Kp [] w5 w7 := hk6.trans_new hk7 (new1 (by omega))
    have hB7 := hB5.kp0 k57
    have hL7 := hL5.kp0 k57
    have hSt := hSt.kp0 k57
    clear q2
    obtain ⟨-, -, q2, -⟩ := ec_rows hB7
    have q2 : Row w7 b2 16 [.int .i64 (S : Int)] := hS ▸ q2
    have e1 : (T.length : Int) = (S : Int) := by omega
    repeat (first | first|apply CG.seq|apply CG.region|apply SG.nil|apply NG.next|apply CG.skip|apply CG.block|apply CG.ret|apply CG.exit|apply NG.ret_then|apply NG.exit_then|refine NG.exit_block rfl ?_|apply NG.normal_block|refine SG.val rfl rfl rfl rfl (by first|((first|apply qep|apply qmv|apply qas|apply qlc|apply qla|apply qfa|apply qix|apply qpk|apply qls|apply qei|apply qni|apply qnd|apply qad|apply qln|apply qle|apply qxt|apply qnt|apply qep|apply qcv)<;>(first|exact rfl|assumption|exact Ar.mk (by omega)|exact dct (by first|assumption|omega)|exact dcf (by first|assumption|omega)|exact List.not_mem_nil|apply dc_length|apply ec_length|apply dl_length|exact nm1 (by omega)|fail))|fail) ?_ | refine SG.skip rfl rfl ?_)
    refine CG.cond_f rfl (by exact rho_of rfl) rfl ?_
    repeat (first|apply CG.seq|apply CG.region|apply SG.nil|apply NG.next|apply CG.skip|apply CG.block|apply CG.ret|apply CG.exit|apply NG.ret_then|apply NG.exit_then|refine NG.exit_block rfl ?_|apply NG.normal_block|refine SG.val rfl rfl rfl rfl (by first|((first|apply qep|apply qmv|apply qas|apply qlc|apply qla|apply qfa|apply qix|apply qpk|apply qls|apply qei|apply qni|apply qnd|apply qad|apply qln|apply qle|apply qxt|apply qnt|apply qep|apply qcv)<;>(first|exact rfl|assumption|exact Ar.mk (by omega)|exact dct (by first|assumption|omega)|exact dcf (by first|assumption|omega)|exact List.not_mem_nil|apply dc_length|apply ec_length|apply dl_length|exact nm1 (by omega)|fail))|fail) ?_)
    refine CG.loop (X := Nat) (fun x => [(2, .pointer (some ⟨b2, 0, none⟩)), (5, .int .i64 (i : Int)), (6, .pointer (some ⟨b, 0, none⟩)), (9, .int .i64 (f : Int)), (11, .slice at' T.length ct), (13, .int .i64 (x : Int))])
      (fun x w' => x ≤ T.length ∧ Kp [] w7 w') (fun x => T.length - x) 0 ⟨Nat.zero_le _, Kp.refl _ _⟩ (by (repeat' (first | exact True.intro | exact rfl | refine And.intro ?_ ?_))) ?_
    rintro j w8 ⟨hj, hk8⟩
    by_cases hjl : j < T.length
    · have g2 : (j : Int) < (T.length : Int) := by omega
      obtain ⟨bz, oz, rfl, hrz⟩ := (hSt.kp0 hk8).at hjl
      rw [hget j hjl] at hrz
      obtain ⟨r0, -⟩ := ec_rowsO hrz
      have r0 : Row w8 bz (oz + j * 21) (dc (wi (f + j))) := r0
      have eq1 : wi (f + j) = wi (f + j) := rfl
      clear hrz
      repeat (first|apply CG.seq|apply CG.region|apply SG.nil|apply NG.next|apply CG.skip|apply CG.block|apply CG.ret|apply CG.exit|apply NG.ret_then|apply NG.exit_then|refine NG.exit_block rfl ?_|apply NG.normal_block|refine SG.val rfl rfl rfl rfl (by first|((first|apply qep|apply qmv|apply qas|apply qlc|apply qla|apply qfa|apply qix|apply qpk|apply qls|apply qei|apply qni|apply qnd|apply qad|apply qln|apply qle|apply qxt|apply qnt|apply qep|apply qcv)<;>(first|exact rfl|assumption|exact Ar.mk (by omega)|exact dct (by first|assumption|omega)|exact dcf (by first|assumption|omega)|exact List.not_mem_nil|apply dc_length|apply ec_length|apply dl_length|exact nm1 (by omega)|fail))|fail) ?_)
      refine CG.cond_t rfl (by exact rho_of rfl) rfl ?_
      repeat (first|apply CG.seq|apply CG.region|apply SG.nil|apply NG.next|apply CG.skip|apply CG.block|apply CG.ret|apply CG.exit|apply NG.ret_then|apply NG.exit_then|refine NG.exit_block rfl ?_|apply NG.normal_block|refine SG.val rfl rfl rfl rfl (by first|((first|apply qep|apply qmv|apply qas|apply qlc|apply qla|apply qfa|apply qix|apply qpk|apply qls|apply qei|apply qni|apply qnd|apply qad|apply qln|apply qle|apply qxt|apply qnt|apply qep|apply qcv)<;>(first|exact rfl|assumption|exact Ar.mk (by omega)|exact dct (by first|assumption|omega)|exact dcf (by first|assumption|omega)|exact List.not_mem_nil|apply dc_length|apply ec_length|apply dl_length|exact nm1 (by omega)|fail))|fail) ?_)
      rw [wrapB' (show f + j < 256 by omega)]
      refine SG.val rfl rfl rfl rfl (vals_build rfl (bwh (f + j))) ?_
      repeat (first|apply CG.seq|apply CG.region|apply SG.nil|apply NG.next|apply CG.skip|apply CG.block|apply CG.ret|apply CG.exit|apply NG.ret_then|apply NG.exit_then|refine NG.exit_block rfl ?_|apply NG.normal_block|refine SG.val rfl rfl rfl rfl (by first|((first|apply qep|apply qmv|apply qas|apply qlc|apply qla|apply qfa|apply qix|apply qpk|apply qls|apply qei|apply qni|apply qnd|apply qad|apply qln|apply qle|apply qxt|apply qnt|apply qep|apply qcv)<;>(first|exact rfl|assumption|exact Ar.mk (by omega)|exact dct (by first|assumption|omega)|exact dcf (by first|assumption|omega)|exact List.not_mem_nil|apply dc_length|apply ec_length|apply dl_length|exact nm1 (by omega)|fail))|fail) ?_)
      refine CG.cond_f rfl (by exact rho_of rfl) rfl ?_
      repeat (first|apply CG.seq|apply CG.region|apply SG.nil|apply NG.next|apply CG.skip|apply CG.block|apply CG.ret|apply CG.exit|apply NG.ret_then|apply NG.exit_then|refine NG.exit_block rfl ?_|apply NG.normal_block|refine SG.val rfl rfl rfl rfl (by first|((first|apply qep|apply qmv|apply qas|apply qlc|apply qla|apply qfa|apply qix|apply qpk|apply qls|apply qei|apply qni|apply qnd|apply qad|apply qln|apply qle|apply qxt|apply qnt|apply qep|apply qcv)<;>(first|exact rfl|assumption|exact Ar.mk (by omega)|exact dct (by first|assumption|omega)|exact dcf (by first|assumption|omega)|exact List.not_mem_nil|apply dc_length|apply ec_length|apply dl_length|exact nm1 (by omega)|fail))|fail) ?_)
      refine NG.round (j + 1) (by (repeat' (first | exact True.intro | exact rfl | refine And.intro ?_ ?_))) ⟨by omega, hk8⟩ (by omega)
    · have g2 : ¬ (j : Int) < (T.length : Int) := by omega
      clear q2
      have hB8 := hB7.kp0 hk8
      obtain ⟨-, -, q2, -⟩ := ec_rows hB8
      have q2 : Row w8 b2 16 [.int .i64 (S : Int)] := hS ▸ q2
      repeat (first|apply CG.seq|apply CG.region|apply SG.nil|apply NG.next|apply CG.skip|apply CG.block|apply CG.ret|apply CG.exit|apply NG.ret_then|apply NG.exit_then|refine NG.exit_block rfl ?_|apply NG.normal_block|refine SG.val rfl rfl rfl rfl (by first|((first|apply qep|apply qmv|apply qas|apply qlc|apply qla|apply qfa|apply qix|apply qpk|apply qls|apply qei|apply qni|apply qnd|apply qad|apply qln|apply qle|apply qxt|apply qnt|apply qep|apply qcv)<;>(first|exact rfl|assumption|exact Ar.mk (by omega)|exact dct (by first|assumption|omega)|exact dcf (by first|assumption|omega)|exact List.not_mem_nil|apply dc_length|apply ec_length|apply dl_length|exact nm1 (by omega)|fail))|fail) ?_)
      refine CG.cond_f rfl (by exact rho_of rfl) rfl ?_
      repeat (first|apply CG.seq|apply CG.region|apply SG.nil|apply NG.next|apply CG.skip|apply CG.block|apply CG.ret|apply CG.exit|apply NG.ret_then|apply NG.exit_then|refine NG.exit_block rfl ?_|apply NG.normal_block|refine SG.val rfl rfl rfl rfl (by first|((first|apply qep|apply qmv|apply qas|apply qlc|apply qla|apply qfa|apply qix|apply qpk|apply qls|apply qei|apply qni|apply qnd|apply qad|apply qln|apply qle|apply qxt|apply qnt|apply qep|apply qcv)<;>(first|exact rfl|assumption|exact Ar.mk (by omega)|exact dct (by first|assumption|omega)|exact dcf (by first|assumption|omega)|exact List.not_mem_nil|apply dc_length|apply ec_length|apply dl_length|exact nm1 (by omega)|fail))|fail) ?_)
      refine NG.round (v', f + S) (by (repeat' (first | exact True.intro | exact rfl | refine And.intro ?_ ?_))) ⟨by simp only; omega, (Nat.dvd_add_right hdv).2 (Nat.dvd_refl _), k5.trans (k57.trans hk8), hB8, hL7.kp0 hk8⟩ (by simp only; omega)
  · have g1 : ¬ (f : Int) + (S : Int) ≤ (i : Int) := by omega
    have hF := findD_few (hst f) (by rw [hlf]; omega)
    repeat (first|apply CG.seq|apply CG.region|apply SG.nil|apply NG.next|apply CG.skip|apply CG.block|apply CG.ret|apply CG.exit|apply NG.ret_then|apply NG.exit_then|refine NG.exit_block rfl ?_|apply NG.normal_block|refine SG.val rfl rfl rfl rfl (by first|((first|apply qep|apply qmv|apply qas|apply qlc|apply qla|apply qfa|apply qix|apply qpk|apply qls|apply qei|apply qni|apply qnd|apply qad|apply qln|apply qle|apply qxt|apply qnt|apply qep|apply qcv)<;>(first|exact rfl|assumption|exact Ar.mk (by omega)|exact dct (by first|assumption|omega)|exact dcf (by first|assumption|omega)|exact List.not_mem_nil|apply dc_length|apply ec_length|apply dl_length|exact nm1 (by omega)|fail))|fail) ?_)
    refine CG.cond_f rfl (by exact rho_of rfl) rfl ?_
    repeat (first|apply CG.seq|apply CG.region|apply SG.nil|apply NG.next|apply CG.skip|apply CG.block|apply CG.ret|apply CG.exit|apply NG.ret_then|apply NG.exit_then|refine NG.exit_block rfl ?_|apply NG.normal_block|refine SG.val rfl rfl rfl rfl (by first|((first|apply qep|apply qmv|apply qas|apply qlc|apply qla|apply qfa|apply qix|apply qpk|apply qls|apply qei|apply qni|apply qnd|apply qad|apply qln|apply qle|apply qxt|apply qnt|apply qep|apply qcv)<;>(first|exact rfl|assumption|exact Ar.mk (by omega)|exact dct (by first|assumption|omega)|exact dcf (by first|assumption|omega)|exact List.not_mem_nil|apply dc_length|apply ec_length|apply dl_length|exact nm1 (by omega)|fail))|fail) ?_)
    refine SG.call rfl rfl rfl (vs := [.pointer (some ⟨b, 0, none⟩), .int .i64 0]) (by repeat' (first | exact True.intro | exact rho_of rfl | refine And.intro ?_ ?_)) ((match_spec 0 hL4 (by omega) hWf.ok).mono (fun e w5 hh => ?_))
    rw [hWf.late, hF] at hh
    rcases hh with ⟨-, he, hk5⟩ | ⟨t, vd, vt, v', ht, _⟩
    rotate_left
    · cases ht
    refine ⟨_, he, ?_⟩
    repeat (first|apply CG.seq|apply CG.region|apply SG.nil|apply NG.next|apply CG.skip|apply CG.block|apply CG.ret|apply CG.exit|apply NG.ret_then|apply NG.exit_then|refine NG.exit_block rfl ?_|apply NG.normal_block|refine SG.val rfl rfl rfl rfl (by first|((first|apply qep|apply qmv|apply qas|apply qlc|apply qla|apply qfa|apply qix|apply qpk|apply qls|apply qei|apply qni|apply qnd|apply qad|apply qln|apply qle|apply qxt|apply qnt|apply qep|apply qcv)<;>(first|exact rfl|assumption|exact Ar.mk (by omega)|exact dct (by first|assumption|omega)|exact dcf (by first|assumption|omega)|exact List.not_mem_nil|apply dc_length|apply ec_length|apply dl_length|exact nm1 (by omega)|fail))|fail) ?_)
    refine SG.alloc rfl rfl rfl (fun b8 w6 hk6 hb8 hB8 => ?_)
    refine SG.setAll (l := dl zd (.slice none 0 0) 0 0) rfl rfl (by exact rho_of rfl) (by exact rho_of rfl) hB8 (dl_length _ _ _ _) rfl (dl_one _ _ _ _ _ _) (fun w7 hk7 hB9 => ?_)
    have k57 : Kp [] w5 w7 := hk6.trans_new hk7 (new1 (by omega))
    have k47 := hk5.trans k57
    have hL7 := hL4.kp0 k47
    have q2 := q2.kp0 k47
    have e1 : (((offs o i).drop f).length : Int) = (i : Int) % (S : Int) := by
      obtain ⟨q, rfl⟩ := hdv
      have e2 : ((i : Int) % (S : Int)) = (((i % S : Nat)) : Int) := rfl
      rw [e2, hlf]
      have : i % S = i - S * q := by
        have h1 : i = S * q + (i - S * q) := by omega
        conv => lhs; rw [h1]
        rw [Nat.mul_add_mod, Nat.mod_eq_of_lt (by omega)]
      rw [this]
    repeat (first|apply CG.seq|apply CG.region|apply SG.nil|apply NG.next|apply CG.skip|apply CG.block|apply CG.ret|apply CG.exit|apply NG.ret_then|apply NG.exit_then|refine NG.exit_block rfl ?_|apply NG.normal_block|refine SG.val rfl rfl rfl rfl (by first|((first|apply qep|apply qmv|apply qas|apply qlc|apply qla|apply qfa|apply qix|apply qpk|apply qls|apply qei|apply qni|apply qnd|apply qad|apply qln|apply qle|apply qxt|apply qnt|apply qep|apply qcv)<;>(first|exact rfl|assumption|exact Ar.mk (by omega)|exact dct (by first|assumption|omega)|exact dcf (by first|assumption|omega)|exact List.not_mem_nil|apply dc_length|apply ec_length|apply dl_length|exact nm1 (by omega)|fail))|fail) ?_)
    refine CG.draw0 mixed [0, 1, 2, 3, 4, 5, 6, 9, 10, 11, 12, 7, 8, 13, 14, 15] [7] (by kernel_rfl) ?_
    repeat (first | refine Der.val rfl rfl rfl (by first|((first|apply qep|apply qmv|apply qas|apply qlc|apply qla|apply qfa|apply qix|apply qpk|apply qls|apply qei|apply qni|apply qnd|apply qad|apply qln|apply qle|apply qxt|apply qnt|apply qep|apply qcv)<;>(first|exact rfl|assumption|exact Ar.mk (by omega)|exact dct (by first|assumption|omega)|exact dcf (by first|assumption|omega)|exact List.not_mem_nil|apply dc_length|apply ec_length|apply dl_length|exact nm1 (by omega)|fail))|fail) ?_ | refine Der.skip rfl rfl ?_)
    refine Der.call rfl rfl rfl (vs := []) (by repeat' (first | exact True.intro | exact rho_of rfl | refine And.intro ?_ ?_)) (fun W hk _ => known_spec W) ?_
    repeat (first | refine Der.val rfl rfl rfl (by first|((first|apply qep|apply qmv|apply qas|apply qlc|apply qla|apply qfa|apply qix|apply qpk|apply qls|apply qei|apply qni|apply qnd|apply qad|apply qln|apply qle|apply qxt|apply qnt|apply qep|apply qcv)<;>(first|exact rfl|assumption|exact Ar.mk (by omega)|exact dct (by first|assumption|omega)|exact dcf (by first|assumption|omega)|exact List.not_mem_nil|apply dc_length|apply ec_length|apply dl_length|exact nm1 (by omega)|fail))|fail) ?_ | refine Der.skip rfl rfl ?_)
    refine Der.val rfl rfl rfl (vals_remi rfl rfl (by omega) (by omega)) ?_
    repeat (first | refine Der.val rfl rfl rfl (by first|((first|apply qep|apply qmv|apply qas|apply qlc|apply qla|apply qfa|apply qix|apply qpk|apply qls|apply qei|apply qni|apply qnd|apply qad|apply qln|apply qle|apply qxt|apply qnt|apply qep|apply qcv)<;>(first|exact rfl|assumption|exact Ar.mk (by omega)|exact dct (by first|assumption|omega)|exact dcf (by first|assumption|omega)|exact List.not_mem_nil|apply dc_length|apply ec_length|apply dl_length|exact nm1 (by omega)|fail))|fail) ?_ | refine Der.skip rfl rfl ?_)
    refine Der.callS ((offs o i).drop f) rfl rfl rfl rfl (vs := [.pointer (some ⟨b, 0, none⟩), .int .i64 0]) (by repeat' (first | exact True.intro | exact rho_of rfl | refine And.intro ?_ ?_)) stabT (fun W hk _ => all2_S (hL7.kp0 hk) (by omega) hWf) (fun a9 c9 => ?_)
    repeat (first | refine Der.val rfl rfl rfl (by first|((first|apply qep|apply qmv|apply qas|apply qlc|apply qla|apply qfa|apply qix|apply qpk|apply qls|apply qei|apply qni|apply qnd|apply qad|apply qln|apply qle|apply qxt|apply qnt|apply qep|apply qcv)<;>(first|exact rfl|assumption|exact Ar.mk (by omega)|exact dct (by first|assumption|omega)|exact dcf (by first|assumption|omega)|exact List.not_mem_nil|apply dc_length|apply ec_length|apply dl_length|exact nm1 (by omega)|fail))|fail) ?_ | refine Der.skip rfl rfl ?_)
    refine Der.fin (fun w8 hk8 _ _ => ?_)
    repeat (first|apply CG.seq|apply CG.region|apply SG.nil|apply NG.next|apply CG.skip|apply CG.block|apply CG.ret|apply CG.exit|apply NG.ret_then|apply NG.exit_then|refine NG.exit_block rfl ?_|apply NG.normal_block|refine SG.val rfl rfl rfl rfl (by first|((first|apply qep|apply qmv|apply qas|apply qlc|apply qla|apply qfa|apply qix|apply qpk|apply qls|apply qei|apply qni|apply qnd|apply qad|apply qln|apply qle|apply qxt|apply qnt|apply qep|apply qcv)<;>(first|exact rfl|assumption|exact Ar.mk (by omega)|exact dct (by first|assumption|omega)|exact dcf (by first|assumption|omega)|exact List.not_mem_nil|apply dc_length|apply ec_length|apply dl_length|exact nm1 (by omega)|fail))|fail) ?_)
    refine ret1 (Or.inl rfl) Try.results8 (by first | exact ResV.tmp rfl | exact ResV.agg rfl rfl (by assumption) (by first | exact dc_length _ | exact nc_length _ | exact rc_length _ _ _ | exact ec_length _ | exact dl_length _ _ _ _ | rfl) | exact ResV.cell rfl rfl (by assumption)) ?_
    exact ⟨rfl, hk4.trans (k47.trans hk8)⟩
end Go.Proofs.Ytnoipmimddoioaa
/-
  LobbySooner answers true for every input, and leaves its arguments as they were. No conditions.
-/
namespace Go.Proofs.Ytnoipmimddoioaa
open Go.ChangeShapes Go.WideShapes Go.ChangeAt Go.RowKit
set_option linter.unusedVariables false

set_option maxRecDepth 100000 in
theorem lobbySooner_lifted (os : Os) (started : os.Started) (H : Type) (enc : TypeId × Value → H) :
    ReturnsInHanded {} Try.checked os 8 .any (Rows.lobbySoonerSpec.pre6 enc Try.prog Try.f8 Rows.lobbySoonerRow.domain false) (Rows.lobbySoonerSpec.post enc Try.prog Try.f8 false true false false) := by
  refine returnsInHanded_of_change (C := Try.checked) own started (by kernel_rfl) Try.func8
    (ChangeSpec.witness6 (enc := enc) (C := Try.checked) false ⟨#[], #[.agg #[.int .u8 0, .int .u8 0, .int .u8 0, .int .u8 0, .int .u8 0, .int .u8 0, .int .u8 0, .int .u8 0, .int .u8 0, .int .u8 0, .int .u8 0, .int .u8 0, .int .u8 0, .int .u8 0, .int .u8 0, .int .u8 0, .int .i64 0, .int .i64 0, .int .i64 0, .int .i64 0, .int .i64 0], .int .u8 0], []⟩ 8 (by kernel_rfl) (by kernel_rfl) (by kernel_rfl) (by kernel_rfl)) ?_
  intro W base args ds gs before hval0 hW hcnd _
  have hval : ∀ (j : Nat) t v, Try.f8.params[j]? = some t → args[j]? = some v → Value.okWide Try.prog W .any base t v := hval0
  have hW' : DataW.Whole enc Try.prog Try.f8.params.toList Rows.lobbySoonerSpec.vars false W args.toList ds gs before := hW
  obtain ⟨p, q, hA0, hV, rfl, hfz, hnd⟩ := hW
  have hA : DataW.TrodAll enc Try.prog W 0 (fun _ => true) true Try.f8.params.toList args.toList ds p := hA0
  rw [Try.params8] at hA hval
  obtain ⟨v0, v1, d0, d1, p0, p1, rfl, rfl, rfl, h0, h1⟩ := trodAll_two hA
  obtain ⟨cs0, rfl, _⟩ := okWide_struct Try.underlying35 (hval 0 35 v0 rfl rfl)
  obtain ⟨x0, rfl⟩ := ofr_of h0
  obtain ⟨x1, rfl, hd1, _, wf1⟩ := open_int Try.underlying5 (hval 1 5 v1 rfl rfl) h1
  obtain ⟨u1, rfl⟩ := byte_of wf1
  refine (sooner_walk W x0 u1).mono fun e W' ⟨he, hk⟩ => ⟨_, he, ?_⟩
  exact law_post laidOut (by rw [Try.params8]; exact of_decide_eq_true (by kernel_rfl)) rfl hW' rfl (by kernel_rfl) Try.underlying4 hk

theorem lobbySooner_holds : Rows.LobbySoonerSaid :=
  OpenClaim.holds_of_wide 8 Try.f8 rfl rfl rfl rfl rfl rfl rfl ⟨rfl, rfl, rfl, rfl, rfl⟩ rfl rfl rfl rfl rfl (by kernel_rfl) Try.func8 (by kernel_rfl)
    (of_decide_eq_true (by kernel_rfl)) (by unfold Func.isWrapper; first | (rw [if_pos (by decide +kernel)]; kernel_rfl) | (rw [if_neg (by decide +kernel)]; exact ⟨rfl, rfl⟩))
    (fun os started H enc _ => lobbySooner_lifted os started H enc)
end Go.Proofs.Ytnoipmimddoioaa
