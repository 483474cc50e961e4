/-
  NetAlone: what goes between two parties hangs on no other letters.
-/
import Derived.Test.YtfelaicoedlejaaTwo
namespace Go.Proofs.Ytfelaicoedlejaa
set_option linter.unusedVariables false

def wayC (a b : Nat) (c : Cp) : Bool := decide (c.fr = a) && decide (c.to = b)
/-- The second net is what is left of the first one, of one way. -/
structure Inv (a b i : Nat) (sx sy : Ns) : Prop where
  px : sx.parties = 3
  py : sy.parties = 3
  now : sy.now = sx.now
  nle : sx.now ≤ i
  sentx : sx.sent ≤ 8 * i
  senty : sy.sent ≤ 8 * i
  pend : sy.pend = sx.pend.filter (wayC a b)
  len : sx.pend.length ≤ 8 * i
  inx : ∀ c ∈ sx.pend, c.fr < 16 ∧ c.to < 16 ∧ c.bs.length ≤ 65536
  cut : sy.cutAt a b = sx.cutAt a b
  clx : sx.cuts.length = 256
  cly : sy.cuts.length = 256
theorem Inv.len2 {a b i : Nat} {sx sy : Ns} (h : Inv a b i sx sy) : sy.pend.length ≤ 8 * i := by
  rw [h.pend]
  exact Nat.le_trans (List.length_filter_le _ _) h.len
theorem Inv.iny {a b i : Nat} {sx sy : Ns} (h : Inv a b i sx sy) : ∀ c ∈ sy.pend, c.fr < 16 ∧ c.to < 16 ∧ c.bs.length ≤ 65536 := fun c hc => by
  rw [h.pend] at hc
  exact h.inx c (List.mem_filter.1 hc).1
theorem inv0 (a b : Nat) : Inv a b 0 (Ns.new 3) (Ns.new 3) := ⟨rfl, rfl, rfl, Nat.le_refl _, Nat.le_refl _, Nat.le_refl _, rfl, Nat.le_refl _, (fun c hc => by cases hc), rfl, List.length_replicate, List.length_replicate⟩
def E0 (A B : Int) (n : Nat) (later : List Int) : Int :=
  if ¬ (0 ≤ A ∧ A < 3) ∨ ¬ (0 ≤ B ∧ B < 3) then 28 else if 65536 < n then 5 else if 8 < later.length ∨ later.any badL = true then 2 else 0
theorem sendE_E0 {s : Ns} (hp : s.parties = 3) (hl : s.pend.length ≤ 4000) (A B : Int) (n : Nat) (later : List Int) : s.sendE A B n later = E0 A B n later := by
  unfold Ns.sendE E0
  have hp' : (s.parties : Int) = 3 := by omega
  rw [hp']
  by_cases h1 : ¬ (0 ≤ A ∧ A < 3) ∨ ¬ (0 ≤ B ∧ B < 3)
  · rw [if_pos h1, if_pos h1]
  · rw [if_neg h1, if_neg h1]
    by_cases h2 : 65536 < n
    · rw [if_pos h2, if_pos h2]
    · rw [if_neg h2, if_neg h2]
      by_cases h3 : 8 < later.length ∨ later.any badL = true
      · rw [if_pos h3, if_pos h3]
      · rw [if_neg h3, if_neg h3, if_neg (by omega)]
theorem E0_ok {A B : Int} {n : Nat} {later : List Int} (h : E0 A B n later = 0) : (0 ≤ A ∧ A < 3) ∧ (0 ≤ B ∧ B < 3) ∧ n ≤ 65536 ∧ later.length ≤ 8 := by
  unfold E0 at h
  split at h
  · cases h
  · rename_i h1
    split at h
    · cases h
    · split at h
      · cases h
      · rename_i h2 h3
        omega
theorem cp_way {s : Ns} {f t a b : Nat} {bs : List UInt8} (later : List Int) : (later.map (cpOf s f t bs)).filter (wayC a b) = if f = a ∧ t = b then later.map (cpOf s f t bs) else [] := by
  by_cases h : f = a ∧ t = b
  · rw [if_pos h, List.filter_eq_self]
    intro c hc
    obtain ⟨k, _, rfl⟩ := List.mem_map.1 hc
    simp [wayC, cpOf, h]
  · rw [if_neg h, List.filter_eq_nil_iff]
    intro c hc
    obtain ⟨k, _, rfl⟩ := List.mem_map.1 hc
    intro hh
    rw [wayC, Bool.and_eq_true, decide_eq_true_iff, decide_eq_true_iff] at hh
    exact h hh
theorem cp_in {s : Ns} {f t : Nat} {bs : List UInt8} {later : List Int} (hf : f < 16) (ht : t < 16) (hb : bs.length ≤ 65536) : ∀ c ∈ later.map (cpOf s f t bs), c.fr < 16 ∧ c.to < 16 ∧ c.bs.length ≤ 65536 := fun c hc => by
  obtain ⟨k, _, rfl⟩ := List.mem_map.1 hc
  exact ⟨hf, ht, hb⟩
theorem cpOf_now {s s' : Ns} (h : s'.now = s.now) {f t : Nat} {bs : List UInt8} : cpOf s' f t bs = cpOf s f t bs := by
  funext k
  unfold cpOf
  rw [h]
theorem Inv.up {a b i j : Nat} {sx sy : Ns} (h : Inv a b i sx sy) (hj : i ≤ j) : Inv a b j sx sy :=
  ⟨h.px, h.py, h.now, by have := h.nle; omega, by have := h.sentx; omega, by have := h.senty; omega, h.pend, by have := h.len; omega, h.inx, h.cut, h.clx, h.cly⟩
theorem Inv.send {a b i : Nat} {sx sy : Ns} (h : Inv a b i sx sy) (hi : i < 60) {A B : Int} {bs : List UInt8} {later : List Int} (mine : Bool) (hm : mine = true ↔ (A = (a : Int) ∧ B = (b : Int))) :
    Inv a b (i + 1) (sx.sendD A B bs later) (if mine = true then sy.sendD A B bs later else sy) := by
  have e1 := sendE_E0 h.px (by have := h.len; omega) A B bs.length later
  have e2 := sendE_E0 h.py (by have := h.len2; omega) A B bs.length later
  unfold Ns.sendD
  rw [e1, e2]
  by_cases hE : E0 A B bs.length later = 0
  · obtain ⟨h1, h2, h3, h4⟩ := E0_ok hE
    rw [if_pos hE, if_pos hE]
    have hlen := h.len
    have hx : (sx.sendAll A.toNat B.toNat bs later).pend = sx.pend ++ later.map (cpOf sx A.toNat B.toNat bs) := rfl
    have hin : ∀ c ∈ (sx.sendAll A.toNat B.toNat bs later).pend, c.fr < 16 ∧ c.to < 16 ∧ c.bs.length ≤ 65536 := fun c hc => by
      rw [hx] at hc
      rcases List.mem_append.1 hc with hc | hc
      · exact h.inx c hc
      · exact cp_in (by omega) (by omega) h3 c hc
    have hle : (sx.sendAll A.toNat B.toNat bs later).pend.length ≤ 8 * (i + 1) := by
      rw [hx, List.length_append, List.length_map]
      omega
    have hsx : (sx.sendAll A.toNat B.toNat bs later).sent ≤ 8 * (i + 1) := by
      show sx.sent + later.length ≤ _
      have := h.sentx
      omega
    cases mine with
    | true =>
      have hm' := hm.1 rfl
      rw [if_pos rfl]
      refine ⟨h.px, h.py, h.now, by have := h.nle; show sx.now ≤ _; omega, hsx, ?_, ?_, hle, hin, h.cut, h.clx, h.cly⟩
      · show sy.sent + later.length ≤ _
        have := h.senty
        omega
      · show sy.pend ++ later.map (cpOf sy A.toNat B.toNat bs) = _
        rw [hx, List.filter_append, ← h.pend, cp_way, if_pos (by omega), cpOf_now h.now]
    | false =>
      have hm' : ¬ (A = (a : Int) ∧ B = (b : Int)) := fun hh => by have := hm.2 hh; cases this
      rw [if_neg (by decide)]
      refine ⟨h.px, h.py, h.now, by have := h.nle; show sx.now ≤ _; omega, hsx, by have := h.senty; omega, ?_, hle, hin, h.cut, h.clx, h.cly⟩
      rw [hx, List.filter_append, ← h.pend, cp_way, if_neg (by omega), List.append_nil]
  · rw [if_neg hE, if_neg hE]
    cases mine <;> exact h.up (by omega)
theorem setCut_at {s : Ns} (hl : s.cuts.length = 256) {f t a b : Nat} {v : Bool} (hf : f < 16) (ht : t < 16) (ha : a < 16) (hb : b < 16) : (s.setCut f t v).cutAt a b = if f = a ∧ t = b then v else s.cutAt a b := by
  unfold Ns.cutAt
  show ((s.cuts.set (f * 16 + t) v)[a * 16 + b]?).getD false = _
  rw [List.getElem?_set]
  by_cases h : f = a ∧ t = b
  · rw [if_pos (by omega), if_pos (by omega), if_pos h]
    rfl
  · rw [if_neg (by omega), if_neg h]
theorem Inv.cutD {a b i : Nat} {sx sy : Ns} (h : Inv a b i sx sy) (ha : a < 3) (hb : b < 3) {A B : Int} {v : Bool} (mine : Bool) (hm : mine = true ↔ (A = (a : Int) ∧ B = (b : Int))) :
    Inv a b (i + 1) (sx.cutD A B v) (if mine = true then sy.cutD A B v else sy) := by
  have ex : sx.cutE A B = sy.cutE A B := by unfold Ns.cutE; rw [h.px, h.py]
  unfold Ns.cutD
  rw [← ex]
  by_cases hE : sx.cutE A B = 0
  · rw [if_pos hE, if_pos hE]
    have hE' : ¬ (¬ (0 ≤ A ∧ A < 3) ∨ ¬ (0 ≤ B ∧ B < 3)) := fun hh => by
      unfold Ns.cutE at hE
      rw [if_pos (by have := h.px; omega)] at hE
      cases hE
    have hx : (sx.setCut A.toNat B.toNat v).cuts.length = 256 := by
      show (sx.cuts.set _ _).length = _
      rw [List.length_set]
      exact h.clx
    have hy : (sy.setCut A.toNat B.toNat v).cuts.length = 256 := by
      show (sy.cuts.set _ _).length = _
      rw [List.length_set]
      exact h.cly
    cases mine with
    | true =>
      have hm' := hm.1 rfl
      rw [if_pos rfl]
      refine ⟨h.px, h.py, h.now, by have := h.nle; show sx.now ≤ _; omega, by have := h.sentx; show sx.sent ≤ _; omega, by have := h.senty; show sy.sent ≤ _; omega, h.pend, by have := h.len; show sx.pend.length ≤ _; omega, h.inx, ?_, hx, hy⟩
      rw [setCut_at h.clx (by omega) (by omega) (by omega) (by omega), setCut_at h.cly (by omega) (by omega) (by omega) (by omega), if_pos (by omega), if_pos (by omega)]
    | false =>
      have hm' : ¬ (A = (a : Int) ∧ B = (b : Int)) := fun hh => by have := hm.2 hh; cases this
      rw [if_neg (by decide)]
      refine ⟨h.px, h.py, h.now, by have := h.nle; show sx.now ≤ _; omega, by have := h.sentx; show sx.sent ≤ _; omega, by have := h.senty; omega, h.pend, by have := h.len; show sx.pend.length ≤ _; omega, h.inx, ?_, hx, h.cly⟩
      rw [setCut_at h.clx (by omega) (by omega) (by omega) (by omega), if_neg (by omega)]
      exact h.cut
  · rw [if_neg hE, if_neg hE]
    cases mine <;> exact h.up (by omega)
theorem Inv.step {a b i : Nat} {sx sy : Ns} (h : Inv a b i sx sy) : Inv a b (i + 1) sx.step sy.step := by
  have hx : sx.step.pend = sx.pend.filter (fun c => !decide ((c.due : Int) = sx.now)) := rfl
  refine ⟨h.px, h.py, ?_, ?_, by have := h.sentx; show sx.sent ≤ _; omega, by have := h.senty; show sy.sent ≤ _; omega, ?_, ?_, fun c hc => h.inx c (List.mem_filter.1 hc).1, h.cut, h.clx, h.cly⟩
  · show sy.now + 1 = sx.now + 1
    rw [h.now]
  · show sx.now + 1 ≤ i + 1
    have := h.nle
    omega
  · show sy.pend.filter (fun c => !decide ((c.due : Int) = sy.now)) = _
    rw [hx, h.pend, h.now, List.filter_filter, List.filter_filter]
    exact List.filter_congr (fun c _ => Bool.and_comm _ _)
  · rw [hx]
    refine Nat.le_trans (List.length_filter_le _ _) ?_
    have := h.len
    omega
theorem Inv.came {a b i : Nat} {sx sy : Ns} (h : Inv a b i sx sy) : (sx.open_ sx.come).filter (wayC a b) = sy.open_ sy.come := by
  unfold Ns.open_ Ns.come
  rw [h.pend, h.now]
  simp only [List.filter_filter]
  refine List.filter_congr (fun c _ => ?_)
  by_cases hw : wayC a b c = true
  · have hw' : c.fr = a ∧ c.to = b := by simpa [wayC] using hw
    rw [hw'.1, hw'.2, h.cut, hw]
    simp
  · have hw : wayC a b c = false := by simpa using hw
    rw [hw]
    simp
theorem came_lt {a b : Nat} {l m : List Lt} {cx cy : List Cp} (hx : l.map ltc = cx.map cpc) (hy : m.map ltc = cy.map cpc) (h : cx.filter (wayC a b) = cy) : (l.filter (wayL a b)).map ltc = m.map ltc := by
  rw [hy, ← h]
  have e1 : (l.filter (wayL a b)).map ltc = (l.map ltc).filter (fun p => decide (p.1 = a) && decide (p.2.1 = b)) := by
    rw [List.filter_map]
    rfl
  have e2 : (cx.filter (wayC a b)).map cpc = (cx.map cpc).filter (fun p => decide (p.1 = a) && decide (p.2.1 = b)) := by
    rw [List.filter_map]
    rfl
  rw [e1, e2, hx]
theorem dd_rows {w : World} {b : Nat} {x : Dd} (h : Blk w b (.cells (dcl x).toArray 58)) : Row w b 0 [bv x.what] ∧ Row w b 1 [.int .i64 x.A] ∧ Row w b 2 [.int .i64 x.B] ∧ Row w b 3 [sv x.bs] ∧ Row w b 4 [.slice x.a x.later.length x.c] :=
  ⟨Row.of h [] [.int .i64 x.A, .int .i64 x.B, sv x.bs, .slice x.a x.later.length x.c] rfl rfl, Row.of h [bv x.what] [.int .i64 x.B, sv x.bs, .slice x.a x.later.length x.c] rfl rfl, Row.of h [bv x.what, .int .i64 x.A] [sv x.bs, .slice x.a x.later.length x.c] rfl rfl,
    Row.of h [bv x.what, .int .i64 x.A, .int .i64 x.B] [.slice x.a x.later.length x.c] rfl rfl, Row.of h [bv x.what, .int .i64 x.A, .int .i64 x.B, sv x.bs] [] rfl rfl⟩
theorem build35d (w : World) (f t : Int) (a : Option Addr) (n c : Nat) : (Instr.build 35 #[(0, Value.int .i64 f), (1, Value.int .i64 t), (2, Value.slice a n c)]).run Try.prog w = .ok (.agg #[.int .i64 f, .int .i64 t, .slice a n c]) w := by kernel_rfl

attribute [local irreducible] CG NG SG Vals Der Row Blk MapIs IterAt DerX sv
set_option maxHeartbeats 16000000 in
theorem alone_spec (w : World) (a : Option Addr) (n c : Nat) (l : List Dd) (hl : l.length = n ∧ Sl dcl 5 w a l ∧ ∀ d ∈ l, SlI w d.a d.later) (hm : n ≤ maxLen) (u v : UInt8) : Ret Try.prog 8 #[.slice a n c, bv u, bv v] w (.bool true) := by
  obtain ⟨rfl, hS, hSl⟩ := hl
  refine enter3 Try.func8 rfl Try.ntmps8 rfl ?_
  repeat (first|apply CG.seq|apply CG.region|apply SG.nil|apply NG.next|apply CG.skip|apply CG.block|apply CG.ret|apply CG.exit|apply CG.scope|apply NG.ret_then|apply NG.ret_block|apply NG.ret_scope|apply NG.exit_then|refine NG.exit_block rfl ?_|refine NG.exit_other rfl ?_|apply NG.exit_scope|apply NG.normal_block|apply NG.normal_scope|refine SG.val rfl rfl rfl rfl (by first|((first|apply qmv|apply qas|apply qlc|apply qla|apply qfa|apply qnc|apply qic|apply qix|apply qpk|apply qls|apply qei|apply qni|apply qed|apply qnd|apply qad|apply qln|apply qle|apply qgt|apply qge|apply qlk|apply qlv|apply qxt|apply qsb|apply qnt|apply qep|apply qnp|apply qeb|apply qnb|apply qx2|apply qx4|apply qcv|apply qlm|apply qfr|apply qto|apply qmx|apply qen|apply qsn|apply qx6|apply qx5|apply qx4|apply qx3|apply qx2|apply qx1|apply qx0)<;>(first|exact rfl|exact Ar.mk (by omega)|assumption|exact dct (by assumption)|exact dcf (by assumption)|exact dct (by omega)|exact dcf (by omega)|exact List.not_mem_nil|exact dc_length _|exact nc_length _|exact rc_length _ _ _|exact nm1 (by omega)|exact nm2 (by omega) (by omega)|exact dct rfl|exact dct (by decide)|exact dcf (by decide)|exact (Int.toNat_of_nonneg (by omega)).symm|exact dcu|exact lk1 (by assumption)|exact lk0 (by assumption)))|fail) ?_)
  refine SG.ret rfl rfl rfl (by repeat' (first | exact True.intro | exact rho_of rfl | refine And.intro ?_ ?_)) (fair_spec c hS hm) (fun w1 hk1 => ?_)
  cases hf : fairB l with
  | false =>
    repeat (first|apply CG.seq|apply CG.region|apply SG.nil|apply NG.next|apply CG.skip|apply CG.block|apply CG.ret|apply CG.exit|apply CG.scope|apply NG.ret_then|apply NG.ret_block|apply NG.ret_scope|apply NG.exit_then|refine NG.exit_block rfl ?_|refine NG.exit_other rfl ?_|apply NG.exit_scope|apply NG.normal_block|apply NG.normal_scope|refine SG.val rfl rfl rfl rfl (by first|((first|apply qmv|apply qas|apply qlc|apply qla|apply qfa|apply qnc|apply qic|apply qix|apply qpk|apply qls|apply qei|apply qni|apply qed|apply qnd|apply qad|apply qln|apply qle|apply qgt|apply qge|apply qlk|apply qlv|apply qxt|apply qsb|apply qnt|apply qep|apply qnp|apply qeb|apply qnb|apply qx2|apply qx4|apply qcv|apply qlm|apply qfr|apply qto|apply qmx|apply qen|apply qsn|apply qx6|apply qx5|apply qx4|apply qx3|apply qx2|apply qx1|apply qx0)<;>(first|exact rfl|exact Ar.mk (by omega)|assumption|exact dct (by assumption)|exact dcf (by assumption)|exact dct (by omega)|exact dcf (by omega)|exact List.not_mem_nil|exact dc_length _|exact nc_length _|exact rc_length _ _ _|exact nm1 (by omega)|exact nm2 (by omega) (by omega)|exact dct rfl|exact dct (by decide)|exact dcf (by decide)|exact (Int.toNat_of_nonneg (by omega)).symm|exact dcu|exact lk1 (by assumption)|exact lk0 (by assumption)))|fail) ?_)
    refine CG.cond_t rfl (by exact rho_of rfl) rfl ?_
    repeat (first|apply CG.seq|apply CG.region|apply SG.nil|apply NG.next|apply CG.skip|apply CG.block|apply CG.ret|apply CG.exit|apply CG.scope|apply NG.ret_then|apply NG.ret_block|apply NG.ret_scope|apply NG.exit_then|refine NG.exit_block rfl ?_|refine NG.exit_other rfl ?_|apply NG.exit_scope|apply NG.normal_block|apply NG.normal_scope|refine SG.val rfl rfl rfl rfl (by first|((first|apply qmv|apply qas|apply qlc|apply qla|apply qfa|apply qnc|apply qic|apply qix|apply qpk|apply qls|apply qei|apply qni|apply qed|apply qnd|apply qad|apply qln|apply qle|apply qgt|apply qge|apply qlk|apply qlv|apply qxt|apply qsb|apply qnt|apply qep|apply qnp|apply qeb|apply qnb|apply qx2|apply qx4|apply qcv|apply qlm|apply qfr|apply qto|apply qmx|apply qen|apply qsn|apply qx6|apply qx5|apply qx4|apply qx3|apply qx2|apply qx1|apply qx0)<;>(first|exact rfl|exact Ar.mk (by omega)|assumption|exact dct (by assumption)|exact dcf (by assumption)|exact dct (by omega)|exact dcf (by omega)|exact List.not_mem_nil|exact dc_length _|exact nc_length _|exact rc_length _ _ _|exact nm1 (by omega)|exact nm2 (by omega) (by omega)|exact dct rfl|exact dct (by decide)|exact dcf (by decide)|exact (Int.toNat_of_nonneg (by omega)).symm|exact dcu|exact lk1 (by assumption)|exact lk0 (by assumption)))|fail) ?_)
    refine SG.ret rfl rfl rfl (by repeat' (first | exact True.intro | exact rho_of rfl | refine And.intro ?_ ?_)) (told_spec w1) (fun w2 hk2 => ?_)
    repeat (first|apply CG.seq|apply CG.region|apply SG.nil|apply NG.next|apply CG.skip|apply CG.block|apply CG.ret|apply CG.exit|apply CG.scope|apply NG.ret_then|apply NG.ret_block|apply NG.ret_scope|apply NG.exit_then|refine NG.exit_block rfl ?_|refine NG.exit_other rfl ?_|apply NG.exit_scope|apply NG.normal_block|apply NG.normal_scope|refine SG.val rfl rfl rfl rfl (by first|((first|apply qmv|apply qas|apply qlc|apply qla|apply qfa|apply qnc|apply qic|apply qix|apply qpk|apply qls|apply qei|apply qni|apply qed|apply qnd|apply qad|apply qln|apply qle|apply qgt|apply qge|apply qlk|apply qlv|apply qxt|apply qsb|apply qnt|apply qep|apply qnp|apply qeb|apply qnb|apply qx2|apply qx4|apply qcv|apply qlm|apply qfr|apply qto|apply qmx|apply qen|apply qsn|apply qx6|apply qx5|apply qx4|apply qx3|apply qx2|apply qx1|apply qx0)<;>(first|exact rfl|exact Ar.mk (by omega)|assumption|exact dct (by assumption)|exact dcf (by assumption)|exact dct (by omega)|exact dcf (by omega)|exact List.not_mem_nil|exact dc_length _|exact nc_length _|exact rc_length _ _ _|exact nm1 (by omega)|exact nm2 (by omega) (by omega)|exact dct rfl|exact dct (by decide)|exact dcf (by decide)|exact (Int.toNat_of_nonneg (by omega)).symm|exact dcu|exact lk1 (by assumption)|exact lk0 (by assumption)))|fail) ?_)
    refine ret1 (Or.inl rfl) Try.results8 (by first | exact ResV.tmp rfl | exact ResV.agg rfl rfl (by assumption) (by first | exact dc_length _ | exact nc_length _ | exact rc_length _ _ _ | rfl) | exact ResV.cell rfl rfl (by assumption)) ?_
    exact ⟨rfl, hk1.trans hk2⟩
  | true =>
  have hf' : (∀ d ∈ l, d.bs.length ≤ 100 ∧ d.later.length ≤ 20) ∧ l.length ≤ 60 := by
    unfold fairB at hf
    rw [Bool.and_eq_true, List.all_eq_true, decide_eq_true_iff] at hf
    refine ⟨fun d hd => ?_, hf.2⟩
    have := hf.1 d hd
    unfold Dd.fair at this
    rw [Bool.and_eq_true, decide_eq_true_iff, decide_eq_true_iff] at this
    exact this
  obtain ⟨hfd, hfl⟩ := hf'
  obtain ⟨A, eA, hA3⟩ : ∃ A : Nat, (u.toNat : Int) % 3 = (A : Int) ∧ A < 3 := ⟨u.toNat % 3, by omega, by omega⟩
  obtain ⟨B, eB, hB3⟩ : ∃ B : Nat, (v.toNat : Int) % 3 = (B : Int) ∧ B < 3 := ⟨v.toNat % 3, by omega, by omega⟩
  repeat (first|apply CG.seq|apply CG.region|apply SG.nil|apply NG.next|apply CG.skip|apply CG.block|apply CG.ret|apply CG.exit|apply CG.scope|apply NG.ret_then|apply NG.ret_block|apply NG.ret_scope|apply NG.exit_then|refine NG.exit_block rfl ?_|refine NG.exit_other rfl ?_|apply NG.exit_scope|apply NG.normal_block|apply NG.normal_scope|refine SG.val rfl rfl rfl rfl (by first|((first|apply qmv|apply qas|apply qlc|apply qla|apply qfa|apply qnc|apply qic|apply qix|apply qpk|apply qls|apply qei|apply qni|apply qed|apply qnd|apply qad|apply qln|apply qle|apply qgt|apply qge|apply qlk|apply qlv|apply qxt|apply qsb|apply qnt|apply qep|apply qnp|apply qeb|apply qnb|apply qx2|apply qx4|apply qcv|apply qlm|apply qfr|apply qto|apply qmx|apply qen|apply qsn|apply qx6|apply qx5|apply qx4|apply qx3|apply qx2|apply qx1|apply qx0)<;>(first|exact rfl|exact Ar.mk (by omega)|assumption|exact dct (by assumption)|exact dcf (by assumption)|exact dct (by omega)|exact dcf (by omega)|exact List.not_mem_nil|exact dc_length _|exact nc_length _|exact rc_length _ _ _|exact nm1 (by omega)|exact nm2 (by omega) (by omega)|exact dct rfl|exact dct (by decide)|exact dcf (by decide)|exact (Int.toNat_of_nonneg (by omega)).symm|exact dcu|exact lk1 (by assumption)|exact lk0 (by assumption)))|fail) ?_)
  refine CG.cond_f rfl (by exact rho_of rfl) rfl ?_
  repeat (first|apply CG.seq|apply CG.region|apply SG.nil|apply NG.next|apply CG.skip|apply CG.block|apply CG.ret|apply CG.exit|apply CG.scope|apply NG.ret_then|apply NG.ret_block|apply NG.ret_scope|apply NG.exit_then|refine NG.exit_block rfl ?_|refine NG.exit_other rfl ?_|apply NG.exit_scope|apply NG.normal_block|apply NG.normal_scope|refine SG.val rfl rfl rfl rfl (by first|((first|apply qmv|apply qas|apply qlc|apply qla|apply qfa|apply qnc|apply qic|apply qix|apply qpk|apply qls|apply qei|apply qni|apply qed|apply qnd|apply qad|apply qln|apply qle|apply qgt|apply qge|apply qlk|apply qlv|apply qxt|apply qsb|apply qnt|apply qep|apply qnp|apply qeb|apply qnb|apply qx2|apply qx4|apply qcv|apply qlm|apply qfr|apply qto|apply qmx|apply qen|apply qsn|apply qx6|apply qx5|apply qx4|apply qx3|apply qx2|apply qx1|apply qx0)<;>(first|exact rfl|exact Ar.mk (by omega)|assumption|exact dct (by assumption)|exact dcf (by assumption)|exact dct (by omega)|exact dcf (by omega)|exact List.not_mem_nil|exact dc_length _|exact nc_length _|exact rc_length _ _ _|exact nm1 (by omega)|exact nm2 (by omega) (by omega)|exact dct rfl|exact dct (by decide)|exact dcf (by decide)|exact (Int.toNat_of_nonneg (by omega)).symm|exact dcu|exact lk1 (by assumption)|exact lk0 (by assumption)))|fail) ?_)
  rw [eA, eB]
  refine SG.call rfl rfl rfl (by repeat' (first | exact True.intro | exact rho_of rfl | refine And.intro ?_ ?_)) ((new_at w1 3 (by omega) (by omega)).mono (fun e w2 h => ?_))
  obtain ⟨bx, mx, he2, hA2⟩ := h
  refine ⟨_, he2, ?_⟩
  repeat (first|apply CG.seq|apply CG.region|apply SG.nil|apply NG.next|apply CG.skip|apply CG.block|apply CG.ret|apply CG.exit|apply CG.scope|apply NG.ret_then|apply NG.ret_block|apply NG.ret_scope|apply NG.exit_then|refine NG.exit_block rfl ?_|refine NG.exit_other rfl ?_|apply NG.exit_scope|apply NG.normal_block|apply NG.normal_scope|refine SG.val rfl rfl rfl rfl (by first|((first|apply qmv|apply qas|apply qlc|apply qla|apply qfa|apply qnc|apply qic|apply qix|apply qpk|apply qls|apply qei|apply qni|apply qed|apply qnd|apply qad|apply qln|apply qle|apply qgt|apply qge|apply qlk|apply qlv|apply qxt|apply qsb|apply qnt|apply qep|apply qnp|apply qeb|apply qnb|apply qx2|apply qx4|apply qcv|apply qlm|apply qfr|apply qto|apply qmx|apply qen|apply qsn|apply qx6|apply qx5|apply qx4|apply qx3|apply qx2|apply qx1|apply qx0)<;>(first|exact rfl|exact Ar.mk (by omega)|assumption|exact dct (by assumption)|exact dcf (by assumption)|exact dct (by omega)|exact dcf (by omega)|exact List.not_mem_nil|exact dc_length _|exact nc_length _|exact rc_length _ _ _|exact nm1 (by omega)|exact nm2 (by omega) (by omega)|exact dct rfl|exact dct (by decide)|exact dcf (by decide)|exact (Int.toNat_of_nonneg (by omega)).symm|exact dcu|exact lk1 (by assumption)|exact lk0 (by assumption)))|fail) ?_)
  refine SG.call rfl rfl rfl (by repeat' (first | exact True.intro | exact rho_of rfl | refine And.intro ?_ ?_)) ((new_at w2 3 (by omega) (by omega)).mono (fun e w3 h => ?_))
  obtain ⟨cy, my, he3, hA3'⟩ := h
  refine ⟨_, he3, ?_⟩
  have hT3 := At2.make hA2 hA3'
  have hS1 := hS.kp0 hk1
  repeat (first | first|apply CG.seq|apply CG.region|apply SG.nil|apply NG.next|apply CG.skip|apply CG.block|apply CG.ret|apply CG.exit|apply CG.scope|apply NG.ret_then|apply NG.ret_block|apply NG.ret_scope|apply NG.exit_then|refine NG.exit_block rfl ?_|refine NG.exit_other rfl ?_|apply NG.exit_scope|apply NG.normal_block|apply NG.normal_scope|refine SG.val rfl rfl rfl rfl (by first|((first|apply qmv|apply qas|apply qlc|apply qla|apply qfa|apply qnc|apply qic|apply qix|apply qpk|apply qls|apply qei|apply qni|apply qed|apply qnd|apply qad|apply qln|apply qle|apply qgt|apply qge|apply qlk|apply qlv|apply qxt|apply qsb|apply qnt|apply qep|apply qnp|apply qeb|apply qnb|apply qx2|apply qx4|apply qcv|apply qlm|apply qfr|apply qto|apply qmx|apply qen|apply qsn|apply qx6|apply qx5|apply qx4|apply qx3|apply qx2|apply qx1|apply qx0)<;>(first|exact rfl|exact Ar.mk (by omega)|assumption|exact dct (by assumption)|exact dcf (by assumption)|exact dct (by omega)|exact dcf (by omega)|exact List.not_mem_nil|exact dc_length _|exact nc_length _|exact rc_length _ _ _|exact nm1 (by omega)|exact nm2 (by omega) (by omega)|exact dct rfl|exact dct (by decide)|exact dcf (by decide)|exact (Int.toNat_of_nonneg (by omega)).symm|exact dcu|exact lk1 (by assumption)|exact lk0 (by assumption)))|fail) ?_ | refine SG.skip rfl rfl ?_)
  refine CG.cond_f rfl (by exact rho_of rfl) rfl ?_
  repeat (first|apply CG.seq|apply CG.region|apply SG.nil|apply NG.next|apply CG.skip|apply CG.block|apply CG.ret|apply CG.exit|apply CG.scope|apply NG.ret_then|apply NG.ret_block|apply NG.ret_scope|apply NG.exit_then|refine NG.exit_block rfl ?_|refine NG.exit_other rfl ?_|apply NG.exit_scope|apply NG.normal_block|apply NG.normal_scope|refine SG.val rfl rfl rfl rfl (by first|((first|apply qmv|apply qas|apply qlc|apply qla|apply qfa|apply qnc|apply qic|apply qix|apply qpk|apply qls|apply qei|apply qni|apply qed|apply qnd|apply qad|apply qln|apply qle|apply qgt|apply qge|apply qlk|apply qlv|apply qxt|apply qsb|apply qnt|apply qep|apply qnp|apply qeb|apply qnb|apply qx2|apply qx4|apply qcv|apply qlm|apply qfr|apply qto|apply qmx|apply qen|apply qsn|apply qx6|apply qx5|apply qx4|apply qx3|apply qx2|apply qx1|apply qx0)<;>(first|exact rfl|exact Ar.mk (by omega)|assumption|exact dct (by assumption)|exact dcf (by assumption)|exact dct (by omega)|exact dcf (by omega)|exact List.not_mem_nil|exact dc_length _|exact nc_length _|exact rc_length _ _ _|exact nm1 (by omega)|exact nm2 (by omega) (by omega)|exact dct rfl|exact dct (by decide)|exact dcf (by decide)|exact (Int.toNat_of_nonneg (by omega)).symm|exact dcu|exact lk1 (by assumption)|exact lk0 (by assumption)))|fail) ?_)
  refine CG.loop (X := Nat × Ns × Ns) (fun q => [(0, .slice a l.length c), (6, .bool false), (7, .int .i64 (A : Int)), (8, .int .i64 (B : Int)), (9, .pointer (some ⟨bx, 0, none⟩)), (11, .pointer (some ⟨cy, 0, none⟩)), (13, .int .i64 (q.1 : Int))])
    (fun q w' => q.1 ≤ l.length ∧ At2 w1 w' bx mx q.2.1 cy my q.2.2 ∧ Inv A B q.1 q.2.1 q.2.2) (fun q => l.length - q.1) (0, Ns.new 3, Ns.new 3) ⟨Nat.zero_le _, hT3, inv0 A B⟩ (by (repeat' (first | exact True.intro | exact rfl | refine And.intro ?_ ?_))) ?_
  rintro ⟨i, sx, sy⟩ w4 ⟨hi, hT4, hI⟩
  replace hi : i ≤ l.length := hi
  replace hT4 : At2 w1 w4 bx mx sx cy my sy := hT4
  replace hI : Inv A B i sx sy := hI
  refine CG.to [(0, .slice a l.length c), (6, .bool false), (7, .int .i64 (A : Int)), (8, .int .i64 (B : Int)), (9, .pointer (some ⟨bx, 0, none⟩)), (11, .pointer (some ⟨cy, 0, none⟩)), (13, .int .i64 (i : Int))] (by (repeat' (first | exact True.intro | exact rfl | refine And.intro ?_ ?_))) ?_
  by_cases hlt : i < l.length
  · have g1 : (i : Int) < (l.length : Int) := by omega
    obtain ⟨ba, oa, rfl, hr⟩ := (hS1.kp0 hT4.kp).at hlt
    obtain ⟨hb100, hl20⟩ := hfd _ (List.getElem_mem hlt)
    have hSx := (hSl _ (List.getElem_mem hlt)).kp0 hk1
    generalize l[i] = x at hr hb100 hl20 hSx
    repeat (first|apply CG.seq|apply CG.region|apply SG.nil|apply NG.next|apply CG.skip|apply CG.block|apply CG.ret|apply CG.exit|apply CG.scope|apply NG.ret_then|apply NG.ret_block|apply NG.ret_scope|apply NG.exit_then|refine NG.exit_block rfl ?_|refine NG.exit_other rfl ?_|apply NG.exit_scope|apply NG.normal_block|apply NG.normal_scope|refine SG.val rfl rfl rfl rfl (by first|((first|apply qmv|apply qas|apply qlc|apply qla|apply qfa|apply qnc|apply qic|apply qix|apply qpk|apply qls|apply qei|apply qni|apply qed|apply qnd|apply qad|apply qln|apply qle|apply qgt|apply qge|apply qlk|apply qlv|apply qxt|apply qsb|apply qnt|apply qep|apply qnp|apply qeb|apply qnb|apply qx2|apply qx4|apply qcv|apply qlm|apply qfr|apply qto|apply qmx|apply qen|apply qsn|apply qx6|apply qx5|apply qx4|apply qx3|apply qx2|apply qx1|apply qx0)<;>(first|exact rfl|exact Ar.mk (by omega)|assumption|exact dct (by assumption)|exact dcf (by assumption)|exact dct (by omega)|exact dcf (by omega)|exact List.not_mem_nil|exact dc_length _|exact nc_length _|exact rc_length _ _ _|exact nm1 (by omega)|exact nm2 (by omega) (by omega)|exact dct rfl|exact dct (by decide)|exact dcf (by decide)|exact (Int.toNat_of_nonneg (by omega)).symm|exact dcu|exact lk1 (by assumption)|exact lk0 (by assumption)))|fail) ?_)
    refine CG.cond_t rfl (by exact rho_of rfl) rfl ?_
    repeat (first|apply CG.seq|apply CG.region|apply SG.nil|apply NG.next|apply CG.skip|apply CG.block|apply CG.ret|apply CG.exit|apply CG.scope|apply NG.ret_then|apply NG.ret_block|apply NG.ret_scope|apply NG.exit_then|refine NG.exit_block rfl ?_|refine NG.exit_other rfl ?_|apply NG.exit_scope|apply NG.normal_block|apply NG.normal_scope|refine SG.val rfl rfl rfl rfl (by first|((first|apply qmv|apply qas|apply qlc|apply qla|apply qfa|apply qnc|apply qic|apply qix|apply qpk|apply qls|apply qei|apply qni|apply qed|apply qnd|apply qad|apply qln|apply qle|apply qgt|apply qge|apply qlk|apply qlv|apply qxt|apply qsb|apply qnt|apply qep|apply qnp|apply qeb|apply qnb|apply qx2|apply qx4|apply qcv|apply qlm|apply qfr|apply qto|apply qmx|apply qen|apply qsn|apply qx6|apply qx5|apply qx4|apply qx3|apply qx2|apply qx1|apply qx0)<;>(first|exact rfl|exact Ar.mk (by omega)|assumption|exact dct (by assumption)|exact dcf (by assumption)|exact dct (by omega)|exact dcf (by omega)|exact List.not_mem_nil|exact dc_length _|exact nc_length _|exact rc_length _ _ _|exact nm1 (by omega)|exact nm2 (by omega) (by omega)|exact dct rfl|exact dct (by decide)|exact dcf (by decide)|exact (Int.toNat_of_nonneg (by omega)).symm|exact dcu|exact lk1 (by assumption)|exact lk0 (by assumption)))|fail) ?_)
    refine SG.alloc rfl rfl rfl (fun b14 w5 hk5 hb14 hB5 => ?_)
    refine SG.setAll (old := [.int .u8 0, .int .i64 0, .int .i64 0, .string ⟨#[]⟩, .slice none 0 0]) (l := dcl x) rfl rfl (by exact rho_of rfl) (by exact rho_of rfl) hB5 rfl rfl (dcl_one x) (fun w6 hk6 hB6 => ?_)
    have e14 := hT4.kp.size
    have hT6 := (hT4.kp0 hk5).kpb hB5 (by omega) (by decide) (by decide) (by decide) hk6
    obtain ⟨r0, r1, r2, r3, r4⟩ := dd_rows hB6
    obtain ⟨mine, hm, hcm⟩ : ∃ mine : Bool, (mine = true ↔ (x.A = (A : Int) ∧ x.B = (B : Int))) ∧ ((mine = false ∧ (¬ x.A = (A : Int) ∨ (x.A = (A : Int) ∧ ¬ x.B = (B : Int)))) ∨ (mine = true ∧ x.A = (A : Int) ∧ x.B = (B : Int))) := by
      by_cases h1 : x.A = (A : Int)
      · by_cases h2 : x.B = (B : Int)
        · exact ⟨true, by simp [h1, h2], Or.inr ⟨rfl, h1, h2⟩⟩
        · exact ⟨false, by simp [h2], Or.inl ⟨rfl, Or.inr ⟨h1, h2⟩⟩⟩
      · exact ⟨false, by simp [h1], Or.inl ⟨rfl, Or.inl h1⟩⟩
    apply SG.nil
    apply NG.next
    refine CG.seq_cut (fun L w' => w' = w6 ∧ SubE [(0, .slice (some ⟨ba, oa, none⟩) l.length c), (6, .bool false), (7, .int .i64 (A : Int)), (8, .int .i64 (B : Int)), (9, .pointer (some ⟨bx, 0, none⟩)), (11, .pointer (some ⟨cy, 0, none⟩)), (13, .int .i64 (i : Int)), (14, .pointer (some ⟨b14, 0, none⟩)), (15, .bool mine)] L) ?_ ?_
    · rcases hcm with ⟨rfl, k1 | ⟨k1, k2⟩⟩ | ⟨rfl, k1, k2⟩
      all_goals
        repeat (first | first|apply CG.seq|apply CG.region|apply SG.nil|apply NG.next|apply CG.skip|apply CG.block|apply CG.ret|apply CG.exit|apply CG.scope|apply NG.ret_then|apply NG.ret_block|apply NG.ret_scope|apply NG.exit_then|refine NG.exit_block rfl ?_|refine NG.exit_other rfl ?_|apply NG.exit_scope|apply NG.normal_block|apply NG.normal_scope|refine SG.val rfl rfl rfl rfl (by first|((first|apply qmv|apply qas|apply qlc|apply qla|apply qfa|apply qnc|apply qic|apply qix|apply qpk|apply qls|apply qei|apply qni|apply qed|apply qnd|apply qad|apply qln|apply qle|apply qgt|apply qge|apply qlk|apply qlv|apply qxt|apply qsb|apply qnt|apply qep|apply qnp|apply qeb|apply qnb|apply qx2|apply qx4|apply qcv|apply qlm|apply qfr|apply qto|apply qmx|apply qen|apply qsn|apply qx6|apply qx5|apply qx4|apply qx3|apply qx2|apply qx1|apply qx0)<;>(first|exact rfl|exact Ar.mk (by omega)|assumption|exact dct (by assumption)|exact dcf (by assumption)|exact dct (by omega)|exact dcf (by omega)|exact List.not_mem_nil|exact dc_length _|exact nc_length _|exact rc_length _ _ _|exact nm1 (by omega)|exact nm2 (by omega) (by omega)|exact dct rfl|exact dct (by decide)|exact dcf (by decide)|exact (Int.toNat_of_nonneg (by omega)).symm|exact dcu|exact lk1 (by assumption)|exact lk0 (by assumption)))|fail) ?_ | refine SG.skip rfl rfl ?_)
        exact NG.cut ⟨rfl, by (repeat' (first | exact True.intro | exact rfl | refine And.intro ?_ ?_))⟩
    rintro L w7 ⟨rfl, hL⟩
    refine CG.to _ hL ?_
    have hlen1 := hI.len
    have hlen2 := hI.len2
    have hs1 := hI.sentx
    have hs2 := hI.senty
    have hn1 := hI.nle
    have hn2 := hI.now
    have hw4 : (x.what.toNat : Int) % 4 = 0 ∨ (x.what.toNat : Int) % 4 = 1 ∨ (¬ (x.what.toNat : Int) % 4 = 0 ∧ ¬ (x.what.toNat : Int) % 4 = 1) := by omega
    rcases hw4 with k0 | k0 | ⟨k0, k1⟩
    · repeat (first|apply CG.seq|apply CG.region|apply SG.nil|apply NG.next|apply CG.skip|apply CG.block|apply CG.ret|apply CG.exit|apply CG.scope|apply NG.ret_then|apply NG.ret_block|apply NG.ret_scope|apply NG.exit_then|refine NG.exit_block rfl ?_|refine NG.exit_other rfl ?_|apply NG.exit_scope|apply NG.normal_block|apply NG.normal_scope|refine SG.val rfl rfl rfl rfl (by first|((first|apply qmv|apply qas|apply qlc|apply qla|apply qfa|apply qnc|apply qic|apply qix|apply qpk|apply qls|apply qei|apply qni|apply qed|apply qnd|apply qad|apply qln|apply qle|apply qgt|apply qge|apply qlk|apply qlv|apply qxt|apply qsb|apply qnt|apply qep|apply qnp|apply qeb|apply qnb|apply qx2|apply qx4|apply qcv|apply qlm|apply qfr|apply qto|apply qmx|apply qen|apply qsn|apply qx6|apply qx5|apply qx4|apply qx3|apply qx2|apply qx1|apply qx0)<;>(first|exact rfl|exact Ar.mk (by omega)|assumption|exact dct (by assumption)|exact dcf (by assumption)|exact dct (by omega)|exact dcf (by omega)|exact List.not_mem_nil|exact dc_length _|exact nc_length _|exact rc_length _ _ _|exact nm1 (by omega)|exact nm2 (by omega) (by omega)|exact dct rfl|exact dct (by decide)|exact dcf (by decide)|exact (Int.toNat_of_nonneg (by omega)).symm|exact dcu|exact lk1 (by assumption)|exact lk0 (by assumption)))|fail) ?_)
      refine CG.cond_t rfl (by exact rho_of rfl) rfl ?_
      repeat (first|apply CG.seq|apply CG.region|apply SG.nil|apply NG.next|apply CG.skip|apply CG.block|apply CG.ret|apply CG.exit|apply CG.scope|apply NG.ret_then|apply NG.ret_block|apply NG.ret_scope|apply NG.exit_then|refine NG.exit_block rfl ?_|refine NG.exit_other rfl ?_|apply NG.exit_scope|apply NG.normal_block|apply NG.normal_scope|refine SG.val rfl rfl rfl rfl (by first|((first|apply qmv|apply qas|apply qlc|apply qla|apply qfa|apply qnc|apply qic|apply qix|apply qpk|apply qls|apply qei|apply qni|apply qed|apply qnd|apply qad|apply qln|apply qle|apply qgt|apply qge|apply qlk|apply qlv|apply qxt|apply qsb|apply qnt|apply qep|apply qnp|apply qeb|apply qnb|apply qx2|apply qx4|apply qcv|apply qlm|apply qfr|apply qto|apply qmx|apply qen|apply qsn|apply qx6|apply qx5|apply qx4|apply qx3|apply qx2|apply qx1|apply qx0)<;>(first|exact rfl|exact Ar.mk (by omega)|assumption|exact dct (by assumption)|exact dcf (by assumption)|exact dct (by omega)|exact dcf (by omega)|exact List.not_mem_nil|exact dc_length _|exact nc_length _|exact rc_length _ _ _|exact nm1 (by omega)|exact nm2 (by omega) (by omega)|exact dct rfl|exact dct (by decide)|exact dcf (by decide)|exact (Int.toNat_of_nonneg (by omega)).symm|exact dcu|exact lk1 (by assumption)|exact lk0 (by assumption)))|fail) ?_)
      refine SG.strB rfl rfl rfl rfl (fun b8 c8 w8 hk8 hb8 hS8 => ?_)
      have hB8 := hB6.kp0 hk8
      obtain ⟨r0, r1, r2, r3, r4⟩ := dd_rows hB8
      refine SG.val rfl rfl rfl rfl (vals_build rfl (fun w => build35d w x.A x.B (some ⟨b8, 0, none⟩) x.bs.length c8)) ?_
      repeat (first|apply CG.seq|apply CG.region|apply SG.nil|apply NG.next|apply CG.skip|apply CG.block|apply CG.ret|apply CG.exit|apply CG.scope|apply NG.ret_then|apply NG.ret_block|apply NG.ret_scope|apply NG.exit_then|refine NG.exit_block rfl ?_|refine NG.exit_other rfl ?_|apply NG.exit_scope|apply NG.normal_block|apply NG.normal_scope|refine SG.val rfl rfl rfl rfl (by first|((first|apply qmv|apply qas|apply qlc|apply qla|apply qfa|apply qnc|apply qic|apply qix|apply qpk|apply qls|apply qei|apply qni|apply qed|apply qnd|apply qad|apply qln|apply qle|apply qgt|apply qge|apply qlk|apply qlv|apply qxt|apply qsb|apply qnt|apply qep|apply qnp|apply qeb|apply qnb|apply qx2|apply qx4|apply qcv|apply qlm|apply qfr|apply qto|apply qmx|apply qen|apply qsn|apply qx6|apply qx5|apply qx4|apply qx3|apply qx2|apply qx1|apply qx0)<;>(first|exact rfl|exact Ar.mk (by omega)|assumption|exact dct (by assumption)|exact dcf (by assumption)|exact dct (by omega)|exact dcf (by omega)|exact List.not_mem_nil|exact dc_length _|exact nc_length _|exact rc_length _ _ _|exact nm1 (by omega)|exact nm2 (by omega) (by omega)|exact dct rfl|exact dct (by decide)|exact dcf (by decide)|exact (Int.toNat_of_nonneg (by omega)).symm|exact dcu|exact lk1 (by assumption)|exact lk0 (by assumption)))|fail) ?_)
      refine SG.val rfl rfl rfl rfl (vals_build rfl (fun w => build31 w x.a x.later.length x.c)) ?_
      refine SG.call rfl rfl rfl (by repeat' (first | exact True.intro | exact rho_of rfl | refine And.intro ?_ ?_)) ((send2 (hT6.kp0 hk8) (by omega) (by omega) (by omega) x.A x.B (some ⟨b8, 0, none⟩) c8 x.bs hS8 x.a x.c x.later hSx (by omega) (by omega)).mono (fun e w9 h => ?_))
      obtain ⟨he9, hT9, hk9⟩ := h
      refine ⟨_, he9, ?_⟩
      have hB9 := hk9.cells _ _ _ _ (by decide) (by decide) hB8
      obtain ⟨r0, r1, r2, r3, r4⟩ := dd_rows hB9
      have hJ := hI.send (by omega : i < 60) (bs := x.bs) (later := x.later) mine hm
      repeat (first|apply CG.seq|apply CG.region|apply SG.nil|apply NG.next|apply CG.skip|apply CG.block|apply CG.ret|apply CG.exit|apply CG.scope|apply NG.ret_then|apply NG.ret_block|apply NG.ret_scope|apply NG.exit_then|refine NG.exit_block rfl ?_|refine NG.exit_other rfl ?_|apply NG.exit_scope|apply NG.normal_block|apply NG.normal_scope|refine SG.val rfl rfl rfl rfl (by first|((first|apply qmv|apply qas|apply qlc|apply qla|apply qfa|apply qnc|apply qic|apply qix|apply qpk|apply qls|apply qei|apply qni|apply qed|apply qnd|apply qad|apply qln|apply qle|apply qgt|apply qge|apply qlk|apply qlv|apply qxt|apply qsb|apply qnt|apply qep|apply qnp|apply qeb|apply qnb|apply qx2|apply qx4|apply qcv|apply qlm|apply qfr|apply qto|apply qmx|apply qen|apply qsn|apply qx6|apply qx5|apply qx4|apply qx3|apply qx2|apply qx1|apply qx0)<;>(first|exact rfl|exact Ar.mk (by omega)|assumption|exact dct (by assumption)|exact dcf (by assumption)|exact dct (by omega)|exact dcf (by omega)|exact List.not_mem_nil|exact dc_length _|exact nc_length _|exact rc_length _ _ _|exact nm1 (by omega)|exact nm2 (by omega) (by omega)|exact dct rfl|exact dct (by decide)|exact dcf (by decide)|exact (Int.toNat_of_nonneg (by omega)).symm|exact dcu|exact lk1 (by assumption)|exact lk0 (by assumption)))|fail) ?_)
      cases mine with
      | true =>
        refine CG.cond_t rfl (by exact rho_of rfl) rfl ?_
        repeat (first|apply CG.seq|apply CG.region|apply SG.nil|apply NG.next|apply CG.skip|apply CG.block|apply CG.ret|apply CG.exit|apply CG.scope|apply NG.ret_then|apply NG.ret_block|apply NG.ret_scope|apply NG.exit_then|refine NG.exit_block rfl ?_|refine NG.exit_other rfl ?_|apply NG.exit_scope|apply NG.normal_block|apply NG.normal_scope|refine SG.val rfl rfl rfl rfl (by first|((first|apply qmv|apply qas|apply qlc|apply qla|apply qfa|apply qnc|apply qic|apply qix|apply qpk|apply qls|apply qei|apply qni|apply qed|apply qnd|apply qad|apply qln|apply qle|apply qgt|apply qge|apply qlk|apply qlv|apply qxt|apply qsb|apply qnt|apply qep|apply qnp|apply qeb|apply qnb|apply qx2|apply qx4|apply qcv|apply qlm|apply qfr|apply qto|apply qmx|apply qen|apply qsn|apply qx6|apply qx5|apply qx4|apply qx3|apply qx2|apply qx1|apply qx0)<;>(first|exact rfl|exact Ar.mk (by omega)|assumption|exact dct (by assumption)|exact dcf (by assumption)|exact dct (by omega)|exact dcf (by omega)|exact List.not_mem_nil|exact dc_length _|exact nc_length _|exact rc_length _ _ _|exact nm1 (by omega)|exact nm2 (by omega) (by omega)|exact dct rfl|exact dct (by decide)|exact dcf (by decide)|exact (Int.toNat_of_nonneg (by omega)).symm|exact dcu|exact lk1 (by assumption)|exact lk0 (by assumption)))|fail) ?_)
        refine SG.strB rfl rfl rfl rfl (fun b10 c10 w10 hk10 hb10 hS10 => ?_)
        obtain ⟨r0, r1, r2, r3, r4⟩ := dd_rows (hB9.kp0 hk10)
        refine SG.val rfl rfl rfl rfl (vals_build rfl (fun w => build35d w x.A x.B (some ⟨b10, 0, none⟩) x.bs.length c10)) ?_
        repeat (first|apply CG.seq|apply CG.region|apply SG.nil|apply NG.next|apply CG.skip|apply CG.block|apply CG.ret|apply CG.exit|apply CG.scope|apply NG.ret_then|apply NG.ret_block|apply NG.ret_scope|apply NG.exit_then|refine NG.exit_block rfl ?_|refine NG.exit_other rfl ?_|apply NG.exit_scope|apply NG.normal_block|apply NG.normal_scope|refine SG.val rfl rfl rfl rfl (by first|((first|apply qmv|apply qas|apply qlc|apply qla|apply qfa|apply qnc|apply qic|apply qix|apply qpk|apply qls|apply qei|apply qni|apply qed|apply qnd|apply qad|apply qln|apply qle|apply qgt|apply qge|apply qlk|apply qlv|apply qxt|apply qsb|apply qnt|apply qep|apply qnp|apply qeb|apply qnb|apply qx2|apply qx4|apply qcv|apply qlm|apply qfr|apply qto|apply qmx|apply qen|apply qsn|apply qx6|apply qx5|apply qx4|apply qx3|apply qx2|apply qx1|apply qx0)<;>(first|exact rfl|exact Ar.mk (by omega)|assumption|exact dct (by assumption)|exact dcf (by assumption)|exact dct (by omega)|exact dcf (by omega)|exact List.not_mem_nil|exact dc_length _|exact nc_length _|exact rc_length _ _ _|exact nm1 (by omega)|exact nm2 (by omega) (by omega)|exact dct rfl|exact dct (by decide)|exact dcf (by decide)|exact (Int.toNat_of_nonneg (by omega)).symm|exact dcu|exact lk1 (by assumption)|exact lk0 (by assumption)))|fail) ?_)
        refine SG.val rfl rfl rfl rfl (vals_build rfl (fun w => build31 w x.a x.later.length x.c)) ?_
        refine SG.call rfl rfl rfl (by repeat' (first | exact True.intro | exact rho_of rfl | refine And.intro ?_ ?_)) ((send2 (hT9.kp0 hk10).symm (by omega) (by omega) (by omega) x.A x.B (some ⟨b10, 0, none⟩) c10 x.bs hS10 x.a x.c x.later hSx (by omega) (by omega)).mono (fun e w11 h => ?_))
        obtain ⟨he11, hT11, hk11⟩ := h
        refine ⟨_, he11, ?_⟩
        repeat (first|apply CG.seq|apply CG.region|apply SG.nil|apply NG.next|apply CG.skip|apply CG.block|apply CG.ret|apply CG.exit|apply CG.scope|apply NG.ret_then|apply NG.ret_block|apply NG.ret_scope|apply NG.exit_then|refine NG.exit_block rfl ?_|refine NG.exit_other rfl ?_|apply NG.exit_scope|apply NG.normal_block|apply NG.normal_scope|refine SG.val rfl rfl rfl rfl (by first|((first|apply qmv|apply qas|apply qlc|apply qla|apply qfa|apply qnc|apply qic|apply qix|apply qpk|apply qls|apply qei|apply qni|apply qed|apply qnd|apply qad|apply qln|apply qle|apply qgt|apply qge|apply qlk|apply qlv|apply qxt|apply qsb|apply qnt|apply qep|apply qnp|apply qeb|apply qnb|apply qx2|apply qx4|apply qcv|apply qlm|apply qfr|apply qto|apply qmx|apply qen|apply qsn|apply qx6|apply qx5|apply qx4|apply qx3|apply qx2|apply qx1|apply qx0)<;>(first|exact rfl|exact Ar.mk (by omega)|assumption|exact dct (by assumption)|exact dcf (by assumption)|exact dct (by omega)|exact dcf (by omega)|exact List.not_mem_nil|exact dc_length _|exact nc_length _|exact rc_length _ _ _|exact nm1 (by omega)|exact nm2 (by omega) (by omega)|exact dct rfl|exact dct (by decide)|exact dcf (by decide)|exact (Int.toNat_of_nonneg (by omega)).symm|exact dcu|exact lk1 (by assumption)|exact lk0 (by assumption)))|fail) ?_)
        exact NG.round (i + 1, sx.sendD x.A x.B x.bs x.later, sy.sendD x.A x.B x.bs x.later) (by (repeat' (first | exact True.intro | exact rfl | refine And.intro ?_ ?_))) ⟨by show i + 1 ≤ l.length; omega, hT11.symm, hJ⟩ (by show l.length - (i + 1) < l.length - i; omega)
      | false =>
        refine CG.cond_f rfl (by exact rho_of rfl) rfl ?_
        repeat (first|apply CG.seq|apply CG.region|apply SG.nil|apply NG.next|apply CG.skip|apply CG.block|apply CG.ret|apply CG.exit|apply CG.scope|apply NG.ret_then|apply NG.ret_block|apply NG.ret_scope|apply NG.exit_then|refine NG.exit_block rfl ?_|refine NG.exit_other rfl ?_|apply NG.exit_scope|apply NG.normal_block|apply NG.normal_scope|refine SG.val rfl rfl rfl rfl (by first|((first|apply qmv|apply qas|apply qlc|apply qla|apply qfa|apply qnc|apply qic|apply qix|apply qpk|apply qls|apply qei|apply qni|apply qed|apply qnd|apply qad|apply qln|apply qle|apply qgt|apply qge|apply qlk|apply qlv|apply qxt|apply qsb|apply qnt|apply qep|apply qnp|apply qeb|apply qnb|apply qx2|apply qx4|apply qcv|apply qlm|apply qfr|apply qto|apply qmx|apply qen|apply qsn|apply qx6|apply qx5|apply qx4|apply qx3|apply qx2|apply qx1|apply qx0)<;>(first|exact rfl|exact Ar.mk (by omega)|assumption|exact dct (by assumption)|exact dcf (by assumption)|exact dct (by omega)|exact dcf (by omega)|exact List.not_mem_nil|exact dc_length _|exact nc_length _|exact rc_length _ _ _|exact nm1 (by omega)|exact nm2 (by omega) (by omega)|exact dct rfl|exact dct (by decide)|exact dcf (by decide)|exact (Int.toNat_of_nonneg (by omega)).symm|exact dcu|exact lk1 (by assumption)|exact lk0 (by assumption)))|fail) ?_)
        exact NG.round (i + 1, sx.sendD x.A x.B x.bs x.later, sy) (by (repeat' (first | exact True.intro | exact rfl | refine And.intro ?_ ?_))) ⟨by show i + 1 ≤ l.length; omega, hT9, hJ⟩ (by show l.length - (i + 1) < l.length - i; omega)
    · have k0' : ¬ (x.what.toNat : Int) % 4 = 0 := by omega
      repeat (first|apply CG.seq|apply CG.region|apply SG.nil|apply NG.next|apply CG.skip|apply CG.block|apply CG.ret|apply CG.exit|apply CG.scope|apply NG.ret_then|apply NG.ret_block|apply NG.ret_scope|apply NG.exit_then|refine NG.exit_block rfl ?_|refine NG.exit_other rfl ?_|apply NG.exit_scope|apply NG.normal_block|apply NG.normal_scope|refine SG.val rfl rfl rfl rfl (by first|((first|apply qmv|apply qas|apply qlc|apply qla|apply qfa|apply qnc|apply qic|apply qix|apply qpk|apply qls|apply qei|apply qni|apply qed|apply qnd|apply qad|apply qln|apply qle|apply qgt|apply qge|apply qlk|apply qlv|apply qxt|apply qsb|apply qnt|apply qep|apply qnp|apply qeb|apply qnb|apply qx2|apply qx4|apply qcv|apply qlm|apply qfr|apply qto|apply qmx|apply qen|apply qsn|apply qx6|apply qx5|apply qx4|apply qx3|apply qx2|apply qx1|apply qx0)<;>(first|exact rfl|exact Ar.mk (by omega)|assumption|exact dct (by assumption)|exact dcf (by assumption)|exact dct (by omega)|exact dcf (by omega)|exact List.not_mem_nil|exact dc_length _|exact nc_length _|exact rc_length _ _ _|exact nm1 (by omega)|exact nm2 (by omega) (by omega)|exact dct rfl|exact dct (by decide)|exact dcf (by decide)|exact (Int.toNat_of_nonneg (by omega)).symm|exact dcu|exact lk1 (by assumption)|exact lk0 (by assumption)))|fail) ?_)
      refine CG.cond_f rfl (by exact rho_of rfl) rfl ?_
      repeat (first|apply CG.seq|apply CG.region|apply SG.nil|apply NG.next|apply CG.skip|apply CG.block|apply CG.ret|apply CG.exit|apply CG.scope|apply NG.ret_then|apply NG.ret_block|apply NG.ret_scope|apply NG.exit_then|refine NG.exit_block rfl ?_|refine NG.exit_other rfl ?_|apply NG.exit_scope|apply NG.normal_block|apply NG.normal_scope|refine SG.val rfl rfl rfl rfl (by first|((first|apply qmv|apply qas|apply qlc|apply qla|apply qfa|apply qnc|apply qic|apply qix|apply qpk|apply qls|apply qei|apply qni|apply qed|apply qnd|apply qad|apply qln|apply qle|apply qgt|apply qge|apply qlk|apply qlv|apply qxt|apply qsb|apply qnt|apply qep|apply qnp|apply qeb|apply qnb|apply qx2|apply qx4|apply qcv|apply qlm|apply qfr|apply qto|apply qmx|apply qen|apply qsn|apply qx6|apply qx5|apply qx4|apply qx3|apply qx2|apply qx1|apply qx0)<;>(first|exact rfl|exact Ar.mk (by omega)|assumption|exact dct (by assumption)|exact dcf (by assumption)|exact dct (by omega)|exact dcf (by omega)|exact List.not_mem_nil|exact dc_length _|exact nc_length _|exact rc_length _ _ _|exact nm1 (by omega)|exact nm2 (by omega) (by omega)|exact dct rfl|exact dct (by decide)|exact dcf (by decide)|exact (Int.toNat_of_nonneg (by omega)).symm|exact dcu|exact lk1 (by assumption)|exact lk0 (by assumption)))|fail) ?_)
      refine CG.cond_t rfl (by exact rho_of rfl) rfl ?_
      repeat (first|apply CG.seq|apply CG.region|apply SG.nil|apply NG.next|apply CG.skip|apply CG.block|apply CG.ret|apply CG.exit|apply CG.scope|apply NG.ret_then|apply NG.ret_block|apply NG.ret_scope|apply NG.exit_then|refine NG.exit_block rfl ?_|refine NG.exit_other rfl ?_|apply NG.exit_scope|apply NG.normal_block|apply NG.normal_scope|refine SG.val rfl rfl rfl rfl (by first|((first|apply qmv|apply qas|apply qlc|apply qla|apply qfa|apply qnc|apply qic|apply qix|apply qpk|apply qls|apply qei|apply qni|apply qed|apply qnd|apply qad|apply qln|apply qle|apply qgt|apply qge|apply qlk|apply qlv|apply qxt|apply qsb|apply qnt|apply qep|apply qnp|apply qeb|apply qnb|apply qx2|apply qx4|apply qcv|apply qlm|apply qfr|apply qto|apply qmx|apply qen|apply qsn|apply qx6|apply qx5|apply qx4|apply qx3|apply qx2|apply qx1|apply qx0)<;>(first|exact rfl|exact Ar.mk (by omega)|assumption|exact dct (by assumption)|exact dcf (by assumption)|exact dct (by omega)|exact dcf (by omega)|exact List.not_mem_nil|exact dc_length _|exact nc_length _|exact rc_length _ _ _|exact nm1 (by omega)|exact nm2 (by omega) (by omega)|exact dct rfl|exact dct (by decide)|exact dcf (by decide)|exact (Int.toNat_of_nonneg (by omega)).symm|exact dcu|exact lk1 (by assumption)|exact lk0 (by assumption)))|fail) ?_)
      refine SG.call rfl rfl rfl (by repeat' (first | exact True.intro | exact rho_of rfl | refine And.intro ?_ ?_)) ((step2 hT6 (by omega) (by omega) hI.inx).mono (fun e w8 h => ?_))
      obtain ⟨v8, l8, he8, ho8, hl8, hb8, hT8, hk8⟩ := h
      refine ⟨_, he8, ?_⟩
      have hl8' : l8.length ≤ 480 := by
        have := congrArg List.length hl8
        rw [List.length_map, List.length_map] at this
        rw [this]
        refine Nat.le_trans (List.length_filter_le _ _) (Nat.le_trans (List.length_filter_le _ _) ?_)
        omega
      obtain ⟨p8, q8, rfl, hS8⟩ := SlF.own lcl_length ho8 rfl
      repeat (first|apply CG.seq|apply CG.region|apply SG.nil|apply NG.next|apply CG.skip|apply CG.block|apply CG.ret|apply CG.exit|apply CG.scope|apply NG.ret_then|apply NG.ret_block|apply NG.ret_scope|apply NG.exit_then|refine NG.exit_block rfl ?_|refine NG.exit_other rfl ?_|apply NG.exit_scope|apply NG.normal_block|apply NG.normal_scope|refine SG.val rfl rfl rfl rfl (by first|((first|apply qmv|apply qas|apply qlc|apply qla|apply qfa|apply qnc|apply qic|apply qix|apply qpk|apply qls|apply qei|apply qni|apply qed|apply qnd|apply qad|apply qln|apply qle|apply qgt|apply qge|apply qlk|apply qlv|apply qxt|apply qsb|apply qnt|apply qep|apply qnp|apply qeb|apply qnb|apply qx2|apply qx4|apply qcv|apply qlm|apply qfr|apply qto|apply qmx|apply qen|apply qsn|apply qx6|apply qx5|apply qx4|apply qx3|apply qx2|apply qx1|apply qx0)<;>(first|exact rfl|exact Ar.mk (by omega)|assumption|exact dct (by assumption)|exact dcf (by assumption)|exact dct (by omega)|exact dcf (by omega)|exact List.not_mem_nil|exact dc_length _|exact nc_length _|exact rc_length _ _ _|exact nm1 (by omega)|exact nm2 (by omega) (by omega)|exact dct rfl|exact dct (by decide)|exact dcf (by decide)|exact (Int.toNat_of_nonneg (by omega)).symm|exact dcu|exact lk1 (by assumption)|exact lk0 (by assumption)))|fail) ?_)
      refine SG.call rfl rfl rfl (by repeat' (first | exact True.intro | exact rho_of rfl | refine And.intro ?_ ?_)) ((some_spec q8 A B hS8.sl (by omega)).mono (fun e w9 h => ?_))
      obtain ⟨v9, he9, ho9, hk9⟩ := h
      refine ⟨_, he9, ?_⟩
      repeat (first|apply CG.seq|apply CG.region|apply SG.nil|apply NG.next|apply CG.skip|apply CG.block|apply CG.ret|apply CG.exit|apply CG.scope|apply NG.ret_then|apply NG.ret_block|apply NG.ret_scope|apply NG.exit_then|refine NG.exit_block rfl ?_|refine NG.exit_other rfl ?_|apply NG.exit_scope|apply NG.normal_block|apply NG.normal_scope|refine SG.val rfl rfl rfl rfl (by first|((first|apply qmv|apply qas|apply qlc|apply qla|apply qfa|apply qnc|apply qic|apply qix|apply qpk|apply qls|apply qei|apply qni|apply qed|apply qnd|apply qad|apply qln|apply qle|apply qgt|apply qge|apply qlk|apply qlv|apply qxt|apply qsb|apply qnt|apply qep|apply qnp|apply qeb|apply qnb|apply qx2|apply qx4|apply qcv|apply qlm|apply qfr|apply qto|apply qmx|apply qen|apply qsn|apply qx6|apply qx5|apply qx4|apply qx3|apply qx2|apply qx1|apply qx0)<;>(first|exact rfl|exact Ar.mk (by omega)|assumption|exact dct (by assumption)|exact dcf (by assumption)|exact dct (by omega)|exact dcf (by omega)|exact List.not_mem_nil|exact dc_length _|exact nc_length _|exact rc_length _ _ _|exact nm1 (by omega)|exact nm2 (by omega) (by omega)|exact dct rfl|exact dct (by decide)|exact dcf (by decide)|exact (Int.toNat_of_nonneg (by omega)).symm|exact dcu|exact lk1 (by assumption)|exact lk0 (by assumption)))|fail) ?_)
      refine SG.call rfl rfl rfl (by repeat' (first | exact True.intro | exact rho_of rfl | refine And.intro ?_ ?_)) ((step2 (hT8.kp0 hk9).symm (by omega) (by omega) hI.iny).mono (fun e w10 h => ?_))
      obtain ⟨v10, l10, he10, ho10, hl10, hb10, hT10, hk10⟩ := h
      refine ⟨_, he10, ?_⟩
      have ho9 := own_kt ho9 hk10 (by decide) (by decide)
      obtain ⟨p9, q9, rfl, hS9⟩ := SlF.own lcl_length ho9 rfl
      obtain ⟨p10, q10, rfl, hS10⟩ := SlF.own lcl_length ho10 rfl
      repeat (first|apply CG.seq|apply CG.region|apply SG.nil|apply NG.next|apply CG.skip|apply CG.block|apply CG.ret|apply CG.exit|apply CG.scope|apply NG.ret_then|apply NG.ret_block|apply NG.ret_scope|apply NG.exit_then|refine NG.exit_block rfl ?_|refine NG.exit_other rfl ?_|apply NG.exit_scope|apply NG.normal_block|apply NG.normal_scope|refine SG.val rfl rfl rfl rfl (by first|((first|apply qmv|apply qas|apply qlc|apply qla|apply qfa|apply qnc|apply qic|apply qix|apply qpk|apply qls|apply qei|apply qni|apply qed|apply qnd|apply qad|apply qln|apply qle|apply qgt|apply qge|apply qlk|apply qlv|apply qxt|apply qsb|apply qnt|apply qep|apply qnp|apply qeb|apply qnb|apply qx2|apply qx4|apply qcv|apply qlm|apply qfr|apply qto|apply qmx|apply qen|apply qsn|apply qx6|apply qx5|apply qx4|apply qx3|apply qx2|apply qx1|apply qx0)<;>(first|exact rfl|exact Ar.mk (by omega)|assumption|exact dct (by assumption)|exact dcf (by assumption)|exact dct (by omega)|exact dcf (by omega)|exact List.not_mem_nil|exact dc_length _|exact nc_length _|exact rc_length _ _ _|exact nm1 (by omega)|exact nm2 (by omega) (by omega)|exact dct rfl|exact dct (by decide)|exact dcf (by decide)|exact (Int.toNat_of_nonneg (by omega)).symm|exact dcu|exact lk1 (by assumption)|exact lk0 (by assumption)))|fail) ?_)
      refine SG.ret rfl rfl rfl (by repeat' (first | exact True.intro | exact rho_of rfl | refine And.intro ?_ ?_)) (equal_spec q9 q10 hS9.sl hS10.sl (fun y hy => (((hb8 y (List.mem_filter.1 hy).1).1.kp hk9 (fun _ _ _ => List.not_mem_nil)).kt hk10).sl) (fun y hy => (hb10 y hy).1.sl) (came_lt hl8 hl10 hI.came) (Nat.le_trans (List.length_filter_le _ _) (by omega))) (fun w11 hk11 => ?_)
      repeat (first|apply CG.seq|apply CG.region|apply SG.nil|apply NG.next|apply CG.skip|apply CG.block|apply CG.ret|apply CG.exit|apply CG.scope|apply NG.ret_then|apply NG.ret_block|apply NG.ret_scope|apply NG.exit_then|refine NG.exit_block rfl ?_|refine NG.exit_other rfl ?_|apply NG.exit_scope|apply NG.normal_block|apply NG.normal_scope|refine SG.val rfl rfl rfl rfl (by first|((first|apply qmv|apply qas|apply qlc|apply qla|apply qfa|apply qnc|apply qic|apply qix|apply qpk|apply qls|apply qei|apply qni|apply qed|apply qnd|apply qad|apply qln|apply qle|apply qgt|apply qge|apply qlk|apply qlv|apply qxt|apply qsb|apply qnt|apply qep|apply qnp|apply qeb|apply qnb|apply qx2|apply qx4|apply qcv|apply qlm|apply qfr|apply qto|apply qmx|apply qen|apply qsn|apply qx6|apply qx5|apply qx4|apply qx3|apply qx2|apply qx1|apply qx0)<;>(first|exact rfl|exact Ar.mk (by omega)|assumption|exact dct (by assumption)|exact dcf (by assumption)|exact dct (by omega)|exact dcf (by omega)|exact List.not_mem_nil|exact dc_length _|exact nc_length _|exact rc_length _ _ _|exact nm1 (by omega)|exact nm2 (by omega) (by omega)|exact dct rfl|exact dct (by decide)|exact dcf (by decide)|exact (Int.toNat_of_nonneg (by omega)).symm|exact dcu|exact lk1 (by assumption)|exact lk0 (by assumption)))|fail) ?_)
      refine CG.cond_f rfl (by exact rho_of rfl) rfl ?_
      repeat (first|apply CG.seq|apply CG.region|apply SG.nil|apply NG.next|apply CG.skip|apply CG.block|apply CG.ret|apply CG.exit|apply CG.scope|apply NG.ret_then|apply NG.ret_block|apply NG.ret_scope|apply NG.exit_then|refine NG.exit_block rfl ?_|refine NG.exit_other rfl ?_|apply NG.exit_scope|apply NG.normal_block|apply NG.normal_scope|refine SG.val rfl rfl rfl rfl (by first|((first|apply qmv|apply qas|apply qlc|apply qla|apply qfa|apply qnc|apply qic|apply qix|apply qpk|apply qls|apply qei|apply qni|apply qed|apply qnd|apply qad|apply qln|apply qle|apply qgt|apply qge|apply qlk|apply qlv|apply qxt|apply qsb|apply qnt|apply qep|apply qnp|apply qeb|apply qnb|apply qx2|apply qx4|apply qcv|apply qlm|apply qfr|apply qto|apply qmx|apply qen|apply qsn|apply qx6|apply qx5|apply qx4|apply qx3|apply qx2|apply qx1|apply qx0)<;>(first|exact rfl|exact Ar.mk (by omega)|assumption|exact dct (by assumption)|exact dcf (by assumption)|exact dct (by omega)|exact dcf (by omega)|exact List.not_mem_nil|exact dc_length _|exact nc_length _|exact rc_length _ _ _|exact nm1 (by omega)|exact nm2 (by omega) (by omega)|exact dct rfl|exact dct (by decide)|exact dcf (by decide)|exact (Int.toNat_of_nonneg (by omega)).symm|exact dcu|exact lk1 (by assumption)|exact lk0 (by assumption)))|fail) ?_)
      exact NG.round (i + 1, sx.step, sy.step) (by (repeat' (first | exact True.intro | exact rfl | refine And.intro ?_ ?_))) ⟨by show i + 1 ≤ l.length; omega, (hT10.kp0 hk11).symm, hI.step⟩ (by show l.length - (i + 1) < l.length - i; omega)
    · have hJ := hI.cutD hA3 hB3 (v := decide ((x.what.toNat : Int) % 4 = 2)) mine hm
      have h16x : sx.parties ≤ 16 := by rw [hI.px]; omega
      have h16y : sy.parties ≤ 16 := by rw [hI.py]; omega
      repeat (first|apply CG.seq|apply CG.region|apply SG.nil|apply NG.next|apply CG.skip|apply CG.block|apply CG.ret|apply CG.exit|apply CG.scope|apply NG.ret_then|apply NG.ret_block|apply NG.ret_scope|apply NG.exit_then|refine NG.exit_block rfl ?_|refine NG.exit_other rfl ?_|apply NG.exit_scope|apply NG.normal_block|apply NG.normal_scope|refine SG.val rfl rfl rfl rfl (by first|((first|apply qmv|apply qas|apply qlc|apply qla|apply qfa|apply qnc|apply qic|apply qix|apply qpk|apply qls|apply qei|apply qni|apply qed|apply qnd|apply qad|apply qln|apply qle|apply qgt|apply qge|apply qlk|apply qlv|apply qxt|apply qsb|apply qnt|apply qep|apply qnp|apply qeb|apply qnb|apply qx2|apply qx4|apply qcv|apply qlm|apply qfr|apply qto|apply qmx|apply qen|apply qsn|apply qx6|apply qx5|apply qx4|apply qx3|apply qx2|apply qx1|apply qx0)<;>(first|exact rfl|exact Ar.mk (by omega)|assumption|exact dct (by assumption)|exact dcf (by assumption)|exact dct (by omega)|exact dcf (by omega)|exact List.not_mem_nil|exact dc_length _|exact nc_length _|exact rc_length _ _ _|exact nm1 (by omega)|exact nm2 (by omega) (by omega)|exact dct rfl|exact dct (by decide)|exact dcf (by decide)|exact (Int.toNat_of_nonneg (by omega)).symm|exact dcu|exact lk1 (by assumption)|exact lk0 (by assumption)))|fail) ?_)
      refine CG.cond_f rfl (by exact rho_of rfl) rfl ?_
      repeat (first|apply CG.seq|apply CG.region|apply SG.nil|apply NG.next|apply CG.skip|apply CG.block|apply CG.ret|apply CG.exit|apply CG.scope|apply NG.ret_then|apply NG.ret_block|apply NG.ret_scope|apply NG.exit_then|refine NG.exit_block rfl ?_|refine NG.exit_other rfl ?_|apply NG.exit_scope|apply NG.normal_block|apply NG.normal_scope|refine SG.val rfl rfl rfl rfl (by first|((first|apply qmv|apply qas|apply qlc|apply qla|apply qfa|apply qnc|apply qic|apply qix|apply qpk|apply qls|apply qei|apply qni|apply qed|apply qnd|apply qad|apply qln|apply qle|apply qgt|apply qge|apply qlk|apply qlv|apply qxt|apply qsb|apply qnt|apply qep|apply qnp|apply qeb|apply qnb|apply qx2|apply qx4|apply qcv|apply qlm|apply qfr|apply qto|apply qmx|apply qen|apply qsn|apply qx6|apply qx5|apply qx4|apply qx3|apply qx2|apply qx1|apply qx0)<;>(first|exact rfl|exact Ar.mk (by omega)|assumption|exact dct (by assumption)|exact dcf (by assumption)|exact dct (by omega)|exact dcf (by omega)|exact List.not_mem_nil|exact dc_length _|exact nc_length _|exact rc_length _ _ _|exact nm1 (by omega)|exact nm2 (by omega) (by omega)|exact dct rfl|exact dct (by decide)|exact dcf (by decide)|exact (Int.toNat_of_nonneg (by omega)).symm|exact dcu|exact lk1 (by assumption)|exact lk0 (by assumption)))|fail) ?_)
      refine CG.cond_f rfl (by exact rho_of rfl) rfl ?_
      repeat (first|apply CG.seq|apply CG.region|apply SG.nil|apply NG.next|apply CG.skip|apply CG.block|apply CG.ret|apply CG.exit|apply CG.scope|apply NG.ret_then|apply NG.ret_block|apply NG.ret_scope|apply NG.exit_then|refine NG.exit_block rfl ?_|refine NG.exit_other rfl ?_|apply NG.exit_scope|apply NG.normal_block|apply NG.normal_scope|refine SG.val rfl rfl rfl rfl (by first|((first|apply qmv|apply qas|apply qlc|apply qla|apply qfa|apply qnc|apply qic|apply qix|apply qpk|apply qls|apply qei|apply qni|apply qed|apply qnd|apply qad|apply qln|apply qle|apply qgt|apply qge|apply qlk|apply qlv|apply qxt|apply qsb|apply qnt|apply qep|apply qnp|apply qeb|apply qnb|apply qx2|apply qx4|apply qcv|apply qlm|apply qfr|apply qto|apply qmx|apply qen|apply qsn|apply qx6|apply qx5|apply qx4|apply qx3|apply qx2|apply qx1|apply qx0)<;>(first|exact rfl|exact Ar.mk (by omega)|assumption|exact dct (by assumption)|exact dcf (by assumption)|exact dct (by omega)|exact dcf (by omega)|exact List.not_mem_nil|exact dc_length _|exact nc_length _|exact rc_length _ _ _|exact nm1 (by omega)|exact nm2 (by omega) (by omega)|exact dct rfl|exact dct (by decide)|exact dcf (by decide)|exact (Int.toNat_of_nonneg (by omega)).symm|exact dcu|exact lk1 (by assumption)|exact lk0 (by assumption)))|fail) ?_)
      refine SG.call rfl rfl rfl (by repeat' (first | exact True.intro | exact rho_of rfl | refine And.intro ?_ ?_)) ((cut2 hT6 x.A x.B (decide ((x.what.toNat : Int) % 4 = 2)) h16x).mono (fun e w8 h => ?_))
      obtain ⟨he8, hT8, hk8⟩ := h
      refine ⟨_, he8, ?_⟩
      have hB8 := hk8.cells _ _ _ _ (by decide) (by decide) hB6
      obtain ⟨r0, r1, r2, r3, r4⟩ := dd_rows hB8
      repeat (first|apply CG.seq|apply CG.region|apply SG.nil|apply NG.next|apply CG.skip|apply CG.block|apply CG.ret|apply CG.exit|apply CG.scope|apply NG.ret_then|apply NG.ret_block|apply NG.ret_scope|apply NG.exit_then|refine NG.exit_block rfl ?_|refine NG.exit_other rfl ?_|apply NG.exit_scope|apply NG.normal_block|apply NG.normal_scope|refine SG.val rfl rfl rfl rfl (by first|((first|apply qmv|apply qas|apply qlc|apply qla|apply qfa|apply qnc|apply qic|apply qix|apply qpk|apply qls|apply qei|apply qni|apply qed|apply qnd|apply qad|apply qln|apply qle|apply qgt|apply qge|apply qlk|apply qlv|apply qxt|apply qsb|apply qnt|apply qep|apply qnp|apply qeb|apply qnb|apply qx2|apply qx4|apply qcv|apply qlm|apply qfr|apply qto|apply qmx|apply qen|apply qsn|apply qx6|apply qx5|apply qx4|apply qx3|apply qx2|apply qx1|apply qx0)<;>(first|exact rfl|exact Ar.mk (by omega)|assumption|exact dct (by assumption)|exact dcf (by assumption)|exact dct (by omega)|exact dcf (by omega)|exact List.not_mem_nil|exact dc_length _|exact nc_length _|exact rc_length _ _ _|exact nm1 (by omega)|exact nm2 (by omega) (by omega)|exact dct rfl|exact dct (by decide)|exact dcf (by decide)|exact (Int.toNat_of_nonneg (by omega)).symm|exact dcu|exact lk1 (by assumption)|exact lk0 (by assumption)))|fail) ?_)
      cases mine with
      | true =>
        refine CG.cond_t rfl (by exact rho_of rfl) rfl ?_
        repeat (first|apply CG.seq|apply CG.region|apply SG.nil|apply NG.next|apply CG.skip|apply CG.block|apply CG.ret|apply CG.exit|apply CG.scope|apply NG.ret_then|apply NG.ret_block|apply NG.ret_scope|apply NG.exit_then|refine NG.exit_block rfl ?_|refine NG.exit_other rfl ?_|apply NG.exit_scope|apply NG.normal_block|apply NG.normal_scope|refine SG.val rfl rfl rfl rfl (by first|((first|apply qmv|apply qas|apply qlc|apply qla|apply qfa|apply qnc|apply qic|apply qix|apply qpk|apply qls|apply qei|apply qni|apply qed|apply qnd|apply qad|apply qln|apply qle|apply qgt|apply qge|apply qlk|apply qlv|apply qxt|apply qsb|apply qnt|apply qep|apply qnp|apply qeb|apply qnb|apply qx2|apply qx4|apply qcv|apply qlm|apply qfr|apply qto|apply qmx|apply qen|apply qsn|apply qx6|apply qx5|apply qx4|apply qx3|apply qx2|apply qx1|apply qx0)<;>(first|exact rfl|exact Ar.mk (by omega)|assumption|exact dct (by assumption)|exact dcf (by assumption)|exact dct (by omega)|exact dcf (by omega)|exact List.not_mem_nil|exact dc_length _|exact nc_length _|exact rc_length _ _ _|exact nm1 (by omega)|exact nm2 (by omega) (by omega)|exact dct rfl|exact dct (by decide)|exact dcf (by decide)|exact (Int.toNat_of_nonneg (by omega)).symm|exact dcu|exact lk1 (by assumption)|exact lk0 (by assumption)))|fail) ?_)
        refine SG.call rfl rfl rfl (by repeat' (first | exact True.intro | exact rho_of rfl | refine And.intro ?_ ?_)) ((cut2 hT8.symm x.A x.B (decide ((x.what.toNat : Int) % 4 = 2)) h16y).mono (fun e w9 h => ?_))
        obtain ⟨he9, hT9, hk9⟩ := h
        refine ⟨_, he9, ?_⟩
        repeat (first|apply CG.seq|apply CG.region|apply SG.nil|apply NG.next|apply CG.skip|apply CG.block|apply CG.ret|apply CG.exit|apply CG.scope|apply NG.ret_then|apply NG.ret_block|apply NG.ret_scope|apply NG.exit_then|refine NG.exit_block rfl ?_|refine NG.exit_other rfl ?_|apply NG.exit_scope|apply NG.normal_block|apply NG.normal_scope|refine SG.val rfl rfl rfl rfl (by first|((first|apply qmv|apply qas|apply qlc|apply qla|apply qfa|apply qnc|apply qic|apply qix|apply qpk|apply qls|apply qei|apply qni|apply qed|apply qnd|apply qad|apply qln|apply qle|apply qgt|apply qge|apply qlk|apply qlv|apply qxt|apply qsb|apply qnt|apply qep|apply qnp|apply qeb|apply qnb|apply qx2|apply qx4|apply qcv|apply qlm|apply qfr|apply qto|apply qmx|apply qen|apply qsn|apply qx6|apply qx5|apply qx4|apply qx3|apply qx2|apply qx1|apply qx0)<;>(first|exact rfl|exact Ar.mk (by omega)|assumption|exact dct (by assumption)|exact dcf (by assumption)|exact dct (by omega)|exact dcf (by omega)|exact List.not_mem_nil|exact dc_length _|exact nc_length _|exact rc_length _ _ _|exact nm1 (by omega)|exact nm2 (by omega) (by omega)|exact dct rfl|exact dct (by decide)|exact dcf (by decide)|exact (Int.toNat_of_nonneg (by omega)).symm|exact dcu|exact lk1 (by assumption)|exact lk0 (by assumption)))|fail) ?_)
        exact NG.round (i + 1, sx.cutD x.A x.B (decide ((x.what.toNat : Int) % 4 = 2)), sy.cutD x.A x.B (decide ((x.what.toNat : Int) % 4 = 2))) (by (repeat' (first | exact True.intro | exact rfl | refine And.intro ?_ ?_))) ⟨by show i + 1 ≤ l.length; omega, hT9.symm, hJ⟩ (by show l.length - (i + 1) < l.length - i; omega)
      | false =>
        refine CG.cond_f rfl (by exact rho_of rfl) rfl ?_
        repeat (first|apply CG.seq|apply CG.region|apply SG.nil|apply NG.next|apply CG.skip|apply CG.block|apply CG.ret|apply CG.exit|apply CG.scope|apply NG.ret_then|apply NG.ret_block|apply NG.ret_scope|apply NG.exit_then|refine NG.exit_block rfl ?_|refine NG.exit_other rfl ?_|apply NG.exit_scope|apply NG.normal_block|apply NG.normal_scope|refine SG.val rfl rfl rfl rfl (by first|((first|apply qmv|apply qas|apply qlc|apply qla|apply qfa|apply qnc|apply qic|apply qix|apply qpk|apply qls|apply qei|apply qni|apply qed|apply qnd|apply qad|apply qln|apply qle|apply qgt|apply qge|apply qlk|apply qlv|apply qxt|apply qsb|apply qnt|apply qep|apply qnp|apply qeb|apply qnb|apply qx2|apply qx4|apply qcv|apply qlm|apply qfr|apply qto|apply qmx|apply qen|apply qsn|apply qx6|apply qx5|apply qx4|apply qx3|apply qx2|apply qx1|apply qx0)<;>(first|exact rfl|exact Ar.mk (by omega)|assumption|exact dct (by assumption)|exact dcf (by assumption)|exact dct (by omega)|exact dcf (by omega)|exact List.not_mem_nil|exact dc_length _|exact nc_length _|exact rc_length _ _ _|exact nm1 (by omega)|exact nm2 (by omega) (by omega)|exact dct rfl|exact dct (by decide)|exact dcf (by decide)|exact (Int.toNat_of_nonneg (by omega)).symm|exact dcu|exact lk1 (by assumption)|exact lk0 (by assumption)))|fail) ?_)
        exact NG.round (i + 1, sx.cutD x.A x.B (decide ((x.what.toNat : Int) % 4 = 2)), sy) (by (repeat' (first | exact True.intro | exact rfl | refine And.intro ?_ ?_))) ⟨by show i + 1 ≤ l.length; omega, hT8, hJ⟩ (by show l.length - (i + 1) < l.length - i; omega)
  have g1 : ¬ (i : Int) < (l.length : Int) := by omega
  repeat (first|apply CG.seq|apply CG.region|apply SG.nil|apply NG.next|apply CG.skip|apply CG.block|apply CG.ret|apply CG.exit|apply CG.scope|apply NG.ret_then|apply NG.ret_block|apply NG.ret_scope|apply NG.exit_then|refine NG.exit_block rfl ?_|refine NG.exit_other rfl ?_|apply NG.exit_scope|apply NG.normal_block|apply NG.normal_scope|refine SG.val rfl rfl rfl rfl (by first|((first|apply qmv|apply qas|apply qlc|apply qla|apply qfa|apply qnc|apply qic|apply qix|apply qpk|apply qls|apply qei|apply qni|apply qed|apply qnd|apply qad|apply qln|apply qle|apply qgt|apply qge|apply qlk|apply qlv|apply qxt|apply qsb|apply qnt|apply qep|apply qnp|apply qeb|apply qnb|apply qx2|apply qx4|apply qcv|apply qlm|apply qfr|apply qto|apply qmx|apply qen|apply qsn|apply qx6|apply qx5|apply qx4|apply qx3|apply qx2|apply qx1|apply qx0)<;>(first|exact rfl|exact Ar.mk (by omega)|assumption|exact dct (by assumption)|exact dcf (by assumption)|exact dct (by omega)|exact dcf (by omega)|exact List.not_mem_nil|exact dc_length _|exact nc_length _|exact rc_length _ _ _|exact nm1 (by omega)|exact nm2 (by omega) (by omega)|exact dct rfl|exact dct (by decide)|exact dcf (by decide)|exact (Int.toNat_of_nonneg (by omega)).symm|exact dcu|exact lk1 (by assumption)|exact lk0 (by assumption)))|fail) ?_)
  refine CG.cond_f rfl (by exact rho_of rfl) rfl ?_
  repeat (first|apply CG.seq|apply CG.region|apply SG.nil|apply NG.next|apply CG.skip|apply CG.block|apply CG.ret|apply CG.exit|apply CG.scope|apply NG.ret_then|apply NG.ret_block|apply NG.ret_scope|apply NG.exit_then|refine NG.exit_block rfl ?_|refine NG.exit_other rfl ?_|apply NG.exit_scope|apply NG.normal_block|apply NG.normal_scope|refine SG.val rfl rfl rfl rfl (by first|((first|apply qmv|apply qas|apply qlc|apply qla|apply qfa|apply qnc|apply qic|apply qix|apply qpk|apply qls|apply qei|apply qni|apply qed|apply qnd|apply qad|apply qln|apply qle|apply qgt|apply qge|apply qlk|apply qlv|apply qxt|apply qsb|apply qnt|apply qep|apply qnp|apply qeb|apply qnb|apply qx2|apply qx4|apply qcv|apply qlm|apply qfr|apply qto|apply qmx|apply qen|apply qsn|apply qx6|apply qx5|apply qx4|apply qx3|apply qx2|apply qx1|apply qx0)<;>(first|exact rfl|exact Ar.mk (by omega)|assumption|exact dct (by assumption)|exact dcf (by assumption)|exact dct (by omega)|exact dcf (by omega)|exact List.not_mem_nil|exact dc_length _|exact nc_length _|exact rc_length _ _ _|exact nm1 (by omega)|exact nm2 (by omega) (by omega)|exact dct rfl|exact dct (by decide)|exact dcf (by decide)|exact (Int.toNat_of_nonneg (by omega)).symm|exact dcu|exact lk1 (by assumption)|exact lk0 (by assumption)))|fail) ?_)
  refine SG.ret rfl rfl rfl (by repeat' (first | exact True.intro | exact rho_of rfl | refine And.intro ?_ ?_)) (told_spec w4) (fun w5 hk5 => ?_)
  repeat (first|apply CG.seq|apply CG.region|apply SG.nil|apply NG.next|apply CG.skip|apply CG.block|apply CG.ret|apply CG.exit|apply CG.scope|apply NG.ret_then|apply NG.ret_block|apply NG.ret_scope|apply NG.exit_then|refine NG.exit_block rfl ?_|refine NG.exit_other rfl ?_|apply NG.exit_scope|apply NG.normal_block|apply NG.normal_scope|refine SG.val rfl rfl rfl rfl (by first|((first|apply qmv|apply qas|apply qlc|apply qla|apply qfa|apply qnc|apply qic|apply qix|apply qpk|apply qls|apply qei|apply qni|apply qed|apply qnd|apply qad|apply qln|apply qle|apply qgt|apply qge|apply qlk|apply qlv|apply qxt|apply qsb|apply qnt|apply qep|apply qnp|apply qeb|apply qnb|apply qx2|apply qx4|apply qcv|apply qlm|apply qfr|apply qto|apply qmx|apply qen|apply qsn|apply qx6|apply qx5|apply qx4|apply qx3|apply qx2|apply qx1|apply qx0)<;>(first|exact rfl|exact Ar.mk (by omega)|assumption|exact dct (by assumption)|exact dcf (by assumption)|exact dct (by omega)|exact dcf (by omega)|exact List.not_mem_nil|exact dc_length _|exact nc_length _|exact rc_length _ _ _|exact nm1 (by omega)|exact nm2 (by omega) (by omega)|exact dct rfl|exact dct (by decide)|exact dcf (by decide)|exact (Int.toNat_of_nonneg (by omega)).symm|exact dcu|exact lk1 (by assumption)|exact lk0 (by assumption)))|fail) ?_)
  refine ret1 (Or.inl rfl) Try.results8 (by first | exact ResV.tmp rfl | exact ResV.agg rfl rfl (by assumption) (by first | exact dc_length _ | exact nc_length _ | exact rc_length _ _ _ | rfl) | exact ResV.cell rfl rfl (by assumption)) ?_
  exact ⟨rfl, (hk1.trans hT4.kp).trans hk5⟩
end Go.Proofs.Ytfelaicoedlejaa
