/-
  NetActs answers true for every input, and leaves its arguments as they were. No conditions.
-/
import Derived.Test.YtfelaicoedlejaaQa4
/-
  A deed is done on both.
-/
namespace Go.Proofs.Ytfelaicoedlejaa
set_option linter.unusedVariables false

theorem inc_one (z : Int) : allOne (inc z) = true := rfl
theorem sl_own {α : Type} {enc : α → List Value} {sz : Nat} (he : ∀ x, (enc x).length = sz) {w : World} {base : Nat} {T : TypeId} {a : Option Addr} {c : Nat} {l : List α} (h : w.ownsRow base T sz (.slice a l.length c) l.length (flt enc l)) : Sl enc sz w a l := by
  obtain ⟨a', c', e, _, hS⟩ := Sl.own he h rfl
  cases e
  exact hS
theorem RnAt.kpb {w w' : World} {r : Rn} {v u : Value} (h : RnAt w r v u) {z : Nat} {cs : Array Value} (hz : Blk w z (.cells cs 47)) (hk : Kp [z] w w') : RnAt w' r v u := by
  refine ⟨own_kp h.way hk (fun b hb hm => ?_), own_kp h.cuts hk (fun b hb hm => ?_)⟩
  · rw [List.mem_singleton] at hm
    subst hm
    obtain ⟨cs', hc⟩ := own_blk h.way hb
    exact ne_ty (by decide) hz hc rfl
  · rw [List.mem_singleton] at hm
    subst hm
    obtain ⟨cs', hc⟩ := own_blk h.cuts hb
    exact ne_ty (by decide) hz hc rfl
theorem send1 {w0 w : World} {bt bm : Nat} {s : Ns} (h : At w0 w bt bm s) (hnow : s.now ≤ 1000000000000) (hsent : s.sent ≤ 1000000000000) (hpl : s.pend.length ≤ 4096) (A B : Int) (ab : Option Addr) (cb : Nat) (bs : List UInt8) (hSb : Sl byc 1 w ab bs) (al : Option Addr) (cl : Nat) (later : List Int)
    (hS : ∀ w', Kt bm w w' → SlI w' al later) (hl : later.length ≤ 100000) (hb : bs.length ≤ 1000000) : Calls Try.prog 13 #[.pointer (some ⟨bt, 0, none⟩), lv A B ab bs.length cb, fv al later.length cl] w (fun e w' => e = .returned (.int .i64 (s.sendE A B bs.length later)) ∧ At w0 w' bt bm (s.sendD A B bs later) ∧ Kt bm w w') := by
  by_cases hE : s.sendE A B bs.length later = 0
  · obtain ⟨a1, a2, a3, a4⟩ := sendE_dec hE
    obtain ⟨A, rfl⟩ : ∃ k : Nat, A = (k : Int) := ⟨A.toNat, by omega⟩
    obtain ⟨B, rfl⟩ : ∃ k : Nat, B = (k : Int) := ⟨B.toNat, by omega⟩
    refine (send_at h hnow hsent A B ab cb bs hSb al cl later (fun w' hk _ => hS w' hk) hE).mono (fun e w' h => ?_)
    obtain ⟨he, hA, hk⟩ := h
    refine ⟨by rw [hE]; exact he, ?_, hk⟩
    unfold Ns.sendD
    rw [if_pos hE]
    exact hA
  · refine (send_no h (by omega) A B ab bs.length cb al cl later (hS w (Kt.of0 (Kp.refl _ _))) hl (by omega) hE).mono (fun e w' h' => ?_)
    obtain ⟨he, hk⟩ := h'
    refine ⟨he, ?_, Kt.of0 hk⟩
    unfold Ns.sendD
    rw [if_neg hE]
    exact h.kp0 hk
theorem cut1 {w0 w : World} {bt bm : Nat} {s : Ns} (h : At w0 w bt bm s) (A B : Int) (b : Bool) (h16 : s.parties ≤ 16) : Calls Try.prog 18 #[.pointer (some ⟨bt, 0, none⟩), .int .i64 A, .int .i64 B, .bool b] w (fun e w' => e = .returned (.int .i64 (s.cutE A B)) ∧ At w0 w' bt bm (s.cutD A B b) ∧ Kt bm w w') := by
  by_cases hE : ¬ (0 ≤ A ∧ A < s.parties) ∨ ¬ (0 ≤ B ∧ B < s.parties)
  · have h' := h
    obtain ⟨h1, due, h2, h3⟩ := h
    refine (cut_bad h2 A B b hE).mono (fun e w' hh => ?_)
    obtain ⟨he, hk⟩ := hh
    have e28 : s.cutE A B = 28 := by unfold Ns.cutE; rw [if_pos hE]
    refine ⟨by rw [e28]; exact he, ?_, Kt.of0 hk⟩
    unfold Ns.cutD
    rw [if_neg (by rw [e28]; decide)]
    exact h'.kp0 hk
  · obtain ⟨A, rfl⟩ : ∃ k : Nat, A = (k : Int) := ⟨A.toNat, by omega⟩
    obtain ⟨B, rfl⟩ : ∃ k : Nat, B = (k : Int) := ⟨B.toNat, by omega⟩
    refine (cut_at h A B b h16 (by omega) (by omega)).mono (fun e w' hh => ?_)
    obtain ⟨he, hA, hk⟩ := hh
    have e0 : s.cutE A B = 0 := by unfold Ns.cutE; rw [if_neg hE]
    refine ⟨by rw [e0]; exact he, ?_, hk⟩
    unfold Ns.cutD
    rw [if_pos e0]
    exact hA
/-- The reference, whatever is sent. -/
def Rn.sendD (r : Rn) (A B : Int) (bs : List UInt8) (later : List Int) : Rn := if r.sendE A B bs.length later = 0 then r.send A.toNat B.toNat bs later else r
theorem rsend {w : World} {r : Rn} {v u : Value} (hR : RnAt w r v u) (ok : RnOk r) (A B : Int) (bs : List UInt8) (al : Option Addr) (cl : Nat) (later : List Int) (hS : SlI w al later) (hl : later.length ≤ 100000) :
    Calls Try.prog 35 #[.agg (rcl r v u).toArray, .int .i64 A, .int .i64 B, sv bs, .slice al later.length cl] w (fun e w' => ∃ v', e = .returned (.tuple #[.agg (rcl (r.sendD A B bs later) v' u).toArray, .int .i64 (r.sendE A B bs.length later)]) ∧ RnAt w' (r.sendD A B bs later) v' u ∧ Kp [] w w') := by
  by_cases hE : r.sendE A B bs.length later = 0
  · obtain ⟨a1, a2, a3, a4⟩ := sendE_dec (s := r.toNs) hE
    obtain ⟨A, rfl⟩ : ∃ k : Nat, A = (k : Int) := ⟨A.toNat, by omega⟩
    obtain ⟨B, rfl⟩ : ∃ k : Nat, B = (k : Int) := ⟨B.toNat, by omega⟩
    refine (rsend_good hR ok A B bs al cl later hS hE).mono (fun e w' h => ?_)
    have ed : r.sendD A B bs later = r.send A B bs later := by unfold Rn.sendD; rw [if_pos hE]; rfl
    rw [ed, hE]
    exact h
  · refine (rsend_bad hR ok A B bs al cl later hS hl hE).mono (fun e w' h => ?_)
    have ed : r.sendD A B bs later = r := by unfold Rn.sendD; rw [if_neg hE]
    rw [ed]
    obtain ⟨he, hk⟩ := h
    exact ⟨v, he, hR.kp0 hk, hk⟩
def Rn.cutE (r : Rn) (A B : Int) : Int := r.toNs.cutE A B
def Rn.cutD (r : Rn) (A B : Int) (b : Bool) : Rn := if r.cutE A B = 0 then r.cut A.toNat B.toNat b else r
theorem rcutD {w : World} {r : Rn} {v u : Value} (hR : RnAt w r v u) (ok : RnOk r) (A B : Int) (b : Bool) :
    Calls Try.prog 38 #[.agg (rcl r v u).toArray, .int .i64 A, .int .i64 B, .bool b] w (fun e w' => ∃ u', e = .returned (.tuple #[.agg (rcl (r.cutD A B b) v u').toArray, .int .i64 (r.cutE A B)]) ∧ RnAt w' (r.cutD A B b) v u' ∧ Kp [] w w') := by
  by_cases hE : ¬ (0 ≤ A ∧ A < (r.parties : Int)) ∨ ¬ (0 ≤ B ∧ B < (r.parties : Int))
  · have e28 : r.cutE A B = 28 := by unfold Rn.cutE Ns.cutE; exact if_pos hE
    have ed : r.cutD A B b = r := by unfold Rn.cutD; rw [if_neg (by rw [e28]; decide)]
    refine (rcut_bad hR A B b hE).mono (fun e w' h => ?_)
    obtain ⟨he, hk⟩ := h
    rw [ed, e28]
    exact ⟨u, he, hR.kp0 hk, hk⟩
  · have e0 : r.cutE A B = 0 := by unfold Rn.cutE Ns.cutE; exact if_neg hE
    obtain ⟨A, rfl⟩ : ∃ k : Nat, A = (k : Int) := ⟨A.toNat, by omega⟩
    obtain ⟨B, rfl⟩ : ∃ k : Nat, B = (k : Int) := ⟨B.toNat, by omega⟩
    have ed : r.cutD A B b = r.cut A B b := by unfold Rn.cutD; rw [if_pos e0]; rfl
    refine (rcut_good hR ok A B b (by omega) (by omega)).mono (fun e w' h => ?_)
    rw [ed, e0]
    exact h
theorem Rel.sendD {i : Nat} {s : Ns} {r : Rn} (h : Rel i s r) {A B : Int} {bs : List UInt8} {later : List Int} : Rel (i + 1) (s.sendD A B bs later) (r.sendD A B bs later) := by
  unfold Ns.sendD Rn.sendD
  rw [h.sendE]
  by_cases hE : s.sendE A B bs.length later = 0
  · rw [if_pos hE, if_pos hE]
    obtain ⟨a1, a2, a3, a4⟩ := sendE_dec hE
    obtain ⟨A, rfl⟩ : ∃ k : Nat, A = (k : Int) := ⟨A.toNat, by omega⟩
    obtain ⟨B, rfl⟩ : ∃ k : Nat, B = (k : Int) := ⟨B.toNat, by omega⟩
    exact h.send hE
  · rw [if_neg hE, if_neg hE]
    exact h.up (by omega)
theorem Rel.cutE {i : Nat} {s : Ns} {r : Rn} (h : Rel i s r) (A B : Int) : r.cutE A B = s.cutE A B := by
  unfold Rn.cutE Ns.cutE
  show (if ¬ (0 ≤ A ∧ A < (r.parties : Int)) ∨ ¬ (0 ≤ B ∧ B < (r.parties : Int)) then (28 : Int) else 0) = _
  rw [← h.p]
theorem Rel.cutD {i : Nat} {s : Ns} {r : Rn} (h : Rel i s r) {A B : Int} {b : Bool} : Rel (i + 1) (s.cutD A B b) (r.cutD A B b) := by
  unfold Ns.cutD Rn.cutD
  rw [h.cutE]
  by_cases hE : ¬ (0 ≤ A ∧ A < (s.parties : Int)) ∨ ¬ (0 ≤ B ∧ B < (s.parties : Int))
  · have e28 : s.cutE A B = 28 := by unfold Ns.cutE; rw [if_pos hE]
    rw [if_neg (by rw [e28]; decide), if_neg (by rw [e28]; decide)]
    exact h.up (by omega)
  · have e0 : s.cutE A B = 0 := by unfold Ns.cutE; rw [if_neg hE]
    rw [if_pos e0, if_pos e0]
    exact h.cutS (by omega) (by omega) b
theorem dd_rows {w : World} {b : Nat} {x : Dd} (h : Blk w b (.cells (dcl x).toArray 58)) : Row w b 0 [bv x.what] ∧ Row w b 1 [.int .i64 x.A] ∧ Row w b 2 [.int .i64 x.B] ∧ Row w b 3 [sv x.bs] ∧ Row w b 4 [.slice x.a x.later.length x.c] :=
  ⟨Row.of h [] [.int .i64 x.A, .int .i64 x.B, sv x.bs, .slice x.a x.later.length x.c] rfl rfl, Row.of h [bv x.what] [.int .i64 x.B, sv x.bs, .slice x.a x.later.length x.c] rfl rfl, Row.of h [bv x.what, .int .i64 x.A] [sv x.bs, .slice x.a x.later.length x.c] rfl rfl,
    Row.of h [bv x.what, .int .i64 x.A, .int .i64 x.B] [.slice x.a x.later.length x.c] rfl rfl, Row.of h [bv x.what, .int .i64 x.A, .int .i64 x.B, sv x.bs] [] rfl rfl⟩
theorem build35d (w : World) (f t : Int) (a : Option Addr) (n c : Nat) : (Instr.build 35 #[(0, Value.int .i64 f), (1, Value.int .i64 t), (2, Value.slice a n c)]).run Try.prog w = .ok (.agg #[.int .i64 f, .int .i64 t, .slice a n c]) w := by kernel_rfl
/-- What a call of the reference promises. -/
def gR (r : Rn) (k : Int) (u : Value) : GD := ⟨Value, undef, fun v => .tuple #[.agg (rcl r v u).toArray, .int .i64 k], fun v w => RnAt w r v u⟩
theorem gR_stab {r : Rn} {k : Int} {u : Value} (x : (gR r k u).X) : Stab [] ((gR r k u).phi x) := fun w w' hk h => RnAt.kp0 h hk
def gR' (r : Rn) (k : Int) (v : Value) : GD := ⟨Value, undef, fun u => .tuple #[.agg (rcl r v u).toArray, .int .i64 k], fun u w => RnAt w r v u⟩
theorem gR'_stab {r : Rn} {k : Int} {v : Value} (x : (gR' r k v).X) : Stab [] ((gR' r k v).phi x) := fun w w' hk h => RnAt.kp0 h hk
end Go.Proofs.Ytfelaicoedlejaa
/-
  A deed is done on both: the walk.
-/
namespace Go.Proofs.Ytfelaicoedlejaa
set_option linter.unusedVariables false

attribute [local irreducible] CG NG SG Vals Der Row Blk MapIs IterAt DerX sv
set_option maxHeartbeats 32000000 in
theorem do_spec {w0 w : World} {bt bm : Nat} {s : Ns} (h : At w0 w bt bm s) {bw : Nat} {r : Rn} {v u : Value} (hB : Blk w bw (.cells (rcl r v u).toArray 47)) (hbw : w0.heap.size ≤ bw) (hR : RnAt w r v u) {i : Nat} (rel : Rel i s r) (hi : i ≤ 150) (d : Dd) (hd : d.bs.length ≤ 100 ∧ d.later.length ≤ 20) (hSd : SlI w0 d.a d.later) :
    Calls Try.prog 23 #[.pointer (some ⟨bt, 0, none⟩), .pointer (some ⟨bw, 0, none⟩), .agg (dcl d).toArray] w (fun e w' => ∃ s' r' v' u', e = .returned (.bool true) ∧ At w0 w' bt bm s' ∧ Blk w' bw (.cells (rcl r' v' u').toArray 47) ∧ RnAt w' r' v' u' ∧ Rel (i + 1) s' r') := by
  refine enter3 Try.func23 rfl Try.ntmps23 rfl ?_
  have ok := rel.ok (by omega)
  have hn1 := rel.nle
  have hn2 := rel.sent
  have hn3 := rel.len
  have hone := hR.one
  obtain ⟨hd1, hd2⟩ := hd
  repeat (first|apply CG.seq|apply CG.region|apply SG.nil|apply NG.next|apply CG.skip|apply CG.block|apply CG.ret|apply CG.exit|apply CG.scope|apply NG.ret_then|apply NG.ret_block|apply NG.ret_scope|apply NG.exit_then|refine NG.exit_block rfl ?_|refine NG.exit_other rfl ?_|apply NG.exit_scope|apply NG.normal_block|apply NG.normal_scope|refine SG.val rfl rfl rfl rfl (by first|((first|apply qmv|apply qas|apply qlc|apply qla|apply qfa|apply qnc|apply qic|apply qix|apply qpk|apply qls|apply qei|apply qni|apply qed|apply qnd|apply qad|apply qln|apply qle|apply qgt|apply qge|apply qlk|apply qlv|apply qxt|apply qsb|apply qnt|apply qep|apply qnp|apply qeb|apply qnb|apply qx2|apply qx4|apply qcv|apply qlm|apply qfr|apply qto|apply qmx|apply qen|apply qsn|apply qx8|apply qx7|apply qx6|apply qx5|apply qx4|apply qx3|apply qx2|apply qx1|apply qx0)<;>(first|exact rfl|exact Ar.mk (by omega)|assumption|exact dct (by assumption)|exact dcf (by assumption)|exact dct (by omega)|exact dcf (by omega)|exact List.not_mem_nil|exact dc_length _|exact nc_length _|exact rc_length _ _ _|exact nm1 (by omega)|exact nm2 (by omega) (by omega)|exact dct rfl|exact dct (by decide)|exact dcf (by decide)|exact (Int.toNat_of_nonneg (by omega)).symm|exact dcu|exact lk1 (by assumption)|exact lk0 (by assumption)))|fail) ?_)
  refine SG.box rfl rfl rfl (by exact rho_of rfl) (fun b5 w1 hk1 hb5 hB5 => ?_)
  have hB5 : Blk w1 b5 (.cells (dcl d).toArray 58) := hB5
  have h1 := h.kp0 hk1
  have hB1 := hB.kp0 hk1
  have hR1 := hR.kp0 hk1
  obtain ⟨r0, r1, r2, r3, r4⟩ := dd_rows hB5
  have hw4 : (d.what.toNat : Int) % 4 = 0 ∨ (d.what.toNat : Int) % 4 = 1 ∨ (¬ (d.what.toNat : Int) % 4 = 0 ∧ ¬ (d.what.toNat : Int) % 4 = 1) := by omega
  rcases hw4 with k0 | k0 | ⟨k0, k1⟩
  · repeat (first|apply CG.seq|apply CG.region|apply SG.nil|apply NG.next|apply CG.skip|apply CG.block|apply CG.ret|apply CG.exit|apply CG.scope|apply NG.ret_then|apply NG.ret_block|apply NG.ret_scope|apply NG.exit_then|refine NG.exit_block rfl ?_|refine NG.exit_other rfl ?_|apply NG.exit_scope|apply NG.normal_block|apply NG.normal_scope|refine SG.val rfl rfl rfl rfl (by first|((first|apply qmv|apply qas|apply qlc|apply qla|apply qfa|apply qnc|apply qic|apply qix|apply qpk|apply qls|apply qei|apply qni|apply qed|apply qnd|apply qad|apply qln|apply qle|apply qgt|apply qge|apply qlk|apply qlv|apply qxt|apply qsb|apply qnt|apply qep|apply qnp|apply qeb|apply qnb|apply qx2|apply qx4|apply qcv|apply qlm|apply qfr|apply qto|apply qmx|apply qen|apply qsn|apply qx8|apply qx7|apply qx6|apply qx5|apply qx4|apply qx3|apply qx2|apply qx1|apply qx0)<;>(first|exact rfl|exact Ar.mk (by omega)|assumption|exact dct (by assumption)|exact dcf (by assumption)|exact dct (by omega)|exact dcf (by omega)|exact List.not_mem_nil|exact dc_length _|exact nc_length _|exact rc_length _ _ _|exact nm1 (by omega)|exact nm2 (by omega) (by omega)|exact dct rfl|exact dct (by decide)|exact dcf (by decide)|exact (Int.toNat_of_nonneg (by omega)).symm|exact dcu|exact lk1 (by assumption)|exact lk0 (by assumption)))|fail) ?_)
    refine CG.cond_t rfl (by exact rho_of rfl) rfl ?_
    repeat (first|apply CG.seq|apply CG.region|apply SG.nil|apply NG.next|apply CG.skip|apply CG.block|apply CG.ret|apply CG.exit|apply CG.scope|apply NG.ret_then|apply NG.ret_block|apply NG.ret_scope|apply NG.exit_then|refine NG.exit_block rfl ?_|refine NG.exit_other rfl ?_|apply NG.exit_scope|apply NG.normal_block|apply NG.normal_scope|refine SG.val rfl rfl rfl rfl (by first|((first|apply qmv|apply qas|apply qlc|apply qla|apply qfa|apply qnc|apply qic|apply qix|apply qpk|apply qls|apply qei|apply qni|apply qed|apply qnd|apply qad|apply qln|apply qle|apply qgt|apply qge|apply qlk|apply qlv|apply qxt|apply qsb|apply qnt|apply qep|apply qnp|apply qeb|apply qnb|apply qx2|apply qx4|apply qcv|apply qlm|apply qfr|apply qto|apply qmx|apply qen|apply qsn|apply qx8|apply qx7|apply qx6|apply qx5|apply qx4|apply qx3|apply qx2|apply qx1|apply qx0)<;>(first|exact rfl|exact Ar.mk (by omega)|assumption|exact dct (by assumption)|exact dcf (by assumption)|exact dct (by omega)|exact dcf (by omega)|exact List.not_mem_nil|exact dc_length _|exact nc_length _|exact rc_length _ _ _|exact nm1 (by omega)|exact nm2 (by omega) (by omega)|exact dct rfl|exact dct (by decide)|exact dcf (by decide)|exact (Int.toNat_of_nonneg (by omega)).symm|exact dcu|exact lk1 (by assumption)|exact lk0 (by assumption)))|fail) ?_)
    refine CG.free mixed 14 [0, 1, 2, 3, 4, 5, 6, 10, 11, 7, 8, 9, 12, 13] [(7, gT d.bs (fun v => v)), (8, gT d.bs (fun v => .agg #[.int .i64 d.A, .int .i64 d.B, v])), (9, gE w1.heap.size 3), (12, gOP w1.heap.size 3 inc 1 d.later (fun v => v)), (13, gOP w1.heap.size 3 inc 1 d.later (fun v => .agg #[v]))] (by kernel_rfl) (by intro p hp y; simp at hp; rcases hp with rfl | rfl | rfl | rfl | rfl; exact gT_stab y; exact gT_stab y; exact gE_stab y; exact gOP_stab y; exact gOP_stab y) ?_
    repeat (refine DerX.val rfl rfl rfl rfl (by first|((first|apply qmv|apply qas|apply qlc|apply qla|apply qfa|apply qnc|apply qic|apply qix|apply qpk|apply qls|apply qei|apply qni|apply qed|apply qnd|apply qad|apply qln|apply qle|apply qgt|apply qge|apply qlk|apply qlv|apply qxt|apply qsb|apply qnt|apply qep|apply qnp|apply qeb|apply qnb|apply qx2|apply qx4|apply qcv|apply qlm|apply qfr|apply qto|apply qmx|apply qen|apply qsn|apply qx8|apply qx7|apply qx6|apply qx5|apply qx4|apply qx3|apply qx2|apply qx1|apply qx0)<;>(first|exact rfl|exact Ar.mk (by omega)|assumption|exact dct (by assumption)|exact dcf (by assumption)|exact dct (by omega)|exact dcf (by omega)|exact List.not_mem_nil|exact dc_length _|exact nc_length _|exact rc_length _ _ _|exact nm1 (by omega)|exact nm2 (by omega) (by omega)|exact dct rfl|exact dct (by decide)|exact dcf (by decide)|exact (Int.toNat_of_nonneg (by omega)).symm|exact dcu|exact lk1 (by assumption)|exact lk0 (by assumption)))|fail) ?_)
    refine DerX.strB rfl rfl rfl rfl rfl (fun b7 c7 => ?_)
    refine DerX.wrapT b7 c7 rfl rfl rfl rfl (vals_build rfl (fun w => build35d w d.A d.B (some ⟨b7, 0, none⟩) d.bs.length c7)) rfl (fun w hk hF => hF _ (.head _) (by kernel_rfl)) (fun b8 c8 => ?_)
    refine DerX.empty rfl rfl rfl (Nat.le_refl _) (fun b9 => ?_)
    refine DerX.cloneP d.later inc_length inc_one rfl rfl rfl rfl (by exact rho_of rfl) (by exact rho_of rfl) rfl rfl rfl (by simp only [maxLen]; omega) (by show d.later.length * 8 ≤ _; omega) (fun w hk hF => ⟨(hSd.kp0 h1.kp).kp0 hk, hF _ (.head _) (by kernel_rfl)⟩) (fun a12 c12 => ?_)
    refine DerX.wrapP a12 c12 rfl rfl rfl rfl (vals_build rfl (fun w => build31 w a12 d.later.length c12)) rfl (fun w hk hF => hF _ (.head _) (by kernel_rfl)) (fun a13 c13 => ?_)
    refine DerX.tl (fun w2 hk2 hF => ?_)
    have hown : w2.ownsRow w1.heap.size 3 1 (.slice a13 d.later.length c13) d.later.length (flt inc d.later) := hF _ (.head _)
    have hS8 : Sl byc 1 w2 (some ⟨b8, 0, none⟩) d.bs := hF _ (.tail _ (.tail _ (.tail _ (.head _))))
    clear hF
    refine SG.call rfl rfl rfl (by repeat' (first | exact True.intro | exact rho_of rfl | refine And.intro ?_ ?_)) ((send1 (h1.kp0 hk2) (by omega) (by omega) (by omega) d.A d.B (some ⟨b8, 0, none⟩) c8 d.bs hS8 a13 c13 d.later (fun w' hk => sl_own inc_length (own_kt hown hk (by decide) (by decide))) (by omega) (by omega)).mono (fun e w3 hh => ?_))
    obtain ⟨he3, h3, hk3⟩ := hh
    refine ⟨_, he3, ?_⟩
    have hB3 := hk3.cells _ _ _ _ (by decide) (by decide) (hB1.kp0 hk2)
    have hB53 := hk3.cells _ _ _ _ (by decide) (by decide) (hB5.kp0 hk2)
    have hR3 := (hR1.kp0 hk2).kt hk3
    obtain ⟨r0, r1, r2, r3, r4⟩ := dd_rows hB53
    obtain ⟨_, _, _, _, q4⟩ := rows47 hB3
    repeat (first|apply CG.seq|apply CG.region|apply SG.nil|apply NG.next|apply CG.skip|apply CG.block|apply CG.ret|apply CG.exit|apply CG.scope|apply NG.ret_then|apply NG.ret_block|apply NG.ret_scope|apply NG.exit_then|refine NG.exit_block rfl ?_|refine NG.exit_other rfl ?_|apply NG.exit_scope|apply NG.normal_block|apply NG.normal_scope|refine SG.val rfl rfl rfl rfl (by first|((first|apply qmv|apply qas|apply qlc|apply qla|apply qfa|apply qnc|apply qic|apply qix|apply qpk|apply qls|apply qei|apply qni|apply qed|apply qnd|apply qad|apply qln|apply qle|apply qgt|apply qge|apply qlk|apply qlv|apply qxt|apply qsb|apply qnt|apply qep|apply qnp|apply qeb|apply qnb|apply qx2|apply qx4|apply qcv|apply qlm|apply qfr|apply qto|apply qmx|apply qen|apply qsn|apply qx8|apply qx7|apply qx6|apply qx5|apply qx4|apply qx3|apply qx2|apply qx1|apply qx0)<;>(first|exact rfl|exact Ar.mk (by omega)|assumption|exact dct (by assumption)|exact dcf (by assumption)|exact dct (by omega)|exact dcf (by omega)|exact List.not_mem_nil|exact dc_length _|exact nc_length _|exact rc_length _ _ _|exact nm1 (by omega)|exact nm2 (by omega) (by omega)|exact dct rfl|exact dct (by decide)|exact dcf (by decide)|exact (Int.toNat_of_nonneg (by omega)).symm|exact dcu|exact lk1 (by assumption)|exact lk0 (by assumption)))|fail) ?_)
    refine CG.free mixed 17 [0, 1, 2, 3, 4, 5, 6, 7, 8, 9, 10, 11, 12, 13, 14, 15, 16] [(11, gR (r.sendD d.A d.B d.bs d.later) (r.sendE d.A d.B d.bs.length d.later) u), (15, gV w3.heap.size 47 4), (16, gP w3.heap.size 47)] (by kernel_rfl) (by intro p hp y; simp at hp; rcases hp with rfl | rfl | rfl; exact gR_stab y; exact gV_stab y; exact gP_stab y) ?_
    repeat (refine DerX.val rfl rfl rfl rfl (by first|((first|apply qmv|apply qas|apply qlc|apply qla|apply qfa|apply qnc|apply qic|apply qix|apply qpk|apply qls|apply qei|apply qni|apply qed|apply qnd|apply qad|apply qln|apply qle|apply qgt|apply qge|apply qlk|apply qlv|apply qxt|apply qsb|apply qnt|apply qep|apply qnp|apply qeb|apply qnb|apply qx2|apply qx4|apply qcv|apply qlm|apply qfr|apply qto|apply qmx|apply qen|apply qsn|apply qx8|apply qx7|apply qx6|apply qx5|apply qx4|apply qx3|apply qx2|apply qx1|apply qx0)<;>(first|exact rfl|exact Ar.mk (by omega)|assumption|exact dct (by assumption)|exact dcf (by assumption)|exact dct (by omega)|exact dcf (by omega)|exact List.not_mem_nil|exact dc_length _|exact nc_length _|exact rc_length _ _ _|exact nm1 (by omega)|exact nm2 (by omega) (by omega)|exact dct rfl|exact dct (by decide)|exact dcf (by decide)|exact (Int.toNat_of_nonneg (by omega)).symm|exact dcu|exact lk1 (by assumption)|exact lk0 (by assumption)))|fail) ?_)
    refine DerX.callE (gR (r.sendD d.A d.B d.bs d.later) (r.sendE d.A d.B d.bs.length d.later) u) rfl rfl rfl rfl (by repeat' (first | exact True.intro | exact rho_of rfl | refine And.intro ?_ ?_)) (fun w hk _ => (rsend (hR3.kp0 hk) ok d.A d.B d.bs d.a d.c d.later ((hSd.kp0 h3.kp).kp0 hk) (by omega)).mono (fun e w' ⟨v', g1, g2, g3⟩ => ⟨v', g1, g2, g3⟩)) (fun v' => ?_)
    repeat (refine DerX.val rfl rfl rfl rfl (by first|((first|apply qmv|apply qas|apply qlc|apply qla|apply qfa|apply qnc|apply qic|apply qix|apply qpk|apply qls|apply qei|apply qni|apply qed|apply qnd|apply qad|apply qln|apply qle|apply qgt|apply qge|apply qlk|apply qlv|apply qxt|apply qsb|apply qnt|apply qep|apply qnp|apply qeb|apply qnb|apply qx2|apply qx4|apply qcv|apply qlm|apply qfr|apply qto|apply qmx|apply qen|apply qsn|apply qx8|apply qx7|apply qx6|apply qx5|apply qx4|apply qx3|apply qx2|apply qx1|apply qx0)<;>(first|exact rfl|exact Ar.mk (by omega)|assumption|exact dct (by assumption)|exact dcf (by assumption)|exact dct (by omega)|exact dcf (by omega)|exact List.not_mem_nil|exact dc_length _|exact nc_length _|exact rc_length _ _ _|exact nm1 (by omega)|exact nm2 (by omega) (by omega)|exact dct rfl|exact dct (by decide)|exact dcf (by decide)|exact (Int.toNat_of_nonneg (by omega)).symm|exact dcu|exact lk1 (by assumption)|exact lk0 (by assumption)))|fail) ?_)
    refine DerX.allocV rfl rfl rfl rfl rfl (Nat.le_refl _) (fun b15 => ?_)
    refine DerX.storeV (l := rcl (r.sendD d.A d.B d.bs d.later) v' u) rfl rfl rfl rfl (by kernel_rfl) (by exact rho_of rfl) (by exact rho_of rfl) rfl (Nat.le_refl _) (fun w hk hF => ⟨hF _ (.head _) (by kernel_rfl), RnAt.one (w := w) (hF _ (.tail _ (.head _)) (by kernel_rfl))⟩) ?_ ?_
    · intro p hp hne y w w' cs g1 g2 g3 g4 g5
      simp only [List.mem_cons, List.not_mem_nil, or_false] at hp
      rcases hp with rfl | rfl | rfl
      · exact RnAt.kpb g5 g1 g3
      · exact gV_keep rfl g3 g4 g5
      · exact absurd rfl hne
    refine DerX.tl (fun w4 hk4 hF => ?_)
    have hB16 : w3.heap.size ≤ b15 ∧ Blk w4 b15 (.cells (rcl (r.sendD d.A d.B d.bs d.later) v' u).toArray 47) := hF _ (.head _)
    have hR4 : RnAt w4 (r.sendD d.A d.B d.bs d.later) v' u := hF _ (.tail _ (.tail _ (.head _)))
    clear hF
    obtain ⟨_, _, _, _, q4⟩ := rows47 hB16.2
    have hB4 := hB3.kp0 hk4
    repeat (first|apply CG.seq|apply CG.region|apply SG.nil|apply NG.next|apply CG.skip|apply CG.block|apply CG.ret|apply CG.exit|apply CG.scope|apply NG.ret_then|apply NG.ret_block|apply NG.ret_scope|apply NG.exit_then|refine NG.exit_block rfl ?_|refine NG.exit_other rfl ?_|apply NG.exit_scope|apply NG.normal_block|apply NG.normal_scope|refine SG.val rfl rfl rfl rfl (by first|((first|apply qmv|apply qas|apply qlc|apply qla|apply qfa|apply qnc|apply qic|apply qix|apply qpk|apply qls|apply qei|apply qni|apply qed|apply qnd|apply qad|apply qln|apply qle|apply qgt|apply qge|apply qlk|apply qlv|apply qxt|apply qsb|apply qnt|apply qep|apply qnp|apply qeb|apply qnb|apply qx2|apply qx4|apply qcv|apply qlm|apply qfr|apply qto|apply qmx|apply qen|apply qsn|apply qx8|apply qx7|apply qx6|apply qx5|apply qx4|apply qx3|apply qx2|apply qx1|apply qx0)<;>(first|exact rfl|exact Ar.mk (by omega)|assumption|exact dct (by assumption)|exact dcf (by assumption)|exact dct (by omega)|exact dcf (by omega)|exact List.not_mem_nil|exact dc_length _|exact nc_length _|exact rc_length _ _ _|exact nm1 (by omega)|exact nm2 (by omega) (by omega)|exact dct rfl|exact dct (by decide)|exact dcf (by decide)|exact (Int.toNat_of_nonneg (by omega)).symm|exact dcu|exact lk1 (by assumption)|exact lk0 (by assumption)))|fail) ?_)
    refine SG.setAll (old := rcl r v u) (l := rcl (r.sendD d.A d.B d.bs d.later) v' u) rfl rfl (by exact rho_of rfl) (by exact rho_of rfl) hB4 rfl rfl hR4.one (fun w5 hk5 hB5' => ?_)
    have eE : r.sendE d.A d.B d.bs.length d.later = s.sendE d.A d.B d.bs.length d.later := rel.sendE _ _ _ _
    rw [eE]
    repeat (first|apply CG.seq|apply CG.region|apply SG.nil|apply NG.next|apply CG.skip|apply CG.block|apply CG.ret|apply CG.exit|apply CG.scope|apply NG.ret_then|apply NG.ret_block|apply NG.ret_scope|apply NG.exit_then|refine NG.exit_block rfl ?_|refine NG.exit_other rfl ?_|apply NG.exit_scope|apply NG.normal_block|apply NG.normal_scope|refine SG.val rfl rfl rfl rfl (by first|((first|apply qmv|apply qas|apply qlc|apply qla|apply qfa|apply qnc|apply qic|apply qix|apply qpk|apply qls|apply qei|apply qni|apply qed|apply qnd|apply qad|apply qln|apply qle|apply qgt|apply qge|apply qlk|apply qlv|apply qxt|apply qsb|apply qnt|apply qep|apply qnp|apply qeb|apply qnb|apply qx2|apply qx4|apply qcv|apply qlm|apply qfr|apply qto|apply qmx|apply qen|apply qsn|apply qx8|apply qx7|apply qx6|apply qx5|apply qx4|apply qx3|apply qx2|apply qx1|apply qx0)<;>(first|exact rfl|exact Ar.mk (by omega)|assumption|exact dct (by assumption)|exact dcf (by assumption)|exact dct (by omega)|exact dcf (by omega)|exact List.not_mem_nil|exact dc_length _|exact nc_length _|exact rc_length _ _ _|exact nm1 (by omega)|exact nm2 (by omega) (by omega)|exact dct rfl|exact dct (by decide)|exact dcf (by decide)|exact (Int.toNat_of_nonneg (by omega)).symm|exact dcu|exact lk1 (by assumption)|exact lk0 (by assumption)))|fail) ?_)
    refine ret1 (Or.inl rfl) Try.results23 (by first | exact ResV.tmp rfl | exact ResV.agg rfl rfl (by assumption) (by first | exact dc_length _ | exact nc_length _ | exact rc_length _ _ _ | rfl) | exact ResV.cell rfl rfl (by assumption)) ?_
    exact ⟨_, _, _, _, rfl, (h3.kp0 hk4).kpb hB4 (by omega) (by decide) (by decide) (by decide) hk5, hB5', hR4.kpb hB4 hk5, rel.sendD⟩
  · have k0' : ¬ (d.what.toNat : Int) % 4 = 0 := by omega
    repeat (first|apply CG.seq|apply CG.region|apply SG.nil|apply NG.next|apply CG.skip|apply CG.block|apply CG.ret|apply CG.exit|apply CG.scope|apply NG.ret_then|apply NG.ret_block|apply NG.ret_scope|apply NG.exit_then|refine NG.exit_block rfl ?_|refine NG.exit_other rfl ?_|apply NG.exit_scope|apply NG.normal_block|apply NG.normal_scope|refine SG.val rfl rfl rfl rfl (by first|((first|apply qmv|apply qas|apply qlc|apply qla|apply qfa|apply qnc|apply qic|apply qix|apply qpk|apply qls|apply qei|apply qni|apply qed|apply qnd|apply qad|apply qln|apply qle|apply qgt|apply qge|apply qlk|apply qlv|apply qxt|apply qsb|apply qnt|apply qep|apply qnp|apply qeb|apply qnb|apply qx2|apply qx4|apply qcv|apply qlm|apply qfr|apply qto|apply qmx|apply qen|apply qsn|apply qx8|apply qx7|apply qx6|apply qx5|apply qx4|apply qx3|apply qx2|apply qx1|apply qx0)<;>(first|exact rfl|exact Ar.mk (by omega)|assumption|exact dct (by assumption)|exact dcf (by assumption)|exact dct (by omega)|exact dcf (by omega)|exact List.not_mem_nil|exact dc_length _|exact nc_length _|exact rc_length _ _ _|exact nm1 (by omega)|exact nm2 (by omega) (by omega)|exact dct rfl|exact dct (by decide)|exact dcf (by decide)|exact (Int.toNat_of_nonneg (by omega)).symm|exact dcu|exact lk1 (by assumption)|exact lk0 (by assumption)))|fail) ?_)
    refine CG.cond_f rfl (by exact rho_of rfl) rfl ?_
    repeat (first|apply CG.seq|apply CG.region|apply SG.nil|apply NG.next|apply CG.skip|apply CG.block|apply CG.ret|apply CG.exit|apply CG.scope|apply NG.ret_then|apply NG.ret_block|apply NG.ret_scope|apply NG.exit_then|refine NG.exit_block rfl ?_|refine NG.exit_other rfl ?_|apply NG.exit_scope|apply NG.normal_block|apply NG.normal_scope|refine SG.val rfl rfl rfl rfl (by first|((first|apply qmv|apply qas|apply qlc|apply qla|apply qfa|apply qnc|apply qic|apply qix|apply qpk|apply qls|apply qei|apply qni|apply qed|apply qnd|apply qad|apply qln|apply qle|apply qgt|apply qge|apply qlk|apply qlv|apply qxt|apply qsb|apply qnt|apply qep|apply qnp|apply qeb|apply qnb|apply qx2|apply qx4|apply qcv|apply qlm|apply qfr|apply qto|apply qmx|apply qen|apply qsn|apply qx8|apply qx7|apply qx6|apply qx5|apply qx4|apply qx3|apply qx2|apply qx1|apply qx0)<;>(first|exact rfl|exact Ar.mk (by omega)|assumption|exact dct (by assumption)|exact dcf (by assumption)|exact dct (by omega)|exact dcf (by omega)|exact List.not_mem_nil|exact dc_length _|exact nc_length _|exact rc_length _ _ _|exact nm1 (by omega)|exact nm2 (by omega) (by omega)|exact dct rfl|exact dct (by decide)|exact dcf (by decide)|exact (Int.toNat_of_nonneg (by omega)).symm|exact dcu|exact lk1 (by assumption)|exact lk0 (by assumption)))|fail) ?_)
    refine CG.cond_t rfl (by exact rho_of rfl) rfl ?_
    repeat (first|apply CG.seq|apply CG.region|apply SG.nil|apply NG.next|apply CG.skip|apply CG.block|apply CG.ret|apply CG.exit|apply CG.scope|apply NG.ret_then|apply NG.ret_block|apply NG.ret_scope|apply NG.exit_then|refine NG.exit_block rfl ?_|refine NG.exit_other rfl ?_|apply NG.exit_scope|apply NG.normal_block|apply NG.normal_scope|refine SG.val rfl rfl rfl rfl (by first|((first|apply qmv|apply qas|apply qlc|apply qla|apply qfa|apply qnc|apply qic|apply qix|apply qpk|apply qls|apply qei|apply qni|apply qed|apply qnd|apply qad|apply qln|apply qle|apply qgt|apply qge|apply qlk|apply qlv|apply qxt|apply qsb|apply qnt|apply qep|apply qnp|apply qeb|apply qnb|apply qx2|apply qx4|apply qcv|apply qlm|apply qfr|apply qto|apply qmx|apply qen|apply qsn|apply qx8|apply qx7|apply qx6|apply qx5|apply qx4|apply qx3|apply qx2|apply qx1|apply qx0)<;>(first|exact rfl|exact Ar.mk (by omega)|assumption|exact dct (by assumption)|exact dcf (by assumption)|exact dct (by omega)|exact dcf (by omega)|exact List.not_mem_nil|exact dc_length _|exact nc_length _|exact rc_length _ _ _|exact nm1 (by omega)|exact nm2 (by omega) (by omega)|exact dct rfl|exact dct (by decide)|exact dcf (by decide)|exact (Int.toNat_of_nonneg (by omega)).symm|exact dcu|exact lk1 (by assumption)|exact lk0 (by assumption)))|fail) ?_)
    refine SG.call rfl rfl rfl (by repeat' (first | exact True.intro | exact rho_of rfl | refine And.intro ?_ ?_)) ((step_at h1 (by omega) (by omega) rel.inn).mono (fun e w2 hh => ?_))
    obtain ⟨v2, l2, he2, ho2, hl2, hb2, h2, hk2⟩ := hh
    refine ⟨_, he2, ?_⟩
    have hB2 := hk2.cells _ _ _ _ (by decide) (by decide) hB1
    have hR2 := hR1.kt hk2
    obtain ⟨_, _, _, _, q4⟩ := rows47 hB2
    have hl2' : l2.length ≤ 2000 := by
      have := congrArg List.length hl2
      rw [List.length_map, List.length_map] at this
      rw [this]
      refine Nat.le_trans (List.length_filter_le _ _) (Nat.le_trans (List.length_filter_le _ _) ?_)
      omega
    repeat (first|apply CG.seq|apply CG.region|apply SG.nil|apply NG.next|apply CG.skip|apply CG.block|apply CG.ret|apply CG.exit|apply CG.scope|apply NG.ret_then|apply NG.ret_block|apply NG.ret_scope|apply NG.exit_then|refine NG.exit_block rfl ?_|refine NG.exit_other rfl ?_|apply NG.exit_scope|apply NG.normal_block|apply NG.normal_scope|refine SG.val rfl rfl rfl rfl (by first|((first|apply qmv|apply qas|apply qlc|apply qla|apply qfa|apply qnc|apply qic|apply qix|apply qpk|apply qls|apply qei|apply qni|apply qed|apply qnd|apply qad|apply qln|apply qle|apply qgt|apply qge|apply qlk|apply qlv|apply qxt|apply qsb|apply qnt|apply qep|apply qnp|apply qeb|apply qnb|apply qx2|apply qx4|apply qcv|apply qlm|apply qfr|apply qto|apply qmx|apply qen|apply qsn|apply qx8|apply qx7|apply qx6|apply qx5|apply qx4|apply qx3|apply qx2|apply qx1|apply qx0)<;>(first|exact rfl|exact Ar.mk (by omega)|assumption|exact dct (by assumption)|exact dcf (by assumption)|exact dct (by omega)|exact dcf (by omega)|exact List.not_mem_nil|exact dc_length _|exact nc_length _|exact rc_length _ _ _|exact nm1 (by omega)|exact nm2 (by omega) (by omega)|exact dct rfl|exact dct (by decide)|exact dcf (by decide)|exact (Int.toNat_of_nonneg (by omega)).symm|exact dcu|exact lk1 (by assumption)|exact lk0 (by assumption)))|fail) ?_)
    refine SG.call rfl rfl rfl (by repeat' (first | exact True.intro | exact rho_of rfl | refine And.intro ?_ ?_)) ((rstep hR2 ok).mono (fun e w3 hh => ?_))
    obtain ⟨v3, o3, he3, hR3, ho3, hk3⟩ := hh
    refine ⟨_, he3, ?_⟩
    have hB3 := hB2.kp0 hk3
    repeat (first|apply CG.seq|apply CG.region|apply SG.nil|apply NG.next|apply CG.skip|apply CG.block|apply CG.ret|apply CG.exit|apply CG.scope|apply NG.ret_then|apply NG.ret_block|apply NG.ret_scope|apply NG.exit_then|refine NG.exit_block rfl ?_|refine NG.exit_other rfl ?_|apply NG.exit_scope|apply NG.normal_block|apply NG.normal_scope|refine SG.val rfl rfl rfl rfl (by first|((first|apply qmv|apply qas|apply qlc|apply qla|apply qfa|apply qnc|apply qic|apply qix|apply qpk|apply qls|apply qei|apply qni|apply qed|apply qnd|apply qad|apply qln|apply qle|apply qgt|apply qge|apply qlk|apply qlv|apply qxt|apply qsb|apply qnt|apply qep|apply qnp|apply qeb|apply qnb|apply qx2|apply qx4|apply qcv|apply qlm|apply qfr|apply qto|apply qmx|apply qen|apply qsn|apply qx8|apply qx7|apply qx6|apply qx5|apply qx4|apply qx3|apply qx2|apply qx1|apply qx0)<;>(first|exact rfl|exact Ar.mk (by omega)|assumption|exact dct (by assumption)|exact dcf (by assumption)|exact dct (by omega)|exact dcf (by omega)|exact List.not_mem_nil|exact dc_length _|exact nc_length _|exact rc_length _ _ _|exact nm1 (by omega)|exact nm2 (by omega) (by omega)|exact dct rfl|exact dct (by decide)|exact dcf (by decide)|exact (Int.toNat_of_nonneg (by omega)).symm|exact dcu|exact lk1 (by assumption)|exact lk0 (by assumption)))|fail) ?_)
    refine SG.alloc rfl rfl rfl (fun b11 w4 hk4 hb11 hB4 => ?_)
    refine SG.setAll (old := rcl (Rn.new 0) nilS nilS) (l := rcl r.step v3 u) rfl rfl (by exact rho_of rfl) (by exact rho_of rfl) hB4 rfl rfl hR3.one (fun w5 hk5 hB5' => ?_)
    have hk35 : Kp [] w3 w5 := hk4.trans_new hk5 (new1 hb11)
    have hB5w := hB3.kp0 hk35
    have hR5 := hR3.kp0 hk35
    obtain ⟨_, _, _, _, q5⟩ := rows47 hB5'
    repeat (first|apply CG.seq|apply CG.region|apply SG.nil|apply NG.next|apply CG.skip|apply CG.block|apply CG.ret|apply CG.exit|apply CG.scope|apply NG.ret_then|apply NG.ret_block|apply NG.ret_scope|apply NG.exit_then|refine NG.exit_block rfl ?_|refine NG.exit_other rfl ?_|apply NG.exit_scope|apply NG.normal_block|apply NG.normal_scope|refine SG.val rfl rfl rfl rfl (by first|((first|apply qmv|apply qas|apply qlc|apply qla|apply qfa|apply qnc|apply qic|apply qix|apply qpk|apply qls|apply qei|apply qni|apply qed|apply qnd|apply qad|apply qln|apply qle|apply qgt|apply qge|apply qlk|apply qlv|apply qxt|apply qsb|apply qnt|apply qep|apply qnp|apply qeb|apply qnb|apply qx2|apply qx4|apply qcv|apply qlm|apply qfr|apply qto|apply qmx|apply qen|apply qsn|apply qx8|apply qx7|apply qx6|apply qx5|apply qx4|apply qx3|apply qx2|apply qx1|apply qx0)<;>(first|exact rfl|exact Ar.mk (by omega)|assumption|exact dct (by assumption)|exact dcf (by assumption)|exact dct (by omega)|exact dcf (by omega)|exact List.not_mem_nil|exact dc_length _|exact nc_length _|exact rc_length _ _ _|exact nm1 (by omega)|exact nm2 (by omega) (by omega)|exact dct rfl|exact dct (by decide)|exact dcf (by decide)|exact (Int.toNat_of_nonneg (by omega)).symm|exact dcu|exact lk1 (by assumption)|exact lk0 (by assumption)))|fail) ?_)
    refine SG.setAll (old := rcl r v u) (l := rcl r.step v3 u) rfl rfl (by exact rho_of rfl) (by exact rho_of rfl) hB5w rfl rfl hR5.one (fun w6 hk6 hB6 => ?_)
    have ho2 := own_kp (own_kp0 (own_kp0 ho2 hk3) hk35) hk6 (fun z hz hm => by
      rw [List.mem_singleton] at hm
      subst hm
      obtain ⟨cs, hc⟩ := own_blk (own_kp0 (own_kp0 ho2 hk3) hk35) hz
      exact ne_ty (by decide) hB5w hc rfl)
    have ho3 := own_kp (own_kp0 ho3 hk35) hk6 (fun z hz hm => by
      rw [List.mem_singleton] at hm
      subst hm
      obtain ⟨cs, hc⟩ := own_blk (own_kp0 ho3 hk35) hz
      exact ne_ty (by decide) hB5w hc rfl)
    have hby : ∀ x ∈ l2, Sl byc 1 w6 x.a x.bs := fun x hx => by
      have hb := ((hb2 x hx).1.kp hk3 (fun _ _ _ => List.not_mem_nil)).kp hk35 (fun _ _ _ => List.not_mem_nil)
      exact ByAt.sl (fun i u hu => by
        obtain ⟨z, off, cs, g1, g2, g3⟩ := hb i u hu
        exact ⟨z, off, cs, g1, g2.kp hk6 (nm1 (ne_ty (by decide) hB5w g2)), g3⟩)
    obtain ⟨p2, c2, rfl, hS2⟩ := SlF.own lcl_length ho2 rfl
    obtain ⟨p3, c3, rfl, hS3⟩ := SlF.own cpl_length ho3 rfl
    repeat (first|apply CG.seq|apply CG.region|apply SG.nil|apply NG.next|apply CG.skip|apply CG.block|apply CG.ret|apply CG.exit|apply CG.scope|apply NG.ret_then|apply NG.ret_block|apply NG.ret_scope|apply NG.exit_then|refine NG.exit_block rfl ?_|refine NG.exit_other rfl ?_|apply NG.exit_scope|apply NG.normal_block|apply NG.normal_scope|refine SG.val rfl rfl rfl rfl (by first|((first|apply qmv|apply qas|apply qlc|apply qla|apply qfa|apply qnc|apply qic|apply qix|apply qpk|apply qls|apply qei|apply qni|apply qed|apply qnd|apply qad|apply qln|apply qle|apply qgt|apply qge|apply qlk|apply qlv|apply qxt|apply qsb|apply qnt|apply qep|apply qnp|apply qeb|apply qnb|apply qx2|apply qx4|apply qcv|apply qlm|apply qfr|apply qto|apply qmx|apply qen|apply qsn|apply qx8|apply qx7|apply qx6|apply qx5|apply qx4|apply qx3|apply qx2|apply qx1|apply qx0)<;>(first|exact rfl|exact Ar.mk (by omega)|assumption|exact dct (by assumption)|exact dcf (by assumption)|exact dct (by omega)|exact dcf (by omega)|exact List.not_mem_nil|exact dc_length _|exact nc_length _|exact rc_length _ _ _|exact nm1 (by omega)|exact nm2 (by omega) (by omega)|exact dct rfl|exact dct (by decide)|exact dcf (by decide)|exact (Int.toNat_of_nonneg (by omega)).symm|exact dcu|exact lk1 (by assumption)|exact lk0 (by assumption)))|fail) ?_)
    refine SG.ret rfl rfl rfl (by repeat' (first | exact True.intro | exact rho_of rfl | refine And.intro ?_ ?_)) (alike_spec c2 c3 hS2.sl hS3.sl hby (by rw [hl2, rel.out]) (by omega)) (fun w7 hk7 => ?_)
    repeat (first|apply CG.seq|apply CG.region|apply SG.nil|apply NG.next|apply CG.skip|apply CG.block|apply CG.ret|apply CG.exit|apply CG.scope|apply NG.ret_then|apply NG.ret_block|apply NG.ret_scope|apply NG.exit_then|refine NG.exit_block rfl ?_|refine NG.exit_other rfl ?_|apply NG.exit_scope|apply NG.normal_block|apply NG.normal_scope|refine SG.val rfl rfl rfl rfl (by first|((first|apply qmv|apply qas|apply qlc|apply qla|apply qfa|apply qnc|apply qic|apply qix|apply qpk|apply qls|apply qei|apply qni|apply qed|apply qnd|apply qad|apply qln|apply qle|apply qgt|apply qge|apply qlk|apply qlv|apply qxt|apply qsb|apply qnt|apply qep|apply qnp|apply qeb|apply qnb|apply qx2|apply qx4|apply qcv|apply qlm|apply qfr|apply qto|apply qmx|apply qen|apply qsn|apply qx8|apply qx7|apply qx6|apply qx5|apply qx4|apply qx3|apply qx2|apply qx1|apply qx0)<;>(first|exact rfl|exact Ar.mk (by omega)|assumption|exact dct (by assumption)|exact dcf (by assumption)|exact dct (by omega)|exact dcf (by omega)|exact List.not_mem_nil|exact dc_length _|exact nc_length _|exact rc_length _ _ _|exact nm1 (by omega)|exact nm2 (by omega) (by omega)|exact dct rfl|exact dct (by decide)|exact dcf (by decide)|exact (Int.toNat_of_nonneg (by omega)).symm|exact dcu|exact lk1 (by assumption)|exact lk0 (by assumption)))|fail) ?_)
    refine ret1 (Or.inl rfl) Try.results23 (by first | exact ResV.tmp rfl | exact ResV.agg rfl rfl (by assumption) (by first | exact dc_length _ | exact nc_length _ | exact rc_length _ _ _ | rfl) | exact ResV.cell rfl rfl (by assumption)) ?_
    exact ⟨_, _, _, _, rfl, (((h2.kp0 hk3).kp0 hk35).kpb hB5w (by omega) (by decide) (by decide) (by decide) hk6).kp0 hk7, hB6.kp0 hk7, (hR5.kpb hB5w hk6).kp0 hk7, rel.step⟩
  · repeat (first|apply CG.seq|apply CG.region|apply SG.nil|apply NG.next|apply CG.skip|apply CG.block|apply CG.ret|apply CG.exit|apply CG.scope|apply NG.ret_then|apply NG.ret_block|apply NG.ret_scope|apply NG.exit_then|refine NG.exit_block rfl ?_|refine NG.exit_other rfl ?_|apply NG.exit_scope|apply NG.normal_block|apply NG.normal_scope|refine SG.val rfl rfl rfl rfl (by first|((first|apply qmv|apply qas|apply qlc|apply qla|apply qfa|apply qnc|apply qic|apply qix|apply qpk|apply qls|apply qei|apply qni|apply qed|apply qnd|apply qad|apply qln|apply qle|apply qgt|apply qge|apply qlk|apply qlv|apply qxt|apply qsb|apply qnt|apply qep|apply qnp|apply qeb|apply qnb|apply qx2|apply qx4|apply qcv|apply qlm|apply qfr|apply qto|apply qmx|apply qen|apply qsn|apply qx8|apply qx7|apply qx6|apply qx5|apply qx4|apply qx3|apply qx2|apply qx1|apply qx0)<;>(first|exact rfl|exact Ar.mk (by omega)|assumption|exact dct (by assumption)|exact dcf (by assumption)|exact dct (by omega)|exact dcf (by omega)|exact List.not_mem_nil|exact dc_length _|exact nc_length _|exact rc_length _ _ _|exact nm1 (by omega)|exact nm2 (by omega) (by omega)|exact dct rfl|exact dct (by decide)|exact dcf (by decide)|exact (Int.toNat_of_nonneg (by omega)).symm|exact dcu|exact lk1 (by assumption)|exact lk0 (by assumption)))|fail) ?_)
    refine CG.cond_f rfl (by exact rho_of rfl) rfl ?_
    repeat (first|apply CG.seq|apply CG.region|apply SG.nil|apply NG.next|apply CG.skip|apply CG.block|apply CG.ret|apply CG.exit|apply CG.scope|apply NG.ret_then|apply NG.ret_block|apply NG.ret_scope|apply NG.exit_then|refine NG.exit_block rfl ?_|refine NG.exit_other rfl ?_|apply NG.exit_scope|apply NG.normal_block|apply NG.normal_scope|refine SG.val rfl rfl rfl rfl (by first|((first|apply qmv|apply qas|apply qlc|apply qla|apply qfa|apply qnc|apply qic|apply qix|apply qpk|apply qls|apply qei|apply qni|apply qed|apply qnd|apply qad|apply qln|apply qle|apply qgt|apply qge|apply qlk|apply qlv|apply qxt|apply qsb|apply qnt|apply qep|apply qnp|apply qeb|apply qnb|apply qx2|apply qx4|apply qcv|apply qlm|apply qfr|apply qto|apply qmx|apply qen|apply qsn|apply qx8|apply qx7|apply qx6|apply qx5|apply qx4|apply qx3|apply qx2|apply qx1|apply qx0)<;>(first|exact rfl|exact Ar.mk (by omega)|assumption|exact dct (by assumption)|exact dcf (by assumption)|exact dct (by omega)|exact dcf (by omega)|exact List.not_mem_nil|exact dc_length _|exact nc_length _|exact rc_length _ _ _|exact nm1 (by omega)|exact nm2 (by omega) (by omega)|exact dct rfl|exact dct (by decide)|exact dcf (by decide)|exact (Int.toNat_of_nonneg (by omega)).symm|exact dcu|exact lk1 (by assumption)|exact lk0 (by assumption)))|fail) ?_)
    refine CG.cond_f rfl (by exact rho_of rfl) rfl ?_
    repeat (first|apply CG.seq|apply CG.region|apply SG.nil|apply NG.next|apply CG.skip|apply CG.block|apply CG.ret|apply CG.exit|apply CG.scope|apply NG.ret_then|apply NG.ret_block|apply NG.ret_scope|apply NG.exit_then|refine NG.exit_block rfl ?_|refine NG.exit_other rfl ?_|apply NG.exit_scope|apply NG.normal_block|apply NG.normal_scope|refine SG.val rfl rfl rfl rfl (by first|((first|apply qmv|apply qas|apply qlc|apply qla|apply qfa|apply qnc|apply qic|apply qix|apply qpk|apply qls|apply qei|apply qni|apply qed|apply qnd|apply qad|apply qln|apply qle|apply qgt|apply qge|apply qlk|apply qlv|apply qxt|apply qsb|apply qnt|apply qep|apply qnp|apply qeb|apply qnb|apply qx2|apply qx4|apply qcv|apply qlm|apply qfr|apply qto|apply qmx|apply qen|apply qsn|apply qx8|apply qx7|apply qx6|apply qx5|apply qx4|apply qx3|apply qx2|apply qx1|apply qx0)<;>(first|exact rfl|exact Ar.mk (by omega)|assumption|exact dct (by assumption)|exact dcf (by assumption)|exact dct (by omega)|exact dcf (by omega)|exact List.not_mem_nil|exact dc_length _|exact nc_length _|exact rc_length _ _ _|exact nm1 (by omega)|exact nm2 (by omega) (by omega)|exact dct rfl|exact dct (by decide)|exact dcf (by decide)|exact (Int.toNat_of_nonneg (by omega)).symm|exact dcu|exact lk1 (by assumption)|exact lk0 (by assumption)))|fail) ?_)
    refine SG.call rfl rfl rfl (by repeat' (first | exact True.intro | exact rho_of rfl | refine And.intro ?_ ?_)) ((cut1 h1 d.A d.B (decide ((d.what.toNat : Int) % 4 = 2)) rel.p16).mono (fun e w3 hh => ?_))
    obtain ⟨he3, h3, hk3⟩ := hh
    refine ⟨_, he3, ?_⟩
    have hB3 := hk3.cells _ _ _ _ (by decide) (by decide) hB1
    have hB53 := hk3.cells _ _ _ _ (by decide) (by decide) hB5
    have hR3 := hR1.kt hk3
    obtain ⟨r0, r1, r2, r3, r4⟩ := dd_rows hB53
    obtain ⟨_, _, _, _, q4⟩ := rows47 hB3
    repeat (first|apply CG.seq|apply CG.region|apply SG.nil|apply NG.next|apply CG.skip|apply CG.block|apply CG.ret|apply CG.exit|apply CG.scope|apply NG.ret_then|apply NG.ret_block|apply NG.ret_scope|apply NG.exit_then|refine NG.exit_block rfl ?_|refine NG.exit_other rfl ?_|apply NG.exit_scope|apply NG.normal_block|apply NG.normal_scope|refine SG.val rfl rfl rfl rfl (by first|((first|apply qmv|apply qas|apply qlc|apply qla|apply qfa|apply qnc|apply qic|apply qix|apply qpk|apply qls|apply qei|apply qni|apply qed|apply qnd|apply qad|apply qln|apply qle|apply qgt|apply qge|apply qlk|apply qlv|apply qxt|apply qsb|apply qnt|apply qep|apply qnp|apply qeb|apply qnb|apply qx2|apply qx4|apply qcv|apply qlm|apply qfr|apply qto|apply qmx|apply qen|apply qsn|apply qx8|apply qx7|apply qx6|apply qx5|apply qx4|apply qx3|apply qx2|apply qx1|apply qx0)<;>(first|exact rfl|exact Ar.mk (by omega)|assumption|exact dct (by assumption)|exact dcf (by assumption)|exact dct (by omega)|exact dcf (by omega)|exact List.not_mem_nil|exact dc_length _|exact nc_length _|exact rc_length _ _ _|exact nm1 (by omega)|exact nm2 (by omega) (by omega)|exact dct rfl|exact dct (by decide)|exact dcf (by decide)|exact (Int.toNat_of_nonneg (by omega)).symm|exact dcu|exact lk1 (by assumption)|exact lk0 (by assumption)))|fail) ?_)
    refine CG.free mixed 17 [0, 1, 2, 3, 4, 5, 6, 7, 8, 9, 10, 11, 12, 13, 14, 15, 16] [(11, gR' (r.cutD d.A d.B (decide ((d.what.toNat : Int) % 4 = 2))) (r.cutE d.A d.B) v), (15, gV w3.heap.size 47 4), (16, gP w3.heap.size 47)] (by kernel_rfl) (by intro p hp y; simp at hp; rcases hp with rfl | rfl | rfl; exact gR'_stab y; exact gV_stab y; exact gP_stab y) ?_
    repeat (refine DerX.val rfl rfl rfl rfl (by first|((first|apply qmv|apply qas|apply qlc|apply qla|apply qfa|apply qnc|apply qic|apply qix|apply qpk|apply qls|apply qei|apply qni|apply qed|apply qnd|apply qad|apply qln|apply qle|apply qgt|apply qge|apply qlk|apply qlv|apply qxt|apply qsb|apply qnt|apply qep|apply qnp|apply qeb|apply qnb|apply qx2|apply qx4|apply qcv|apply qlm|apply qfr|apply qto|apply qmx|apply qen|apply qsn|apply qx8|apply qx7|apply qx6|apply qx5|apply qx4|apply qx3|apply qx2|apply qx1|apply qx0)<;>(first|exact rfl|exact Ar.mk (by omega)|assumption|exact dct (by assumption)|exact dcf (by assumption)|exact dct (by omega)|exact dcf (by omega)|exact List.not_mem_nil|exact dc_length _|exact nc_length _|exact rc_length _ _ _|exact nm1 (by omega)|exact nm2 (by omega) (by omega)|exact dct rfl|exact dct (by decide)|exact dcf (by decide)|exact (Int.toNat_of_nonneg (by omega)).symm|exact dcu|exact lk1 (by assumption)|exact lk0 (by assumption)))|fail) ?_)
    refine DerX.callE (gR' (r.cutD d.A d.B (decide ((d.what.toNat : Int) % 4 = 2))) (r.cutE d.A d.B) v) rfl rfl rfl rfl (by repeat' (first | exact True.intro | exact rho_of rfl | refine And.intro ?_ ?_)) (fun w hk _ => (rcutD (hR3.kp0 hk) ok d.A d.B (decide ((d.what.toNat : Int) % 4 = 2))).mono (fun e w' ⟨u', g1, g2, g3⟩ => ⟨u', g1, g2, g3⟩)) (fun u' => ?_)
    repeat (refine DerX.val rfl rfl rfl rfl (by first|((first|apply qmv|apply qas|apply qlc|apply qla|apply qfa|apply qnc|apply qic|apply qix|apply qpk|apply qls|apply qei|apply qni|apply qed|apply qnd|apply qad|apply qln|apply qle|apply qgt|apply qge|apply qlk|apply qlv|apply qxt|apply qsb|apply qnt|apply qep|apply qnp|apply qeb|apply qnb|apply qx2|apply qx4|apply qcv|apply qlm|apply qfr|apply qto|apply qmx|apply qen|apply qsn|apply qx8|apply qx7|apply qx6|apply qx5|apply qx4|apply qx3|apply qx2|apply qx1|apply qx0)<;>(first|exact rfl|exact Ar.mk (by omega)|assumption|exact dct (by assumption)|exact dcf (by assumption)|exact dct (by omega)|exact dcf (by omega)|exact List.not_mem_nil|exact dc_length _|exact nc_length _|exact rc_length _ _ _|exact nm1 (by omega)|exact nm2 (by omega) (by omega)|exact dct rfl|exact dct (by decide)|exact dcf (by decide)|exact (Int.toNat_of_nonneg (by omega)).symm|exact dcu|exact lk1 (by assumption)|exact lk0 (by assumption)))|fail) ?_)
    refine DerX.allocV rfl rfl rfl rfl rfl (Nat.le_refl _) (fun b15 => ?_)
    refine DerX.storeV (l := rcl (r.cutD d.A d.B (decide ((d.what.toNat : Int) % 4 = 2))) v u') rfl rfl rfl rfl (by kernel_rfl) (by exact rho_of rfl) (by exact rho_of rfl) rfl (Nat.le_refl _) (fun w hk hF => ⟨hF _ (.head _) (by kernel_rfl), RnAt.one (w := w) (hF _ (.tail _ (.head _)) (by kernel_rfl))⟩) ?_ ?_
    · intro p hp hne y w w' cs g1 g2 g3 g4 g5
      simp only [List.mem_cons, List.not_mem_nil, or_false] at hp
      rcases hp with rfl | rfl | rfl
      · exact RnAt.kpb g5 g1 g3
      · exact gV_keep rfl g3 g4 g5
      · exact absurd rfl hne
    refine DerX.tl (fun w4 hk4 hF => ?_)
    have hB16 : w3.heap.size ≤ b15 ∧ Blk w4 b15 (.cells (rcl (r.cutD d.A d.B (decide ((d.what.toNat : Int) % 4 = 2))) v u').toArray 47) := hF _ (.head _)
    have hR4 : RnAt w4 (r.cutD d.A d.B (decide ((d.what.toNat : Int) % 4 = 2))) v u' := hF _ (.tail _ (.tail _ (.head _)))
    clear hF
    obtain ⟨_, _, _, _, q4⟩ := rows47 hB16.2
    have hB4 := hB3.kp0 hk4
    repeat (first|apply CG.seq|apply CG.region|apply SG.nil|apply NG.next|apply CG.skip|apply CG.block|apply CG.ret|apply CG.exit|apply CG.scope|apply NG.ret_then|apply NG.ret_block|apply NG.ret_scope|apply NG.exit_then|refine NG.exit_block rfl ?_|refine NG.exit_other rfl ?_|apply NG.exit_scope|apply NG.normal_block|apply NG.normal_scope|refine SG.val rfl rfl rfl rfl (by first|((first|apply qmv|apply qas|apply qlc|apply qla|apply qfa|apply qnc|apply qic|apply qix|apply qpk|apply qls|apply qei|apply qni|apply qed|apply qnd|apply qad|apply qln|apply qle|apply qgt|apply qge|apply qlk|apply qlv|apply qxt|apply qsb|apply qnt|apply qep|apply qnp|apply qeb|apply qnb|apply qx2|apply qx4|apply qcv|apply qlm|apply qfr|apply qto|apply qmx|apply qen|apply qsn|apply qx8|apply qx7|apply qx6|apply qx5|apply qx4|apply qx3|apply qx2|apply qx1|apply qx0)<;>(first|exact rfl|exact Ar.mk (by omega)|assumption|exact dct (by assumption)|exact dcf (by assumption)|exact dct (by omega)|exact dcf (by omega)|exact List.not_mem_nil|exact dc_length _|exact nc_length _|exact rc_length _ _ _|exact nm1 (by omega)|exact nm2 (by omega) (by omega)|exact dct rfl|exact dct (by decide)|exact dcf (by decide)|exact (Int.toNat_of_nonneg (by omega)).symm|exact dcu|exact lk1 (by assumption)|exact lk0 (by assumption)))|fail) ?_)
    refine SG.setAll (old := rcl r v u) (l := rcl (r.cutD d.A d.B (decide ((d.what.toNat : Int) % 4 = 2))) v u') rfl rfl (by exact rho_of rfl) (by exact rho_of rfl) hB4 rfl rfl hR4.one (fun w5 hk5 hB5' => ?_)
    have eE : r.cutE d.A d.B = s.cutE d.A d.B := rel.cutE _ _
    rw [eE]
    repeat (first|apply CG.seq|apply CG.region|apply SG.nil|apply NG.next|apply CG.skip|apply CG.block|apply CG.ret|apply CG.exit|apply CG.scope|apply NG.ret_then|apply NG.ret_block|apply NG.ret_scope|apply NG.exit_then|refine NG.exit_block rfl ?_|refine NG.exit_other rfl ?_|apply NG.exit_scope|apply NG.normal_block|apply NG.normal_scope|refine SG.val rfl rfl rfl rfl (by first|((first|apply qmv|apply qas|apply qlc|apply qla|apply qfa|apply qnc|apply qic|apply qix|apply qpk|apply qls|apply qei|apply qni|apply qed|apply qnd|apply qad|apply qln|apply qle|apply qgt|apply qge|apply qlk|apply qlv|apply qxt|apply qsb|apply qnt|apply qep|apply qnp|apply qeb|apply qnb|apply qx2|apply qx4|apply qcv|apply qlm|apply qfr|apply qto|apply qmx|apply qen|apply qsn|apply qx8|apply qx7|apply qx6|apply qx5|apply qx4|apply qx3|apply qx2|apply qx1|apply qx0)<;>(first|exact rfl|exact Ar.mk (by omega)|assumption|exact dct (by assumption)|exact dcf (by assumption)|exact dct (by omega)|exact dcf (by omega)|exact List.not_mem_nil|exact dc_length _|exact nc_length _|exact rc_length _ _ _|exact nm1 (by omega)|exact nm2 (by omega) (by omega)|exact dct rfl|exact dct (by decide)|exact dcf (by decide)|exact (Int.toNat_of_nonneg (by omega)).symm|exact dcu|exact lk1 (by assumption)|exact lk0 (by assumption)))|fail) ?_)
    refine ret1 (Or.inl rfl) Try.results23 (by first | exact ResV.tmp rfl | exact ResV.agg rfl rfl (by assumption) (by first | exact dc_length _ | exact nc_length _ | exact rc_length _ _ _ | rfl) | exact ResV.cell rfl rfl (by assumption)) ?_
    exact ⟨_, _, _, _, rfl, (h3.kp0 hk4).kpb hB4 (by omega) (by decide) (by decide) (by decide) hk5, hB5', hR4.kpb hB4 hk5, rel.cutD⟩
end Go.Proofs.Ytfelaicoedlejaa
/-
  A region that draws, in phases: some operations free, one that stands between, others free.
-/
namespace Go.Proofs.Ytfelaicoedlejaa
set_option linter.unusedVariables false

def chkY (n : Nat) (ops : List Oper) (ord gi : List Nat) (k0 k : Nat) : Bool :=
  ops.all (fun o => !isSelect o.op) && ops.all (fun o => o.dst.all (fun d => Nat.blt d n)) && nodupB (ops.filterMap (·.dst)) &&
  (List.range k).all (fun i => Nat.blt i k0 || ord.elem i) && nodupB ord && ordX ops gi [] ord && ord.all (fun i => Nat.blt i k && Nat.ble k0 i) && Nat.ble k ops.length &&
  ((List.range ops.length).all fun i => ((ops[i]?).map fun o => (edges o).all (fun e => Nat.blt e i)).getD false) &&
  ((List.range ops.length).all fun i => Nat.blt i k || (List.range k).all (fun j => Nat.blt j k0 || anc ops i j)) && gi.all (fun i => ord.elem i)

section
variable {P : Program} {n : Nat} {ops : List Oper} {Q : Exit → Act → World → Prop} {w0 : World} {L0 : Env} {G : List (Nat × GD)} {ord gi : List Nat} {k0 k : Nat}

structure ChkY (n : Nat) (ops : List Oper) (ord gi : List Nat) (k0 k : Nat) : Prop where
  sel : ∀ o ∈ ops, isSelect o.op = false
  dlt : ∀ o ∈ ops, ∀ d, o.dst = some d → d < n
  one : ∀ (i j : Nat) (oi oj : Oper) (t : Nat), ops[i]? = some oi → ops[j]? = some oj → oi.dst = some t → oj.dst = some t → i = j
  cover : ∀ i, k0 ≤ i → i < k → i ∈ ord
  nodup : ord.Nodup
  ok : ordX ops gi [] ord = true
  lt : ∀ i ∈ ord, i < k
  ge : ∀ i ∈ ord, k0 ≤ i
  le : k ≤ ops.length
  ed : ∀ (i : Nat) (o : Oper), ops[i]? = some o → ∀ e ∈ edges o, e < i
  tl : ∀ i, i < ops.length → k ≤ i → ∀ j, k0 ≤ j → j < k → anc ops i j = true
  gi : ∀ i ∈ gi, i ∈ ord
theorem ChkY.of (h : chkY n ops ord gi k0 k = true) : ChkY n ops ord gi k0 k := by
  simp only [chkY, Bool.and_eq_true] at h
  obtain ⟨⟨⟨⟨⟨⟨⟨⟨⟨⟨h1, h2⟩, h3⟩, h4⟩, h5⟩, h6⟩, h7⟩, h8⟩, h9⟩, h10⟩, h11⟩ := h
  refine ⟨fun o ho => ?_, fun o ho d hd => ?_, nodup_filterMap_inj ops (nodup_of_B _ h3), fun i hi0 hi => ?_, nodup_of_B _ h5, h6, fun i hi => ?_, fun i hi => ?_, by simpa [Nat.ble_eq] using h8, fun i o ho e he => ?_, fun i hi hk j hj0 hj => ?_, fun i hi => ?_⟩
  · simpa using List.all_eq_true.1 h1 o ho
  · have := List.all_eq_true.1 h2 o ho
    rw [hd] at this
    simpa [Nat.blt_eq] using this
  · have := List.all_eq_true.1 h4 i (by simpa using hi)
    simp only [Bool.or_eq_true, Nat.blt_eq, List.elem_eq_mem, decide_eq_true_eq] at this
    rcases this with h | h
    · omega
    · exact h
  · have := List.all_eq_true.1 h7 i hi
    simp only [Bool.and_eq_true, Nat.blt_eq] at this
    exact this.1
  · have := List.all_eq_true.1 h7 i hi
    simp only [Bool.and_eq_true, Nat.ble_eq] at this
    exact this.2
  · have := List.all_eq_true.1 h9 i (by simpa using (List.getElem?_eq_some_iff.1 ho).1)
    rw [ho] at this
    simp only [Option.map_some, Option.getD_some] at this
    simpa [Nat.blt_eq] using List.all_eq_true.1 this e he
  · have := List.all_eq_true.1 h10 i (by simpa using hi)
    simp only [Bool.or_eq_true, Nat.blt_eq] at this
    rcases this with h | h
    · omega
    · have := List.all_eq_true.1 h j (by simpa using hj)
      simp only [Bool.or_eq_true, Nat.blt_eq] at this
      rcases this with h | h
      · omega
      · exact h
  · have := List.all_eq_true.1 h11 i hi
    rw [List.elem_eq_mem] at this
    exact of_decide_eq_true this

/-- What is so on the way. -/
structure StY (P : Program) (n : Nat) (ops : List Oper) (k0 : Nat) (w0 : World) (L0 : Env) (G : List (Nat × GD)) (K : Env → List Fact → Prop) (ord : List Nat) (D : Nat → Bool) (V : Nat → Value) (ξ : (i : Nat) → (gdOf G i).X) (a : Act) (w : World) : Prop where
  closed : ∀ (i : Nat) (o : Oper), ops[i]? = some o → D i = true → ∀ e ∈ edges o, D e = true
  size : a.tmps.size = n
  defers : a.defers = []
  slot : ∀ (i : Nat) (o : Oper) (d : Nat), k0 ≤ i → ops[i]? = some o → D i = true → o.dst = some d → a.tmps[d]? = some (gave G V ξ i)
  old : ∀ t v, look L0 t = some v → (∀ (i : Nat) (o : Oper), k0 ≤ i → ops[i]? = some o → D i = true → o.dst ≠ some t) → a.tmps[t]? = some v
  kp : Kp [] w0 w
  ph : ∀ i, isGh G i = true → D i = true → (gdOf G i).phi (ξ i) w
  live : Live P w0 ops G K D V ξ ord L0 []

theorem StY.looks {K : Env → List Fact → Prop} {D : Nat → Bool} {V : Nat → Value} {ξ : (i : Nat) → (gdOf G i).X} {a : Act} {w : World} (c : ChkY n ops ord gi k0 k) (hst : StY P n ops k0 w0 L0 G K ord D V ξ a w) (htl : ∀ i, i < ops.length → k ≤ i → D i = false)
    {r : Nat} {o : Oper} {A B : List Nat} {L' : Env} (he : ord = A ++ r :: B) (ho : ops[r]? = some o) (hdr : D r = false) (hanc : ∀ j, anc ops r j = true → D j = true) (hway : Way ops G L0 D V ξ (A.reverse ++ []) L') :
    ∀ t ∈ lks ops o, ∀ v, look L' t = some v → a.tmps[t]? = some v := by
  intro t ht v hv
  obtain ⟨g1, _⟩ := ordX_spec ord [] c.ok A r B he o ho
  rcases hway t v hv with ⟨j, hj, h1, h2⟩ | ⟨h1, h2⟩
  · have hjA : j ∈ A := by simpa using hj
    have hdj := hanc j ((g1 t ht).1 j (Or.inl hjA) h1)
    unfold dstOf at h1
    cases hoj : ops[j]? with
    | none => rw [hoj] at h1; simp at h1
    | some oj =>
      rw [hoj] at h1
      simp only [Option.bind_some] at h1
      rw [hst.slot j oj t (c.ge j (by rw [he]; exact List.mem_append_left _ hjA)) hoj hdj h1, h2 hdj]
  · refine hst.old t v h2 (fun i oi hi0 hoi hdi e => ?_)
    have hil := (List.getElem?_eq_some_iff.1 hoi).1
    have hik : i < k := by
      by_cases h : i < k
      · exact h
      · rw [htl i hil (by omega)] at hdi; cases hdi
    have hio := c.cover i hi0 hik
    have hdi' : dstOf ops i = some t := by simp [dstOf, hoi, e]
    rw [he] at hio
    rcases List.mem_append.1 hio with hA | hB
    · exact h1 i (by simpa using hA) hdi'
    · rcases List.mem_cons.1 hB with rfl | hB
      · rw [hdr] at hdi; cases hdi
      · have h3 := (g1 t ht).2 i hB hdi'
        have := anc_closed hst.closed i oi hoi (hst.closed i oi hoi hdi) r h3
        rw [hdr] at this
        cases this

/-- One is done. -/
theorem StY.did {K : Env → List Fact → Prop} {D : Nat → Bool} {V V' : Nat → Value} {ξ ξ' : (i : Nat) → (gdOf G i).X} {a : Act} {w w' : World} (c : ChkY n ops ord gi k0 k) (hst : StY P n ops k0 w0 L0 G K ord D V ξ a w) {r : Nat} {o : Oper} {v : Value} (hr0 : k0 ≤ r) (ho : ops[r]? = some o) (hed : ∀ e ∈ edges o, D e = true)
    (hk : Goes w0 G r w w') (hstab : ∀ i x, Stab [] ((gdOf G i).phi x)) (hv : gave G V' ξ' r = v) (hoth : ∀ i, i ≠ r → gave G V' ξ' i = gave G V ξ i) (hx : ∀ i, i ≠ r → ξ' i = ξ i) (hr : isGh G r = true → (gdOf G r).phi (ξ' r) w') (hlive : Live P w0 ops G K (setD D r) V' ξ' ord L0 []) :
    StY P n ops k0 w0 L0 G K ord (setD D r) V' ξ' (a.put o.dst v) w' := by
  refine ⟨fun i oi hoi hdi e he => ?_, ?_, ?_, fun i oi d hi0 hoi hdi hd => ?_, fun t u hu hno => ?_, (hk.elim (fun h => hst.kp.trans h) (fun h => h.1)), fun i hg hdi => ?_, hlive⟩
  · by_cases hir : i = r
    · subst hir
      rw [ho] at hoi
      cases hoi
      exact setD_of (hed e he)
    · rw [setD_ne hir] at hdi
      exact setD_of (hst.closed i oi hoi hdi e he)
  · cases hdd : o.dst with
    | none => exact hst.size
    | some d => simp [Act.put, hst.size]
  · cases hdd : o.dst <;> exact hst.defers
  · by_cases hir : i = r
    · subst hir
      rw [ho] at hoi
      cases hoi
      rw [hd, hv]
      exact put_here hst.size (c.dlt o (List.mem_of_getElem? ho) d hd)
    · rw [setD_ne hir] at hdi
      rw [hoth i hir]
      exact put_slot hst.size d _ (hst.slot i oi d hi0 hoi hdi hd) (fun e => hir (c.one i r oi o d hoi ho hd e))
  · refine put_slot hst.size t u (hst.old t u hu (fun i oi hi0 hoi hdi => hno i oi hi0 hoi (setD_of hdi))) (hno r o hr0 ho setD_same)
  · by_cases hir : i = r
    · subst hir
      exact hr hg
    · rw [setD_ne hir] at hdi
      rw [hx i hir]
      exact hk.elim (fun h => hstab i _ w w' h (hst.ph i hg hdi)) (fun h => h.2 i _ hir (hst.ph i hg hdi))

/-- The first k are done. -/
def lst (N k : Nat) : Array Bool := ((List.range N).map (fun i => decide (i < k))).toArray
theorem lst_size (N k : Nat) : (lst N k).size = N := by simp [lst]
theorem lst_getD {N k i : Nat} (h : i < N) : (lst N k).getD i true = decide (i < k) := by
  simp [lst, Array.getD_eq_getD_getElem?, h]
theorem lst_eq {N k : Nat} {l : Array Bool} (hs : l.size = N) (h : ∀ i, i < N → l.getD i true = decide (i < k)) : l = lst N k := by
  apply Array.ext
  · rw [hs, lst_size]
  · intro i h1 h2
    have := h i (by omega)
    rw [Array.getD_eq_getD_getElem?, Array.getElem?_eq_getElem h1] at this
    have h3 := lst_getD (k := k) (show i < N by omega)
    rw [Array.getD_eq_getD_getElem?, Array.getElem?_eq_getElem h2] at h3
    simp only [Option.getD_some] at this h3
    rw [this, h3]
/-- The region, its first k done. -/
def RG (P : Program) (n : Nat) (ops : List Oper) (Q : Exit → Act → World → Prop) (k : Nat) (L : Env) (w : World) : Prop := ∀ a, Fits n a L → Go.wpAny P .any ops.toArray Q (ops.length - k) (lst ops.length k) a w
def KY (n : Nat) (w0 : World) (P : Program) (ops : List Oper) (Q : Exit → Act → World → Prop) (k : Nat) (L : Env) (Γ : List Fact) : Prop :=
  ∀ w', Kp [] w0 w' → (∀ p ∈ Γ, p.2 w') → RG P n ops Q k L w'
theorem cnt_of {listed : Array Bool} (hle : k ≤ ops.length) (hdec : ∀ i, i < ops.length → listed.getD i true = decide (i < k)) : (List.range ops.length).countP (fun i => !listed.getD i true) = ops.length - k := by
  have e1 : (List.range ops.length).countP (fun i => !listed.getD i true) = (List.range ops.length).countP (fun i => !decide (i < k)) := by
    apply List.countP_congr
    intro i hi
    rw [hdec i (by simpa using hi)]
  rw [e1]
  have : ops.length = k + (ops.length - k) := by omega
  rw [this, List.range_add, List.countP_append, List.countP_map]
  have h1 : (List.range k).countP (fun i => !decide (i < k)) = 0 := by
    rw [List.countP_eq_zero]; intro i hi; simp at hi; simp [hi]
  have h2 : (List.range (ops.length - k)).countP ((fun i => !decide (i < k)) ∘ fun x => k + x) = (List.range (ops.length - k)).length := by
    rw [List.countP_eq_length]; intro i hi; simp
  rw [h1, h2]
  simp

theorem StY.wpAny (c : ChkY n ops ord (G.map (·.1)) k0 k) (hstab : ∀ i x, Stab [] ((gdOf G i).phi x)) : ∀ (fuel : Nat) (listed : Array Bool) (V : Nat → Value) (ξ : (i : Nat) → (gdOf G i).X) (a : Act) (w : World),
    listed.size = ops.length → StY P n ops k0 w0 L0 G (KY n w0 P ops Q k) ord (fun j => listed.getD j true) V ξ a w → (∀ i, i < ops.length → k ≤ i → listed.getD i true = false) → (∀ i, i < k0 → listed.getD i true = true) →
    (List.range ops.length).countP (fun i => !listed.getD i true) = fuel → Go.wpAny P .any ops.toArray Q fuel listed a w := by
  have hle := c.le
  have hfin : ∀ (fuel : Nat) (listed : Array Bool) (V : Nat → Value) (ξ : (i : Nat) → (gdOf G i).X) (a : Act) (w : World), listed.size = ops.length → StY P n ops k0 w0 L0 G (KY n w0 P ops Q k) ord (fun j => listed.getD j true) V ξ a w → (∀ i, i < ops.length → k ≤ i → listed.getD i true = false) → (∀ i, i < k → listed.getD i true = true) → (List.range ops.length).countP (fun i => !listed.getD i true) = fuel → Go.wpAny P .any ops.toArray Q fuel listed a w := by
    intro fuel listed V ξ a w hsz hst htl hpre hcnt
    have hdec : ∀ i, i < ops.length → listed.getD i true = decide (i < k) := by
      intro i hi
      by_cases hik : i < k
      · rw [hpre i hik]; simp [hik]
      · rw [htl i hi (by omega)]; simp [hik]
    rw [cnt_of hle hdec] at hcnt
    subst hcnt
    have hl := lst_eq hsz hdec
    obtain ⟨L', Γ', h1, h2, h3⟩ := Live.done (L0 := L0) (pre := []) hst.ph (fun i hi => hpre i (c.lt i hi)) Way.nil (by simp) hst.live
    have := h3 w hst.kp h2 a ⟨fun t v hv => ?_, hst.size, hst.defers⟩
    · rw [hl]; exact this
    rcases h1 t v hv with ⟨j, hj, g1, g2⟩ | ⟨g1, g2⟩
    · have hjo : j ∈ ord := by simpa using hj
      have hdj := hpre j (c.lt j hjo)
      unfold dstOf at g1
      cases hoj : ops[j]? with
      | none => rw [hoj] at g1; simp at g1
      | some oj =>
        rw [hoj] at g1
        simp only [Option.bind_some] at g1
        rw [hst.slot j oj t (c.ge j hjo) hoj hdj g1, g2 hdj]
    · refine hst.old t v g2 (fun i oi hi0 hoi hdi e => ?_)
      have hil := (List.getElem?_eq_some_iff.1 hoi).1
      have hik : i < k := by
        by_cases h : i < k
        · exact h
        · simp only [htl i hil (by omega)] at hdi; cases hdi
      exact g1 i (by simpa using c.cover i hi0 hik) (by simp [dstOf, hoi, e])
  intro fuel
  induction fuel with
  | zero =>
    intro listed V ξ a w hsz hst htl hlo hcnt
    have hall : ∀ i, i < ops.length → listed.getD i true = true := fun i hi => by
      rw [List.countP_eq_zero] at hcnt
      simpa using hcnt i (by simpa using hi)
    exact hfin 0 listed V ξ a w hsz hst htl (fun i hi => hall i (by omega)) hcnt
  | succ fuel ih =>
    intro listed V ξ a w hsz hst htl hlo hcnt
    by_cases hpre : ∀ i, i < k → listed.getD i true = true
    · exact hfin _ listed V ξ a w hsz hst htl hpre hcnt
    · constructor
      · intro hr
        exfalso
        apply hpre
        intro i
        induction i using Nat.strongRecOn with
        | _ i ihi =>
          intro hik
          cases hd : listed.getD i true with
          | true => rfl
          | false =>
            exfalso
            have : i ∈ Region.ready .any ops.toArray listed := by
              refine (ready_iff hsz).2 ⟨ops[i], by simp, hd, fun e he => ?_⟩
              have hei := c.ed i ops[i] (by simp) e he
              have := ihi e hei (by omega)
              simp only [Array.getD_eq_getD_getElem?] at this ⊢
              rw [Array.getElem?_eq_getElem (by omega)] at this ⊢
              exact this
            rw [hr] at this
            cases this
      · intro i hi
        obtain ⟨o, ho, hnd, hed'⟩ := (ready_iff hsz).1 hi
        have hil : i < ops.length := (List.getElem?_eq_some_iff.1 ho).1
        have hed : ∀ e ∈ edges o, listed.getD e true = true := by
          intro e he
          have := hed' e he
          simp only [Array.getD_eq_getD_getElem?] at this ⊢
          cases h : listed[e]? with
          | none => rfl
          | some b => rw [h] at this; exact this
        have hanc : ∀ j, anc ops i j = true → listed.getD j true = true := anc_closed hst.closed i o ho hed
        have hsz' : (listed.setIfInBounds i true).size = ops.length := by simp [hsz]
        have hset : (fun j => (listed.setIfInBounds i true).getD j true) = setD (fun j => listed.getD j true) i := funext fun j => getD_set (by omega)
        by_cases hik : i < k
        · have htl' : ∀ j, j < ops.length → k ≤ j → (listed.setIfInBounds i true).getD j true = false := by
            intro j hj hkj
            rw [getD_set (by omega), setD_ne (by omega)]
            exact htl j hj hkj
          have hcnt' : (List.range ops.length).countP (fun j => !(listed.setIfInBounds i true).getD j true) = fuel := by
            have key : ∀ (l : List Nat), l.Nodup → i ∈ l → l.countP (fun j => !listed.getD j true) = l.countP (fun j => !(listed.setIfInBounds i true).getD j true) + 1 := by
              intro l
              induction l with
              | nil => intro _ h; cases h
              | cons y l ihl =>
                intro hnl hm
                rw [List.nodup_cons] at hnl
                rw [List.countP_cons, List.countP_cons]
                by_cases e : y = i
                · subst e
                  have hsame : l.countP (fun j => !listed.getD j true) = l.countP (fun j => !(listed.setIfInBounds y true).getD j true) := by
                    apply List.countP_congr
                    intro j hj
                    rw [getD_set (by omega), setD_ne (show j ≠ y from fun e1 => hnl.1 (e1 ▸ hj))]
                  rw [hsame, getD_set (by omega), setD_same, hnd]
                  simp
                · have hm' : i ∈ l := by
                    rcases List.mem_cons.1 hm with h | h
                    · exact absurd h.symm e
                    · exact h
                  rw [ihl hnl.2 hm', getD_set (by omega), setD_ne e]
                  omega
            have := key (List.range ops.length) List.nodup_range (by simpa using hil)
            omega
          have hi0 : k0 ≤ i := by
            by_cases h : k0 ≤ i
            · exact h
            · rw [hlo i (by omega)] at hnd; cases hnd
          have hlo' : ∀ j, j < k0 → (listed.setIfInBounds i true).getD j true = true := fun j hj => by
            rw [getD_set (by omega)]
            exact setD_of (hlo j hj)
          have hio := c.cover i hi0 hik
          cases hg : isGh G i with
          | false =>
            have hgd : ∀ g A B, ord = A ++ g :: B → i ∈ B → isGh G g = true → listed.getD g true = true := by
              intro g A B he hb hgg
              have hgo : g ∈ ord := by rw [he]; simp
              have hgl : g < ops.length := Nat.lt_of_lt_of_le (c.lt g hgo) hle
              obtain ⟨_, g2⟩ := ordX_spec ord [] c.ok A g B he ops[g] (by simp [hgl])
              rcases g2 (by rw [← isGh_iff]; exact hgg) i hb with h | h
              · rw [← isGh_iff, hg] at h; cases h
              · exact hanc g h
            obtain ⟨o', L', Γ', A, B, e1, e2, e3, e4, e5⟩ := Live.plain (D := fun j => listed.getD j true) hg hnd c.nodup hio hgd Way.nil (by simp) hst.ph hst.live
            have heo : o = o' := Option.some.inj (ho.symm.trans e2)
            subst heo
            have hlk := hst.looks c htl e1 ho hnd hanc e3
            rcases e5 with ⟨hw, hl⟩ | ⟨hw, v, hkn, hrun, hl⟩
            · refine wpOp_of ho (wanted_of hlk hw) (fun h => by cases h) (fun _ => ?_)
              refine ih _ (updV V i undef) ξ _ w hsz' ?_ htl' hlo' hcnt'
              rw [hset]
              exact hst.did c hi0 ho hed (Or.inl (Kp.refl _ _)) hstab (by simp [gave, hg, updV]) (fun j hj => gave_updV hj) (fun j hj => rfl) (fun h => by rw [hg] at h; cases h) hl
            · refine wpOp_of ho (wanted_of hlk hw) (fun _ => ?_) (fun h => by cases h)
              have hr := hrun w hst.kp (fun p hp ha => e4 p hp (hanc p.1 ha))
              have hr' := OpRun.congr (c.sel o (List.mem_of_getElem? ho)) (eval_of hlk hkn) hr
              refine hr'.wp (fun v' w' ⟨h1, h2⟩ => ?_)
              subst h1
              refine ih _ (updV V i v') ξ _ w' hsz' ?_ htl' hlo' hcnt'
              rw [hset]
              exact hst.did c hi0 ho hed (Or.inl h2) hstab (by simp [gave, hg, updV]) (fun j hj => gave_updV hj) (fun j hj => rfl) (fun h => by rw [hg] at h; cases h) hl
          | true =>
            obtain ⟨o', L', Γ', A, B, e1, e2, e3, e4, hw, hkn, hea⟩ := Live.effect (D := fun j => listed.getD j true) hg hnd hanc hst.ph c.nodup hio Way.nil (by simp) hst.live
            have heo : o = o' := Option.some.inj (ho.symm.trans e2)
            subst heo
            have hlk := hst.looks c htl e1 ho hnd hanc e3
            refine wpOp_of ho (wanted_of hlk hw) (fun _ => ?_) (fun h => by cases h)
            rcases hea with ⟨hrun, hl⟩ | ⟨_, x, hrun, hl⟩
            · have hr := hrun w hst.kp (fun p hp ha => e4 p hp (hanc p.1 ha))
              have hr' := OpRun.congr (c.sel o (List.mem_of_getElem? ho)) (eval_of hlk hkn) hr
              refine hr'.wp (fun v' w' ⟨x, h1, h2, h3⟩ => ?_)
              subst h1
              refine ih _ V (updX ξ i x) _ w' hsz' ?_ htl' hlo' hcnt'
              rw [hset]
              exact hst.did c hi0 ho hed h3 hstab (by simp [gave, hg, updX_same]) (fun j hj => gave_updX hj) (fun j hj => updX_ne hj) (fun _ => by rw [updX_same]; exact h2) (hl x)
            · have hr := hrun w hst.kp (fun p hp ha => e4 p hp (hanc p.1 ha))
              have hr' := OpRun.congr (c.sel o (List.mem_of_getElem? ho)) (eval_of hlk hkn) hr
              refine hr'.wp (fun v' w' ⟨h1, h2, h3⟩ => ?_)
              subst h1
              refine ih _ V (updX ξ i x) _ w' hsz' ?_ htl' hlo' hcnt'
              rw [hset]
              exact hst.did c hi0 ho hed h3 hstab (by simp [gave, hg, updX_same]) (fun j hj => gave_updX hj) (fun j hj => updX_ne hj) (fun _ => by rw [updX_same]; exact h2) hl
        · exfalso
          apply hpre
          intro j hj
          by_cases hj0 : k0 ≤ j
          · exact hanc j (c.tl i hil (by omega) j hj0 hj)
          · exact hlo j (by omega)


theorem gd_stab (hstab : ∀ p ∈ G, ∀ x, Stab [] (p.2.phi x)) : ∀ i x, Stab [] ((gdOf G i).phi x) := by
  have : ∀ (G : List (Nat × GD)), (∀ p ∈ G, ∀ x, Stab [] (p.2.phi x)) → ∀ i, ∀ x, Stab [] ((gdOf G i).phi x) := by
    intro G
    induction G with
    | nil => intro _ i x w w' _ _; exact trivial
    | cons p G ih =>
      intro h i
      obtain ⟨j, d⟩ := p
      have e : gdOf ((j, d) :: G) i = (if Nat.beq j i = true then d else gdOf G i) := by
        unfold gdOf
        simp only [gdLook]
        cases Nat.beq j i <;> rfl
      by_cases hb : Nat.beq j i = true
      · rw [e, if_pos hb]
        exact h (j, d) (by simp)
      · rw [e, if_neg hb]
        exact ih (fun q hq => h q (by simp [hq])) i
  exact this G hstab
/-- Operations k0 .. k - 1, in whatever order. -/
theorem RG.free {w : World} {L : Env} (k : Nat) (ord : List Nat) (G : List (Nat × GD)) (hc : chkY n ops ord (G.map (·.1)) k0 k = true) (hkk : Nat.ble k0 k = true) (hstab : ∀ p ∈ G, ∀ x, Stab [] (p.2.phi x))
    (h : DerX P w ops G (KY n w P ops Q k) ord L []) : RG P n ops Q k0 L w := by
  intro a ha
  have c := ChkY.of hc
  have hle := c.le
  have hkk' : k0 ≤ k := by simpa [Nat.ble_eq] using hkk
  have hD : ∀ j, (lst ops.length k0).getD j true = (decide (j < k0) || !decide (j < ops.length)) := by
    intro j
    by_cases hj : j < ops.length
    · rw [lst_getD hj]; simp [hj]
    · have : (lst ops.length k0)[j]? = none := Array.getElem?_eq_none (by rw [lst_size]; omega)
      rw [Array.getD_eq_getD_getElem?, this]; simp [hj]
  refine StY.wpAny (w0 := w) (L0 := L) (G := G) c (gd_stab hstab) _ _ (fun _ => undef) (fun i => (gdOf G i).x0) a w (lst_size _ _) ?_ ?_ ?_ (cnt_of (k := k0) (by omega) (fun i hi => lst_getD hi))
  · refine ⟨fun i o ho hd e he => ?_, ha.size, ha.defers, fun i o d hi0 ho hd hdd => ?_, fun t v hv _ => ha.slot t v hv, Kp.refl _ _, fun i hg hd => ?_, ?_⟩
    · have hil := (List.getElem?_eq_some_iff.1 ho).1
      have hei := c.ed i o ho e he
      rw [hD] at hd ⊢
      simp [hil] at hd
      simp
      omega
    · have hil := (List.getElem?_eq_some_iff.1 ho).1
      rw [hD] at hd
      simp [hil] at hd
      omega
    · rw [isGh_iff, List.elem_eq_mem] at hg
      have hio := c.gi i (of_decide_eq_true hg)
      have h1 := c.lt i hio
      have h2 := c.ge i hio
      rw [hD] at hd
      have : i < ops.length := by omega
      simp [this] at hd
      omega
    · refine Live.congr (fun i hi => ⟨?_, rfl, rfl⟩) h
      have h1 := c.lt i hi
      have h2 := c.ge i hi
      have h3 : i < ops.length := by omega
      have h4 : ¬ i < k0 := by omega
      show false = _
      rw [hD]
      simp [h3, h4]
  · intro i hi hki
    rw [hD]
    simp [hi]
    omega
  · intro i hi
    rw [hD]
    simp [hi]
/-- One that stands between. -/
theorem RG.op {w : World} {L : Env} {o : Oper} (ho : ops[k]? = some o) (hb : ((List.range ops.length).all fun i => Nat.ble i k || anc ops i k) = true) (hed : (List.range ops.length).all (fun i => ((ops[i]?).map fun o => (edges o).all (fun e => Nat.blt e i)).getD false) = true) (hd : o.dst.all (fun d => Nat.blt d n) = true) (hs : isSelect o.op = false) (hw : want ops L o = some true) (hk : o.op.operands.toList.all (known L) = true)
    (hr : OpRun P (rho L) o w (fun v w' => RG P n ops Q (k + 1) (addD o.dst v L) w')) : RG P n ops Q k L w := by
  intro a ha
  have hkl : k < ops.length := (List.getElem?_eq_some_iff.1 ho).1
  have hsz := lst_size ops.length k
  have hed' : ∀ (i : Nat) (o : Oper), ops[i]? = some o → ∀ e ∈ edges o, e < i := fun i o ho e he => by
    have := List.all_eq_true.1 hed i (by simpa using (List.getElem?_eq_some_iff.1 ho).1)
    rw [ho] at this
    simp only [Option.map_some, Option.getD_some] at this
    simpa [Nat.blt_eq] using List.all_eq_true.1 this e he
  have hcl : ∀ (i : Nat) (o : Oper), ops[i]? = some o → (lst ops.length k).getD i true = true → ∀ e ∈ edges o, (lst ops.length k).getD e true = true := fun i o ho hi e he => by
    have hil := (List.getElem?_eq_some_iff.1 ho).1
    have hei := hed' i o ho e he
    rw [lst_getD hil] at hi
    rw [lst_getD (by omega)]
    simp at hi ⊢
    omega
  have hm : ops.length - k = (ops.length - (k + 1)) + 1 := by omega
  rw [hm]
  have hread : k ∈ Region.ready .any ops.toArray (lst ops.length k) := by
    refine (ready_iff hsz).2 ⟨o, ho, ?_, fun e he => ?_⟩
    · rw [lst_getD hkl]; simp
    · have hek := hed' k _ ho e he
      have := lst_getD (N := ops.length) (k := k) (i := e) (by omega)
      simp only [Array.getD_eq_getD_getElem?] at this ⊢
      rw [Array.getElem?_eq_getElem (by omega)] at this ⊢
      simp at this ⊢
      rw [this]
      simp [hek]
  refine ⟨fun hr => (by rw [hr] at hread; cases hread), fun i hi => ?_⟩
  obtain ⟨o', ho', h1, h2⟩ := (ready_iff hsz).1 hi
  have hil := (List.getElem?_eq_some_iff.1 ho').1
  have hge : k ≤ i := by
    rw [lst_getD hil] at h1
    simpa using h1
  have hik : i = k := by
    by_cases e : i = k
    · exact e
    · exfalso
      have hanc : anc ops i k = true := by
        have := List.all_eq_true.1 hb i (by simpa using hil)
        simp only [Bool.or_eq_true, Nat.ble_eq] at this
        rcases this with h | h
        · omega
        · exact h
      have := anc_closed hcl i o' ho' (fun e he => by
        have := h2 e he
        simp only [Array.getD_eq_getD_getElem?] at this ⊢
        cases h : (lst ops.length k)[e]? with
        | none => rfl
        | some b => rw [h] at this; exact this) k hanc
      rw [lst_getD hkl] at this
      simp at this
  subst hik
  have hoo : o = o' := Option.some.inj (ho.symm.trans ho')
  subst hoo
  have hlk : ∀ t ∈ lks ops o, ∀ v, look L t = some v → a.tmps[t]? = some v := fun t _ v hv => ha.slot t v hv
  have hset : (lst ops.length i).setIfInBounds i true = lst ops.length (i + 1) := by
    apply lst_eq (by simp [hsz])
    intro j hj
    rw [getD_set (by omega)]
    by_cases hji : j = i
    · subst hji; rw [setD_same]; simp
    · rw [setD_ne hji, lst_getD hj]
      by_cases h : j < i
      · simp [h]; omega
      · have : ¬ j < i + 1 := by omega
        simp [h, this]
  refine wpOp_of ho (wanted_of hlk hw) (fun _ => ?_) (fun h => by cases h)
  refine (OpRun.congr hs (eval_of hlk hk) hr).wp (fun v w' hg => ?_)
  rw [hset]
  refine hg _ ?_
  cases hdd : o.dst with
  | none => exact ha
  | some d =>
    rw [hdd] at hd
    exact ha.put d v (by simpa [Nat.blt_eq] using hd)

/-- The rest in text order. -/
theorem RG.tail {w : World} {L : Env} (hed : (List.range ops.length).all (fun i => ((ops[i]?).map fun o => (edges o).all (fun e => Nat.blt e i)).getD false) = true) (hc : ((List.range ops.length).all fun i => Nat.blt i k || (List.range i).all (fun j => anc ops i j)) = true) (hkl : Nat.ble k ops.length = true)
    (h : SG P n ops Q (ops.drop k) L w) : RG P n ops Q k L w := by
  intro a ha
  have hkl' : k ≤ ops.length := by simpa [Nat.ble_eq] using hkl
  have hed' : ∀ (i : Nat) (o : Oper), ops[i]? = some o → ∀ e ∈ edges o, e < i := fun i o ho e he => by
    have := List.all_eq_true.1 hed i (by simpa using (List.getElem?_eq_some_iff.1 ho).1)
    rw [ho] at this
    simp only [Option.map_some, Option.getD_some] at this
    simpa [Nat.blt_eq] using List.all_eq_true.1 this e he
  refine wpAny_tail hed' _ k _ a w (by omega) (lst_size _ _) (fun i hi hk j hj => ?_) (fun i o ho hi e he => ?_) (fun i hi => lst_getD hi) (h a ha)
  · have := List.all_eq_true.1 hc i (by simpa using hi)
    simp only [Bool.or_eq_true, Nat.blt_eq] at this
    rcases this with h | h
    · omega
    · exact List.all_eq_true.1 h j (by simpa using hj)
  · have hil := (List.getElem?_eq_some_iff.1 ho).1
    have hei := hed' i o ho e he
    rw [lst_getD hil] at hi
    rw [lst_getD (by omega)]
    simp at hi ⊢
    omega
/-- A region that draws, by phases. -/
theorem CG.phases {w : World} {L : Env} {id : Nat} (hm : P.follows .mixedOrders = true) (h : ∀ w', Kp [] w w' → RG P n ops Q 0 L w') : CG P n (.region id ops.toArray true) Q L w := by
  intro a ha
  refine wp_region_any hm ?_
  have e : Array.replicate ops.toArray.size false = lst ops.length 0 := lst_eq (by simp) (fun i hi => by simp [Array.getD_eq_getD_getElem?, hi])
  rw [e]
  have := h _ ((Kp.refl [] w).drew) a ha
  simpa using this
theorem DerX.ph {w0 : World} {L : Env} {Γ : List Fact} (h : ∀ w', Kp [] w0 w' → (∀ p ∈ Γ, p.2 w') → RG P n ops Q k L w') : DerX P w0 ops G (KY n w0 P ops Q k) [] L Γ := h

end
end Go.Proofs.Ytfelaicoedlejaa
/-
  Nets of so many parties behind deeds: both say the same.
-/
namespace Go.Proofs.Ytfelaicoedlejaa
set_option linter.unusedVariables false

theorem RG.call {P : Program} {m k : Nat} {ops : List Oper} {Q : Exit → Act → World → Prop} {L : Env} {w : World} {ty : TypeId} {pos : String} {af : Array Edge} {g : Option (Nat × Bool)} {d : Nat} {f : FuncId} [Fnc P f] {args : List Operand} {vs : List Value} {tys : Array TypeId}
    (ho : ops[k]? = some ⟨some d, .call ⟨.value (.func f), args.toArray, tys⟩, ty, pos, af, g⟩) (hb : ((List.range ops.length).all fun i => Nat.ble i k || anc ops i k) = true) (hed : (List.range ops.length).all (fun i => ((ops[i]?).map fun o => (edges o).all (fun e => Nat.blt e i)).getD false) = true)
    (hd : Nat.blt d m = true) (hw : want ops L ⟨some d, .call ⟨.value (.func f), args.toArray, tys⟩, ty, pos, af, g⟩ = some true) (hk : (Op.call ⟨.value (.func f), args.toArray, tys⟩).operands.toList.all (known L) = true) (he : Evs L args vs)
    (hc : Calls P f vs.toArray w (fun e w' => ∃ v, e = .returned v ∧ RG P m ops Q (k + 1) ((d, v) :: L) w')) : RG P m ops Q k L w :=
  RG.op ho hb hed (by simpa using hd) rfl hw hk (orun_call (by rw [he.arr]; exact hc))

attribute [local irreducible] CG NG SG Vals Der Row Blk MapIs IterAt DerX sv RG
set_option maxHeartbeats 32000000 in
theorem both_good (w : World) (n : Nat) (hn1 : 1 ≤ n) (hn2 : n ≤ 16) (a : Option Addr) (c : Nat) (l : List Dd) (hS : Sl dcl 5 w a l) (hSl : ∀ d ∈ l, SlI w d.a d.later) (hf : ∀ d ∈ l, d.bs.length ≤ 100 ∧ d.later.length ≤ 20) (hl : l.length ≤ 60) :
    Calls Try.prog 17 #[.int .i64 n, .slice a l.length c] w (fun e w' => ∃ bt bm s r v u, e = .returned (.tuple #[.pointer (some ⟨bt, 0, none⟩), .agg (rcl r v u).toArray, .bool true]) ∧ At w w' bt bm s ∧ RnAt w' r v u ∧ Rel l.length s r) := by
  refine enter2 Try.func17 rfl Try.ntmps17 rfl ?_
  repeat (first|apply CG.seq|apply CG.region|apply SG.nil|apply NG.next|apply CG.skip|apply CG.block|apply CG.ret|apply CG.exit|apply CG.scope|apply NG.ret_then|apply NG.ret_block|apply NG.ret_scope|apply NG.exit_then|refine NG.exit_block rfl ?_|refine NG.exit_other rfl ?_|apply NG.exit_scope|apply NG.normal_block|apply NG.normal_scope|refine SG.val rfl rfl rfl rfl (by first|((first|apply qmv|apply qas|apply qlc|apply qla|apply qfa|apply qnc|apply qic|apply qix|apply qpk|apply qls|apply qei|apply qni|apply qed|apply qnd|apply qad|apply qln|apply qle|apply qgt|apply qge|apply qlk|apply qlv|apply qxt|apply qsb|apply qnt|apply qep|apply qnp|apply qeb|apply qnb|apply qx2|apply qx4|apply qcv|apply qlm|apply qfr|apply qto|apply qmx|apply qen|apply qsn|apply qx8|apply qx7|apply qx6|apply qx5|apply qx4|apply qx3|apply qx2|apply qx1|apply qx0)<;>(first|exact rfl|exact Ar.mk (by omega)|assumption|exact dct (by assumption)|exact dcf (by assumption)|exact dct (by omega)|exact dcf (by omega)|exact List.not_mem_nil|exact dc_length _|exact nc_length _|exact rc_length _ _ _|exact nm1 (by omega)|exact nm2 (by omega) (by omega)|exact dct rfl|exact dct (by decide)|exact dcf (by decide)|exact (Int.toNat_of_nonneg (by omega)).symm|exact dcu|exact lk1 (by assumption)|exact lk0 (by assumption)))|fail) ?_)
  refine SG.alloc rfl rfl rfl (fun b5 w1 hk1 hb5 hB5 => ?_)
  have hB5 : Blk w1 b5 (.cells (rcl (Rn.new 0) nilS nilS).toArray 47) := hB5
  repeat (first|apply CG.seq|apply CG.region|apply SG.nil|apply NG.next|apply CG.skip|apply CG.block|apply CG.ret|apply CG.exit|apply CG.scope|apply NG.ret_then|apply NG.ret_block|apply NG.ret_scope|apply NG.exit_then|refine NG.exit_block rfl ?_|refine NG.exit_other rfl ?_|apply NG.exit_scope|apply NG.normal_block|apply NG.normal_scope|refine SG.val rfl rfl rfl rfl (by first|((first|apply qmv|apply qas|apply qlc|apply qla|apply qfa|apply qnc|apply qic|apply qix|apply qpk|apply qls|apply qei|apply qni|apply qed|apply qnd|apply qad|apply qln|apply qle|apply qgt|apply qge|apply qlk|apply qlv|apply qxt|apply qsb|apply qnt|apply qep|apply qnp|apply qeb|apply qnb|apply qx2|apply qx4|apply qcv|apply qlm|apply qfr|apply qto|apply qmx|apply qen|apply qsn|apply qx8|apply qx7|apply qx6|apply qx5|apply qx4|apply qx3|apply qx2|apply qx1|apply qx0)<;>(first|exact rfl|exact Ar.mk (by omega)|assumption|exact dct (by assumption)|exact dcf (by assumption)|exact dct (by omega)|exact dcf (by omega)|exact List.not_mem_nil|exact dc_length _|exact nc_length _|exact rc_length _ _ _|exact nm1 (by omega)|exact nm2 (by omega) (by omega)|exact dct rfl|exact dct (by decide)|exact dcf (by decide)|exact (Int.toNat_of_nonneg (by omega)).symm|exact dcu|exact lk1 (by assumption)|exact lk0 (by assumption)))|fail) ?_)
  refine SG.call rfl rfl rfl (by repeat' (first | exact True.intro | exact rho_of rfl | refine And.intro ?_ ?_)) ((new_at w1 n hn1 hn2).mono (fun e w2 hh => ?_))
  obtain ⟨bt, bm, he2, hA2⟩ := hh
  refine ⟨_, he2, ?_⟩
  repeat (first|apply CG.seq|apply CG.region|apply SG.nil|apply NG.next|apply CG.skip|apply CG.block|apply CG.ret|apply CG.exit|apply CG.scope|apply NG.ret_then|apply NG.ret_block|apply NG.ret_scope|apply NG.exit_then|refine NG.exit_block rfl ?_|refine NG.exit_other rfl ?_|apply NG.exit_scope|apply NG.normal_block|apply NG.normal_scope|refine SG.val rfl rfl rfl rfl (by first|((first|apply qmv|apply qas|apply qlc|apply qla|apply qfa|apply qnc|apply qic|apply qix|apply qpk|apply qls|apply qei|apply qni|apply qed|apply qnd|apply qad|apply qln|apply qle|apply qgt|apply qge|apply qlk|apply qlv|apply qxt|apply qsb|apply qnt|apply qep|apply qnp|apply qeb|apply qnb|apply qx2|apply qx4|apply qcv|apply qlm|apply qfr|apply qto|apply qmx|apply qen|apply qsn|apply qx8|apply qx7|apply qx6|apply qx5|apply qx4|apply qx3|apply qx2|apply qx1|apply qx0)<;>(first|exact rfl|exact Ar.mk (by omega)|assumption|exact dct (by assumption)|exact dcf (by assumption)|exact dct (by omega)|exact dcf (by omega)|exact List.not_mem_nil|exact dc_length _|exact nc_length _|exact rc_length _ _ _|exact nm1 (by omega)|exact nm2 (by omega) (by omega)|exact dct rfl|exact dct (by decide)|exact dcf (by decide)|exact (Int.toNat_of_nonneg (by omega)).symm|exact dcu|exact lk1 (by assumption)|exact lk0 (by assumption)))|fail) ?_)
  refine SG.ret rfl rfl rfl (by repeat' (first | exact True.intro | exact rho_of rfl | refine And.intro ?_ ?_)) (rnew_good w2 n hn1 hn2) (fun w3 hk3 => ?_)
  repeat (first|apply CG.seq|apply CG.region|apply SG.nil|apply NG.next|apply CG.skip|apply CG.block|apply CG.ret|apply CG.exit|apply CG.scope|apply NG.ret_then|apply NG.ret_block|apply NG.ret_scope|apply NG.exit_then|refine NG.exit_block rfl ?_|refine NG.exit_other rfl ?_|apply NG.exit_scope|apply NG.normal_block|apply NG.normal_scope|refine SG.val rfl rfl rfl rfl (by first|((first|apply qmv|apply qas|apply qlc|apply qla|apply qfa|apply qnc|apply qic|apply qix|apply qpk|apply qls|apply qei|apply qni|apply qed|apply qnd|apply qad|apply qln|apply qle|apply qgt|apply qge|apply qlk|apply qlv|apply qxt|apply qsb|apply qnt|apply qep|apply qnp|apply qeb|apply qnb|apply qx2|apply qx4|apply qcv|apply qlm|apply qfr|apply qto|apply qmx|apply qen|apply qsn|apply qx8|apply qx7|apply qx6|apply qx5|apply qx4|apply qx3|apply qx2|apply qx1|apply qx0)<;>(first|exact rfl|exact Ar.mk (by omega)|assumption|exact dct (by assumption)|exact dcf (by assumption)|exact dct (by omega)|exact dcf (by omega)|exact List.not_mem_nil|exact dc_length _|exact nc_length _|exact rc_length _ _ _|exact nm1 (by omega)|exact nm2 (by omega) (by omega)|exact dct rfl|exact dct (by decide)|exact dcf (by decide)|exact (Int.toNat_of_nonneg (by omega)).symm|exact dcu|exact lk1 (by assumption)|exact lk0 (by assumption)))|fail) ?_)
  refine SG.alloc rfl rfl rfl (fun b9 w4 hk4 hb9 hB4 => ?_)
  refine SG.setAll (old := rcl (Rn.new 0) nilS nilS) (l := rcl (Rn.new n) nilS nilS) rfl rfl (by exact rho_of rfl) (by exact rho_of rfl) hB4 rfl rfl rfl (fun w5 hk5 hB9 => ?_)
  have hk35 : Kp [] w3 w5 := hk4.trans_new hk5 (new1 hb9)
  have hA5 := (hA2.kp0 hk3).kp0 hk35
  have hB55 := ((hB5.kp0 hA2.kp).kp0 hk3).kp0 hk35
  repeat (first | first|apply CG.seq|apply CG.region|apply SG.nil|apply NG.next|apply CG.skip|apply CG.block|apply CG.ret|apply CG.exit|apply CG.scope|apply NG.ret_then|apply NG.ret_block|apply NG.ret_scope|apply NG.exit_then|refine NG.exit_block rfl ?_|refine NG.exit_other rfl ?_|apply NG.exit_scope|apply NG.normal_block|apply NG.normal_scope|refine SG.val rfl rfl rfl rfl (by first|((first|apply qmv|apply qas|apply qlc|apply qla|apply qfa|apply qnc|apply qic|apply qix|apply qpk|apply qls|apply qei|apply qni|apply qed|apply qnd|apply qad|apply qln|apply qle|apply qgt|apply qge|apply qlk|apply qlv|apply qxt|apply qsb|apply qnt|apply qep|apply qnp|apply qeb|apply qnb|apply qx2|apply qx4|apply qcv|apply qlm|apply qfr|apply qto|apply qmx|apply qen|apply qsn|apply qx8|apply qx7|apply qx6|apply qx5|apply qx4|apply qx3|apply qx2|apply qx1|apply qx0)<;>(first|exact rfl|exact Ar.mk (by omega)|assumption|exact dct (by assumption)|exact dcf (by assumption)|exact dct (by omega)|exact dcf (by omega)|exact List.not_mem_nil|exact dc_length _|exact nc_length _|exact rc_length _ _ _|exact nm1 (by omega)|exact nm2 (by omega) (by omega)|exact dct rfl|exact dct (by decide)|exact dcf (by decide)|exact (Int.toNat_of_nonneg (by omega)).symm|exact dcu|exact lk1 (by assumption)|exact lk0 (by assumption)))|fail) ?_ | refine SG.skip rfl rfl ?_)
  refine CG.cond_f rfl (by exact rho_of rfl) rfl ?_
  repeat (first|apply CG.seq|apply CG.region|apply SG.nil|apply NG.next|apply CG.skip|apply CG.block|apply CG.ret|apply CG.exit|apply CG.scope|apply NG.ret_then|apply NG.ret_block|apply NG.ret_scope|apply NG.exit_then|refine NG.exit_block rfl ?_|refine NG.exit_other rfl ?_|apply NG.exit_scope|apply NG.normal_block|apply NG.normal_scope|refine SG.val rfl rfl rfl rfl (by first|((first|apply qmv|apply qas|apply qlc|apply qla|apply qfa|apply qnc|apply qic|apply qix|apply qpk|apply qls|apply qei|apply qni|apply qed|apply qnd|apply qad|apply qln|apply qle|apply qgt|apply qge|apply qlk|apply qlv|apply qxt|apply qsb|apply qnt|apply qep|apply qnp|apply qeb|apply qnb|apply qx2|apply qx4|apply qcv|apply qlm|apply qfr|apply qto|apply qmx|apply qen|apply qsn|apply qx8|apply qx7|apply qx6|apply qx5|apply qx4|apply qx3|apply qx2|apply qx1|apply qx0)<;>(first|exact rfl|exact Ar.mk (by omega)|assumption|exact dct (by assumption)|exact dcf (by assumption)|exact dct (by omega)|exact dcf (by omega)|exact List.not_mem_nil|exact dc_length _|exact nc_length _|exact rc_length _ _ _|exact nm1 (by omega)|exact nm2 (by omega) (by omega)|exact dct rfl|exact dct (by decide)|exact dcf (by decide)|exact (Int.toNat_of_nonneg (by omega)).symm|exact dcu|exact lk1 (by assumption)|exact lk0 (by assumption)))|fail) ?_)
  refine CG.loop (X := Nat × Ns × Rn × Value × Value) (fun q => [(0, .int .i64 n), (1, .slice a l.length c), (5, .pointer (some ⟨b5, 0, none⟩)), (7, .pointer (some ⟨bt, 0, none⟩)), (9, .pointer (some ⟨b9, 0, none⟩)), (10, .bool true), (11, .int .i64 (q.1 : Int))])
    (fun q w' => q.1 ≤ l.length ∧ At w1 w' bt bm q.2.1 ∧ Blk w' b9 (.cells (rcl q.2.2.1 q.2.2.2.1 q.2.2.2.2).toArray 47) ∧ RnAt w' q.2.2.1 q.2.2.2.1 q.2.2.2.2 ∧ Rel q.1 q.2.1 q.2.2.1) (fun q => l.length - q.1) (0, Ns.new n, Rn.new n, nilS, nilS)
    ⟨Nat.zero_le _, hA5, hB9, ⟨own_nil, own_nil⟩, rel0 n hn2⟩ (by (repeat' (first | exact True.intro | exact rfl | refine And.intro ?_ ?_))) ?_
  rintro ⟨i, s, r, v, u⟩ w6 ⟨hi, hA6, hB96, hR6, hrel⟩
  replace hi : i ≤ l.length := hi
  replace hA6 : At w1 w6 bt bm s := hA6
  replace hB96 : Blk w6 b9 (.cells (rcl r v u).toArray 47) := hB96
  replace hR6 : RnAt w6 r v u := hR6
  replace hrel : Rel i s r := hrel
  refine CG.to [(0, .int .i64 n), (1, .slice a l.length c), (5, .pointer (some ⟨b5, 0, none⟩)), (7, .pointer (some ⟨bt, 0, none⟩)), (9, .pointer (some ⟨b9, 0, none⟩)), (10, .bool true), (11, .int .i64 (i : Int))] (by (repeat' (first | exact True.intro | exact rfl | refine And.intro ?_ ?_))) ?_
  have hB56 := hB5.kp0 hA6.kp
  have e9 : w1.heap.size ≤ b9 := by have := hA2.kp.size; have := hk3.size; omega
  by_cases hlt : i < l.length
  · have g1 : (i : Int) < (l.length : Int) := by omega
    obtain ⟨ba, oa, rfl, hr⟩ := ((hS.kp0 hk1).kp0 hA6.kp).at hlt
    have hfd := hf _ (List.getElem_mem hlt)
    have hSd := (hSl _ (List.getElem_mem hlt)).kp0 hk1
    generalize l[i] = d at hr hfd hSd
    repeat (first | first|apply CG.seq|apply CG.region|apply SG.nil|apply NG.next|apply CG.skip|apply CG.block|apply CG.ret|apply CG.exit|apply CG.scope|apply NG.ret_then|apply NG.ret_block|apply NG.ret_scope|apply NG.exit_then|refine NG.exit_block rfl ?_|refine NG.exit_other rfl ?_|apply NG.exit_scope|apply NG.normal_block|apply NG.normal_scope|refine SG.val rfl rfl rfl rfl (by first|((first|apply qmv|apply qas|apply qlc|apply qla|apply qfa|apply qnc|apply qic|apply qix|apply qpk|apply qls|apply qei|apply qni|apply qed|apply qnd|apply qad|apply qln|apply qle|apply qgt|apply qge|apply qlk|apply qlv|apply qxt|apply qsb|apply qnt|apply qep|apply qnp|apply qeb|apply qnb|apply qx2|apply qx4|apply qcv|apply qlm|apply qfr|apply qto|apply qmx|apply qen|apply qsn|apply qx8|apply qx7|apply qx6|apply qx5|apply qx4|apply qx3|apply qx2|apply qx1|apply qx0)<;>(first|exact rfl|exact Ar.mk (by omega)|assumption|exact dct (by assumption)|exact dcf (by assumption)|exact dct (by omega)|exact dcf (by omega)|exact List.not_mem_nil|exact dc_length _|exact nc_length _|exact rc_length _ _ _|exact nm1 (by omega)|exact nm2 (by omega) (by omega)|exact dct rfl|exact dct (by decide)|exact dcf (by decide)|exact (Int.toNat_of_nonneg (by omega)).symm|exact dcu|exact lk1 (by assumption)|exact lk0 (by assumption)))|fail) ?_ | refine SG.skip rfl rfl ?_)
    refine CG.cond_t rfl (by exact rho_of rfl) rfl ?_
    repeat (first|apply CG.seq|apply CG.region|apply SG.nil|apply NG.next|apply CG.skip|apply CG.block|apply CG.ret|apply CG.exit|apply CG.scope|apply NG.ret_then|apply NG.ret_block|apply NG.ret_scope|apply NG.exit_then|refine NG.exit_block rfl ?_|refine NG.exit_other rfl ?_|apply NG.exit_scope|apply NG.normal_block|apply NG.normal_scope|refine SG.val rfl rfl rfl rfl (by first|((first|apply qmv|apply qas|apply qlc|apply qla|apply qfa|apply qnc|apply qic|apply qix|apply qpk|apply qls|apply qei|apply qni|apply qed|apply qnd|apply qad|apply qln|apply qle|apply qgt|apply qge|apply qlk|apply qlv|apply qxt|apply qsb|apply qnt|apply qep|apply qnp|apply qeb|apply qnb|apply qx2|apply qx4|apply qcv|apply qlm|apply qfr|apply qto|apply qmx|apply qen|apply qsn|apply qx8|apply qx7|apply qx6|apply qx5|apply qx4|apply qx3|apply qx2|apply qx1|apply qx0)<;>(first|exact rfl|exact Ar.mk (by omega)|assumption|exact dct (by assumption)|exact dcf (by assumption)|exact dct (by omega)|exact dcf (by omega)|exact List.not_mem_nil|exact dc_length _|exact nc_length _|exact rc_length _ _ _|exact nm1 (by omega)|exact nm2 (by omega) (by omega)|exact dct rfl|exact dct (by decide)|exact dcf (by decide)|exact (Int.toNat_of_nonneg (by omega)).symm|exact dcu|exact lk1 (by assumption)|exact lk0 (by assumption)))|fail) ?_)
    refine CG.phases mixed (fun w7 hk7 => ?_)
    have hr7 := hr.kp0 hk7
    refine RG.free 5 [0, 1, 2, 3, 4] [] (by kernel_rfl) rfl (by simp) ?_
    repeat (refine DerX.val rfl rfl rfl rfl (by first|((first|apply qmv|apply qas|apply qlc|apply qla|apply qfa|apply qnc|apply qic|apply qix|apply qpk|apply qls|apply qei|apply qni|apply qed|apply qnd|apply qad|apply qln|apply qle|apply qgt|apply qge|apply qlk|apply qlv|apply qxt|apply qsb|apply qnt|apply qep|apply qnp|apply qeb|apply qnb|apply qx2|apply qx4|apply qcv|apply qlm|apply qfr|apply qto|apply qmx|apply qen|apply qsn|apply qx8|apply qx7|apply qx6|apply qx5|apply qx4|apply qx3|apply qx2|apply qx1|apply qx0)<;>(first|exact rfl|exact Ar.mk (by omega)|assumption|exact dct (by assumption)|exact dcf (by assumption)|exact dct (by omega)|exact dcf (by omega)|exact List.not_mem_nil|exact dc_length _|exact nc_length _|exact rc_length _ _ _|exact nm1 (by omega)|exact nm2 (by omega) (by omega)|exact dct rfl|exact dct (by decide)|exact dcf (by decide)|exact (Int.toNat_of_nonneg (by omega)).symm|exact dcu|exact lk1 (by assumption)|exact lk0 (by assumption)))|fail) ?_)
    refine DerX.ph (fun w8 hk8 _ => ?_)
    have k68 := hk7.trans hk8
    refine RG.call rfl (by kernel_rfl) (by kernel_rfl) rfl rfl rfl (by repeat' (first | exact True.intro | exact rho_of rfl | refine And.intro ?_ ?_)) ((do_spec (hA6.kp0 k68) (hB96.kp0 k68) e9 (hR6.kp0 k68) hrel (by omega) d hfd hSd).mono (fun e w9 hh => ?_))
    obtain ⟨s', r', v', u', he9, hA9, hB9', hR9, hrel9⟩ := hh
    refine ⟨_, he9, ?_⟩
    obtain ⟨av, cv, rfl⟩ := own_slice hR9.way
    obtain ⟨q0, q1, q2, q3, q4⟩ := rows47 hB9'
    have hnow := hrel9.now
    have hway := congrArg List.length hrel9.way
    refine RG.free 20 [6, 7, 8, 9, 10, 11, 12, 13, 14, 15, 16, 17, 18, 19] [] (by kernel_rfl) rfl (by simp) ?_
    have hnow' : (s'.now : Int) = (r'.now : Int) := by rw [hnow]
    have hway' : (s'.pend.length : Int) = (r'.way.length : Int) := by rw [hway]
    repeat (first | refine DerX.val rfl rfl rfl rfl (by first|((first|apply qmv|apply qas|apply qlc|apply qla|apply qfa|apply qnc|apply qic|apply qix|apply qpk|apply qls|apply qei|apply qni|apply qed|apply qnd|apply qad|apply qln|apply qle|apply qgt|apply qge|apply qlk|apply qlv|apply qxt|apply qsb|apply qnt|apply qep|apply qnp|apply qeb|apply qnb|apply qx2|apply qx4|apply qcv|apply qlm|apply qfr|apply qto|apply qmx|apply qen|apply qsn|apply qx8|apply qx7|apply qx6|apply qx5|apply qx4|apply qx3|apply qx2|apply qx1|apply qx0)<;>(first|exact rfl|exact Ar.mk (by omega)|assumption|exact dct (by assumption)|exact dcf (by assumption)|exact dct (by omega)|exact dcf (by omega)|exact List.not_mem_nil|exact dc_length _|exact nc_length _|exact rc_length _ _ _|exact nm1 (by omega)|exact nm2 (by omega) (by omega)|exact dct rfl|exact dct (by decide)|exact dcf (by decide)|exact (Int.toNat_of_nonneg (by omega)).symm|exact dcu|exact lk1 (by assumption)|exact lk0 (by assumption)))|fail) ?_ | refine DerX.skip rfl rfl rfl ?_)
    refine DerX.call rfl rfl rfl rfl (by repeat' (first | exact True.intro | exact rho_of rfl | refine And.intro ?_ ?_)) (fun w hk _ => now_at (hA9.kp0 hk)) ?_
    repeat (first | refine DerX.val rfl rfl rfl rfl (by first|((first|apply qmv|apply qas|apply qlc|apply qla|apply qfa|apply qnc|apply qic|apply qix|apply qpk|apply qls|apply qei|apply qni|apply qed|apply qnd|apply qad|apply qln|apply qle|apply qgt|apply qge|apply qlk|apply qlv|apply qxt|apply qsb|apply qnt|apply qep|apply qnp|apply qeb|apply qnb|apply qx2|apply qx4|apply qcv|apply qlm|apply qfr|apply qto|apply qmx|apply qen|apply qsn|apply qx8|apply qx7|apply qx6|apply qx5|apply qx4|apply qx3|apply qx2|apply qx1|apply qx0)<;>(first|exact rfl|exact Ar.mk (by omega)|assumption|exact dct (by assumption)|exact dcf (by assumption)|exact dct (by omega)|exact dcf (by omega)|exact List.not_mem_nil|exact dc_length _|exact nc_length _|exact rc_length _ _ _|exact nm1 (by omega)|exact nm2 (by omega) (by omega)|exact dct rfl|exact dct (by decide)|exact dcf (by decide)|exact (Int.toNat_of_nonneg (by omega)).symm|exact dcu|exact lk1 (by assumption)|exact lk0 (by assumption)))|fail) ?_ | refine DerX.skip rfl rfl rfl ?_)
    refine DerX.call rfl rfl rfl rfl (by repeat' (first | exact True.intro | exact rho_of rfl | refine And.intro ?_ ?_)) (fun w hk _ => way_at (hA9.kp0 hk)) ?_
    repeat (first | refine DerX.val rfl rfl rfl rfl (by first|((first|apply qmv|apply qas|apply qlc|apply qla|apply qfa|apply qnc|apply qic|apply qix|apply qpk|apply qls|apply qei|apply qni|apply qed|apply qnd|apply qad|apply qln|apply qle|apply qgt|apply qge|apply qlk|apply qlv|apply qxt|apply qsb|apply qnt|apply qep|apply qnp|apply qeb|apply qnb|apply qx2|apply qx4|apply qcv|apply qlm|apply qfr|apply qto|apply qmx|apply qen|apply qsn|apply qx8|apply qx7|apply qx6|apply qx5|apply qx4|apply qx3|apply qx2|apply qx1|apply qx0)<;>(first|exact rfl|exact Ar.mk (by omega)|assumption|exact dct (by assumption)|exact dcf (by assumption)|exact dct (by omega)|exact dcf (by omega)|exact List.not_mem_nil|exact dc_length _|exact nc_length _|exact rc_length _ _ _|exact nm1 (by omega)|exact nm2 (by omega) (by omega)|exact dct rfl|exact dct (by decide)|exact dcf (by decide)|exact (Int.toNat_of_nonneg (by omega)).symm|exact dcu|exact lk1 (by assumption)|exact lk0 (by assumption)))|fail) ?_ | refine DerX.skip rfl rfl rfl ?_)
    refine DerX.ph (fun w10 hk10 _ => ?_)
    refine RG.tail (by kernel_rfl) (by kernel_rfl) rfl ?_
    repeat (first | first|apply CG.seq|apply CG.region|apply SG.nil|apply NG.next|apply CG.skip|apply CG.block|apply CG.ret|apply CG.exit|apply CG.scope|apply NG.ret_then|apply NG.ret_block|apply NG.ret_scope|apply NG.exit_then|refine NG.exit_block rfl ?_|refine NG.exit_other rfl ?_|apply NG.exit_scope|apply NG.normal_block|apply NG.normal_scope|refine SG.val rfl rfl rfl rfl (by first|((first|apply qmv|apply qas|apply qlc|apply qla|apply qfa|apply qnc|apply qic|apply qix|apply qpk|apply qls|apply qei|apply qni|apply qed|apply qnd|apply qad|apply qln|apply qle|apply qgt|apply qge|apply qlk|apply qlv|apply qxt|apply qsb|apply qnt|apply qep|apply qnp|apply qeb|apply qnb|apply qx2|apply qx4|apply qcv|apply qlm|apply qfr|apply qto|apply qmx|apply qen|apply qsn|apply qx8|apply qx7|apply qx6|apply qx5|apply qx4|apply qx3|apply qx2|apply qx1|apply qx0)<;>(first|exact rfl|exact Ar.mk (by omega)|assumption|exact dct (by assumption)|exact dcf (by assumption)|exact dct (by omega)|exact dcf (by omega)|exact List.not_mem_nil|exact dc_length _|exact nc_length _|exact rc_length _ _ _|exact nm1 (by omega)|exact nm2 (by omega) (by omega)|exact dct rfl|exact dct (by decide)|exact dcf (by decide)|exact (Int.toNat_of_nonneg (by omega)).symm|exact dcu|exact lk1 (by assumption)|exact lk0 (by assumption)))|fail) ?_ | refine SG.skip rfl rfl ?_)
    refine CG.cond_f rfl (by exact rho_of rfl) rfl ?_
    repeat (first|apply CG.seq|apply CG.region|apply SG.nil|apply NG.next|apply CG.skip|apply CG.block|apply CG.ret|apply CG.exit|apply CG.scope|apply NG.ret_then|apply NG.ret_block|apply NG.ret_scope|apply NG.exit_then|refine NG.exit_block rfl ?_|refine NG.exit_other rfl ?_|apply NG.exit_scope|apply NG.normal_block|apply NG.normal_scope|refine SG.val rfl rfl rfl rfl (by first|((first|apply qmv|apply qas|apply qlc|apply qla|apply qfa|apply qnc|apply qic|apply qix|apply qpk|apply qls|apply qei|apply qni|apply qed|apply qnd|apply qad|apply qln|apply qle|apply qgt|apply qge|apply qlk|apply qlv|apply qxt|apply qsb|apply qnt|apply qep|apply qnp|apply qeb|apply qnb|apply qx2|apply qx4|apply qcv|apply qlm|apply qfr|apply qto|apply qmx|apply qen|apply qsn|apply qx8|apply qx7|apply qx6|apply qx5|apply qx4|apply qx3|apply qx2|apply qx1|apply qx0)<;>(first|exact rfl|exact Ar.mk (by omega)|assumption|exact dct (by assumption)|exact dcf (by assumption)|exact dct (by omega)|exact dcf (by omega)|exact List.not_mem_nil|exact dc_length _|exact nc_length _|exact rc_length _ _ _|exact nm1 (by omega)|exact nm2 (by omega) (by omega)|exact dct rfl|exact dct (by decide)|exact dcf (by decide)|exact (Int.toNat_of_nonneg (by omega)).symm|exact dcu|exact lk1 (by assumption)|exact lk0 (by assumption)))|fail) ?_)
    exact NG.round (i + 1, s', r', .slice av r'.way.length cv, u') (by (repeat' (first | exact True.intro | exact rfl | refine And.intro ?_ ?_))) ⟨by show i + 1 ≤ l.length; omega, hA9.kp0 hk10, hB9'.kp0 hk10, hR9.kp0 hk10, hrel9⟩ (by show l.length - (i + 1) < l.length - i; omega)
  have g1 : ¬ (i : Int) < (l.length : Int) := by omega
  have ei : i = l.length := by omega
  subst ei
  obtain ⟨q0, q1, q2, q3, q4⟩ := rows47 hB96
  repeat (first | first|apply CG.seq|apply CG.region|apply SG.nil|apply NG.next|apply CG.skip|apply CG.block|apply CG.ret|apply CG.exit|apply CG.scope|apply NG.ret_then|apply NG.ret_block|apply NG.ret_scope|apply NG.exit_then|refine NG.exit_block rfl ?_|refine NG.exit_other rfl ?_|apply NG.exit_scope|apply NG.normal_block|apply NG.normal_scope|refine SG.val rfl rfl rfl rfl (by first|((first|apply qmv|apply qas|apply qlc|apply qla|apply qfa|apply qnc|apply qic|apply qix|apply qpk|apply qls|apply qei|apply qni|apply qed|apply qnd|apply qad|apply qln|apply qle|apply qgt|apply qge|apply qlk|apply qlv|apply qxt|apply qsb|apply qnt|apply qep|apply qnp|apply qeb|apply qnb|apply qx2|apply qx4|apply qcv|apply qlm|apply qfr|apply qto|apply qmx|apply qen|apply qsn|apply qx8|apply qx7|apply qx6|apply qx5|apply qx4|apply qx3|apply qx2|apply qx1|apply qx0)<;>(first|exact rfl|exact Ar.mk (by omega)|assumption|exact dct (by assumption)|exact dcf (by assumption)|exact dct (by omega)|exact dcf (by omega)|exact List.not_mem_nil|exact dc_length _|exact nc_length _|exact rc_length _ _ _|exact nm1 (by omega)|exact nm2 (by omega) (by omega)|exact dct rfl|exact dct (by decide)|exact dcf (by decide)|exact (Int.toNat_of_nonneg (by omega)).symm|exact dcu|exact lk1 (by assumption)|exact lk0 (by assumption)))|fail) ?_ | refine SG.skip rfl rfl ?_)
  refine CG.cond_f rfl (by exact rho_of rfl) rfl ?_
  repeat (first|apply CG.seq|apply CG.region|apply SG.nil|apply NG.next|apply CG.skip|apply CG.block|apply CG.ret|apply CG.exit|apply CG.scope|apply NG.ret_then|apply NG.ret_block|apply NG.ret_scope|apply NG.exit_then|refine NG.exit_block rfl ?_|refine NG.exit_other rfl ?_|apply NG.exit_scope|apply NG.normal_block|apply NG.normal_scope|refine SG.val rfl rfl rfl rfl (by first|((first|apply qmv|apply qas|apply qlc|apply qla|apply qfa|apply qnc|apply qic|apply qix|apply qpk|apply qls|apply qei|apply qni|apply qed|apply qnd|apply qad|apply qln|apply qle|apply qgt|apply qge|apply qlk|apply qlv|apply qxt|apply qsb|apply qnt|apply qep|apply qnp|apply qeb|apply qnb|apply qx2|apply qx4|apply qcv|apply qlm|apply qfr|apply qto|apply qmx|apply qen|apply qsn|apply qx8|apply qx7|apply qx6|apply qx5|apply qx4|apply qx3|apply qx2|apply qx1|apply qx0)<;>(first|exact rfl|exact Ar.mk (by omega)|assumption|exact dct (by assumption)|exact dcf (by assumption)|exact dct (by omega)|exact dcf (by omega)|exact List.not_mem_nil|exact dc_length _|exact nc_length _|exact rc_length _ _ _|exact nm1 (by omega)|exact nm2 (by omega) (by omega)|exact dct rfl|exact dct (by decide)|exact dcf (by decide)|exact (Int.toNat_of_nonneg (by omega)).symm|exact dcu|exact lk1 (by assumption)|exact lk0 (by assumption)))|fail) ?_)
  refine CG.tail mixed 3 [0, 1, 2] (by kernel_rfl) ?_
  repeat (refine Der.val rfl rfl rfl (by first|((first|apply qmv|apply qas|apply qlc|apply qla|apply qfa|apply qnc|apply qic|apply qix|apply qpk|apply qls|apply qei|apply qni|apply qed|apply qnd|apply qad|apply qln|apply qle|apply qgt|apply qge|apply qlk|apply qlv|apply qxt|apply qsb|apply qnt|apply qep|apply qnp|apply qeb|apply qnb|apply qx2|apply qx4|apply qcv|apply qlm|apply qfr|apply qto|apply qmx|apply qen|apply qsn|apply qx8|apply qx7|apply qx6|apply qx5|apply qx4|apply qx3|apply qx2|apply qx1|apply qx0)<;>(first|exact rfl|exact Ar.mk (by omega)|assumption|exact dct (by assumption)|exact dcf (by assumption)|exact dct (by omega)|exact dcf (by omega)|exact List.not_mem_nil|exact dc_length _|exact nc_length _|exact rc_length _ _ _|exact nm1 (by omega)|exact nm2 (by omega) (by omega)|exact dct rfl|exact dct (by decide)|exact dcf (by decide)|exact (Int.toNat_of_nonneg (by omega)).symm|exact dcu|exact lk1 (by assumption)|exact lk0 (by assumption)))|fail) ?_)
  refine Der.tl (fun w7 hk7 _ _ => ?_)
  refine SG.setAll (old := rcl (Rn.new 0) nilS nilS) (l := rcl r v u) rfl rfl (by exact rho_of rfl) (by exact rho_of rfl) (hB56.kp0 hk7) rfl rfl hR6.one (fun w8 hk8 hB8 => ?_)
  obtain ⟨_, _, _, _, hres⟩ := rows47 hB8
  repeat (first|apply CG.seq|apply CG.region|apply SG.nil|apply NG.next|apply CG.skip|apply CG.block|apply CG.ret|apply CG.exit|apply CG.scope|apply NG.ret_then|apply NG.ret_block|apply NG.ret_scope|apply NG.exit_then|refine NG.exit_block rfl ?_|refine NG.exit_other rfl ?_|apply NG.exit_scope|apply NG.normal_block|apply NG.normal_scope|refine SG.val rfl rfl rfl rfl (by first|((first|apply qmv|apply qas|apply qlc|apply qla|apply qfa|apply qnc|apply qic|apply qix|apply qpk|apply qls|apply qei|apply qni|apply qed|apply qnd|apply qad|apply qln|apply qle|apply qgt|apply qge|apply qlk|apply qlv|apply qxt|apply qsb|apply qnt|apply qep|apply qnp|apply qeb|apply qnb|apply qx2|apply qx4|apply qcv|apply qlm|apply qfr|apply qto|apply qmx|apply qen|apply qsn|apply qx8|apply qx7|apply qx6|apply qx5|apply qx4|apply qx3|apply qx2|apply qx1|apply qx0)<;>(first|exact rfl|exact Ar.mk (by omega)|assumption|exact dct (by assumption)|exact dcf (by assumption)|exact dct (by omega)|exact dcf (by omega)|exact List.not_mem_nil|exact dc_length _|exact nc_length _|exact rc_length _ _ _|exact nm1 (by omega)|exact nm2 (by omega) (by omega)|exact dct rfl|exact dct (by decide)|exact dcf (by decide)|exact (Int.toNat_of_nonneg (by omega)).symm|exact dcu|exact lk1 (by assumption)|exact lk0 (by assumption)))|fail) ?_)
  refine ret3 (Or.inl rfl) Try.results17 (by first | exact ResV.tmp rfl | exact ResV.agg rfl rfl (by assumption) (by first | exact dc_length _ | exact nc_length _ | exact rc_length _ _ _ | rfl) | exact ResV.cell rfl rfl (by assumption)) (ResV.agg rfl rfl hres rfl) (by first | exact ResV.tmp rfl | exact ResV.agg rfl rfl (by assumption) (by first | exact dc_length _ | exact nc_length _ | exact rc_length _ _ _ | rfl) | exact ResV.cell rfl rfl (by assumption)) ?_
  have hA8 : At w w8 bt bm s := by
    obtain ⟨h1, due, h2, h3⟩ := hA6.kp0 hk7
    exact ⟨(hk1.trans h1).trans_new hk8 (new1 hb5), due, h2.kp1 (hB56.kp0 hk7) (by decide) (by decide) (by decide) hk8, fun z hz => by have := h3 z hz; have := hk1.size; omega⟩
  exact ⟨bt, bm, s, r, v, u, rfl, hA8, (hR6.kp0 hk7).kpb (hB56.kp0 hk7) hk8, hrel⟩
set_option maxHeartbeats 32000000 in
theorem both_bad (w : World) (n : Int) (hn : n < 1 ∨ 16 < n) (a : Option Addr) (c m : Nat) : Calls Try.prog 17 #[.int .i64 n, .slice a m c] w (fun e w' => e = .returned (.tuple #[.pointer none, .agg (rcl (Rn.new 0) nilS nilS).toArray, .bool true]) ∧ Kp [] w w') := by
  refine enter2 Try.func17 rfl Try.ntmps17 rfl ?_
  repeat (first|apply CG.seq|apply CG.region|apply SG.nil|apply NG.next|apply CG.skip|apply CG.block|apply CG.ret|apply CG.exit|apply CG.scope|apply NG.ret_then|apply NG.ret_block|apply NG.ret_scope|apply NG.exit_then|refine NG.exit_block rfl ?_|refine NG.exit_other rfl ?_|apply NG.exit_scope|apply NG.normal_block|apply NG.normal_scope|refine SG.val rfl rfl rfl rfl (by first|((first|apply qmv|apply qas|apply qlc|apply qla|apply qfa|apply qnc|apply qic|apply qix|apply qpk|apply qls|apply qei|apply qni|apply qed|apply qnd|apply qad|apply qln|apply qle|apply qgt|apply qge|apply qlk|apply qlv|apply qxt|apply qsb|apply qnt|apply qep|apply qnp|apply qeb|apply qnb|apply qx2|apply qx4|apply qcv|apply qlm|apply qfr|apply qto|apply qmx|apply qen|apply qsn|apply qx8|apply qx7|apply qx6|apply qx5|apply qx4|apply qx3|apply qx2|apply qx1|apply qx0)<;>(first|exact rfl|exact Ar.mk (by omega)|assumption|exact dct (by assumption)|exact dcf (by assumption)|exact dct (by omega)|exact dcf (by omega)|exact List.not_mem_nil|exact dc_length _|exact nc_length _|exact rc_length _ _ _|exact nm1 (by omega)|exact nm2 (by omega) (by omega)|exact dct rfl|exact dct (by decide)|exact dcf (by decide)|exact (Int.toNat_of_nonneg (by omega)).symm|exact dcu|exact lk1 (by assumption)|exact lk0 (by assumption)))|fail) ?_)
  refine SG.alloc rfl rfl rfl (fun b5 w1 hk1 hb5 hB5 => ?_)
  have hB5 : Blk w1 b5 (.cells (rcl (Rn.new 0) nilS nilS).toArray 47) := hB5
  repeat (first|apply CG.seq|apply CG.region|apply SG.nil|apply NG.next|apply CG.skip|apply CG.block|apply CG.ret|apply CG.exit|apply CG.scope|apply NG.ret_then|apply NG.ret_block|apply NG.ret_scope|apply NG.exit_then|refine NG.exit_block rfl ?_|refine NG.exit_other rfl ?_|apply NG.exit_scope|apply NG.normal_block|apply NG.normal_scope|refine SG.val rfl rfl rfl rfl (by first|((first|apply qmv|apply qas|apply qlc|apply qla|apply qfa|apply qnc|apply qic|apply qix|apply qpk|apply qls|apply qei|apply qni|apply qed|apply qnd|apply qad|apply qln|apply qle|apply qgt|apply qge|apply qlk|apply qlv|apply qxt|apply qsb|apply qnt|apply qep|apply qnp|apply qeb|apply qnb|apply qx2|apply qx4|apply qcv|apply qlm|apply qfr|apply qto|apply qmx|apply qen|apply qsn|apply qx8|apply qx7|apply qx6|apply qx5|apply qx4|apply qx3|apply qx2|apply qx1|apply qx0)<;>(first|exact rfl|exact Ar.mk (by omega)|assumption|exact dct (by assumption)|exact dcf (by assumption)|exact dct (by omega)|exact dcf (by omega)|exact List.not_mem_nil|exact dc_length _|exact nc_length _|exact rc_length _ _ _|exact nm1 (by omega)|exact nm2 (by omega) (by omega)|exact dct rfl|exact dct (by decide)|exact dcf (by decide)|exact (Int.toNat_of_nonneg (by omega)).symm|exact dcu|exact lk1 (by assumption)|exact lk0 (by assumption)))|fail) ?_)
  refine SG.ret rfl rfl rfl (by repeat' (first | exact True.intro | exact rho_of rfl | refine And.intro ?_ ?_)) (netnew_bad w1 n hn) (fun w2 hk2 => ?_)
  repeat (first|apply CG.seq|apply CG.region|apply SG.nil|apply NG.next|apply CG.skip|apply CG.block|apply CG.ret|apply CG.exit|apply CG.scope|apply NG.ret_then|apply NG.ret_block|apply NG.ret_scope|apply NG.exit_then|refine NG.exit_block rfl ?_|refine NG.exit_other rfl ?_|apply NG.exit_scope|apply NG.normal_block|apply NG.normal_scope|refine SG.val rfl rfl rfl rfl (by first|((first|apply qmv|apply qas|apply qlc|apply qla|apply qfa|apply qnc|apply qic|apply qix|apply qpk|apply qls|apply qei|apply qni|apply qed|apply qnd|apply qad|apply qln|apply qle|apply qgt|apply qge|apply qlk|apply qlv|apply qxt|apply qsb|apply qnt|apply qep|apply qnp|apply qeb|apply qnb|apply qx2|apply qx4|apply qcv|apply qlm|apply qfr|apply qto|apply qmx|apply qen|apply qsn|apply qx8|apply qx7|apply qx6|apply qx5|apply qx4|apply qx3|apply qx2|apply qx1|apply qx0)<;>(first|exact rfl|exact Ar.mk (by omega)|assumption|exact dct (by assumption)|exact dcf (by assumption)|exact dct (by omega)|exact dcf (by omega)|exact List.not_mem_nil|exact dc_length _|exact nc_length _|exact rc_length _ _ _|exact nm1 (by omega)|exact nm2 (by omega) (by omega)|exact dct rfl|exact dct (by decide)|exact dcf (by decide)|exact (Int.toNat_of_nonneg (by omega)).symm|exact dcu|exact lk1 (by assumption)|exact lk0 (by assumption)))|fail) ?_)
  refine SG.ret rfl rfl rfl (by repeat' (first | exact True.intro | exact rho_of rfl | refine And.intro ?_ ?_)) (rnew_bad w2 n hn) (fun w3 hk3 => ?_)
  repeat (first|apply CG.seq|apply CG.region|apply SG.nil|apply NG.next|apply CG.skip|apply CG.block|apply CG.ret|apply CG.exit|apply CG.scope|apply NG.ret_then|apply NG.ret_block|apply NG.ret_scope|apply NG.exit_then|refine NG.exit_block rfl ?_|refine NG.exit_other rfl ?_|apply NG.exit_scope|apply NG.normal_block|apply NG.normal_scope|refine SG.val rfl rfl rfl rfl (by first|((first|apply qmv|apply qas|apply qlc|apply qla|apply qfa|apply qnc|apply qic|apply qix|apply qpk|apply qls|apply qei|apply qni|apply qed|apply qnd|apply qad|apply qln|apply qle|apply qgt|apply qge|apply qlk|apply qlv|apply qxt|apply qsb|apply qnt|apply qep|apply qnp|apply qeb|apply qnb|apply qx2|apply qx4|apply qcv|apply qlm|apply qfr|apply qto|apply qmx|apply qen|apply qsn|apply qx8|apply qx7|apply qx6|apply qx5|apply qx4|apply qx3|apply qx2|apply qx1|apply qx0)<;>(first|exact rfl|exact Ar.mk (by omega)|assumption|exact dct (by assumption)|exact dcf (by assumption)|exact dct (by omega)|exact dcf (by omega)|exact List.not_mem_nil|exact dc_length _|exact nc_length _|exact rc_length _ _ _|exact nm1 (by omega)|exact nm2 (by omega) (by omega)|exact dct rfl|exact dct (by decide)|exact dcf (by decide)|exact (Int.toNat_of_nonneg (by omega)).symm|exact dcu|exact lk1 (by assumption)|exact lk0 (by assumption)))|fail) ?_)
  refine SG.alloc rfl rfl rfl (fun b9 w4 hk4 hb9 hB4 => ?_)
  refine SG.setAll (old := rcl (Rn.new 0) nilS nilS) (l := rcl (Rn.new 0) nilS nilS) rfl rfl (by exact rho_of rfl) (by exact rho_of rfl) hB4 rfl rfl rfl (fun w5 hk5 hB9 => ?_)
  have hk35 : Kp [] w3 w5 := hk4.trans_new hk5 (new1 hb9)
  have hB55 := ((hB5.kp0 hk2).kp0 hk3).kp0 hk35
  obtain ⟨_, _, _, _, q4⟩ := rows47 hB9
  repeat (first | first|apply CG.seq|apply CG.region|apply SG.nil|apply NG.next|apply CG.skip|apply CG.block|apply CG.ret|apply CG.exit|apply CG.scope|apply NG.ret_then|apply NG.ret_block|apply NG.ret_scope|apply NG.exit_then|refine NG.exit_block rfl ?_|refine NG.exit_other rfl ?_|apply NG.exit_scope|apply NG.normal_block|apply NG.normal_scope|refine SG.val rfl rfl rfl rfl (by first|((first|apply qmv|apply qas|apply qlc|apply qla|apply qfa|apply qnc|apply qic|apply qix|apply qpk|apply qls|apply qei|apply qni|apply qed|apply qnd|apply qad|apply qln|apply qle|apply qgt|apply qge|apply qlk|apply qlv|apply qxt|apply qsb|apply qnt|apply qep|apply qnp|apply qeb|apply qnb|apply qx2|apply qx4|apply qcv|apply qlm|apply qfr|apply qto|apply qmx|apply qen|apply qsn|apply qx8|apply qx7|apply qx6|apply qx5|apply qx4|apply qx3|apply qx2|apply qx1|apply qx0)<;>(first|exact rfl|exact Ar.mk (by omega)|assumption|exact dct (by assumption)|exact dcf (by assumption)|exact dct (by omega)|exact dcf (by omega)|exact List.not_mem_nil|exact dc_length _|exact nc_length _|exact rc_length _ _ _|exact nm1 (by omega)|exact nm2 (by omega) (by omega)|exact dct rfl|exact dct (by decide)|exact dcf (by decide)|exact (Int.toNat_of_nonneg (by omega)).symm|exact dcu|exact lk1 (by assumption)|exact lk0 (by assumption)))|fail) ?_ | refine SG.skip rfl rfl ?_)
  refine CG.cond_f rfl (by exact rho_of rfl) rfl ?_
  repeat (first|apply CG.seq|apply CG.region|apply SG.nil|apply NG.next|apply CG.skip|apply CG.block|apply CG.ret|apply CG.exit|apply CG.scope|apply NG.ret_then|apply NG.ret_block|apply NG.ret_scope|apply NG.exit_then|refine NG.exit_block rfl ?_|refine NG.exit_other rfl ?_|apply NG.exit_scope|apply NG.normal_block|apply NG.normal_scope|refine SG.val rfl rfl rfl rfl (by first|((first|apply qmv|apply qas|apply qlc|apply qla|apply qfa|apply qnc|apply qic|apply qix|apply qpk|apply qls|apply qei|apply qni|apply qed|apply qnd|apply qad|apply qln|apply qle|apply qgt|apply qge|apply qlk|apply qlv|apply qxt|apply qsb|apply qnt|apply qep|apply qnp|apply qeb|apply qnb|apply qx2|apply qx4|apply qcv|apply qlm|apply qfr|apply qto|apply qmx|apply qen|apply qsn|apply qx8|apply qx7|apply qx6|apply qx5|apply qx4|apply qx3|apply qx2|apply qx1|apply qx0)<;>(first|exact rfl|exact Ar.mk (by omega)|assumption|exact dct (by assumption)|exact dcf (by assumption)|exact dct (by omega)|exact dcf (by omega)|exact List.not_mem_nil|exact dc_length _|exact nc_length _|exact rc_length _ _ _|exact nm1 (by omega)|exact nm2 (by omega) (by omega)|exact dct rfl|exact dct (by decide)|exact dcf (by decide)|exact (Int.toNat_of_nonneg (by omega)).symm|exact dcu|exact lk1 (by assumption)|exact lk0 (by assumption)))|fail) ?_)
  refine CG.loop (X := Unit) (fun q => [(0, .int .i64 n), (1, .slice a m c), (5, .pointer (some ⟨b5, 0, none⟩)), (7, .pointer none), (9, .pointer (some ⟨b9, 0, none⟩)), (10, .bool false), (11, .int .i64 0)]) (fun q w' => w' = w5) (fun _ => 0) () rfl (by (repeat' (first | exact True.intro | exact rfl | refine And.intro ?_ ?_))) ?_
  rintro _ w6 rfl
  have hcase : (0 : Int) < (m : Int) ∨ ¬ (0 : Int) < (m : Int) := by omega
  rcases hcase with g1 | g1
  all_goals
    repeat (first | first|apply CG.seq|apply CG.region|apply SG.nil|apply NG.next|apply CG.skip|apply CG.block|apply CG.ret|apply CG.exit|apply CG.scope|apply NG.ret_then|apply NG.ret_block|apply NG.ret_scope|apply NG.exit_then|refine NG.exit_block rfl ?_|refine NG.exit_other rfl ?_|apply NG.exit_scope|apply NG.normal_block|apply NG.normal_scope|refine SG.val rfl rfl rfl rfl (by first|((first|apply qmv|apply qas|apply qlc|apply qla|apply qfa|apply qnc|apply qic|apply qix|apply qpk|apply qls|apply qei|apply qni|apply qed|apply qnd|apply qad|apply qln|apply qle|apply qgt|apply qge|apply qlk|apply qlv|apply qxt|apply qsb|apply qnt|apply qep|apply qnp|apply qeb|apply qnb|apply qx2|apply qx4|apply qcv|apply qlm|apply qfr|apply qto|apply qmx|apply qen|apply qsn|apply qx8|apply qx7|apply qx6|apply qx5|apply qx4|apply qx3|apply qx2|apply qx1|apply qx0)<;>(first|exact rfl|exact Ar.mk (by omega)|assumption|exact dct (by assumption)|exact dcf (by assumption)|exact dct (by omega)|exact dcf (by omega)|exact List.not_mem_nil|exact dc_length _|exact nc_length _|exact rc_length _ _ _|exact nm1 (by omega)|exact nm2 (by omega) (by omega)|exact dct rfl|exact dct (by decide)|exact dcf (by decide)|exact (Int.toNat_of_nonneg (by omega)).symm|exact dcu|exact lk1 (by assumption)|exact lk0 (by assumption)))|fail) ?_ | refine SG.skip rfl rfl ?_)
    refine CG.cond_f rfl (by exact rho_of rfl) rfl ?_
    repeat (first|apply CG.seq|apply CG.region|apply SG.nil|apply NG.next|apply CG.skip|apply CG.block|apply CG.ret|apply CG.exit|apply CG.scope|apply NG.ret_then|apply NG.ret_block|apply NG.ret_scope|apply NG.exit_then|refine NG.exit_block rfl ?_|refine NG.exit_other rfl ?_|apply NG.exit_scope|apply NG.normal_block|apply NG.normal_scope|refine SG.val rfl rfl rfl rfl (by first|((first|apply qmv|apply qas|apply qlc|apply qla|apply qfa|apply qnc|apply qic|apply qix|apply qpk|apply qls|apply qei|apply qni|apply qed|apply qnd|apply qad|apply qln|apply qle|apply qgt|apply qge|apply qlk|apply qlv|apply qxt|apply qsb|apply qnt|apply qep|apply qnp|apply qeb|apply qnb|apply qx2|apply qx4|apply qcv|apply qlm|apply qfr|apply qto|apply qmx|apply qen|apply qsn|apply qx8|apply qx7|apply qx6|apply qx5|apply qx4|apply qx3|apply qx2|apply qx1|apply qx0)<;>(first|exact rfl|exact Ar.mk (by omega)|assumption|exact dct (by assumption)|exact dcf (by assumption)|exact dct (by omega)|exact dcf (by omega)|exact List.not_mem_nil|exact dc_length _|exact nc_length _|exact rc_length _ _ _|exact nm1 (by omega)|exact nm2 (by omega) (by omega)|exact dct rfl|exact dct (by decide)|exact dcf (by decide)|exact (Int.toNat_of_nonneg (by omega)).symm|exact dcu|exact lk1 (by assumption)|exact lk0 (by assumption)))|fail) ?_)
    refine CG.tail mixed 3 [0, 1, 2] (by kernel_rfl) ?_
    repeat (refine Der.val rfl rfl rfl (by first|((first|apply qmv|apply qas|apply qlc|apply qla|apply qfa|apply qnc|apply qic|apply qix|apply qpk|apply qls|apply qei|apply qni|apply qed|apply qnd|apply qad|apply qln|apply qle|apply qgt|apply qge|apply qlk|apply qlv|apply qxt|apply qsb|apply qnt|apply qep|apply qnp|apply qeb|apply qnb|apply qx2|apply qx4|apply qcv|apply qlm|apply qfr|apply qto|apply qmx|apply qen|apply qsn|apply qx8|apply qx7|apply qx6|apply qx5|apply qx4|apply qx3|apply qx2|apply qx1|apply qx0)<;>(first|exact rfl|exact Ar.mk (by omega)|assumption|exact dct (by assumption)|exact dcf (by assumption)|exact dct (by omega)|exact dcf (by omega)|exact List.not_mem_nil|exact dc_length _|exact nc_length _|exact rc_length _ _ _|exact nm1 (by omega)|exact nm2 (by omega) (by omega)|exact dct rfl|exact dct (by decide)|exact dcf (by decide)|exact (Int.toNat_of_nonneg (by omega)).symm|exact dcu|exact lk1 (by assumption)|exact lk0 (by assumption)))|fail) ?_)
    refine Der.tl (fun w7 hk7 _ _ => ?_)
    refine SG.setAll (old := rcl (Rn.new 0) nilS nilS) (l := rcl (Rn.new 0) nilS nilS) rfl rfl (by exact rho_of rfl) (by exact rho_of rfl) (hB55.kp0 hk7) rfl rfl rfl (fun w8 hk8 hB8 => ?_)
    obtain ⟨_, _, _, _, hres⟩ := rows47 hB8
    repeat (first|apply CG.seq|apply CG.region|apply SG.nil|apply NG.next|apply CG.skip|apply CG.block|apply CG.ret|apply CG.exit|apply CG.scope|apply NG.ret_then|apply NG.ret_block|apply NG.ret_scope|apply NG.exit_then|refine NG.exit_block rfl ?_|refine NG.exit_other rfl ?_|apply NG.exit_scope|apply NG.normal_block|apply NG.normal_scope|refine SG.val rfl rfl rfl rfl (by first|((first|apply qmv|apply qas|apply qlc|apply qla|apply qfa|apply qnc|apply qic|apply qix|apply qpk|apply qls|apply qei|apply qni|apply qed|apply qnd|apply qad|apply qln|apply qle|apply qgt|apply qge|apply qlk|apply qlv|apply qxt|apply qsb|apply qnt|apply qep|apply qnp|apply qeb|apply qnb|apply qx2|apply qx4|apply qcv|apply qlm|apply qfr|apply qto|apply qmx|apply qen|apply qsn|apply qx8|apply qx7|apply qx6|apply qx5|apply qx4|apply qx3|apply qx2|apply qx1|apply qx0)<;>(first|exact rfl|exact Ar.mk (by omega)|assumption|exact dct (by assumption)|exact dcf (by assumption)|exact dct (by omega)|exact dcf (by omega)|exact List.not_mem_nil|exact dc_length _|exact nc_length _|exact rc_length _ _ _|exact nm1 (by omega)|exact nm2 (by omega) (by omega)|exact dct rfl|exact dct (by decide)|exact dcf (by decide)|exact (Int.toNat_of_nonneg (by omega)).symm|exact dcu|exact lk1 (by assumption)|exact lk0 (by assumption)))|fail) ?_)
    refine ret3 (Or.inl rfl) Try.results17 (by first | exact ResV.tmp rfl | exact ResV.agg rfl rfl (by assumption) (by first | exact dc_length _ | exact nc_length _ | exact rc_length _ _ _ | rfl) | exact ResV.cell rfl rfl (by assumption)) (ResV.agg rfl rfl hres rfl) (by first | exact ResV.tmp rfl | exact ResV.agg rfl rfl (by assumption) (by first | exact dc_length _ | exact nc_length _ | exact rc_length _ _ _ | rfl) | exact ResV.cell rfl rfl (by assumption)) ?_
    exact ⟨rfl, ((((hk1.trans hk2).trans hk3).trans hk35).trans hk7).trans_new hk8 (new1 hb5)⟩
end Go.Proofs.Ytfelaicoedlejaa
/-
  NetActs: whatever is sent, cut and stepped is answered as the document says.
-/
namespace Go.Proofs.Ytfelaicoedlejaa
set_option linter.unusedVariables false

attribute [local irreducible] CG NG SG Vals Der Row Blk MapIs IterAt DerX sv
set_option maxHeartbeats 16000000 in
theorem acts_spec (w : World) (n : Int) (a : Option Addr) (m c : Nat) (l : List Dd) (hl : l.length = m ∧ Sl dcl 5 w a l ∧ ∀ d ∈ l, SlI w d.a d.later) (hm : m ≤ maxLen) : Ret Try.prog 6 #[.int .i64 n, .slice a m c] w (.bool true) := by
  obtain ⟨rfl, hS, hSl⟩ := hl
  refine enter2 Try.func6 rfl Try.ntmps6 rfl ?_
  repeat (first|apply CG.seq|apply CG.region|apply SG.nil|apply NG.next|apply CG.skip|apply CG.block|apply CG.ret|apply CG.exit|apply CG.scope|apply NG.ret_then|apply NG.ret_block|apply NG.ret_scope|apply NG.exit_then|refine NG.exit_block rfl ?_|refine NG.exit_other rfl ?_|apply NG.exit_scope|apply NG.normal_block|apply NG.normal_scope|refine SG.val rfl rfl rfl rfl (by first|((first|apply qmv|apply qas|apply qlc|apply qla|apply qfa|apply qnc|apply qic|apply qix|apply qpk|apply qls|apply qei|apply qni|apply qed|apply qnd|apply qad|apply qln|apply qle|apply qgt|apply qge|apply qlk|apply qlv|apply qxt|apply qsb|apply qnt|apply qep|apply qnp|apply qeb|apply qnb|apply qx2|apply qx4|apply qcv|apply qlm|apply qfr|apply qto|apply qmx|apply qen|apply qsn|apply qx8|apply qx7|apply qx6|apply qx5|apply qx4|apply qx3|apply qx2|apply qx1|apply qx0)<;>(first|exact rfl|exact Ar.mk (by omega)|assumption|exact dct (by assumption)|exact dcf (by assumption)|exact dct (by omega)|exact dcf (by omega)|exact List.not_mem_nil|exact dc_length _|exact nc_length _|exact rc_length _ _ _|exact nm1 (by omega)|exact nm2 (by omega) (by omega)|exact dct rfl|exact dct (by decide)|exact dcf (by decide)|exact (Int.toNat_of_nonneg (by omega)).symm|exact dcu|exact lk1 (by assumption)|exact lk0 (by assumption)))|fail) ?_)
  refine SG.ret rfl rfl rfl (by repeat' (first | exact True.intro | exact rho_of rfl | refine And.intro ?_ ?_)) (fair_spec c hS hm) (fun w1 hk1 => ?_)
  cases hf : fairB l with
  | false =>
    repeat (first|apply CG.seq|apply CG.region|apply SG.nil|apply NG.next|apply CG.skip|apply CG.block|apply CG.ret|apply CG.exit|apply CG.scope|apply NG.ret_then|apply NG.ret_block|apply NG.ret_scope|apply NG.exit_then|refine NG.exit_block rfl ?_|refine NG.exit_other rfl ?_|apply NG.exit_scope|apply NG.normal_block|apply NG.normal_scope|refine SG.val rfl rfl rfl rfl (by first|((first|apply qmv|apply qas|apply qlc|apply qla|apply qfa|apply qnc|apply qic|apply qix|apply qpk|apply qls|apply qei|apply qni|apply qed|apply qnd|apply qad|apply qln|apply qle|apply qgt|apply qge|apply qlk|apply qlv|apply qxt|apply qsb|apply qnt|apply qep|apply qnp|apply qeb|apply qnb|apply qx2|apply qx4|apply qcv|apply qlm|apply qfr|apply qto|apply qmx|apply qen|apply qsn|apply qx8|apply qx7|apply qx6|apply qx5|apply qx4|apply qx3|apply qx2|apply qx1|apply qx0)<;>(first|exact rfl|exact Ar.mk (by omega)|assumption|exact dct (by assumption)|exact dcf (by assumption)|exact dct (by omega)|exact dcf (by omega)|exact List.not_mem_nil|exact dc_length _|exact nc_length _|exact rc_length _ _ _|exact nm1 (by omega)|exact nm2 (by omega) (by omega)|exact dct rfl|exact dct (by decide)|exact dcf (by decide)|exact (Int.toNat_of_nonneg (by omega)).symm|exact dcu|exact lk1 (by assumption)|exact lk0 (by assumption)))|fail) ?_)
    refine CG.cond_t rfl (by exact rho_of rfl) rfl ?_
    repeat (first|apply CG.seq|apply CG.region|apply SG.nil|apply NG.next|apply CG.skip|apply CG.block|apply CG.ret|apply CG.exit|apply CG.scope|apply NG.ret_then|apply NG.ret_block|apply NG.ret_scope|apply NG.exit_then|refine NG.exit_block rfl ?_|refine NG.exit_other rfl ?_|apply NG.exit_scope|apply NG.normal_block|apply NG.normal_scope|refine SG.val rfl rfl rfl rfl (by first|((first|apply qmv|apply qas|apply qlc|apply qla|apply qfa|apply qnc|apply qic|apply qix|apply qpk|apply qls|apply qei|apply qni|apply qed|apply qnd|apply qad|apply qln|apply qle|apply qgt|apply qge|apply qlk|apply qlv|apply qxt|apply qsb|apply qnt|apply qep|apply qnp|apply qeb|apply qnb|apply qx2|apply qx4|apply qcv|apply qlm|apply qfr|apply qto|apply qmx|apply qen|apply qsn|apply qx8|apply qx7|apply qx6|apply qx5|apply qx4|apply qx3|apply qx2|apply qx1|apply qx0)<;>(first|exact rfl|exact Ar.mk (by omega)|assumption|exact dct (by assumption)|exact dcf (by assumption)|exact dct (by omega)|exact dcf (by omega)|exact List.not_mem_nil|exact dc_length _|exact nc_length _|exact rc_length _ _ _|exact nm1 (by omega)|exact nm2 (by omega) (by omega)|exact dct rfl|exact dct (by decide)|exact dcf (by decide)|exact (Int.toNat_of_nonneg (by omega)).symm|exact dcu|exact lk1 (by assumption)|exact lk0 (by assumption)))|fail) ?_)
    refine SG.ret rfl rfl rfl (by repeat' (first | exact True.intro | exact rho_of rfl | refine And.intro ?_ ?_)) (told_spec w1) (fun w2 hk2 => ?_)
    repeat (first|apply CG.seq|apply CG.region|apply SG.nil|apply NG.next|apply CG.skip|apply CG.block|apply CG.ret|apply CG.exit|apply CG.scope|apply NG.ret_then|apply NG.ret_block|apply NG.ret_scope|apply NG.exit_then|refine NG.exit_block rfl ?_|refine NG.exit_other rfl ?_|apply NG.exit_scope|apply NG.normal_block|apply NG.normal_scope|refine SG.val rfl rfl rfl rfl (by first|((first|apply qmv|apply qas|apply qlc|apply qla|apply qfa|apply qnc|apply qic|apply qix|apply qpk|apply qls|apply qei|apply qni|apply qed|apply qnd|apply qad|apply qln|apply qle|apply qgt|apply qge|apply qlk|apply qlv|apply qxt|apply qsb|apply qnt|apply qep|apply qnp|apply qeb|apply qnb|apply qx2|apply qx4|apply qcv|apply qlm|apply qfr|apply qto|apply qmx|apply qen|apply qsn|apply qx8|apply qx7|apply qx6|apply qx5|apply qx4|apply qx3|apply qx2|apply qx1|apply qx0)<;>(first|exact rfl|exact Ar.mk (by omega)|assumption|exact dct (by assumption)|exact dcf (by assumption)|exact dct (by omega)|exact dcf (by omega)|exact List.not_mem_nil|exact dc_length _|exact nc_length _|exact rc_length _ _ _|exact nm1 (by omega)|exact nm2 (by omega) (by omega)|exact dct rfl|exact dct (by decide)|exact dcf (by decide)|exact (Int.toNat_of_nonneg (by omega)).symm|exact dcu|exact lk1 (by assumption)|exact lk0 (by assumption)))|fail) ?_)
    refine ret1 (Or.inl rfl) Try.results6 (by first | exact ResV.tmp rfl | exact ResV.agg rfl rfl (by assumption) (by first | exact dc_length _ | exact nc_length _ | exact rc_length _ _ _ | rfl) | exact ResV.cell rfl rfl (by assumption)) ?_
    exact ⟨rfl, hk1.trans hk2⟩
  | true =>
  have hf' : (∀ d ∈ l, d.bs.length ≤ 100 ∧ d.later.length ≤ 20) ∧ l.length ≤ 60 := by
    unfold fairB at hf
    rw [Bool.and_eq_true, List.all_eq_true, decide_eq_true_iff] at hf
    refine ⟨fun d hd => ?_, hf.2⟩
    have := hf.1 d hd
    unfold Dd.fair at this
    rw [Bool.and_eq_true, decide_eq_true_iff, decide_eq_true_iff] at this
    exact this
  obtain ⟨hfd, hfl⟩ := hf'
  repeat (first|apply CG.seq|apply CG.region|apply SG.nil|apply NG.next|apply CG.skip|apply CG.block|apply CG.ret|apply CG.exit|apply CG.scope|apply NG.ret_then|apply NG.ret_block|apply NG.ret_scope|apply NG.exit_then|refine NG.exit_block rfl ?_|refine NG.exit_other rfl ?_|apply NG.exit_scope|apply NG.normal_block|apply NG.normal_scope|refine SG.val rfl rfl rfl rfl (by first|((first|apply qmv|apply qas|apply qlc|apply qla|apply qfa|apply qnc|apply qic|apply qix|apply qpk|apply qls|apply qei|apply qni|apply qed|apply qnd|apply qad|apply qln|apply qle|apply qgt|apply qge|apply qlk|apply qlv|apply qxt|apply qsb|apply qnt|apply qep|apply qnp|apply qeb|apply qnb|apply qx2|apply qx4|apply qcv|apply qlm|apply qfr|apply qto|apply qmx|apply qen|apply qsn|apply qx8|apply qx7|apply qx6|apply qx5|apply qx4|apply qx3|apply qx2|apply qx1|apply qx0)<;>(first|exact rfl|exact Ar.mk (by omega)|assumption|exact dct (by assumption)|exact dcf (by assumption)|exact dct (by omega)|exact dcf (by omega)|exact List.not_mem_nil|exact dc_length _|exact nc_length _|exact rc_length _ _ _|exact nm1 (by omega)|exact nm2 (by omega) (by omega)|exact dct rfl|exact dct (by decide)|exact dcf (by decide)|exact (Int.toNat_of_nonneg (by omega)).symm|exact dcu|exact lk1 (by assumption)|exact lk0 (by assumption)))|fail) ?_)
  refine CG.cond_f rfl (by exact rho_of rfl) rfl ?_
  repeat (first|apply CG.seq|apply CG.region|apply SG.nil|apply NG.next|apply CG.skip|apply CG.block|apply CG.ret|apply CG.exit|apply CG.scope|apply NG.ret_then|apply NG.ret_block|apply NG.ret_scope|apply NG.exit_then|refine NG.exit_block rfl ?_|refine NG.exit_other rfl ?_|apply NG.exit_scope|apply NG.normal_block|apply NG.normal_scope|refine SG.val rfl rfl rfl rfl (by first|((first|apply qmv|apply qas|apply qlc|apply qla|apply qfa|apply qnc|apply qic|apply qix|apply qpk|apply qls|apply qei|apply qni|apply qed|apply qnd|apply qad|apply qln|apply qle|apply qgt|apply qge|apply qlk|apply qlv|apply qxt|apply qsb|apply qnt|apply qep|apply qnp|apply qeb|apply qnb|apply qx2|apply qx4|apply qcv|apply qlm|apply qfr|apply qto|apply qmx|apply qen|apply qsn|apply qx8|apply qx7|apply qx6|apply qx5|apply qx4|apply qx3|apply qx2|apply qx1|apply qx0)<;>(first|exact rfl|exact Ar.mk (by omega)|assumption|exact dct (by assumption)|exact dcf (by assumption)|exact dct (by omega)|exact dcf (by omega)|exact List.not_mem_nil|exact dc_length _|exact nc_length _|exact rc_length _ _ _|exact nm1 (by omega)|exact nm2 (by omega) (by omega)|exact dct rfl|exact dct (by decide)|exact dcf (by decide)|exact (Int.toNat_of_nonneg (by omega)).symm|exact dcu|exact lk1 (by assumption)|exact lk0 (by assumption)))|fail) ?_)
  have hb : Calls Try.prog 17 #[.int .i64 n, .slice a l.length c] w1 (fun e w' => ∃ p r v u, e = .returned (.tuple #[p, .agg (rcl r v u).toArray, .bool true]) ∧ allOne (rcl r v u) = true ∧ Kp [] w1 w') := by
    by_cases hn : n < 1 ∨ 16 < n
    · refine (both_bad w1 n hn a c l.length).mono (fun e w' h => ⟨_, _, _, _, h.1, rfl, h.2⟩)
    · obtain ⟨k, rfl⟩ : ∃ k : Nat, n = (k : Int) := ⟨n.toNat, by omega⟩
      refine (both_good w1 k (by omega) (by omega) a c l (hS.kp0 hk1) (fun d hd => (hSl d hd).kp0 hk1) hfd hfl).mono (fun e w' h => ?_)
      obtain ⟨bt, bm, s, r, v, u, he, hA, hR, _⟩ := h
      exact ⟨_, _, _, _, he, hR.one, hA.kp⟩
  refine SG.call rfl rfl rfl (by repeat' (first | exact True.intro | exact rho_of rfl | refine And.intro ?_ ?_)) (hb.mono (fun e w2 h => ?_))
  obtain ⟨p, r, v, u, he, hone, hk2⟩ := h
  refine ⟨_, he, ?_⟩
  repeat (first|apply CG.seq|apply CG.region|apply SG.nil|apply NG.next|apply CG.skip|apply CG.block|apply CG.ret|apply CG.exit|apply CG.scope|apply NG.ret_then|apply NG.ret_block|apply NG.ret_scope|apply NG.exit_then|refine NG.exit_block rfl ?_|refine NG.exit_other rfl ?_|apply NG.exit_scope|apply NG.normal_block|apply NG.normal_scope|refine SG.val rfl rfl rfl rfl (by first|((first|apply qmv|apply qas|apply qlc|apply qla|apply qfa|apply qnc|apply qic|apply qix|apply qpk|apply qls|apply qei|apply qni|apply qed|apply qnd|apply qad|apply qln|apply qle|apply qgt|apply qge|apply qlk|apply qlv|apply qxt|apply qsb|apply qnt|apply qep|apply qnp|apply qeb|apply qnb|apply qx2|apply qx4|apply qcv|apply qlm|apply qfr|apply qto|apply qmx|apply qen|apply qsn|apply qx8|apply qx7|apply qx6|apply qx5|apply qx4|apply qx3|apply qx2|apply qx1|apply qx0)<;>(first|exact rfl|exact Ar.mk (by omega)|assumption|exact dct (by assumption)|exact dcf (by assumption)|exact dct (by omega)|exact dcf (by omega)|exact List.not_mem_nil|exact dc_length _|exact nc_length _|exact rc_length _ _ _|exact nm1 (by omega)|exact nm2 (by omega) (by omega)|exact dct rfl|exact dct (by decide)|exact dcf (by decide)|exact (Int.toNat_of_nonneg (by omega)).symm|exact dcu|exact lk1 (by assumption)|exact lk0 (by assumption)))|fail) ?_)
  refine SG.alloc rfl rfl rfl (fun b6 w3 hk3 hb6 hB3 => ?_)
  repeat (first|apply CG.seq|apply CG.region|apply SG.nil|apply NG.next|apply CG.skip|apply CG.block|apply CG.ret|apply CG.exit|apply CG.scope|apply NG.ret_then|apply NG.ret_block|apply NG.ret_scope|apply NG.exit_then|refine NG.exit_block rfl ?_|refine NG.exit_other rfl ?_|apply NG.exit_scope|apply NG.normal_block|apply NG.normal_scope|refine SG.val rfl rfl rfl rfl (by first|((first|apply qmv|apply qas|apply qlc|apply qla|apply qfa|apply qnc|apply qic|apply qix|apply qpk|apply qls|apply qei|apply qni|apply qed|apply qnd|apply qad|apply qln|apply qle|apply qgt|apply qge|apply qlk|apply qlv|apply qxt|apply qsb|apply qnt|apply qep|apply qnp|apply qeb|apply qnb|apply qx2|apply qx4|apply qcv|apply qlm|apply qfr|apply qto|apply qmx|apply qen|apply qsn|apply qx8|apply qx7|apply qx6|apply qx5|apply qx4|apply qx3|apply qx2|apply qx1|apply qx0)<;>(first|exact rfl|exact Ar.mk (by omega)|assumption|exact dct (by assumption)|exact dcf (by assumption)|exact dct (by omega)|exact dcf (by omega)|exact List.not_mem_nil|exact dc_length _|exact nc_length _|exact rc_length _ _ _|exact nm1 (by omega)|exact nm2 (by omega) (by omega)|exact dct rfl|exact dct (by decide)|exact dcf (by decide)|exact (Int.toNat_of_nonneg (by omega)).symm|exact dcu|exact lk1 (by assumption)|exact lk0 (by assumption)))|fail) ?_)
  refine SG.setAll (old := rcl (Rn.new 0) nilS nilS) (l := rcl r v u) rfl rfl (by exact rho_of rfl) (by exact rho_of rfl) hB3 rfl rfl hone (fun w4 hk4 hB4 => ?_)
  repeat (first | first|apply CG.seq|apply CG.region|apply SG.nil|apply NG.next|apply CG.skip|apply CG.block|apply CG.ret|apply CG.exit|apply CG.scope|apply NG.ret_then|apply NG.ret_block|apply NG.ret_scope|apply NG.exit_then|refine NG.exit_block rfl ?_|refine NG.exit_other rfl ?_|apply NG.exit_scope|apply NG.normal_block|apply NG.normal_scope|refine SG.val rfl rfl rfl rfl (by first|((first|apply qmv|apply qas|apply qlc|apply qla|apply qfa|apply qnc|apply qic|apply qix|apply qpk|apply qls|apply qei|apply qni|apply qed|apply qnd|apply qad|apply qln|apply qle|apply qgt|apply qge|apply qlk|apply qlv|apply qxt|apply qsb|apply qnt|apply qep|apply qnp|apply qeb|apply qnb|apply qx2|apply qx4|apply qcv|apply qlm|apply qfr|apply qto|apply qmx|apply qen|apply qsn|apply qx8|apply qx7|apply qx6|apply qx5|apply qx4|apply qx3|apply qx2|apply qx1|apply qx0)<;>(first|exact rfl|exact Ar.mk (by omega)|assumption|exact dct (by assumption)|exact dcf (by assumption)|exact dct (by omega)|exact dcf (by omega)|exact List.not_mem_nil|exact dc_length _|exact nc_length _|exact rc_length _ _ _|exact nm1 (by omega)|exact nm2 (by omega) (by omega)|exact dct rfl|exact dct (by decide)|exact dcf (by decide)|exact (Int.toNat_of_nonneg (by omega)).symm|exact dcu|exact lk1 (by assumption)|exact lk0 (by assumption)))|fail) ?_ | refine SG.skip rfl rfl ?_)
  refine SG.ret rfl rfl rfl (by repeat' (first | exact True.intro | exact rho_of rfl | refine And.intro ?_ ?_)) (told_spec w4) (fun w5 hk5 => ?_)
  repeat (first | first|apply CG.seq|apply CG.region|apply SG.nil|apply NG.next|apply CG.skip|apply CG.block|apply CG.ret|apply CG.exit|apply CG.scope|apply NG.ret_then|apply NG.ret_block|apply NG.ret_scope|apply NG.exit_then|refine NG.exit_block rfl ?_|refine NG.exit_other rfl ?_|apply NG.exit_scope|apply NG.normal_block|apply NG.normal_scope|refine SG.val rfl rfl rfl rfl (by first|((first|apply qmv|apply qas|apply qlc|apply qla|apply qfa|apply qnc|apply qic|apply qix|apply qpk|apply qls|apply qei|apply qni|apply qed|apply qnd|apply qad|apply qln|apply qle|apply qgt|apply qge|apply qlk|apply qlv|apply qxt|apply qsb|apply qnt|apply qep|apply qnp|apply qeb|apply qnb|apply qx2|apply qx4|apply qcv|apply qlm|apply qfr|apply qto|apply qmx|apply qen|apply qsn|apply qx8|apply qx7|apply qx6|apply qx5|apply qx4|apply qx3|apply qx2|apply qx1|apply qx0)<;>(first|exact rfl|exact Ar.mk (by omega)|assumption|exact dct (by assumption)|exact dcf (by assumption)|exact dct (by omega)|exact dcf (by omega)|exact List.not_mem_nil|exact dc_length _|exact nc_length _|exact rc_length _ _ _|exact nm1 (by omega)|exact nm2 (by omega) (by omega)|exact dct rfl|exact dct (by decide)|exact dcf (by decide)|exact (Int.toNat_of_nonneg (by omega)).symm|exact dcu|exact lk1 (by assumption)|exact lk0 (by assumption)))|fail) ?_ | refine SG.skip rfl rfl ?_)
  refine ret1 (Or.inl rfl) Try.results6 (by first | exact ResV.tmp rfl | exact ResV.agg rfl rfl (by assumption) (by first | exact dc_length _ | exact nc_length _ | exact rc_length _ _ _ | rfl) | exact ResV.cell rfl rfl (by assumption)) ?_
  exact ⟨rfl, (((hk1.trans hk2).trans hk3).trans_new hk4 (new1 (by have := hk1.size; have := hk2.size; omega))).trans hk5⟩
end Go.Proofs.Ytfelaicoedlejaa
/-
  NetActs answers true for every input, and leaves its arguments as they were. No conditions.
-/
namespace Go.Proofs.Ytfelaicoedlejaa
open Go.ChangeShapes Go.WideShapes Go.ChangeAt Go.RowKit
set_option linter.unusedVariables false

set_option maxRecDepth 100000 in
theorem netActs_lifted (os : Os) (started : os.Started) (H : Type) (enc : TypeId × Value → H) :
    ReturnsInHanded {} Try.checked os 6 .any (Rows.netActsSpec.pre6 enc Try.prog Try.f6 Rows.netActsRow.domain false) (Rows.netActsSpec.post enc Try.prog Try.f6 false true false false) := by
  refine returnsInHanded_of_change (C := Try.checked) own started (by kernel_rfl) Try.func6
    (ChangeSpec.witness6 (enc := enc) (C := Try.checked) false ⟨#[], #[.int .i64 0, .slice none 0 0], []⟩ 8 (by kernel_rfl) (by kernel_rfl) (by kernel_rfl) (by kernel_rfl)) ?_
  intro W base args ds gs before hval0 hW hcnd _
  have hval : ∀ (j : Nat) t v, Try.f6.params[j]? = some t → args[j]? = some v → Value.okWide Try.prog W .any base t v := hval0
  have hW' : DataW.Whole enc Try.prog Try.f6.params.toList Rows.netActsSpec.vars false W args.toList ds gs before := hW
  obtain ⟨p, q, hA0, hV, rfl, hfz, hnd⟩ := hW
  have hA : DataW.TrodAll enc Try.prog W 0 (fun _ => true) true Try.f6.params.toList args.toList ds p := hA0
  rw [Try.params6] at hA hval
  obtain ⟨v0, v1, d0, d1, p0, p1, rfl, rfl, rfl, h0, h1⟩ := trodAll_two hA
  obtain ⟨x0, rfl, hd0, _, wf0⟩ := open_int Try.underlying3 (hval 0 3 v0 rfl rfl) h0
  obtain ⟨a1, n1, c1, rfl, hn1, hc1, hs1⟩ := open_sl Try.underlying42 (by rw [cells58]; omega) (hval 1 42 v1 rfl rfl) h1
  obtain ⟨l1, hl1⟩ := deeds_of hs1
  refine (acts_spec W x0 a1 n1 c1 l1 hl1 (Nat.le_trans hn1 hc1)).mono fun e W' ⟨he, hk⟩ => ⟨_, he, ?_⟩
  exact law_post laidOut (by rw [Try.params6]; exact of_decide_eq_true (by kernel_rfl)) rfl hW' rfl (by kernel_rfl) Try.underlying4 hk

theorem netActs_holds : Rows.NetActsSaid :=
  OpenClaim.holds_of_wide 6 Try.f6 rfl rfl rfl rfl rfl rfl rfl ⟨rfl, rfl, rfl, rfl, rfl⟩ rfl rfl rfl rfl rfl (by kernel_rfl) Try.func6 (by kernel_rfl)
    (of_decide_eq_true (by kernel_rfl)) (by unfold Func.isWrapper; first | (rw [if_pos (by decide +kernel)]; kernel_rfl) | (rw [if_neg (by decide +kernel)]; exact ⟨rfl, rfl⟩))
    (fun os started H enc _ => netActs_lifted os started H enc)
end Go.Proofs.Ytfelaicoedlejaa
