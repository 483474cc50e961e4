import Derived.Test.YtfelaicoedlejaaQa3
/-
  Two nets beside one another; what a deed makes of a net.
-/
namespace Go.Proofs.Ytfelaicoedlejaa
set_option linter.unusedVariables false

/-- What becomes of a net by sending, whatever is asked. -/
def Ns.sendD (s : Ns) (A B : Int) (bs : List UInt8) (later : List Int) : Ns := if s.sendE A B bs.length later = 0 then s.sendAll A.toNat B.toNat bs later else s
def Ns.cutE (s : Ns) (A B : Int) : Int := if ¬ (0 ≤ A ∧ A < s.parties) ∨ ¬ (0 ≤ B ∧ B < s.parties) then 28 else 0
def Ns.cutD (s : Ns) (A B : Int) (b : Bool) : Ns := if s.cutE A B = 0 then s.setCut A.toNat B.toNat b else s

/-- Two nets made behind w0. -/
def At2 (w0 w : World) (bx mx : Nat) (sx : Ns) (cy my : Nat) (sy : Ns) : Prop := Kp [] w0 w ∧ ∃ dx dy, Rep w bx mx sx dx ∧ Rep w cy my sy dy ∧ (∀ z, Uses bx mx dx z → w0.heap.size ≤ z) ∧ (∀ z, Uses cy my dy z → w0.heap.size ≤ z) ∧ ∀ z, Uses bx mx dx z → ¬ Uses cy my dy z
section
variable {w0 w : World} {bx mx : Nat} {sx : Ns} {cy my : Nat} {sy : Ns}
theorem At2.symm (h : At2 w0 w bx mx sx cy my sy) : At2 w0 w cy my sy bx mx sx := by
  obtain ⟨h0, dx, dy, h1, h2, h3, h4, h5⟩ := h
  exact ⟨h0, dy, dx, h2, h1, h4, h3, fun z hz hu => h5 z hu hz⟩
theorem At2.kp (h : At2 w0 w bx mx sx cy my sy) : Kp [] w0 w := h.1
theorem At2.kp0 {w' : World} (h : At2 w0 w bx mx sx cy my sy) (hk : Kp [] w w') : At2 w0 w' bx mx sx cy my sy := by
  obtain ⟨h0, dx, dy, h1, h2, h3, h4, h5⟩ := h
  exact ⟨h0.trans hk, dx, dy, h1.kp0 hk, h2.kp0 hk, h3, h4, h5⟩
theorem At2.kpb {w' : World} (h : At2 w0 w bx mx sx cy my sy) {z : Nat} {cs : Array Value} {T : TypeId} (hz : Blk w z (.cells cs T)) (hz0 : w0.heap.size ≤ z) (h5 : T ≠ 5) (h72 : T ≠ 72) (h77 : T ≠ 77) (hk : Kp [z] w w') : At2 w0 w' bx mx sx cy my sy := by
  obtain ⟨h0, dx, dy, h1, h2, h3, h4, h6⟩ := h
  exact ⟨h0.trans_new hk (new1 hz0), dx, dy, h1.kp1 hz h5 h72 h77 hk, h2.kp1 hz h5 h72 h77 hk, h3, h4, h6⟩
/-- The first one has turned, the second one stays. -/
theorem At2.turn {w' : World} {sx' : Ns} {dx dx' dy : Due} (h0 : Kp [] w0 w) (h1 : Rep w bx mx sx dx) (h2 : Rep w cy my sy dy) (h3 : ∀ z, Uses bx mx dx z → w0.heap.size ≤ z) (h4 : ∀ z, Uses cy my dy z → w0.heap.size ≤ z) (h5 : ∀ z, Uses bx mx dx z → ¬ Uses cy my dy z)
    (hk : Kp (sendS bx mx dx) w w') (hR : Rep w' bx mx sx' dx') (hU : ∀ z, Uses bx mx dx' z → Uses bx mx dx z ∨ w.heap.size ≤ z) : At2 w0 w' bx mx sx' cy my sy := by
  refine ⟨At.kpU h0 h3 hk, dx', dy, hR, h2.kp hk (fun z hz hu => h5 z (uses_sendS hz) hu), fun z hz => ?_, h4, fun z hz hu => ?_⟩
  · rcases hU z hz with h | h
    · exact h3 z h
    · have := h0.size
      omega
  · rcases hU z hz with h | h
    · exact h5 z h hu
    · have := h2.uses_lt hu
      omega
theorem sendE_dec {s : Ns} {A B : Int} {n : Nat} {later : List Int} (h : s.sendE A B n later = 0) : 0 ≤ A ∧ A < s.parties ∧ 0 ≤ B ∧ B < s.parties := by
  unfold Ns.sendE at h
  split at h
  · cases h
  · omega
theorem send2 (h : At2 w0 w bx mx sx cy my sy) (hnow : sx.now ≤ 1000000000000) (hsent : sx.sent ≤ 1000000000000) (hpl : sx.pend.length ≤ 4096) (A B : Int) (ab : Option Addr) (cb : Nat) (bs : List UInt8) (hSb : Sl byc 1 w ab bs) (al : Option Addr) (cl : Nat) (later : List Int)
    (hS : SlI w0 al later) (hl : later.length ≤ 100000) (hb : bs.length ≤ 1000000) : Calls Try.prog 13 #[.pointer (some ⟨bx, 0, none⟩), lv A B ab bs.length cb, fv al later.length cl] w (fun e w' => e = .returned (.int .i64 (sx.sendE A B bs.length later)) ∧ At2 w0 w' bx mx (sx.sendD A B bs later) cy my sy ∧ Kt mx w w') := by
  have h' := h
  obtain ⟨h0, dx, dy, h1, h2, h3, h4, h5⟩ := h
  by_cases hE : sx.sendE A B bs.length later = 0
  · obtain ⟨a1, a2, a3, a4⟩ := sendE_dec hE
    obtain ⟨A, rfl⟩ : ∃ k : Nat, A = (k : Int) := ⟨A.toNat, by omega⟩
    obtain ⟨B, rfl⟩ : ∃ k : Nat, B = (k : Int) := ⟨B.toNat, by omega⟩
    refine (send_good h1 hnow hsent A B ab cb bs hSb al cl later (fun w' hk => hS.kp0 (At.kpU h0 h3 hk)) hE).mono (fun e w' h => ?_)
    obtain ⟨dx', he, hR, hU, hk⟩ := h
    refine ⟨by rw [hE]; exact he, ?_, Kt.send h1 hk⟩
    unfold Ns.sendD
    rw [if_pos hE]
    exact At2.turn h0 h1 h2 h3 h4 h5 hk hR hU
  · refine (send_bad h1 (by omega) A B ab bs.length cb al cl later (hS.kp0 h0) hl (by omega) hE).mono (fun e w' h => ?_)
    obtain ⟨he, hk⟩ := h
    refine ⟨he, ?_, Kt.of0 hk⟩
    unfold Ns.sendD
    rw [if_neg hE]
    exact h'.kp0 hk
theorem step2 (h : At2 w0 w bx mx sx cy my sy) (hnow : sx.now ≤ 1000000000000) (hpl : sx.pend.length ≤ 4096) (hin : ∀ c ∈ sx.pend, c.fr < 16 ∧ c.to < 16 ∧ c.bs.length ≤ 65536) : Calls Try.prog 14 #[.pointer (some ⟨bx, 0, none⟩)] w (fun e w' => ∃ v ls, e = .returned v ∧ w'.ownsRow w.heap.size 35 3 v ls.length (flt lcl ls) ∧ ls.map ltc = (sx.open_ sx.come).map cpc
    ∧ (∀ l ∈ ls, ByAt w' l.a l.bs ∧ ∀ b off, l.a = some ⟨b, off, none⟩ → w.heap.size ≤ b) ∧ At2 w0 w' bx mx sx.step cy my sy ∧ Kt mx w w') := by
  obtain ⟨h0, dx, dy, h1, h2, h3, h4, h5⟩ := h
  refine (step_spec h1 hnow hpl hin).mono (fun e w' h => ?_)
  obtain ⟨v, dx', ls, he, ho, hl, hb, hR, hU, hk⟩ := h
  have hk' : Kp (sendS bx mx dx) w w' := hk.mono (fun x hx => by
    rcases List.mem_cons.1 hx with rfl | hx
    · simp [sendS]
    · rw [List.mem_singleton] at hx
      subst hx
      simp [sendS])
  exact ⟨v, ls, he, ho, hl, hb, At2.turn h0 h1 h2 h3 h4 h5 hk' hR (fun z hz => Or.inl (hU z hz)), Kt.send h1 hk'⟩
theorem cut2 (h : At2 w0 w bx mx sx cy my sy) (A B : Int) (b : Bool) (h16 : sx.parties ≤ 16) : Calls Try.prog 18 #[.pointer (some ⟨bx, 0, none⟩), .int .i64 A, .int .i64 B, .bool b] w (fun e w' => e = .returned (.int .i64 (sx.cutE A B)) ∧ At2 w0 w' bx mx (sx.cutD A B b) cy my sy ∧ Kt mx w w') := by
  have h' := h
  obtain ⟨h0, dx, dy, h1, h2, h3, h4, h5⟩ := h
  by_cases hE : ¬ (0 ≤ A ∧ A < sx.parties) ∨ ¬ (0 ≤ B ∧ B < sx.parties)
  · refine (cut_bad h1 A B b hE).mono (fun e w' h => ?_)
    obtain ⟨he, hk⟩ := h
    have e28 : sx.cutE A B = 28 := by unfold Ns.cutE; rw [if_pos hE]
    refine ⟨by rw [e28]; exact he, ?_, Kt.of0 hk⟩
    unfold Ns.cutD
    rw [if_neg (by rw [e28]; decide)]
    exact h'.kp0 hk
  · obtain ⟨A, rfl⟩ : ∃ k : Nat, A = (k : Int) := ⟨A.toNat, by omega⟩
    obtain ⟨B, rfl⟩ : ∃ k : Nat, B = (k : Int) := ⟨B.toNat, by omega⟩
    refine (cut_good h1 A B b h16 (by omega) (by omega)).mono (fun e w' h => ?_)
    obtain ⟨he, hR, hk⟩ := h
    have e0 : sx.cutE A B = 0 := by unfold Ns.cutE; rw [if_neg hE]
    have hk' : Kp (sendS bx mx dx) w w' := hk.mono (fun x hx => by
      rw [List.mem_singleton] at hx
      subst hx
      simp [sendS])
    refine ⟨by rw [e0]; exact he, ?_, Kt.send h1 hk'⟩
    unfold Ns.cutD
    rw [if_pos e0]
    exact At2.turn h0 h1 h2 h3 h4 h5 hk' hR (fun z hz => Or.inl hz)
end
/-- Two nets of so many parties. -/
theorem At2.make {w w1 w2 : World} {bx mx cy my : Nat} {s s' : Ns} (hx : At w w1 bx mx s) (hy : At w1 w2 cy my s') : At2 w w2 bx mx s cy my s' := by
  obtain ⟨h1, dx, h2, h3⟩ := hx
  obtain ⟨k1, dy, k2, k3⟩ := hy
  refine ⟨h1.trans k1, dx, dy, h2.kp0 k1, k2, h3, fun z hz => ?_, fun z hz hu => ?_⟩
  · have := k3 z hz
    have := h1.size
    omega
  · have := h2.uses_lt hz
    have := k3 z hu
    omega
end Go.Proofs.Ytfelaicoedlejaa
/-
  The document's net: its value, and its small functions.
-/
namespace Go.Proofs.Ytfelaicoedlejaa
set_option linter.unusedVariables false

/-- The document's net. -/
structure Rn where
  parties : Nat
  now : Nat
  way : List Cp
  cuts : List (Nat × Nat)
def cpl (c : Cp) : List Value := [.int .i64 c.fr, .int .i64 c.to, sv c.bs, .int .i64 c.due]
theorem cpl_length (c : Cp) : (cpl c).length = 4 := rfl
theorem cpl_one (c : Cp) : allOne (cpl c) = true := rfl
def prl (p : Nat × Nat) : List Value := [.int .i64 p.1, .int .i64 p.2]
theorem prl_length (p : Nat × Nat) : (prl p).length = 2 := rfl
theorem prl_one (p : Nat × Nat) : allOne (prl p) = true := rfl
/-- .. with its slices: v, u. -/
def rcl (r : Rn) (v u : Value) : List Value := [.int .i64 r.parties, .int .i64 r.now, v, u]
theorem rcl_length (r : Rn) (v u : Value) : (rcl r v u).length = 4 := rfl
structure RnAt (w : World) (r : Rn) (v u : Value) : Prop where
  way : w.ownsRow 0 98 4 v r.way.length (flt cpl r.way)
  cuts : w.ownsRow 0 100 2 u r.cuts.length (flt prl r.cuts)
theorem RnAt.kp0 {w w' : World} {r : Rn} {v u : Value} (h : RnAt w r v u) (hk : Kp [] w w') : RnAt w' r v u := ⟨own_kp0 h.way hk, own_kp0 h.cuts hk⟩
theorem RnAt.kt {bm : Nat} {w w' : World} {r : Rn} {v u : Value} (h : RnAt w r v u) (hk : Kt bm w w') : RnAt w' r v u := ⟨own_kt h.way hk (by decide) (by decide), own_kt h.cuts hk (by decide) (by decide)⟩
theorem own_slice {w : World} {base n sz : Nat} {T : TypeId} {v : Value} {xs : List Value} (h : w.ownsRow base T sz v n xs) : ∃ a c, v = .slice a n c := by
  rcases h.2 with ⟨rfl, rfl⟩ | ⟨g, cap, cur, rfl, _⟩
  · exact ⟨none, 0, rfl⟩
  · exact ⟨_, _, rfl⟩
theorem allOne_rcl (r : Rn) (a b : Option Addr) (n c m d : Nat) : allOne (rcl r (.slice a n c) (.slice b m d)) = true := rfl
theorem RnAt.one {w : World} {r : Rn} {v u : Value} (h : RnAt w r v u) : allOne (rcl r v u) = true := by
  obtain ⟨a, c, rfl⟩ := own_slice h.way
  obtain ⟨b, d, rfl⟩ := own_slice h.cuts
  rfl
def Rn.new (n : Nat) : Rn := ⟨n, 0, [], []⟩
abbrev nilS : Value := .slice none 0 0
theorem build47n (w : World) (n : Int) : (Instr.build 47 #[(0, Value.int .i64 n)]).run Try.prog w = .ok (.agg #[.int .i64 n, .int .i64 0, .slice none 0 0, .slice none 0 0]) w := by kernel_rfl
theorem build47z (w : World) : (Instr.build 47 #[]).run Try.prog w = .ok (.agg #[.int .i64 0, .int .i64 0, .slice none 0 0, .slice none 0 0]) w := by kernel_rfl

attribute [local irreducible] CG NG SG Vals Der Row Blk MapIs IterAt DerX sv
theorem rows47 {w : World} {b : Nat} {r : Rn} {v u : Value} (h : Blk w b (.cells (rcl r v u).toArray 47)) : Row w b 0 [.int .i64 r.parties] ∧ Row w b 1 [.int .i64 r.now] ∧ Row w b 2 [v] ∧ Row w b 3 [u] ∧ Row w b 0 (rcl r v u) :=
  ⟨Row.of h [] [.int .i64 r.now, v, u] rfl rfl, Row.of h [.int .i64 r.parties] [v, u] rfl rfl, Row.of h [.int .i64 r.parties, .int .i64 r.now] [u] rfl rfl, Row.of h [.int .i64 r.parties, .int .i64 r.now, v] [] rfl rfl, Row.of h [] [] (by simp) rfl⟩
set_option maxHeartbeats 8000000 in
theorem rnew_good (w : World) (n : Nat) (h1 : 1 ≤ n) (h2 : n ≤ 16) : Ret Try.prog 29 #[.int .i64 n] w (.tuple #[.agg (rcl (Rn.new n) nilS nilS).toArray, .bool true]) := by
  refine enter1 Try.func29 rfl Try.ntmps29 rfl ?_
  have g1 : ¬ (n : Int) < 1 := by omega
  have g2 : ¬ (16 : Int) < (n : Int) := by omega
  repeat (first|apply CG.seq|apply CG.region|apply SG.nil|apply NG.next|apply CG.skip|apply CG.block|apply CG.ret|apply CG.exit|apply CG.scope|apply NG.ret_then|apply NG.ret_block|apply NG.ret_scope|apply NG.exit_then|refine NG.exit_block rfl ?_|refine NG.exit_other rfl ?_|apply NG.exit_scope|apply NG.normal_block|apply NG.normal_scope|refine SG.val rfl rfl rfl rfl (by first|((first|apply qmv|apply qas|apply qlc|apply qla|apply qfa|apply qnc|apply qic|apply qix|apply qpk|apply qls|apply qei|apply qni|apply qed|apply qnd|apply qad|apply qln|apply qle|apply qgt|apply qge|apply qlk|apply qlv|apply qxt|apply qsb|apply qnt|apply qep|apply qnp|apply qeb|apply qnb|apply qx2|apply qx4|apply qcv|apply qlm|apply qfr|apply qto|apply qmx|apply qen|apply qsn|apply qx6|apply qx5|apply qx4|apply qx3|apply qx2|apply qx1|apply qx0)<;>(first|exact rfl|exact Ar.mk (by omega)|assumption|exact dct (by assumption)|exact dcf (by assumption)|exact dct (by omega)|exact dcf (by omega)|exact List.not_mem_nil|exact dc_length _|exact nc_length _|exact rc_length _ _ _|exact nm1 (by omega)|exact nm2 (by omega) (by omega)|exact dct rfl|exact dct (by decide)|exact dcf (by decide)|exact (Int.toNat_of_nonneg (by omega)).symm|exact dcu|exact lk1 (by assumption)|exact lk0 (by assumption)))|fail) ?_)
  refine SG.alloc rfl rfl rfl (fun b w1 hk1 hb hB => ?_)
  repeat (first | first|apply CG.seq|apply CG.region|apply SG.nil|apply NG.next|apply CG.skip|apply CG.block|apply CG.ret|apply CG.exit|apply CG.scope|apply NG.ret_then|apply NG.ret_block|apply NG.ret_scope|apply NG.exit_then|refine NG.exit_block rfl ?_|refine NG.exit_other rfl ?_|apply NG.exit_scope|apply NG.normal_block|apply NG.normal_scope|refine SG.val rfl rfl rfl rfl (by first|((first|apply qmv|apply qas|apply qlc|apply qla|apply qfa|apply qnc|apply qic|apply qix|apply qpk|apply qls|apply qei|apply qni|apply qed|apply qnd|apply qad|apply qln|apply qle|apply qgt|apply qge|apply qlk|apply qlv|apply qxt|apply qsb|apply qnt|apply qep|apply qnp|apply qeb|apply qnb|apply qx2|apply qx4|apply qcv|apply qlm|apply qfr|apply qto|apply qmx|apply qen|apply qsn|apply qx6|apply qx5|apply qx4|apply qx3|apply qx2|apply qx1|apply qx0)<;>(first|exact rfl|exact Ar.mk (by omega)|assumption|exact dct (by assumption)|exact dcf (by assumption)|exact dct (by omega)|exact dcf (by omega)|exact List.not_mem_nil|exact dc_length _|exact nc_length _|exact rc_length _ _ _|exact nm1 (by omega)|exact nm2 (by omega) (by omega)|exact dct rfl|exact dct (by decide)|exact dcf (by decide)|exact (Int.toNat_of_nonneg (by omega)).symm|exact dcu|exact lk1 (by assumption)|exact lk0 (by assumption)))|fail) ?_ | refine SG.skip rfl rfl ?_)
  refine CG.cond_f rfl (by exact rho_of rfl) rfl ?_
  repeat (first|apply CG.seq|apply CG.region|apply SG.nil|apply NG.next|apply CG.skip|apply CG.block|apply CG.ret|apply CG.exit|apply CG.scope|apply NG.ret_then|apply NG.ret_block|apply NG.ret_scope|apply NG.exit_then|refine NG.exit_block rfl ?_|refine NG.exit_other rfl ?_|apply NG.exit_scope|apply NG.normal_block|apply NG.normal_scope|refine SG.val rfl rfl rfl rfl (by first|((first|apply qmv|apply qas|apply qlc|apply qla|apply qfa|apply qnc|apply qic|apply qix|apply qpk|apply qls|apply qei|apply qni|apply qed|apply qnd|apply qad|apply qln|apply qle|apply qgt|apply qge|apply qlk|apply qlv|apply qxt|apply qsb|apply qnt|apply qep|apply qnp|apply qeb|apply qnb|apply qx2|apply qx4|apply qcv|apply qlm|apply qfr|apply qto|apply qmx|apply qen|apply qsn|apply qx6|apply qx5|apply qx4|apply qx3|apply qx2|apply qx1|apply qx0)<;>(first|exact rfl|exact Ar.mk (by omega)|assumption|exact dct (by assumption)|exact dcf (by assumption)|exact dct (by omega)|exact dcf (by omega)|exact List.not_mem_nil|exact dc_length _|exact nc_length _|exact rc_length _ _ _|exact nm1 (by omega)|exact nm2 (by omega) (by omega)|exact dct rfl|exact dct (by decide)|exact dcf (by decide)|exact (Int.toNat_of_nonneg (by omega)).symm|exact dcu|exact lk1 (by assumption)|exact lk0 (by assumption)))|fail) ?_)
  refine SG.val rfl rfl rfl rfl (vals_build rfl (fun w => build47n w n)) ?_
  refine SG.setAll (old := [.int .i64 0, .int .i64 0, nilS, nilS]) (l := rcl (Rn.new n) nilS nilS) rfl rfl (by exact rho_of rfl) (by exact rho_of rfl) hB rfl rfl rfl (fun w2 hk2 hB2 => ?_)
  obtain ⟨_, _, _, _, hr⟩ := rows47 hB2
  repeat (first|apply CG.seq|apply CG.region|apply SG.nil|apply NG.next|apply CG.skip|apply CG.block|apply CG.ret|apply CG.exit|apply CG.scope|apply NG.ret_then|apply NG.ret_block|apply NG.ret_scope|apply NG.exit_then|refine NG.exit_block rfl ?_|refine NG.exit_other rfl ?_|apply NG.exit_scope|apply NG.normal_block|apply NG.normal_scope|refine SG.val rfl rfl rfl rfl (by first|((first|apply qmv|apply qas|apply qlc|apply qla|apply qfa|apply qnc|apply qic|apply qix|apply qpk|apply qls|apply qei|apply qni|apply qed|apply qnd|apply qad|apply qln|apply qle|apply qgt|apply qge|apply qlk|apply qlv|apply qxt|apply qsb|apply qnt|apply qep|apply qnp|apply qeb|apply qnb|apply qx2|apply qx4|apply qcv|apply qlm|apply qfr|apply qto|apply qmx|apply qen|apply qsn|apply qx6|apply qx5|apply qx4|apply qx3|apply qx2|apply qx1|apply qx0)<;>(first|exact rfl|exact Ar.mk (by omega)|assumption|exact dct (by assumption)|exact dcf (by assumption)|exact dct (by omega)|exact dcf (by omega)|exact List.not_mem_nil|exact dc_length _|exact nc_length _|exact rc_length _ _ _|exact nm1 (by omega)|exact nm2 (by omega) (by omega)|exact dct rfl|exact dct (by decide)|exact dcf (by decide)|exact (Int.toNat_of_nonneg (by omega)).symm|exact dcu|exact lk1 (by assumption)|exact lk0 (by assumption)))|fail) ?_)
  refine ret2 (Or.inl rfl) Try.results29 (ResV.agg rfl rfl hr rfl) (by first | exact ResV.tmp rfl | exact ResV.agg rfl rfl (by assumption) (by first | exact dc_length _ | exact nc_length _ | exact rc_length _ _ _ | rfl) | exact ResV.cell rfl rfl (by assumption)) ?_
  exact ⟨rfl, hk1.trans_new hk2 (new1 hb)⟩
set_option maxHeartbeats 8000000 in
theorem rnew_bad (w : World) (n : Int) (h : n < 1 ∨ 16 < n) : Ret Try.prog 29 #[.int .i64 n] w (.tuple #[.agg (rcl (Rn.new 0) nilS nilS).toArray, .bool false]) := by
  refine enter1 Try.func29 rfl Try.ntmps29 rfl ?_
  have hcase : n < 1 ∨ (¬ n < 1 ∧ 16 < n) := by omega
  rcases hcase with g1 | ⟨g1, g2⟩
  all_goals
    repeat (first|apply CG.seq|apply CG.region|apply SG.nil|apply NG.next|apply CG.skip|apply CG.block|apply CG.ret|apply CG.exit|apply CG.scope|apply NG.ret_then|apply NG.ret_block|apply NG.ret_scope|apply NG.exit_then|refine NG.exit_block rfl ?_|refine NG.exit_other rfl ?_|apply NG.exit_scope|apply NG.normal_block|apply NG.normal_scope|refine SG.val rfl rfl rfl rfl (by first|((first|apply qmv|apply qas|apply qlc|apply qla|apply qfa|apply qnc|apply qic|apply qix|apply qpk|apply qls|apply qei|apply qni|apply qed|apply qnd|apply qad|apply qln|apply qle|apply qgt|apply qge|apply qlk|apply qlv|apply qxt|apply qsb|apply qnt|apply qep|apply qnp|apply qeb|apply qnb|apply qx2|apply qx4|apply qcv|apply qlm|apply qfr|apply qto|apply qmx|apply qen|apply qsn|apply qx6|apply qx5|apply qx4|apply qx3|apply qx2|apply qx1|apply qx0)<;>(first|exact rfl|exact Ar.mk (by omega)|assumption|exact dct (by assumption)|exact dcf (by assumption)|exact dct (by omega)|exact dcf (by omega)|exact List.not_mem_nil|exact dc_length _|exact nc_length _|exact rc_length _ _ _|exact nm1 (by omega)|exact nm2 (by omega) (by omega)|exact dct rfl|exact dct (by decide)|exact dcf (by decide)|exact (Int.toNat_of_nonneg (by omega)).symm|exact dcu|exact lk1 (by assumption)|exact lk0 (by assumption)))|fail) ?_)
    refine SG.alloc rfl rfl rfl (fun b w1 hk1 hb hB => ?_)
    repeat (first | first|apply CG.seq|apply CG.region|apply SG.nil|apply NG.next|apply CG.skip|apply CG.block|apply CG.ret|apply CG.exit|apply CG.scope|apply NG.ret_then|apply NG.ret_block|apply NG.ret_scope|apply NG.exit_then|refine NG.exit_block rfl ?_|refine NG.exit_other rfl ?_|apply NG.exit_scope|apply NG.normal_block|apply NG.normal_scope|refine SG.val rfl rfl rfl rfl (by first|((first|apply qmv|apply qas|apply qlc|apply qla|apply qfa|apply qnc|apply qic|apply qix|apply qpk|apply qls|apply qei|apply qni|apply qed|apply qnd|apply qad|apply qln|apply qle|apply qgt|apply qge|apply qlk|apply qlv|apply qxt|apply qsb|apply qnt|apply qep|apply qnp|apply qeb|apply qnb|apply qx2|apply qx4|apply qcv|apply qlm|apply qfr|apply qto|apply qmx|apply qen|apply qsn|apply qx6|apply qx5|apply qx4|apply qx3|apply qx2|apply qx1|apply qx0)<;>(first|exact rfl|exact Ar.mk (by omega)|assumption|exact dct (by assumption)|exact dcf (by assumption)|exact dct (by omega)|exact dcf (by omega)|exact List.not_mem_nil|exact dc_length _|exact nc_length _|exact rc_length _ _ _|exact nm1 (by omega)|exact nm2 (by omega) (by omega)|exact dct rfl|exact dct (by decide)|exact dcf (by decide)|exact (Int.toNat_of_nonneg (by omega)).symm|exact dcu|exact lk1 (by assumption)|exact lk0 (by assumption)))|fail) ?_ | refine SG.skip rfl rfl ?_)
    refine CG.cond_t rfl (by exact rho_of rfl) rfl ?_
    repeat (first|apply CG.seq|apply CG.region|apply SG.nil|apply NG.next|apply CG.skip|apply CG.block|apply CG.ret|apply CG.exit|apply CG.scope|apply NG.ret_then|apply NG.ret_block|apply NG.ret_scope|apply NG.exit_then|refine NG.exit_block rfl ?_|refine NG.exit_other rfl ?_|apply NG.exit_scope|apply NG.normal_block|apply NG.normal_scope|refine SG.val rfl rfl rfl rfl (by first|((first|apply qmv|apply qas|apply qlc|apply qla|apply qfa|apply qnc|apply qic|apply qix|apply qpk|apply qls|apply qei|apply qni|apply qed|apply qnd|apply qad|apply qln|apply qle|apply qgt|apply qge|apply qlk|apply qlv|apply qxt|apply qsb|apply qnt|apply qep|apply qnp|apply qeb|apply qnb|apply qx2|apply qx4|apply qcv|apply qlm|apply qfr|apply qto|apply qmx|apply qen|apply qsn|apply qx6|apply qx5|apply qx4|apply qx3|apply qx2|apply qx1|apply qx0)<;>(first|exact rfl|exact Ar.mk (by omega)|assumption|exact dct (by assumption)|exact dcf (by assumption)|exact dct (by omega)|exact dcf (by omega)|exact List.not_mem_nil|exact dc_length _|exact nc_length _|exact rc_length _ _ _|exact nm1 (by omega)|exact nm2 (by omega) (by omega)|exact dct rfl|exact dct (by decide)|exact dcf (by decide)|exact (Int.toNat_of_nonneg (by omega)).symm|exact dcu|exact lk1 (by assumption)|exact lk0 (by assumption)))|fail) ?_)
    refine SG.val rfl rfl rfl rfl (vals_build rfl (fun w => build47z w)) ?_
    refine SG.setAll (old := [.int .i64 0, .int .i64 0, nilS, nilS]) (l := rcl (Rn.new 0) nilS nilS) rfl rfl (by exact rho_of rfl) (by exact rho_of rfl) hB rfl rfl rfl (fun w2 hk2 hB2 => ?_)
    obtain ⟨_, _, _, _, hr⟩ := rows47 hB2
    repeat (first|apply CG.seq|apply CG.region|apply SG.nil|apply NG.next|apply CG.skip|apply CG.block|apply CG.ret|apply CG.exit|apply CG.scope|apply NG.ret_then|apply NG.ret_block|apply NG.ret_scope|apply NG.exit_then|refine NG.exit_block rfl ?_|refine NG.exit_other rfl ?_|apply NG.exit_scope|apply NG.normal_block|apply NG.normal_scope|refine SG.val rfl rfl rfl rfl (by first|((first|apply qmv|apply qas|apply qlc|apply qla|apply qfa|apply qnc|apply qic|apply qix|apply qpk|apply qls|apply qei|apply qni|apply qed|apply qnd|apply qad|apply qln|apply qle|apply qgt|apply qge|apply qlk|apply qlv|apply qxt|apply qsb|apply qnt|apply qep|apply qnp|apply qeb|apply qnb|apply qx2|apply qx4|apply qcv|apply qlm|apply qfr|apply qto|apply qmx|apply qen|apply qsn|apply qx6|apply qx5|apply qx4|apply qx3|apply qx2|apply qx1|apply qx0)<;>(first|exact rfl|exact Ar.mk (by omega)|assumption|exact dct (by assumption)|exact dcf (by assumption)|exact dct (by omega)|exact dcf (by omega)|exact List.not_mem_nil|exact dc_length _|exact nc_length _|exact rc_length _ _ _|exact nm1 (by omega)|exact nm2 (by omega) (by omega)|exact dct rfl|exact dct (by decide)|exact dcf (by decide)|exact (Int.toNat_of_nonneg (by omega)).symm|exact dcu|exact lk1 (by assumption)|exact lk0 (by assumption)))|fail) ?_)
    refine ret2 (Or.inl rfl) Try.results29 (ResV.agg rfl rfl hr rfl) (by first | exact ResV.tmp rfl | exact ResV.agg rfl rfl (by assumption) (by first | exact dc_length _ | exact nc_length _ | exact rc_length _ _ _ | rfl) | exact ResV.cell rfl rfl (by assumption)) ?_
    exact ⟨rfl, hk1.trans_new hk2 (new1 hb)⟩
set_option maxHeartbeats 8000000 in
theorem rparty (w : World) (r : Rn) (v u : Value) (i : Int) : Ret Try.prog 43 #[.agg (rcl r v u).toArray, .int .i64 i] w (.bool (decide (0 ≤ i ∧ i < r.parties))) := by
  refine enter2 Try.func43 rfl Try.ntmps43 rfl ?_
  repeat (first|apply CG.seq|apply CG.region|apply SG.nil|apply NG.next|apply CG.skip|apply CG.block|apply CG.ret|apply CG.exit|apply CG.scope|apply NG.ret_then|apply NG.ret_block|apply NG.ret_scope|apply NG.exit_then|refine NG.exit_block rfl ?_|refine NG.exit_other rfl ?_|apply NG.exit_scope|apply NG.normal_block|apply NG.normal_scope|refine SG.val rfl rfl rfl rfl (by first|((first|apply qmv|apply qas|apply qlc|apply qla|apply qfa|apply qnc|apply qic|apply qix|apply qpk|apply qls|apply qei|apply qni|apply qed|apply qnd|apply qad|apply qln|apply qle|apply qgt|apply qge|apply qlk|apply qlv|apply qxt|apply qsb|apply qnt|apply qep|apply qnp|apply qeb|apply qnb|apply qx2|apply qx4|apply qcv|apply qlm|apply qfr|apply qto|apply qmx|apply qen|apply qsn|apply qx6|apply qx5|apply qx4|apply qx3|apply qx2|apply qx1|apply qx0)<;>(first|exact rfl|exact Ar.mk (by omega)|assumption|exact dct (by assumption)|exact dcf (by assumption)|exact dct (by omega)|exact dcf (by omega)|exact List.not_mem_nil|exact dc_length _|exact nc_length _|exact rc_length _ _ _|exact nm1 (by omega)|exact nm2 (by omega) (by omega)|exact dct rfl|exact dct (by decide)|exact dcf (by decide)|exact (Int.toNat_of_nonneg (by omega)).symm|exact dcu|exact lk1 (by assumption)|exact lk0 (by assumption)))|fail) ?_)
  refine SG.box rfl rfl rfl (by exact rho_of rfl) (fun b w1 hk1 hb hB => ?_)
  have hB : Blk w1 b (.cells (rcl r v u).toArray 47) := hB
  obtain ⟨r0, _, _, _, _⟩ := rows47 hB
  by_cases g1 : 0 ≤ i
  · by_cases g2 : i < (r.parties : Int)
    · repeat (first | first|apply CG.seq|apply CG.region|apply SG.nil|apply NG.next|apply CG.skip|apply CG.block|apply CG.ret|apply CG.exit|apply CG.scope|apply NG.ret_then|apply NG.ret_block|apply NG.ret_scope|apply NG.exit_then|refine NG.exit_block rfl ?_|refine NG.exit_other rfl ?_|apply NG.exit_scope|apply NG.normal_block|apply NG.normal_scope|refine SG.val rfl rfl rfl rfl (by first|((first|apply qmv|apply qas|apply qlc|apply qla|apply qfa|apply qnc|apply qic|apply qix|apply qpk|apply qls|apply qei|apply qni|apply qed|apply qnd|apply qad|apply qln|apply qle|apply qgt|apply qge|apply qlk|apply qlv|apply qxt|apply qsb|apply qnt|apply qep|apply qnp|apply qeb|apply qnb|apply qx2|apply qx4|apply qcv|apply qlm|apply qfr|apply qto|apply qmx|apply qen|apply qsn|apply qx6|apply qx5|apply qx4|apply qx3|apply qx2|apply qx1|apply qx0)<;>(first|exact rfl|exact Ar.mk (by omega)|assumption|exact dct (by assumption)|exact dcf (by assumption)|exact dct (by omega)|exact dcf (by omega)|exact List.not_mem_nil|exact dc_length _|exact nc_length _|exact rc_length _ _ _|exact nm1 (by omega)|exact nm2 (by omega) (by omega)|exact dct rfl|exact dct (by decide)|exact dcf (by decide)|exact (Int.toNat_of_nonneg (by omega)).symm|exact dcu|exact lk1 (by assumption)|exact lk0 (by assumption)))|fail) ?_ | refine SG.skip rfl rfl ?_)
      refine ret1 (Or.inl rfl) Try.results43 (by first | exact ResV.tmp rfl | exact ResV.agg rfl rfl (by assumption) (by first | exact dc_length _ | exact nc_length _ | exact rc_length _ _ _ | rfl) | exact ResV.cell rfl rfl (by assumption)) ?_
      exact ⟨by simp [g1, g2], hk1⟩
    · repeat (first | first|apply CG.seq|apply CG.region|apply SG.nil|apply NG.next|apply CG.skip|apply CG.block|apply CG.ret|apply CG.exit|apply CG.scope|apply NG.ret_then|apply NG.ret_block|apply NG.ret_scope|apply NG.exit_then|refine NG.exit_block rfl ?_|refine NG.exit_other rfl ?_|apply NG.exit_scope|apply NG.normal_block|apply NG.normal_scope|refine SG.val rfl rfl rfl rfl (by first|((first|apply qmv|apply qas|apply qlc|apply qla|apply qfa|apply qnc|apply qic|apply qix|apply qpk|apply qls|apply qei|apply qni|apply qed|apply qnd|apply qad|apply qln|apply qle|apply qgt|apply qge|apply qlk|apply qlv|apply qxt|apply qsb|apply qnt|apply qep|apply qnp|apply qeb|apply qnb|apply qx2|apply qx4|apply qcv|apply qlm|apply qfr|apply qto|apply qmx|apply qen|apply qsn|apply qx6|apply qx5|apply qx4|apply qx3|apply qx2|apply qx1|apply qx0)<;>(first|exact rfl|exact Ar.mk (by omega)|assumption|exact dct (by assumption)|exact dcf (by assumption)|exact dct (by omega)|exact dcf (by omega)|exact List.not_mem_nil|exact dc_length _|exact nc_length _|exact rc_length _ _ _|exact nm1 (by omega)|exact nm2 (by omega) (by omega)|exact dct rfl|exact dct (by decide)|exact dcf (by decide)|exact (Int.toNat_of_nonneg (by omega)).symm|exact dcu|exact lk1 (by assumption)|exact lk0 (by assumption)))|fail) ?_ | refine SG.skip rfl rfl ?_)
      refine ret1 (Or.inl rfl) Try.results43 (by first | exact ResV.tmp rfl | exact ResV.agg rfl rfl (by assumption) (by first | exact dc_length _ | exact nc_length _ | exact rc_length _ _ _ | rfl) | exact ResV.cell rfl rfl (by assumption)) ?_
      exact ⟨by simp [g2], hk1⟩
  · repeat (first | first|apply CG.seq|apply CG.region|apply SG.nil|apply NG.next|apply CG.skip|apply CG.block|apply CG.ret|apply CG.exit|apply CG.scope|apply NG.ret_then|apply NG.ret_block|apply NG.ret_scope|apply NG.exit_then|refine NG.exit_block rfl ?_|refine NG.exit_other rfl ?_|apply NG.exit_scope|apply NG.normal_block|apply NG.normal_scope|refine SG.val rfl rfl rfl rfl (by first|((first|apply qmv|apply qas|apply qlc|apply qla|apply qfa|apply qnc|apply qic|apply qix|apply qpk|apply qls|apply qei|apply qni|apply qed|apply qnd|apply qad|apply qln|apply qle|apply qgt|apply qge|apply qlk|apply qlv|apply qxt|apply qsb|apply qnt|apply qep|apply qnp|apply qeb|apply qnb|apply qx2|apply qx4|apply qcv|apply qlm|apply qfr|apply qto|apply qmx|apply qen|apply qsn|apply qx6|apply qx5|apply qx4|apply qx3|apply qx2|apply qx1|apply qx0)<;>(first|exact rfl|exact Ar.mk (by omega)|assumption|exact dct (by assumption)|exact dcf (by assumption)|exact dct (by omega)|exact dcf (by omega)|exact List.not_mem_nil|exact dc_length _|exact nc_length _|exact rc_length _ _ _|exact nm1 (by omega)|exact nm2 (by omega) (by omega)|exact dct rfl|exact dct (by decide)|exact dcf (by decide)|exact (Int.toNat_of_nonneg (by omega)).symm|exact dcu|exact lk1 (by assumption)|exact lk0 (by assumption)))|fail) ?_ | refine SG.skip rfl rfl ?_)
    refine ret1 (Or.inl rfl) Try.results43 (by first | exact ResV.tmp rfl | exact ResV.agg rfl rfl (by assumption) (by first | exact dc_length _ | exact nc_length _ | exact rc_length _ _ _ | rfl) | exact ResV.cell rfl rfl (by assumption)) ?_
    exact ⟨by simp [g1], hk1⟩
end Go.Proofs.Ytfelaicoedlejaa
/-
  The document's net: a tick, ways that are cut.
-/
namespace Go.Proofs.Ytfelaicoedlejaa
set_option linter.unusedVariables false

theorem pr_sz : ∃ m, Try.prog.types.size = m + 3 := ⟨Try.prog.types.size - 3, by kernel_rfl⟩
theorem cel3 : Try.prog.cellsOf 3 = 1 := by kernel_rfl
theorem cel100 : Try.prog.cellsOf 100 = 2 := by kernel_rfl
theorem pr_lits (p : Nat × Nat) (h1 : p.1 < 1000000) (h2 : p.2 < 1000000) : (Try.prog.keyLits (Try.prog.types.size + 1) 100 (prl p)).isSome = true := by
  obtain ⟨m, hm⟩ := pr_sz
  rw [hm]
  obtain ⟨a, b⟩ := p
  have hw1 : (Lit.int .i64 (a : Int)).wf = true := by
    simp [Lit.wf, IntKind.min, IntKind.max, IntKind.signed, IntKind.bits]
    replace h1 : a < 1000000 := h1
    omega
  have hw2 : (Lit.int .i64 (b : Int)).wf = true := by
    simp [Lit.wf, IntKind.min, IntKind.max, IntKind.signed, IntKind.bits]
    replace h2 : b < 1000000 := h2
    omega
  simp [prl, Program.keyLits, Try.underlying100, Try.underlying3, cel3, cel100, hw1, hw2, List.range, List.range.loop]
theorem pr_formed (p : Nat × Nat) : (Value.agg (prl p).toArray).formed Try.prog 100 = true := by
  simp [Value.formed, Try.underlying100, cel100, prl]
theorem prl_inj {p q : Nat × Nat} (h : prl p = prl q) : p = q := by
  obtain ⟨a, b⟩ := p
  obtain ⟨c, d⟩ := q
  simp only [prl, List.cons.injEq, Value.int.injEq, true_and, and_true] at h
  have h1 : a = c := by omega
  have h2 : b = d := by omega
  rw [h1, h2]
theorem equal_pr {p q : Nat × Nat} (h1 : p.1 < 1000000 ∧ p.2 < 1000000) (h2 : q.1 < 1000000 ∧ q.2 < 1000000) (w : World) : (Op.equal 100 (.agg (prl p).toArray) (.agg (prl q).toArray)).run Try.prog w = .ok (decide (p = q)) w := by
  obtain ⟨r, e1, e2⟩ := equal_agg (P := Try.prog) (T := 100) 3 (by omega) (by kernel_rfl) (by kernel_rfl) (by rw [Try.underlying100]) (by kernel_rfl) (pr_formed p) (pr_formed q) (pr_lits p h1.1 h1.2) (pr_lits q h2.1 h2.2) w
  have hr : r = decide (p = q) := by
    by_cases e : p = q
    · rw [decide_eq_true e]
      exact e2.2 (by rw [e])
    · rw [decide_eq_false e]
      cases r with
      | false => rfl
      | true => exact absurd (prl_inj (e2.1 rfl)) e
  rw [← hr]
  exact e1
theorem guard100 : Try.prog.eqGuardType Try.prog.depth 100 = false := by kernel_rfl
theorem qx7 {S : List Nat} {w0 : World} {F : World → Prop} {L : Env} {d : Option Nat} {ty : TypeId} {pos : String} {af : Array Edge} {g : Option (Nat × Bool)} {x y : Operand} {T' : TypeId} {p q : Nat × Nat} {c : Bool} (hx : ro L x = some (.agg (prl p).toArray)) (hy : ro L y = some (.agg (prl q).toArray)) (hab : Ar ((p.1 < 1000000 ∧ p.2 < 1000000) ∧ (q.1 < 1000000 ∧ q.2 < 1000000))) (h : Dc (p = q) c) : Vals Try.prog S w0 F L ⟨d, .binOp .eql 100 x y T', ty, pos, af, g⟩ (.bool c) := fun w _ _ => by
  rw [← h.eq]
  simp [execOp, rho_of hx, rho_of hy, eqGuard, binOp, equal_pr hab.h.1 hab.h.2]
theorem qx8 {S : List Nat} {w0 : World} {F : World → Prop} {L : Env} {d : Option Nat} {ty : TypeId} {pos : String} {af : Array Edge} {g : Option (Nat × Bool)} {x y : Operand} {T' : TypeId} {p q : Nat × Nat} {c : Bool} (hx : ro L x = some (.agg (prl p).toArray)) (hy : ro L y = some (.agg (prl q).toArray)) (hab : Ar ((p.1 < 1000000 ∧ p.2 < 1000000) ∧ (q.1 < 1000000 ∧ q.2 < 1000000))) (h : Dc (p = q) c) : Vals Try.prog S w0 F L ⟨d, .binOp .neq 100 x y T', ty, pos, af, g⟩ (.bool (!c)) := fun w _ _ => by
  rw [← h.eq]
  simp [execOp, rho_of hx, rho_of hy, eqGuard, binOp, equal_pr hab.h.1 hab.h.2]
theorem build100 (w : World) (a b : Nat) : (Instr.build 100 #[(0, Value.int .i64 (a : Int)), (1, Value.int .i64 (b : Int))]).run Try.prog w = .ok (.agg (prl (a, b)).toArray) w := by kernel_rfl
/-- What a reference may hold. -/
structure RnOk (r : Rn) : Prop where
  p16 : r.parties ≤ 16
  now : r.now ≤ 100000
  len : r.way.length ≤ 5000
  cl : r.cuts.length ≤ 300
  cuts : ∀ p ∈ r.cuts, p.1 < 16 ∧ p.2 < 16
  way : ∀ c ∈ r.way, c.fr < 16 ∧ c.to < 16 ∧ c.bs.length ≤ 65536 ∧ c.due ≤ 1000000

attribute [local irreducible] CG NG SG Vals Der Row Blk MapIs IterAt DerX sv
set_option maxHeartbeats 8000000 in
theorem rcut {w : World} {r : Rn} {v u : Value} (hR : RnAt w r v u) (ok : RnOk r) (f t : Nat) (hf : f < 16) (ht : t < 16) : Ret Try.prog 44 #[.agg (rcl r v u).toArray, .int .i64 (f : Int), .int .i64 (t : Int)] w (.bool (decide ((f, t) ∈ r.cuts))) := by
  refine enter3 Try.func44 rfl Try.ntmps44 rfl ?_
  obtain ⟨a, c, rfl, hac, hS⟩ := Sl.own prl_length hR.cuts rfl
  repeat (first|apply CG.seq|apply CG.region|apply SG.nil|apply NG.next|apply CG.skip|apply CG.block|apply CG.ret|apply CG.exit|apply CG.scope|apply NG.ret_then|apply NG.ret_block|apply NG.ret_scope|apply NG.exit_then|refine NG.exit_block rfl ?_|refine NG.exit_other rfl ?_|apply NG.exit_scope|apply NG.normal_block|apply NG.normal_scope|refine SG.val rfl rfl rfl rfl (by first|((first|apply qmv|apply qas|apply qlc|apply qla|apply qfa|apply qnc|apply qic|apply qix|apply qpk|apply qls|apply qei|apply qni|apply qed|apply qnd|apply qad|apply qln|apply qle|apply qgt|apply qge|apply qlk|apply qlv|apply qxt|apply qsb|apply qnt|apply qep|apply qnp|apply qeb|apply qnb|apply qx2|apply qx4|apply qcv|apply qlm|apply qfr|apply qto|apply qmx|apply qen|apply qsn|apply qx8|apply qx7|apply qx6|apply qx5|apply qx4|apply qx3|apply qx2|apply qx1|apply qx0)<;>(first|exact rfl|exact Ar.mk (by omega)|assumption|exact dct (by assumption)|exact dcf (by assumption)|exact dct (by omega)|exact dcf (by omega)|exact List.not_mem_nil|exact dc_length _|exact nc_length _|exact rc_length _ _ _|exact nm1 (by omega)|exact nm2 (by omega) (by omega)|exact dct rfl|exact dct (by decide)|exact dcf (by decide)|exact (Int.toNat_of_nonneg (by omega)).symm|exact dcu|exact lk1 (by assumption)|exact lk0 (by assumption)))|fail) ?_)
  refine SG.box rfl rfl rfl (by exact rho_of rfl) (fun b w1 hk1 hb hB => ?_)
  have hB : Blk w1 b (.cells (rcl r v (.slice a r.cuts.length c)).toArray 47) := hB
  obtain ⟨_, _, _, r3, _⟩ := rows47 hB
  have hcl := ok.cl
  repeat (first|apply CG.seq|apply CG.region|apply SG.nil|apply NG.next|apply CG.skip|apply CG.block|apply CG.ret|apply CG.exit|apply CG.scope|apply NG.ret_then|apply NG.ret_block|apply NG.ret_scope|apply NG.exit_then|refine NG.exit_block rfl ?_|refine NG.exit_other rfl ?_|apply NG.exit_scope|apply NG.normal_block|apply NG.normal_scope|refine SG.val rfl rfl rfl rfl (by first|((first|apply qmv|apply qas|apply qlc|apply qla|apply qfa|apply qnc|apply qic|apply qix|apply qpk|apply qls|apply qei|apply qni|apply qed|apply qnd|apply qad|apply qln|apply qle|apply qgt|apply qge|apply qlk|apply qlv|apply qxt|apply qsb|apply qnt|apply qep|apply qnp|apply qeb|apply qnb|apply qx2|apply qx4|apply qcv|apply qlm|apply qfr|apply qto|apply qmx|apply qen|apply qsn|apply qx8|apply qx7|apply qx6|apply qx5|apply qx4|apply qx3|apply qx2|apply qx1|apply qx0)<;>(first|exact rfl|exact Ar.mk (by omega)|assumption|exact dct (by assumption)|exact dcf (by assumption)|exact dct (by omega)|exact dcf (by omega)|exact List.not_mem_nil|exact dc_length _|exact nc_length _|exact rc_length _ _ _|exact nm1 (by omega)|exact nm2 (by omega) (by omega)|exact dct rfl|exact dct (by decide)|exact dcf (by decide)|exact (Int.toNat_of_nonneg (by omega)).symm|exact dcu|exact lk1 (by assumption)|exact lk0 (by assumption)))|fail) ?_)
  refine CG.loop (X := Nat) (fun i => [(1, .int .i64 (f : Int)), (2, .int .i64 (t : Int)), (3, .pointer (some ⟨b, 0, none⟩)), (6, .bool false), (7, .int .i64 (i : Int))])
    (fun i w' => i ≤ r.cuts.length ∧ w' = w1 ∧ (f, t) ∉ r.cuts.take i) (fun i => r.cuts.length - i) 0 ⟨Nat.zero_le _, rfl, by simp⟩ (by (repeat' (first | exact True.intro | exact rfl | refine And.intro ?_ ?_))) ?_
  rintro i w2 ⟨hi, rfl, hno⟩
  by_cases hlt : i < r.cuts.length
  · have g1 : (i : Int) < (r.cuts.length : Int) := by omega
    obtain ⟨ba, oa, rfl, hr⟩ := (hS.kp0 hk1).at hlt
    have hbd := ok.cuts _ (List.getElem_mem hlt)
    have htk : r.cuts.take (i + 1) = r.cuts.take i ++ [r.cuts[i]] := List.take_succ_eq_append_getElem hlt
    have hmem : r.cuts[i] ∈ r.cuts := List.getElem_mem hlt
    generalize r.cuts[i] = p at hr hbd htk hmem
    have hb1 : p.1 < 16 := hbd.1
    have hb2 : p.2 < 16 := hbd.2
    by_cases hp : p = (f, t)
    · repeat (first|apply CG.seq|apply CG.region|apply SG.nil|apply NG.next|apply CG.skip|apply CG.block|apply CG.ret|apply CG.exit|apply CG.scope|apply NG.ret_then|apply NG.ret_block|apply NG.ret_scope|apply NG.exit_then|refine NG.exit_block rfl ?_|refine NG.exit_other rfl ?_|apply NG.exit_scope|apply NG.normal_block|apply NG.normal_scope|refine SG.val rfl rfl rfl rfl (by first|((first|apply qmv|apply qas|apply qlc|apply qla|apply qfa|apply qnc|apply qic|apply qix|apply qpk|apply qls|apply qei|apply qni|apply qed|apply qnd|apply qad|apply qln|apply qle|apply qgt|apply qge|apply qlk|apply qlv|apply qxt|apply qsb|apply qnt|apply qep|apply qnp|apply qeb|apply qnb|apply qx2|apply qx4|apply qcv|apply qlm|apply qfr|apply qto|apply qmx|apply qen|apply qsn|apply qx8|apply qx7|apply qx6|apply qx5|apply qx4|apply qx3|apply qx2|apply qx1|apply qx0)<;>(first|exact rfl|exact Ar.mk (by omega)|assumption|exact dct (by assumption)|exact dcf (by assumption)|exact dct (by omega)|exact dcf (by omega)|exact List.not_mem_nil|exact dc_length _|exact nc_length _|exact rc_length _ _ _|exact nm1 (by omega)|exact nm2 (by omega) (by omega)|exact dct rfl|exact dct (by decide)|exact dcf (by decide)|exact (Int.toNat_of_nonneg (by omega)).symm|exact dcu|exact lk1 (by assumption)|exact lk0 (by assumption)))|fail) ?_)
      refine CG.cond_t rfl (by exact rho_of rfl) rfl ?_
      repeat (first|apply CG.seq|apply CG.region|apply SG.nil|apply NG.next|apply CG.skip|apply CG.block|apply CG.ret|apply CG.exit|apply CG.scope|apply NG.ret_then|apply NG.ret_block|apply NG.ret_scope|apply NG.exit_then|refine NG.exit_block rfl ?_|refine NG.exit_other rfl ?_|apply NG.exit_scope|apply NG.normal_block|apply NG.normal_scope|refine SG.val rfl rfl rfl rfl (by first|((first|apply qmv|apply qas|apply qlc|apply qla|apply qfa|apply qnc|apply qic|apply qix|apply qpk|apply qls|apply qei|apply qni|apply qed|apply qnd|apply qad|apply qln|apply qle|apply qgt|apply qge|apply qlk|apply qlv|apply qxt|apply qsb|apply qnt|apply qep|apply qnp|apply qeb|apply qnb|apply qx2|apply qx4|apply qcv|apply qlm|apply qfr|apply qto|apply qmx|apply qen|apply qsn|apply qx8|apply qx7|apply qx6|apply qx5|apply qx4|apply qx3|apply qx2|apply qx1|apply qx0)<;>(first|exact rfl|exact Ar.mk (by omega)|assumption|exact dct (by assumption)|exact dcf (by assumption)|exact dct (by omega)|exact dcf (by omega)|exact List.not_mem_nil|exact dc_length _|exact nc_length _|exact rc_length _ _ _|exact nm1 (by omega)|exact nm2 (by omega) (by omega)|exact dct rfl|exact dct (by decide)|exact dcf (by decide)|exact (Int.toNat_of_nonneg (by omega)).symm|exact dcu|exact lk1 (by assumption)|exact lk0 (by assumption)))|fail) ?_)
      refine SG.val rfl rfl rfl rfl (vals_build rfl (fun w => build100 w f t)) ?_
      refine SG.val rfl rfl rfl rfl (qx7 (p := p) (q := (f, t)) rfl rfl ⟨⟨⟨by omega, by omega⟩, by show f < _; omega, by show t < _; omega⟩⟩ (dct hp)) ?_
      repeat (first|apply CG.seq|apply CG.region|apply SG.nil|apply NG.next|apply CG.skip|apply CG.block|apply CG.ret|apply CG.exit|apply CG.scope|apply NG.ret_then|apply NG.ret_block|apply NG.ret_scope|apply NG.exit_then|refine NG.exit_block rfl ?_|refine NG.exit_other rfl ?_|apply NG.exit_scope|apply NG.normal_block|apply NG.normal_scope|refine SG.val rfl rfl rfl rfl (by first|((first|apply qmv|apply qas|apply qlc|apply qla|apply qfa|apply qnc|apply qic|apply qix|apply qpk|apply qls|apply qei|apply qni|apply qed|apply qnd|apply qad|apply qln|apply qle|apply qgt|apply qge|apply qlk|apply qlv|apply qxt|apply qsb|apply qnt|apply qep|apply qnp|apply qeb|apply qnb|apply qx2|apply qx4|apply qcv|apply qlm|apply qfr|apply qto|apply qmx|apply qen|apply qsn|apply qx8|apply qx7|apply qx6|apply qx5|apply qx4|apply qx3|apply qx2|apply qx1|apply qx0)<;>(first|exact rfl|exact Ar.mk (by omega)|assumption|exact dct (by assumption)|exact dcf (by assumption)|exact dct (by omega)|exact dcf (by omega)|exact List.not_mem_nil|exact dc_length _|exact nc_length _|exact rc_length _ _ _|exact nm1 (by omega)|exact nm2 (by omega) (by omega)|exact dct rfl|exact dct (by decide)|exact dcf (by decide)|exact (Int.toNat_of_nonneg (by omega)).symm|exact dcu|exact lk1 (by assumption)|exact lk0 (by assumption)))|fail) ?_)
      refine CG.cond_t rfl (by exact rho_of rfl) rfl ?_
      repeat (first|apply CG.seq|apply CG.region|apply SG.nil|apply NG.next|apply CG.skip|apply CG.block|apply CG.ret|apply CG.exit|apply CG.scope|apply NG.ret_then|apply NG.ret_block|apply NG.ret_scope|apply NG.exit_then|refine NG.exit_block rfl ?_|refine NG.exit_other rfl ?_|apply NG.exit_scope|apply NG.normal_block|apply NG.normal_scope|refine SG.val rfl rfl rfl rfl (by first|((first|apply qmv|apply qas|apply qlc|apply qla|apply qfa|apply qnc|apply qic|apply qix|apply qpk|apply qls|apply qei|apply qni|apply qed|apply qnd|apply qad|apply qln|apply qle|apply qgt|apply qge|apply qlk|apply qlv|apply qxt|apply qsb|apply qnt|apply qep|apply qnp|apply qeb|apply qnb|apply qx2|apply qx4|apply qcv|apply qlm|apply qfr|apply qto|apply qmx|apply qen|apply qsn|apply qx8|apply qx7|apply qx6|apply qx5|apply qx4|apply qx3|apply qx2|apply qx1|apply qx0)<;>(first|exact rfl|exact Ar.mk (by omega)|assumption|exact dct (by assumption)|exact dcf (by assumption)|exact dct (by omega)|exact dcf (by omega)|exact List.not_mem_nil|exact dc_length _|exact nc_length _|exact rc_length _ _ _|exact nm1 (by omega)|exact nm2 (by omega) (by omega)|exact dct rfl|exact dct (by decide)|exact dcf (by decide)|exact (Int.toNat_of_nonneg (by omega)).symm|exact dcu|exact lk1 (by assumption)|exact lk0 (by assumption)))|fail) ?_)
      refine ret1 (Or.inl rfl) Try.results44 (by first | exact ResV.tmp rfl | exact ResV.agg rfl rfl (by assumption) (by first | exact dc_length _ | exact nc_length _ | exact rc_length _ _ _ | rfl) | exact ResV.cell rfl rfl (by assumption)) ?_
      refine ⟨?_, hk1⟩
      rw [decide_eq_true (hp ▸ hmem)]
    · repeat (first|apply CG.seq|apply CG.region|apply SG.nil|apply NG.next|apply CG.skip|apply CG.block|apply CG.ret|apply CG.exit|apply CG.scope|apply NG.ret_then|apply NG.ret_block|apply NG.ret_scope|apply NG.exit_then|refine NG.exit_block rfl ?_|refine NG.exit_other rfl ?_|apply NG.exit_scope|apply NG.normal_block|apply NG.normal_scope|refine SG.val rfl rfl rfl rfl (by first|((first|apply qmv|apply qas|apply qlc|apply qla|apply qfa|apply qnc|apply qic|apply qix|apply qpk|apply qls|apply qei|apply qni|apply qed|apply qnd|apply qad|apply qln|apply qle|apply qgt|apply qge|apply qlk|apply qlv|apply qxt|apply qsb|apply qnt|apply qep|apply qnp|apply qeb|apply qnb|apply qx2|apply qx4|apply qcv|apply qlm|apply qfr|apply qto|apply qmx|apply qen|apply qsn|apply qx8|apply qx7|apply qx6|apply qx5|apply qx4|apply qx3|apply qx2|apply qx1|apply qx0)<;>(first|exact rfl|exact Ar.mk (by omega)|assumption|exact dct (by assumption)|exact dcf (by assumption)|exact dct (by omega)|exact dcf (by omega)|exact List.not_mem_nil|exact dc_length _|exact nc_length _|exact rc_length _ _ _|exact nm1 (by omega)|exact nm2 (by omega) (by omega)|exact dct rfl|exact dct (by decide)|exact dcf (by decide)|exact (Int.toNat_of_nonneg (by omega)).symm|exact dcu|exact lk1 (by assumption)|exact lk0 (by assumption)))|fail) ?_)
      refine CG.cond_t rfl (by exact rho_of rfl) rfl ?_
      repeat (first|apply CG.seq|apply CG.region|apply SG.nil|apply NG.next|apply CG.skip|apply CG.block|apply CG.ret|apply CG.exit|apply CG.scope|apply NG.ret_then|apply NG.ret_block|apply NG.ret_scope|apply NG.exit_then|refine NG.exit_block rfl ?_|refine NG.exit_other rfl ?_|apply NG.exit_scope|apply NG.normal_block|apply NG.normal_scope|refine SG.val rfl rfl rfl rfl (by first|((first|apply qmv|apply qas|apply qlc|apply qla|apply qfa|apply qnc|apply qic|apply qix|apply qpk|apply qls|apply qei|apply qni|apply qed|apply qnd|apply qad|apply qln|apply qle|apply qgt|apply qge|apply qlk|apply qlv|apply qxt|apply qsb|apply qnt|apply qep|apply qnp|apply qeb|apply qnb|apply qx2|apply qx4|apply qcv|apply qlm|apply qfr|apply qto|apply qmx|apply qen|apply qsn|apply qx8|apply qx7|apply qx6|apply qx5|apply qx4|apply qx3|apply qx2|apply qx1|apply qx0)<;>(first|exact rfl|exact Ar.mk (by omega)|assumption|exact dct (by assumption)|exact dcf (by assumption)|exact dct (by omega)|exact dcf (by omega)|exact List.not_mem_nil|exact dc_length _|exact nc_length _|exact rc_length _ _ _|exact nm1 (by omega)|exact nm2 (by omega) (by omega)|exact dct rfl|exact dct (by decide)|exact dcf (by decide)|exact (Int.toNat_of_nonneg (by omega)).symm|exact dcu|exact lk1 (by assumption)|exact lk0 (by assumption)))|fail) ?_)
      refine SG.val rfl rfl rfl rfl (vals_build rfl (fun w => build100 w f t)) ?_
      refine SG.val rfl rfl rfl rfl (qx7 (p := p) (q := (f, t)) rfl rfl ⟨⟨⟨by omega, by omega⟩, by show f < _; omega, by show t < _; omega⟩⟩ (dcf hp)) ?_
      repeat (first|apply CG.seq|apply CG.region|apply SG.nil|apply NG.next|apply CG.skip|apply CG.block|apply CG.ret|apply CG.exit|apply CG.scope|apply NG.ret_then|apply NG.ret_block|apply NG.ret_scope|apply NG.exit_then|refine NG.exit_block rfl ?_|refine NG.exit_other rfl ?_|apply NG.exit_scope|apply NG.normal_block|apply NG.normal_scope|refine SG.val rfl rfl rfl rfl (by first|((first|apply qmv|apply qas|apply qlc|apply qla|apply qfa|apply qnc|apply qic|apply qix|apply qpk|apply qls|apply qei|apply qni|apply qed|apply qnd|apply qad|apply qln|apply qle|apply qgt|apply qge|apply qlk|apply qlv|apply qxt|apply qsb|apply qnt|apply qep|apply qnp|apply qeb|apply qnb|apply qx2|apply qx4|apply qcv|apply qlm|apply qfr|apply qto|apply qmx|apply qen|apply qsn|apply qx8|apply qx7|apply qx6|apply qx5|apply qx4|apply qx3|apply qx2|apply qx1|apply qx0)<;>(first|exact rfl|exact Ar.mk (by omega)|assumption|exact dct (by assumption)|exact dcf (by assumption)|exact dct (by omega)|exact dcf (by omega)|exact List.not_mem_nil|exact dc_length _|exact nc_length _|exact rc_length _ _ _|exact nm1 (by omega)|exact nm2 (by omega) (by omega)|exact dct rfl|exact dct (by decide)|exact dcf (by decide)|exact (Int.toNat_of_nonneg (by omega)).symm|exact dcu|exact lk1 (by assumption)|exact lk0 (by assumption)))|fail) ?_)
      refine CG.cond_f rfl (by exact rho_of rfl) rfl ?_
      repeat (first|apply CG.seq|apply CG.region|apply SG.nil|apply NG.next|apply CG.skip|apply CG.block|apply CG.ret|apply CG.exit|apply CG.scope|apply NG.ret_then|apply NG.ret_block|apply NG.ret_scope|apply NG.exit_then|refine NG.exit_block rfl ?_|refine NG.exit_other rfl ?_|apply NG.exit_scope|apply NG.normal_block|apply NG.normal_scope|refine SG.val rfl rfl rfl rfl (by first|((first|apply qmv|apply qas|apply qlc|apply qla|apply qfa|apply qnc|apply qic|apply qix|apply qpk|apply qls|apply qei|apply qni|apply qed|apply qnd|apply qad|apply qln|apply qle|apply qgt|apply qge|apply qlk|apply qlv|apply qxt|apply qsb|apply qnt|apply qep|apply qnp|apply qeb|apply qnb|apply qx2|apply qx4|apply qcv|apply qlm|apply qfr|apply qto|apply qmx|apply qen|apply qsn|apply qx8|apply qx7|apply qx6|apply qx5|apply qx4|apply qx3|apply qx2|apply qx1|apply qx0)<;>(first|exact rfl|exact Ar.mk (by omega)|assumption|exact dct (by assumption)|exact dcf (by assumption)|exact dct (by omega)|exact dcf (by omega)|exact List.not_mem_nil|exact dc_length _|exact nc_length _|exact rc_length _ _ _|exact nm1 (by omega)|exact nm2 (by omega) (by omega)|exact dct rfl|exact dct (by decide)|exact dcf (by decide)|exact (Int.toNat_of_nonneg (by omega)).symm|exact dcu|exact lk1 (by assumption)|exact lk0 (by assumption)))|fail) ?_)
      refine NG.round (i + 1) (by (repeat' (first | exact True.intro | exact rfl | refine And.intro ?_ ?_))) ⟨hlt, rfl, ?_⟩ (by omega)
      rw [htk, List.mem_append, List.mem_singleton]
      rintro (h | h)
      · exact hno h
      · exact hp h.symm
  have g1 : ¬ (i : Int) < (r.cuts.length : Int) := by omega
  rw [List.take_of_length_le (by omega)] at hno
  repeat (first|apply CG.seq|apply CG.region|apply SG.nil|apply NG.next|apply CG.skip|apply CG.block|apply CG.ret|apply CG.exit|apply CG.scope|apply NG.ret_then|apply NG.ret_block|apply NG.ret_scope|apply NG.exit_then|refine NG.exit_block rfl ?_|refine NG.exit_other rfl ?_|apply NG.exit_scope|apply NG.normal_block|apply NG.normal_scope|refine SG.val rfl rfl rfl rfl (by first|((first|apply qmv|apply qas|apply qlc|apply qla|apply qfa|apply qnc|apply qic|apply qix|apply qpk|apply qls|apply qei|apply qni|apply qed|apply qnd|apply qad|apply qln|apply qle|apply qgt|apply qge|apply qlk|apply qlv|apply qxt|apply qsb|apply qnt|apply qep|apply qnp|apply qeb|apply qnb|apply qx2|apply qx4|apply qcv|apply qlm|apply qfr|apply qto|apply qmx|apply qen|apply qsn|apply qx8|apply qx7|apply qx6|apply qx5|apply qx4|apply qx3|apply qx2|apply qx1|apply qx0)<;>(first|exact rfl|exact Ar.mk (by omega)|assumption|exact dct (by assumption)|exact dcf (by assumption)|exact dct (by omega)|exact dcf (by omega)|exact List.not_mem_nil|exact dc_length _|exact nc_length _|exact rc_length _ _ _|exact nm1 (by omega)|exact nm2 (by omega) (by omega)|exact dct rfl|exact dct (by decide)|exact dcf (by decide)|exact (Int.toNat_of_nonneg (by omega)).symm|exact dcu|exact lk1 (by assumption)|exact lk0 (by assumption)))|fail) ?_)
  refine CG.cond_f rfl (by exact rho_of rfl) rfl ?_
  repeat (first|apply CG.seq|apply CG.region|apply SG.nil|apply NG.next|apply CG.skip|apply CG.block|apply CG.ret|apply CG.exit|apply CG.scope|apply NG.ret_then|apply NG.ret_block|apply NG.ret_scope|apply NG.exit_then|refine NG.exit_block rfl ?_|refine NG.exit_other rfl ?_|apply NG.exit_scope|apply NG.normal_block|apply NG.normal_scope|refine SG.val rfl rfl rfl rfl (by first|((first|apply qmv|apply qas|apply qlc|apply qla|apply qfa|apply qnc|apply qic|apply qix|apply qpk|apply qls|apply qei|apply qni|apply qed|apply qnd|apply qad|apply qln|apply qle|apply qgt|apply qge|apply qlk|apply qlv|apply qxt|apply qsb|apply qnt|apply qep|apply qnp|apply qeb|apply qnb|apply qx2|apply qx4|apply qcv|apply qlm|apply qfr|apply qto|apply qmx|apply qen|apply qsn|apply qx8|apply qx7|apply qx6|apply qx5|apply qx4|apply qx3|apply qx2|apply qx1|apply qx0)<;>(first|exact rfl|exact Ar.mk (by omega)|assumption|exact dct (by assumption)|exact dcf (by assumption)|exact dct (by omega)|exact dcf (by omega)|exact List.not_mem_nil|exact dc_length _|exact nc_length _|exact rc_length _ _ _|exact nm1 (by omega)|exact nm2 (by omega) (by omega)|exact dct rfl|exact dct (by decide)|exact dcf (by decide)|exact (Int.toNat_of_nonneg (by omega)).symm|exact dcu|exact lk1 (by assumption)|exact lk0 (by assumption)))|fail) ?_)
  refine ret1 (Or.inl rfl) Try.results44 (by first | exact ResV.tmp rfl | exact ResV.agg rfl rfl (by assumption) (by first | exact dc_length _ | exact nc_length _ | exact rc_length _ _ _ | rfl) | exact ResV.cell rfl rfl (by assumption)) ?_
  refine ⟨?_, hk1⟩
  rw [decide_eq_false hno]
end Go.Proofs.Ytfelaicoedlejaa
/-
  append in text order, with where the row lies.
-/
namespace Go.Proofs.Ytfelaicoedlejaa
set_option linter.unusedVariables false
section
variable {P : Program} {n : Nat} {ops : List Oper} {Q : Exit → Act → World → Prop} {w : World} {L : Env} {ty : TypeId} {pos : String} {af : Array Edge} {g : Option (Nat × Bool)} {rest : List Oper}
theorem SG.appendW {base : Nat} {t e : TypeId} {i : TypeInfo} [u : Ut P t (.slice e)] [f : Inf P e i] {z : Value} {d : Nat} {s x : Operand} {v : Value} {nn : Nat} {xs : List Value} {b off m c : Nat} {news : List Value}
    (hd : Nat.blt d n = true) (hw : want ops L ⟨some d, .call { callee := .builtin .append, args := #[s, x], argTypes := #[t, t] }, ty, pos, af, g⟩ = some true) (hk : (known L s && known L x) = true)
    (hs : rho L s = v) (hx : rho L x = .slice (some ⟨b, off, none⟩) m c) (hz : i.zero = some z) (hzs : Nat.beq z.cells.size i.size = true) (hsz : Nat.blt 0 i.size = true) (hown : w.ownsRow base e i.size v nn xs) (hr : Row w b off news) (hl : news.length = m * i.size) (h1 : allOne news = true)
    (h63 : nn + m ≤ maxLen) (hbytes : (nn + m) * i.bytes ≤ 140737488355328) (hbase : base ≤ w.heap.size)
    (h : ∀ v' w', Kp (ownB v) w w' → w'.ownsRow base e i.size v' (nn + m) (xs ++ news) → (∀ g, v'.ownBlock = some g → v.ownBlock = some g ∨ g = w.heap.size) → SG P n ops Q rest ((d, v') :: L) w') : SG P n ops Q (⟨some d, .call { callee := .builtin .append, args := #[s, x], argTypes := #[t, t] }, ty, pos, af, g⟩ :: rest) L w := by
  refine SG.op (by simpa using hd) rfl hw (by simpa [Op.operands, Call.operands] using hk) ?_
  unfold OpRun
  obtain ⟨v', w', h2, h3, h4⟩ := run_append (P := P) (ty := ty) (d := .bool) (c := c) (u := u) (f := f) hz (Nat.eq_of_beq_eq_true hzs) (by simpa [Nat.blt_eq] using hsz) hown hl hr h1 h63 hbytes hbase
  have : (execOp (rho L) ⟨some d, .call { callee := .builtin .append, args := #[s, x], argTypes := #[t, t] }, ty, pos, af, g⟩).run P w = .ok (.value v') w' := by
    simp only [execOp, resolve, invoke, builtin, Sem.run_bind, Sem.run_pure, Result.andThen_ok, List.map_toArray, List.map_cons, List.map_nil, hs, hx, h2]
  rw [this]
  exact h v' w' h4 h3 (append_where (u := u) (f := f) hz hown hl hr h1 h63 hbytes h2)
end
/-- Two owned rows lie apart. -/
def Apart (v o : Value) : Prop := ∀ b, v.ownBlock = some b → o.ownBlock ≠ some b
theorem Apart.symm {v o : Value} (h : Apart v o) : Apart o v := fun b h1 h2 => h b h2 h1
theorem Apart.grow {w : World} {base n sz : Nat} {T : TypeId} {v v' o : Value} {xs : List Value} (h : Apart v o) (hw : ∀ g, v'.ownBlock = some g → v.ownBlock = some g ∨ g = w.heap.size) (ho : w.ownsRow base T sz o n xs) : Apart v' o := fun b h1 h2 => by
  rcases hw b h1 with h3 | h3
  · exact h b h3 h2
  · have := (ho.lt b h2).2
    omega
theorem own_apart {w w' : World} {base n sz : Nat} {T : TypeId} {v o : Value} {xs : List Value} (h : Apart v o) (ho : w.ownsRow base T sz o n xs) (hk : Kp (ownB v) w w') : w'.ownsRow base T sz o n xs := own_kp ho hk (fun b hb hm => by
  unfold ownB at hm
  cases hv : v.ownBlock with
  | none => rw [hv] at hm; cases hm
  | some z =>
    rw [hv, List.mem_singleton] at hm
    subst hm
    exact h _ hv hb)
/-- A block of another type is kept. -/
theorem blk_own {w w' : World} {base n sz : Nat} {T T' : TypeId} {v : Value} {xs : List Value} {z : Nat} {cs : Array Value} (ho : w.ownsRow base T sz v n xs) (hT : T' ≠ T) (hz : Blk w z (.cells cs T')) (hk : Kp (ownB v) w w') : Blk w' z (.cells cs T') := hz.kp hk (fun hm => by
  unfold ownB at hm
  cases hv : v.ownBlock with
  | none => rw [hv] at hm; cases hm
  | some g =>
    rw [hv, List.mem_singleton] at hm
    subst hm
    rcases ho.2 with ⟨rfl, _⟩ | ⟨g', cap, cur, rfl, _, hh, _⟩
    · cases hv
    · simp only [Value.ownBlock, Option.some.injEq] at hv
      subst hv
      have := Blk.uniq (o := .cells cs T') (o' := .cells cur T) hz hh
      simp only [Obj.cells.injEq] at this
      exact hT this.2.1)
end Go.Proofs.Ytfelaicoedlejaa
/-
  The document's net: a tick.
-/
namespace Go.Proofs.Ytfelaicoedlejaa
set_option linter.unusedVariables false

def Rn.isDue (r : Rn) (c : Cp) : Bool := decide ((c.due : Int) = (r.now : Int))
def Rn.gone (r : Rn) (c : Cp) : Bool := decide ((c.fr, c.to) ∈ r.cuts)
def Rn.step (r : Rn) : Rn := { r with now := r.now + 1, way := r.way.filter (fun c => !r.isDue c) }
def Rn.out (r : Rn) : List Cp := r.way.filter (fun c => r.isDue c && !r.gone c)
theorem bs44 (w : World) (c : Cp) : (Instr.buildSlice 44 1 [(0, Value.agg (cpl c).toArray)].toArray).run Try.prog w = .ok (.slice (some ⟨w.heap.size, 0, none⟩) 1 1) { w with heap := w.heap.push (.cells (cpl c).toArray 98) } := by kernel_rfl
theorem rows98 {w : World} {b : Nat} {c : Cp} (h : Blk w b (.cells (cpl c).toArray 98)) : Row w b 0 [.int .i64 c.fr] ∧ Row w b 1 [.int .i64 c.to] ∧ Row w b 2 [sv c.bs] ∧ Row w b 3 [.int .i64 c.due] ∧ Row w b 0 (cpl c) :=
  ⟨Row.of h [] [.int .i64 c.to, sv c.bs, .int .i64 c.due] rfl rfl, Row.of h [.int .i64 c.fr] [sv c.bs, .int .i64 c.due] rfl rfl, Row.of h [.int .i64 c.fr, .int .i64 c.to] [.int .i64 c.due] rfl rfl, Row.of h [.int .i64 c.fr, .int .i64 c.to, sv c.bs] [] rfl rfl, Row.of h [] [] (by simp) rfl⟩

attribute [local irreducible] CG NG SG Vals Der Row Blk MapIs IterAt DerX sv
set_option maxHeartbeats 16000000 in
theorem rstep {w : World} {r : Rn} {v u : Value} (hR : RnAt w r v u) (ok : RnOk r) : Calls Try.prog 36 #[.agg (rcl r v u).toArray] w (fun e w' => ∃ v' o, e = .returned (.tuple #[.agg (rcl r.step v' u).toArray, o]) ∧ RnAt w' r.step v' u ∧ w'.ownsRow w.heap.size 98 4 o r.out.length (flt cpl r.out) ∧ Kp [] w w') := by
  refine enter1 Try.func36 rfl Try.ntmps36 rfl ?_
  obtain ⟨a, c, rfl, hac, hS⟩ := Sl.own cpl_length hR.way rfl
  obtain ⟨a', c', rfl⟩ := own_slice hR.cuts
  have hlen := ok.len
  have hnow := ok.now
  repeat (first|apply CG.seq|apply CG.region|apply SG.nil|apply NG.next|apply CG.skip|apply CG.block|apply CG.ret|apply CG.exit|apply CG.scope|apply NG.ret_then|apply NG.ret_block|apply NG.ret_scope|apply NG.exit_then|refine NG.exit_block rfl ?_|refine NG.exit_other rfl ?_|apply NG.exit_scope|apply NG.normal_block|apply NG.normal_scope|refine SG.val rfl rfl rfl rfl (by first|((first|apply qmv|apply qas|apply qlc|apply qla|apply qfa|apply qnc|apply qic|apply qix|apply qpk|apply qls|apply qei|apply qni|apply qed|apply qnd|apply qad|apply qln|apply qle|apply qgt|apply qge|apply qlk|apply qlv|apply qxt|apply qsb|apply qnt|apply qep|apply qnp|apply qeb|apply qnb|apply qx2|apply qx4|apply qcv|apply qlm|apply qfr|apply qto|apply qmx|apply qen|apply qsn|apply qx8|apply qx7|apply qx6|apply qx5|apply qx4|apply qx3|apply qx2|apply qx1|apply qx0)<;>(first|exact rfl|exact Ar.mk (by omega)|assumption|exact dct (by assumption)|exact dcf (by assumption)|exact dct (by omega)|exact dcf (by omega)|exact List.not_mem_nil|exact dc_length _|exact nc_length _|exact rc_length _ _ _|exact nm1 (by omega)|exact nm2 (by omega) (by omega)|exact dct rfl|exact dct (by decide)|exact dcf (by decide)|exact (Int.toNat_of_nonneg (by omega)).symm|exact dcu|exact lk1 (by assumption)|exact lk0 (by assumption)))|fail) ?_)
  refine SG.box rfl rfl rfl (by exact rho_of rfl) (fun b1 w1 hk1 hb1 hB1 => ?_)
  have hB1 : Blk w1 b1 (.cells (rcl r (.slice a r.way.length c) (.slice a' r.cuts.length c')).toArray 47) := hB1
  refine SG.alloc rfl rfl rfl (fun b2 w2 hk2 hb2 hB2 => ?_)
  have hB2 : Blk w2 b2 (.cells (rcl (Rn.new 0) nilS nilS).toArray 47) := hB2
  have hlt1 := hB1.lt
  have hB1 := hB1.kp0 hk2
  have e12 := hk1.size
  have e23 := hk2.size
  have hne12 : b1 ≠ b2 := by omega
  repeat (first|apply CG.seq|apply CG.region|apply SG.nil|apply NG.next|apply CG.skip|apply CG.block|apply CG.ret|apply CG.exit|apply CG.scope|apply NG.ret_then|apply NG.ret_block|apply NG.ret_scope|apply NG.exit_then|refine NG.exit_block rfl ?_|refine NG.exit_other rfl ?_|apply NG.exit_scope|apply NG.normal_block|apply NG.normal_scope|refine SG.val rfl rfl rfl rfl (by first|((first|apply qmv|apply qas|apply qlc|apply qla|apply qfa|apply qnc|apply qic|apply qix|apply qpk|apply qls|apply qei|apply qni|apply qed|apply qnd|apply qad|apply qln|apply qle|apply qgt|apply qge|apply qlk|apply qlv|apply qxt|apply qsb|apply qnt|apply qep|apply qnp|apply qeb|apply qnb|apply qx2|apply qx4|apply qcv|apply qlm|apply qfr|apply qto|apply qmx|apply qen|apply qsn|apply qx8|apply qx7|apply qx6|apply qx5|apply qx4|apply qx3|apply qx2|apply qx1|apply qx0)<;>(first|exact rfl|exact Ar.mk (by omega)|assumption|exact dct (by assumption)|exact dcf (by assumption)|exact dct (by omega)|exact dcf (by omega)|exact List.not_mem_nil|exact dc_length _|exact nc_length _|exact rc_length _ _ _|exact nm1 (by omega)|exact nm2 (by omega) (by omega)|exact dct rfl|exact dct (by decide)|exact dcf (by decide)|exact (Int.toNat_of_nonneg (by omega)).symm|exact dcu|exact lk1 (by assumption)|exact lk0 (by assumption)))|fail) ?_)
  refine CG.loop (X := Nat × Value × Value) (fun q => [(1, .pointer (some ⟨b1, 0, none⟩)), (2, .pointer (some ⟨b2, 0, none⟩)), (4, q.2.2), (5, q.2.1), (6, .int .i64 (q.1 : Int))])
    (fun q w' => q.1 ≤ r.way.length ∧ Kp [] w w' ∧ Blk w' b1 (.cells (rcl r (.slice a r.way.length c) (.slice a' r.cuts.length c')).toArray 47) ∧ Blk w' b2 (.cells (rcl (Rn.new 0) nilS nilS).toArray 47)
      ∧ w'.ownsRow w.heap.size 98 4 q.2.1 ((r.way.take q.1).filter (fun c => !r.isDue c)).length (flt cpl ((r.way.take q.1).filter (fun c => !r.isDue c)))
      ∧ w'.ownsRow w.heap.size 98 4 q.2.2 ((r.way.take q.1).filter (fun c => r.isDue c && !r.gone c)).length (flt cpl ((r.way.take q.1).filter (fun c => r.isDue c && !r.gone c))) ∧ Apart q.2.1 q.2.2)
    (fun q => r.way.length - q.1) (0, nilS, nilS) ⟨Nat.zero_le _, hk1.trans hk2, hB1, hB2, own_nil, own_nil, fun b h => by cases h⟩ (by (repeat' (first | exact True.intro | exact rfl | refine And.intro ?_ ?_))) ?_
  rintro ⟨i, vw, vo⟩ w3 ⟨hi, hk3, hB1, hB2, how, hoo, hap⟩
  replace hi : i ≤ r.way.length := hi
  replace how : w3.ownsRow w.heap.size 98 4 vw ((r.way.take i).filter (fun c => !r.isDue c)).length (flt cpl ((r.way.take i).filter (fun c => !r.isDue c))) := how
  replace hoo : w3.ownsRow w.heap.size 98 4 vo ((r.way.take i).filter (fun c => r.isDue c && !r.gone c)).length (flt cpl ((r.way.take i).filter (fun c => r.isDue c && !r.gone c))) := hoo
  replace hap : Apart vw vo := hap
  refine CG.to [(1, .pointer (some ⟨b1, 0, none⟩)), (2, .pointer (some ⟨b2, 0, none⟩)), (4, vo), (5, vw), (6, .int .i64 (i : Int))] (by (repeat' (first | exact True.intro | exact rfl | refine And.intro ?_ ?_))) ?_
  obtain ⟨q0, q1, q2, q3, q4⟩ := rows47 hB1
  have e03 := hk3.size
  have hfw : ((r.way.take i).filter (fun c => !r.isDue c)).length ≤ 5000 := Nat.le_trans (List.length_filter_le _ _) (by rw [List.length_take]; omega)
  have hfo : ((r.way.take i).filter (fun c => r.isDue c && !r.gone c)).length ≤ 5000 := Nat.le_trans (List.length_filter_le _ _) (by rw [List.length_take]; omega)
  by_cases hlt : i < r.way.length
  · have g1 : (i : Int) < (r.way.length : Int) := by omega
    obtain ⟨ba, oa, rfl, hr⟩ := (hS.kp0 hk3).at hlt
    obtain ⟨hcf, hct, hcb, hcd⟩ := ok.way _ (List.getElem_mem hlt)
    have htk : ∀ f : Cp → Bool, (r.way.take (i + 1)).filter f = (r.way.take i).filter f ++ (if f r.way[i] = true then [r.way[i]] else []) := fun f => by
      rw [List.take_succ_eq_append_getElem hlt, List.filter_append]
      congr 1
      by_cases h : f r.way[i] = true
      · simp [h]
      · simp [h]
    generalize r.way[i] = x at hr hcf hct hcb hcd htk
    repeat (first|apply CG.seq|apply CG.region|apply SG.nil|apply NG.next|apply CG.skip|apply CG.block|apply CG.ret|apply CG.exit|apply CG.scope|apply NG.ret_then|apply NG.ret_block|apply NG.ret_scope|apply NG.exit_then|refine NG.exit_block rfl ?_|refine NG.exit_other rfl ?_|apply NG.exit_scope|apply NG.normal_block|apply NG.normal_scope|refine SG.val rfl rfl rfl rfl (by first|((first|apply qmv|apply qas|apply qlc|apply qla|apply qfa|apply qnc|apply qic|apply qix|apply qpk|apply qls|apply qei|apply qni|apply qed|apply qnd|apply qad|apply qln|apply qle|apply qgt|apply qge|apply qlk|apply qlv|apply qxt|apply qsb|apply qnt|apply qep|apply qnp|apply qeb|apply qnb|apply qx2|apply qx4|apply qcv|apply qlm|apply qfr|apply qto|apply qmx|apply qen|apply qsn|apply qx8|apply qx7|apply qx6|apply qx5|apply qx4|apply qx3|apply qx2|apply qx1|apply qx0)<;>(first|exact rfl|exact Ar.mk (by omega)|assumption|exact dct (by assumption)|exact dcf (by assumption)|exact dct (by omega)|exact dcf (by omega)|exact List.not_mem_nil|exact dc_length _|exact nc_length _|exact rc_length _ _ _|exact nm1 (by omega)|exact nm2 (by omega) (by omega)|exact dct rfl|exact dct (by decide)|exact dcf (by decide)|exact (Int.toNat_of_nonneg (by omega)).symm|exact dcu|exact lk1 (by assumption)|exact lk0 (by assumption)))|fail) ?_)
    refine CG.cond_t rfl (by exact rho_of rfl) rfl ?_
    repeat (first|apply CG.seq|apply CG.region|apply SG.nil|apply NG.next|apply CG.skip|apply CG.block|apply CG.ret|apply CG.exit|apply CG.scope|apply NG.ret_then|apply NG.ret_block|apply NG.ret_scope|apply NG.exit_then|refine NG.exit_block rfl ?_|refine NG.exit_other rfl ?_|apply NG.exit_scope|apply NG.normal_block|apply NG.normal_scope|refine SG.val rfl rfl rfl rfl (by first|((first|apply qmv|apply qas|apply qlc|apply qla|apply qfa|apply qnc|apply qic|apply qix|apply qpk|apply qls|apply qei|apply qni|apply qed|apply qnd|apply qad|apply qln|apply qle|apply qgt|apply qge|apply qlk|apply qlv|apply qxt|apply qsb|apply qnt|apply qep|apply qnp|apply qeb|apply qnb|apply qx2|apply qx4|apply qcv|apply qlm|apply qfr|apply qto|apply qmx|apply qen|apply qsn|apply qx8|apply qx7|apply qx6|apply qx5|apply qx4|apply qx3|apply qx2|apply qx1|apply qx0)<;>(first|exact rfl|exact Ar.mk (by omega)|assumption|exact dct (by assumption)|exact dcf (by assumption)|exact dct (by omega)|exact dcf (by omega)|exact List.not_mem_nil|exact dc_length _|exact nc_length _|exact rc_length _ _ _|exact nm1 (by omega)|exact nm2 (by omega) (by omega)|exact dct rfl|exact dct (by decide)|exact dcf (by decide)|exact (Int.toNat_of_nonneg (by omega)).symm|exact dcu|exact lk1 (by assumption)|exact lk0 (by assumption)))|fail) ?_)
    refine SG.alloc rfl rfl rfl (fun b7 w4 hk4 hb7 hB7 => ?_)
    refine SG.setAll (old := [.int .i64 0, .int .i64 0, .string ⟨#[]⟩, .int .i64 0]) (l := cpl x) rfl rfl (by exact rho_of rfl) (by exact rho_of rfl) hB7 rfl rfl (cpl_one x) (fun w5 hk5 hB5 => ?_)
    have hk35 : Kp [] w3 w5 := hk4.trans_new hk5 (new1 hb7)
    have hB1 := hB1.kp0 hk35
    have hB2 := hB2.kp0 hk35
    have how := own_kp0 how hk35
    have hoo := own_kp0 hoo hk35
    obtain ⟨x0, x1, x2, x3, x4⟩ := rows98 hB5
    obtain ⟨q0, q1, q2, q3, q4⟩ := rows47 hB1
    have e35 := hk35.size
    by_cases hd : (x.due : Int) = (r.now : Int)
    · have hdue : r.isDue x = true := decide_eq_true hd
      repeat (first|apply CG.seq|apply CG.region|apply SG.nil|apply NG.next|apply CG.skip|apply CG.block|apply CG.ret|apply CG.exit|apply CG.scope|apply NG.ret_then|apply NG.ret_block|apply NG.ret_scope|apply NG.exit_then|refine NG.exit_block rfl ?_|refine NG.exit_other rfl ?_|apply NG.exit_scope|apply NG.normal_block|apply NG.normal_scope|refine SG.val rfl rfl rfl rfl (by first|((first|apply qmv|apply qas|apply qlc|apply qla|apply qfa|apply qnc|apply qic|apply qix|apply qpk|apply qls|apply qei|apply qni|apply qed|apply qnd|apply qad|apply qln|apply qle|apply qgt|apply qge|apply qlk|apply qlv|apply qxt|apply qsb|apply qnt|apply qep|apply qnp|apply qeb|apply qnb|apply qx2|apply qx4|apply qcv|apply qlm|apply qfr|apply qto|apply qmx|apply qen|apply qsn|apply qx8|apply qx7|apply qx6|apply qx5|apply qx4|apply qx3|apply qx2|apply qx1|apply qx0)<;>(first|exact rfl|exact Ar.mk (by omega)|assumption|exact dct (by assumption)|exact dcf (by assumption)|exact dct (by omega)|exact dcf (by omega)|exact List.not_mem_nil|exact dc_length _|exact nc_length _|exact rc_length _ _ _|exact nm1 (by omega)|exact nm2 (by omega) (by omega)|exact dct rfl|exact dct (by decide)|exact dcf (by decide)|exact (Int.toNat_of_nonneg (by omega)).symm|exact dcu|exact lk1 (by assumption)|exact lk0 (by assumption)))|fail) ?_)
      refine CG.cond_f rfl (by exact rho_of rfl) rfl ?_
      repeat (first|apply CG.seq|apply CG.region|apply SG.nil|apply NG.next|apply CG.skip|apply CG.block|apply CG.ret|apply CG.exit|apply CG.scope|apply NG.ret_then|apply NG.ret_block|apply NG.ret_scope|apply NG.exit_then|refine NG.exit_block rfl ?_|refine NG.exit_other rfl ?_|apply NG.exit_scope|apply NG.normal_block|apply NG.normal_scope|refine SG.val rfl rfl rfl rfl (by first|((first|apply qmv|apply qas|apply qlc|apply qla|apply qfa|apply qnc|apply qic|apply qix|apply qpk|apply qls|apply qei|apply qni|apply qed|apply qnd|apply qad|apply qln|apply qle|apply qgt|apply qge|apply qlk|apply qlv|apply qxt|apply qsb|apply qnt|apply qep|apply qnp|apply qeb|apply qnb|apply qx2|apply qx4|apply qcv|apply qlm|apply qfr|apply qto|apply qmx|apply qen|apply qsn|apply qx8|apply qx7|apply qx6|apply qx5|apply qx4|apply qx3|apply qx2|apply qx1|apply qx0)<;>(first|exact rfl|exact Ar.mk (by omega)|assumption|exact dct (by assumption)|exact dcf (by assumption)|exact dct (by omega)|exact dcf (by omega)|exact List.not_mem_nil|exact dc_length _|exact nc_length _|exact rc_length _ _ _|exact nm1 (by omega)|exact nm2 (by omega) (by omega)|exact dct rfl|exact dct (by decide)|exact dcf (by decide)|exact (Int.toNat_of_nonneg (by omega)).symm|exact dcu|exact lk1 (by assumption)|exact lk0 (by assumption)))|fail) ?_)
      refine SG.ret rfl rfl rfl (by repeat' (first | exact True.intro | exact rho_of rfl | refine And.intro ?_ ?_)) (rcut (hR.kp0 (hk3.trans hk35)) ok x.fr x.to hcf hct) (fun w6 hk6 => ?_)
      have hB1 := hB1.kp0 hk6
      have hB2 := hB2.kp0 hk6
      have how := own_kp0 how hk6
      have hoo := own_kp0 hoo hk6
      have hB5 := hB5.kp0 hk6
      obtain ⟨x0, x1, x2, x3, x4⟩ := rows98 hB5
      have e56 := hk6.size
      by_cases hg : (x.fr, x.to) ∈ r.cuts
      · have hgo : r.gone x = true := decide_eq_true hg
        rw [decide_eq_true hg]
        repeat (first|apply CG.seq|apply CG.region|apply SG.nil|apply NG.next|apply CG.skip|apply CG.block|apply CG.ret|apply CG.exit|apply CG.scope|apply NG.ret_then|apply NG.ret_block|apply NG.ret_scope|apply NG.exit_then|refine NG.exit_block rfl ?_|refine NG.exit_other rfl ?_|apply NG.exit_scope|apply NG.normal_block|apply NG.normal_scope|refine SG.val rfl rfl rfl rfl (by first|((first|apply qmv|apply qas|apply qlc|apply qla|apply qfa|apply qnc|apply qic|apply qix|apply qpk|apply qls|apply qei|apply qni|apply qed|apply qnd|apply qad|apply qln|apply qle|apply qgt|apply qge|apply qlk|apply qlv|apply qxt|apply qsb|apply qnt|apply qep|apply qnp|apply qeb|apply qnb|apply qx2|apply qx4|apply qcv|apply qlm|apply qfr|apply qto|apply qmx|apply qen|apply qsn|apply qx8|apply qx7|apply qx6|apply qx5|apply qx4|apply qx3|apply qx2|apply qx1|apply qx0)<;>(first|exact rfl|exact Ar.mk (by omega)|assumption|exact dct (by assumption)|exact dcf (by assumption)|exact dct (by omega)|exact dcf (by omega)|exact List.not_mem_nil|exact dc_length _|exact nc_length _|exact rc_length _ _ _|exact nm1 (by omega)|exact nm2 (by omega) (by omega)|exact dct rfl|exact dct (by decide)|exact dcf (by decide)|exact (Int.toNat_of_nonneg (by omega)).symm|exact dcu|exact lk1 (by assumption)|exact lk0 (by assumption)))|fail) ?_)
        refine CG.cond_f rfl (by exact rho_of rfl) rfl ?_
        repeat (first|apply CG.seq|apply CG.region|apply SG.nil|apply NG.next|apply CG.skip|apply CG.block|apply CG.ret|apply CG.exit|apply CG.scope|apply NG.ret_then|apply NG.ret_block|apply NG.ret_scope|apply NG.exit_then|refine NG.exit_block rfl ?_|refine NG.exit_other rfl ?_|apply NG.exit_scope|apply NG.normal_block|apply NG.normal_scope|refine SG.val rfl rfl rfl rfl (by first|((first|apply qmv|apply qas|apply qlc|apply qla|apply qfa|apply qnc|apply qic|apply qix|apply qpk|apply qls|apply qei|apply qni|apply qed|apply qnd|apply qad|apply qln|apply qle|apply qgt|apply qge|apply qlk|apply qlv|apply qxt|apply qsb|apply qnt|apply qep|apply qnp|apply qeb|apply qnb|apply qx2|apply qx4|apply qcv|apply qlm|apply qfr|apply qto|apply qmx|apply qen|apply qsn|apply qx8|apply qx7|apply qx6|apply qx5|apply qx4|apply qx3|apply qx2|apply qx1|apply qx0)<;>(first|exact rfl|exact Ar.mk (by omega)|assumption|exact dct (by assumption)|exact dcf (by assumption)|exact dct (by omega)|exact dcf (by omega)|exact List.not_mem_nil|exact dc_length _|exact nc_length _|exact rc_length _ _ _|exact nm1 (by omega)|exact nm2 (by omega) (by omega)|exact dct rfl|exact dct (by decide)|exact dcf (by decide)|exact (Int.toNat_of_nonneg (by omega)).symm|exact dcu|exact lk1 (by assumption)|exact lk0 (by assumption)))|fail) ?_)
        refine NG.round (i + 1, vw, vo) (by (repeat' (first | exact True.intro | exact rfl | refine And.intro ?_ ?_))) ⟨by show i + 1 ≤ r.way.length; omega, (hk3.trans hk35).trans hk6, hB1, hB2, ?_, ?_, hap⟩ (by show r.way.length - (i + 1) < r.way.length - i; omega)
        · show w6.ownsRow w.heap.size 98 4 vw ((r.way.take (i + 1)).filter (fun c => !r.isDue c)).length (flt cpl ((r.way.take (i + 1)).filter (fun c => !r.isDue c)))
          rw [htk, if_neg (by rw [hdue]; decide), List.append_nil]
          exact how
        · show w6.ownsRow w.heap.size 98 4 vo ((r.way.take (i + 1)).filter (fun c => r.isDue c && !r.gone c)).length (flt cpl ((r.way.take (i + 1)).filter (fun c => r.isDue c && !r.gone c)))
          rw [htk, if_neg (by rw [hdue, hgo]; decide), List.append_nil]
          exact hoo
      · have hgo : r.gone x = false := decide_eq_false hg
        rw [decide_eq_false hg]
        repeat (first|apply CG.seq|apply CG.region|apply SG.nil|apply NG.next|apply CG.skip|apply CG.block|apply CG.ret|apply CG.exit|apply CG.scope|apply NG.ret_then|apply NG.ret_block|apply NG.ret_scope|apply NG.exit_then|refine NG.exit_block rfl ?_|refine NG.exit_other rfl ?_|apply NG.exit_scope|apply NG.normal_block|apply NG.normal_scope|refine SG.val rfl rfl rfl rfl (by first|((first|apply qmv|apply qas|apply qlc|apply qla|apply qfa|apply qnc|apply qic|apply qix|apply qpk|apply qls|apply qei|apply qni|apply qed|apply qnd|apply qad|apply qln|apply qle|apply qgt|apply qge|apply qlk|apply qlv|apply qxt|apply qsb|apply qnt|apply qep|apply qnp|apply qeb|apply qnb|apply qx2|apply qx4|apply qcv|apply qlm|apply qfr|apply qto|apply qmx|apply qen|apply qsn|apply qx8|apply qx7|apply qx6|apply qx5|apply qx4|apply qx3|apply qx2|apply qx1|apply qx0)<;>(first|exact rfl|exact Ar.mk (by omega)|assumption|exact dct (by assumption)|exact dcf (by assumption)|exact dct (by omega)|exact dcf (by omega)|exact List.not_mem_nil|exact dc_length _|exact nc_length _|exact rc_length _ _ _|exact nm1 (by omega)|exact nm2 (by omega) (by omega)|exact dct rfl|exact dct (by decide)|exact dcf (by decide)|exact (Int.toNat_of_nonneg (by omega)).symm|exact dcu|exact lk1 (by assumption)|exact lk0 (by assumption)))|fail) ?_)
        refine CG.cond_t rfl (by exact rho_of rfl) rfl ?_
        repeat (first|apply CG.seq|apply CG.region|apply SG.nil|apply NG.next|apply CG.skip|apply CG.block|apply CG.ret|apply CG.exit|apply CG.scope|apply NG.ret_then|apply NG.ret_block|apply NG.ret_scope|apply NG.exit_then|refine NG.exit_block rfl ?_|refine NG.exit_other rfl ?_|apply NG.exit_scope|apply NG.normal_block|apply NG.normal_scope|refine SG.val rfl rfl rfl rfl (by first|((first|apply qmv|apply qas|apply qlc|apply qla|apply qfa|apply qnc|apply qic|apply qix|apply qpk|apply qls|apply qei|apply qni|apply qed|apply qnd|apply qad|apply qln|apply qle|apply qgt|apply qge|apply qlk|apply qlv|apply qxt|apply qsb|apply qnt|apply qep|apply qnp|apply qeb|apply qnb|apply qx2|apply qx4|apply qcv|apply qlm|apply qfr|apply qto|apply qmx|apply qen|apply qsn|apply qx8|apply qx7|apply qx6|apply qx5|apply qx4|apply qx3|apply qx2|apply qx1|apply qx0)<;>(first|exact rfl|exact Ar.mk (by omega)|assumption|exact dct (by assumption)|exact dcf (by assumption)|exact dct (by omega)|exact dcf (by omega)|exact List.not_mem_nil|exact dc_length _|exact nc_length _|exact rc_length _ _ _|exact nm1 (by omega)|exact nm2 (by omega) (by omega)|exact dct rfl|exact dct (by decide)|exact dcf (by decide)|exact (Int.toNat_of_nonneg (by omega)).symm|exact dcu|exact lk1 (by assumption)|exact lk0 (by assumption)))|fail) ?_)
        refine SG.buildSlice rfl rfl rfl rfl (fun w => bs44 w x) (fun b8 w7 hk7 hb8 hB8 => ?_)
        refine SG.appendW rfl rfl rfl (by exact rho_of rfl) (by exact rho_of rfl) rfl rfl rfl (own_kp0 hoo hk7) (Row.all hB8 rfl) rfl (cpl_one x) (by simp only [maxLen]; omega) (by show (((r.way.take i).filter (fun c => r.isDue c && !r.gone c)).length + 1) * 40 ≤ _; omega) (by have := hk7.size; omega) (fun vo' w8 hk8 hoo8 hwh => ?_)
        repeat (first|apply CG.seq|apply CG.region|apply SG.nil|apply NG.next|apply CG.skip|apply CG.block|apply CG.ret|apply CG.exit|apply CG.scope|apply NG.ret_then|apply NG.ret_block|apply NG.ret_scope|apply NG.exit_then|refine NG.exit_block rfl ?_|refine NG.exit_other rfl ?_|apply NG.exit_scope|apply NG.normal_block|apply NG.normal_scope|refine SG.val rfl rfl rfl rfl (by first|((first|apply qmv|apply qas|apply qlc|apply qla|apply qfa|apply qnc|apply qic|apply qix|apply qpk|apply qls|apply qei|apply qni|apply qed|apply qnd|apply qad|apply qln|apply qle|apply qgt|apply qge|apply qlk|apply qlv|apply qxt|apply qsb|apply qnt|apply qep|apply qnp|apply qeb|apply qnb|apply qx2|apply qx4|apply qcv|apply qlm|apply qfr|apply qto|apply qmx|apply qen|apply qsn|apply qx8|apply qx7|apply qx6|apply qx5|apply qx4|apply qx3|apply qx2|apply qx1|apply qx0)<;>(first|exact rfl|exact Ar.mk (by omega)|assumption|exact dct (by assumption)|exact dcf (by assumption)|exact dct (by omega)|exact dcf (by omega)|exact List.not_mem_nil|exact dc_length _|exact nc_length _|exact rc_length _ _ _|exact nm1 (by omega)|exact nm2 (by omega) (by omega)|exact dct rfl|exact dct (by decide)|exact dcf (by decide)|exact (Int.toNat_of_nonneg (by omega)).symm|exact dcu|exact lk1 (by assumption)|exact lk0 (by assumption)))|fail) ?_)
        refine NG.round (i + 1, vw, vo') (by (repeat' (first | exact True.intro | exact rfl | refine And.intro ?_ ?_))) ⟨by show i + 1 ≤ r.way.length; omega, (((hk3.trans hk35).trans hk6).trans hk7).trans_new hk8 (own_new (own_kp0 hoo hk7) (Nat.le_refl _)), blk_own (own_kp0 hoo hk7) (by decide) (hB1.kp0 hk7) hk8, blk_own (own_kp0 hoo hk7) (by decide) (hB2.kp0 hk7) hk8, ?_, ?_, (hap.symm.grow hwh (own_kp0 how hk7)).symm⟩ (by show r.way.length - (i + 1) < r.way.length - i; omega)
        · show w8.ownsRow w.heap.size 98 4 vw ((r.way.take (i + 1)).filter (fun c => !r.isDue c)).length (flt cpl ((r.way.take (i + 1)).filter (fun c => !r.isDue c)))
          rw [htk, if_neg (by rw [hdue]; decide), List.append_nil]
          exact own_apart hap.symm (own_kp0 how hk7) hk8
        · show w8.ownsRow w.heap.size 98 4 vo' ((r.way.take (i + 1)).filter (fun c => r.isDue c && !r.gone c)).length (flt cpl ((r.way.take (i + 1)).filter (fun c => r.isDue c && !r.gone c)))
          rw [htk, if_pos (by rw [hdue, hgo]; rfl), flt_append, flt_one, List.length_append]
          exact hoo8
    · have hdue : r.isDue x = false := decide_eq_false hd
      repeat (first|apply CG.seq|apply CG.region|apply SG.nil|apply NG.next|apply CG.skip|apply CG.block|apply CG.ret|apply CG.exit|apply CG.scope|apply NG.ret_then|apply NG.ret_block|apply NG.ret_scope|apply NG.exit_then|refine NG.exit_block rfl ?_|refine NG.exit_other rfl ?_|apply NG.exit_scope|apply NG.normal_block|apply NG.normal_scope|refine SG.val rfl rfl rfl rfl (by first|((first|apply qmv|apply qas|apply qlc|apply qla|apply qfa|apply qnc|apply qic|apply qix|apply qpk|apply qls|apply qei|apply qni|apply qed|apply qnd|apply qad|apply qln|apply qle|apply qgt|apply qge|apply qlk|apply qlv|apply qxt|apply qsb|apply qnt|apply qep|apply qnp|apply qeb|apply qnb|apply qx2|apply qx4|apply qcv|apply qlm|apply qfr|apply qto|apply qmx|apply qen|apply qsn|apply qx8|apply qx7|apply qx6|apply qx5|apply qx4|apply qx3|apply qx2|apply qx1|apply qx0)<;>(first|exact rfl|exact Ar.mk (by omega)|assumption|exact dct (by assumption)|exact dcf (by assumption)|exact dct (by omega)|exact dcf (by omega)|exact List.not_mem_nil|exact dc_length _|exact nc_length _|exact rc_length _ _ _|exact nm1 (by omega)|exact nm2 (by omega) (by omega)|exact dct rfl|exact dct (by decide)|exact dcf (by decide)|exact (Int.toNat_of_nonneg (by omega)).symm|exact dcu|exact lk1 (by assumption)|exact lk0 (by assumption)))|fail) ?_)
      refine CG.cond_t rfl (by exact rho_of rfl) rfl ?_
      repeat (first|apply CG.seq|apply CG.region|apply SG.nil|apply NG.next|apply CG.skip|apply CG.block|apply CG.ret|apply CG.exit|apply CG.scope|apply NG.ret_then|apply NG.ret_block|apply NG.ret_scope|apply NG.exit_then|refine NG.exit_block rfl ?_|refine NG.exit_other rfl ?_|apply NG.exit_scope|apply NG.normal_block|apply NG.normal_scope|refine SG.val rfl rfl rfl rfl (by first|((first|apply qmv|apply qas|apply qlc|apply qla|apply qfa|apply qnc|apply qic|apply qix|apply qpk|apply qls|apply qei|apply qni|apply qed|apply qnd|apply qad|apply qln|apply qle|apply qgt|apply qge|apply qlk|apply qlv|apply qxt|apply qsb|apply qnt|apply qep|apply qnp|apply qeb|apply qnb|apply qx2|apply qx4|apply qcv|apply qlm|apply qfr|apply qto|apply qmx|apply qen|apply qsn|apply qx8|apply qx7|apply qx6|apply qx5|apply qx4|apply qx3|apply qx2|apply qx1|apply qx0)<;>(first|exact rfl|exact Ar.mk (by omega)|assumption|exact dct (by assumption)|exact dcf (by assumption)|exact dct (by omega)|exact dcf (by omega)|exact List.not_mem_nil|exact dc_length _|exact nc_length _|exact rc_length _ _ _|exact nm1 (by omega)|exact nm2 (by omega) (by omega)|exact dct rfl|exact dct (by decide)|exact dcf (by decide)|exact (Int.toNat_of_nonneg (by omega)).symm|exact dcu|exact lk1 (by assumption)|exact lk0 (by assumption)))|fail) ?_)
      refine SG.buildSlice rfl rfl rfl rfl (fun w => bs44 w x) (fun b8 w7 hk7 hb8 hB8 => ?_)
      refine SG.appendW rfl rfl rfl (by exact rho_of rfl) (by exact rho_of rfl) rfl rfl rfl (own_kp0 how hk7) (Row.all hB8 rfl) rfl (cpl_one x) (by simp only [maxLen]; omega) (by show (((r.way.take i).filter (fun c => !r.isDue c)).length + 1) * 40 ≤ _; omega) (by have := hk7.size; omega) (fun vw' w8 hk8 how8 hwh => ?_)
      repeat (first|apply CG.seq|apply CG.region|apply SG.nil|apply NG.next|apply CG.skip|apply CG.block|apply CG.ret|apply CG.exit|apply CG.scope|apply NG.ret_then|apply NG.ret_block|apply NG.ret_scope|apply NG.exit_then|refine NG.exit_block rfl ?_|refine NG.exit_other rfl ?_|apply NG.exit_scope|apply NG.normal_block|apply NG.normal_scope|refine SG.val rfl rfl rfl rfl (by first|((first|apply qmv|apply qas|apply qlc|apply qla|apply qfa|apply qnc|apply qic|apply qix|apply qpk|apply qls|apply qei|apply qni|apply qed|apply qnd|apply qad|apply qln|apply qle|apply qgt|apply qge|apply qlk|apply qlv|apply qxt|apply qsb|apply qnt|apply qep|apply qnp|apply qeb|apply qnb|apply qx2|apply qx4|apply qcv|apply qlm|apply qfr|apply qto|apply qmx|apply qen|apply qsn|apply qx8|apply qx7|apply qx6|apply qx5|apply qx4|apply qx3|apply qx2|apply qx1|apply qx0)<;>(first|exact rfl|exact Ar.mk (by omega)|assumption|exact dct (by assumption)|exact dcf (by assumption)|exact dct (by omega)|exact dcf (by omega)|exact List.not_mem_nil|exact dc_length _|exact nc_length _|exact rc_length _ _ _|exact nm1 (by omega)|exact nm2 (by omega) (by omega)|exact dct rfl|exact dct (by decide)|exact dcf (by decide)|exact (Int.toNat_of_nonneg (by omega)).symm|exact dcu|exact lk1 (by assumption)|exact lk0 (by assumption)))|fail) ?_)
      refine NG.round (i + 1, vw', vo) (by (repeat' (first | exact True.intro | exact rfl | refine And.intro ?_ ?_))) ⟨by show i + 1 ≤ r.way.length; omega, ((hk3.trans hk35).trans hk7).trans_new hk8 (own_new (own_kp0 how hk7) (Nat.le_refl _)), blk_own (own_kp0 how hk7) (by decide) (hB1.kp0 hk7) hk8, blk_own (own_kp0 how hk7) (by decide) (hB2.kp0 hk7) hk8, ?_, ?_, hap.grow hwh (own_kp0 hoo hk7)⟩ (by show r.way.length - (i + 1) < r.way.length - i; omega)
      · show w8.ownsRow w.heap.size 98 4 vw' ((r.way.take (i + 1)).filter (fun c => !r.isDue c)).length (flt cpl ((r.way.take (i + 1)).filter (fun c => !r.isDue c)))
        rw [htk, if_pos (by rw [hdue]; rfl), flt_append, flt_one, List.length_append]
        exact how8
      · show w8.ownsRow w.heap.size 98 4 vo ((r.way.take (i + 1)).filter (fun c => r.isDue c && !r.gone c)).length (flt cpl ((r.way.take (i + 1)).filter (fun c => r.isDue c && !r.gone c)))
        rw [htk, if_neg (by rw [hdue, Bool.false_and]; decide), List.append_nil]
        exact own_apart hap (own_kp0 hoo hk7) hk8
  have g1 : ¬ (i : Int) < (r.way.length : Int) := by omega
  rw [List.take_of_length_le (by omega)] at how hoo
  repeat (first|apply CG.seq|apply CG.region|apply SG.nil|apply NG.next|apply CG.skip|apply CG.block|apply CG.ret|apply CG.exit|apply CG.scope|apply NG.ret_then|apply NG.ret_block|apply NG.ret_scope|apply NG.exit_then|refine NG.exit_block rfl ?_|refine NG.exit_other rfl ?_|apply NG.exit_scope|apply NG.normal_block|apply NG.normal_scope|refine SG.val rfl rfl rfl rfl (by first|((first|apply qmv|apply qas|apply qlc|apply qla|apply qfa|apply qnc|apply qic|apply qix|apply qpk|apply qls|apply qei|apply qni|apply qed|apply qnd|apply qad|apply qln|apply qle|apply qgt|apply qge|apply qlk|apply qlv|apply qxt|apply qsb|apply qnt|apply qep|apply qnp|apply qeb|apply qnb|apply qx2|apply qx4|apply qcv|apply qlm|apply qfr|apply qto|apply qmx|apply qen|apply qsn|apply qx8|apply qx7|apply qx6|apply qx5|apply qx4|apply qx3|apply qx2|apply qx1|apply qx0)<;>(first|exact rfl|exact Ar.mk (by omega)|assumption|exact dct (by assumption)|exact dcf (by assumption)|exact dct (by omega)|exact dcf (by omega)|exact List.not_mem_nil|exact dc_length _|exact nc_length _|exact rc_length _ _ _|exact nm1 (by omega)|exact nm2 (by omega) (by omega)|exact dct rfl|exact dct (by decide)|exact dcf (by decide)|exact (Int.toNat_of_nonneg (by omega)).symm|exact dcu|exact lk1 (by assumption)|exact lk0 (by assumption)))|fail) ?_)
  refine CG.cond_f rfl (by exact rho_of rfl) rfl ?_
  repeat (first|apply CG.seq|apply CG.region|apply SG.nil|apply NG.next|apply CG.skip|apply CG.block|apply CG.ret|apply CG.exit|apply CG.scope|apply NG.ret_then|apply NG.ret_block|apply NG.ret_scope|apply NG.exit_then|refine NG.exit_block rfl ?_|refine NG.exit_other rfl ?_|apply NG.exit_scope|apply NG.normal_block|apply NG.normal_scope|refine SG.val rfl rfl rfl rfl (by first|((first|apply qmv|apply qas|apply qlc|apply qla|apply qfa|apply qnc|apply qic|apply qix|apply qpk|apply qls|apply qei|apply qni|apply qed|apply qnd|apply qad|apply qln|apply qle|apply qgt|apply qge|apply qlk|apply qlv|apply qxt|apply qsb|apply qnt|apply qep|apply qnp|apply qeb|apply qnb|apply qx2|apply qx4|apply qcv|apply qlm|apply qfr|apply qto|apply qmx|apply qen|apply qsn|apply qx8|apply qx7|apply qx6|apply qx5|apply qx4|apply qx3|apply qx2|apply qx1|apply qx0)<;>(first|exact rfl|exact Ar.mk (by omega)|assumption|exact dct (by assumption)|exact dcf (by assumption)|exact dct (by omega)|exact dcf (by omega)|exact List.not_mem_nil|exact dc_length _|exact nc_length _|exact rc_length _ _ _|exact nm1 (by omega)|exact nm2 (by omega) (by omega)|exact dct rfl|exact dct (by decide)|exact dcf (by decide)|exact (Int.toNat_of_nonneg (by omega)).symm|exact dcu|exact lk1 (by assumption)|exact lk0 (by assumption)))|fail) ?_)
  have hB23 := hB2
  obtain ⟨aw, cw, rfl⟩ := own_slice how
  obtain ⟨ao, co, rfl⟩ := own_slice hoo
  refine SG.setMid [.int .i64 r.parties, .int .i64 r.now] [.slice a r.way.length c] [.slice a' r.cuts.length c'] rfl rfl (by exact rho_of rfl) (by exact rho_of rfl) hB1 rfl rfl rfl rfl rfl (fun w4 hk4 hB4 => ?_)
  repeat (first|apply CG.seq|apply CG.region|apply SG.nil|apply NG.next|apply CG.skip|apply CG.block|apply CG.ret|apply CG.exit|apply CG.scope|apply NG.ret_then|apply NG.ret_block|apply NG.ret_scope|apply NG.exit_then|refine NG.exit_block rfl ?_|refine NG.exit_other rfl ?_|apply NG.exit_scope|apply NG.normal_block|apply NG.normal_scope|refine SG.val rfl rfl rfl rfl (by first|((first|apply qmv|apply qas|apply qlc|apply qla|apply qfa|apply qnc|apply qic|apply qix|apply qpk|apply qls|apply qei|apply qni|apply qed|apply qnd|apply qad|apply qln|apply qle|apply qgt|apply qge|apply qlk|apply qlv|apply qxt|apply qsb|apply qnt|apply qep|apply qnp|apply qeb|apply qnb|apply qx2|apply qx4|apply qcv|apply qlm|apply qfr|apply qto|apply qmx|apply qen|apply qsn|apply qx8|apply qx7|apply qx6|apply qx5|apply qx4|apply qx3|apply qx2|apply qx1|apply qx0)<;>(first|exact rfl|exact Ar.mk (by omega)|assumption|exact dct (by assumption)|exact dcf (by assumption)|exact dct (by omega)|exact dcf (by omega)|exact List.not_mem_nil|exact dc_length _|exact nc_length _|exact rc_length _ _ _|exact nm1 (by omega)|exact nm2 (by omega) (by omega)|exact dct rfl|exact dct (by decide)|exact dcf (by decide)|exact (Int.toNat_of_nonneg (by omega)).symm|exact dcu|exact lk1 (by assumption)|exact lk0 (by assumption)))|fail) ?_)
  refine SG.setMid [.int .i64 r.parties] [.int .i64 r.now] [.slice aw (r.way.filter (fun c => !r.isDue c)).length cw, .slice a' r.cuts.length c'] rfl rfl (by exact rho_of rfl) (by exact rho_of rfl) hB4 rfl rfl rfl rfl rfl (fun w5 hk5 hB5 => ?_)
  have hB5 : Blk w5 b1 (.cells (rcl r.step (.slice aw (r.way.filter (fun c => !r.isDue c)).length cw) (.slice a' r.cuts.length c')).toArray 47) := hB5
  have hB2 := (hB2.kp hk4 (nm1 (by omega))).kp hk5 (nm1 (by omega))
  obtain ⟨q0, q1, q2, q3, q4⟩ := rows47 hB5
  repeat (first|apply CG.seq|apply CG.region|apply SG.nil|apply NG.next|apply CG.skip|apply CG.block|apply CG.ret|apply CG.exit|apply CG.scope|apply NG.ret_then|apply NG.ret_block|apply NG.ret_scope|apply NG.exit_then|refine NG.exit_block rfl ?_|refine NG.exit_other rfl ?_|apply NG.exit_scope|apply NG.normal_block|apply NG.normal_scope|refine SG.val rfl rfl rfl rfl (by first|((first|apply qmv|apply qas|apply qlc|apply qla|apply qfa|apply qnc|apply qic|apply qix|apply qpk|apply qls|apply qei|apply qni|apply qed|apply qnd|apply qad|apply qln|apply qle|apply qgt|apply qge|apply qlk|apply qlv|apply qxt|apply qsb|apply qnt|apply qep|apply qnp|apply qeb|apply qnb|apply qx2|apply qx4|apply qcv|apply qlm|apply qfr|apply qto|apply qmx|apply qen|apply qsn|apply qx8|apply qx7|apply qx6|apply qx5|apply qx4|apply qx3|apply qx2|apply qx1|apply qx0)<;>(first|exact rfl|exact Ar.mk (by omega)|assumption|exact dct (by assumption)|exact dcf (by assumption)|exact dct (by omega)|exact dcf (by omega)|exact List.not_mem_nil|exact dc_length _|exact nc_length _|exact rc_length _ _ _|exact nm1 (by omega)|exact nm2 (by omega) (by omega)|exact dct rfl|exact dct (by decide)|exact dcf (by decide)|exact (Int.toNat_of_nonneg (by omega)).symm|exact dcu|exact lk1 (by assumption)|exact lk0 (by assumption)))|fail) ?_)
  refine SG.setAll (old := rcl (Rn.new 0) nilS nilS) (l := rcl r.step (.slice aw (r.way.filter (fun c => !r.isDue c)).length cw) (.slice a' r.cuts.length c')) rfl rfl (by exact rho_of rfl) (by exact rho_of rfl) hB2 rfl rfl rfl (fun w6 hk6 hB6 => ?_)
  obtain ⟨_, _, _, _, hres⟩ := rows47 hB6
  repeat (first|apply CG.seq|apply CG.region|apply SG.nil|apply NG.next|apply CG.skip|apply CG.block|apply CG.ret|apply CG.exit|apply CG.scope|apply NG.ret_then|apply NG.ret_block|apply NG.ret_scope|apply NG.exit_then|refine NG.exit_block rfl ?_|refine NG.exit_other rfl ?_|apply NG.exit_scope|apply NG.normal_block|apply NG.normal_scope|refine SG.val rfl rfl rfl rfl (by first|((first|apply qmv|apply qas|apply qlc|apply qla|apply qfa|apply qnc|apply qic|apply qix|apply qpk|apply qls|apply qei|apply qni|apply qed|apply qnd|apply qad|apply qln|apply qle|apply qgt|apply qge|apply qlk|apply qlv|apply qxt|apply qsb|apply qnt|apply qep|apply qnp|apply qeb|apply qnb|apply qx2|apply qx4|apply qcv|apply qlm|apply qfr|apply qto|apply qmx|apply qen|apply qsn|apply qx8|apply qx7|apply qx6|apply qx5|apply qx4|apply qx3|apply qx2|apply qx1|apply qx0)<;>(first|exact rfl|exact Ar.mk (by omega)|assumption|exact dct (by assumption)|exact dcf (by assumption)|exact dct (by omega)|exact dcf (by omega)|exact List.not_mem_nil|exact dc_length _|exact nc_length _|exact rc_length _ _ _|exact nm1 (by omega)|exact nm2 (by omega) (by omega)|exact dct rfl|exact dct (by decide)|exact dcf (by decide)|exact (Int.toNat_of_nonneg (by omega)).symm|exact dcu|exact lk1 (by assumption)|exact lk0 (by assumption)))|fail) ?_)
  refine ret2 (Or.inl rfl) Try.results36 (ResV.agg rfl rfl hres rfl) (by first | exact ResV.tmp rfl | exact ResV.agg rfl rfl (by assumption) (by first | exact dc_length _ | exact nc_length _ | exact rc_length _ _ _ | rfl) | exact ResV.cell rfl rfl (by assumption)) ?_
  have k35 : Kp [b1] w3 w5 := hk4.trans hk5
  have k5 : Kp [] w w5 := hk3.trans_new k35 (new1 hb1)
  have k6 : Kp [] w w6 := k5.trans_new hk6 (new1 (by omega))
  have own6 : ∀ {v : Value} {n : Nat} {xs : List Value}, w3.ownsRow w.heap.size 98 4 v n xs → w6.ownsRow w.heap.size 98 4 v n xs := fun {v n xs} h => by
    have hb1' := hB1
    refine own_kp (own_kp h k35 (fun z hz hm => ?_)) hk6 (fun z hz hm => ?_)
    · rw [List.mem_singleton] at hm
      subst hm
      obtain ⟨cs, hc⟩ := own_blk h hz
      exact ne_ty (by decide) hb1' hc rfl
    · rw [List.mem_singleton] at hm
      subst hm
      obtain ⟨cs, hc⟩ := own_blk h hz
      exact ne_ty (by decide) hB23 hc rfl
  exact ⟨_, _, rfl, ⟨own_mono (own6 how) (Nat.zero_le _), own_kp0 hR.cuts k6⟩, own6 hoo, k6⟩
end Go.Proofs.Ytfelaicoedlejaa
/-
  The document's net: a way is cut.
-/
namespace Go.Proofs.Ytfelaicoedlejaa
set_option linter.unusedVariables false

def Rn.bad (r : Rn) (A B : Int) : Prop := ¬ (0 ≤ A ∧ A < r.parties) ∨ ¬ (0 ≤ B ∧ B < r.parties)
def Rn.cut (r : Rn) (f t : Nat) (b : Bool) : Rn := { r with cuts := r.cuts.filter (fun p => !decide (p = (f, t))) ++ (if b = true then [(f, t)] else []) }
theorem bs45 (w : World) (p : Nat × Nat) : (Instr.buildSlice 45 1 [(0, Value.agg (prl p).toArray)].toArray).run Try.prog w = .ok (.slice (some ⟨w.heap.size, 0, none⟩) 1 1) { w with heap := w.heap.push (.cells (prl p).toArray 100) } := by kernel_rfl

attribute [local irreducible] CG NG SG Vals Der Row Blk MapIs IterAt DerX sv
set_option maxHeartbeats 16000000 in
theorem rcut_bad {w : World} {r : Rn} {v u : Value} (hR : RnAt w r v u) (A B : Int) (b : Bool) (h : r.bad A B) : Ret Try.prog 38 #[.agg (rcl r v u).toArray, .int .i64 A, .int .i64 B, .bool b] w (.tuple #[.agg (rcl r v u).toArray, .int .i64 28]) := by
  refine enter4 Try.func38 rfl Try.ntmps38 rfl ?_
  have hone := hR.one
  repeat (first|apply CG.seq|apply CG.region|apply SG.nil|apply NG.next|apply CG.skip|apply CG.block|apply CG.ret|apply CG.exit|apply CG.scope|apply NG.ret_then|apply NG.ret_block|apply NG.ret_scope|apply NG.exit_then|refine NG.exit_block rfl ?_|refine NG.exit_other rfl ?_|apply NG.exit_scope|apply NG.normal_block|apply NG.normal_scope|refine SG.val rfl rfl rfl rfl (by first|((first|apply qmv|apply qas|apply qlc|apply qla|apply qfa|apply qnc|apply qic|apply qix|apply qpk|apply qls|apply qei|apply qni|apply qed|apply qnd|apply qad|apply qln|apply qle|apply qgt|apply qge|apply qlk|apply qlv|apply qxt|apply qsb|apply qnt|apply qep|apply qnp|apply qeb|apply qnb|apply qx2|apply qx4|apply qcv|apply qlm|apply qfr|apply qto|apply qmx|apply qen|apply qsn|apply qx8|apply qx7|apply qx6|apply qx5|apply qx4|apply qx3|apply qx2|apply qx1|apply qx0)<;>(first|exact rfl|exact Ar.mk (by omega)|assumption|exact dct (by assumption)|exact dcf (by assumption)|exact dct (by omega)|exact dcf (by omega)|exact List.not_mem_nil|exact dc_length _|exact nc_length _|exact rc_length _ _ _|exact nm1 (by omega)|exact nm2 (by omega) (by omega)|exact dct rfl|exact dct (by decide)|exact dcf (by decide)|exact (Int.toNat_of_nonneg (by omega)).symm|exact dcu|exact lk1 (by assumption)|exact lk0 (by assumption)))|fail) ?_)
  refine SG.box rfl rfl rfl (by exact rho_of rfl) (fun b1 w1 hk1 hb1 hB1 => ?_)
  have hB1 : Blk w1 b1 (.cells (rcl r v u).toArray 47) := hB1
  refine SG.alloc rfl rfl rfl (fun b2 w2 hk2 hb2 hB2 => ?_)
  have hB2 : Blk w2 b2 (.cells (rcl (Rn.new 0) nilS nilS).toArray 47) := hB2
  have hB1 := hB1.kp0 hk2
  have hq := (rows47 hB1).2.2.2.2
  have e12 := hk1.size
  have e23 := hk2.size
  repeat (first|apply CG.seq|apply CG.region|apply SG.nil|apply NG.next|apply CG.skip|apply CG.block|apply CG.ret|apply CG.exit|apply CG.scope|apply NG.ret_then|apply NG.ret_block|apply NG.ret_scope|apply NG.exit_then|refine NG.exit_block rfl ?_|refine NG.exit_other rfl ?_|apply NG.exit_scope|apply NG.normal_block|apply NG.normal_scope|refine SG.val rfl rfl rfl rfl (by first|((first|apply qmv|apply qas|apply qlc|apply qla|apply qfa|apply qnc|apply qic|apply qix|apply qpk|apply qls|apply qei|apply qni|apply qed|apply qnd|apply qad|apply qln|apply qle|apply qgt|apply qge|apply qlk|apply qlv|apply qxt|apply qsb|apply qnt|apply qep|apply qnp|apply qeb|apply qnb|apply qx2|apply qx4|apply qcv|apply qlm|apply qfr|apply qto|apply qmx|apply qen|apply qsn|apply qx8|apply qx7|apply qx6|apply qx5|apply qx4|apply qx3|apply qx2|apply qx1|apply qx0)<;>(first|exact rfl|exact Ar.mk (by omega)|assumption|exact dct (by assumption)|exact dcf (by assumption)|exact dct (by omega)|exact dcf (by omega)|exact List.not_mem_nil|exact dc_length _|exact nc_length _|exact rc_length _ _ _|exact nm1 (by omega)|exact nm2 (by omega) (by omega)|exact dct rfl|exact dct (by decide)|exact dcf (by decide)|exact (Int.toNat_of_nonneg (by omega)).symm|exact dcu|exact lk1 (by assumption)|exact lk0 (by assumption)))|fail) ?_)
  refine SG.ret rfl rfl rfl (by repeat' (first | exact True.intro | exact rho_of rfl | refine And.intro ?_ ?_)) (rparty w2 r v u A) (fun w3 hk3 => ?_)
  have hq3 := hq.kp0 hk3
  have hB23 := hB2.kp0 hk3
  by_cases h1 : 0 ≤ A ∧ A < r.parties
  · have h2 := h.resolve_left (fun hh => hh h1)
    rw [decide_eq_true h1]
    repeat (first | first|apply CG.seq|apply CG.region|apply SG.nil|apply NG.next|apply CG.skip|apply CG.block|apply CG.ret|apply CG.exit|apply CG.scope|apply NG.ret_then|apply NG.ret_block|apply NG.ret_scope|apply NG.exit_then|refine NG.exit_block rfl ?_|refine NG.exit_other rfl ?_|apply NG.exit_scope|apply NG.normal_block|apply NG.normal_scope|refine SG.val rfl rfl rfl rfl (by first|((first|apply qmv|apply qas|apply qlc|apply qla|apply qfa|apply qnc|apply qic|apply qix|apply qpk|apply qls|apply qei|apply qni|apply qed|apply qnd|apply qad|apply qln|apply qle|apply qgt|apply qge|apply qlk|apply qlv|apply qxt|apply qsb|apply qnt|apply qep|apply qnp|apply qeb|apply qnb|apply qx2|apply qx4|apply qcv|apply qlm|apply qfr|apply qto|apply qmx|apply qen|apply qsn|apply qx8|apply qx7|apply qx6|apply qx5|apply qx4|apply qx3|apply qx2|apply qx1|apply qx0)<;>(first|exact rfl|exact Ar.mk (by omega)|assumption|exact dct (by assumption)|exact dcf (by assumption)|exact dct (by omega)|exact dcf (by omega)|exact List.not_mem_nil|exact dc_length _|exact nc_length _|exact rc_length _ _ _|exact nm1 (by omega)|exact nm2 (by omega) (by omega)|exact dct rfl|exact dct (by decide)|exact dcf (by decide)|exact (Int.toNat_of_nonneg (by omega)).symm|exact dcu|exact lk1 (by assumption)|exact lk0 (by assumption)))|fail) ?_ | refine SG.skip rfl rfl ?_)
    refine SG.ret rfl rfl rfl (by repeat' (first | exact True.intro | exact rho_of rfl | refine And.intro ?_ ?_)) (rparty w3 r v u B) (fun w4 hk4 => ?_)
    have hq4 := hq3.kp0 hk4
    have hB24 := hB23.kp0 hk4
    rw [decide_eq_false h2]
    repeat (first | first|apply CG.seq|apply CG.region|apply SG.nil|apply NG.next|apply CG.skip|apply CG.block|apply CG.ret|apply CG.exit|apply CG.scope|apply NG.ret_then|apply NG.ret_block|apply NG.ret_scope|apply NG.exit_then|refine NG.exit_block rfl ?_|refine NG.exit_other rfl ?_|apply NG.exit_scope|apply NG.normal_block|apply NG.normal_scope|refine SG.val rfl rfl rfl rfl (by first|((first|apply qmv|apply qas|apply qlc|apply qla|apply qfa|apply qnc|apply qic|apply qix|apply qpk|apply qls|apply qei|apply qni|apply qed|apply qnd|apply qad|apply qln|apply qle|apply qgt|apply qge|apply qlk|apply qlv|apply qxt|apply qsb|apply qnt|apply qep|apply qnp|apply qeb|apply qnb|apply qx2|apply qx4|apply qcv|apply qlm|apply qfr|apply qto|apply qmx|apply qen|apply qsn|apply qx8|apply qx7|apply qx6|apply qx5|apply qx4|apply qx3|apply qx2|apply qx1|apply qx0)<;>(first|exact rfl|exact Ar.mk (by omega)|assumption|exact dct (by assumption)|exact dcf (by assumption)|exact dct (by omega)|exact dcf (by omega)|exact List.not_mem_nil|exact dc_length _|exact nc_length _|exact rc_length _ _ _|exact nm1 (by omega)|exact nm2 (by omega) (by omega)|exact dct rfl|exact dct (by decide)|exact dcf (by decide)|exact (Int.toNat_of_nonneg (by omega)).symm|exact dcu|exact lk1 (by assumption)|exact lk0 (by assumption)))|fail) ?_ | refine SG.skip rfl rfl ?_)
    refine CG.cond_t rfl (by exact rho_of rfl) rfl ?_
    repeat (first|apply CG.seq|apply CG.region|apply SG.nil|apply NG.next|apply CG.skip|apply CG.block|apply CG.ret|apply CG.exit|apply CG.scope|apply NG.ret_then|apply NG.ret_block|apply NG.ret_scope|apply NG.exit_then|refine NG.exit_block rfl ?_|refine NG.exit_other rfl ?_|apply NG.exit_scope|apply NG.normal_block|apply NG.normal_scope|refine SG.val rfl rfl rfl rfl (by first|((first|apply qmv|apply qas|apply qlc|apply qla|apply qfa|apply qnc|apply qic|apply qix|apply qpk|apply qls|apply qei|apply qni|apply qed|apply qnd|apply qad|apply qln|apply qle|apply qgt|apply qge|apply qlk|apply qlv|apply qxt|apply qsb|apply qnt|apply qep|apply qnp|apply qeb|apply qnb|apply qx2|apply qx4|apply qcv|apply qlm|apply qfr|apply qto|apply qmx|apply qen|apply qsn|apply qx8|apply qx7|apply qx6|apply qx5|apply qx4|apply qx3|apply qx2|apply qx1|apply qx0)<;>(first|exact rfl|exact Ar.mk (by omega)|assumption|exact dct (by assumption)|exact dcf (by assumption)|exact dct (by omega)|exact dcf (by omega)|exact List.not_mem_nil|exact dc_length _|exact nc_length _|exact rc_length _ _ _|exact nm1 (by omega)|exact nm2 (by omega) (by omega)|exact dct rfl|exact dct (by decide)|exact dcf (by decide)|exact (Int.toNat_of_nonneg (by omega)).symm|exact dcu|exact lk1 (by assumption)|exact lk0 (by assumption)))|fail) ?_)
    refine SG.setAll (old := rcl (Rn.new 0) nilS nilS) (l := rcl r v u) rfl rfl (by exact rho_of rfl) (by exact rho_of rfl) hB24 rfl rfl hone (fun w5 hk5 hB5 => ?_)
    obtain ⟨_, _, _, _, hres⟩ := rows47 hB5
    repeat (first|apply CG.seq|apply CG.region|apply SG.nil|apply NG.next|apply CG.skip|apply CG.block|apply CG.ret|apply CG.exit|apply CG.scope|apply NG.ret_then|apply NG.ret_block|apply NG.ret_scope|apply NG.exit_then|refine NG.exit_block rfl ?_|refine NG.exit_other rfl ?_|apply NG.exit_scope|apply NG.normal_block|apply NG.normal_scope|refine SG.val rfl rfl rfl rfl (by first|((first|apply qmv|apply qas|apply qlc|apply qla|apply qfa|apply qnc|apply qic|apply qix|apply qpk|apply qls|apply qei|apply qni|apply qed|apply qnd|apply qad|apply qln|apply qle|apply qgt|apply qge|apply qlk|apply qlv|apply qxt|apply qsb|apply qnt|apply qep|apply qnp|apply qeb|apply qnb|apply qx2|apply qx4|apply qcv|apply qlm|apply qfr|apply qto|apply qmx|apply qen|apply qsn|apply qx8|apply qx7|apply qx6|apply qx5|apply qx4|apply qx3|apply qx2|apply qx1|apply qx0)<;>(first|exact rfl|exact Ar.mk (by omega)|assumption|exact dct (by assumption)|exact dcf (by assumption)|exact dct (by omega)|exact dcf (by omega)|exact List.not_mem_nil|exact dc_length _|exact nc_length _|exact rc_length _ _ _|exact nm1 (by omega)|exact nm2 (by omega) (by omega)|exact dct rfl|exact dct (by decide)|exact dcf (by decide)|exact (Int.toNat_of_nonneg (by omega)).symm|exact dcu|exact lk1 (by assumption)|exact lk0 (by assumption)))|fail) ?_)
    refine ret2 (Or.inl rfl) Try.results38 (ResV.agg rfl rfl hres rfl) (by first | exact ResV.tmp rfl | exact ResV.agg rfl rfl (by assumption) (by first | exact dc_length _ | exact nc_length _ | exact rc_length _ _ _ | rfl) | exact ResV.cell rfl rfl (by assumption)) ?_
    exact ⟨rfl, (((hk1.trans hk2).trans hk3).trans hk4).trans_new hk5 (new1 (by omega))⟩
  · rw [decide_eq_false h1]
    repeat (first | first|apply CG.seq|apply CG.region|apply SG.nil|apply NG.next|apply CG.skip|apply CG.block|apply CG.ret|apply CG.exit|apply CG.scope|apply NG.ret_then|apply NG.ret_block|apply NG.ret_scope|apply NG.exit_then|refine NG.exit_block rfl ?_|refine NG.exit_other rfl ?_|apply NG.exit_scope|apply NG.normal_block|apply NG.normal_scope|refine SG.val rfl rfl rfl rfl (by first|((first|apply qmv|apply qas|apply qlc|apply qla|apply qfa|apply qnc|apply qic|apply qix|apply qpk|apply qls|apply qei|apply qni|apply qed|apply qnd|apply qad|apply qln|apply qle|apply qgt|apply qge|apply qlk|apply qlv|apply qxt|apply qsb|apply qnt|apply qep|apply qnp|apply qeb|apply qnb|apply qx2|apply qx4|apply qcv|apply qlm|apply qfr|apply qto|apply qmx|apply qen|apply qsn|apply qx8|apply qx7|apply qx6|apply qx5|apply qx4|apply qx3|apply qx2|apply qx1|apply qx0)<;>(first|exact rfl|exact Ar.mk (by omega)|assumption|exact dct (by assumption)|exact dcf (by assumption)|exact dct (by omega)|exact dcf (by omega)|exact List.not_mem_nil|exact dc_length _|exact nc_length _|exact rc_length _ _ _|exact nm1 (by omega)|exact nm2 (by omega) (by omega)|exact dct rfl|exact dct (by decide)|exact dcf (by decide)|exact (Int.toNat_of_nonneg (by omega)).symm|exact dcu|exact lk1 (by assumption)|exact lk0 (by assumption)))|fail) ?_ | refine SG.skip rfl rfl ?_)
    refine CG.cond_t rfl (by exact rho_of rfl) rfl ?_
    repeat (first|apply CG.seq|apply CG.region|apply SG.nil|apply NG.next|apply CG.skip|apply CG.block|apply CG.ret|apply CG.exit|apply CG.scope|apply NG.ret_then|apply NG.ret_block|apply NG.ret_scope|apply NG.exit_then|refine NG.exit_block rfl ?_|refine NG.exit_other rfl ?_|apply NG.exit_scope|apply NG.normal_block|apply NG.normal_scope|refine SG.val rfl rfl rfl rfl (by first|((first|apply qmv|apply qas|apply qlc|apply qla|apply qfa|apply qnc|apply qic|apply qix|apply qpk|apply qls|apply qei|apply qni|apply qed|apply qnd|apply qad|apply qln|apply qle|apply qgt|apply qge|apply qlk|apply qlv|apply qxt|apply qsb|apply qnt|apply qep|apply qnp|apply qeb|apply qnb|apply qx2|apply qx4|apply qcv|apply qlm|apply qfr|apply qto|apply qmx|apply qen|apply qsn|apply qx8|apply qx7|apply qx6|apply qx5|apply qx4|apply qx3|apply qx2|apply qx1|apply qx0)<;>(first|exact rfl|exact Ar.mk (by omega)|assumption|exact dct (by assumption)|exact dcf (by assumption)|exact dct (by omega)|exact dcf (by omega)|exact List.not_mem_nil|exact dc_length _|exact nc_length _|exact rc_length _ _ _|exact nm1 (by omega)|exact nm2 (by omega) (by omega)|exact dct rfl|exact dct (by decide)|exact dcf (by decide)|exact (Int.toNat_of_nonneg (by omega)).symm|exact dcu|exact lk1 (by assumption)|exact lk0 (by assumption)))|fail) ?_)
    refine SG.setAll (old := rcl (Rn.new 0) nilS nilS) (l := rcl r v u) rfl rfl (by exact rho_of rfl) (by exact rho_of rfl) hB23 rfl rfl hone (fun w5 hk5 hB5 => ?_)
    obtain ⟨_, _, _, _, hres⟩ := rows47 hB5
    repeat (first|apply CG.seq|apply CG.region|apply SG.nil|apply NG.next|apply CG.skip|apply CG.block|apply CG.ret|apply CG.exit|apply CG.scope|apply NG.ret_then|apply NG.ret_block|apply NG.ret_scope|apply NG.exit_then|refine NG.exit_block rfl ?_|refine NG.exit_other rfl ?_|apply NG.exit_scope|apply NG.normal_block|apply NG.normal_scope|refine SG.val rfl rfl rfl rfl (by first|((first|apply qmv|apply qas|apply qlc|apply qla|apply qfa|apply qnc|apply qic|apply qix|apply qpk|apply qls|apply qei|apply qni|apply qed|apply qnd|apply qad|apply qln|apply qle|apply qgt|apply qge|apply qlk|apply qlv|apply qxt|apply qsb|apply qnt|apply qep|apply qnp|apply qeb|apply qnb|apply qx2|apply qx4|apply qcv|apply qlm|apply qfr|apply qto|apply qmx|apply qen|apply qsn|apply qx8|apply qx7|apply qx6|apply qx5|apply qx4|apply qx3|apply qx2|apply qx1|apply qx0)<;>(first|exact rfl|exact Ar.mk (by omega)|assumption|exact dct (by assumption)|exact dcf (by assumption)|exact dct (by omega)|exact dcf (by omega)|exact List.not_mem_nil|exact dc_length _|exact nc_length _|exact rc_length _ _ _|exact nm1 (by omega)|exact nm2 (by omega) (by omega)|exact dct rfl|exact dct (by decide)|exact dcf (by decide)|exact (Int.toNat_of_nonneg (by omega)).symm|exact dcu|exact lk1 (by assumption)|exact lk0 (by assumption)))|fail) ?_)
    refine ret2 (Or.inl rfl) Try.results38 (ResV.agg rfl rfl hres rfl) (by first | exact ResV.tmp rfl | exact ResV.agg rfl rfl (by assumption) (by first | exact dc_length _ | exact nc_length _ | exact rc_length _ _ _ | rfl) | exact ResV.cell rfl rfl (by assumption)) ?_
    exact ⟨rfl, ((hk1.trans hk2).trans hk3).trans_new hk5 (new1 (by omega))⟩
set_option maxHeartbeats 16000000 in
theorem rcut_good {w : World} {r : Rn} {v u : Value} (hR : RnAt w r v u) (ok : RnOk r) (f t : Nat) (b : Bool) (hf : f < r.parties) (ht : t < r.parties) : Calls Try.prog 38 #[.agg (rcl r v u).toArray, .int .i64 f, .int .i64 t, .bool b] w (fun e w' => ∃ u', e = .returned (.tuple #[.agg (rcl (r.cut f t b) v u').toArray, .int .i64 0]) ∧ RnAt w' (r.cut f t b) v u' ∧ Kp [] w w') := by
  refine enter4 Try.func38 rfl Try.ntmps38 rfl ?_
  obtain ⟨a, c, rfl⟩ := own_slice hR.way
  obtain ⟨a', c', rfl, hac, hS⟩ := Sl.own prl_length hR.cuts rfl
  have h1 : 0 ≤ (f : Int) ∧ (f : Int) < r.parties := by omega
  have h2 : 0 ≤ (t : Int) ∧ (t : Int) < r.parties := by omega
  have hp16 := ok.p16
  have hcl := ok.cl
  repeat (first|apply CG.seq|apply CG.region|apply SG.nil|apply NG.next|apply CG.skip|apply CG.block|apply CG.ret|apply CG.exit|apply CG.scope|apply NG.ret_then|apply NG.ret_block|apply NG.ret_scope|apply NG.exit_then|refine NG.exit_block rfl ?_|refine NG.exit_other rfl ?_|apply NG.exit_scope|apply NG.normal_block|apply NG.normal_scope|refine SG.val rfl rfl rfl rfl (by first|((first|apply qmv|apply qas|apply qlc|apply qla|apply qfa|apply qnc|apply qic|apply qix|apply qpk|apply qls|apply qei|apply qni|apply qed|apply qnd|apply qad|apply qln|apply qle|apply qgt|apply qge|apply qlk|apply qlv|apply qxt|apply qsb|apply qnt|apply qep|apply qnp|apply qeb|apply qnb|apply qx2|apply qx4|apply qcv|apply qlm|apply qfr|apply qto|apply qmx|apply qen|apply qsn|apply qx8|apply qx7|apply qx6|apply qx5|apply qx4|apply qx3|apply qx2|apply qx1|apply qx0)<;>(first|exact rfl|exact Ar.mk (by omega)|assumption|exact dct (by assumption)|exact dcf (by assumption)|exact dct (by omega)|exact dcf (by omega)|exact List.not_mem_nil|exact dc_length _|exact nc_length _|exact rc_length _ _ _|exact nm1 (by omega)|exact nm2 (by omega) (by omega)|exact dct rfl|exact dct (by decide)|exact dcf (by decide)|exact (Int.toNat_of_nonneg (by omega)).symm|exact dcu|exact lk1 (by assumption)|exact lk0 (by assumption)))|fail) ?_)
  refine SG.box rfl rfl rfl (by exact rho_of rfl) (fun b1 w1 hk1 hb1 hB1 => ?_)
  have hB1 : Blk w1 b1 (.cells (rcl r (.slice a r.way.length c) (.slice a' r.cuts.length c')).toArray 47) := hB1
  refine SG.alloc rfl rfl rfl (fun b2 w2 hk2 hb2 hB2 => ?_)
  have hB2 : Blk w2 b2 (.cells (rcl (Rn.new 0) nilS nilS).toArray 47) := hB2
  have hlt1 := hB1.lt
  have hB1 := hB1.kp0 hk2
  have hq := (rows47 hB1).2.2.2.2
  have e12 := hk1.size
  have e23 := hk2.size
  repeat (first|apply CG.seq|apply CG.region|apply SG.nil|apply NG.next|apply CG.skip|apply CG.block|apply CG.ret|apply CG.exit|apply CG.scope|apply NG.ret_then|apply NG.ret_block|apply NG.ret_scope|apply NG.exit_then|refine NG.exit_block rfl ?_|refine NG.exit_other rfl ?_|apply NG.exit_scope|apply NG.normal_block|apply NG.normal_scope|refine SG.val rfl rfl rfl rfl (by first|((first|apply qmv|apply qas|apply qlc|apply qla|apply qfa|apply qnc|apply qic|apply qix|apply qpk|apply qls|apply qei|apply qni|apply qed|apply qnd|apply qad|apply qln|apply qle|apply qgt|apply qge|apply qlk|apply qlv|apply qxt|apply qsb|apply qnt|apply qep|apply qnp|apply qeb|apply qnb|apply qx2|apply qx4|apply qcv|apply qlm|apply qfr|apply qto|apply qmx|apply qen|apply qsn|apply qx8|apply qx7|apply qx6|apply qx5|apply qx4|apply qx3|apply qx2|apply qx1|apply qx0)<;>(first|exact rfl|exact Ar.mk (by omega)|assumption|exact dct (by assumption)|exact dcf (by assumption)|exact dct (by omega)|exact dcf (by omega)|exact List.not_mem_nil|exact dc_length _|exact nc_length _|exact rc_length _ _ _|exact nm1 (by omega)|exact nm2 (by omega) (by omega)|exact dct rfl|exact dct (by decide)|exact dcf (by decide)|exact (Int.toNat_of_nonneg (by omega)).symm|exact dcu|exact lk1 (by assumption)|exact lk0 (by assumption)))|fail) ?_)
  refine SG.ret rfl rfl rfl (by repeat' (first | exact True.intro | exact rho_of rfl | refine And.intro ?_ ?_)) (rparty w2 r _ _ f) (fun w3 hk3 => ?_)
  have hq3 := hq.kp0 hk3
  rw [decide_eq_true h1]
  repeat (first | first|apply CG.seq|apply CG.region|apply SG.nil|apply NG.next|apply CG.skip|apply CG.block|apply CG.ret|apply CG.exit|apply CG.scope|apply NG.ret_then|apply NG.ret_block|apply NG.ret_scope|apply NG.exit_then|refine NG.exit_block rfl ?_|refine NG.exit_other rfl ?_|apply NG.exit_scope|apply NG.normal_block|apply NG.normal_scope|refine SG.val rfl rfl rfl rfl (by first|((first|apply qmv|apply qas|apply qlc|apply qla|apply qfa|apply qnc|apply qic|apply qix|apply qpk|apply qls|apply qei|apply qni|apply qed|apply qnd|apply qad|apply qln|apply qle|apply qgt|apply qge|apply qlk|apply qlv|apply qxt|apply qsb|apply qnt|apply qep|apply qnp|apply qeb|apply qnb|apply qx2|apply qx4|apply qcv|apply qlm|apply qfr|apply qto|apply qmx|apply qen|apply qsn|apply qx8|apply qx7|apply qx6|apply qx5|apply qx4|apply qx3|apply qx2|apply qx1|apply qx0)<;>(first|exact rfl|exact Ar.mk (by omega)|assumption|exact dct (by assumption)|exact dcf (by assumption)|exact dct (by omega)|exact dcf (by omega)|exact List.not_mem_nil|exact dc_length _|exact nc_length _|exact rc_length _ _ _|exact nm1 (by omega)|exact nm2 (by omega) (by omega)|exact dct rfl|exact dct (by decide)|exact dcf (by decide)|exact (Int.toNat_of_nonneg (by omega)).symm|exact dcu|exact lk1 (by assumption)|exact lk0 (by assumption)))|fail) ?_ | refine SG.skip rfl rfl ?_)
  refine SG.ret rfl rfl rfl (by repeat' (first | exact True.intro | exact rho_of rfl | refine And.intro ?_ ?_)) (rparty w3 r _ _ t) (fun w4 hk4 => ?_)
  have hB14 := (hB1.kp0 hk3).kp0 hk4
  have hB24 := (hB2.kp0 hk3).kp0 hk4
  have k04 := ((hk1.trans hk2).trans hk3).trans hk4
  rw [decide_eq_true h2]
  repeat (first | first|apply CG.seq|apply CG.region|apply SG.nil|apply NG.next|apply CG.skip|apply CG.block|apply CG.ret|apply CG.exit|apply CG.scope|apply NG.ret_then|apply NG.ret_block|apply NG.ret_scope|apply NG.exit_then|refine NG.exit_block rfl ?_|refine NG.exit_other rfl ?_|apply NG.exit_scope|apply NG.normal_block|apply NG.normal_scope|refine SG.val rfl rfl rfl rfl (by first|((first|apply qmv|apply qas|apply qlc|apply qla|apply qfa|apply qnc|apply qic|apply qix|apply qpk|apply qls|apply qei|apply qni|apply qed|apply qnd|apply qad|apply qln|apply qle|apply qgt|apply qge|apply qlk|apply qlv|apply qxt|apply qsb|apply qnt|apply qep|apply qnp|apply qeb|apply qnb|apply qx2|apply qx4|apply qcv|apply qlm|apply qfr|apply qto|apply qmx|apply qen|apply qsn|apply qx8|apply qx7|apply qx6|apply qx5|apply qx4|apply qx3|apply qx2|apply qx1|apply qx0)<;>(first|exact rfl|exact Ar.mk (by omega)|assumption|exact dct (by assumption)|exact dcf (by assumption)|exact dct (by omega)|exact dcf (by omega)|exact List.not_mem_nil|exact dc_length _|exact nc_length _|exact rc_length _ _ _|exact nm1 (by omega)|exact nm2 (by omega) (by omega)|exact dct rfl|exact dct (by decide)|exact dcf (by decide)|exact (Int.toNat_of_nonneg (by omega)).symm|exact dcu|exact lk1 (by assumption)|exact lk0 (by assumption)))|fail) ?_ | refine SG.skip rfl rfl ?_)
  refine CG.cond_f rfl (by exact rho_of rfl) rfl ?_
  repeat (first|apply CG.seq|apply CG.region|apply SG.nil|apply NG.next|apply CG.skip|apply CG.block|apply CG.ret|apply CG.exit|apply CG.scope|apply NG.ret_then|apply NG.ret_block|apply NG.ret_scope|apply NG.exit_then|refine NG.exit_block rfl ?_|refine NG.exit_other rfl ?_|apply NG.exit_scope|apply NG.normal_block|apply NG.normal_scope|refine SG.val rfl rfl rfl rfl (by first|((first|apply qmv|apply qas|apply qlc|apply qla|apply qfa|apply qnc|apply qic|apply qix|apply qpk|apply qls|apply qei|apply qni|apply qed|apply qnd|apply qad|apply qln|apply qle|apply qgt|apply qge|apply qlk|apply qlv|apply qxt|apply qsb|apply qnt|apply qep|apply qnp|apply qeb|apply qnb|apply qx2|apply qx4|apply qcv|apply qlm|apply qfr|apply qto|apply qmx|apply qen|apply qsn|apply qx8|apply qx7|apply qx6|apply qx5|apply qx4|apply qx3|apply qx2|apply qx1|apply qx0)<;>(first|exact rfl|exact Ar.mk (by omega)|assumption|exact dct (by assumption)|exact dcf (by assumption)|exact dct (by omega)|exact dcf (by omega)|exact List.not_mem_nil|exact dc_length _|exact nc_length _|exact rc_length _ _ _|exact nm1 (by omega)|exact nm2 (by omega) (by omega)|exact dct rfl|exact dct (by decide)|exact dcf (by decide)|exact (Int.toNat_of_nonneg (by omega)).symm|exact dcu|exact lk1 (by assumption)|exact lk0 (by assumption)))|fail) ?_)
  refine CG.loop (X := Nat × Value) (fun q => [(1, .int .i64 (f : Int)), (2, .int .i64 (t : Int)), (3, .bool b), (4, .pointer (some ⟨b1, 0, none⟩)), (8, .pointer (some ⟨b2, 0, none⟩)), (9, .int .i64 0), (10, q.2), (11, .int .i64 (q.1 : Int))])
    (fun q w' => q.1 ≤ r.cuts.length ∧ Kp [] w w' ∧ Blk w' b1 (.cells (rcl r (.slice a r.way.length c) (.slice a' r.cuts.length c')).toArray 47) ∧ Blk w' b2 (.cells (rcl (Rn.new 0) nilS nilS).toArray 47)
      ∧ w'.ownsRow w.heap.size 100 2 q.2 ((r.cuts.take q.1).filter (fun p => !decide (p = (f, t)))).length (flt prl ((r.cuts.take q.1).filter (fun p => !decide (p = (f, t))))))
    (fun q => r.cuts.length - q.1) (0, nilS) ⟨Nat.zero_le _, k04, hB14, hB24, own_nil⟩ (by (repeat' (first | exact True.intro | exact rfl | refine And.intro ?_ ?_))) ?_
  rintro ⟨i, vl⟩ w5 ⟨hi, hk5, hB1, hB2, hol⟩
  replace hi : i ≤ r.cuts.length := hi
  replace hol : w5.ownsRow w.heap.size 100 2 vl ((r.cuts.take i).filter (fun p => !decide (p = (f, t)))).length (flt prl ((r.cuts.take i).filter (fun p => !decide (p = (f, t))))) := hol
  refine CG.to [(1, .int .i64 (f : Int)), (2, .int .i64 (t : Int)), (3, .bool b), (4, .pointer (some ⟨b1, 0, none⟩)), (8, .pointer (some ⟨b2, 0, none⟩)), (9, .int .i64 0), (10, vl), (11, .int .i64 (i : Int))] (by (repeat' (first | exact True.intro | exact rfl | refine And.intro ?_ ?_))) ?_
  obtain ⟨q0, q1, q2, q3, q4⟩ := rows47 hB1
  have e05 := hk5.size
  have hfl : ((r.cuts.take i).filter (fun p => !decide (p = (f, t)))).length ≤ 300 := Nat.le_trans (List.length_filter_le _ _) (by rw [List.length_take]; omega)
  by_cases hlt : i < r.cuts.length
  · have g1 : (i : Int) < (r.cuts.length : Int) := by omega
    obtain ⟨ba, oa, rfl, hr⟩ := (hS.kp0 hk5).at hlt
    have hbd := ok.cuts _ (List.getElem_mem hlt)
    have htk : (r.cuts.take (i + 1)).filter (fun p => !decide (p = (f, t))) = (r.cuts.take i).filter (fun p => !decide (p = (f, t))) ++ (if r.cuts[i] = (f, t) then [] else [r.cuts[i]]) := by
      rw [List.take_succ_eq_append_getElem hlt, List.filter_append]
      congr 1
      by_cases h : r.cuts[i] = (f, t)
      · simp [h]
      · simp [h]
    generalize r.cuts[i] = p at hr hbd htk
    have hb1' : p.1 < 16 := hbd.1
    have hb2' : p.2 < 16 := hbd.2
    by_cases hp : p = (f, t)
    · rw [if_pos hp, List.append_nil] at htk
      repeat (first|apply CG.seq|apply CG.region|apply SG.nil|apply NG.next|apply CG.skip|apply CG.block|apply CG.ret|apply CG.exit|apply CG.scope|apply NG.ret_then|apply NG.ret_block|apply NG.ret_scope|apply NG.exit_then|refine NG.exit_block rfl ?_|refine NG.exit_other rfl ?_|apply NG.exit_scope|apply NG.normal_block|apply NG.normal_scope|refine SG.val rfl rfl rfl rfl (by first|((first|apply qmv|apply qas|apply qlc|apply qla|apply qfa|apply qnc|apply qic|apply qix|apply qpk|apply qls|apply qei|apply qni|apply qed|apply qnd|apply qad|apply qln|apply qle|apply qgt|apply qge|apply qlk|apply qlv|apply qxt|apply qsb|apply qnt|apply qep|apply qnp|apply qeb|apply qnb|apply qx2|apply qx4|apply qcv|apply qlm|apply qfr|apply qto|apply qmx|apply qen|apply qsn|apply qx8|apply qx7|apply qx6|apply qx5|apply qx4|apply qx3|apply qx2|apply qx1|apply qx0)<;>(first|exact rfl|exact Ar.mk (by omega)|assumption|exact dct (by assumption)|exact dcf (by assumption)|exact dct (by omega)|exact dcf (by omega)|exact List.not_mem_nil|exact dc_length _|exact nc_length _|exact rc_length _ _ _|exact nm1 (by omega)|exact nm2 (by omega) (by omega)|exact dct rfl|exact dct (by decide)|exact dcf (by decide)|exact (Int.toNat_of_nonneg (by omega)).symm|exact dcu|exact lk1 (by assumption)|exact lk0 (by assumption)))|fail) ?_)
      refine CG.cond_t rfl (by exact rho_of rfl) rfl ?_
      repeat (first|apply CG.seq|apply CG.region|apply SG.nil|apply NG.next|apply CG.skip|apply CG.block|apply CG.ret|apply CG.exit|apply CG.scope|apply NG.ret_then|apply NG.ret_block|apply NG.ret_scope|apply NG.exit_then|refine NG.exit_block rfl ?_|refine NG.exit_other rfl ?_|apply NG.exit_scope|apply NG.normal_block|apply NG.normal_scope|refine SG.val rfl rfl rfl rfl (by first|((first|apply qmv|apply qas|apply qlc|apply qla|apply qfa|apply qnc|apply qic|apply qix|apply qpk|apply qls|apply qei|apply qni|apply qed|apply qnd|apply qad|apply qln|apply qle|apply qgt|apply qge|apply qlk|apply qlv|apply qxt|apply qsb|apply qnt|apply qep|apply qnp|apply qeb|apply qnb|apply qx2|apply qx4|apply qcv|apply qlm|apply qfr|apply qto|apply qmx|apply qen|apply qsn|apply qx8|apply qx7|apply qx6|apply qx5|apply qx4|apply qx3|apply qx2|apply qx1|apply qx0)<;>(first|exact rfl|exact Ar.mk (by omega)|assumption|exact dct (by assumption)|exact dcf (by assumption)|exact dct (by omega)|exact dcf (by omega)|exact List.not_mem_nil|exact dc_length _|exact nc_length _|exact rc_length _ _ _|exact nm1 (by omega)|exact nm2 (by omega) (by omega)|exact dct rfl|exact dct (by decide)|exact dcf (by decide)|exact (Int.toNat_of_nonneg (by omega)).symm|exact dcu|exact lk1 (by assumption)|exact lk0 (by assumption)))|fail) ?_)
      refine SG.val rfl rfl rfl rfl (vals_build rfl (fun w => build100 w f t)) ?_
      refine SG.val rfl rfl rfl rfl (qx8 (p := p) (q := (f, t)) rfl rfl ⟨⟨⟨by omega, by omega⟩, by show f < _; omega, by show t < _; omega⟩⟩ (dct hp)) ?_
      repeat (first|apply CG.seq|apply CG.region|apply SG.nil|apply NG.next|apply CG.skip|apply CG.block|apply CG.ret|apply CG.exit|apply CG.scope|apply NG.ret_then|apply NG.ret_block|apply NG.ret_scope|apply NG.exit_then|refine NG.exit_block rfl ?_|refine NG.exit_other rfl ?_|apply NG.exit_scope|apply NG.normal_block|apply NG.normal_scope|refine SG.val rfl rfl rfl rfl (by first|((first|apply qmv|apply qas|apply qlc|apply qla|apply qfa|apply qnc|apply qic|apply qix|apply qpk|apply qls|apply qei|apply qni|apply qed|apply qnd|apply qad|apply qln|apply qle|apply qgt|apply qge|apply qlk|apply qlv|apply qxt|apply qsb|apply qnt|apply qep|apply qnp|apply qeb|apply qnb|apply qx2|apply qx4|apply qcv|apply qlm|apply qfr|apply qto|apply qmx|apply qen|apply qsn|apply qx8|apply qx7|apply qx6|apply qx5|apply qx4|apply qx3|apply qx2|apply qx1|apply qx0)<;>(first|exact rfl|exact Ar.mk (by omega)|assumption|exact dct (by assumption)|exact dcf (by assumption)|exact dct (by omega)|exact dcf (by omega)|exact List.not_mem_nil|exact dc_length _|exact nc_length _|exact rc_length _ _ _|exact nm1 (by omega)|exact nm2 (by omega) (by omega)|exact dct rfl|exact dct (by decide)|exact dcf (by decide)|exact (Int.toNat_of_nonneg (by omega)).symm|exact dcu|exact lk1 (by assumption)|exact lk0 (by assumption)))|fail) ?_)
      refine CG.cond_f rfl (by exact rho_of rfl) rfl ?_
      repeat (first|apply CG.seq|apply CG.region|apply SG.nil|apply NG.next|apply CG.skip|apply CG.block|apply CG.ret|apply CG.exit|apply CG.scope|apply NG.ret_then|apply NG.ret_block|apply NG.ret_scope|apply NG.exit_then|refine NG.exit_block rfl ?_|refine NG.exit_other rfl ?_|apply NG.exit_scope|apply NG.normal_block|apply NG.normal_scope|refine SG.val rfl rfl rfl rfl (by first|((first|apply qmv|apply qas|apply qlc|apply qla|apply qfa|apply qnc|apply qic|apply qix|apply qpk|apply qls|apply qei|apply qni|apply qed|apply qnd|apply qad|apply qln|apply qle|apply qgt|apply qge|apply qlk|apply qlv|apply qxt|apply qsb|apply qnt|apply qep|apply qnp|apply qeb|apply qnb|apply qx2|apply qx4|apply qcv|apply qlm|apply qfr|apply qto|apply qmx|apply qen|apply qsn|apply qx8|apply qx7|apply qx6|apply qx5|apply qx4|apply qx3|apply qx2|apply qx1|apply qx0)<;>(first|exact rfl|exact Ar.mk (by omega)|assumption|exact dct (by assumption)|exact dcf (by assumption)|exact dct (by omega)|exact dcf (by omega)|exact List.not_mem_nil|exact dc_length _|exact nc_length _|exact rc_length _ _ _|exact nm1 (by omega)|exact nm2 (by omega) (by omega)|exact dct rfl|exact dct (by decide)|exact dcf (by decide)|exact (Int.toNat_of_nonneg (by omega)).symm|exact dcu|exact lk1 (by assumption)|exact lk0 (by assumption)))|fail) ?_)
      refine NG.round (i + 1, vl) (by (repeat' (first | exact True.intro | exact rfl | refine And.intro ?_ ?_))) ⟨by show i + 1 ≤ r.cuts.length; omega, hk5, hB1, hB2, ?_⟩ (by show r.cuts.length - (i + 1) < r.cuts.length - i; omega)
      show w5.ownsRow w.heap.size 100 2 vl ((r.cuts.take (i + 1)).filter (fun p => !decide (p = (f, t)))).length (flt prl ((r.cuts.take (i + 1)).filter (fun p => !decide (p = (f, t)))))
      rw [htk]
      exact hol
    · rw [if_neg hp] at htk
      repeat (first|apply CG.seq|apply CG.region|apply SG.nil|apply NG.next|apply CG.skip|apply CG.block|apply CG.ret|apply CG.exit|apply CG.scope|apply NG.ret_then|apply NG.ret_block|apply NG.ret_scope|apply NG.exit_then|refine NG.exit_block rfl ?_|refine NG.exit_other rfl ?_|apply NG.exit_scope|apply NG.normal_block|apply NG.normal_scope|refine SG.val rfl rfl rfl rfl (by first|((first|apply qmv|apply qas|apply qlc|apply qla|apply qfa|apply qnc|apply qic|apply qix|apply qpk|apply qls|apply qei|apply qni|apply qed|apply qnd|apply qad|apply qln|apply qle|apply qgt|apply qge|apply qlk|apply qlv|apply qxt|apply qsb|apply qnt|apply qep|apply qnp|apply qeb|apply qnb|apply qx2|apply qx4|apply qcv|apply qlm|apply qfr|apply qto|apply qmx|apply qen|apply qsn|apply qx8|apply qx7|apply qx6|apply qx5|apply qx4|apply qx3|apply qx2|apply qx1|apply qx0)<;>(first|exact rfl|exact Ar.mk (by omega)|assumption|exact dct (by assumption)|exact dcf (by assumption)|exact dct (by omega)|exact dcf (by omega)|exact List.not_mem_nil|exact dc_length _|exact nc_length _|exact rc_length _ _ _|exact nm1 (by omega)|exact nm2 (by omega) (by omega)|exact dct rfl|exact dct (by decide)|exact dcf (by decide)|exact (Int.toNat_of_nonneg (by omega)).symm|exact dcu|exact lk1 (by assumption)|exact lk0 (by assumption)))|fail) ?_)
      refine CG.cond_t rfl (by exact rho_of rfl) rfl ?_
      repeat (first|apply CG.seq|apply CG.region|apply SG.nil|apply NG.next|apply CG.skip|apply CG.block|apply CG.ret|apply CG.exit|apply CG.scope|apply NG.ret_then|apply NG.ret_block|apply NG.ret_scope|apply NG.exit_then|refine NG.exit_block rfl ?_|refine NG.exit_other rfl ?_|apply NG.exit_scope|apply NG.normal_block|apply NG.normal_scope|refine SG.val rfl rfl rfl rfl (by first|((first|apply qmv|apply qas|apply qlc|apply qla|apply qfa|apply qnc|apply qic|apply qix|apply qpk|apply qls|apply qei|apply qni|apply qed|apply qnd|apply qad|apply qln|apply qle|apply qgt|apply qge|apply qlk|apply qlv|apply qxt|apply qsb|apply qnt|apply qep|apply qnp|apply qeb|apply qnb|apply qx2|apply qx4|apply qcv|apply qlm|apply qfr|apply qto|apply qmx|apply qen|apply qsn|apply qx8|apply qx7|apply qx6|apply qx5|apply qx4|apply qx3|apply qx2|apply qx1|apply qx0)<;>(first|exact rfl|exact Ar.mk (by omega)|assumption|exact dct (by assumption)|exact dcf (by assumption)|exact dct (by omega)|exact dcf (by omega)|exact List.not_mem_nil|exact dc_length _|exact nc_length _|exact rc_length _ _ _|exact nm1 (by omega)|exact nm2 (by omega) (by omega)|exact dct rfl|exact dct (by decide)|exact dcf (by decide)|exact (Int.toNat_of_nonneg (by omega)).symm|exact dcu|exact lk1 (by assumption)|exact lk0 (by assumption)))|fail) ?_)
      refine SG.val rfl rfl rfl rfl (vals_build rfl (fun w => build100 w f t)) ?_
      refine SG.val rfl rfl rfl rfl (qx8 (p := p) (q := (f, t)) rfl rfl ⟨⟨⟨by omega, by omega⟩, by show f < _; omega, by show t < _; omega⟩⟩ (dcf hp)) ?_
      repeat (first|apply CG.seq|apply CG.region|apply SG.nil|apply NG.next|apply CG.skip|apply CG.block|apply CG.ret|apply CG.exit|apply CG.scope|apply NG.ret_then|apply NG.ret_block|apply NG.ret_scope|apply NG.exit_then|refine NG.exit_block rfl ?_|refine NG.exit_other rfl ?_|apply NG.exit_scope|apply NG.normal_block|apply NG.normal_scope|refine SG.val rfl rfl rfl rfl (by first|((first|apply qmv|apply qas|apply qlc|apply qla|apply qfa|apply qnc|apply qic|apply qix|apply qpk|apply qls|apply qei|apply qni|apply qed|apply qnd|apply qad|apply qln|apply qle|apply qgt|apply qge|apply qlk|apply qlv|apply qxt|apply qsb|apply qnt|apply qep|apply qnp|apply qeb|apply qnb|apply qx2|apply qx4|apply qcv|apply qlm|apply qfr|apply qto|apply qmx|apply qen|apply qsn|apply qx8|apply qx7|apply qx6|apply qx5|apply qx4|apply qx3|apply qx2|apply qx1|apply qx0)<;>(first|exact rfl|exact Ar.mk (by omega)|assumption|exact dct (by assumption)|exact dcf (by assumption)|exact dct (by omega)|exact dcf (by omega)|exact List.not_mem_nil|exact dc_length _|exact nc_length _|exact rc_length _ _ _|exact nm1 (by omega)|exact nm2 (by omega) (by omega)|exact dct rfl|exact dct (by decide)|exact dcf (by decide)|exact (Int.toNat_of_nonneg (by omega)).symm|exact dcu|exact lk1 (by assumption)|exact lk0 (by assumption)))|fail) ?_)
      refine CG.cond_t rfl (by exact rho_of rfl) rfl ?_
      repeat (first|apply CG.seq|apply CG.region|apply SG.nil|apply NG.next|apply CG.skip|apply CG.block|apply CG.ret|apply CG.exit|apply CG.scope|apply NG.ret_then|apply NG.ret_block|apply NG.ret_scope|apply NG.exit_then|refine NG.exit_block rfl ?_|refine NG.exit_other rfl ?_|apply NG.exit_scope|apply NG.normal_block|apply NG.normal_scope|refine SG.val rfl rfl rfl rfl (by first|((first|apply qmv|apply qas|apply qlc|apply qla|apply qfa|apply qnc|apply qic|apply qix|apply qpk|apply qls|apply qei|apply qni|apply qed|apply qnd|apply qad|apply qln|apply qle|apply qgt|apply qge|apply qlk|apply qlv|apply qxt|apply qsb|apply qnt|apply qep|apply qnp|apply qeb|apply qnb|apply qx2|apply qx4|apply qcv|apply qlm|apply qfr|apply qto|apply qmx|apply qen|apply qsn|apply qx8|apply qx7|apply qx6|apply qx5|apply qx4|apply qx3|apply qx2|apply qx1|apply qx0)<;>(first|exact rfl|exact Ar.mk (by omega)|assumption|exact dct (by assumption)|exact dcf (by assumption)|exact dct (by omega)|exact dcf (by omega)|exact List.not_mem_nil|exact dc_length _|exact nc_length _|exact rc_length _ _ _|exact nm1 (by omega)|exact nm2 (by omega) (by omega)|exact dct rfl|exact dct (by decide)|exact dcf (by decide)|exact (Int.toNat_of_nonneg (by omega)).symm|exact dcu|exact lk1 (by assumption)|exact lk0 (by assumption)))|fail) ?_)
      refine SG.buildSlice rfl rfl rfl rfl (fun w => bs45 w p) (fun b8 w6 hk6 hb8 hB8 => ?_)
      refine SG.append rfl rfl rfl (by exact rho_of rfl) (by exact rho_of rfl) rfl rfl rfl (own_kp0 hol hk6) (Row.all hB8 rfl) rfl (prl_one p) (by simp only [maxLen]; omega) (by show (((r.cuts.take i).filter (fun p => !decide (p = (f, t)))).length + 1) * 16 ≤ _; omega) (by have := hk6.size; omega) (fun vl' w7 hk7 hol7 => ?_)
      repeat (first|apply CG.seq|apply CG.region|apply SG.nil|apply NG.next|apply CG.skip|apply CG.block|apply CG.ret|apply CG.exit|apply CG.scope|apply NG.ret_then|apply NG.ret_block|apply NG.ret_scope|apply NG.exit_then|refine NG.exit_block rfl ?_|refine NG.exit_other rfl ?_|apply NG.exit_scope|apply NG.normal_block|apply NG.normal_scope|refine SG.val rfl rfl rfl rfl (by first|((first|apply qmv|apply qas|apply qlc|apply qla|apply qfa|apply qnc|apply qic|apply qix|apply qpk|apply qls|apply qei|apply qni|apply qed|apply qnd|apply qad|apply qln|apply qle|apply qgt|apply qge|apply qlk|apply qlv|apply qxt|apply qsb|apply qnt|apply qep|apply qnp|apply qeb|apply qnb|apply qx2|apply qx4|apply qcv|apply qlm|apply qfr|apply qto|apply qmx|apply qen|apply qsn|apply qx8|apply qx7|apply qx6|apply qx5|apply qx4|apply qx3|apply qx2|apply qx1|apply qx0)<;>(first|exact rfl|exact Ar.mk (by omega)|assumption|exact dct (by assumption)|exact dcf (by assumption)|exact dct (by omega)|exact dcf (by omega)|exact List.not_mem_nil|exact dc_length _|exact nc_length _|exact rc_length _ _ _|exact nm1 (by omega)|exact nm2 (by omega) (by omega)|exact dct rfl|exact dct (by decide)|exact dcf (by decide)|exact (Int.toNat_of_nonneg (by omega)).symm|exact dcu|exact lk1 (by assumption)|exact lk0 (by assumption)))|fail) ?_)
      refine NG.round (i + 1, vl') (by (repeat' (first | exact True.intro | exact rfl | refine And.intro ?_ ?_))) ⟨by show i + 1 ≤ r.cuts.length; omega, (hk5.trans hk6).trans_new hk7 (own_new (own_kp0 hol hk6) (Nat.le_refl _)), blk_own (own_kp0 hol hk6) (by decide) (hB1.kp0 hk6) hk7, blk_own (own_kp0 hol hk6) (by decide) (hB2.kp0 hk6) hk7, ?_⟩ (by show r.cuts.length - (i + 1) < r.cuts.length - i; omega)
      show w7.ownsRow w.heap.size 100 2 vl' ((r.cuts.take (i + 1)).filter (fun p => !decide (p = (f, t)))).length (flt prl ((r.cuts.take (i + 1)).filter (fun p => !decide (p = (f, t)))))
      rw [htk, flt_append, flt_one, List.length_append]
      exact hol7
  have g1 : ¬ (i : Int) < (r.cuts.length : Int) := by omega
  rw [List.take_of_length_le (by omega)] at hol hfl
  repeat (first|apply CG.seq|apply CG.region|apply SG.nil|apply NG.next|apply CG.skip|apply CG.block|apply CG.ret|apply CG.exit|apply CG.scope|apply NG.ret_then|apply NG.ret_block|apply NG.ret_scope|apply NG.exit_then|refine NG.exit_block rfl ?_|refine NG.exit_other rfl ?_|apply NG.exit_scope|apply NG.normal_block|apply NG.normal_scope|refine SG.val rfl rfl rfl rfl (by first|((first|apply qmv|apply qas|apply qlc|apply qla|apply qfa|apply qnc|apply qic|apply qix|apply qpk|apply qls|apply qei|apply qni|apply qed|apply qnd|apply qad|apply qln|apply qle|apply qgt|apply qge|apply qlk|apply qlv|apply qxt|apply qsb|apply qnt|apply qep|apply qnp|apply qeb|apply qnb|apply qx2|apply qx4|apply qcv|apply qlm|apply qfr|apply qto|apply qmx|apply qen|apply qsn|apply qx8|apply qx7|apply qx6|apply qx5|apply qx4|apply qx3|apply qx2|apply qx1|apply qx0)<;>(first|exact rfl|exact Ar.mk (by omega)|assumption|exact dct (by assumption)|exact dcf (by assumption)|exact dct (by omega)|exact dcf (by omega)|exact List.not_mem_nil|exact dc_length _|exact nc_length _|exact rc_length _ _ _|exact nm1 (by omega)|exact nm2 (by omega) (by omega)|exact dct rfl|exact dct (by decide)|exact dcf (by decide)|exact (Int.toNat_of_nonneg (by omega)).symm|exact dcu|exact lk1 (by assumption)|exact lk0 (by assumption)))|fail) ?_)
  refine CG.cond_f rfl (by exact rho_of rfl) rfl ?_
  repeat (first|apply CG.seq|apply CG.region|apply SG.nil|apply NG.next|apply CG.skip|apply CG.block|apply CG.ret|apply CG.exit|apply CG.scope|apply NG.ret_then|apply NG.ret_block|apply NG.ret_scope|apply NG.exit_then|refine NG.exit_block rfl ?_|refine NG.exit_other rfl ?_|apply NG.exit_scope|apply NG.normal_block|apply NG.normal_scope|refine SG.val rfl rfl rfl rfl (by first|((first|apply qmv|apply qas|apply qlc|apply qla|apply qfa|apply qnc|apply qic|apply qix|apply qpk|apply qls|apply qei|apply qni|apply qed|apply qnd|apply qad|apply qln|apply qle|apply qgt|apply qge|apply qlk|apply qlv|apply qxt|apply qsb|apply qnt|apply qep|apply qnp|apply qeb|apply qnb|apply qx2|apply qx4|apply qcv|apply qlm|apply qfr|apply qto|apply qmx|apply qen|apply qsn|apply qx8|apply qx7|apply qx6|apply qx5|apply qx4|apply qx3|apply qx2|apply qx1|apply qx0)<;>(first|exact rfl|exact Ar.mk (by omega)|assumption|exact dct (by assumption)|exact dcf (by assumption)|exact dct (by omega)|exact dcf (by omega)|exact List.not_mem_nil|exact dc_length _|exact nc_length _|exact rc_length _ _ _|exact nm1 (by omega)|exact nm2 (by omega) (by omega)|exact dct rfl|exact dct (by decide)|exact dcf (by decide)|exact (Int.toNat_of_nonneg (by omega)).symm|exact dcu|exact lk1 (by assumption)|exact lk0 (by assumption)))|fail) ?_)
  refine CG.cut_then (fun L w' => ∃ vl', SubE [(4, .pointer (some ⟨b1, 0, none⟩)), (8, .pointer (some ⟨b2, 0, none⟩)), (9, .int .i64 0), (10, vl')] L ∧ Kp [] w w' ∧ Blk w' b1 (.cells (rcl r (.slice a r.way.length c) (.slice a' r.cuts.length c')).toArray 47) ∧ Blk w' b2 (.cells (rcl (Rn.new 0) nilS nilS).toArray 47)
      ∧ w'.ownsRow w.heap.size 100 2 vl' (r.cut f t b).cuts.length (flt prl (r.cut f t b).cuts)) ?_ ?_
  · cases b with
    | true =>
      have ec : (r.cut f t true).cuts = r.cuts.filter (fun p => !decide (p = (f, t))) ++ [(f, t)] := rfl
      refine CG.cond_t rfl (by exact rho_of rfl) rfl ?_
      repeat (first|apply CG.seq|apply CG.region|apply SG.nil|apply NG.next|apply CG.skip|apply CG.block|apply CG.ret|apply CG.exit|apply CG.scope|apply NG.ret_then|apply NG.ret_block|apply NG.ret_scope|apply NG.exit_then|refine NG.exit_block rfl ?_|refine NG.exit_other rfl ?_|apply NG.exit_scope|apply NG.normal_block|apply NG.normal_scope|refine SG.val rfl rfl rfl rfl (by first|((first|apply qmv|apply qas|apply qlc|apply qla|apply qfa|apply qnc|apply qic|apply qix|apply qpk|apply qls|apply qei|apply qni|apply qed|apply qnd|apply qad|apply qln|apply qle|apply qgt|apply qge|apply qlk|apply qlv|apply qxt|apply qsb|apply qnt|apply qep|apply qnp|apply qeb|apply qnb|apply qx2|apply qx4|apply qcv|apply qlm|apply qfr|apply qto|apply qmx|apply qen|apply qsn|apply qx8|apply qx7|apply qx6|apply qx5|apply qx4|apply qx3|apply qx2|apply qx1|apply qx0)<;>(first|exact rfl|exact Ar.mk (by omega)|assumption|exact dct (by assumption)|exact dcf (by assumption)|exact dct (by omega)|exact dcf (by omega)|exact List.not_mem_nil|exact dc_length _|exact nc_length _|exact rc_length _ _ _|exact nm1 (by omega)|exact nm2 (by omega) (by omega)|exact dct rfl|exact dct (by decide)|exact dcf (by decide)|exact (Int.toNat_of_nonneg (by omega)).symm|exact dcu|exact lk1 (by assumption)|exact lk0 (by assumption)))|fail) ?_)
      refine SG.val rfl rfl rfl rfl (vals_build rfl (fun w => build100 w f t)) ?_
      refine SG.buildSlice rfl rfl rfl rfl (fun w => bs45 w (f, t)) (fun b8 w6 hk6 hb8 hB8 => ?_)
      refine SG.append rfl rfl rfl (by exact rho_of rfl) (by exact rho_of rfl) rfl rfl rfl (own_kp0 hol hk6) (Row.all hB8 rfl) rfl (prl_one (f, t)) (by simp only [maxLen]; omega) (by show ((r.cuts.filter (fun p => !decide (p = (f, t)))).length + 1) * 16 ≤ _; omega) (by have := hk6.size; omega) (fun vl' w7 hk7 hol7 => ?_)
      repeat (first|apply CG.seq|apply CG.region|apply SG.nil|apply NG.next|apply CG.skip|apply CG.block|apply CG.ret|apply CG.exit|apply CG.scope|apply NG.ret_then|apply NG.ret_block|apply NG.ret_scope|apply NG.exit_then|refine NG.exit_block rfl ?_|refine NG.exit_other rfl ?_|apply NG.exit_scope|apply NG.normal_block|apply NG.normal_scope|refine SG.val rfl rfl rfl rfl (by first|((first|apply qmv|apply qas|apply qlc|apply qla|apply qfa|apply qnc|apply qic|apply qix|apply qpk|apply qls|apply qei|apply qni|apply qed|apply qnd|apply qad|apply qln|apply qle|apply qgt|apply qge|apply qlk|apply qlv|apply qxt|apply qsb|apply qnt|apply qep|apply qnp|apply qeb|apply qnb|apply qx2|apply qx4|apply qcv|apply qlm|apply qfr|apply qto|apply qmx|apply qen|apply qsn|apply qx8|apply qx7|apply qx6|apply qx5|apply qx4|apply qx3|apply qx2|apply qx1|apply qx0)<;>(first|exact rfl|exact Ar.mk (by omega)|assumption|exact dct (by assumption)|exact dcf (by assumption)|exact dct (by omega)|exact dcf (by omega)|exact List.not_mem_nil|exact dc_length _|exact nc_length _|exact rc_length _ _ _|exact nm1 (by omega)|exact nm2 (by omega) (by omega)|exact dct rfl|exact dct (by decide)|exact dcf (by decide)|exact (Int.toNat_of_nonneg (by omega)).symm|exact dcu|exact lk1 (by assumption)|exact lk0 (by assumption)))|fail) ?_)
      refine NG.cut ⟨vl', by (repeat' (first | exact True.intro | exact rfl | refine And.intro ?_ ?_)), (hk5.trans hk6).trans_new hk7 (own_new (own_kp0 hol hk6) (Nat.le_refl _)), blk_own (own_kp0 hol hk6) (by decide) (hB1.kp0 hk6) hk7, blk_own (own_kp0 hol hk6) (by decide) (hB2.kp0 hk6) hk7, ?_⟩
      rw [ec, flt_append, flt_one, List.length_append]
      exact hol7
    | false =>
      have ec : (r.cut f t false).cuts = r.cuts.filter (fun p => !decide (p = (f, t))) ++ [] := rfl
      refine CG.cond_f rfl (by exact rho_of rfl) rfl ?_
      repeat (first|apply CG.seq|apply CG.region|apply SG.nil|apply NG.next|apply CG.skip|apply CG.block|apply CG.ret|apply CG.exit|apply CG.scope|apply NG.ret_then|apply NG.ret_block|apply NG.ret_scope|apply NG.exit_then|refine NG.exit_block rfl ?_|refine NG.exit_other rfl ?_|apply NG.exit_scope|apply NG.normal_block|apply NG.normal_scope|refine SG.val rfl rfl rfl rfl (by first|((first|apply qmv|apply qas|apply qlc|apply qla|apply qfa|apply qnc|apply qic|apply qix|apply qpk|apply qls|apply qei|apply qni|apply qed|apply qnd|apply qad|apply qln|apply qle|apply qgt|apply qge|apply qlk|apply qlv|apply qxt|apply qsb|apply qnt|apply qep|apply qnp|apply qeb|apply qnb|apply qx2|apply qx4|apply qcv|apply qlm|apply qfr|apply qto|apply qmx|apply qen|apply qsn|apply qx8|apply qx7|apply qx6|apply qx5|apply qx4|apply qx3|apply qx2|apply qx1|apply qx0)<;>(first|exact rfl|exact Ar.mk (by omega)|assumption|exact dct (by assumption)|exact dcf (by assumption)|exact dct (by omega)|exact dcf (by omega)|exact List.not_mem_nil|exact dc_length _|exact nc_length _|exact rc_length _ _ _|exact nm1 (by omega)|exact nm2 (by omega) (by omega)|exact dct rfl|exact dct (by decide)|exact dcf (by decide)|exact (Int.toNat_of_nonneg (by omega)).symm|exact dcu|exact lk1 (by assumption)|exact lk0 (by assumption)))|fail) ?_)
      refine NG.cut ⟨vl, by (repeat' (first | exact True.intro | exact rfl | refine And.intro ?_ ?_)), hk5, hB1, hB2, ?_⟩
      rw [ec, List.append_nil]
      exact hol
  rintro L w6 ⟨vl', hL, hk6, hB1, hB2, hol'⟩
  refine CG.to _ hL ?_
  obtain ⟨al, cl, rfl⟩ := own_slice hol'
  repeat (first|apply CG.seq|apply CG.region|apply SG.nil|apply NG.next|apply CG.skip|apply CG.block|apply CG.ret|apply CG.exit|apply CG.scope|apply NG.ret_then|apply NG.ret_block|apply NG.ret_scope|apply NG.exit_then|refine NG.exit_block rfl ?_|refine NG.exit_other rfl ?_|apply NG.exit_scope|apply NG.normal_block|apply NG.normal_scope|refine SG.val rfl rfl rfl rfl (by first|((first|apply qmv|apply qas|apply qlc|apply qla|apply qfa|apply qnc|apply qic|apply qix|apply qpk|apply qls|apply qei|apply qni|apply qed|apply qnd|apply qad|apply qln|apply qle|apply qgt|apply qge|apply qlk|apply qlv|apply qxt|apply qsb|apply qnt|apply qep|apply qnp|apply qeb|apply qnb|apply qx2|apply qx4|apply qcv|apply qlm|apply qfr|apply qto|apply qmx|apply qen|apply qsn|apply qx8|apply qx7|apply qx6|apply qx5|apply qx4|apply qx3|apply qx2|apply qx1|apply qx0)<;>(first|exact rfl|exact Ar.mk (by omega)|assumption|exact dct (by assumption)|exact dcf (by assumption)|exact dct (by omega)|exact dcf (by omega)|exact List.not_mem_nil|exact dc_length _|exact nc_length _|exact rc_length _ _ _|exact nm1 (by omega)|exact nm2 (by omega) (by omega)|exact dct rfl|exact dct (by decide)|exact dcf (by decide)|exact (Int.toNat_of_nonneg (by omega)).symm|exact dcu|exact lk1 (by assumption)|exact lk0 (by assumption)))|fail) ?_)
  refine SG.setMid [.int .i64 r.parties, .int .i64 r.now, .slice a r.way.length c] [.slice a' r.cuts.length c'] [] rfl rfl (by exact rho_of rfl) (by exact rho_of rfl) hB1 rfl rfl rfl rfl rfl (fun w7 hk7 hB7 => ?_)
  have hB7 : Blk w7 b1 (.cells (rcl (r.cut f t b) (.slice a r.way.length c) (.slice al (r.cut f t b).cuts.length cl)).toArray 47) := hB7
  have hB27 := hB2.kp hk7 (nm1 (by omega))
  obtain ⟨q0, q1, q2, q3, q4⟩ := rows47 hB7
  repeat (first|apply CG.seq|apply CG.region|apply SG.nil|apply NG.next|apply CG.skip|apply CG.block|apply CG.ret|apply CG.exit|apply CG.scope|apply NG.ret_then|apply NG.ret_block|apply NG.ret_scope|apply NG.exit_then|refine NG.exit_block rfl ?_|refine NG.exit_other rfl ?_|apply NG.exit_scope|apply NG.normal_block|apply NG.normal_scope|refine SG.val rfl rfl rfl rfl (by first|((first|apply qmv|apply qas|apply qlc|apply qla|apply qfa|apply qnc|apply qic|apply qix|apply qpk|apply qls|apply qei|apply qni|apply qed|apply qnd|apply qad|apply qln|apply qle|apply qgt|apply qge|apply qlk|apply qlv|apply qxt|apply qsb|apply qnt|apply qep|apply qnp|apply qeb|apply qnb|apply qx2|apply qx4|apply qcv|apply qlm|apply qfr|apply qto|apply qmx|apply qen|apply qsn|apply qx8|apply qx7|apply qx6|apply qx5|apply qx4|apply qx3|apply qx2|apply qx1|apply qx0)<;>(first|exact rfl|exact Ar.mk (by omega)|assumption|exact dct (by assumption)|exact dcf (by assumption)|exact dct (by omega)|exact dcf (by omega)|exact List.not_mem_nil|exact dc_length _|exact nc_length _|exact rc_length _ _ _|exact nm1 (by omega)|exact nm2 (by omega) (by omega)|exact dct rfl|exact dct (by decide)|exact dcf (by decide)|exact (Int.toNat_of_nonneg (by omega)).symm|exact dcu|exact lk1 (by assumption)|exact lk0 (by assumption)))|fail) ?_)
  refine SG.setAll (old := rcl (Rn.new 0) nilS nilS) (l := rcl (r.cut f t b) (.slice a r.way.length c) (.slice al (r.cut f t b).cuts.length cl)) rfl rfl (by exact rho_of rfl) (by exact rho_of rfl) hB27 rfl rfl rfl (fun w8 hk8 hB8 => ?_)
  obtain ⟨_, _, _, _, hres⟩ := rows47 hB8
  repeat (first|apply CG.seq|apply CG.region|apply SG.nil|apply NG.next|apply CG.skip|apply CG.block|apply CG.ret|apply CG.exit|apply CG.scope|apply NG.ret_then|apply NG.ret_block|apply NG.ret_scope|apply NG.exit_then|refine NG.exit_block rfl ?_|refine NG.exit_other rfl ?_|apply NG.exit_scope|apply NG.normal_block|apply NG.normal_scope|refine SG.val rfl rfl rfl rfl (by first|((first|apply qmv|apply qas|apply qlc|apply qla|apply qfa|apply qnc|apply qic|apply qix|apply qpk|apply qls|apply qei|apply qni|apply qed|apply qnd|apply qad|apply qln|apply qle|apply qgt|apply qge|apply qlk|apply qlv|apply qxt|apply qsb|apply qnt|apply qep|apply qnp|apply qeb|apply qnb|apply qx2|apply qx4|apply qcv|apply qlm|apply qfr|apply qto|apply qmx|apply qen|apply qsn|apply qx8|apply qx7|apply qx6|apply qx5|apply qx4|apply qx3|apply qx2|apply qx1|apply qx0)<;>(first|exact rfl|exact Ar.mk (by omega)|assumption|exact dct (by assumption)|exact dcf (by assumption)|exact dct (by omega)|exact dcf (by omega)|exact List.not_mem_nil|exact dc_length _|exact nc_length _|exact rc_length _ _ _|exact nm1 (by omega)|exact nm2 (by omega) (by omega)|exact dct rfl|exact dct (by decide)|exact dcf (by decide)|exact (Int.toNat_of_nonneg (by omega)).symm|exact dcu|exact lk1 (by assumption)|exact lk0 (by assumption)))|fail) ?_)
  refine ret2 (Or.inl rfl) Try.results38 (ResV.agg rfl rfl hres rfl) (by first | exact ResV.tmp rfl | exact ResV.agg rfl rfl (by assumption) (by first | exact dc_length _ | exact nc_length _ | exact rc_length _ _ _ | rfl) | exact ResV.cell rfl rfl (by assumption)) ?_
  have k8 : Kp [] w w8 := (hk6.trans_new hk7 (new1 hb1)).trans_new hk8 (new1 (by omega))
  refine ⟨_, rfl, ⟨own_kp0 hR.way k8, own_mono (own_kp (own_kp hol' hk7 (fun z hz hm => ?_)) hk8 (fun z hz hm => ?_)) (Nat.zero_le _)⟩, k8⟩
  · rw [List.mem_singleton] at hm
    subst hm
    obtain ⟨cs, hc⟩ := own_blk hol' hz
    exact ne_ty (by decide) hB1 hc rfl
  · rw [List.mem_singleton] at hm
    subst hm
    obtain ⟨cs, hc⟩ := own_blk hol' hz
    exact ne_ty (by decide) hB2 hc rfl
end Go.Proofs.Ytfelaicoedlejaa
/-
  The document's net: a letter goes.
-/
namespace Go.Proofs.Ytfelaicoedlejaa
set_option linter.unusedVariables false

def Rn.toNs (r : Rn) : Ns := ⟨r.parties, r.now, 0, r.way, []⟩
def Rn.sendE (r : Rn) (A B : Int) (n : Nat) (later : List Int) : Int := r.toNs.sendE A B n later
def Rn.send (r : Rn) (f t : Nat) (bs : List UInt8) (later : List Int) : Rn := { r with way := r.way ++ later.map (cpOf r.toNs f t bs) }
theorem build98 (w : World) (f t : Int) (s : ByteArray) (d : Int) : (Instr.build 98 #[(0, Value.int .i64 f), (1, Value.int .i64 t), (2, Value.string s), (3, Value.int .i64 d)]).run Try.prog w = .ok (.agg #[.int .i64 f, .int .i64 t, .string s, .int .i64 d]) w := by kernel_rfl

attribute [local irreducible] CG NG SG Vals Der Row Blk MapIs IterAt DerX sv
theorem build98' (w : World) (c : Cp) : (Instr.build 98 #[(0, Value.int .i64 (c.fr : Int)), (1, Value.int .i64 (c.to : Int)), (2, sv c.bs), (3, Value.int .i64 (c.due : Int))]).run Try.prog w = .ok (.agg (cpl c).toArray) w := by
  have := build98 w c.fr c.to ⟨c.bs.toArray⟩ c.due
  unfold cpl sv
  exact this
set_option maxHeartbeats 16000000 in
theorem rsend_bad {w : World} {r : Rn} {v u : Value} (hR : RnAt w r v u) (ok : RnOk r) (A B : Int) (bs : List UInt8) (al : Option Addr) (cl : Nat) (later : List Int) (hS : SlI w al later) (hl : later.length ≤ 100000) (hE : r.sendE A B bs.length later ≠ 0) :
    Ret Try.prog 35 #[.agg (rcl r v u).toArray, .int .i64 A, .int .i64 B, sv bs, .slice al later.length cl] w (.tuple #[.agg (rcl r v u).toArray, .int .i64 (r.sendE A B bs.length later)]) := by
  refine enter5 Try.func35 rfl Try.ntmps35 rfl ?_
  have hone := hR.one
  have hlen := ok.len
  obtain ⟨a, c, rfl⟩ := own_slice hR.way
  repeat (first|apply CG.seq|apply CG.region|apply SG.nil|apply NG.next|apply CG.skip|apply CG.block|apply CG.ret|apply CG.exit|apply CG.scope|apply NG.ret_then|apply NG.ret_block|apply NG.ret_scope|apply NG.exit_then|refine NG.exit_block rfl ?_|refine NG.exit_other rfl ?_|apply NG.exit_scope|apply NG.normal_block|apply NG.normal_scope|refine SG.val rfl rfl rfl rfl (by first|((first|apply qmv|apply qas|apply qlc|apply qla|apply qfa|apply qnc|apply qic|apply qix|apply qpk|apply qls|apply qei|apply qni|apply qed|apply qnd|apply qad|apply qln|apply qle|apply qgt|apply qge|apply qlk|apply qlv|apply qxt|apply qsb|apply qnt|apply qep|apply qnp|apply qeb|apply qnb|apply qx2|apply qx4|apply qcv|apply qlm|apply qfr|apply qto|apply qmx|apply qen|apply qsn|apply qx8|apply qx7|apply qx6|apply qx5|apply qx4|apply qx3|apply qx2|apply qx1|apply qx0)<;>(first|exact rfl|exact Ar.mk (by omega)|assumption|exact dct (by assumption)|exact dcf (by assumption)|exact dct (by omega)|exact dcf (by omega)|exact List.not_mem_nil|exact dc_length _|exact nc_length _|exact rc_length _ _ _|exact nm1 (by omega)|exact nm2 (by omega) (by omega)|exact dct rfl|exact dct (by decide)|exact dcf (by decide)|exact (Int.toNat_of_nonneg (by omega)).symm|exact dcu|exact lk1 (by assumption)|exact lk0 (by assumption)))|fail) ?_)
  refine SG.box rfl rfl rfl (by exact rho_of rfl) (fun b1 w1 hk1 hb1 hB1 => ?_)
  have hB1 : Blk w1 b1 (.cells (rcl r (.slice a r.way.length c) u).toArray 47) := hB1
  refine SG.alloc rfl rfl rfl (fun b2 w2 hk2 hb2 hB2 => ?_)
  have hB2 : Blk w2 b2 (.cells (rcl (Rn.new 0) nilS nilS).toArray 47) := hB2
  have hB1 := hB1.kp0 hk2
  obtain ⟨q0, q1, q2, q3, q4⟩ := rows47 hB1
  have e12 := hk1.size
  have e23 := hk2.size
  have k02 := hk1.trans hk2
  repeat (first|apply CG.seq|apply CG.region|apply SG.nil|apply NG.next|apply CG.skip|apply CG.block|apply CG.ret|apply CG.exit|apply CG.scope|apply NG.ret_then|apply NG.ret_block|apply NG.ret_scope|apply NG.exit_then|refine NG.exit_block rfl ?_|refine NG.exit_other rfl ?_|apply NG.exit_scope|apply NG.normal_block|apply NG.normal_scope|refine SG.val rfl rfl rfl rfl (by first|((first|apply qmv|apply qas|apply qlc|apply qla|apply qfa|apply qnc|apply qic|apply qix|apply qpk|apply qls|apply qei|apply qni|apply qed|apply qnd|apply qad|apply qln|apply qle|apply qgt|apply qge|apply qlk|apply qlv|apply qxt|apply qsb|apply qnt|apply qep|apply qnp|apply qeb|apply qnb|apply qx2|apply qx4|apply qcv|apply qlm|apply qfr|apply qto|apply qmx|apply qen|apply qsn|apply qx8|apply qx7|apply qx6|apply qx5|apply qx4|apply qx3|apply qx2|apply qx1|apply qx0)<;>(first|exact rfl|exact Ar.mk (by omega)|assumption|exact dct (by assumption)|exact dcf (by assumption)|exact dct (by omega)|exact dcf (by omega)|exact List.not_mem_nil|exact dc_length _|exact nc_length _|exact rc_length _ _ _|exact nm1 (by omega)|exact nm2 (by omega) (by omega)|exact dct rfl|exact dct (by decide)|exact dcf (by decide)|exact (Int.toNat_of_nonneg (by omega)).symm|exact dcu|exact lk1 (by assumption)|exact lk0 (by assumption)))|fail) ?_)
  refine SG.ret rfl rfl rfl (by repeat' (first | exact True.intro | exact rho_of rfl | refine And.intro ?_ ?_)) (rparty w2 r _ u A) (fun w3 hk3 => ?_)
  have q43 := q4.kp0 hk3
  have hB23 := hB2.kp0 hk3
  by_cases h1 : 0 ≤ A ∧ A < r.parties
  · rw [decide_eq_true h1]
    repeat (first | first|apply CG.seq|apply CG.region|apply SG.nil|apply NG.next|apply CG.skip|apply CG.block|apply CG.ret|apply CG.exit|apply CG.scope|apply NG.ret_then|apply NG.ret_block|apply NG.ret_scope|apply NG.exit_then|refine NG.exit_block rfl ?_|refine NG.exit_other rfl ?_|apply NG.exit_scope|apply NG.normal_block|apply NG.normal_scope|refine SG.val rfl rfl rfl rfl (by first|((first|apply qmv|apply qas|apply qlc|apply qla|apply qfa|apply qnc|apply qic|apply qix|apply qpk|apply qls|apply qei|apply qni|apply qed|apply qnd|apply qad|apply qln|apply qle|apply qgt|apply qge|apply qlk|apply qlv|apply qxt|apply qsb|apply qnt|apply qep|apply qnp|apply qeb|apply qnb|apply qx2|apply qx4|apply qcv|apply qlm|apply qfr|apply qto|apply qmx|apply qen|apply qsn|apply qx8|apply qx7|apply qx6|apply qx5|apply qx4|apply qx3|apply qx2|apply qx1|apply qx0)<;>(first|exact rfl|exact Ar.mk (by omega)|assumption|exact dct (by assumption)|exact dcf (by assumption)|exact dct (by omega)|exact dcf (by omega)|exact List.not_mem_nil|exact dc_length _|exact nc_length _|exact rc_length _ _ _|exact nm1 (by omega)|exact nm2 (by omega) (by omega)|exact dct rfl|exact dct (by decide)|exact dcf (by decide)|exact (Int.toNat_of_nonneg (by omega)).symm|exact dcu|exact lk1 (by assumption)|exact lk0 (by assumption)))|fail) ?_ | refine SG.skip rfl rfl ?_)
    refine SG.ret rfl rfl rfl (by repeat' (first | exact True.intro | exact rho_of rfl | refine And.intro ?_ ?_)) (rparty w3 r _ u B) (fun w4 hk4 => ?_)
    have q44 := q43.kp0 hk4
    have q24 := (q2.kp0 hk3).kp0 hk4
    have hB24 := hB23.kp0 hk4
    have k04 := (k02.trans hk3).trans hk4
    have hS4 := hS.kp0 k04
    by_cases h2 : 0 ≤ B ∧ B < r.parties
    · rw [decide_eq_true h2]
      repeat (first | first|apply CG.seq|apply CG.region|apply SG.nil|apply NG.next|apply CG.skip|apply CG.block|apply CG.ret|apply CG.exit|apply CG.scope|apply NG.ret_then|apply NG.ret_block|apply NG.ret_scope|apply NG.exit_then|refine NG.exit_block rfl ?_|refine NG.exit_other rfl ?_|apply NG.exit_scope|apply NG.normal_block|apply NG.normal_scope|refine SG.val rfl rfl rfl rfl (by first|((first|apply qmv|apply qas|apply qlc|apply qla|apply qfa|apply qnc|apply qic|apply qix|apply qpk|apply qls|apply qei|apply qni|apply qed|apply qnd|apply qad|apply qln|apply qle|apply qgt|apply qge|apply qlk|apply qlv|apply qxt|apply qsb|apply qnt|apply qep|apply qnp|apply qeb|apply qnb|apply qx2|apply qx4|apply qcv|apply qlm|apply qfr|apply qto|apply qmx|apply qen|apply qsn|apply qx8|apply qx7|apply qx6|apply qx5|apply qx4|apply qx3|apply qx2|apply qx1|apply qx0)<;>(first|exact rfl|exact Ar.mk (by omega)|assumption|exact dct (by assumption)|exact dcf (by assumption)|exact dct (by omega)|exact dcf (by omega)|exact List.not_mem_nil|exact dc_length _|exact nc_length _|exact rc_length _ _ _|exact nm1 (by omega)|exact nm2 (by omega) (by omega)|exact dct rfl|exact dct (by decide)|exact dcf (by decide)|exact (Int.toNat_of_nonneg (by omega)).symm|exact dcu|exact lk1 (by assumption)|exact lk0 (by assumption)))|fail) ?_ | refine SG.skip rfl rfl ?_)
      refine CG.cond_f rfl (by exact rho_of rfl) rfl ?_
      have hn : ¬ (¬ (0 ≤ A ∧ A < (r.toNs.parties : Int)) ∨ ¬ (0 ≤ B ∧ B < (r.toNs.parties : Int))) := by
        show ¬ (¬ (0 ≤ A ∧ A < (r.parties : Int)) ∨ ¬ (0 ≤ B ∧ B < (r.parties : Int)))
        omega
      by_cases h3 : 65536 < bs.length
      · have g3 : (65536 : Int) < (bs.length : Int) := by omega
        have eE : r.sendE A B bs.length later = 5 := by unfold Rn.sendE Ns.sendE; rw [if_neg hn, if_pos h3]
        rw [eE]
        repeat (first|apply CG.seq|apply CG.region|apply SG.nil|apply NG.next|apply CG.skip|apply CG.block|apply CG.ret|apply CG.exit|apply CG.scope|apply NG.ret_then|apply NG.ret_block|apply NG.ret_scope|apply NG.exit_then|refine NG.exit_block rfl ?_|refine NG.exit_other rfl ?_|apply NG.exit_scope|apply NG.normal_block|apply NG.normal_scope|refine SG.val rfl rfl rfl rfl (by first|((first|apply qmv|apply qas|apply qlc|apply qla|apply qfa|apply qnc|apply qic|apply qix|apply qpk|apply qls|apply qei|apply qni|apply qed|apply qnd|apply qad|apply qln|apply qle|apply qgt|apply qge|apply qlk|apply qlv|apply qxt|apply qsb|apply qnt|apply qep|apply qnp|apply qeb|apply qnb|apply qx2|apply qx4|apply qcv|apply qlm|apply qfr|apply qto|apply qmx|apply qen|apply qsn|apply qx8|apply qx7|apply qx6|apply qx5|apply qx4|apply qx3|apply qx2|apply qx1|apply qx0)<;>(first|exact rfl|exact Ar.mk (by omega)|assumption|exact dct (by assumption)|exact dcf (by assumption)|exact dct (by omega)|exact dcf (by omega)|exact List.not_mem_nil|exact dc_length _|exact nc_length _|exact rc_length _ _ _|exact nm1 (by omega)|exact nm2 (by omega) (by omega)|exact dct rfl|exact dct (by decide)|exact dcf (by decide)|exact (Int.toNat_of_nonneg (by omega)).symm|exact dcu|exact lk1 (by assumption)|exact lk0 (by assumption)))|fail) ?_)
        refine CG.cond_t rfl (by exact rho_of rfl) rfl ?_
        repeat (first|apply CG.seq|apply CG.region|apply SG.nil|apply NG.next|apply CG.skip|apply CG.block|apply CG.ret|apply CG.exit|apply CG.scope|apply NG.ret_then|apply NG.ret_block|apply NG.ret_scope|apply NG.exit_then|refine NG.exit_block rfl ?_|refine NG.exit_other rfl ?_|apply NG.exit_scope|apply NG.normal_block|apply NG.normal_scope|refine SG.val rfl rfl rfl rfl (by first|((first|apply qmv|apply qas|apply qlc|apply qla|apply qfa|apply qnc|apply qic|apply qix|apply qpk|apply qls|apply qei|apply qni|apply qed|apply qnd|apply qad|apply qln|apply qle|apply qgt|apply qge|apply qlk|apply qlv|apply qxt|apply qsb|apply qnt|apply qep|apply qnp|apply qeb|apply qnb|apply qx2|apply qx4|apply qcv|apply qlm|apply qfr|apply qto|apply qmx|apply qen|apply qsn|apply qx8|apply qx7|apply qx6|apply qx5|apply qx4|apply qx3|apply qx2|apply qx1|apply qx0)<;>(first|exact rfl|exact Ar.mk (by omega)|assumption|exact dct (by assumption)|exact dcf (by assumption)|exact dct (by omega)|exact dcf (by omega)|exact List.not_mem_nil|exact dc_length _|exact nc_length _|exact rc_length _ _ _|exact nm1 (by omega)|exact nm2 (by omega) (by omega)|exact dct rfl|exact dct (by decide)|exact dcf (by decide)|exact (Int.toNat_of_nonneg (by omega)).symm|exact dcu|exact lk1 (by assumption)|exact lk0 (by assumption)))|fail) ?_)
        refine SG.setAll (old := rcl (Rn.new 0) nilS nilS) (l := rcl r (.slice a r.way.length c) u) rfl rfl (by exact rho_of rfl) (by exact rho_of rfl) hB24 rfl rfl hone (fun w5 hk5 hB5 => ?_)
        obtain ⟨_, _, _, _, hres⟩ := rows47 hB5
        repeat (first|apply CG.seq|apply CG.region|apply SG.nil|apply NG.next|apply CG.skip|apply CG.block|apply CG.ret|apply CG.exit|apply CG.scope|apply NG.ret_then|apply NG.ret_block|apply NG.ret_scope|apply NG.exit_then|refine NG.exit_block rfl ?_|refine NG.exit_other rfl ?_|apply NG.exit_scope|apply NG.normal_block|apply NG.normal_scope|refine SG.val rfl rfl rfl rfl (by first|((first|apply qmv|apply qas|apply qlc|apply qla|apply qfa|apply qnc|apply qic|apply qix|apply qpk|apply qls|apply qei|apply qni|apply qed|apply qnd|apply qad|apply qln|apply qle|apply qgt|apply qge|apply qlk|apply qlv|apply qxt|apply qsb|apply qnt|apply qep|apply qnp|apply qeb|apply qnb|apply qx2|apply qx4|apply qcv|apply qlm|apply qfr|apply qto|apply qmx|apply qen|apply qsn|apply qx8|apply qx7|apply qx6|apply qx5|apply qx4|apply qx3|apply qx2|apply qx1|apply qx0)<;>(first|exact rfl|exact Ar.mk (by omega)|assumption|exact dct (by assumption)|exact dcf (by assumption)|exact dct (by omega)|exact dcf (by omega)|exact List.not_mem_nil|exact dc_length _|exact nc_length _|exact rc_length _ _ _|exact nm1 (by omega)|exact nm2 (by omega) (by omega)|exact dct rfl|exact dct (by decide)|exact dcf (by decide)|exact (Int.toNat_of_nonneg (by omega)).symm|exact dcu|exact lk1 (by assumption)|exact lk0 (by assumption)))|fail) ?_)
        refine ret2 (Or.inl rfl) Try.results35 (ResV.agg rfl rfl hres rfl) (by first | exact ResV.tmp rfl | exact ResV.agg rfl rfl (by assumption) (by first | exact dc_length _ | exact nc_length _ | exact rc_length _ _ _ | rfl) | exact ResV.cell rfl rfl (by assumption)) ?_
        exact ⟨rfl, k04.trans_new hk5 (new1 (by omega))⟩
      have g3 : ¬ (65536 : Int) < (bs.length : Int) := by omega
      repeat (first|apply CG.seq|apply CG.region|apply SG.nil|apply NG.next|apply CG.skip|apply CG.block|apply CG.ret|apply CG.exit|apply CG.scope|apply NG.ret_then|apply NG.ret_block|apply NG.ret_scope|apply NG.exit_then|refine NG.exit_block rfl ?_|refine NG.exit_other rfl ?_|apply NG.exit_scope|apply NG.normal_block|apply NG.normal_scope|refine SG.val rfl rfl rfl rfl (by first|((first|apply qmv|apply qas|apply qlc|apply qla|apply qfa|apply qnc|apply qic|apply qix|apply qpk|apply qls|apply qei|apply qni|apply qed|apply qnd|apply qad|apply qln|apply qle|apply qgt|apply qge|apply qlk|apply qlv|apply qxt|apply qsb|apply qnt|apply qep|apply qnp|apply qeb|apply qnb|apply qx2|apply qx4|apply qcv|apply qlm|apply qfr|apply qto|apply qmx|apply qen|apply qsn|apply qx8|apply qx7|apply qx6|apply qx5|apply qx4|apply qx3|apply qx2|apply qx1|apply qx0)<;>(first|exact rfl|exact Ar.mk (by omega)|assumption|exact dct (by assumption)|exact dcf (by assumption)|exact dct (by omega)|exact dcf (by omega)|exact List.not_mem_nil|exact dc_length _|exact nc_length _|exact rc_length _ _ _|exact nm1 (by omega)|exact nm2 (by omega) (by omega)|exact dct rfl|exact dct (by decide)|exact dcf (by decide)|exact (Int.toNat_of_nonneg (by omega)).symm|exact dcu|exact lk1 (by assumption)|exact lk0 (by assumption)))|fail) ?_)
      refine CG.cond_f rfl (by exact rho_of rfl) rfl ?_
      by_cases h4 : 8 < later.length
      · have g4 : (8 : Int) < (later.length : Int) := by omega
        have eE : r.sendE A B bs.length later = 2 := by unfold Rn.sendE Ns.sendE; rw [if_neg hn, if_neg h3, if_pos (Or.inl h4)]
        rw [eE]
        repeat (first|apply CG.seq|apply CG.region|apply SG.nil|apply NG.next|apply CG.skip|apply CG.block|apply CG.ret|apply CG.exit|apply CG.scope|apply NG.ret_then|apply NG.ret_block|apply NG.ret_scope|apply NG.exit_then|refine NG.exit_block rfl ?_|refine NG.exit_other rfl ?_|apply NG.exit_scope|apply NG.normal_block|apply NG.normal_scope|refine SG.val rfl rfl rfl rfl (by first|((first|apply qmv|apply qas|apply qlc|apply qla|apply qfa|apply qnc|apply qic|apply qix|apply qpk|apply qls|apply qei|apply qni|apply qed|apply qnd|apply qad|apply qln|apply qle|apply qgt|apply qge|apply qlk|apply qlv|apply qxt|apply qsb|apply qnt|apply qep|apply qnp|apply qeb|apply qnb|apply qx2|apply qx4|apply qcv|apply qlm|apply qfr|apply qto|apply qmx|apply qen|apply qsn|apply qx8|apply qx7|apply qx6|apply qx5|apply qx4|apply qx3|apply qx2|apply qx1|apply qx0)<;>(first|exact rfl|exact Ar.mk (by omega)|assumption|exact dct (by assumption)|exact dcf (by assumption)|exact dct (by omega)|exact dcf (by omega)|exact List.not_mem_nil|exact dc_length _|exact nc_length _|exact rc_length _ _ _|exact nm1 (by omega)|exact nm2 (by omega) (by omega)|exact dct rfl|exact dct (by decide)|exact dcf (by decide)|exact (Int.toNat_of_nonneg (by omega)).symm|exact dcu|exact lk1 (by assumption)|exact lk0 (by assumption)))|fail) ?_)
        refine CG.cond_t rfl (by exact rho_of rfl) rfl ?_
        repeat (first|apply CG.seq|apply CG.region|apply SG.nil|apply NG.next|apply CG.skip|apply CG.block|apply CG.ret|apply CG.exit|apply CG.scope|apply NG.ret_then|apply NG.ret_block|apply NG.ret_scope|apply NG.exit_then|refine NG.exit_block rfl ?_|refine NG.exit_other rfl ?_|apply NG.exit_scope|apply NG.normal_block|apply NG.normal_scope|refine SG.val rfl rfl rfl rfl (by first|((first|apply qmv|apply qas|apply qlc|apply qla|apply qfa|apply qnc|apply qic|apply qix|apply qpk|apply qls|apply qei|apply qni|apply qed|apply qnd|apply qad|apply qln|apply qle|apply qgt|apply qge|apply qlk|apply qlv|apply qxt|apply qsb|apply qnt|apply qep|apply qnp|apply qeb|apply qnb|apply qx2|apply qx4|apply qcv|apply qlm|apply qfr|apply qto|apply qmx|apply qen|apply qsn|apply qx8|apply qx7|apply qx6|apply qx5|apply qx4|apply qx3|apply qx2|apply qx1|apply qx0)<;>(first|exact rfl|exact Ar.mk (by omega)|assumption|exact dct (by assumption)|exact dcf (by assumption)|exact dct (by omega)|exact dcf (by omega)|exact List.not_mem_nil|exact dc_length _|exact nc_length _|exact rc_length _ _ _|exact nm1 (by omega)|exact nm2 (by omega) (by omega)|exact dct rfl|exact dct (by decide)|exact dcf (by decide)|exact (Int.toNat_of_nonneg (by omega)).symm|exact dcu|exact lk1 (by assumption)|exact lk0 (by assumption)))|fail) ?_)
        refine SG.setAll (old := rcl (Rn.new 0) nilS nilS) (l := rcl r (.slice a r.way.length c) u) rfl rfl (by exact rho_of rfl) (by exact rho_of rfl) hB24 rfl rfl hone (fun w5 hk5 hB5 => ?_)
        obtain ⟨_, _, _, _, hres⟩ := rows47 hB5
        repeat (first|apply CG.seq|apply CG.region|apply SG.nil|apply NG.next|apply CG.skip|apply CG.block|apply CG.ret|apply CG.exit|apply CG.scope|apply NG.ret_then|apply NG.ret_block|apply NG.ret_scope|apply NG.exit_then|refine NG.exit_block rfl ?_|refine NG.exit_other rfl ?_|apply NG.exit_scope|apply NG.normal_block|apply NG.normal_scope|refine SG.val rfl rfl rfl rfl (by first|((first|apply qmv|apply qas|apply qlc|apply qla|apply qfa|apply qnc|apply qic|apply qix|apply qpk|apply qls|apply qei|apply qni|apply qed|apply qnd|apply qad|apply qln|apply qle|apply qgt|apply qge|apply qlk|apply qlv|apply qxt|apply qsb|apply qnt|apply qep|apply qnp|apply qeb|apply qnb|apply qx2|apply qx4|apply qcv|apply qlm|apply qfr|apply qto|apply qmx|apply qen|apply qsn|apply qx8|apply qx7|apply qx6|apply qx5|apply qx4|apply qx3|apply qx2|apply qx1|apply qx0)<;>(first|exact rfl|exact Ar.mk (by omega)|assumption|exact dct (by assumption)|exact dcf (by assumption)|exact dct (by omega)|exact dcf (by omega)|exact List.not_mem_nil|exact dc_length _|exact nc_length _|exact rc_length _ _ _|exact nm1 (by omega)|exact nm2 (by omega) (by omega)|exact dct rfl|exact dct (by decide)|exact dcf (by decide)|exact (Int.toNat_of_nonneg (by omega)).symm|exact dcu|exact lk1 (by assumption)|exact lk0 (by assumption)))|fail) ?_)
        refine ret2 (Or.inl rfl) Try.results35 (ResV.agg rfl rfl hres rfl) (by first | exact ResV.tmp rfl | exact ResV.agg rfl rfl (by assumption) (by first | exact dc_length _ | exact nc_length _ | exact rc_length _ _ _ | rfl) | exact ResV.cell rfl rfl (by assumption)) ?_
        exact ⟨rfl, k04.trans_new hk5 (new1 (by omega))⟩
      have g4 : ¬ (8 : Int) < (later.length : Int) := by omega
      repeat (first|apply CG.seq|apply CG.region|apply SG.nil|apply NG.next|apply CG.skip|apply CG.block|apply CG.ret|apply CG.exit|apply CG.scope|apply NG.ret_then|apply NG.ret_block|apply NG.ret_scope|apply NG.exit_then|refine NG.exit_block rfl ?_|refine NG.exit_other rfl ?_|apply NG.exit_scope|apply NG.normal_block|apply NG.normal_scope|refine SG.val rfl rfl rfl rfl (by first|((first|apply qmv|apply qas|apply qlc|apply qla|apply qfa|apply qnc|apply qic|apply qix|apply qpk|apply qls|apply qei|apply qni|apply qed|apply qnd|apply qad|apply qln|apply qle|apply qgt|apply qge|apply qlk|apply qlv|apply qxt|apply qsb|apply qnt|apply qep|apply qnp|apply qeb|apply qnb|apply qx2|apply qx4|apply qcv|apply qlm|apply qfr|apply qto|apply qmx|apply qen|apply qsn|apply qx8|apply qx7|apply qx6|apply qx5|apply qx4|apply qx3|apply qx2|apply qx1|apply qx0)<;>(first|exact rfl|exact Ar.mk (by omega)|assumption|exact dct (by assumption)|exact dcf (by assumption)|exact dct (by omega)|exact dcf (by omega)|exact List.not_mem_nil|exact dc_length _|exact nc_length _|exact rc_length _ _ _|exact nm1 (by omega)|exact nm2 (by omega) (by omega)|exact dct rfl|exact dct (by decide)|exact dcf (by decide)|exact (Int.toNat_of_nonneg (by omega)).symm|exact dcu|exact lk1 (by assumption)|exact lk0 (by assumption)))|fail) ?_)
      refine CG.cond_f rfl (by exact rho_of rfl) rfl ?_
      repeat (first|apply CG.seq|apply CG.region|apply SG.nil|apply NG.next|apply CG.skip|apply CG.block|apply CG.ret|apply CG.exit|apply CG.scope|apply NG.ret_then|apply NG.ret_block|apply NG.ret_scope|apply NG.exit_then|refine NG.exit_block rfl ?_|refine NG.exit_other rfl ?_|apply NG.exit_scope|apply NG.normal_block|apply NG.normal_scope|refine SG.val rfl rfl rfl rfl (by first|((first|apply qmv|apply qas|apply qlc|apply qla|apply qfa|apply qnc|apply qic|apply qix|apply qpk|apply qls|apply qei|apply qni|apply qed|apply qnd|apply qad|apply qln|apply qle|apply qgt|apply qge|apply qlk|apply qlv|apply qxt|apply qsb|apply qnt|apply qep|apply qnp|apply qeb|apply qnb|apply qx2|apply qx4|apply qcv|apply qlm|apply qfr|apply qto|apply qmx|apply qen|apply qsn|apply qx8|apply qx7|apply qx6|apply qx5|apply qx4|apply qx3|apply qx2|apply qx1|apply qx0)<;>(first|exact rfl|exact Ar.mk (by omega)|assumption|exact dct (by assumption)|exact dcf (by assumption)|exact dct (by omega)|exact dcf (by omega)|exact List.not_mem_nil|exact dc_length _|exact nc_length _|exact rc_length _ _ _|exact nm1 (by omega)|exact nm2 (by omega) (by omega)|exact dct rfl|exact dct (by decide)|exact dcf (by decide)|exact (Int.toNat_of_nonneg (by omega)).symm|exact dcu|exact lk1 (by assumption)|exact lk0 (by assumption)))|fail) ?_)
      refine CG.loop (X := Nat) (fun i => [(1, .int .i64 A), (2, .int .i64 B), (3, sv bs), (4, .slice al later.length cl), (5, .pointer (some ⟨b1, 0, none⟩)), (10, .pointer (some ⟨b2, 0, none⟩)), (11, .int .i64 0), (12, .int .i64 (i : Int))])
        (fun i w' => i ≤ later.length ∧ w' = w4 ∧ (later.take i).any badL = false) (fun i => later.length - i) 0 ⟨Nat.zero_le _, rfl, rfl⟩ (by (repeat' (first | exact True.intro | exact rfl | refine And.intro ?_ ?_))) ?_
      rintro i w5 ⟨hi, rfl, hall⟩
      by_cases hlt : i < later.length
      · have g5 : (i : Int) < (later.length : Int) := by omega
        obtain ⟨ba, oa, rfl, hr⟩ := hS4.at hlt
        have et : (later.take (i + 1)).any badL = ((later.take i).any badL || badL later[i]) := by
          rw [List.take_succ_eq_append_getElem hlt, List.any_append]
          simp
        have hany : badL later[i] = true → later.any badL = true := fun h => List.any_eq_true.2 ⟨_, List.getElem_mem hlt, h⟩
        generalize later[i] = x at hr et hany
        have hcase : (x < 0 ∨ (¬ x < 0 ∧ 1000 < x)) ∨ (¬ x < 0 ∧ ¬ 1000 < x) := by omega
        rcases hcase with hbad | ⟨k1, k2⟩
        · have hb : badL x = true := decide_eq_true (by omega)
          have eE : r.sendE A B bs.length later = 2 := by unfold Rn.sendE Ns.sendE; rw [if_neg hn, if_neg h3, if_pos (Or.inr (hany hb))]
          rw [eE]
          rcases hbad with k1 | ⟨k1, k2⟩
          all_goals
            repeat (first|apply CG.seq|apply CG.region|apply SG.nil|apply NG.next|apply CG.skip|apply CG.block|apply CG.ret|apply CG.exit|apply CG.scope|apply NG.ret_then|apply NG.ret_block|apply NG.ret_scope|apply NG.exit_then|refine NG.exit_block rfl ?_|refine NG.exit_other rfl ?_|apply NG.exit_scope|apply NG.normal_block|apply NG.normal_scope|refine SG.val rfl rfl rfl rfl (by first|((first|apply qmv|apply qas|apply qlc|apply qla|apply qfa|apply qnc|apply qic|apply qix|apply qpk|apply qls|apply qei|apply qni|apply qed|apply qnd|apply qad|apply qln|apply qle|apply qgt|apply qge|apply qlk|apply qlv|apply qxt|apply qsb|apply qnt|apply qep|apply qnp|apply qeb|apply qnb|apply qx2|apply qx4|apply qcv|apply qlm|apply qfr|apply qto|apply qmx|apply qen|apply qsn|apply qx8|apply qx7|apply qx6|apply qx5|apply qx4|apply qx3|apply qx2|apply qx1|apply qx0)<;>(first|exact rfl|exact Ar.mk (by omega)|assumption|exact dct (by assumption)|exact dcf (by assumption)|exact dct (by omega)|exact dcf (by omega)|exact List.not_mem_nil|exact dc_length _|exact nc_length _|exact rc_length _ _ _|exact nm1 (by omega)|exact nm2 (by omega) (by omega)|exact dct rfl|exact dct (by decide)|exact dcf (by decide)|exact (Int.toNat_of_nonneg (by omega)).symm|exact dcu|exact lk1 (by assumption)|exact lk0 (by assumption)))|fail) ?_)
            refine CG.cond_t rfl (by exact rho_of rfl) rfl ?_
            repeat (first | first|apply CG.seq|apply CG.region|apply SG.nil|apply NG.next|apply CG.skip|apply CG.block|apply CG.ret|apply CG.exit|apply CG.scope|apply NG.ret_then|apply NG.ret_block|apply NG.ret_scope|apply NG.exit_then|refine NG.exit_block rfl ?_|refine NG.exit_other rfl ?_|apply NG.exit_scope|apply NG.normal_block|apply NG.normal_scope|refine SG.val rfl rfl rfl rfl (by first|((first|apply qmv|apply qas|apply qlc|apply qla|apply qfa|apply qnc|apply qic|apply qix|apply qpk|apply qls|apply qei|apply qni|apply qed|apply qnd|apply qad|apply qln|apply qle|apply qgt|apply qge|apply qlk|apply qlv|apply qxt|apply qsb|apply qnt|apply qep|apply qnp|apply qeb|apply qnb|apply qx2|apply qx4|apply qcv|apply qlm|apply qfr|apply qto|apply qmx|apply qen|apply qsn|apply qx8|apply qx7|apply qx6|apply qx5|apply qx4|apply qx3|apply qx2|apply qx1|apply qx0)<;>(first|exact rfl|exact Ar.mk (by omega)|assumption|exact dct (by assumption)|exact dcf (by assumption)|exact dct (by omega)|exact dcf (by omega)|exact List.not_mem_nil|exact dc_length _|exact nc_length _|exact rc_length _ _ _|exact nm1 (by omega)|exact nm2 (by omega) (by omega)|exact dct rfl|exact dct (by decide)|exact dcf (by decide)|exact (Int.toNat_of_nonneg (by omega)).symm|exact dcu|exact lk1 (by assumption)|exact lk0 (by assumption)))|fail) ?_ | refine SG.skip rfl rfl ?_)
            refine CG.cond_t rfl (by exact rho_of rfl) rfl ?_
            repeat (first|apply CG.seq|apply CG.region|apply SG.nil|apply NG.next|apply CG.skip|apply CG.block|apply CG.ret|apply CG.exit|apply CG.scope|apply NG.ret_then|apply NG.ret_block|apply NG.ret_scope|apply NG.exit_then|refine NG.exit_block rfl ?_|refine NG.exit_other rfl ?_|apply NG.exit_scope|apply NG.normal_block|apply NG.normal_scope|refine SG.val rfl rfl rfl rfl (by first|((first|apply qmv|apply qas|apply qlc|apply qla|apply qfa|apply qnc|apply qic|apply qix|apply qpk|apply qls|apply qei|apply qni|apply qed|apply qnd|apply qad|apply qln|apply qle|apply qgt|apply qge|apply qlk|apply qlv|apply qxt|apply qsb|apply qnt|apply qep|apply qnp|apply qeb|apply qnb|apply qx2|apply qx4|apply qcv|apply qlm|apply qfr|apply qto|apply qmx|apply qen|apply qsn|apply qx8|apply qx7|apply qx6|apply qx5|apply qx4|apply qx3|apply qx2|apply qx1|apply qx0)<;>(first|exact rfl|exact Ar.mk (by omega)|assumption|exact dct (by assumption)|exact dcf (by assumption)|exact dct (by omega)|exact dcf (by omega)|exact List.not_mem_nil|exact dc_length _|exact nc_length _|exact rc_length _ _ _|exact nm1 (by omega)|exact nm2 (by omega) (by omega)|exact dct rfl|exact dct (by decide)|exact dcf (by decide)|exact (Int.toNat_of_nonneg (by omega)).symm|exact dcu|exact lk1 (by assumption)|exact lk0 (by assumption)))|fail) ?_)
            refine SG.setAll (old := rcl (Rn.new 0) nilS nilS) (l := rcl r (.slice a r.way.length c) u) rfl rfl (by exact rho_of rfl) (by exact rho_of rfl) hB24 rfl rfl hone (fun w6 hk6 hB6 => ?_)
            obtain ⟨_, _, _, _, hres⟩ := rows47 hB6
            repeat (first|apply CG.seq|apply CG.region|apply SG.nil|apply NG.next|apply CG.skip|apply CG.block|apply CG.ret|apply CG.exit|apply CG.scope|apply NG.ret_then|apply NG.ret_block|apply NG.ret_scope|apply NG.exit_then|refine NG.exit_block rfl ?_|refine NG.exit_other rfl ?_|apply NG.exit_scope|apply NG.normal_block|apply NG.normal_scope|refine SG.val rfl rfl rfl rfl (by first|((first|apply qmv|apply qas|apply qlc|apply qla|apply qfa|apply qnc|apply qic|apply qix|apply qpk|apply qls|apply qei|apply qni|apply qed|apply qnd|apply qad|apply qln|apply qle|apply qgt|apply qge|apply qlk|apply qlv|apply qxt|apply qsb|apply qnt|apply qep|apply qnp|apply qeb|apply qnb|apply qx2|apply qx4|apply qcv|apply qlm|apply qfr|apply qto|apply qmx|apply qen|apply qsn|apply qx8|apply qx7|apply qx6|apply qx5|apply qx4|apply qx3|apply qx2|apply qx1|apply qx0)<;>(first|exact rfl|exact Ar.mk (by omega)|assumption|exact dct (by assumption)|exact dcf (by assumption)|exact dct (by omega)|exact dcf (by omega)|exact List.not_mem_nil|exact dc_length _|exact nc_length _|exact rc_length _ _ _|exact nm1 (by omega)|exact nm2 (by omega) (by omega)|exact dct rfl|exact dct (by decide)|exact dcf (by decide)|exact (Int.toNat_of_nonneg (by omega)).symm|exact dcu|exact lk1 (by assumption)|exact lk0 (by assumption)))|fail) ?_)
            refine ret2 (Or.inl rfl) Try.results35 (ResV.agg rfl rfl hres rfl) (by first | exact ResV.tmp rfl | exact ResV.agg rfl rfl (by assumption) (by first | exact dc_length _ | exact nc_length _ | exact rc_length _ _ _ | rfl) | exact ResV.cell rfl rfl (by assumption)) ?_
            exact ⟨rfl, k04.trans_new hk6 (new1 (by omega))⟩
        · have hb : badL x = false := decide_eq_false (by omega)
          repeat (first|apply CG.seq|apply CG.region|apply SG.nil|apply NG.next|apply CG.skip|apply CG.block|apply CG.ret|apply CG.exit|apply CG.scope|apply NG.ret_then|apply NG.ret_block|apply NG.ret_scope|apply NG.exit_then|refine NG.exit_block rfl ?_|refine NG.exit_other rfl ?_|apply NG.exit_scope|apply NG.normal_block|apply NG.normal_scope|refine SG.val rfl rfl rfl rfl (by first|((first|apply qmv|apply qas|apply qlc|apply qla|apply qfa|apply qnc|apply qic|apply qix|apply qpk|apply qls|apply qei|apply qni|apply qed|apply qnd|apply qad|apply qln|apply qle|apply qgt|apply qge|apply qlk|apply qlv|apply qxt|apply qsb|apply qnt|apply qep|apply qnp|apply qeb|apply qnb|apply qx2|apply qx4|apply qcv|apply qlm|apply qfr|apply qto|apply qmx|apply qen|apply qsn|apply qx8|apply qx7|apply qx6|apply qx5|apply qx4|apply qx3|apply qx2|apply qx1|apply qx0)<;>(first|exact rfl|exact Ar.mk (by omega)|assumption|exact dct (by assumption)|exact dcf (by assumption)|exact dct (by omega)|exact dcf (by omega)|exact List.not_mem_nil|exact dc_length _|exact nc_length _|exact rc_length _ _ _|exact nm1 (by omega)|exact nm2 (by omega) (by omega)|exact dct rfl|exact dct (by decide)|exact dcf (by decide)|exact (Int.toNat_of_nonneg (by omega)).symm|exact dcu|exact lk1 (by assumption)|exact lk0 (by assumption)))|fail) ?_)
          refine CG.cond_t rfl (by exact rho_of rfl) rfl ?_
          repeat (first | first|apply CG.seq|apply CG.region|apply SG.nil|apply NG.next|apply CG.skip|apply CG.block|apply CG.ret|apply CG.exit|apply CG.scope|apply NG.ret_then|apply NG.ret_block|apply NG.ret_scope|apply NG.exit_then|refine NG.exit_block rfl ?_|refine NG.exit_other rfl ?_|apply NG.exit_scope|apply NG.normal_block|apply NG.normal_scope|refine SG.val rfl rfl rfl rfl (by first|((first|apply qmv|apply qas|apply qlc|apply qla|apply qfa|apply qnc|apply qic|apply qix|apply qpk|apply qls|apply qei|apply qni|apply qed|apply qnd|apply qad|apply qln|apply qle|apply qgt|apply qge|apply qlk|apply qlv|apply qxt|apply qsb|apply qnt|apply qep|apply qnp|apply qeb|apply qnb|apply qx2|apply qx4|apply qcv|apply qlm|apply qfr|apply qto|apply qmx|apply qen|apply qsn|apply qx8|apply qx7|apply qx6|apply qx5|apply qx4|apply qx3|apply qx2|apply qx1|apply qx0)<;>(first|exact rfl|exact Ar.mk (by omega)|assumption|exact dct (by assumption)|exact dcf (by assumption)|exact dct (by omega)|exact dcf (by omega)|exact List.not_mem_nil|exact dc_length _|exact nc_length _|exact rc_length _ _ _|exact nm1 (by omega)|exact nm2 (by omega) (by omega)|exact dct rfl|exact dct (by decide)|exact dcf (by decide)|exact (Int.toNat_of_nonneg (by omega)).symm|exact dcu|exact lk1 (by assumption)|exact lk0 (by assumption)))|fail) ?_ | refine SG.skip rfl rfl ?_)
          refine CG.cond_f rfl (by exact rho_of rfl) rfl ?_
          repeat (first|apply CG.seq|apply CG.region|apply SG.nil|apply NG.next|apply CG.skip|apply CG.block|apply CG.ret|apply CG.exit|apply CG.scope|apply NG.ret_then|apply NG.ret_block|apply NG.ret_scope|apply NG.exit_then|refine NG.exit_block rfl ?_|refine NG.exit_other rfl ?_|apply NG.exit_scope|apply NG.normal_block|apply NG.normal_scope|refine SG.val rfl rfl rfl rfl (by first|((first|apply qmv|apply qas|apply qlc|apply qla|apply qfa|apply qnc|apply qic|apply qix|apply qpk|apply qls|apply qei|apply qni|apply qed|apply qnd|apply qad|apply qln|apply qle|apply qgt|apply qge|apply qlk|apply qlv|apply qxt|apply qsb|apply qnt|apply qep|apply qnp|apply qeb|apply qnb|apply qx2|apply qx4|apply qcv|apply qlm|apply qfr|apply qto|apply qmx|apply qen|apply qsn|apply qx8|apply qx7|apply qx6|apply qx5|apply qx4|apply qx3|apply qx2|apply qx1|apply qx0)<;>(first|exact rfl|exact Ar.mk (by omega)|assumption|exact dct (by assumption)|exact dcf (by assumption)|exact dct (by omega)|exact dcf (by omega)|exact List.not_mem_nil|exact dc_length _|exact nc_length _|exact rc_length _ _ _|exact nm1 (by omega)|exact nm2 (by omega) (by omega)|exact dct rfl|exact dct (by decide)|exact dcf (by decide)|exact (Int.toNat_of_nonneg (by omega)).symm|exact dcu|exact lk1 (by assumption)|exact lk0 (by assumption)))|fail) ?_)
          refine NG.round (i + 1) (by (repeat' (first | exact True.intro | exact rfl | refine And.intro ?_ ?_))) ⟨hlt, rfl, ?_⟩ (by omega)
          rw [et, hall, hb]
          rfl
      have g5 : ¬ (i : Int) < (later.length : Int) := by omega
      rw [List.take_of_length_le (by omega)] at hall
      have h6 : 4096 < r.way.length + later.length := by
        refine Classical.byContradiction fun h6 => hE ?_
        unfold Rn.sendE Ns.sendE
        rw [if_neg hn, if_neg h3, if_neg (by rw [hall]; simp; omega), if_neg (by show ¬ 4096 < r.way.length + later.length; exact h6)]
      have eE : r.sendE A B bs.length later = 8 := by
        unfold Rn.sendE Ns.sendE
        rw [if_neg hn, if_neg h3, if_neg (by rw [hall]; simp; omega), if_pos (by show 4096 < r.way.length + later.length; exact h6)]
      have g6 : (4096 : Int) < (r.way.length : Int) + (later.length : Int) := by omega
      rw [eE]
      repeat (first|apply CG.seq|apply CG.region|apply SG.nil|apply NG.next|apply CG.skip|apply CG.block|apply CG.ret|apply CG.exit|apply CG.scope|apply NG.ret_then|apply NG.ret_block|apply NG.ret_scope|apply NG.exit_then|refine NG.exit_block rfl ?_|refine NG.exit_other rfl ?_|apply NG.exit_scope|apply NG.normal_block|apply NG.normal_scope|refine SG.val rfl rfl rfl rfl (by first|((first|apply qmv|apply qas|apply qlc|apply qla|apply qfa|apply qnc|apply qic|apply qix|apply qpk|apply qls|apply qei|apply qni|apply qed|apply qnd|apply qad|apply qln|apply qle|apply qgt|apply qge|apply qlk|apply qlv|apply qxt|apply qsb|apply qnt|apply qep|apply qnp|apply qeb|apply qnb|apply qx2|apply qx4|apply qcv|apply qlm|apply qfr|apply qto|apply qmx|apply qen|apply qsn|apply qx8|apply qx7|apply qx6|apply qx5|apply qx4|apply qx3|apply qx2|apply qx1|apply qx0)<;>(first|exact rfl|exact Ar.mk (by omega)|assumption|exact dct (by assumption)|exact dcf (by assumption)|exact dct (by omega)|exact dcf (by omega)|exact List.not_mem_nil|exact dc_length _|exact nc_length _|exact rc_length _ _ _|exact nm1 (by omega)|exact nm2 (by omega) (by omega)|exact dct rfl|exact dct (by decide)|exact dcf (by decide)|exact (Int.toNat_of_nonneg (by omega)).symm|exact dcu|exact lk1 (by assumption)|exact lk0 (by assumption)))|fail) ?_)
      refine CG.cond_f rfl (by exact rho_of rfl) rfl ?_
      repeat (first|apply CG.seq|apply CG.region|apply SG.nil|apply NG.next|apply CG.skip|apply CG.block|apply CG.ret|apply CG.exit|apply CG.scope|apply NG.ret_then|apply NG.ret_block|apply NG.ret_scope|apply NG.exit_then|refine NG.exit_block rfl ?_|refine NG.exit_other rfl ?_|apply NG.exit_scope|apply NG.normal_block|apply NG.normal_scope|refine SG.val rfl rfl rfl rfl (by first|((first|apply qmv|apply qas|apply qlc|apply qla|apply qfa|apply qnc|apply qic|apply qix|apply qpk|apply qls|apply qei|apply qni|apply qed|apply qnd|apply qad|apply qln|apply qle|apply qgt|apply qge|apply qlk|apply qlv|apply qxt|apply qsb|apply qnt|apply qep|apply qnp|apply qeb|apply qnb|apply qx2|apply qx4|apply qcv|apply qlm|apply qfr|apply qto|apply qmx|apply qen|apply qsn|apply qx8|apply qx7|apply qx6|apply qx5|apply qx4|apply qx3|apply qx2|apply qx1|apply qx0)<;>(first|exact rfl|exact Ar.mk (by omega)|assumption|exact dct (by assumption)|exact dcf (by assumption)|exact dct (by omega)|exact dcf (by omega)|exact List.not_mem_nil|exact dc_length _|exact nc_length _|exact rc_length _ _ _|exact nm1 (by omega)|exact nm2 (by omega) (by omega)|exact dct rfl|exact dct (by decide)|exact dcf (by decide)|exact (Int.toNat_of_nonneg (by omega)).symm|exact dcu|exact lk1 (by assumption)|exact lk0 (by assumption)))|fail) ?_)
      refine CG.cond_t rfl (by exact rho_of rfl) rfl ?_
      repeat (first|apply CG.seq|apply CG.region|apply SG.nil|apply NG.next|apply CG.skip|apply CG.block|apply CG.ret|apply CG.exit|apply CG.scope|apply NG.ret_then|apply NG.ret_block|apply NG.ret_scope|apply NG.exit_then|refine NG.exit_block rfl ?_|refine NG.exit_other rfl ?_|apply NG.exit_scope|apply NG.normal_block|apply NG.normal_scope|refine SG.val rfl rfl rfl rfl (by first|((first|apply qmv|apply qas|apply qlc|apply qla|apply qfa|apply qnc|apply qic|apply qix|apply qpk|apply qls|apply qei|apply qni|apply qed|apply qnd|apply qad|apply qln|apply qle|apply qgt|apply qge|apply qlk|apply qlv|apply qxt|apply qsb|apply qnt|apply qep|apply qnp|apply qeb|apply qnb|apply qx2|apply qx4|apply qcv|apply qlm|apply qfr|apply qto|apply qmx|apply qen|apply qsn|apply qx8|apply qx7|apply qx6|apply qx5|apply qx4|apply qx3|apply qx2|apply qx1|apply qx0)<;>(first|exact rfl|exact Ar.mk (by omega)|assumption|exact dct (by assumption)|exact dcf (by assumption)|exact dct (by omega)|exact dcf (by omega)|exact List.not_mem_nil|exact dc_length _|exact nc_length _|exact rc_length _ _ _|exact nm1 (by omega)|exact nm2 (by omega) (by omega)|exact dct rfl|exact dct (by decide)|exact dcf (by decide)|exact (Int.toNat_of_nonneg (by omega)).symm|exact dcu|exact lk1 (by assumption)|exact lk0 (by assumption)))|fail) ?_)
      refine SG.setAll (old := rcl (Rn.new 0) nilS nilS) (l := rcl r (.slice a r.way.length c) u) rfl rfl (by exact rho_of rfl) (by exact rho_of rfl) hB24 rfl rfl hone (fun w6 hk6 hB6 => ?_)
      obtain ⟨_, _, _, _, hres⟩ := rows47 hB6
      repeat (first|apply CG.seq|apply CG.region|apply SG.nil|apply NG.next|apply CG.skip|apply CG.block|apply CG.ret|apply CG.exit|apply CG.scope|apply NG.ret_then|apply NG.ret_block|apply NG.ret_scope|apply NG.exit_then|refine NG.exit_block rfl ?_|refine NG.exit_other rfl ?_|apply NG.exit_scope|apply NG.normal_block|apply NG.normal_scope|refine SG.val rfl rfl rfl rfl (by first|((first|apply qmv|apply qas|apply qlc|apply qla|apply qfa|apply qnc|apply qic|apply qix|apply qpk|apply qls|apply qei|apply qni|apply qed|apply qnd|apply qad|apply qln|apply qle|apply qgt|apply qge|apply qlk|apply qlv|apply qxt|apply qsb|apply qnt|apply qep|apply qnp|apply qeb|apply qnb|apply qx2|apply qx4|apply qcv|apply qlm|apply qfr|apply qto|apply qmx|apply qen|apply qsn|apply qx8|apply qx7|apply qx6|apply qx5|apply qx4|apply qx3|apply qx2|apply qx1|apply qx0)<;>(first|exact rfl|exact Ar.mk (by omega)|assumption|exact dct (by assumption)|exact dcf (by assumption)|exact dct (by omega)|exact dcf (by omega)|exact List.not_mem_nil|exact dc_length _|exact nc_length _|exact rc_length _ _ _|exact nm1 (by omega)|exact nm2 (by omega) (by omega)|exact dct rfl|exact dct (by decide)|exact dcf (by decide)|exact (Int.toNat_of_nonneg (by omega)).symm|exact dcu|exact lk1 (by assumption)|exact lk0 (by assumption)))|fail) ?_)
      refine ret2 (Or.inl rfl) Try.results35 (ResV.agg rfl rfl hres rfl) (by first | exact ResV.tmp rfl | exact ResV.agg rfl rfl (by assumption) (by first | exact dc_length _ | exact nc_length _ | exact rc_length _ _ _ | rfl) | exact ResV.cell rfl rfl (by assumption)) ?_
      exact ⟨rfl, k04.trans_new hk6 (new1 (by omega))⟩
    · rw [decide_eq_false h2]
      have eE : r.sendE A B bs.length later = 28 := by unfold Rn.sendE Ns.sendE; exact if_pos (Or.inr h2)
      rw [eE]
      repeat (first | first|apply CG.seq|apply CG.region|apply SG.nil|apply NG.next|apply CG.skip|apply CG.block|apply CG.ret|apply CG.exit|apply CG.scope|apply NG.ret_then|apply NG.ret_block|apply NG.ret_scope|apply NG.exit_then|refine NG.exit_block rfl ?_|refine NG.exit_other rfl ?_|apply NG.exit_scope|apply NG.normal_block|apply NG.normal_scope|refine SG.val rfl rfl rfl rfl (by first|((first|apply qmv|apply qas|apply qlc|apply qla|apply qfa|apply qnc|apply qic|apply qix|apply qpk|apply qls|apply qei|apply qni|apply qed|apply qnd|apply qad|apply qln|apply qle|apply qgt|apply qge|apply qlk|apply qlv|apply qxt|apply qsb|apply qnt|apply qep|apply qnp|apply qeb|apply qnb|apply qx2|apply qx4|apply qcv|apply qlm|apply qfr|apply qto|apply qmx|apply qen|apply qsn|apply qx8|apply qx7|apply qx6|apply qx5|apply qx4|apply qx3|apply qx2|apply qx1|apply qx0)<;>(first|exact rfl|exact Ar.mk (by omega)|assumption|exact dct (by assumption)|exact dcf (by assumption)|exact dct (by omega)|exact dcf (by omega)|exact List.not_mem_nil|exact dc_length _|exact nc_length _|exact rc_length _ _ _|exact nm1 (by omega)|exact nm2 (by omega) (by omega)|exact dct rfl|exact dct (by decide)|exact dcf (by decide)|exact (Int.toNat_of_nonneg (by omega)).symm|exact dcu|exact lk1 (by assumption)|exact lk0 (by assumption)))|fail) ?_ | refine SG.skip rfl rfl ?_)
      refine CG.cond_t rfl (by exact rho_of rfl) rfl ?_
      repeat (first|apply CG.seq|apply CG.region|apply SG.nil|apply NG.next|apply CG.skip|apply CG.block|apply CG.ret|apply CG.exit|apply CG.scope|apply NG.ret_then|apply NG.ret_block|apply NG.ret_scope|apply NG.exit_then|refine NG.exit_block rfl ?_|refine NG.exit_other rfl ?_|apply NG.exit_scope|apply NG.normal_block|apply NG.normal_scope|refine SG.val rfl rfl rfl rfl (by first|((first|apply qmv|apply qas|apply qlc|apply qla|apply qfa|apply qnc|apply qic|apply qix|apply qpk|apply qls|apply qei|apply qni|apply qed|apply qnd|apply qad|apply qln|apply qle|apply qgt|apply qge|apply qlk|apply qlv|apply qxt|apply qsb|apply qnt|apply qep|apply qnp|apply qeb|apply qnb|apply qx2|apply qx4|apply qcv|apply qlm|apply qfr|apply qto|apply qmx|apply qen|apply qsn|apply qx8|apply qx7|apply qx6|apply qx5|apply qx4|apply qx3|apply qx2|apply qx1|apply qx0)<;>(first|exact rfl|exact Ar.mk (by omega)|assumption|exact dct (by assumption)|exact dcf (by assumption)|exact dct (by omega)|exact dcf (by omega)|exact List.not_mem_nil|exact dc_length _|exact nc_length _|exact rc_length _ _ _|exact nm1 (by omega)|exact nm2 (by omega) (by omega)|exact dct rfl|exact dct (by decide)|exact dcf (by decide)|exact (Int.toNat_of_nonneg (by omega)).symm|exact dcu|exact lk1 (by assumption)|exact lk0 (by assumption)))|fail) ?_)
      refine SG.setAll (old := rcl (Rn.new 0) nilS nilS) (l := rcl r (.slice a r.way.length c) u) rfl rfl (by exact rho_of rfl) (by exact rho_of rfl) hB24 rfl rfl hone (fun w5 hk5 hB5 => ?_)
      obtain ⟨_, _, _, _, hres⟩ := rows47 hB5
      repeat (first|apply CG.seq|apply CG.region|apply SG.nil|apply NG.next|apply CG.skip|apply CG.block|apply CG.ret|apply CG.exit|apply CG.scope|apply NG.ret_then|apply NG.ret_block|apply NG.ret_scope|apply NG.exit_then|refine NG.exit_block rfl ?_|refine NG.exit_other rfl ?_|apply NG.exit_scope|apply NG.normal_block|apply NG.normal_scope|refine SG.val rfl rfl rfl rfl (by first|((first|apply qmv|apply qas|apply qlc|apply qla|apply qfa|apply qnc|apply qic|apply qix|apply qpk|apply qls|apply qei|apply qni|apply qed|apply qnd|apply qad|apply qln|apply qle|apply qgt|apply qge|apply qlk|apply qlv|apply qxt|apply qsb|apply qnt|apply qep|apply qnp|apply qeb|apply qnb|apply qx2|apply qx4|apply qcv|apply qlm|apply qfr|apply qto|apply qmx|apply qen|apply qsn|apply qx8|apply qx7|apply qx6|apply qx5|apply qx4|apply qx3|apply qx2|apply qx1|apply qx0)<;>(first|exact rfl|exact Ar.mk (by omega)|assumption|exact dct (by assumption)|exact dcf (by assumption)|exact dct (by omega)|exact dcf (by omega)|exact List.not_mem_nil|exact dc_length _|exact nc_length _|exact rc_length _ _ _|exact nm1 (by omega)|exact nm2 (by omega) (by omega)|exact dct rfl|exact dct (by decide)|exact dcf (by decide)|exact (Int.toNat_of_nonneg (by omega)).symm|exact dcu|exact lk1 (by assumption)|exact lk0 (by assumption)))|fail) ?_)
      refine ret2 (Or.inl rfl) Try.results35 (ResV.agg rfl rfl hres rfl) (by first | exact ResV.tmp rfl | exact ResV.agg rfl rfl (by assumption) (by first | exact dc_length _ | exact nc_length _ | exact rc_length _ _ _ | rfl) | exact ResV.cell rfl rfl (by assumption)) ?_
      exact ⟨rfl, k04.trans_new hk5 (new1 (by omega))⟩
  · rw [decide_eq_false h1]
    have eE : r.sendE A B bs.length later = 28 := by unfold Rn.sendE Ns.sendE; exact if_pos (Or.inl h1)
    rw [eE]
    repeat (first | first|apply CG.seq|apply CG.region|apply SG.nil|apply NG.next|apply CG.skip|apply CG.block|apply CG.ret|apply CG.exit|apply CG.scope|apply NG.ret_then|apply NG.ret_block|apply NG.ret_scope|apply NG.exit_then|refine NG.exit_block rfl ?_|refine NG.exit_other rfl ?_|apply NG.exit_scope|apply NG.normal_block|apply NG.normal_scope|refine SG.val rfl rfl rfl rfl (by first|((first|apply qmv|apply qas|apply qlc|apply qla|apply qfa|apply qnc|apply qic|apply qix|apply qpk|apply qls|apply qei|apply qni|apply qed|apply qnd|apply qad|apply qln|apply qle|apply qgt|apply qge|apply qlk|apply qlv|apply qxt|apply qsb|apply qnt|apply qep|apply qnp|apply qeb|apply qnb|apply qx2|apply qx4|apply qcv|apply qlm|apply qfr|apply qto|apply qmx|apply qen|apply qsn|apply qx8|apply qx7|apply qx6|apply qx5|apply qx4|apply qx3|apply qx2|apply qx1|apply qx0)<;>(first|exact rfl|exact Ar.mk (by omega)|assumption|exact dct (by assumption)|exact dcf (by assumption)|exact dct (by omega)|exact dcf (by omega)|exact List.not_mem_nil|exact dc_length _|exact nc_length _|exact rc_length _ _ _|exact nm1 (by omega)|exact nm2 (by omega) (by omega)|exact dct rfl|exact dct (by decide)|exact dcf (by decide)|exact (Int.toNat_of_nonneg (by omega)).symm|exact dcu|exact lk1 (by assumption)|exact lk0 (by assumption)))|fail) ?_ | refine SG.skip rfl rfl ?_)
    refine CG.cond_t rfl (by exact rho_of rfl) rfl ?_
    repeat (first|apply CG.seq|apply CG.region|apply SG.nil|apply NG.next|apply CG.skip|apply CG.block|apply CG.ret|apply CG.exit|apply CG.scope|apply NG.ret_then|apply NG.ret_block|apply NG.ret_scope|apply NG.exit_then|refine NG.exit_block rfl ?_|refine NG.exit_other rfl ?_|apply NG.exit_scope|apply NG.normal_block|apply NG.normal_scope|refine SG.val rfl rfl rfl rfl (by first|((first|apply qmv|apply qas|apply qlc|apply qla|apply qfa|apply qnc|apply qic|apply qix|apply qpk|apply qls|apply qei|apply qni|apply qed|apply qnd|apply qad|apply qln|apply qle|apply qgt|apply qge|apply qlk|apply qlv|apply qxt|apply qsb|apply qnt|apply qep|apply qnp|apply qeb|apply qnb|apply qx2|apply qx4|apply qcv|apply qlm|apply qfr|apply qto|apply qmx|apply qen|apply qsn|apply qx8|apply qx7|apply qx6|apply qx5|apply qx4|apply qx3|apply qx2|apply qx1|apply qx0)<;>(first|exact rfl|exact Ar.mk (by omega)|assumption|exact dct (by assumption)|exact dcf (by assumption)|exact dct (by omega)|exact dcf (by omega)|exact List.not_mem_nil|exact dc_length _|exact nc_length _|exact rc_length _ _ _|exact nm1 (by omega)|exact nm2 (by omega) (by omega)|exact dct rfl|exact dct (by decide)|exact dcf (by decide)|exact (Int.toNat_of_nonneg (by omega)).symm|exact dcu|exact lk1 (by assumption)|exact lk0 (by assumption)))|fail) ?_)
    refine SG.setAll (old := rcl (Rn.new 0) nilS nilS) (l := rcl r (.slice a r.way.length c) u) rfl rfl (by exact rho_of rfl) (by exact rho_of rfl) hB23 rfl rfl hone (fun w5 hk5 hB5 => ?_)
    obtain ⟨_, _, _, _, hres⟩ := rows47 hB5
    repeat (first|apply CG.seq|apply CG.region|apply SG.nil|apply NG.next|apply CG.skip|apply CG.block|apply CG.ret|apply CG.exit|apply CG.scope|apply NG.ret_then|apply NG.ret_block|apply NG.ret_scope|apply NG.exit_then|refine NG.exit_block rfl ?_|refine NG.exit_other rfl ?_|apply NG.exit_scope|apply NG.normal_block|apply NG.normal_scope|refine SG.val rfl rfl rfl rfl (by first|((first|apply qmv|apply qas|apply qlc|apply qla|apply qfa|apply qnc|apply qic|apply qix|apply qpk|apply qls|apply qei|apply qni|apply qed|apply qnd|apply qad|apply qln|apply qle|apply qgt|apply qge|apply qlk|apply qlv|apply qxt|apply qsb|apply qnt|apply qep|apply qnp|apply qeb|apply qnb|apply qx2|apply qx4|apply qcv|apply qlm|apply qfr|apply qto|apply qmx|apply qen|apply qsn|apply qx8|apply qx7|apply qx6|apply qx5|apply qx4|apply qx3|apply qx2|apply qx1|apply qx0)<;>(first|exact rfl|exact Ar.mk (by omega)|assumption|exact dct (by assumption)|exact dcf (by assumption)|exact dct (by omega)|exact dcf (by omega)|exact List.not_mem_nil|exact dc_length _|exact nc_length _|exact rc_length _ _ _|exact nm1 (by omega)|exact nm2 (by omega) (by omega)|exact dct rfl|exact dct (by decide)|exact dcf (by decide)|exact (Int.toNat_of_nonneg (by omega)).symm|exact dcu|exact lk1 (by assumption)|exact lk0 (by assumption)))|fail) ?_)
    refine ret2 (Or.inl rfl) Try.results35 (ResV.agg rfl rfl hres rfl) (by first | exact ResV.tmp rfl | exact ResV.agg rfl rfl (by assumption) (by first | exact dc_length _ | exact nc_length _ | exact rc_length _ _ _ | rfl) | exact ResV.cell rfl rfl (by assumption)) ?_
    exact ⟨rfl, (k02.trans hk3).trans_new hk5 (new1 (by omega))⟩
set_option maxHeartbeats 16000000 in
theorem rsend_good {w : World} {r : Rn} {v u : Value} (hR : RnAt w r v u) (ok : RnOk r) (f t : Nat) (bs : List UInt8) (al : Option Addr) (cl : Nat) (later : List Int) (hS : SlI w al later) (hE : r.sendE f t bs.length later = 0) :
    Calls Try.prog 35 #[.agg (rcl r v u).toArray, .int .i64 f, .int .i64 t, sv bs, .slice al later.length cl] w (fun e w' => ∃ v', e = .returned (.tuple #[.agg (rcl (r.send f t bs later) v' u).toArray, .int .i64 0]) ∧ RnAt w' (r.send f t bs later) v' u ∧ Kp [] w w') := by
  refine enter5 Try.func35 rfl Try.ntmps35 rfl ?_
  have hlen := ok.len
  have hnow := ok.now
  obtain ⟨a, c, rfl, hac, hSw⟩ := Sl.own cpl_length hR.way rfl
  obtain ⟨a', c', rfl⟩ := own_slice hR.cuts
  have hE0 : (0 ≤ (f : Int) ∧ (f : Int) < r.parties) ∧ (0 ≤ (t : Int) ∧ (t : Int) < r.parties) ∧ bs.length ≤ 65536 ∧ later.length ≤ 8 ∧ later.any badL = false ∧ r.way.length + later.length ≤ 4096 := by
    unfold Rn.sendE Ns.sendE at hE
    split at hE
    · cases hE
    · rename_i h1
      have h1' : ¬ (¬ (0 ≤ (f : Int) ∧ (f : Int) < (r.parties : Int)) ∨ ¬ (0 ≤ (t : Int) ∧ (t : Int) < (r.parties : Int))) := h1
      split at hE
      · cases hE
      · split at hE
        · cases hE
        · split at hE
          · cases hE
          · rename_i h2 h3 h4
            have h4' : ¬ 4096 < r.way.length + later.length := h4
            refine ⟨by omega, by omega, by omega, by omega, ?_, by omega⟩
            cases hb : later.any badL with
            | false => rfl
            | true => exact absurd (Or.inr hb) h3
  obtain ⟨h1, h2, h3, h4, h5, h6⟩ := hE0
  repeat (first|apply CG.seq|apply CG.region|apply SG.nil|apply NG.next|apply CG.skip|apply CG.block|apply CG.ret|apply CG.exit|apply CG.scope|apply NG.ret_then|apply NG.ret_block|apply NG.ret_scope|apply NG.exit_then|refine NG.exit_block rfl ?_|refine NG.exit_other rfl ?_|apply NG.exit_scope|apply NG.normal_block|apply NG.normal_scope|refine SG.val rfl rfl rfl rfl (by first|((first|apply qmv|apply qas|apply qlc|apply qla|apply qfa|apply qnc|apply qic|apply qix|apply qpk|apply qls|apply qei|apply qni|apply qed|apply qnd|apply qad|apply qln|apply qle|apply qgt|apply qge|apply qlk|apply qlv|apply qxt|apply qsb|apply qnt|apply qep|apply qnp|apply qeb|apply qnb|apply qx2|apply qx4|apply qcv|apply qlm|apply qfr|apply qto|apply qmx|apply qen|apply qsn|apply qx8|apply qx7|apply qx6|apply qx5|apply qx4|apply qx3|apply qx2|apply qx1|apply qx0)<;>(first|exact rfl|exact Ar.mk (by omega)|assumption|exact dct (by assumption)|exact dcf (by assumption)|exact dct (by omega)|exact dcf (by omega)|exact List.not_mem_nil|exact dc_length _|exact nc_length _|exact rc_length _ _ _|exact nm1 (by omega)|exact nm2 (by omega) (by omega)|exact dct rfl|exact dct (by decide)|exact dcf (by decide)|exact (Int.toNat_of_nonneg (by omega)).symm|exact dcu|exact lk1 (by assumption)|exact lk0 (by assumption)))|fail) ?_)
  refine SG.box rfl rfl rfl (by exact rho_of rfl) (fun b1 w1 hk1 hb1 hB1 => ?_)
  have hB1 : Blk w1 b1 (.cells (rcl r (.slice a r.way.length c) (.slice a' r.cuts.length c')).toArray 47) := hB1
  have hlt1 := hB1.lt
  refine SG.alloc rfl rfl rfl (fun b2 w2 hk2 hb2 hB2 => ?_)
  have hB2 : Blk w2 b2 (.cells (rcl (Rn.new 0) nilS nilS).toArray 47) := hB2
  have hB1 := hB1.kp0 hk2
  obtain ⟨q0, q1, q2, q3, q4⟩ := rows47 hB1
  have e12 := hk1.size
  have e23 := hk2.size
  have k02 := hk1.trans hk2
  repeat (first|apply CG.seq|apply CG.region|apply SG.nil|apply NG.next|apply CG.skip|apply CG.block|apply CG.ret|apply CG.exit|apply CG.scope|apply NG.ret_then|apply NG.ret_block|apply NG.ret_scope|apply NG.exit_then|refine NG.exit_block rfl ?_|refine NG.exit_other rfl ?_|apply NG.exit_scope|apply NG.normal_block|apply NG.normal_scope|refine SG.val rfl rfl rfl rfl (by first|((first|apply qmv|apply qas|apply qlc|apply qla|apply qfa|apply qnc|apply qic|apply qix|apply qpk|apply qls|apply qei|apply qni|apply qed|apply qnd|apply qad|apply qln|apply qle|apply qgt|apply qge|apply qlk|apply qlv|apply qxt|apply qsb|apply qnt|apply qep|apply qnp|apply qeb|apply qnb|apply qx2|apply qx4|apply qcv|apply qlm|apply qfr|apply qto|apply qmx|apply qen|apply qsn|apply qx8|apply qx7|apply qx6|apply qx5|apply qx4|apply qx3|apply qx2|apply qx1|apply qx0)<;>(first|exact rfl|exact Ar.mk (by omega)|assumption|exact dct (by assumption)|exact dcf (by assumption)|exact dct (by omega)|exact dcf (by omega)|exact List.not_mem_nil|exact dc_length _|exact nc_length _|exact rc_length _ _ _|exact nm1 (by omega)|exact nm2 (by omega) (by omega)|exact dct rfl|exact dct (by decide)|exact dcf (by decide)|exact (Int.toNat_of_nonneg (by omega)).symm|exact dcu|exact lk1 (by assumption)|exact lk0 (by assumption)))|fail) ?_)
  refine SG.ret rfl rfl rfl (by repeat' (first | exact True.intro | exact rho_of rfl | refine And.intro ?_ ?_)) (rparty w2 r _ _ f) (fun w3 hk3 => ?_)
  have q43 := q4.kp0 hk3
  rw [decide_eq_true h1]
  repeat (first | first|apply CG.seq|apply CG.region|apply SG.nil|apply NG.next|apply CG.skip|apply CG.block|apply CG.ret|apply CG.exit|apply CG.scope|apply NG.ret_then|apply NG.ret_block|apply NG.ret_scope|apply NG.exit_then|refine NG.exit_block rfl ?_|refine NG.exit_other rfl ?_|apply NG.exit_scope|apply NG.normal_block|apply NG.normal_scope|refine SG.val rfl rfl rfl rfl (by first|((first|apply qmv|apply qas|apply qlc|apply qla|apply qfa|apply qnc|apply qic|apply qix|apply qpk|apply qls|apply qei|apply qni|apply qed|apply qnd|apply qad|apply qln|apply qle|apply qgt|apply qge|apply qlk|apply qlv|apply qxt|apply qsb|apply qnt|apply qep|apply qnp|apply qeb|apply qnb|apply qx2|apply qx4|apply qcv|apply qlm|apply qfr|apply qto|apply qmx|apply qen|apply qsn|apply qx8|apply qx7|apply qx6|apply qx5|apply qx4|apply qx3|apply qx2|apply qx1|apply qx0)<;>(first|exact rfl|exact Ar.mk (by omega)|assumption|exact dct (by assumption)|exact dcf (by assumption)|exact dct (by omega)|exact dcf (by omega)|exact List.not_mem_nil|exact dc_length _|exact nc_length _|exact rc_length _ _ _|exact nm1 (by omega)|exact nm2 (by omega) (by omega)|exact dct rfl|exact dct (by decide)|exact dcf (by decide)|exact (Int.toNat_of_nonneg (by omega)).symm|exact dcu|exact lk1 (by assumption)|exact lk0 (by assumption)))|fail) ?_ | refine SG.skip rfl rfl ?_)
  refine SG.ret rfl rfl rfl (by repeat' (first | exact True.intro | exact rho_of rfl | refine And.intro ?_ ?_)) (rparty w3 r _ _ t) (fun w4 hk4 => ?_)
  rw [decide_eq_true h2]
  have hB1 := (hB1.kp0 hk3).kp0 hk4
  have hB2 := (hB2.kp0 hk3).kp0 hk4
  have k04 := (k02.trans hk3).trans hk4
  have hS4 := hS.kp0 k04
  have g3 : ¬ (65536 : Int) < (bs.length : Int) := by omega
  have g4 : ¬ (8 : Int) < (later.length : Int) := by omega
  obtain ⟨q0, q1, q2, q3, q4⟩ := rows47 hB1
  have e34 := hk3.size
  have e45 := hk4.size
  repeat (first | first|apply CG.seq|apply CG.region|apply SG.nil|apply NG.next|apply CG.skip|apply CG.block|apply CG.ret|apply CG.exit|apply CG.scope|apply NG.ret_then|apply NG.ret_block|apply NG.ret_scope|apply NG.exit_then|refine NG.exit_block rfl ?_|refine NG.exit_other rfl ?_|apply NG.exit_scope|apply NG.normal_block|apply NG.normal_scope|refine SG.val rfl rfl rfl rfl (by first|((first|apply qmv|apply qas|apply qlc|apply qla|apply qfa|apply qnc|apply qic|apply qix|apply qpk|apply qls|apply qei|apply qni|apply qed|apply qnd|apply qad|apply qln|apply qle|apply qgt|apply qge|apply qlk|apply qlv|apply qxt|apply qsb|apply qnt|apply qep|apply qnp|apply qeb|apply qnb|apply qx2|apply qx4|apply qcv|apply qlm|apply qfr|apply qto|apply qmx|apply qen|apply qsn|apply qx8|apply qx7|apply qx6|apply qx5|apply qx4|apply qx3|apply qx2|apply qx1|apply qx0)<;>(first|exact rfl|exact Ar.mk (by omega)|assumption|exact dct (by assumption)|exact dcf (by assumption)|exact dct (by omega)|exact dcf (by omega)|exact List.not_mem_nil|exact dc_length _|exact nc_length _|exact rc_length _ _ _|exact nm1 (by omega)|exact nm2 (by omega) (by omega)|exact dct rfl|exact dct (by decide)|exact dcf (by decide)|exact (Int.toNat_of_nonneg (by omega)).symm|exact dcu|exact lk1 (by assumption)|exact lk0 (by assumption)))|fail) ?_ | refine SG.skip rfl rfl ?_)
  refine CG.cond_f rfl (by exact rho_of rfl) rfl ?_
  repeat (first|apply CG.seq|apply CG.region|apply SG.nil|apply NG.next|apply CG.skip|apply CG.block|apply CG.ret|apply CG.exit|apply CG.scope|apply NG.ret_then|apply NG.ret_block|apply NG.ret_scope|apply NG.exit_then|refine NG.exit_block rfl ?_|refine NG.exit_other rfl ?_|apply NG.exit_scope|apply NG.normal_block|apply NG.normal_scope|refine SG.val rfl rfl rfl rfl (by first|((first|apply qmv|apply qas|apply qlc|apply qla|apply qfa|apply qnc|apply qic|apply qix|apply qpk|apply qls|apply qei|apply qni|apply qed|apply qnd|apply qad|apply qln|apply qle|apply qgt|apply qge|apply qlk|apply qlv|apply qxt|apply qsb|apply qnt|apply qep|apply qnp|apply qeb|apply qnb|apply qx2|apply qx4|apply qcv|apply qlm|apply qfr|apply qto|apply qmx|apply qen|apply qsn|apply qx8|apply qx7|apply qx6|apply qx5|apply qx4|apply qx3|apply qx2|apply qx1|apply qx0)<;>(first|exact rfl|exact Ar.mk (by omega)|assumption|exact dct (by assumption)|exact dcf (by assumption)|exact dct (by omega)|exact dcf (by omega)|exact List.not_mem_nil|exact dc_length _|exact nc_length _|exact rc_length _ _ _|exact nm1 (by omega)|exact nm2 (by omega) (by omega)|exact dct rfl|exact dct (by decide)|exact dcf (by decide)|exact (Int.toNat_of_nonneg (by omega)).symm|exact dcu|exact lk1 (by assumption)|exact lk0 (by assumption)))|fail) ?_)
  refine CG.cond_f rfl (by exact rho_of rfl) rfl ?_
  repeat (first|apply CG.seq|apply CG.region|apply SG.nil|apply NG.next|apply CG.skip|apply CG.block|apply CG.ret|apply CG.exit|apply CG.scope|apply NG.ret_then|apply NG.ret_block|apply NG.ret_scope|apply NG.exit_then|refine NG.exit_block rfl ?_|refine NG.exit_other rfl ?_|apply NG.exit_scope|apply NG.normal_block|apply NG.normal_scope|refine SG.val rfl rfl rfl rfl (by first|((first|apply qmv|apply qas|apply qlc|apply qla|apply qfa|apply qnc|apply qic|apply qix|apply qpk|apply qls|apply qei|apply qni|apply qed|apply qnd|apply qad|apply qln|apply qle|apply qgt|apply qge|apply qlk|apply qlv|apply qxt|apply qsb|apply qnt|apply qep|apply qnp|apply qeb|apply qnb|apply qx2|apply qx4|apply qcv|apply qlm|apply qfr|apply qto|apply qmx|apply qen|apply qsn|apply qx8|apply qx7|apply qx6|apply qx5|apply qx4|apply qx3|apply qx2|apply qx1|apply qx0)<;>(first|exact rfl|exact Ar.mk (by omega)|assumption|exact dct (by assumption)|exact dcf (by assumption)|exact dct (by omega)|exact dcf (by omega)|exact List.not_mem_nil|exact dc_length _|exact nc_length _|exact rc_length _ _ _|exact nm1 (by omega)|exact nm2 (by omega) (by omega)|exact dct rfl|exact dct (by decide)|exact dcf (by decide)|exact (Int.toNat_of_nonneg (by omega)).symm|exact dcu|exact lk1 (by assumption)|exact lk0 (by assumption)))|fail) ?_)
  refine CG.cond_f rfl (by exact rho_of rfl) rfl ?_
  repeat (first|apply CG.seq|apply CG.region|apply SG.nil|apply NG.next|apply CG.skip|apply CG.block|apply CG.ret|apply CG.exit|apply CG.scope|apply NG.ret_then|apply NG.ret_block|apply NG.ret_scope|apply NG.exit_then|refine NG.exit_block rfl ?_|refine NG.exit_other rfl ?_|apply NG.exit_scope|apply NG.normal_block|apply NG.normal_scope|refine SG.val rfl rfl rfl rfl (by first|((first|apply qmv|apply qas|apply qlc|apply qla|apply qfa|apply qnc|apply qic|apply qix|apply qpk|apply qls|apply qei|apply qni|apply qed|apply qnd|apply qad|apply qln|apply qle|apply qgt|apply qge|apply qlk|apply qlv|apply qxt|apply qsb|apply qnt|apply qep|apply qnp|apply qeb|apply qnb|apply qx2|apply qx4|apply qcv|apply qlm|apply qfr|apply qto|apply qmx|apply qen|apply qsn|apply qx8|apply qx7|apply qx6|apply qx5|apply qx4|apply qx3|apply qx2|apply qx1|apply qx0)<;>(first|exact rfl|exact Ar.mk (by omega)|assumption|exact dct (by assumption)|exact dcf (by assumption)|exact dct (by omega)|exact dcf (by omega)|exact List.not_mem_nil|exact dc_length _|exact nc_length _|exact rc_length _ _ _|exact nm1 (by omega)|exact nm2 (by omega) (by omega)|exact dct rfl|exact dct (by decide)|exact dcf (by decide)|exact (Int.toNat_of_nonneg (by omega)).symm|exact dcu|exact lk1 (by assumption)|exact lk0 (by assumption)))|fail) ?_)
  refine CG.loop (X := Nat) (fun i => [(1, .int .i64 f), (2, .int .i64 t), (3, sv bs), (4, .slice al later.length cl), (5, .pointer (some ⟨b1, 0, none⟩)), (10, .pointer (some ⟨b2, 0, none⟩)), (11, .int .i64 0), (12, .int .i64 (i : Int))])
    (fun i w' => i ≤ later.length ∧ w' = w4) (fun i => later.length - i) 0 ⟨Nat.zero_le _, rfl⟩ (by (repeat' (first | exact True.intro | exact rfl | refine And.intro ?_ ?_))) ?_
  rintro i w5 ⟨hi, rfl⟩
  have hok : ∀ x ∈ later, 0 ≤ x ∧ x ≤ 1000 := fun x hx => by
    have := List.any_eq_false.1 h5 x hx
    unfold badL at this
    rw [decide_eq_true_iff] at this
    omega
  by_cases hlt : i < later.length
  · have g5 : (i : Int) < (later.length : Int) := by omega
    obtain ⟨ba, oa, rfl, hr⟩ := hS4.at hlt
    have hx := hok _ (List.getElem_mem hlt)
    generalize later[i] = x at hr hx
    have k1 : ¬ x < 0 := by omega
    have k2 : ¬ 1000 < x := by omega
    repeat (first|apply CG.seq|apply CG.region|apply SG.nil|apply NG.next|apply CG.skip|apply CG.block|apply CG.ret|apply CG.exit|apply CG.scope|apply NG.ret_then|apply NG.ret_block|apply NG.ret_scope|apply NG.exit_then|refine NG.exit_block rfl ?_|refine NG.exit_other rfl ?_|apply NG.exit_scope|apply NG.normal_block|apply NG.normal_scope|refine SG.val rfl rfl rfl rfl (by first|((first|apply qmv|apply qas|apply qlc|apply qla|apply qfa|apply qnc|apply qic|apply qix|apply qpk|apply qls|apply qei|apply qni|apply qed|apply qnd|apply qad|apply qln|apply qle|apply qgt|apply qge|apply qlk|apply qlv|apply qxt|apply qsb|apply qnt|apply qep|apply qnp|apply qeb|apply qnb|apply qx2|apply qx4|apply qcv|apply qlm|apply qfr|apply qto|apply qmx|apply qen|apply qsn|apply qx8|apply qx7|apply qx6|apply qx5|apply qx4|apply qx3|apply qx2|apply qx1|apply qx0)<;>(first|exact rfl|exact Ar.mk (by omega)|assumption|exact dct (by assumption)|exact dcf (by assumption)|exact dct (by omega)|exact dcf (by omega)|exact List.not_mem_nil|exact dc_length _|exact nc_length _|exact rc_length _ _ _|exact nm1 (by omega)|exact nm2 (by omega) (by omega)|exact dct rfl|exact dct (by decide)|exact dcf (by decide)|exact (Int.toNat_of_nonneg (by omega)).symm|exact dcu|exact lk1 (by assumption)|exact lk0 (by assumption)))|fail) ?_)
    refine CG.cond_t rfl (by exact rho_of rfl) rfl ?_
    repeat (first | first|apply CG.seq|apply CG.region|apply SG.nil|apply NG.next|apply CG.skip|apply CG.block|apply CG.ret|apply CG.exit|apply CG.scope|apply NG.ret_then|apply NG.ret_block|apply NG.ret_scope|apply NG.exit_then|refine NG.exit_block rfl ?_|refine NG.exit_other rfl ?_|apply NG.exit_scope|apply NG.normal_block|apply NG.normal_scope|refine SG.val rfl rfl rfl rfl (by first|((first|apply qmv|apply qas|apply qlc|apply qla|apply qfa|apply qnc|apply qic|apply qix|apply qpk|apply qls|apply qei|apply qni|apply qed|apply qnd|apply qad|apply qln|apply qle|apply qgt|apply qge|apply qlk|apply qlv|apply qxt|apply qsb|apply qnt|apply qep|apply qnp|apply qeb|apply qnb|apply qx2|apply qx4|apply qcv|apply qlm|apply qfr|apply qto|apply qmx|apply qen|apply qsn|apply qx8|apply qx7|apply qx6|apply qx5|apply qx4|apply qx3|apply qx2|apply qx1|apply qx0)<;>(first|exact rfl|exact Ar.mk (by omega)|assumption|exact dct (by assumption)|exact dcf (by assumption)|exact dct (by omega)|exact dcf (by omega)|exact List.not_mem_nil|exact dc_length _|exact nc_length _|exact rc_length _ _ _|exact nm1 (by omega)|exact nm2 (by omega) (by omega)|exact dct rfl|exact dct (by decide)|exact dcf (by decide)|exact (Int.toNat_of_nonneg (by omega)).symm|exact dcu|exact lk1 (by assumption)|exact lk0 (by assumption)))|fail) ?_ | refine SG.skip rfl rfl ?_)
    refine CG.cond_f rfl (by exact rho_of rfl) rfl ?_
    repeat (first|apply CG.seq|apply CG.region|apply SG.nil|apply NG.next|apply CG.skip|apply CG.block|apply CG.ret|apply CG.exit|apply CG.scope|apply NG.ret_then|apply NG.ret_block|apply NG.ret_scope|apply NG.exit_then|refine NG.exit_block rfl ?_|refine NG.exit_other rfl ?_|apply NG.exit_scope|apply NG.normal_block|apply NG.normal_scope|refine SG.val rfl rfl rfl rfl (by first|((first|apply qmv|apply qas|apply qlc|apply qla|apply qfa|apply qnc|apply qic|apply qix|apply qpk|apply qls|apply qei|apply qni|apply qed|apply qnd|apply qad|apply qln|apply qle|apply qgt|apply qge|apply qlk|apply qlv|apply qxt|apply qsb|apply qnt|apply qep|apply qnp|apply qeb|apply qnb|apply qx2|apply qx4|apply qcv|apply qlm|apply qfr|apply qto|apply qmx|apply qen|apply qsn|apply qx8|apply qx7|apply qx6|apply qx5|apply qx4|apply qx3|apply qx2|apply qx1|apply qx0)<;>(first|exact rfl|exact Ar.mk (by omega)|assumption|exact dct (by assumption)|exact dcf (by assumption)|exact dct (by omega)|exact dcf (by omega)|exact List.not_mem_nil|exact dc_length _|exact nc_length _|exact rc_length _ _ _|exact nm1 (by omega)|exact nm2 (by omega) (by omega)|exact dct rfl|exact dct (by decide)|exact dcf (by decide)|exact (Int.toNat_of_nonneg (by omega)).symm|exact dcu|exact lk1 (by assumption)|exact lk0 (by assumption)))|fail) ?_)
    refine NG.round (i + 1) (by (repeat' (first | exact True.intro | exact rfl | refine And.intro ?_ ?_))) ⟨hlt, rfl⟩ (by omega)
  have g5 : ¬ (i : Int) < (later.length : Int) := by omega
  have g6 : ¬ (4096 : Int) < (r.way.length : Int) + (later.length : Int) := by omega
  repeat (first|apply CG.seq|apply CG.region|apply SG.nil|apply NG.next|apply CG.skip|apply CG.block|apply CG.ret|apply CG.exit|apply CG.scope|apply NG.ret_then|apply NG.ret_block|apply NG.ret_scope|apply NG.exit_then|refine NG.exit_block rfl ?_|refine NG.exit_other rfl ?_|apply NG.exit_scope|apply NG.normal_block|apply NG.normal_scope|refine SG.val rfl rfl rfl rfl (by first|((first|apply qmv|apply qas|apply qlc|apply qla|apply qfa|apply qnc|apply qic|apply qix|apply qpk|apply qls|apply qei|apply qni|apply qed|apply qnd|apply qad|apply qln|apply qle|apply qgt|apply qge|apply qlk|apply qlv|apply qxt|apply qsb|apply qnt|apply qep|apply qnp|apply qeb|apply qnb|apply qx2|apply qx4|apply qcv|apply qlm|apply qfr|apply qto|apply qmx|apply qen|apply qsn|apply qx8|apply qx7|apply qx6|apply qx5|apply qx4|apply qx3|apply qx2|apply qx1|apply qx0)<;>(first|exact rfl|exact Ar.mk (by omega)|assumption|exact dct (by assumption)|exact dcf (by assumption)|exact dct (by omega)|exact dcf (by omega)|exact List.not_mem_nil|exact dc_length _|exact nc_length _|exact rc_length _ _ _|exact nm1 (by omega)|exact nm2 (by omega) (by omega)|exact dct rfl|exact dct (by decide)|exact dcf (by decide)|exact (Int.toNat_of_nonneg (by omega)).symm|exact dcu|exact lk1 (by assumption)|exact lk0 (by assumption)))|fail) ?_)
  refine CG.cond_f rfl (by exact rho_of rfl) rfl ?_
  repeat (first|apply CG.seq|apply CG.region|apply SG.nil|apply NG.next|apply CG.skip|apply CG.block|apply CG.ret|apply CG.exit|apply CG.scope|apply NG.ret_then|apply NG.ret_block|apply NG.ret_scope|apply NG.exit_then|refine NG.exit_block rfl ?_|refine NG.exit_other rfl ?_|apply NG.exit_scope|apply NG.normal_block|apply NG.normal_scope|refine SG.val rfl rfl rfl rfl (by first|((first|apply qmv|apply qas|apply qlc|apply qla|apply qfa|apply qnc|apply qic|apply qix|apply qpk|apply qls|apply qei|apply qni|apply qed|apply qnd|apply qad|apply qln|apply qle|apply qgt|apply qge|apply qlk|apply qlv|apply qxt|apply qsb|apply qnt|apply qep|apply qnp|apply qeb|apply qnb|apply qx2|apply qx4|apply qcv|apply qlm|apply qfr|apply qto|apply qmx|apply qen|apply qsn|apply qx8|apply qx7|apply qx6|apply qx5|apply qx4|apply qx3|apply qx2|apply qx1|apply qx0)<;>(first|exact rfl|exact Ar.mk (by omega)|assumption|exact dct (by assumption)|exact dcf (by assumption)|exact dct (by omega)|exact dcf (by omega)|exact List.not_mem_nil|exact dc_length _|exact nc_length _|exact rc_length _ _ _|exact nm1 (by omega)|exact nm2 (by omega) (by omega)|exact dct rfl|exact dct (by decide)|exact dcf (by decide)|exact (Int.toNat_of_nonneg (by omega)).symm|exact dcu|exact lk1 (by assumption)|exact lk0 (by assumption)))|fail) ?_)
  refine CG.cond_f rfl (by exact rho_of rfl) rfl ?_
  repeat (first|apply CG.seq|apply CG.region|apply SG.nil|apply NG.next|apply CG.skip|apply CG.block|apply CG.ret|apply CG.exit|apply CG.scope|apply NG.ret_then|apply NG.ret_block|apply NG.ret_scope|apply NG.exit_then|refine NG.exit_block rfl ?_|refine NG.exit_other rfl ?_|apply NG.exit_scope|apply NG.normal_block|apply NG.normal_scope|refine SG.val rfl rfl rfl rfl (by first|((first|apply qmv|apply qas|apply qlc|apply qla|apply qfa|apply qnc|apply qic|apply qix|apply qpk|apply qls|apply qei|apply qni|apply qed|apply qnd|apply qad|apply qln|apply qle|apply qgt|apply qge|apply qlk|apply qlv|apply qxt|apply qsb|apply qnt|apply qep|apply qnp|apply qeb|apply qnb|apply qx2|apply qx4|apply qcv|apply qlm|apply qfr|apply qto|apply qmx|apply qen|apply qsn|apply qx8|apply qx7|apply qx6|apply qx5|apply qx4|apply qx3|apply qx2|apply qx1|apply qx0)<;>(first|exact rfl|exact Ar.mk (by omega)|assumption|exact dct (by assumption)|exact dcf (by assumption)|exact dct (by omega)|exact dcf (by omega)|exact List.not_mem_nil|exact dc_length _|exact nc_length _|exact rc_length _ _ _|exact nm1 (by omega)|exact nm2 (by omega) (by omega)|exact dct rfl|exact dct (by decide)|exact dcf (by decide)|exact (Int.toNat_of_nonneg (by omega)).symm|exact dcu|exact lk1 (by assumption)|exact lk0 (by assumption)))|fail) ?_)
  refine SG.empty rfl rfl (fun b0 w6 hk6 hb0 hB0 => ?_)
  have hB1 := hB1.kp0 hk6
  have hB2 := hB2.kp0 hk6
  obtain ⟨q0, q1, q2, q3, q4⟩ := rows47 hB1
  have e56 := hk6.size
  repeat (first|apply CG.seq|apply CG.region|apply SG.nil|apply NG.next|apply CG.skip|apply CG.block|apply CG.ret|apply CG.exit|apply CG.scope|apply NG.ret_then|apply NG.ret_block|apply NG.ret_scope|apply NG.exit_then|refine NG.exit_block rfl ?_|refine NG.exit_other rfl ?_|apply NG.exit_scope|apply NG.normal_block|apply NG.normal_scope|refine SG.val rfl rfl rfl rfl (by first|((first|apply qmv|apply qas|apply qlc|apply qla|apply qfa|apply qnc|apply qic|apply qix|apply qpk|apply qls|apply qei|apply qni|apply qed|apply qnd|apply qad|apply qln|apply qle|apply qgt|apply qge|apply qlk|apply qlv|apply qxt|apply qsb|apply qnt|apply qep|apply qnp|apply qeb|apply qnb|apply qx2|apply qx4|apply qcv|apply qlm|apply qfr|apply qto|apply qmx|apply qen|apply qsn|apply qx8|apply qx7|apply qx6|apply qx5|apply qx4|apply qx3|apply qx2|apply qx1|apply qx0)<;>(first|exact rfl|exact Ar.mk (by omega)|assumption|exact dct (by assumption)|exact dcf (by assumption)|exact dct (by omega)|exact dcf (by omega)|exact List.not_mem_nil|exact dc_length _|exact nc_length _|exact rc_length _ _ _|exact nm1 (by omega)|exact nm2 (by omega) (by omega)|exact dct rfl|exact dct (by decide)|exact dcf (by decide)|exact (Int.toNat_of_nonneg (by omega)).symm|exact dcu|exact lk1 (by assumption)|exact lk0 (by assumption)))|fail) ?_)
  refine SG.cloneO (enc := cpl) (l := r.way) (m := w.heap.size) rfl rfl rfl cpl_length cpl_one (by exact rho_of rfl) (by exact rho_of rfl) rfl rfl rfl (by simp only [maxLen]; omega) (by show r.way.length * 40 ≤ _; omega) (by omega) (hSw.kp0 (k04.trans hk6)) hB0 (fun vw w7 hk7 how => ?_)
  obtain ⟨aw, cw, rfl⟩ := own_slice how
  have hB1 := hB1.kp0 hk7
  have hB2 := hB2.kp0 hk7
  have e67 := hk7.size
  repeat (first|apply CG.seq|apply CG.region|apply SG.nil|apply NG.next|apply CG.skip|apply CG.block|apply CG.ret|apply CG.exit|apply CG.scope|apply NG.ret_then|apply NG.ret_block|apply NG.ret_scope|apply NG.exit_then|refine NG.exit_block rfl ?_|refine NG.exit_other rfl ?_|apply NG.exit_scope|apply NG.normal_block|apply NG.normal_scope|refine SG.val rfl rfl rfl rfl (by first|((first|apply qmv|apply qas|apply qlc|apply qla|apply qfa|apply qnc|apply qic|apply qix|apply qpk|apply qls|apply qei|apply qni|apply qed|apply qnd|apply qad|apply qln|apply qle|apply qgt|apply qge|apply qlk|apply qlv|apply qxt|apply qsb|apply qnt|apply qep|apply qnp|apply qeb|apply qnb|apply qx2|apply qx4|apply qcv|apply qlm|apply qfr|apply qto|apply qmx|apply qen|apply qsn|apply qx8|apply qx7|apply qx6|apply qx5|apply qx4|apply qx3|apply qx2|apply qx1|apply qx0)<;>(first|exact rfl|exact Ar.mk (by omega)|assumption|exact dct (by assumption)|exact dcf (by assumption)|exact dct (by omega)|exact dcf (by omega)|exact List.not_mem_nil|exact dc_length _|exact nc_length _|exact rc_length _ _ _|exact nm1 (by omega)|exact nm2 (by omega) (by omega)|exact dct rfl|exact dct (by decide)|exact dcf (by decide)|exact (Int.toNat_of_nonneg (by omega)).symm|exact dcu|exact lk1 (by assumption)|exact lk0 (by assumption)))|fail) ?_)
  refine SG.setMid [.int .i64 r.parties, .int .i64 r.now] [.slice a r.way.length c] [.slice a' r.cuts.length c'] rfl rfl (by exact rho_of rfl) (by exact rho_of rfl) hB1 rfl rfl rfl rfl rfl (fun w8 hk8 hB8 => ?_)
  have hB8 : Blk w8 b1 (.cells (rcl r (.slice aw r.way.length cw) (.slice a' r.cuts.length c')).toArray 47) := hB8
  have hB28 := hB2.kp hk8 (nm1 (by omega))
  have k08 : Kp [] w w8 := ((k04.trans hk6).trans hk7).trans_new hk8 (new1 hb1)
  have how8 : w8.ownsRow w.heap.size 98 4 (.slice aw r.way.length cw) r.way.length (flt cpl r.way) := own_kp how hk8 (fun z hz hm => by
    rw [List.mem_singleton] at hm
    subst hm
    obtain ⟨cs, hc⟩ := own_blk how hz
    exact ne_ty (by decide) hB1 hc rfl)
  repeat (first|apply CG.seq|apply CG.region|apply SG.nil|apply NG.next|apply CG.skip|apply CG.block|apply CG.ret|apply CG.exit|apply CG.scope|apply NG.ret_then|apply NG.ret_block|apply NG.ret_scope|apply NG.exit_then|refine NG.exit_block rfl ?_|refine NG.exit_other rfl ?_|apply NG.exit_scope|apply NG.normal_block|apply NG.normal_scope|refine SG.val rfl rfl rfl rfl (by first|((first|apply qmv|apply qas|apply qlc|apply qla|apply qfa|apply qnc|apply qic|apply qix|apply qpk|apply qls|apply qei|apply qni|apply qed|apply qnd|apply qad|apply qln|apply qle|apply qgt|apply qge|apply qlk|apply qlv|apply qxt|apply qsb|apply qnt|apply qep|apply qnp|apply qeb|apply qnb|apply qx2|apply qx4|apply qcv|apply qlm|apply qfr|apply qto|apply qmx|apply qen|apply qsn|apply qx8|apply qx7|apply qx6|apply qx5|apply qx4|apply qx3|apply qx2|apply qx1|apply qx0)<;>(first|exact rfl|exact Ar.mk (by omega)|assumption|exact dct (by assumption)|exact dcf (by assumption)|exact dct (by omega)|exact dcf (by omega)|exact List.not_mem_nil|exact dc_length _|exact nc_length _|exact rc_length _ _ _|exact nm1 (by omega)|exact nm2 (by omega) (by omega)|exact dct rfl|exact dct (by decide)|exact dcf (by decide)|exact (Int.toNat_of_nonneg (by omega)).symm|exact dcu|exact lk1 (by assumption)|exact lk0 (by assumption)))|fail) ?_)
  refine CG.loop (X := Nat × Value) (fun q => [(1, .int .i64 f), (2, .int .i64 t), (3, sv bs), (4, .slice al later.length cl), (5, .pointer (some ⟨b1, 0, none⟩)), (10, .pointer (some ⟨b2, 0, none⟩)), (11, .int .i64 0), (13, .int .i64 (q.1 : Int))])
    (fun q w' => q.1 ≤ later.length ∧ Kp [] w w' ∧ Blk w' b1 (.cells (rcl (r.send f t bs (later.take q.1)) q.2 (.slice a' r.cuts.length c')).toArray 47) ∧ Blk w' b2 (.cells (rcl (Rn.new 0) nilS nilS).toArray 47)
      ∧ w'.ownsRow w.heap.size 98 4 q.2 (r.send f t bs (later.take q.1)).way.length (flt cpl (r.send f t bs (later.take q.1)).way))
    (fun q => later.length - q.1) (0, .slice aw r.way.length cw) ⟨Nat.zero_le _, k08, hB8, hB28, ?_⟩ (by (repeat' (first | exact True.intro | exact rfl | refine And.intro ?_ ?_))) ?_
  · have e0 : (r.send f t bs (later.take 0)).way = r.way := by
      show r.way ++ [] = r.way
      rw [List.append_nil]
    show w8.ownsRow w.heap.size 98 4 (.slice aw r.way.length cw) (r.send f t bs (later.take 0)).way.length (flt cpl (r.send f t bs (later.take 0)).way)
    rw [e0]
    exact how8
  rintro ⟨j, vw⟩ w9 ⟨hj, hk9, hB1, hB2, how⟩
  replace hj : j ≤ later.length := hj
  replace hB1 : Blk w9 b1 (.cells (rcl (r.send f t bs (later.take j)) vw (.slice a' r.cuts.length c')).toArray 47) := hB1
  replace how : w9.ownsRow w.heap.size 98 4 vw (r.send f t bs (later.take j)).way.length (flt cpl (r.send f t bs (later.take j)).way) := how
  refine CG.to [(1, .int .i64 f), (2, .int .i64 t), (3, sv bs), (4, .slice al later.length cl), (5, .pointer (some ⟨b1, 0, none⟩)), (10, .pointer (some ⟨b2, 0, none⟩)), (11, .int .i64 0), (13, .int .i64 (j : Int))] (by (repeat' (first | exact True.intro | exact rfl | refine And.intro ?_ ?_))) ?_
  obtain ⟨q0, q1, q2, q3, q4⟩ := rows47 hB1
  have q1 : Row w9 b1 1 [.int .i64 r.now] := q1
  have e09 := hk9.size
  by_cases hlt : j < later.length
  · have g7 : (j : Int) < (later.length : Int) := by omega
    obtain ⟨ba, oa, rfl, hr⟩ := (hS.kp0 hk9).at hlt
    have hx := hok _ (List.getElem_mem hlt)
    have htk : later.take (j + 1) = later.take j ++ [later[j]] := List.take_succ_eq_append_getElem hlt
    have hwl : (r.send f t bs (later.take j)).way.length = r.way.length + j := by
      show (r.way ++ (later.take j).map _).length = _
      rw [List.length_append, List.length_map, List.length_take]
      omega
    generalize later[j] = x at hr hx htk
    obtain ⟨k, rfl⟩ : ∃ k : Nat, x = (k : Int) := ⟨x.toNat, by omega⟩
    have hsn : (r.send f t bs (later.take (j + 1))).way = (r.send f t bs (later.take j)).way ++ [⟨f, t, bs, r.now + k⟩] := by
      show r.way ++ (later.take (j + 1)).map _ = (r.way ++ (later.take j).map _) ++ _
      rw [htk, List.map_append, ← List.append_assoc]
      rfl
    obtain ⟨aw', cw', rfl⟩ := own_slice how
    repeat (first|apply CG.seq|apply CG.region|apply SG.nil|apply NG.next|apply CG.skip|apply CG.block|apply CG.ret|apply CG.exit|apply CG.scope|apply NG.ret_then|apply NG.ret_block|apply NG.ret_scope|apply NG.exit_then|refine NG.exit_block rfl ?_|refine NG.exit_other rfl ?_|apply NG.exit_scope|apply NG.normal_block|apply NG.normal_scope|refine SG.val rfl rfl rfl rfl (by first|((first|apply qmv|apply qas|apply qlc|apply qla|apply qfa|apply qnc|apply qic|apply qix|apply qpk|apply qls|apply qei|apply qni|apply qed|apply qnd|apply qad|apply qln|apply qle|apply qgt|apply qge|apply qlk|apply qlv|apply qxt|apply qsb|apply qnt|apply qep|apply qnp|apply qeb|apply qnb|apply qx2|apply qx4|apply qcv|apply qlm|apply qfr|apply qto|apply qmx|apply qen|apply qsn|apply qx8|apply qx7|apply qx6|apply qx5|apply qx4|apply qx3|apply qx2|apply qx1|apply qx0)<;>(first|exact rfl|exact Ar.mk (by omega)|assumption|exact dct (by assumption)|exact dcf (by assumption)|exact dct (by omega)|exact dcf (by omega)|exact List.not_mem_nil|exact dc_length _|exact nc_length _|exact rc_length _ _ _|exact nm1 (by omega)|exact nm2 (by omega) (by omega)|exact dct rfl|exact dct (by decide)|exact dcf (by decide)|exact (Int.toNat_of_nonneg (by omega)).symm|exact dcu|exact lk1 (by assumption)|exact lk0 (by assumption)))|fail) ?_)
    refine CG.cond_t rfl (by exact rho_of rfl) rfl ?_
    repeat (first|apply CG.seq|apply CG.region|apply SG.nil|apply NG.next|apply CG.skip|apply CG.block|apply CG.ret|apply CG.exit|apply CG.scope|apply NG.ret_then|apply NG.ret_block|apply NG.ret_scope|apply NG.exit_then|refine NG.exit_block rfl ?_|refine NG.exit_other rfl ?_|apply NG.exit_scope|apply NG.normal_block|apply NG.normal_scope|refine SG.val rfl rfl rfl rfl (by first|((first|apply qmv|apply qas|apply qlc|apply qla|apply qfa|apply qnc|apply qic|apply qix|apply qpk|apply qls|apply qei|apply qni|apply qed|apply qnd|apply qad|apply qln|apply qle|apply qgt|apply qge|apply qlk|apply qlv|apply qxt|apply qsb|apply qnt|apply qep|apply qnp|apply qeb|apply qnb|apply qx2|apply qx4|apply qcv|apply qlm|apply qfr|apply qto|apply qmx|apply qen|apply qsn|apply qx8|apply qx7|apply qx6|apply qx5|apply qx4|apply qx3|apply qx2|apply qx1|apply qx0)<;>(first|exact rfl|exact Ar.mk (by omega)|assumption|exact dct (by assumption)|exact dcf (by assumption)|exact dct (by omega)|exact dcf (by omega)|exact List.not_mem_nil|exact dc_length _|exact nc_length _|exact rc_length _ _ _|exact nm1 (by omega)|exact nm2 (by omega) (by omega)|exact dct rfl|exact dct (by decide)|exact dcf (by decide)|exact (Int.toNat_of_nonneg (by omega)).symm|exact dcu|exact lk1 (by assumption)|exact lk0 (by assumption)))|fail) ?_)
    refine CG.free mixed 14 [0, 1, 2, 3, 4, 5, 6, 7, 8, 9, 10, 11, 12, 13] [(13, gB w9.heap.size 98 1 (cpl ⟨f, t, bs, r.now + k⟩).toArray)] (by kernel_rfl) (by intro p hp y; simp at hp; subst hp; exact gB_stab y) ?_
    repeat (refine DerX.val rfl rfl rfl rfl (by first|((first|apply qmv|apply qas|apply qlc|apply qla|apply qfa|apply qnc|apply qic|apply qix|apply qpk|apply qls|apply qei|apply qni|apply qed|apply qnd|apply qad|apply qln|apply qle|apply qgt|apply qge|apply qlk|apply qlv|apply qxt|apply qsb|apply qnt|apply qep|apply qnp|apply qeb|apply qnb|apply qx2|apply qx4|apply qcv|apply qlm|apply qfr|apply qto|apply qmx|apply qen|apply qsn|apply qx8|apply qx7|apply qx6|apply qx5|apply qx4|apply qx3|apply qx2|apply qx1|apply qx0)<;>(first|exact rfl|exact Ar.mk (by omega)|assumption|exact dct (by assumption)|exact dcf (by assumption)|exact dct (by omega)|exact dcf (by omega)|exact List.not_mem_nil|exact dc_length _|exact nc_length _|exact rc_length _ _ _|exact nm1 (by omega)|exact nm2 (by omega) (by omega)|exact dct rfl|exact dct (by decide)|exact dcf (by decide)|exact (Int.toNat_of_nonneg (by omega)).symm|exact dcu|exact lk1 (by assumption)|exact lk0 (by assumption)))|fail) ?_)
    refine DerX.val rfl rfl rfl rfl (vals_build rfl (fun w => build98' w ⟨f, t, bs, r.now + k⟩)) ?_
    refine DerX.buildB rfl rfl rfl rfl rfl (Nat.le_refl _) (fun w => bs44 w ⟨f, t, bs, r.now + k⟩) (fun b13 => ?_)
    refine DerX.tl (fun w10 hk10 hF => ?_)
    have hB13 : w9.heap.size ≤ b13 ∧ Blk w10 b13 (.cells (cpl ⟨f, t, bs, r.now + k⟩).toArray 98) := hF _ (.head _)
    clear hF
    have how10 := own_kp0 how hk10
    refine SG.append rfl rfl rfl (by exact rho_of rfl) (by exact rho_of rfl) rfl rfl rfl how10 (Row.all hB13.2 rfl) rfl (cpl_one _) (by simp only [maxLen]; omega) (by show ((r.send f t bs (later.take j)).way.length + 1) * 40 ≤ _; omega) (by have := hk10.size; omega) (fun vw' w11 hk11 how11 => ?_)
    have hB1' := blk_own how10 (by decide) (hB1.kp0 hk10) hk11
    have hB2' := blk_own how10 (by decide) (hB2.kp0 hk10) hk11
    obtain ⟨aw2, cw2, rfl⟩ := own_slice how11
    repeat (first|apply CG.seq|apply CG.region|apply SG.nil|apply NG.next|apply CG.skip|apply CG.block|apply CG.ret|apply CG.exit|apply CG.scope|apply NG.ret_then|apply NG.ret_block|apply NG.ret_scope|apply NG.exit_then|refine NG.exit_block rfl ?_|refine NG.exit_other rfl ?_|apply NG.exit_scope|apply NG.normal_block|apply NG.normal_scope|refine SG.val rfl rfl rfl rfl (by first|((first|apply qmv|apply qas|apply qlc|apply qla|apply qfa|apply qnc|apply qic|apply qix|apply qpk|apply qls|apply qei|apply qni|apply qed|apply qnd|apply qad|apply qln|apply qle|apply qgt|apply qge|apply qlk|apply qlv|apply qxt|apply qsb|apply qnt|apply qep|apply qnp|apply qeb|apply qnb|apply qx2|apply qx4|apply qcv|apply qlm|apply qfr|apply qto|apply qmx|apply qen|apply qsn|apply qx8|apply qx7|apply qx6|apply qx5|apply qx4|apply qx3|apply qx2|apply qx1|apply qx0)<;>(first|exact rfl|exact Ar.mk (by omega)|assumption|exact dct (by assumption)|exact dcf (by assumption)|exact dct (by omega)|exact dcf (by omega)|exact List.not_mem_nil|exact dc_length _|exact nc_length _|exact rc_length _ _ _|exact nm1 (by omega)|exact nm2 (by omega) (by omega)|exact dct rfl|exact dct (by decide)|exact dcf (by decide)|exact (Int.toNat_of_nonneg (by omega)).symm|exact dcu|exact lk1 (by assumption)|exact lk0 (by assumption)))|fail) ?_)
    refine SG.setMid [.int .i64 r.parties, .int .i64 r.now] [.slice aw' (r.send f t bs (later.take j)).way.length cw'] [.slice a' r.cuts.length c'] rfl rfl (by exact rho_of rfl) (by exact rho_of rfl) hB1' rfl rfl rfl rfl rfl (fun w12 hk12 hB12 => ?_)
    repeat (first|apply CG.seq|apply CG.region|apply SG.nil|apply NG.next|apply CG.skip|apply CG.block|apply CG.ret|apply CG.exit|apply CG.scope|apply NG.ret_then|apply NG.ret_block|apply NG.ret_scope|apply NG.exit_then|refine NG.exit_block rfl ?_|refine NG.exit_other rfl ?_|apply NG.exit_scope|apply NG.normal_block|apply NG.normal_scope|refine SG.val rfl rfl rfl rfl (by first|((first|apply qmv|apply qas|apply qlc|apply qla|apply qfa|apply qnc|apply qic|apply qix|apply qpk|apply qls|apply qei|apply qni|apply qed|apply qnd|apply qad|apply qln|apply qle|apply qgt|apply qge|apply qlk|apply qlv|apply qxt|apply qsb|apply qnt|apply qep|apply qnp|apply qeb|apply qnb|apply qx2|apply qx4|apply qcv|apply qlm|apply qfr|apply qto|apply qmx|apply qen|apply qsn|apply qx8|apply qx7|apply qx6|apply qx5|apply qx4|apply qx3|apply qx2|apply qx1|apply qx0)<;>(first|exact rfl|exact Ar.mk (by omega)|assumption|exact dct (by assumption)|exact dcf (by assumption)|exact dct (by omega)|exact dcf (by omega)|exact List.not_mem_nil|exact dc_length _|exact nc_length _|exact rc_length _ _ _|exact nm1 (by omega)|exact nm2 (by omega) (by omega)|exact dct rfl|exact dct (by decide)|exact dcf (by decide)|exact (Int.toNat_of_nonneg (by omega)).symm|exact dcu|exact lk1 (by assumption)|exact lk0 (by assumption)))|fail) ?_)
    refine NG.round (j + 1, .slice aw2 ((r.send f t bs (later.take j)).way.length + 1) cw2) (by (repeat' (first | exact True.intro | exact rfl | refine And.intro ?_ ?_))) ⟨by show j + 1 ≤ later.length; omega, ((hk9.trans hk10).trans_new hk11 (own_new how10 (Nat.le_refl _))).trans_new hk12 (new1 hb1), hB12, hB2'.kp hk12 (nm1 (by omega)), ?_⟩ (by show later.length - (j + 1) < later.length - j; omega)
    show w12.ownsRow w.heap.size 98 4 (.slice aw2 ((r.send f t bs (later.take j)).way.length + 1) cw2) (r.send f t bs (later.take (j + 1))).way.length (flt cpl (r.send f t bs (later.take (j + 1))).way)
    rw [hsn, flt_append, flt_one, List.length_append]
    refine own_kp how11 hk12 (fun z hz hm => ?_)
    rw [List.mem_singleton] at hm
    subst hm
    obtain ⟨cs, hc⟩ := own_blk how11 hz
    exact ne_ty (by decide) hB1' hc rfl
  have g7 : ¬ (j : Int) < (later.length : Int) := by omega
  rw [List.take_of_length_le (by omega)] at hB1 how q4
  obtain ⟨aw', cw', rfl⟩ := own_slice how
  repeat (first|apply CG.seq|apply CG.region|apply SG.nil|apply NG.next|apply CG.skip|apply CG.block|apply CG.ret|apply CG.exit|apply CG.scope|apply NG.ret_then|apply NG.ret_block|apply NG.ret_scope|apply NG.exit_then|refine NG.exit_block rfl ?_|refine NG.exit_other rfl ?_|apply NG.exit_scope|apply NG.normal_block|apply NG.normal_scope|refine SG.val rfl rfl rfl rfl (by first|((first|apply qmv|apply qas|apply qlc|apply qla|apply qfa|apply qnc|apply qic|apply qix|apply qpk|apply qls|apply qei|apply qni|apply qed|apply qnd|apply qad|apply qln|apply qle|apply qgt|apply qge|apply qlk|apply qlv|apply qxt|apply qsb|apply qnt|apply qep|apply qnp|apply qeb|apply qnb|apply qx2|apply qx4|apply qcv|apply qlm|apply qfr|apply qto|apply qmx|apply qen|apply qsn|apply qx8|apply qx7|apply qx6|apply qx5|apply qx4|apply qx3|apply qx2|apply qx1|apply qx0)<;>(first|exact rfl|exact Ar.mk (by omega)|assumption|exact dct (by assumption)|exact dcf (by assumption)|exact dct (by omega)|exact dcf (by omega)|exact List.not_mem_nil|exact dc_length _|exact nc_length _|exact rc_length _ _ _|exact nm1 (by omega)|exact nm2 (by omega) (by omega)|exact dct rfl|exact dct (by decide)|exact dcf (by decide)|exact (Int.toNat_of_nonneg (by omega)).symm|exact dcu|exact lk1 (by assumption)|exact lk0 (by assumption)))|fail) ?_)
  refine CG.cond_f rfl (by exact rho_of rfl) rfl ?_
  repeat (first|apply CG.seq|apply CG.region|apply SG.nil|apply NG.next|apply CG.skip|apply CG.block|apply CG.ret|apply CG.exit|apply CG.scope|apply NG.ret_then|apply NG.ret_block|apply NG.ret_scope|apply NG.exit_then|refine NG.exit_block rfl ?_|refine NG.exit_other rfl ?_|apply NG.exit_scope|apply NG.normal_block|apply NG.normal_scope|refine SG.val rfl rfl rfl rfl (by first|((first|apply qmv|apply qas|apply qlc|apply qla|apply qfa|apply qnc|apply qic|apply qix|apply qpk|apply qls|apply qei|apply qni|apply qed|apply qnd|apply qad|apply qln|apply qle|apply qgt|apply qge|apply qlk|apply qlv|apply qxt|apply qsb|apply qnt|apply qep|apply qnp|apply qeb|apply qnb|apply qx2|apply qx4|apply qcv|apply qlm|apply qfr|apply qto|apply qmx|apply qen|apply qsn|apply qx8|apply qx7|apply qx6|apply qx5|apply qx4|apply qx3|apply qx2|apply qx1|apply qx0)<;>(first|exact rfl|exact Ar.mk (by omega)|assumption|exact dct (by assumption)|exact dcf (by assumption)|exact dct (by omega)|exact dcf (by omega)|exact List.not_mem_nil|exact dc_length _|exact nc_length _|exact rc_length _ _ _|exact nm1 (by omega)|exact nm2 (by omega) (by omega)|exact dct rfl|exact dct (by decide)|exact dcf (by decide)|exact (Int.toNat_of_nonneg (by omega)).symm|exact dcu|exact lk1 (by assumption)|exact lk0 (by assumption)))|fail) ?_)
  refine SG.setAll (old := rcl (Rn.new 0) nilS nilS) (l := rcl (r.send f t bs later) (.slice aw' (r.send f t bs later).way.length cw') (.slice a' r.cuts.length c')) rfl rfl (by exact rho_of rfl) (by exact rho_of rfl) hB2 rfl rfl rfl (fun w10 hk10 hB10 => ?_)
  obtain ⟨_, _, _, _, hres⟩ := rows47 hB10
  repeat (first|apply CG.seq|apply CG.region|apply SG.nil|apply NG.next|apply CG.skip|apply CG.block|apply CG.ret|apply CG.exit|apply CG.scope|apply NG.ret_then|apply NG.ret_block|apply NG.ret_scope|apply NG.exit_then|refine NG.exit_block rfl ?_|refine NG.exit_other rfl ?_|apply NG.exit_scope|apply NG.normal_block|apply NG.normal_scope|refine SG.val rfl rfl rfl rfl (by first|((first|apply qmv|apply qas|apply qlc|apply qla|apply qfa|apply qnc|apply qic|apply qix|apply qpk|apply qls|apply qei|apply qni|apply qed|apply qnd|apply qad|apply qln|apply qle|apply qgt|apply qge|apply qlk|apply qlv|apply qxt|apply qsb|apply qnt|apply qep|apply qnp|apply qeb|apply qnb|apply qx2|apply qx4|apply qcv|apply qlm|apply qfr|apply qto|apply qmx|apply qen|apply qsn|apply qx8|apply qx7|apply qx6|apply qx5|apply qx4|apply qx3|apply qx2|apply qx1|apply qx0)<;>(first|exact rfl|exact Ar.mk (by omega)|assumption|exact dct (by assumption)|exact dcf (by assumption)|exact dct (by omega)|exact dcf (by omega)|exact List.not_mem_nil|exact dc_length _|exact nc_length _|exact rc_length _ _ _|exact nm1 (by omega)|exact nm2 (by omega) (by omega)|exact dct rfl|exact dct (by decide)|exact dcf (by decide)|exact (Int.toNat_of_nonneg (by omega)).symm|exact dcu|exact lk1 (by assumption)|exact lk0 (by assumption)))|fail) ?_)
  refine ret2 (Or.inl rfl) Try.results35 (ResV.agg rfl rfl hres rfl) (by first | exact ResV.tmp rfl | exact ResV.agg rfl rfl (by assumption) (by first | exact dc_length _ | exact nc_length _ | exact rc_length _ _ _ | rfl) | exact ResV.cell rfl rfl (by assumption)) ?_
  have k10 : Kp [] w w10 := hk9.trans_new hk10 (new1 (by omega))
  refine ⟨_, rfl, ⟨own_mono (own_kp how hk10 (fun z hz hm => ?_)) (Nat.zero_le _), own_kp0 hR.cuts k10⟩, k10⟩
  rw [List.mem_singleton] at hm
  subst hm
  obtain ⟨cs, hc⟩ := own_blk how hz
  exact ne_ty (by decide) hB2 hc rfl
end Go.Proofs.Ytfelaicoedlejaa
/-
  Effects that stand beside one another: bytes of strings, owned rows, and what holds them.
-/
namespace Go.Proofs.Ytfelaicoedlejaa
set_option linter.unusedVariables false

section
variable {P : Program} {n : Nat} {ops : List Oper} {Q : Exit → Act → World → Prop} {w0 : World} {L : Env} {G : List (Nat × GD)} {K : Env → List Fact → Prop} {Γ : List Fact} {i : Nat} {ord : List Nat} {ty : TypeId} {pos : String} {af : Array Edge} {g : Option (Nat × Bool)}
/-- What is promised of the bytes of a string, and of what holds them. -/
def gT (l : List UInt8) (mk : Value → Value) : GD := ⟨Nat × Nat, (0, 0), fun q => mk (.slice (some ⟨q.1, 0, none⟩) l.length q.2), fun q w => Sl (fun u : UInt8 => [bv u]) 1 w (some ⟨q.1, 0, none⟩) l⟩
theorem gT_stab {l : List UInt8} {mk : Value → Value} (x : (gT l mk).X) : Stab [] ((gT l mk).phi x) := fun w w' hk h => Sl.kp0 h hk
theorem DerX.strB {T T' E : TypeId} [u : Ut P T .string] [u' : Ut P T' (.slice E)] [e : Ut P E (.int .u8)] {d : Nat} {x : Operand} {l : List UInt8} (hg : gdLook G i = some (gT l (fun v => v)))
    (ho : ops[i]? = some ⟨some d, .convert T T' x, ty, pos, af, g⟩) (hw : want ops L ⟨some d, .convert T T' x, ty, pos, af, g⟩ = some true) (hk : (Op.convert T T' x).operands.toList.all (known L) = true) (hx : ro L x = some (sv l))
    (h : ∀ b c : Nat, DerX P w0 ops G K ord ((d, .slice (some ⟨b, 0, none⟩) l.length c) :: L) ((i, fun w => Sl (fun u : UInt8 => [bv u]) 1 w (some ⟨b, 0, none⟩) l) :: Γ)) : DerX P w0 ops G K (i :: ord) L Γ := by
  refine DerX.eff (gT l (fun v => v)) hg ho hw hk (fun w h1 h2 => ?_) (fun x => h x.1 x.2)
  unfold OpRun
  obtain ⟨c, o, e1, e2⟩ := run_strB (P := P) (T := T) (T' := T') (u := u) (u' := u') (e := e) w l
  have : (execOp (rho L) ⟨some d, .convert T T' x, ty, pos, af, g⟩).run P w = .ok (.value (.slice (some ⟨w.heap.size, 0, none⟩) l.length c)) (w.drew.alloc o) := by
    simp only [execOp, rho_of hx, Sem.run_bind, e1, Result.andThen, Sem.run_pure]
  rw [this]
  exact ⟨(w.heap.size, c), rfl, e2, Kp.alloc_any w o⟩
theorem DerX.wrapT {d : Nat} {l : List UInt8} {mk : Value → Value} {op : Op} {v : Value} (b c : Nat) (hg : gdLook G i = some (gT l mk)) (ho : ops[i]? = some ⟨some d, op, ty, pos, af, g⟩) (hw : want ops L ⟨some d, op, ty, pos, af, g⟩ = some true) (hk : op.operands.toList.all (known L) = true)
    (hv : Vals P [] w0 (Facts ops i Γ) L ⟨some d, op, ty, pos, af, g⟩ v) (hx : v = mk (.slice (some ⟨b, 0, none⟩) l.length c)) (hphi : ∀ w, Kp [] w0 w → Facts ops i Γ w → Sl (fun u : UInt8 => [bv u]) 1 w (some ⟨b, 0, none⟩) l)
    (h : ∀ b c : Nat, DerX P w0 ops G K ord ((d, mk (.slice (some ⟨b, 0, none⟩) l.length c)) :: L) ((i, fun w => Sl (fun u : UInt8 => [bv u]) 1 w (some ⟨b, 0, none⟩) l) :: Γ)) : DerX P w0 ops G K (i :: ord) L Γ :=
  DerX.valE (gT l mk) (b, c) hg ho hw hk hv hx hphi (fun x => h x.1 x.2)
/-- .. of an owned row, and of what holds it. -/
def gOW {α : Type} (m : Nat) (E : TypeId) (enc : α → List Value) (sz : Nat) (l : List α) (mk : Value → Value) : GD := ⟨Value, undef, mk, fun v w => w.ownsRow m E sz v l.length (flt enc l)⟩
theorem gOW_stab {α : Type} {m : Nat} {E : TypeId} {enc : α → List Value} {sz : Nat} {l : List α} {mk : Value → Value} (x : (gOW m E enc sz l mk).X) : Stab [] ((gOW m E enc sz l mk).phi x) := fun w w' hk h => own_kp0 h hk
theorem DerX.wrapO {α : Type} {enc : α → List Value} {sz m d : Nat} {E : TypeId} {l : List α} {mk : Value → Value} {op : Op} {v : Value} (o : Value) (hg : gdLook G i = some (gOW m E enc sz l mk)) (ho : ops[i]? = some ⟨some d, op, ty, pos, af, g⟩) (hw : want ops L ⟨some d, op, ty, pos, af, g⟩ = some true) (hk : op.operands.toList.all (known L) = true)
    (hv : Vals P [] w0 (Facts ops i Γ) L ⟨some d, op, ty, pos, af, g⟩ v) (hx : v = mk o) (hphi : ∀ w, Kp [] w0 w → Facts ops i Γ w → w.ownsRow m E sz o l.length (flt enc l))
    (h : ∀ o : Value, DerX P w0 ops G K ord ((d, mk o) :: L) ((i, fun w => w.ownsRow m E sz o l.length (flt enc l)) :: Γ)) : DerX P w0 ops G K (i :: ord) L Γ :=
  DerX.valE (gOW m E enc sz l mk) o hg ho hw hk hv hx hphi h
end
end Go.Proofs.Ytfelaicoedlejaa
/-
  A deed is done on both: the net and the document's.
-/
namespace Go.Proofs.Ytfelaicoedlejaa
set_option linter.unusedVariables false

/-- Both say the same. -/
structure Rel (i : Nat) (s : Ns) (r : Rn) : Prop where
  p : s.parties = r.parties
  p16 : s.parties ≤ 16
  now : s.now = r.now
  nle : s.now ≤ i
  sent : s.sent ≤ 8 * i
  way : s.pend = r.way
  len : s.pend.length ≤ 8 * i
  inx : ∀ c ∈ s.pend, c.fr < 16 ∧ c.to < 16 ∧ c.bs.length ≤ 65536 ∧ c.due ≤ i + 1000
  cl : s.cuts.length = 256
  rcl : r.cuts.length ≤ i
  rin : ∀ p ∈ r.cuts, p.1 < 16 ∧ p.2 < 16
  cut : ∀ f t, f < 16 → t < 16 → s.cutAt f t = decide ((f, t) ∈ r.cuts)
theorem Rel.ok {i : Nat} {s : Ns} {r : Rn} (h : Rel i s r) (hi : i ≤ 200) : RnOk r := by
  refine ⟨by rw [← h.p]; exact h.p16, by rw [← h.now]; have := h.nle; omega, by rw [← h.way]; have := h.len; omega, by have := h.rcl; omega, h.rin, fun c hc => ?_⟩
  obtain ⟨h1, h2, h3, h4⟩ := h.inx c (by rw [h.way]; exact hc)
  exact ⟨h1, h2, h3, by omega⟩
theorem Rel.inn {i : Nat} {s : Ns} {r : Rn} (h : Rel i s r) : ∀ c ∈ s.pend, c.fr < 16 ∧ c.to < 16 ∧ c.bs.length ≤ 65536 := fun c hc => ⟨(h.inx c hc).1, (h.inx c hc).2.1, (h.inx c hc).2.2.1⟩
theorem Rel.up {i j : Nat} {s : Ns} {r : Rn} (h : Rel i s r) (hj : i ≤ j) : Rel j s r :=
  ⟨h.p, h.p16, h.now, by have := h.nle; omega, by have := h.sent; omega, h.way, by have := h.len; omega, fun c hc => by obtain ⟨h1, h2, h3, h4⟩ := h.inx c hc; exact ⟨h1, h2, h3, by omega⟩, h.cl, by have := h.rcl; omega, h.rin, h.cut⟩
theorem rel0 (n : Nat) (h : n ≤ 16) : Rel 0 (Ns.new n) (Rn.new n) := by
  refine ⟨rfl, h, rfl, Nat.le_refl _, Nat.le_refl _, rfl, Nat.le_refl _, (fun c hc => by cases hc), List.length_replicate, Nat.le_refl _, (fun p hp => by cases hp), fun f t hf ht => ?_⟩
  show ((List.replicate 256 false)[f * 16 + t]?).getD false = _
  rw [List.getElem?_replicate, if_pos (by omega), decide_eq_false (by show (f, t) ∉ ([] : List (Nat × Nat)); simp)]
  rfl
theorem Rel.sendE {i : Nat} {s : Ns} {r : Rn} (h : Rel i s r) (A B : Int) (n : Nat) (later : List Int) : r.sendE A B n later = s.sendE A B n later := by
  unfold Rn.sendE Ns.sendE
  show (if ¬ (0 ≤ A ∧ A < (r.parties : Int)) ∨ ¬ (0 ≤ B ∧ B < (r.parties : Int)) then (28 : Int) else if 65536 < n then 5 else if 8 < later.length ∨ later.any badL = true then 2 else if 4096 < r.way.length + later.length then 8 else 0) = _
  rw [← h.p, ← h.way]
theorem later_ok {s : Ns} {A B : Int} {n : Nat} {later : List Int} (h : s.sendE A B n later = 0) : (0 ≤ A ∧ A < s.parties) ∧ (0 ≤ B ∧ B < s.parties) ∧ n ≤ 65536 ∧ later.length ≤ 8 ∧ ∀ k ∈ later, 0 ≤ k ∧ k ≤ 1000 := by
  unfold Ns.sendE at h
  split at h
  · cases h
  · rename_i h1
    split at h
    · cases h
    · rename_i h2
      split at h
      · cases h
      · rename_i h3
        refine ⟨by omega, by omega, by omega, by omega, fun k hk => ?_⟩
        have hb : ¬ later.any badL = true := fun hb => h3 (Or.inr hb)
        rw [List.any_eq_true] at hb
        have : ¬ badL k = true := fun hh => hb ⟨k, hk, hh⟩
        unfold badL at this
        rw [decide_eq_true_iff] at this
        omega
theorem Rel.send {i : Nat} {s : Ns} {r : Rn} (h : Rel i s r) {f t : Nat} {bs : List UInt8} {later : List Int} (hE : s.sendE f t bs.length later = 0) : Rel (i + 1) (s.sendAll f t bs later) (r.send f t bs later) := by
  obtain ⟨h1, h2, h3, h4, h5⟩ := later_ok hE
  have hp := h.p16
  have hx : (s.sendAll f t bs later).pend = s.pend ++ later.map (cpOf s f t bs) := rfl
  refine ⟨h.p, h.p16, h.now, by have := h.nle; show s.now ≤ _; omega, by have := h.sent; show s.sent + later.length ≤ _; omega, ?_, ?_, fun c hc => ?_, h.cl, by have := h.rcl; show r.cuts.length ≤ _; omega, h.rin, h.cut⟩
  · show s.pend ++ later.map (cpOf s f t bs) = r.way ++ later.map (cpOf r.toNs f t bs)
    have : cpOf s f t bs = cpOf r.toNs f t bs := by
      funext k
      unfold cpOf
      show Cp.mk f t bs (s.now + k.toNat) = Cp.mk f t bs (r.now + k.toNat)
      rw [h.now]
    rw [h.way, this]
  · rw [hx, List.length_append, List.length_map]
    have := h.len
    omega
  · rw [hx] at hc
    rcases List.mem_append.1 hc with hc | hc
    · obtain ⟨g1, g2, g3, g4⟩ := h.inx c hc
      exact ⟨g1, g2, g3, by omega⟩
    · obtain ⟨k, hk, rfl⟩ := List.mem_map.1 hc
      have := h5 k hk
      have := h.nle
      exact ⟨by show f < 16; omega, by show t < 16; omega, h3, by show s.now + k.toNat ≤ _; omega⟩
theorem Rel.step {i : Nat} {s : Ns} {r : Rn} (h : Rel i s r) : Rel (i + 1) s.step r.step := by
  refine ⟨h.p, h.p16, by show s.now + 1 = r.now + 1; rw [h.now], by have := h.nle; show s.now + 1 ≤ _; omega, by have := h.sent; show s.sent ≤ _; omega, ?_, ?_, fun c hc => ?_, h.cl, by have := h.rcl; show r.cuts.length ≤ _; omega, h.rin, h.cut⟩
  · show s.pend.filter (fun c => !decide ((c.due : Int) = s.now)) = r.way.filter (fun c => !decide ((c.due : Int) = r.now))
    rw [h.way, h.now]
  · refine Nat.le_trans (List.length_filter_le _ _) ?_
    have := h.len
    omega
  · obtain ⟨g1, g2, g3, g4⟩ := h.inx c (List.mem_filter.1 hc).1
    exact ⟨g1, g2, g3, by omega⟩
theorem Rel.out {i : Nat} {s : Ns} {r : Rn} (h : Rel i s r) : s.open_ s.come = r.out := by
  unfold Ns.open_ Ns.come Rn.out
  rw [h.way, h.now, List.filter_filter]
  refine List.filter_congr (fun c hc => ?_)
  obtain ⟨g1, g2, _, _⟩ := h.inx c (by rw [h.way]; exact hc)
  rw [h.cut c.fr c.to g1 g2, Bool.and_comm]
  rfl
theorem Rel.cutS {i : Nat} {s : Ns} {r : Rn} (h : Rel i s r) {f t : Nat} (hf : f < s.parties) (ht : t < s.parties) (b : Bool) : Rel (i + 1) (s.setCut f t b) (r.cut f t b) := by
  have hp := h.p16
  have hc : (r.cut f t b).cuts = r.cuts.filter (fun p => !decide (p = (f, t))) ++ (if b = true then [(f, t)] else []) := rfl
  refine ⟨h.p, h.p16, h.now, by have := h.nle; show s.now ≤ _; omega, by have := h.sent; show s.sent ≤ _; omega, h.way, by have := h.len; show s.pend.length ≤ _; omega, fun c hc => by obtain ⟨h1, h2, h3, h4⟩ := h.inx c hc; exact ⟨h1, h2, h3, by omega⟩, ?_, ?_, fun p hp' => ?_, fun f' t' hf' ht' => ?_⟩
  · show (s.cuts.set _ _).length = _
    rw [List.length_set]
    exact h.cl
  · rw [hc, List.length_append]
    have h1 := List.length_filter_le (fun p => !decide (p = (f, t))) r.cuts
    have h2 := h.rcl
    cases b <;> simp <;> omega
  · rw [hc] at hp'
    rcases List.mem_append.1 hp' with hp' | hp'
    · exact h.rin p (List.mem_filter.1 hp').1
    · cases b with
      | false => cases hp'
      | true =>
        rw [if_pos rfl, List.mem_singleton] at hp'
        subst hp'
        exact ⟨by show f < 16; omega, by show t < 16; omega⟩
  · have hs : (s.setCut f t b).cutAt f' t' = if f = f' ∧ t = t' then b else s.cutAt f' t' := by
      unfold Ns.cutAt
      show ((s.cuts.set (f * 16 + t) b)[f' * 16 + t']?).getD false = _
      rw [List.getElem?_set]
      have := h.cl
      by_cases hh : f = f' ∧ t = t'
      · rw [if_pos (by omega), if_pos (by omega), if_pos hh]
        rfl
      · rw [if_neg (by omega), if_neg hh]
    rw [hs, hc]
    by_cases hh : f = f' ∧ t = t'
    · obtain ⟨rfl, rfl⟩ := hh
      rw [if_pos ⟨rfl, rfl⟩]
      cases b with
      | true => rw [decide_eq_true (by simp)]
      | false => rw [decide_eq_false (by simp)]
    · rw [if_neg hh, h.cut f' t' hf' ht']
      have hne : ¬ (f', t') = (f, t) := fun e => hh (by simp only [Prod.mk.injEq] at e; omega)
      congr 1
      refine propext ⟨fun hm => List.mem_append.2 (Or.inl (List.mem_filter.2 ⟨hm, by rw [decide_eq_false hne]; rfl⟩)), fun hm => ?_⟩
      rcases List.mem_append.1 hm with hm | hm
      · exact (List.mem_filter.1 hm).1
      · cases b with
        | false => cases hm
        | true =>
          rw [if_pos rfl, List.mem_singleton] at hm
          exact absurd hm hne

attribute [local irreducible] CG NG SG Vals Der Row Blk MapIs IterAt DerX sv
set_option maxHeartbeats 8000000 in
theorem alike_spec {w : World} {p q : Option Addr} {l : List Lt} {m : List Cp} (c d : Nat) (hS : Sl lcl 3 w p l) (hT : Sl cpl 4 w q m) (hb : ∀ x ∈ l, Sl byc 1 w x.a x.bs) (he : l.map ltc = m.map cpc) (hl : l.length ≤ 100000) : Ret Try.prog 37 #[.slice p l.length c, .slice q m.length d] w (.bool true) := by
  refine enter2 Try.func37 rfl Try.ntmps37 rfl ?_
  have elen : m.length = l.length := by
    have := congrArg List.length he
    simpa using this.symm
  rw [elen]
  repeat (first|apply CG.seq|apply CG.region|apply SG.nil|apply NG.next|apply CG.skip|apply CG.block|apply CG.ret|apply CG.exit|apply CG.scope|apply NG.ret_then|apply NG.ret_block|apply NG.ret_scope|apply NG.exit_then|refine NG.exit_block rfl ?_|refine NG.exit_other rfl ?_|apply NG.exit_scope|apply NG.normal_block|apply NG.normal_scope|refine SG.val rfl rfl rfl rfl (by first|((first|apply qmv|apply qas|apply qlc|apply qla|apply qfa|apply qnc|apply qic|apply qix|apply qpk|apply qls|apply qei|apply qni|apply qed|apply qnd|apply qad|apply qln|apply qle|apply qgt|apply qge|apply qlk|apply qlv|apply qxt|apply qsb|apply qnt|apply qep|apply qnp|apply qeb|apply qnb|apply qx2|apply qx4|apply qcv|apply qlm|apply qfr|apply qto|apply qmx|apply qen|apply qsn|apply qx8|apply qx7|apply qx6|apply qx5|apply qx4|apply qx3|apply qx2|apply qx1|apply qx0)<;>(first|exact rfl|exact Ar.mk (by omega)|assumption|exact dct (by assumption)|exact dcf (by assumption)|exact dct (by omega)|exact dcf (by omega)|exact List.not_mem_nil|exact dc_length _|exact nc_length _|exact rc_length _ _ _|exact nm1 (by omega)|exact nm2 (by omega) (by omega)|exact dct rfl|exact dct (by decide)|exact dcf (by decide)|exact (Int.toNat_of_nonneg (by omega)).symm|exact dcu|exact lk1 (by assumption)|exact lk0 (by assumption)))|fail) ?_)
  refine CG.cond_f rfl (by exact rho_of rfl) rfl ?_
  repeat (first|apply CG.seq|apply CG.region|apply SG.nil|apply NG.next|apply CG.skip|apply CG.block|apply CG.ret|apply CG.exit|apply CG.scope|apply NG.ret_then|apply NG.ret_block|apply NG.ret_scope|apply NG.exit_then|refine NG.exit_block rfl ?_|refine NG.exit_other rfl ?_|apply NG.exit_scope|apply NG.normal_block|apply NG.normal_scope|refine SG.val rfl rfl rfl rfl (by first|((first|apply qmv|apply qas|apply qlc|apply qla|apply qfa|apply qnc|apply qic|apply qix|apply qpk|apply qls|apply qei|apply qni|apply qed|apply qnd|apply qad|apply qln|apply qle|apply qgt|apply qge|apply qlk|apply qlv|apply qxt|apply qsb|apply qnt|apply qep|apply qnp|apply qeb|apply qnb|apply qx2|apply qx4|apply qcv|apply qlm|apply qfr|apply qto|apply qmx|apply qen|apply qsn|apply qx8|apply qx7|apply qx6|apply qx5|apply qx4|apply qx3|apply qx2|apply qx1|apply qx0)<;>(first|exact rfl|exact Ar.mk (by omega)|assumption|exact dct (by assumption)|exact dcf (by assumption)|exact dct (by omega)|exact dcf (by omega)|exact List.not_mem_nil|exact dc_length _|exact nc_length _|exact rc_length _ _ _|exact nm1 (by omega)|exact nm2 (by omega) (by omega)|exact dct rfl|exact dct (by decide)|exact dcf (by decide)|exact (Int.toNat_of_nonneg (by omega)).symm|exact dcu|exact lk1 (by assumption)|exact lk0 (by assumption)))|fail) ?_)
  refine CG.loop (X := Nat) (fun i => [(0, .slice p l.length c), (1, .slice q l.length d), (4, .bool false), (5, .int .i64 (i : Int))])
    (fun i w' => i ≤ l.length ∧ Kp [] w w') (fun i => l.length - i) 0 ⟨Nat.zero_le _, Kp.refl _ _⟩ (by (repeat' (first | exact True.intro | exact rfl | refine And.intro ?_ ?_))) ?_
  rintro i w1 ⟨hi, hk⟩
  by_cases hlt : i < l.length
  · have g1 : (i : Int) < (l.length : Int) := by omega
    have hlt' : i < m.length := by omega
    obtain ⟨ba, oa, rfl, hr⟩ := (hS.kp0 hk).at hlt
    obtain ⟨bb, ob, rfl, hr'⟩ := (hT.kp0 hk).at hlt'
    have hsb := (hb _ (List.getElem_mem hlt)).kp0 hk
    have hlm : ltc l[i] = cpc m[i] := by
      have h1 : (l.map ltc)[i]? = (m.map cpc)[i]? := by rw [he]
      rw [List.getElem?_map, List.getElem?_map, List.getElem?_eq_getElem hlt, List.getElem?_eq_getElem hlt'] at h1
      simpa using h1
    generalize l[i] = x at hr hsb hlm
    generalize m[i] = y at hr' hlm
    obtain ⟨f, t, bs, a1, c1⟩ := x
    obtain ⟨f2, t2, bs2, d2⟩ := y
    simp only [ltc, cpc, Prod.mk.injEq] at hlm
    obtain ⟨rfl, rfl, rfl⟩ := hlm
    have r0 : Row w1 ba (oa + i * 3 + 0) [.int .i64 f] := Row.sub [] _ [.int .i64 t, .slice a1 bs.length c1] hr
    have r1 : Row w1 ba (oa + i * 3 + 1) [.int .i64 t] := Row.sub [.int .i64 f] _ [.slice a1 bs.length c1] hr
    have r2 : Row w1 ba (oa + i * 3 + 2) [.slice a1 bs.length c1] := Row.sub [.int .i64 f, .int .i64 t] _ [] hr
    have s0 : Row w1 bb (ob + i * 4 + 0) [.int .i64 f] := Row.sub [] _ [.int .i64 t, sv bs, .int .i64 d2] hr'
    have s1 : Row w1 bb (ob + i * 4 + 1) [.int .i64 t] := Row.sub [.int .i64 f] _ [sv bs, .int .i64 d2] hr'
    have s2 : Row w1 bb (ob + i * 4 + 2) [sv bs] := Row.sub [.int .i64 f, .int .i64 t] _ [.int .i64 d2] hr'
    repeat (first|apply CG.seq|apply CG.region|apply SG.nil|apply NG.next|apply CG.skip|apply CG.block|apply CG.ret|apply CG.exit|apply CG.scope|apply NG.ret_then|apply NG.ret_block|apply NG.ret_scope|apply NG.exit_then|refine NG.exit_block rfl ?_|refine NG.exit_other rfl ?_|apply NG.exit_scope|apply NG.normal_block|apply NG.normal_scope|refine SG.val rfl rfl rfl rfl (by first|((first|apply qmv|apply qas|apply qlc|apply qla|apply qfa|apply qnc|apply qic|apply qix|apply qpk|apply qls|apply qei|apply qni|apply qed|apply qnd|apply qad|apply qln|apply qle|apply qgt|apply qge|apply qlk|apply qlv|apply qxt|apply qsb|apply qnt|apply qep|apply qnp|apply qeb|apply qnb|apply qx2|apply qx4|apply qcv|apply qlm|apply qfr|apply qto|apply qmx|apply qen|apply qsn|apply qx8|apply qx7|apply qx6|apply qx5|apply qx4|apply qx3|apply qx2|apply qx1|apply qx0)<;>(first|exact rfl|exact Ar.mk (by omega)|assumption|exact dct (by assumption)|exact dcf (by assumption)|exact dct (by omega)|exact dcf (by omega)|exact List.not_mem_nil|exact dc_length _|exact nc_length _|exact rc_length _ _ _|exact nm1 (by omega)|exact nm2 (by omega) (by omega)|exact dct rfl|exact dct (by decide)|exact dcf (by decide)|exact (Int.toNat_of_nonneg (by omega)).symm|exact dcu|exact lk1 (by assumption)|exact lk0 (by assumption)))|fail) ?_)
    refine CG.cond_t rfl (by exact rho_of rfl) rfl ?_
    repeat (first|apply CG.seq|apply CG.region|apply SG.nil|apply NG.next|apply CG.skip|apply CG.block|apply CG.ret|apply CG.exit|apply CG.scope|apply NG.ret_then|apply NG.ret_block|apply NG.ret_scope|apply NG.exit_then|refine NG.exit_block rfl ?_|refine NG.exit_other rfl ?_|apply NG.exit_scope|apply NG.normal_block|apply NG.normal_scope|refine SG.val rfl rfl rfl rfl (by first|((first|apply qmv|apply qas|apply qlc|apply qla|apply qfa|apply qnc|apply qic|apply qix|apply qpk|apply qls|apply qei|apply qni|apply qed|apply qnd|apply qad|apply qln|apply qle|apply qgt|apply qge|apply qlk|apply qlv|apply qxt|apply qsb|apply qnt|apply qep|apply qnp|apply qeb|apply qnb|apply qx2|apply qx4|apply qcv|apply qlm|apply qfr|apply qto|apply qmx|apply qen|apply qsn|apply qx8|apply qx7|apply qx6|apply qx5|apply qx4|apply qx3|apply qx2|apply qx1|apply qx0)<;>(first|exact rfl|exact Ar.mk (by omega)|assumption|exact dct (by assumption)|exact dcf (by assumption)|exact dct (by omega)|exact dcf (by omega)|exact List.not_mem_nil|exact dc_length _|exact nc_length _|exact rc_length _ _ _|exact nm1 (by omega)|exact nm2 (by omega) (by omega)|exact dct rfl|exact dct (by decide)|exact dcf (by decide)|exact (Int.toNat_of_nonneg (by omega)).symm|exact dcu|exact lk1 (by assumption)|exact lk0 (by assumption)))|fail) ?_)
    refine CG.draw0 mixed [0, 1, 2, 3, 4, 5, 6, 7, 8, 9, 10, 11, 12, 13, 14, 15, 16, 17, 18, 19, 20, 21, 22, 23, 24, 25, 26, 27, 28, 29, 30, 31, 32, 33, 34, 35, 36, 37] [] (by kernel_rfl) ?_
    repeat (first | refine Der.val rfl rfl rfl (by first|((first|apply qmv|apply qas|apply qlc|apply qla|apply qfa|apply qnc|apply qic|apply qix|apply qpk|apply qls|apply qei|apply qni|apply qed|apply qnd|apply qad|apply qln|apply qle|apply qgt|apply qge|apply qlk|apply qlv|apply qxt|apply qsb|apply qnt|apply qep|apply qnp|apply qeb|apply qnb|apply qx2|apply qx4|apply qcv|apply qlm|apply qfr|apply qto|apply qmx|apply qen|apply qsn|apply qx8|apply qx7|apply qx6|apply qx5|apply qx4|apply qx3|apply qx2|apply qx1|apply qx0)<;>(first|exact rfl|exact Ar.mk (by omega)|assumption|exact dct (by assumption)|exact dcf (by assumption)|exact dct (by omega)|exact dcf (by omega)|exact List.not_mem_nil|exact dc_length _|exact nc_length _|exact rc_length _ _ _|exact nm1 (by omega)|exact nm2 (by omega) (by omega)|exact dct rfl|exact dct (by decide)|exact dcf (by decide)|exact (Int.toNat_of_nonneg (by omega)).symm|exact dcu|exact lk1 (by assumption)|exact lk0 (by assumption)))|fail) ?_ | refine Der.skip rfl rfl ?_)
    refine Der.val rfl rfl rfl (qbs rfl hsb rfl (fun _ _ _ => List.not_mem_nil)) ?_
    repeat (first | refine Der.val rfl rfl rfl (by first|((first|apply qmv|apply qas|apply qlc|apply qla|apply qfa|apply qnc|apply qic|apply qix|apply qpk|apply qls|apply qei|apply qni|apply qed|apply qnd|apply qad|apply qln|apply qle|apply qgt|apply qge|apply qlk|apply qlv|apply qxt|apply qsb|apply qnt|apply qep|apply qnp|apply qeb|apply qnb|apply qx2|apply qx4|apply qcv|apply qlm|apply qfr|apply qto|apply qmx|apply qen|apply qsn|apply qx8|apply qx7|apply qx6|apply qx5|apply qx4|apply qx3|apply qx2|apply qx1|apply qx0)<;>(first|exact rfl|exact Ar.mk (by omega)|assumption|exact dct (by assumption)|exact dcf (by assumption)|exact dct (by omega)|exact dcf (by omega)|exact List.not_mem_nil|exact dc_length _|exact nc_length _|exact rc_length _ _ _|exact nm1 (by omega)|exact nm2 (by omega) (by omega)|exact dct rfl|exact dct (by decide)|exact dcf (by decide)|exact (Int.toNat_of_nonneg (by omega)).symm|exact dcu|exact lk1 (by assumption)|exact lk0 (by assumption)))|fail) ?_ | refine Der.skip rfl rfl ?_)
    refine Der.fin (fun w2 hk2 _ _ => ?_)
    repeat (first|apply CG.seq|apply CG.region|apply SG.nil|apply NG.next|apply CG.skip|apply CG.block|apply CG.ret|apply CG.exit|apply CG.scope|apply NG.ret_then|apply NG.ret_block|apply NG.ret_scope|apply NG.exit_then|refine NG.exit_block rfl ?_|refine NG.exit_other rfl ?_|apply NG.exit_scope|apply NG.normal_block|apply NG.normal_scope|refine SG.val rfl rfl rfl rfl (by first|((first|apply qmv|apply qas|apply qlc|apply qla|apply qfa|apply qnc|apply qic|apply qix|apply qpk|apply qls|apply qei|apply qni|apply qed|apply qnd|apply qad|apply qln|apply qle|apply qgt|apply qge|apply qlk|apply qlv|apply qxt|apply qsb|apply qnt|apply qep|apply qnp|apply qeb|apply qnb|apply qx2|apply qx4|apply qcv|apply qlm|apply qfr|apply qto|apply qmx|apply qen|apply qsn|apply qx8|apply qx7|apply qx6|apply qx5|apply qx4|apply qx3|apply qx2|apply qx1|apply qx0)<;>(first|exact rfl|exact Ar.mk (by omega)|assumption|exact dct (by assumption)|exact dcf (by assumption)|exact dct (by omega)|exact dcf (by omega)|exact List.not_mem_nil|exact dc_length _|exact nc_length _|exact rc_length _ _ _|exact nm1 (by omega)|exact nm2 (by omega) (by omega)|exact dct rfl|exact dct (by decide)|exact dcf (by decide)|exact (Int.toNat_of_nonneg (by omega)).symm|exact dcu|exact lk1 (by assumption)|exact lk0 (by assumption)))|fail) ?_)
    refine CG.cond_f rfl (by exact rho_of rfl) rfl ?_
    repeat (first|apply CG.seq|apply CG.region|apply SG.nil|apply NG.next|apply CG.skip|apply CG.block|apply CG.ret|apply CG.exit|apply CG.scope|apply NG.ret_then|apply NG.ret_block|apply NG.ret_scope|apply NG.exit_then|refine NG.exit_block rfl ?_|refine NG.exit_other rfl ?_|apply NG.exit_scope|apply NG.normal_block|apply NG.normal_scope|refine SG.val rfl rfl rfl rfl (by first|((first|apply qmv|apply qas|apply qlc|apply qla|apply qfa|apply qnc|apply qic|apply qix|apply qpk|apply qls|apply qei|apply qni|apply qed|apply qnd|apply qad|apply qln|apply qle|apply qgt|apply qge|apply qlk|apply qlv|apply qxt|apply qsb|apply qnt|apply qep|apply qnp|apply qeb|apply qnb|apply qx2|apply qx4|apply qcv|apply qlm|apply qfr|apply qto|apply qmx|apply qen|apply qsn|apply qx8|apply qx7|apply qx6|apply qx5|apply qx4|apply qx3|apply qx2|apply qx1|apply qx0)<;>(first|exact rfl|exact Ar.mk (by omega)|assumption|exact dct (by assumption)|exact dcf (by assumption)|exact dct (by omega)|exact dcf (by omega)|exact List.not_mem_nil|exact dc_length _|exact nc_length _|exact rc_length _ _ _|exact nm1 (by omega)|exact nm2 (by omega) (by omega)|exact dct rfl|exact dct (by decide)|exact dcf (by decide)|exact (Int.toNat_of_nonneg (by omega)).symm|exact dcu|exact lk1 (by assumption)|exact lk0 (by assumption)))|fail) ?_)
    refine NG.round (i + 1) (by (repeat' (first | exact True.intro | exact rfl | refine And.intro ?_ ?_))) ⟨hlt, hk.trans hk2⟩ (by omega)
  have g1 : ¬ (i : Int) < (l.length : Int) := by omega
  repeat (first|apply CG.seq|apply CG.region|apply SG.nil|apply NG.next|apply CG.skip|apply CG.block|apply CG.ret|apply CG.exit|apply CG.scope|apply NG.ret_then|apply NG.ret_block|apply NG.ret_scope|apply NG.exit_then|refine NG.exit_block rfl ?_|refine NG.exit_other rfl ?_|apply NG.exit_scope|apply NG.normal_block|apply NG.normal_scope|refine SG.val rfl rfl rfl rfl (by first|((first|apply qmv|apply qas|apply qlc|apply qla|apply qfa|apply qnc|apply qic|apply qix|apply qpk|apply qls|apply qei|apply qni|apply qed|apply qnd|apply qad|apply qln|apply qle|apply qgt|apply qge|apply qlk|apply qlv|apply qxt|apply qsb|apply qnt|apply qep|apply qnp|apply qeb|apply qnb|apply qx2|apply qx4|apply qcv|apply qlm|apply qfr|apply qto|apply qmx|apply qen|apply qsn|apply qx8|apply qx7|apply qx6|apply qx5|apply qx4|apply qx3|apply qx2|apply qx1|apply qx0)<;>(first|exact rfl|exact Ar.mk (by omega)|assumption|exact dct (by assumption)|exact dcf (by assumption)|exact dct (by omega)|exact dcf (by omega)|exact List.not_mem_nil|exact dc_length _|exact nc_length _|exact rc_length _ _ _|exact nm1 (by omega)|exact nm2 (by omega) (by omega)|exact dct rfl|exact dct (by decide)|exact dcf (by decide)|exact (Int.toNat_of_nonneg (by omega)).symm|exact dcu|exact lk1 (by assumption)|exact lk0 (by assumption)))|fail) ?_)
  refine CG.cond_f rfl (by exact rho_of rfl) rfl ?_
  repeat (first|apply CG.seq|apply CG.region|apply SG.nil|apply NG.next|apply CG.skip|apply CG.block|apply CG.ret|apply CG.exit|apply CG.scope|apply NG.ret_then|apply NG.ret_block|apply NG.ret_scope|apply NG.exit_then|refine NG.exit_block rfl ?_|refine NG.exit_other rfl ?_|apply NG.exit_scope|apply NG.normal_block|apply NG.normal_scope|refine SG.val rfl rfl rfl rfl (by first|((first|apply qmv|apply qas|apply qlc|apply qla|apply qfa|apply qnc|apply qic|apply qix|apply qpk|apply qls|apply qei|apply qni|apply qed|apply qnd|apply qad|apply qln|apply qle|apply qgt|apply qge|apply qlk|apply qlv|apply qxt|apply qsb|apply qnt|apply qep|apply qnp|apply qeb|apply qnb|apply qx2|apply qx4|apply qcv|apply qlm|apply qfr|apply qto|apply qmx|apply qen|apply qsn|apply qx8|apply qx7|apply qx6|apply qx5|apply qx4|apply qx3|apply qx2|apply qx1|apply qx0)<;>(first|exact rfl|exact Ar.mk (by omega)|assumption|exact dct (by assumption)|exact dcf (by assumption)|exact dct (by omega)|exact dcf (by omega)|exact List.not_mem_nil|exact dc_length _|exact nc_length _|exact rc_length _ _ _|exact nm1 (by omega)|exact nm2 (by omega) (by omega)|exact dct rfl|exact dct (by decide)|exact dcf (by decide)|exact (Int.toNat_of_nonneg (by omega)).symm|exact dcu|exact lk1 (by assumption)|exact lk0 (by assumption)))|fail) ?_)
  refine ret1 (Or.inl rfl) Try.results37 (by first | exact ResV.tmp rfl | exact ResV.agg rfl rfl (by assumption) (by first | exact dc_length _ | exact nc_length _ | exact rc_length _ _ _ | rfl) | exact ResV.cell rfl rfl (by assumption)) ?_
  exact ⟨rfl, hk⟩
end Go.Proofs.Ytfelaicoedlejaa
/-
  A variable that a region makes and fills, with what a call beside it answers.
-/
namespace Go.Proofs.Ytfelaicoedlejaa
set_option linter.unusedVariables false

section
variable {P : Program} {n : Nat} {ops : List Oper} {Q : Exit → Act → World → Prop} {w0 : World} {L : Env} {G : List (Nat × GD)} {K : Env → List Fact → Prop} {Γ : List Fact} {i : Nat} {ord : List Nat} {ty : TypeId} {pos : String} {af : Array Edge} {g : Option (Nat × Bool)}
theorem gd_all {q : GD → Prop} {i : Nat} (h0 : q GD.none) : ∀ {G : List (Nat × GD)}, (∀ p ∈ G, p.1 ≠ i → q p.2) → ∀ j, j ≠ i → q (gdOf G j)
  | [], _, j, _ => h0
  | (k, D) :: G, h, j, hj => by
    unfold gdOf
    simp only [gdLook]
    by_cases e : k = j
    · subst e
      simp
      exact h _ List.mem_cons_self hj
    · have h1 : Nat.beq k j = false := by rw [← Bool.not_eq_true, Nat.beq_eq]; exact e
      rw [h1]
      exact gd_all h0 (fun p hp => h p (List.mem_cons_of_mem _ hp)) j hj
/-- A variable just made, whatever it comes to hold. -/
def gV (m : Nat) (T : TypeId) (k : Nat) : GD := ⟨Nat, 0, fun b => .pointer (some ⟨b, 0, none⟩), fun b w => m ≤ b ∧ ∃ cs, Blk w b (.cells cs T) ∧ cs.size = k⟩
theorem gV_stab {m : Nat} {T : TypeId} {k : Nat} (x : (gV m T k).X) : Stab [] ((gV m T k).phi x) := fun w w' hk ⟨h1, cs, h2, h3⟩ => ⟨h1, cs, h2.kp0 hk, h3⟩
theorem DerX.allocV {m d k : Nat} {T : TypeId} {inf : TypeInfo} [f : Inf P T inf] {z : Value} (hz : inf.zero = some z) (hzs : Nat.beq z.cells.size k = true) (hg : gdLook G i = some (gV m T k))
    (ho : ops[i]? = some ⟨some d, .alloc T, ty, pos, af, g⟩) (hw : want ops L ⟨some d, .alloc T, ty, pos, af, g⟩ = some true) (hm : m ≤ w0.heap.size)
    (h : ∀ b : Nat, DerX P w0 ops G K ord ((d, .pointer (some ⟨b, 0, none⟩)) :: L) ((i, fun w => m ≤ b ∧ ∃ cs, Blk w b (.cells cs T) ∧ cs.size = k) :: Γ)) : DerX P w0 ops G K (i :: ord) L Γ := by
  refine DerX.eff (gV m T k) hg ho hw (by simp [Op.operands]) (fun w h1 h2 => ?_) h
  unfold OpRun
  have : (execOp (rho L) ⟨some d, .alloc T, ty, pos, af, g⟩).run P w = .ok (.value (.pointer (some ⟨w.heap.size, 0, none⟩))) { w with heap := w.heap.push (.cells z.cells T) } := by
    simp [execOp, run_alloc hz, Result.andThen]
  rw [this]
  exact ⟨w.heap.size, rfl, ⟨Nat.le_trans hm h1.size, _, Blk.push w _, Nat.eq_of_beq_eq_true hzs⟩, Kp.push w _ rfl⟩
theorem gV_keep {m b k : Nat} {T : TypeId} {y : Nat} {w w' : World} {l : List Value} (hl : l.length = k) (hk : Kp [b] w w') (hb : Blk w' b (.cells l.toArray T)) (h : (gV m T k).phi y w) : (gV m T k).phi y w' := by
  obtain ⟨h1, cs, h2, h3⟩ := h
  by_cases e : y = b
  · subst e
    exact ⟨h1, _, hb, by simpa using hl⟩
  · exact ⟨h1, cs, h2.kp hk (nm1 e), h3⟩
/-- .. filled. -/
def gP (m : Nat) (T : TypeId) : GD := ⟨Nat × Array Value, (0, #[]), fun _ => undef, fun q w => m ≤ q.1 ∧ Blk w q.1 (.cells q.2 T)⟩
theorem gP_stab {m : Nat} {T : TypeId} (x : (gP m T).X) : Stab [] ((gP m T).phi x) := fun w w' hk h => ⟨h.1, h.2.kp0 hk⟩
theorem DerX.storeV {m b : Nat} {T : TypeId} {inf : TypeInfo} [f : Inf P T inf] {a x : Operand} {l : List Value} (hg : gdLook G i = some (gP m T))
    (ho : ops[i]? = some ⟨none, .store T a x, ty, pos, af, g⟩) (hw : want ops L ⟨none, .store T a x, ty, pos, af, g⟩ = some true) (hk : (known L a && known L x) = true) (ha : Γ.all (fun p => anc ops i p.1) = true)
    (hpa : rho L a = .pointer (some ⟨b, 0, none⟩)) (hx : rho L x = .agg l.toArray) (hn : l.length = inf.size) (hm : w0.heap.size ≤ m)
    (hF : ∀ w, Kp [] w0 w → Facts ops i Γ w → (m ≤ b ∧ ∃ cs, Blk w b (.cells cs T) ∧ cs.size = inf.size) ∧ allOne l = true)
    (hkeep : ∀ p ∈ G, p.1 ≠ i → ∀ y w w' cs, Blk w b (.cells cs T) → cs.size = inf.size → Kp [b] w w' → Blk w' b (.cells l.toArray T) → p.2.phi y w → p.2.phi y w')
    (h : DerX P w0 ops G K ord L ((i, fun w => m ≤ b ∧ Blk w b (.cells l.toArray T)) :: Γ)) : DerX P w0 ops G K (i :: ord) L Γ := by
  refine DerX.effD (gP m T) (b, l.toArray) hg ho hw (by simpa [Op.operands] using hk) ha (fun w h1 h2 => ?_) h
  obtain ⟨⟨g1, cs, g2, g3⟩, hone⟩ := hF w h1 h2
  unfold OpRun
  have hsp : (spl cs.toList 0 (Value.agg l.toArray).cells.toList) = l := by
    simp only [Value.cells]
    exact spl_all (by simp; omega)
  have hrun : (execOp (rho L) ⟨none, .store T a x, ty, pos, af, g⟩).run P w = .ok .skip { w with heap := w.heap.setIfInBounds b (.cells l.toArray T) } := by
    have := run_storeAt (P := P) (f := f) (off := 0) (v := .agg l.toArray) g2 (by simpa [Value.cells] using hn) (by simp [Value.cells]; omega) (by simpa [Value.cells] using hone)
    rw [hsp] at this
    simp only [execOp, hx, hpa, Sem.run_bind, this, Result.andThen, Sem.run_pure]
  rw [hrun]
  have hk' := Kp.set w (o' := .cells l.toArray T) g2 rfl rfl
  exact ⟨rfl, ⟨g1, g2.set _⟩, h1.trans_new hk' (new1 (by omega)), fun j y hj hp => gd_all (q := fun D => ∀ y, D.phi y w → D.phi y _) (fun _ _ => trivial) (fun p hp hne y hy => hkeep p hp hne y w _ cs g2 g3 hk' (g2.set _) hy) j hj y hp⟩
/-- An owned row, as the slice that it is, and what holds it. -/
def gOP {α : Type} (m : Nat) (E : TypeId) (enc : α → List Value) (sz : Nat) (l : List α) (mk : Value → Value) : GD := ⟨Option Addr × Nat, (none, 0), fun q => mk (.slice q.1 l.length q.2), fun q w => w.ownsRow m E sz (.slice q.1 l.length q.2) l.length (flt enc l)⟩
theorem gOP_stab {α : Type} {m : Nat} {E : TypeId} {enc : α → List Value} {sz : Nat} {l : List α} {mk : Value → Value} (x : (gOP m E enc sz l mk).X) : Stab [] ((gOP m E enc sz l mk).phi x) := fun w w' hk h => own_kp0 h hk
theorem DerX.cloneP {α : Type} {enc : α → List Value} {m d : Nat} {t e : TypeId} {inf : TypeInfo} [u : Ut P t (.slice e)] [f : Inf P e inf] {z : Value} {s x : Operand} {b0 : Nat} {a : Option Addr} {c : Nat} (l : List α) (hel : ∀ x, (enc x).length = inf.size) (hone : ∀ x, allOne (enc x) = true) (hg : gdLook G i = some (gOP m e enc inf.size l (fun v => v)))
    (ho : ops[i]? = some ⟨some d, .call { callee := .builtin .append, args := #[s, x], argTypes := #[t, t] }, ty, pos, af, g⟩) (hw : want ops L ⟨some d, .call { callee := .builtin .append, args := #[s, x], argTypes := #[t, t] }, ty, pos, af, g⟩ = some true) (hk : (known L s && known L x) = true)
    (hs : rho L s = .slice (some ⟨b0, 0, none⟩) 0 0) (hx : rho L x = .slice a l.length c) (hz : inf.zero = some z) (hzs : Nat.beq z.cells.size inf.size = true) (hsz : Nat.blt 0 inf.size = true) (h63 : l.length ≤ maxLen) (hbytes : l.length * inf.bytes ≤ 140737488355328)
    (hc : ∀ w, Kp [] w0 w → Facts ops i Γ w → Sl enc inf.size w a l ∧ m ≤ b0 ∧ Blk w b0 (.cells #[] e))
    (h : ∀ (a' : Option Addr) (c' : Nat), DerX P w0 ops G K ord ((d, .slice a' l.length c') :: L) ((i, fun w => w.ownsRow m e inf.size (.slice a' l.length c') l.length (flt enc l)) :: Γ)) : DerX P w0 ops G K (i :: ord) L Γ := by
  refine DerX.eff (gOP m e enc inf.size l (fun v => v)) hg ho hw (by simpa [Op.operands, Call.operands] using hk) (fun w h1 h2 => ?_) (fun x => h x.1 x.2)
  obtain ⟨g1, g2, g3⟩ := hc w h1 h2
  obtain ⟨v', w', e1, e2, e3⟩ := run_cloneO (P := P) (ty := ty) (c := c) (u := u) (f := f) hz (Nat.eq_of_beq_eq_true hzs) (by simpa [Nat.blt_eq] using hsz) hel hone g1 g3 g2 h63 hbytes
  unfold OpRun
  have : (execOp (rho L) ⟨some d, .call { callee := .builtin .append, args := #[s, x], argTypes := #[t, t] }, ty, pos, af, g⟩).run P w = .ok (.value v') w' := by
    simp only [execOp, resolve, invoke, builtin, Sem.run_bind, Sem.run_pure, Result.andThen_ok, List.map_toArray, List.map_cons, List.map_nil, hs, hx, e1]
  rw [this]
  obtain ⟨a', c', rfl⟩ : ∃ a' c', v' = .slice a' l.length c' := by
    rcases e2.2 with ⟨r1, r2⟩ | ⟨gg, cap, cur, r1, _⟩
    · exact ⟨none, 0, by rw [r1, r2]⟩
    · exact ⟨_, _, r1⟩
  exact ⟨(a', c'), rfl, e2, e3⟩
theorem DerX.wrapP {α : Type} {enc : α → List Value} {sz m d : Nat} {E : TypeId} {l : List α} {mk : Value → Value} {op : Op} {v : Value} (a : Option Addr) (c : Nat) (hg : gdLook G i = some (gOP m E enc sz l mk)) (ho : ops[i]? = some ⟨some d, op, ty, pos, af, g⟩) (hw : want ops L ⟨some d, op, ty, pos, af, g⟩ = some true) (hk : op.operands.toList.all (known L) = true)
    (hv : Vals P [] w0 (Facts ops i Γ) L ⟨some d, op, ty, pos, af, g⟩ v) (hx : v = mk (.slice a l.length c)) (hphi : ∀ w, Kp [] w0 w → Facts ops i Γ w → w.ownsRow m E sz (.slice a l.length c) l.length (flt enc l))
    (h : ∀ (a : Option Addr) (c : Nat), DerX P w0 ops G K ord ((d, mk (.slice a l.length c)) :: L) ((i, fun w => w.ownsRow m E sz (.slice a l.length c) l.length (flt enc l)) :: Γ)) : DerX P w0 ops G K (i :: ord) L Γ :=
  DerX.valE (gOP m E enc sz l mk) (a, c) hg ho hw hk hv hx hphi (fun x => h x.1 x.2)
end
end Go.Proofs.Ytfelaicoedlejaa
