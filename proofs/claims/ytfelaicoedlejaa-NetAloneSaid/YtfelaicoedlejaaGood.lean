/-
  A letter is sent and taken.
-/
import Derived.Test.YtfelaicoedlejaaSend
import Derived.Test.YtfelaicoedlejaaPut
namespace Go.Proofs.Ytfelaicoedlejaa
set_option linter.unusedVariables false

theorem Rep.put_blk {w w1 w2 w3 : World} {bt bm : Nat} {s : Ns} {due : Due} (h : Rep w bt bm s due) (k : I64) (hk1 : Kp (ownB (tick due k).1) w w1) (hk2 : Kp [bm] w1 w2) (hk3 : Kp [bt] w2 w3) {z : Nat} {cs : Array Value} {T : TypeId} (h77 : T ≠ 77) (h72 : T ≠ 72) (hz : Blk w z (.cells cs T)) : Blk w3 z (.cells cs T) := by
  obtain ⟨es, ec, hmb⟩ := h.map.blk
  have n0 : z ∉ ownB (tick due k).1 := fun hm => by
    obtain ⟨cs', hc⟩ := own_blk (h.own_tick k) (mem_ownB.1 hm)
    exact ne_ty h77 hz hc rfl
  have n1 : z ≠ bm := ne_map hmb hz
  have n2 : z ≠ bt := ne_ty (fun e => h72 e.symm) h.blk hz
  exact ((hz.kp hk1 n0).kp hk2 (by simpa using n1)).kp hk3 (by simpa using n2)
theorem Rep.put_by {w w1 w2 w3 : World} {bt bm : Nat} {s : Ns} {due : Due} (h : Rep w bt bm s due) (k : I64) (hk1 : Kp (ownB (tick due k).1) w w1) (hk2 : Kp [bm] w1 w2) (hk3 : Kp [bt] w2 w3) {a : Option Addr} {l : List UInt8} (hz : ByAt w a l) : ByAt w3 a l := fun i u hu => by
  obtain ⟨b, off, cs, e1, e2, e3⟩ := hz i u hu
  exact ⟨b, off, cs, e1, h.put_blk k hk1 hk2 hk3 (by decide) (by decide) e2, e3⟩
theorem uses_put {w : World} {bt bm : Nat} {s : Ns} {due : Due} (h : Rep w bt bm s due) (k : I64) {v' : Value} {p : Pc} {N : Nat} (hN : N ≤ w.heap.size) (hwh : ∀ g, v'.ownBlock = some g → (tick due k).1.ownBlock = some g ∨ w.heap.size ≤ g) (hp : ∀ b off, p.a = some ⟨b, off, none⟩ → N ≤ b) {z : Nat}
    (hz : Uses bt bm (aput due k (v', (tick due k).2 ++ [p])) z) : Uses bt bm due z ∨ N ≤ z := by
  have hnd := h.map.nodup
  rcases hz with h1 | h1 | ⟨e, he, hb⟩ | ⟨e, he, p', hp', off, ha⟩
  · exact Or.inl (Or.inl h1)
  · exact Or.inl (Or.inr (Or.inl h1))
  · rcases mem_aput hnd he with rfl | ⟨he, hek⟩
    · rcases hwh z hb with h1 | h1
      · exact Or.inl (Or.inr (Or.inr (Or.inl ⟨_, h.own_of h1, h1⟩)))
      · exact Or.inr (by omega)
    · exact Or.inl (Or.inr (Or.inr (Or.inl ⟨e, he, hb⟩)))
  · rcases mem_aput hnd he with rfl | ⟨he, hek⟩
    · rcases List.mem_append.1 hp' with hp' | hp'
      · unfold tick at hp'
        cases hh : alook due k with
        | none => rw [hh] at hp'; cases hp'
        | some q =>
          rw [hh] at hp'
          exact Or.inl (Or.inr (Or.inr (Or.inr ⟨_, alook_mem hh, p', hp', off, ha⟩)))
      · rw [List.mem_singleton] at hp'
        subst hp'
        exact Or.inr (hp z off ha.1)
    · exact Or.inl (Or.inr (Or.inr (Or.inr ⟨e, he, p', hp', off, ha⟩)))

theorem ByAt.kp1 {w w' : World} {z : Nat} {cs : Array Value} {T : TypeId} (hz : Blk w z (.cells cs T)) (h5 : T ≠ 5) (hk : Kp [z] w w') {a : Option Addr} {l : List UInt8} (h : ByAt w a l) : ByAt w' a l := fun i u hu => by
  obtain ⟨b, off, cs', e1, e2, e3⟩ := h i u hu
  exact ⟨b, off, cs', e1, e2.kp hk (by simpa using ne_ty h5 hz e2), e3⟩
theorem Rep.kp1 {w w' : World} {bt bm : Nat} {s : Ns} {due : Due} (h : Rep w bt bm s due) {z : Nat} {cs : Array Value} {T : TypeId} (hz : Blk w z (.cells cs T)) (h5 : T ≠ 5) (h72 : T ≠ 72) (h77 : T ≠ 77) (hk : Kp [z] w w') : Rep w' bt bm s due := by
  obtain ⟨es, ec, hmb⟩ := h.map.blk
  refine ⟨h.blk.kp hk (by simpa using ne_ty h72 hz h.blk), h.cl, h.map.kp hk (by simpa using (ne_map hmb hz).symm), fun e he => own_kp (h.own e he) hk (fun b hb hm => ?_), h.sep, fun e he p hp => (h.byt e he p hp).kp1 hz h5 hk, h.at_⟩
  obtain ⟨cs', hc⟩ := own_blk (h.own e he) hb
  exact ne_ty h77 hz hc (by simpa using hm)

def cpOf (s : Ns) (fr to : Nat) (bs : List UInt8) (k : Int) : Cp := ⟨fr, to, bs, s.now + k.toNat⟩
def Ns.sendAll (s : Ns) (fr to : Nat) (bs : List UInt8) (later : List Int) : Ns := { s with sent := s.sent + later.length, pend := s.pend ++ later.map (cpOf s fr to bs) }
theorem Ns.sendAll_add {s : Ns} {fr to : Nat} {bs : List UInt8} {later : List Int} (k : Int) : (s.sendAll fr to bs later).add (cpOf s fr to bs k) = s.sendAll fr to bs (later ++ [k]) := by
  simp [Ns.sendAll, Ns.add, Nat.add_assoc]
/-- What Send may change. -/
def sendS (bt bm : Nat) (due : Due) : List Nat := bt :: bm :: due.flatMap (fun e => ownB e.2.1)
theorem build77 (w : World) (fr to : Int) (a : Option Addr) (n c : Nat) (st d : Int) : (Instr.build 77 #[(0, .agg #[.int .i64 fr, .int .i64 to, .slice a n c]), (1, Value.int .i64 st), (2, Value.int .i64 d)]).run Try.prog w = .ok (.agg #[.int .i64 fr, .int .i64 to, .slice a n c, .int .i64 st, .int .i64 d]) w := by kernel_rfl

theorem bslice77 (w : World) (fr to : Int) (a : Option Addr) (n c : Nat) (st d : Int) : (Instr.buildSlice 78 1 [(0, Value.agg #[.int .i64 fr, .int .i64 to, .slice a n c, .int .i64 st, .int .i64 d])].toArray).run Try.prog w = .ok (.slice (some ⟨w.heap.size, 0, none⟩) 1 1) { w with heap := w.heap.push (.cells #[.int .i64 fr, .int .i64 to, .slice a n c, .int .i64 st, .int .i64 d] 77) } := by kernel_rfl

attribute [local irreducible] CG NG SG Vals Der Row Blk MapIs IterAt DerX
set_option maxHeartbeats 8000000 in
theorem send_good {w : World} {bt bm : Nat} {s : Ns} {due : Due} (hR : Rep w bt bm s due) (hnow : s.now ≤ 1000000000000) (hsent : s.sent ≤ 1000000000000) (fr to : Nat) (ab : Option Addr) (cb : Nat) (bs : List UInt8) (hSb : Sl byc 1 w ab bs) (al : Option Addr) (cl : Nat) (later : List Int)
    (hS : ∀ w', Kp (sendS bt bm due) w w' → SlI w' al later) (hE : s.sendE fr to bs.length later = 0) : Calls Try.prog 13 #[.pointer (some ⟨bt, 0, none⟩), lv fr to ab bs.length cb, fv al later.length cl] w (fun e w' => ∃ due', e = .returned (.int .i64 0) ∧ Rep w' bt bm (s.sendAll fr to bs later) due' ∧ (∀ z, Uses bt bm due' z → Uses bt bm due z ∨ w.heap.size ≤ z) ∧ Kp (sendS bt bm due) w w') := by
  have hE0 : (0 ≤ (fr : Int) ∧ (fr : Int) < s.parties) ∧ (0 ≤ (to : Int) ∧ (to : Int) < s.parties) ∧ bs.length ≤ 65536 ∧ later.length ≤ 8 ∧ later.any badL = false ∧ s.pend.length + later.length ≤ 4096 := by
    unfold Ns.sendE at hE
    split at hE
    · cases hE
    rename_i h1
    split at hE
    · cases hE
    rename_i h2
    split at hE
    · cases hE
    rename_i h3
    split at hE
    · cases hE
    rename_i h4
    refine ⟨by omega, by omega, by omega, by omega, ?_, by omega⟩
    cases hh : later.any badL with
    | false => rfl
    | true => exact absurd (Or.inr hh) h3
  obtain ⟨h1, h2, h3, h4, h5, h6⟩ := hE0
  refine enter3 Try.func13 rfl Try.ntmps13 rfl ?_
  repeat (first|apply CG.seq|apply CG.region|apply SG.nil|apply NG.next|apply CG.skip|apply CG.block|apply CG.ret|apply CG.exit|apply CG.scope|apply NG.ret_then|apply NG.ret_block|apply NG.ret_scope|apply NG.exit_then|refine NG.exit_block rfl ?_|refine NG.exit_other rfl ?_|apply NG.exit_scope|apply NG.normal_block|apply NG.normal_scope|refine SG.val rfl rfl rfl rfl (by first|((first|apply qmv|apply qas|apply qlc|apply qla|apply qfa|apply qnc|apply qic|apply qix|apply qpk|apply qls|apply qei|apply qni|apply qed|apply qnd|apply qad|apply qln|apply qle|apply qgt|apply qge|apply qlk|apply qlv|apply qxt|apply qsb|apply qnt|apply qep|apply qnp|apply qeb|apply qnb|apply qcv|apply qlm|apply qfr|apply qto|apply qmx|apply qen|apply qsn)<;>(first|exact rfl|exact Ar.mk (by omega)|assumption|exact dct (by assumption)|exact dcf (by assumption)|exact dct (by omega)|exact dcf (by omega)|exact List.not_mem_nil|exact dc_length _|exact nc_length _|exact rc_length _ _ _|exact nm1 (by omega)|exact nm2 (by omega) (by omega)|exact dct rfl|exact dct (by decide)|exact dcf (by decide)|exact (Int.toNat_of_nonneg (by omega)).symm|exact dcu|exact lk1 (by assumption)|exact lk0 (by assumption)))|fail) ?_)
  refine SG.box rfl rfl rfl (by exact rho_of rfl) (fun b4 w1 hk1 hb4 hB4 => ?_)
  refine SG.box rfl rfl rfl (by exact rho_of rfl) (fun b5 w2 hk2 hb5 hB5 => ?_)
  have hk02 := hk1.trans hk2
  have hR2 := hR.kp0 hk02
  have r0 : Row w2 b4 0 [.int .i64 fr] := Row.of (hB4.kp0 hk2) [] [.int .i64 to, .slice ab bs.length cb] rfl rfl
  have r1 : Row w2 b4 1 [.int .i64 to] := Row.of (hB4.kp0 hk2) [.int .i64 fr] [.slice ab bs.length cb] rfl rfl
  have r2 : Row w2 b4 2 [.slice ab bs.length cb] := Row.of (hB4.kp0 hk2) [.int .i64 fr, .int .i64 to] [] rfl rfl
  have r5 : Row w2 b5 0 [.slice al later.length cl] := Row.of hB5 [] [] rfl rfl
  repeat (first|apply CG.seq|apply CG.region|apply SG.nil|apply NG.next|apply CG.skip|apply CG.block|apply CG.ret|apply CG.exit|apply CG.scope|apply NG.ret_then|apply NG.ret_block|apply NG.ret_scope|apply NG.exit_then|refine NG.exit_block rfl ?_|refine NG.exit_other rfl ?_|apply NG.exit_scope|apply NG.normal_block|apply NG.normal_scope|refine SG.val rfl rfl rfl rfl (by first|((first|apply qmv|apply qas|apply qlc|apply qla|apply qfa|apply qnc|apply qic|apply qix|apply qpk|apply qls|apply qei|apply qni|apply qed|apply qnd|apply qad|apply qln|apply qle|apply qgt|apply qge|apply qlk|apply qlv|apply qxt|apply qsb|apply qnt|apply qep|apply qnp|apply qeb|apply qnb|apply qcv|apply qlm|apply qfr|apply qto|apply qmx|apply qen|apply qsn)<;>(first|exact rfl|exact Ar.mk (by omega)|assumption|exact dct (by assumption)|exact dcf (by assumption)|exact dct (by omega)|exact dcf (by omega)|exact List.not_mem_nil|exact dc_length _|exact nc_length _|exact rc_length _ _ _|exact nm1 (by omega)|exact nm2 (by omega) (by omega)|exact dct rfl|exact dct (by decide)|exact dcf (by decide)|exact (Int.toNat_of_nonneg (by omega)).symm|exact dcu|exact lk1 (by assumption)|exact lk0 (by assumption)))|fail) ?_)
  refine CG.cond_f rfl (by exact rho_of rfl) rfl ?_
  repeat (first|apply CG.seq|apply CG.region|apply SG.nil|apply NG.next|apply CG.skip|apply CG.block|apply CG.ret|apply CG.exit|apply CG.scope|apply NG.ret_then|apply NG.ret_block|apply NG.ret_scope|apply NG.exit_then|refine NG.exit_block rfl ?_|refine NG.exit_other rfl ?_|apply NG.exit_scope|apply NG.normal_block|apply NG.normal_scope|refine SG.val rfl rfl rfl rfl (by first|((first|apply qmv|apply qas|apply qlc|apply qla|apply qfa|apply qnc|apply qic|apply qix|apply qpk|apply qls|apply qei|apply qni|apply qed|apply qnd|apply qad|apply qln|apply qle|apply qgt|apply qge|apply qlk|apply qlv|apply qxt|apply qsb|apply qnt|apply qep|apply qnp|apply qeb|apply qnb|apply qcv|apply qlm|apply qfr|apply qto|apply qmx|apply qen|apply qsn)<;>(first|exact rfl|exact Ar.mk (by omega)|assumption|exact dct (by assumption)|exact dcf (by assumption)|exact dct (by omega)|exact dcf (by omega)|exact List.not_mem_nil|exact dc_length _|exact nc_length _|exact rc_length _ _ _|exact nm1 (by omega)|exact nm2 (by omega) (by omega)|exact dct rfl|exact dct (by decide)|exact dcf (by decide)|exact (Int.toNat_of_nonneg (by omega)).symm|exact dcu|exact lk1 (by assumption)|exact lk0 (by assumption)))|fail) ?_)
  refine SG.ret rfl rfl rfl (by repeat' (first | exact True.intro | exact rho_of rfl | refine And.intro ?_ ?_)) (party_spec hR2 fr) (fun w3 hk3 => ?_)
  have hk03 := hk02.trans hk3
  rw [decide_eq_true h1]
  have r1 := r1.kp0 hk3
  repeat (first | first|apply CG.seq|apply CG.region|apply SG.nil|apply NG.next|apply CG.skip|apply CG.block|apply CG.ret|apply CG.exit|apply CG.scope|apply NG.ret_then|apply NG.ret_block|apply NG.ret_scope|apply NG.exit_then|refine NG.exit_block rfl ?_|refine NG.exit_other rfl ?_|apply NG.exit_scope|apply NG.normal_block|apply NG.normal_scope|refine SG.val rfl rfl rfl rfl (by first|((first|apply qmv|apply qas|apply qlc|apply qla|apply qfa|apply qnc|apply qic|apply qix|apply qpk|apply qls|apply qei|apply qni|apply qed|apply qnd|apply qad|apply qln|apply qle|apply qgt|apply qge|apply qlk|apply qlv|apply qxt|apply qsb|apply qnt|apply qep|apply qnp|apply qeb|apply qnb|apply qcv|apply qlm|apply qfr|apply qto|apply qmx|apply qen|apply qsn)<;>(first|exact rfl|exact Ar.mk (by omega)|assumption|exact dct (by assumption)|exact dcf (by assumption)|exact dct (by omega)|exact dcf (by omega)|exact List.not_mem_nil|exact dc_length _|exact nc_length _|exact rc_length _ _ _|exact nm1 (by omega)|exact nm2 (by omega) (by omega)|exact dct rfl|exact dct (by decide)|exact dcf (by decide)|exact (Int.toNat_of_nonneg (by omega)).symm|exact dcu|exact lk1 (by assumption)|exact lk0 (by assumption)))|fail) ?_ | refine SG.skip rfl rfl ?_)
  refine SG.ret rfl rfl rfl (by repeat' (first | exact True.intro | exact rho_of rfl | refine And.intro ?_ ?_)) (party_spec (hR.kp0 hk03) to) (fun w4 hk4 => ?_)
  have hk04 := hk03.trans hk4
  rw [decide_eq_true h2]
  repeat (first | first|apply CG.seq|apply CG.region|apply SG.nil|apply NG.next|apply CG.skip|apply CG.block|apply CG.ret|apply CG.exit|apply CG.scope|apply NG.ret_then|apply NG.ret_block|apply NG.ret_scope|apply NG.exit_then|refine NG.exit_block rfl ?_|refine NG.exit_other rfl ?_|apply NG.exit_scope|apply NG.normal_block|apply NG.normal_scope|refine SG.val rfl rfl rfl rfl (by first|((first|apply qmv|apply qas|apply qlc|apply qla|apply qfa|apply qnc|apply qic|apply qix|apply qpk|apply qls|apply qei|apply qni|apply qed|apply qnd|apply qad|apply qln|apply qle|apply qgt|apply qge|apply qlk|apply qlv|apply qxt|apply qsb|apply qnt|apply qep|apply qnp|apply qeb|apply qnb|apply qcv|apply qlm|apply qfr|apply qto|apply qmx|apply qen|apply qsn)<;>(first|exact rfl|exact Ar.mk (by omega)|assumption|exact dct (by assumption)|exact dcf (by assumption)|exact dct (by omega)|exact dcf (by omega)|exact List.not_mem_nil|exact dc_length _|exact nc_length _|exact rc_length _ _ _|exact nm1 (by omega)|exact nm2 (by omega) (by omega)|exact dct rfl|exact dct (by decide)|exact dcf (by decide)|exact (Int.toNat_of_nonneg (by omega)).symm|exact dcu|exact lk1 (by assumption)|exact lk0 (by assumption)))|fail) ?_ | refine SG.skip rfl rfl ?_)
  refine CG.cond_f rfl (by exact rho_of rfl) rfl ?_
  have r2 := (r2.kp0 hk3).kp0 hk4
  have r5 := (r5.kp0 hk3).kp0 hk4
  have g3 : ¬ (65536 : Int) < (bs.length : Int) := by omega
  repeat (first|apply CG.seq|apply CG.region|apply SG.nil|apply NG.next|apply CG.skip|apply CG.block|apply CG.ret|apply CG.exit|apply CG.scope|apply NG.ret_then|apply NG.ret_block|apply NG.ret_scope|apply NG.exit_then|refine NG.exit_block rfl ?_|refine NG.exit_other rfl ?_|apply NG.exit_scope|apply NG.normal_block|apply NG.normal_scope|refine SG.val rfl rfl rfl rfl (by first|((first|apply qmv|apply qas|apply qlc|apply qla|apply qfa|apply qnc|apply qic|apply qix|apply qpk|apply qls|apply qei|apply qni|apply qed|apply qnd|apply qad|apply qln|apply qle|apply qgt|apply qge|apply qlk|apply qlv|apply qxt|apply qsb|apply qnt|apply qep|apply qnp|apply qeb|apply qnb|apply qcv|apply qlm|apply qfr|apply qto|apply qmx|apply qen|apply qsn)<;>(first|exact rfl|exact Ar.mk (by omega)|assumption|exact dct (by assumption)|exact dcf (by assumption)|exact dct (by omega)|exact dcf (by omega)|exact List.not_mem_nil|exact dc_length _|exact nc_length _|exact rc_length _ _ _|exact nm1 (by omega)|exact nm2 (by omega) (by omega)|exact dct rfl|exact dct (by decide)|exact dcf (by decide)|exact (Int.toNat_of_nonneg (by omega)).symm|exact dcu|exact lk1 (by assumption)|exact lk0 (by assumption)))|fail) ?_)
  refine CG.cond_f rfl (by exact rho_of rfl) rfl ?_
  have g4 : ¬ (8 : Int) < (later.length : Int) := by omega
  repeat (first | first|apply CG.seq|apply CG.region|apply SG.nil|apply NG.next|apply CG.skip|apply CG.block|apply CG.ret|apply CG.exit|apply CG.scope|apply NG.ret_then|apply NG.ret_block|apply NG.ret_scope|apply NG.exit_then|refine NG.exit_block rfl ?_|refine NG.exit_other rfl ?_|apply NG.exit_scope|apply NG.normal_block|apply NG.normal_scope|refine SG.val rfl rfl rfl rfl (by first|((first|apply qmv|apply qas|apply qlc|apply qla|apply qfa|apply qnc|apply qic|apply qix|apply qpk|apply qls|apply qei|apply qni|apply qed|apply qnd|apply qad|apply qln|apply qle|apply qgt|apply qge|apply qlk|apply qlv|apply qxt|apply qsb|apply qnt|apply qep|apply qnp|apply qeb|apply qnb|apply qcv|apply qlm|apply qfr|apply qto|apply qmx|apply qen|apply qsn)<;>(first|exact rfl|exact Ar.mk (by omega)|assumption|exact dct (by assumption)|exact dcf (by assumption)|exact dct (by omega)|exact dcf (by omega)|exact List.not_mem_nil|exact dc_length _|exact nc_length _|exact rc_length _ _ _|exact nm1 (by omega)|exact nm2 (by omega) (by omega)|exact dct rfl|exact dct (by decide)|exact dcf (by decide)|exact (Int.toNat_of_nonneg (by omega)).symm|exact dcu|exact lk1 (by assumption)|exact lk0 (by assumption)))|fail) ?_ | refine SG.skip rfl rfl ?_)
  refine SG.ret rfl rfl rfl (by repeat' (first | exact True.intro | exact rho_of rfl | refine And.intro ?_ ?_)) (contains_spec cl (hS w4 hk04.any) (by omega)) (fun w5 hk5 => ?_)
  have hk05 := hk04.trans hk5
  rw [h5]
  repeat (first | first|apply CG.seq|apply CG.region|apply SG.nil|apply NG.next|apply CG.skip|apply CG.block|apply CG.ret|apply CG.exit|apply CG.scope|apply NG.ret_then|apply NG.ret_block|apply NG.ret_scope|apply NG.exit_then|refine NG.exit_block rfl ?_|refine NG.exit_other rfl ?_|apply NG.exit_scope|apply NG.normal_block|apply NG.normal_scope|refine SG.val rfl rfl rfl rfl (by first|((first|apply qmv|apply qas|apply qlc|apply qla|apply qfa|apply qnc|apply qic|apply qix|apply qpk|apply qls|apply qei|apply qni|apply qed|apply qnd|apply qad|apply qln|apply qle|apply qgt|apply qge|apply qlk|apply qlv|apply qxt|apply qsb|apply qnt|apply qep|apply qnp|apply qeb|apply qnb|apply qcv|apply qlm|apply qfr|apply qto|apply qmx|apply qen|apply qsn)<;>(first|exact rfl|exact Ar.mk (by omega)|assumption|exact dct (by assumption)|exact dcf (by assumption)|exact dct (by omega)|exact dcf (by omega)|exact List.not_mem_nil|exact dc_length _|exact nc_length _|exact rc_length _ _ _|exact nm1 (by omega)|exact nm2 (by omega) (by omega)|exact dct rfl|exact dct (by decide)|exact dcf (by decide)|exact (Int.toNat_of_nonneg (by omega)).symm|exact dcu|exact lk1 (by assumption)|exact lk0 (by assumption)))|fail) ?_ | refine SG.skip rfl rfl ?_)
  refine CG.cond_f rfl (by exact rho_of rfl) rfl ?_
  have r2 := r2.kp0 hk5
  have r5 := r5.kp0 hk5
  have hr3 := (hR.kp0 hk05).r3
  have g6 : ¬ (4096 : Int) < (s.pend.length : Int) + (later.length : Int) := by omega
  repeat (first|apply CG.seq|apply CG.region|apply SG.nil|apply NG.next|apply CG.skip|apply CG.block|apply CG.ret|apply CG.exit|apply CG.scope|apply NG.ret_then|apply NG.ret_block|apply NG.ret_scope|apply NG.exit_then|refine NG.exit_block rfl ?_|refine NG.exit_other rfl ?_|apply NG.exit_scope|apply NG.normal_block|apply NG.normal_scope|refine SG.val rfl rfl rfl rfl (by first|((first|apply qmv|apply qas|apply qlc|apply qla|apply qfa|apply qnc|apply qic|apply qix|apply qpk|apply qls|apply qei|apply qni|apply qed|apply qnd|apply qad|apply qln|apply qle|apply qgt|apply qge|apply qlk|apply qlv|apply qxt|apply qsb|apply qnt|apply qep|apply qnp|apply qeb|apply qnb|apply qcv|apply qlm|apply qfr|apply qto|apply qmx|apply qen|apply qsn)<;>(first|exact rfl|exact Ar.mk (by omega)|assumption|exact dct (by assumption)|exact dcf (by assumption)|exact dct (by omega)|exact dcf (by omega)|exact List.not_mem_nil|exact dc_length _|exact nc_length _|exact rc_length _ _ _|exact nm1 (by omega)|exact nm2 (by omega) (by omega)|exact dct rfl|exact dct (by decide)|exact dcf (by decide)|exact (Int.toNat_of_nonneg (by omega)).symm|exact dcu|exact lk1 (by assumption)|exact lk0 (by assumption)))|fail) ?_)
  refine CG.draw0 mixed [0, 1, 2, 3, 4, 5, 6, 7, 8] [] (by kernel_rfl) ?_
  repeat (refine Der.val rfl rfl rfl (by first|((first|apply qmv|apply qas|apply qlc|apply qla|apply qfa|apply qnc|apply qic|apply qix|apply qpk|apply qls|apply qei|apply qni|apply qed|apply qnd|apply qad|apply qln|apply qle|apply qgt|apply qge|apply qlk|apply qlv|apply qxt|apply qsb|apply qnt|apply qep|apply qnp|apply qeb|apply qnb|apply qcv|apply qlm|apply qfr|apply qto|apply qmx|apply qen|apply qsn)<;>(first|exact rfl|exact Ar.mk (by omega)|assumption|exact dct (by assumption)|exact dcf (by assumption)|exact dct (by omega)|exact dcf (by omega)|exact List.not_mem_nil|exact dc_length _|exact nc_length _|exact rc_length _ _ _|exact nm1 (by omega)|exact nm2 (by omega) (by omega)|exact dct rfl|exact dct (by decide)|exact dcf (by decide)|exact (Int.toNat_of_nonneg (by omega)).symm|exact dcu|exact lk1 (by assumption)|exact lk0 (by assumption)))|fail) ?_)
  refine Der.fin (fun w6 hk6 _ _ => ?_)
  have hk06 := hk05.trans hk6
  have r2 := r2.kp0 hk6
  have r5 := r5.kp0 hk6
  repeat (first|apply CG.seq|apply CG.region|apply SG.nil|apply NG.next|apply CG.skip|apply CG.block|apply CG.ret|apply CG.exit|apply CG.scope|apply NG.ret_then|apply NG.ret_block|apply NG.ret_scope|apply NG.exit_then|refine NG.exit_block rfl ?_|refine NG.exit_other rfl ?_|apply NG.exit_scope|apply NG.normal_block|apply NG.normal_scope|refine SG.val rfl rfl rfl rfl (by first|((first|apply qmv|apply qas|apply qlc|apply qla|apply qfa|apply qnc|apply qic|apply qix|apply qpk|apply qls|apply qei|apply qni|apply qed|apply qnd|apply qad|apply qln|apply qle|apply qgt|apply qge|apply qlk|apply qlv|apply qxt|apply qsb|apply qnt|apply qep|apply qnp|apply qeb|apply qnb|apply qcv|apply qlm|apply qfr|apply qto|apply qmx|apply qen|apply qsn)<;>(first|exact rfl|exact Ar.mk (by omega)|assumption|exact dct (by assumption)|exact dcf (by assumption)|exact dct (by omega)|exact dcf (by omega)|exact List.not_mem_nil|exact dc_length _|exact nc_length _|exact rc_length _ _ _|exact nm1 (by omega)|exact nm2 (by omega) (by omega)|exact dct rfl|exact dct (by decide)|exact dcf (by decide)|exact (Int.toNat_of_nonneg (by omega)).symm|exact dcu|exact lk1 (by assumption)|exact lk0 (by assumption)))|fail) ?_)
  refine CG.cond_f rfl (by exact rho_of rfl) rfl ?_
  repeat (first|apply CG.seq|apply CG.region|apply SG.nil|apply NG.next|apply CG.skip|apply CG.block|apply CG.ret|apply CG.exit|apply CG.scope|apply NG.ret_then|apply NG.ret_block|apply NG.ret_scope|apply NG.exit_then|refine NG.exit_block rfl ?_|refine NG.exit_other rfl ?_|apply NG.exit_scope|apply NG.normal_block|apply NG.normal_scope|refine SG.val rfl rfl rfl rfl (by first|((first|apply qmv|apply qas|apply qlc|apply qla|apply qfa|apply qnc|apply qic|apply qix|apply qpk|apply qls|apply qei|apply qni|apply qed|apply qnd|apply qad|apply qln|apply qle|apply qgt|apply qge|apply qlk|apply qlv|apply qxt|apply qsb|apply qnt|apply qep|apply qnp|apply qeb|apply qnb|apply qcv|apply qlm|apply qfr|apply qto|apply qmx|apply qen|apply qsn)<;>(first|exact rfl|exact Ar.mk (by omega)|assumption|exact dct (by assumption)|exact dcf (by assumption)|exact dct (by omega)|exact dcf (by omega)|exact List.not_mem_nil|exact dc_length _|exact nc_length _|exact rc_length _ _ _|exact nm1 (by omega)|exact nm2 (by omega) (by omega)|exact dct rfl|exact dct (by decide)|exact dcf (by decide)|exact (Int.toNat_of_nonneg (by omega)).symm|exact dcu|exact lk1 (by assumption)|exact lk0 (by assumption)))|fail) ?_)
  refine SG.call rfl rfl rfl (by repeat' (first | exact True.intro | exact rho_of rfl | refine And.intro ?_ ?_)) ((bclone_spec cb (hSb.kp0 hk06) (by omega)).mono (fun e w7 h => ?_))
  obtain ⟨v, he, hov, hk7⟩ := h
  refine ⟨v, he, ?_⟩
  obtain ⟨a, c, rfl, hc, hby, hab⟩ := own_by hov rfl
  have hk07 := hk06.trans hk7
  have B4 : Blk w7 b4 (.cells #[.int .i64 fr, .int .i64 to, .slice ab bs.length cb] 35) := (hB4.kp0 hk2).kp0 ((hk3.trans (hk4.trans (hk5.trans hk6))).trans hk7)
  repeat (first|apply CG.seq|apply CG.region|apply SG.nil|apply NG.next|apply CG.skip|apply CG.block|apply CG.ret|apply CG.exit|apply CG.scope|apply NG.ret_then|apply NG.ret_block|apply NG.ret_scope|apply NG.exit_then|refine NG.exit_block rfl ?_|refine NG.exit_other rfl ?_|apply NG.exit_scope|apply NG.normal_block|apply NG.normal_scope|refine SG.val rfl rfl rfl rfl (by first|((first|apply qmv|apply qas|apply qlc|apply qla|apply qfa|apply qnc|apply qic|apply qix|apply qpk|apply qls|apply qei|apply qni|apply qed|apply qnd|apply qad|apply qln|apply qle|apply qgt|apply qge|apply qlk|apply qlv|apply qxt|apply qsb|apply qnt|apply qep|apply qnp|apply qeb|apply qnb|apply qcv|apply qlm|apply qfr|apply qto|apply qmx|apply qen|apply qsn)<;>(first|exact rfl|exact Ar.mk (by omega)|assumption|exact dct (by assumption)|exact dcf (by assumption)|exact dct (by omega)|exact dcf (by omega)|exact List.not_mem_nil|exact dc_length _|exact nc_length _|exact rc_length _ _ _|exact nm1 (by omega)|exact nm2 (by omega) (by omega)|exact dct rfl|exact dct (by decide)|exact dcf (by decide)|exact (Int.toNat_of_nonneg (by omega)).symm|exact dcu|exact lk1 (by assumption)|exact lk0 (by assumption)))|fail) ?_)
  refine SG.setMid [.int .i64 fr, .int .i64 to] [.slice ab bs.length cb] [] rfl rfl (by exact rho_of rfl) (by exact rho_of rfl) B4 rfl rfl rfl rfl rfl (fun w8 hk8 hB8 => ?_)
  have hb4n : w.heap.size ≤ b4 := hb4
  have hne5 : b5 ≠ b4 := by
    have := hB4.lt
    omega
  have r5 := (r5.kp0 hk7).kp hk8 (by simpa using hne5)
  have eN := hk06.size
  have hR7 := hR.kp0 hk07
  have hR8 := hR7.kp1 B4 (by decide) (by decide) (by decide) hk8
  have hby8 : ByAt w8 a bs := hby.kp1 B4 (by decide) hk8
  have hk08 : Kp (sendS bt bm due) w w8 := (hk07.any).trans_new hk8 (by simpa using Or.inr hb4n)
  repeat (first|apply CG.seq|apply CG.region|apply SG.nil|apply NG.next|apply CG.skip|apply CG.block|apply CG.ret|apply CG.exit|apply CG.scope|apply NG.ret_then|apply NG.ret_block|apply NG.ret_scope|apply NG.exit_then|refine NG.exit_block rfl ?_|refine NG.exit_other rfl ?_|apply NG.exit_scope|apply NG.normal_block|apply NG.normal_scope|refine SG.val rfl rfl rfl rfl (by first|((first|apply qmv|apply qas|apply qlc|apply qla|apply qfa|apply qnc|apply qic|apply qix|apply qpk|apply qls|apply qei|apply qni|apply qed|apply qnd|apply qad|apply qln|apply qle|apply qgt|apply qge|apply qlk|apply qlv|apply qxt|apply qsb|apply qnt|apply qep|apply qnp|apply qeb|apply qnb|apply qcv|apply qlm|apply qfr|apply qto|apply qmx|apply qen|apply qsn)<;>(first|exact rfl|exact Ar.mk (by omega)|assumption|exact dct (by assumption)|exact dcf (by assumption)|exact dct (by omega)|exact dcf (by omega)|exact List.not_mem_nil|exact dc_length _|exact nc_length _|exact rc_length _ _ _|exact nm1 (by omega)|exact nm2 (by omega) (by omega)|exact dct rfl|exact dct (by decide)|exact dcf (by decide)|exact (Int.toNat_of_nonneg (by omega)).symm|exact dcu|exact lk1 (by assumption)|exact lk0 (by assumption)))|fail) ?_)
  refine CG.loop (X := Nat) (fun q => [(0, .pointer (some ⟨bt, 0, none⟩)), (4, .pointer (some ⟨b4, 0, none⟩)), (51, .slice al later.length cl), (52, .int .i64 later.length), (53, .int .i64 (q : Int))])
    (fun q w' => q ≤ later.length ∧ ∃ due', Rep w' bt bm (s.sendAll fr to bs (later.take q)) due' ∧ (∀ z, Uses bt bm due' z → Uses bt bm due z ∨ w.heap.size ≤ z) ∧ (∀ e ∈ due', ∀ z, e.2.1.ownBlock = some z → z ∈ sendS bt bm due ∨ w.heap.size ≤ z) ∧ Kp (sendS bt bm due) w w' ∧ Blk w' b4 (.cells #[.int .i64 fr, .int .i64 to, .slice a bs.length c] 35) ∧ ByAt w' a bs)
    (fun q => later.length - q) 0 ⟨Nat.zero_le _, due, by simpa [Ns.sendAll] using hR8, fun z hz => Or.inl hz, fun e he z hz => Or.inl (List.mem_cons_of_mem _ (List.mem_cons_of_mem _ (List.mem_flatMap.2 ⟨e, he, mem_ownB.2 hz⟩))), hk08, hB8, hby8⟩ (by (repeat' (first | exact True.intro | exact rfl | refine And.intro ?_ ?_))) ?_
  rintro j w1 ⟨hj, due1, hR1, hU1, hO1, hK1, hB, hby1⟩
  by_cases hlt : j < later.length
  · have g1 : (j : Int) < (later.length : Int) := by omega
    obtain ⟨ba, oa, rfl, hr⟩ := (hS w1 hK1).at hlt
    obtain ⟨s1, hs1⟩ : ∃ s1, s1 = s.sendAll fr to bs (later.take j) := ⟨_, rfl⟩
    obtain ⟨kk, hkk⟩ : ∃ kk, kk = later[j] := ⟨_, rfl⟩
    rw [← hs1] at hR1
    rw [← hkk] at hr
    have hb0 : badL kk = false := by
      rw [hkk]
      cases hh : badL later[j] with
      | false => rfl
      | true =>
        have : later.any badL = true := List.any_eq_true.2 ⟨_, List.getElem_mem hlt, hh⟩
        rw [h5] at this
        cases this
    have hb1 : 0 ≤ kk ∧ kk ≤ 1000 := by
      simp only [badL, decide_eq_false_iff_not] at hb0
      omega
    have hn1 : s1.now = s.now := by rw [hs1]; rfl
    have hst1 : s1.sent ≤ s.sent + 8 := by
      rw [hs1]
      simp only [Ns.sendAll, List.length_take]
      omega
    have hpl1 : s1.pend.length ≤ 4096 := by
      rw [hs1]
      simp only [Ns.sendAll, List.length_append, List.length_map, List.length_take]
      omega
    have R4 : Row w1 b4 0 [.int .i64 fr, .int .i64 to, .slice a bs.length c] := Row.all hB rfl
    have rn := hR1.r1
    have rs := hR1.r2
    rw [hn1] at rn
    repeat (first|apply CG.seq|apply CG.region|apply SG.nil|apply NG.next|apply CG.skip|apply CG.block|apply CG.ret|apply CG.exit|apply CG.scope|apply NG.ret_then|apply NG.ret_block|apply NG.ret_scope|apply NG.exit_then|refine NG.exit_block rfl ?_|refine NG.exit_other rfl ?_|apply NG.exit_scope|apply NG.normal_block|apply NG.normal_scope|refine SG.val rfl rfl rfl rfl (by first|((first|apply qmv|apply qas|apply qlc|apply qla|apply qfa|apply qnc|apply qic|apply qix|apply qpk|apply qls|apply qei|apply qni|apply qed|apply qnd|apply qad|apply qln|apply qle|apply qgt|apply qge|apply qlk|apply qlv|apply qxt|apply qsb|apply qnt|apply qep|apply qnp|apply qeb|apply qnb|apply qcv|apply qlm|apply qfr|apply qto|apply qmx|apply qen|apply qsn)<;>(first|exact rfl|exact Ar.mk (by omega)|assumption|exact dct (by assumption)|exact dcf (by assumption)|exact dct (by omega)|exact dcf (by omega)|exact List.not_mem_nil|exact dc_length _|exact nc_length _|exact rc_length _ _ _|exact nm1 (by omega)|exact nm2 (by omega) (by omega)|exact dct rfl|exact dct (by decide)|exact dcf (by decide)|exact (Int.toNat_of_nonneg (by omega)).symm|exact dcu|exact lk1 (by assumption)|exact lk0 (by assumption)))|fail) ?_)
    refine CG.cond_t rfl (by exact rho_of rfl) rfl ?_
    repeat (first|apply CG.seq|apply CG.region|apply SG.nil|apply NG.next|apply CG.skip|apply CG.block|apply CG.ret|apply CG.exit|apply CG.scope|apply NG.ret_then|apply NG.ret_block|apply NG.ret_scope|apply NG.exit_then|refine NG.exit_block rfl ?_|refine NG.exit_other rfl ?_|apply NG.exit_scope|apply NG.normal_block|apply NG.normal_scope|refine SG.val rfl rfl rfl rfl (by first|((first|apply qmv|apply qas|apply qlc|apply qla|apply qfa|apply qnc|apply qic|apply qix|apply qpk|apply qls|apply qei|apply qni|apply qed|apply qnd|apply qad|apply qln|apply qle|apply qgt|apply qge|apply qlk|apply qlv|apply qxt|apply qsb|apply qnt|apply qep|apply qnp|apply qeb|apply qnb|apply qcv|apply qlm|apply qfr|apply qto|apply qmx|apply qen|apply qsn)<;>(first|exact rfl|exact Ar.mk (by omega)|assumption|exact dct (by assumption)|exact dcf (by assumption)|exact dct (by omega)|exact dcf (by omega)|exact List.not_mem_nil|exact dc_length _|exact nc_length _|exact rc_length _ _ _|exact nm1 (by omega)|exact nm2 (by omega) (by omega)|exact dct rfl|exact dct (by decide)|exact dcf (by decide)|exact (Int.toNat_of_nonneg (by omega)).symm|exact dcu|exact lk1 (by assumption)|exact lk0 (by assumption)))|fail) ?_)
    refine CG.drawv mixed [0, 1, 2, 3, 4, 5, 6, 7, 8, 9, 10, 11] [(12, 13, 9, .tmp 68)] (by kernel_rfl) (by kernel_rfl) ?_
    repeat (refine Der.val rfl rfl rfl (by first|((first|apply qmv|apply qas|apply qlc|apply qla|apply qfa|apply qnc|apply qic|apply qix|apply qpk|apply qls|apply qei|apply qni|apply qed|apply qnd|apply qad|apply qln|apply qle|apply qgt|apply qge|apply qlk|apply qlv|apply qxt|apply qsb|apply qnt|apply qep|apply qnp|apply qeb|apply qnb|apply qcv|apply qlm|apply qfr|apply qto|apply qmx|apply qen|apply qsn)<;>(first|exact rfl|exact Ar.mk (by omega)|assumption|exact dct (by assumption)|exact dcf (by assumption)|exact dct (by omega)|exact dcf (by omega)|exact List.not_mem_nil|exact dc_length _|exact nc_length _|exact rc_length _ _ _|exact nm1 (by omega)|exact nm2 (by omega) (by omega)|exact dct rfl|exact dct (by decide)|exact dcf (by decide)|exact (Int.toNat_of_nonneg (by omega)).symm|exact dcu|exact lk1 (by assumption)|exact lk0 (by assumption)))|fail) ?_)
    refine Der.val rfl rfl rfl (vals_build rfl (fun w => build77 w fr to a bs.length c s1.sent (s.now + kk))) ?_
    refine Der.one (VrOk.of (by rfl) rfl rfl rfl (by exact rho_of rfl) (by first | exact dc_length _ | exact nc_length _ | exact rc_length _ _ _ | rfl) (by rfl) (by first | exact dc_one _ | exact nc_one _ | exact rc_one _ _ _ | rfl)) (fun b9 w2 hk2 hb9 hB9 => ?_)
    have hR2 := hR1.kp0 hk2
    obtain ⟨k, hk⟩ : ∃ k : I64, k.1 = (s.now : Int) + kk := ⟨⟨(s.now : Int) + kk, by omega, by omega⟩, rfl⟩
    rw [← hk] at hB9 ⊢
    have R9 : Row w2 b9 0 [.int .i64 fr, .int .i64 to, .slice a bs.length c, .int .i64 s1.sent, .int .i64 k.1] := Row.all hB9 rfl
    have R92 : Row w2 b9 4 [.int .i64 k.1] := Row.of hB9 [.int .i64 fr, .int .i64 to, .slice a bs.length c, .int .i64 s1.sent] [] rfl rfl
    have hr4 := hR2.r4
    have hm := hR2.map
    have hown := hR2.own_tick k
    have htl : (tick due1 k).2.length ≤ 4096 := by
      have h := congrArg List.length (hR2.at_ k)
      have e : ((alook due1 k).map (fun q => q.2)).getD [] = (tick due1 k).2 := by
        unfold tick
        cases alook due1 k <;> rfl
      rw [e, List.length_map] at h
      rw [h]
      exact Nat.le_trans (List.length_filter_le _ _) hpl1
    have hSl : ∀ z ∈ ownB (tick due1 k).1, z < w2.heap.size := fun z hz => by
      obtain ⟨cs, hc⟩ := own_blk hown (mem_ownB.1 hz)
      exact hc.lt
    have nbt : bt ∉ ownB (tick due1 k).1 := fun hz => by
      obtain ⟨cs, hc⟩ := own_blk hown (mem_ownB.1 hz)
      exact ne_ty (by decide) hR2.blk hc rfl
    have nbm : bm ∉ ownB (tick due1 k).1 := fun hz => by
      obtain ⟨cs, hc⟩ := own_blk hown (mem_ownB.1 hz)
      obtain ⟨es, ec, hmb⟩ := hm.blk
      exact ne_map hmb hc rfl
    have nb9 : b9 ∉ ownB (tick due1 k).1 := fun hz => by
      obtain ⟨cs, hc⟩ := own_blk (hR1.own_tick k) (mem_ownB.1 hz)
      have := hc.lt
      omega
    have htv : (alook due1 k = none ∧ (tick due1 k).1 = .slice none 0 0) ∨ ∃ q, alook due1 k = some q ∧ (tick due1 k).1 = q.1 := by
      unfold tick
      cases alook due1 k with
      | none => exact Or.inl ⟨rfl, rfl⟩
      | some q => exact Or.inr ⟨q, rfl, rfl⟩
    repeat (first|apply CG.seq|apply CG.region|apply SG.nil|apply NG.next|apply CG.skip|apply CG.block|apply CG.ret|apply CG.exit|apply CG.scope|apply NG.ret_then|apply NG.ret_block|apply NG.ret_scope|apply NG.exit_then|refine NG.exit_block rfl ?_|refine NG.exit_other rfl ?_|apply NG.exit_scope|apply NG.normal_block|apply NG.normal_scope|refine SG.val rfl rfl rfl rfl (by first|((first|apply qmv|apply qas|apply qlc|apply qla|apply qfa|apply qnc|apply qic|apply qix|apply qpk|apply qls|apply qei|apply qni|apply qed|apply qnd|apply qad|apply qln|apply qle|apply qgt|apply qge|apply qlk|apply qlv|apply qxt|apply qsb|apply qnt|apply qep|apply qnp|apply qeb|apply qnb|apply qcv|apply qlm|apply qfr|apply qto|apply qmx|apply qen|apply qsn)<;>(first|exact rfl|exact Ar.mk (by omega)|assumption|exact dct (by assumption)|exact dcf (by assumption)|exact dct (by omega)|exact dcf (by omega)|exact List.not_mem_nil|exact dc_length _|exact nc_length _|exact rc_length _ _ _|exact nm1 (by omega)|exact nm2 (by omega) (by omega)|exact dct rfl|exact dct (by decide)|exact dcf (by decide)|exact (Int.toNat_of_nonneg (by omega)).symm|exact dcu|exact lk1 (by assumption)|exact lk0 (by assumption)))|fail) ?_)
    refine CG.tailg mixed 16 [0, 1, 2, 3, 4, 5, 6, 7, 8, 9, 10, 11, 12, 13, 14, 15] [14, 15] (ownB (tick due1 k).1) (fun w => w.ownsRow 0 77 5 (tick due1 k).1 (tick due1 k).2.length (flt pcl (tick due1 k).2)) (by kernel_rfl) hown (fun _ _ hk h => own_kp0 h hk) ?_
    rcases htv with ⟨hlk, htv⟩ | ⟨q, hlk, htv⟩
    all_goals
      repeat (refine Der.val rfl rfl rfl (by first|((first|apply qmv|apply qas|apply qlc|apply qla|apply qfa|apply qnc|apply qic|apply qix|apply qpk|apply qls|apply qei|apply qni|apply qed|apply qnd|apply qad|apply qln|apply qle|apply qgt|apply qge|apply qlk|apply qlv|apply qxt|apply qsb|apply qnt|apply qep|apply qnp|apply qeb|apply qnb|apply qcv|apply qlm|apply qfr|apply qto|apply qmx|apply qen|apply qsn)<;>(first|exact rfl|exact Ar.mk (by omega)|assumption|exact dct (by assumption)|exact dcf (by assumption)|exact dct (by omega)|exact dcf (by omega)|exact List.not_mem_nil|exact dc_length _|exact nc_length _|exact rc_length _ _ _|exact nm1 (by omega)|exact nm2 (by omega) (by omega)|exact dct rfl|exact dct (by decide)|exact dcf (by decide)|exact (Int.toNat_of_nonneg (by omega)).symm|exact dcu|exact lk1 (by assumption)|exact lk0 (by assumption)))|fail) ?_)
      refine Der.buildR (cs := #[.int .i64 fr, .int .i64 to, .slice a bs.length c, .int .i64 s1.sent, .int .i64 k.1]) (E := 77) rfl rfl rfl rfl rfl (fun w => bslice77 w fr to a bs.length c s1.sent k.1) hSl (fun _ _ _ _ => trivial) (fun _ _ hk h => own_kp0 h hk) (fun bn => ?_)
      refine Der.appendR (base := 0) (e := 77) (i := Try.t77) (f := ty.i77) (v := (tick due1 k).1) (nn := (tick due1 k).2.length) (xs := flt pcl (tick due1 k).2) (b := bn) (off := 0) (m := 1) (c := 1) (news := [.int .i64 fr, .int .i64 to, .slice a bs.length c, .int .i64 s1.sent, .int .i64 k.1]) rfl rfl rfl rfl (Eq.trans (by exact rho_of rfl) htv.symm) (by exact rho_of rfl) rfl rfl rfl (fun w hk (hF : True ∧ w2.heap.size ≤ bn ∧ Blk w bn (.cells #[.int .i64 fr, .int .i64 to, .slice a bs.length c, .int .i64 s1.sent, .int .i64 k.1] 77)) => Row.all hF.2.2 rfl) rfl rfl (by simp only [maxLen]; omega) (Nat.le_trans (Nat.mul_le_mul_right _ (show _ ≤ 5000 by omega)) (by decide)) (Nat.zero_le _) (fun _ h => h) (fun w w' hk (hF : True ∧ w2.heap.size ≤ bn ∧ Blk w bn (.cells #[.int .i64 fr, .int .i64 to, .slice a bs.length c, .int .i64 s1.sent, .int .i64 k.1] 77)) => ⟨trivial, hF.2.1, hF.2.2.kp hk (fun hm => by have := hSl _ hm; have := hF.2.1; omega)⟩) (fun v' => ?_)
      refine Der.tl (fun w3 hk3 hF hown3 => ?_)
      have hwh := hF.2
      have hm3 := hm.kp hk3 nbm
      refine SG.mapUpdate (enc := iv) (V := fun q : Value × List Pc => q.1) (kx := k) (vy := (v', (tick due1 k).2 ++ [⟨cpOf s fr to bs kk, a, c, s1.sent⟩])) rfl rfl (by exact rho_of rfl) (by exact rho_of rfl) (by exact rho_of rfl) hm3 (i64_key ty.u3.eq) (fun w4 hk4 hm4 => ?_)
      obtain ⟨p, hp⟩ : ∃ p : Pc, p = ⟨cpOf s fr to bs kk, a, c, s1.sent⟩ := ⟨_, rfl⟩
      rw [← hp] at hm4
      have hpd : (p.cp.due : Int) = k.1 := by
        rw [hp, hk]
        show ((s.now + kk.toNat : Nat) : Int) = _
        omega
      have hpl : pcl p = [.int .i64 fr, .int .i64 to, .slice a bs.length c, .int .i64 s1.sent, .int .i64 k.1] := by
        have : pcl p = [.int .i64 p.cp.fr, .int .i64 p.cp.to, .slice p.a p.cp.bs.length p.c, .int .i64 p.sent, .int .i64 p.cp.due] := rfl
        rw [this, hpd, hp]
        rfl
      rw [← hpl] at hown3
      have hBt := (hR2.blk.kp hk3 nbt).kp hk4 (by obtain ⟨es, ec, hmb⟩ := hm.blk; simpa using ne_map hmb hR2.blk)
      have rs := Row.of hBt [.int .i64 s1.parties, .int .i64 s1.now] (l := [.int .i64 s1.sent]) ([.int .i64 s1.pend.length, .map (some bm)] ++ s1.cuts.map .bool) rfl rfl
      repeat (first|apply CG.seq|apply CG.region|apply SG.nil|apply NG.next|apply CG.skip|apply CG.block|apply CG.ret|apply CG.exit|apply CG.scope|apply NG.ret_then|apply NG.ret_block|apply NG.ret_scope|apply NG.exit_then|refine NG.exit_block rfl ?_|refine NG.exit_other rfl ?_|apply NG.exit_scope|apply NG.normal_block|apply NG.normal_scope|refine SG.val rfl rfl rfl rfl (by first|((first|apply qmv|apply qas|apply qlc|apply qla|apply qfa|apply qnc|apply qic|apply qix|apply qpk|apply qls|apply qei|apply qni|apply qed|apply qnd|apply qad|apply qln|apply qle|apply qgt|apply qge|apply qlk|apply qlv|apply qxt|apply qsb|apply qnt|apply qep|apply qnp|apply qeb|apply qnb|apply qcv|apply qlm|apply qfr|apply qto|apply qmx|apply qen|apply qsn)<;>(first|exact rfl|exact Ar.mk (by omega)|assumption|exact dct (by assumption)|exact dcf (by assumption)|exact dct (by omega)|exact dcf (by omega)|exact List.not_mem_nil|exact dc_length _|exact nc_length _|exact rc_length _ _ _|exact nm1 (by omega)|exact nm2 (by omega) (by omega)|exact dct rfl|exact dct (by decide)|exact dcf (by decide)|exact (Int.toNat_of_nonneg (by omega)).symm|exact dcu|exact lk1 (by assumption)|exact lk0 (by assumption)))|fail) ?_)
      refine SG.setMid [.int .i64 s1.parties, .int .i64 s1.now] [.int .i64 s1.sent] ([.int .i64 s1.pend.length, .map (some bm)] ++ s1.cuts.map .bool) rfl rfl (by exact rho_of rfl) (by exact rho_of rfl) hBt rfl rfl rfl rfl rfl (fun w5 hk5 hB5 => ?_)
      have rw5 := Row.of hB5 [.int .i64 s1.parties, .int .i64 s1.now, .int .i64 (s1.sent + 1)] (l := [.int .i64 s1.pend.length]) ([.map (some bm)] ++ s1.cuts.map .bool) rfl rfl
      repeat (first|apply CG.seq|apply CG.region|apply SG.nil|apply NG.next|apply CG.skip|apply CG.block|apply CG.ret|apply CG.exit|apply CG.scope|apply NG.ret_then|apply NG.ret_block|apply NG.ret_scope|apply NG.exit_then|refine NG.exit_block rfl ?_|refine NG.exit_other rfl ?_|apply NG.exit_scope|apply NG.normal_block|apply NG.normal_scope|refine SG.val rfl rfl rfl rfl (by first|((first|apply qmv|apply qas|apply qlc|apply qla|apply qfa|apply qnc|apply qic|apply qix|apply qpk|apply qls|apply qei|apply qni|apply qed|apply qnd|apply qad|apply qln|apply qle|apply qgt|apply qge|apply qlk|apply qlv|apply qxt|apply qsb|apply qnt|apply qep|apply qnp|apply qeb|apply qnb|apply qcv|apply qlm|apply qfr|apply qto|apply qmx|apply qen|apply qsn)<;>(first|exact rfl|exact Ar.mk (by omega)|assumption|exact dct (by assumption)|exact dcf (by assumption)|exact dct (by omega)|exact dcf (by omega)|exact List.not_mem_nil|exact dc_length _|exact nc_length _|exact rc_length _ _ _|exact nm1 (by omega)|exact nm2 (by omega) (by omega)|exact dct rfl|exact dct (by decide)|exact dcf (by decide)|exact (Int.toNat_of_nonneg (by omega)).symm|exact dcu|exact lk1 (by assumption)|exact lk0 (by assumption)))|fail) ?_)
      refine SG.setMid [.int .i64 s1.parties, .int .i64 s1.now, .int .i64 (s1.sent + 1)] [.int .i64 s1.pend.length] ([.map (some bm)] ++ s1.cuts.map .bool) rfl rfl (by exact rho_of rfl) (by exact rho_of rfl) hB5 rfl rfl rfl rfl rfl (fun w6 hk6 hB6 => ?_)
      repeat (first|apply CG.seq|apply CG.region|apply SG.nil|apply NG.next|apply CG.skip|apply CG.block|apply CG.ret|apply CG.exit|apply CG.scope|apply NG.ret_then|apply NG.ret_block|apply NG.ret_scope|apply NG.exit_then|refine NG.exit_block rfl ?_|refine NG.exit_other rfl ?_|apply NG.exit_scope|apply NG.normal_block|apply NG.normal_scope|refine SG.val rfl rfl rfl rfl (by first|((first|apply qmv|apply qas|apply qlc|apply qla|apply qfa|apply qnc|apply qic|apply qix|apply qpk|apply qls|apply qei|apply qni|apply qed|apply qnd|apply qad|apply qln|apply qle|apply qgt|apply qge|apply qlk|apply qlv|apply qxt|apply qsb|apply qnt|apply qep|apply qnp|apply qeb|apply qnb|apply qcv|apply qlm|apply qfr|apply qto|apply qmx|apply qen|apply qsn)<;>(first|exact rfl|exact Ar.mk (by omega)|assumption|exact dct (by assumption)|exact dcf (by assumption)|exact dct (by omega)|exact dcf (by omega)|exact List.not_mem_nil|exact dc_length _|exact nc_length _|exact rc_length _ _ _|exact nm1 (by omega)|exact nm2 (by omega) (by omega)|exact dct rfl|exact dct (by decide)|exact dcf (by decide)|exact (Int.toNat_of_nonneg (by omega)).symm|exact dcu|exact lk1 (by assumption)|exact lk0 (by assumption)))|fail) ?_)
      have hnc : ncl (s1.add p.cp) bm = [.int .i64 s1.parties, .int .i64 s1.now, .int .i64 (s1.sent + 1)] ++ ([.int .i64 (s1.pend.length + 1)] ++ ([.map (some bm)] ++ s1.cuts.map .bool)) := by
        simp [ncl, Ns.add]
      have hB7 : Blk w6 bt (.cells (ncl (s1.add p.cp) bm).toArray 72) := by
        rw [hnc]
        exact hB6
      have hk56 := hk5.trans hk6
      have hby2 := hby1.kp hk2 (by simp)
      have hnew := hR2.put k (p := p) hk3 hown3 hwh (by rw [hp]; exact hby2) hpd hk4 hm4 hk56 hB7
      have hadd : s1.add p.cp = s.sendAll fr to bs (later.take (j + 1)) := by
        rw [hs1, hp, List.take_add_one, List.getElem?_eq_getElem hlt, ← hkk]
        exact Ns.sendAll_add kk
      rw [hadd] at hnew
      have hN2 : w.heap.size ≤ w2.heap.size := Nat.le_trans hK1.size hk2.size
      refine NG.round (j + 1) (by (repeat' (first | exact True.intro | exact rfl | refine And.intro ?_ ?_))) ⟨hlt, _, hnew, fun z hz => ?_, fun e he z hz => ?_, ?_, hR2.put_blk k hk3 hk4 hk56 (by decide) (by decide) (hB.kp0 hk2), hR2.put_by k hk3 hk4 hk56 hby2⟩ (by omega)
      · rcases uses_put hR2 k hN2 hwh (by rw [hp]; intro b off e; have := hab b off e; omega) hz with h | h
        · exact hU1 z h
        · exact Or.inr h
      · rcases mem_aput hm.nodup he with rfl | ⟨he, hek⟩
        · rcases hwh z hz with h | h
          · exact hO1 _ (hR2.own_of h) z h
          · exact Or.inr (by omega)
        · exact hO1 e he z hz
      · refine (((hK1.trans (hk2.any)).trans_new hk3 (fun z hz => ?_)).trans_new hk4 (fun z hz => ?_)).trans_new hk56 (fun z hz => ?_)
        · have hz' := mem_ownB.1 hz
          exact hO1 _ (hR2.own_of hz') z hz'
        · rw [List.mem_singleton] at hz
          subst hz
          exact Or.inl (by simp [sendS])
        · rw [List.mem_singleton] at hz
          subst hz
          exact Or.inl (by simp [sendS])
  · have g1 : ¬ (j : Int) < (later.length : Int) := by omega
    repeat (first|apply CG.seq|apply CG.region|apply SG.nil|apply NG.next|apply CG.skip|apply CG.block|apply CG.ret|apply CG.exit|apply CG.scope|apply NG.ret_then|apply NG.ret_block|apply NG.ret_scope|apply NG.exit_then|refine NG.exit_block rfl ?_|refine NG.exit_other rfl ?_|apply NG.exit_scope|apply NG.normal_block|apply NG.normal_scope|refine SG.val rfl rfl rfl rfl (by first|((first|apply qmv|apply qas|apply qlc|apply qla|apply qfa|apply qnc|apply qic|apply qix|apply qpk|apply qls|apply qei|apply qni|apply qed|apply qnd|apply qad|apply qln|apply qle|apply qgt|apply qge|apply qlk|apply qlv|apply qxt|apply qsb|apply qnt|apply qep|apply qnp|apply qeb|apply qnb|apply qcv|apply qlm|apply qfr|apply qto|apply qmx|apply qen|apply qsn)<;>(first|exact rfl|exact Ar.mk (by omega)|assumption|exact dct (by assumption)|exact dcf (by assumption)|exact dct (by omega)|exact dcf (by omega)|exact List.not_mem_nil|exact dc_length _|exact nc_length _|exact rc_length _ _ _|exact nm1 (by omega)|exact nm2 (by omega) (by omega)|exact dct rfl|exact dct (by decide)|exact dcf (by decide)|exact (Int.toNat_of_nonneg (by omega)).symm|exact dcu|exact lk1 (by assumption)|exact lk0 (by assumption)))|fail) ?_)
    refine CG.cond_f rfl (by exact rho_of rfl) rfl ?_
    repeat (first|apply CG.seq|apply CG.region|apply SG.nil|apply NG.next|apply CG.skip|apply CG.block|apply CG.ret|apply CG.exit|apply CG.scope|apply NG.ret_then|apply NG.ret_block|apply NG.ret_scope|apply NG.exit_then|refine NG.exit_block rfl ?_|refine NG.exit_other rfl ?_|apply NG.exit_scope|apply NG.normal_block|apply NG.normal_scope|refine SG.val rfl rfl rfl rfl (by first|((first|apply qmv|apply qas|apply qlc|apply qla|apply qfa|apply qnc|apply qic|apply qix|apply qpk|apply qls|apply qei|apply qni|apply qed|apply qnd|apply qad|apply qln|apply qle|apply qgt|apply qge|apply qlk|apply qlv|apply qxt|apply qsb|apply qnt|apply qep|apply qnp|apply qeb|apply qnb|apply qcv|apply qlm|apply qfr|apply qto|apply qmx|apply qen|apply qsn)<;>(first|exact rfl|exact Ar.mk (by omega)|assumption|exact dct (by assumption)|exact dcf (by assumption)|exact dct (by omega)|exact dcf (by omega)|exact List.not_mem_nil|exact dc_length _|exact nc_length _|exact rc_length _ _ _|exact nm1 (by omega)|exact nm2 (by omega) (by omega)|exact dct rfl|exact dct (by decide)|exact dcf (by decide)|exact (Int.toNat_of_nonneg (by omega)).symm|exact dcu|exact lk1 (by assumption)|exact lk0 (by assumption)))|fail) ?_)
    refine ret1 (Or.inl rfl) Try.results13 (by first | exact ResV.tmp rfl | exact ResV.agg rfl rfl (by assumption) (by first | exact dc_length _ | exact nc_length _ | exact rc_length _ _ _ | rfl) | exact ResV.cell rfl rfl (by assumption)) ?_
    have : j = later.length := by omega
    subst this
    rw [List.take_length] at hR1
    exact ⟨due1, rfl, hR1, hU1, hK1⟩
end Go.Proofs.Ytfelaicoedlejaa
