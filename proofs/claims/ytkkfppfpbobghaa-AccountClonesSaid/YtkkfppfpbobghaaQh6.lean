/-
  AccountClones answers true for every input, and leaves its arguments as they were. No conditions.
-/
import Derived.Test.YtkkfppfpbobghaaQh5
/-
  AccountClones: the walk.
-/
namespace Go.Proofs.Ytkkfppfpbobghaa
set_option linter.unusedVariables false

theorem ptr_ne {w : World} {b b' : Nat} {cs cs' : Array Value} {T1 T2 : TypeId} (hne : b ≠ b') (hB : Blk w b (.cells cs T1)) (hB' : Blk w b' (.cells cs' T2)) : (Op.equal 24 (.pointer (some ⟨b, 0, none⟩)) (.pointer (some ⟨b', 0, none⟩))).run Try.prog w = .ok false w := equal_of (fun d => by
  have h1 := run_sameAddr_other (P := Try.prog) (w := w) (a := ⟨b, 0, none⟩) (b := ⟨b', 0, none⟩) (fun e => hne (Addr.mk.inj e).1) hB hB'
  simp only [Op.equalIn, Sem.run_bind, run_underlying Try.underlying24, Result.andThen, run_sizeOf' (T := 72)]
  rw [if_pos (by decide)]
  exact h1)
theorem vals_ptrne {w0 : World} {F : World → Prop} {L : Env} {d : Option Nat} {ty : TypeId} {pos : String} {af : Array Edge} {g : Option (Nat × Bool)} {x y : Operand} {T' : TypeId} {b b' : Nat} {cs cs' : Array Value} {T1 T2 : TypeId} (hx : ro L x = some (.pointer (some ⟨b, 0, none⟩))) (hy : ro L y = some (.pointer (some ⟨b', 0, none⟩))) (hne : b ≠ b') (hB : Blk w0 b (.cells cs T1)) (hB' : Blk w0 b' (.cells cs' T2)) : Vals Try.prog [] w0 F L ⟨d, .binOp .eql 24 x y T', ty, pos, af, g⟩ (.bool false) := fun w hk _ => by
  simp [execOp, rho_of hx, rho_of hy, eqGuard, binOp, ptr_ne hne (hB.kp0 hk) (hB'.kp0 hk)]

theorem allL_asc {l : List En} (h : (l.map (·.key)).Nodup) : Asc (allL l) := (allL_sasc h).imp (fun {a b} hab => by
  refine decide_eq_false ?_
  show ¬ cb b.key.1 a.key.1 < 0
  have := cb_neg a.key.1 b.key.1
  omega)
theorem same_of {T N T' N' : Int} {m m' : Bk} {l l' : List En} (h : Rel T N m l) (h' : Rel T' N' m' l') {es es' : List En} (e1 : es = allL l) (e2 : es' = allL l') (hp : es.Perm (m.map enE)) (hp' : es'.Perm (m'.map enE)) : sameB m m' = decide (allL l = allL l') := by
  rw [← e1, ← e2]
  have key : (sameB m m' = true) ↔ es = es' := by
    rw [same_iff h.ok h'.ok]
    constructor
    · intro hb
      have hr : Rel T' N' m' l := ⟨h'.ok, h.nd, fun k => by rw [← hb]; exact h.bal k, by
        have hpm : (m.map enE).Perm (m'.map enE) := by
          have hk : ∀ {m : Bk} {T N : Int}, Ok T N m → (m.map enE).Nodup := fun {m T N} ho => nodup_of_keys (by rw [List.map_map]; exact ho.nd)
          rw [List.perm_ext_iff_of_nodup (hk h.ok) (hk h'.ok)]
          have one : ∀ {m m' : Bk} {T N T' N' : Int}, Ok T N m → Ok T' N' m' → (∀ k, bal m k = bal m' k) → ∀ e, e ∈ m.map enE → e ∈ m'.map enE := by
            intro m m' T N T' N' ho ho' hb e he
            obtain ⟨p, hp, rfl⟩ := List.mem_map.1 he
            have h1 := bal_mem ho.nd hp
            rw [hb] at h1
            have h2 := ho.nz p hp
            have hal : alook m' p.1 = some p.2 := by
              unfold bal at h1
              cases hq : alook m' p.1 with
              | none => rw [hq] at h1; exact absurd h1.symm h2
              | some q => rw [hq] at h1; simp only [Option.getD_some] at h1; rw [h1]
            exact List.mem_map.2 ⟨_, mem_of_alook hal, rfl⟩
          exact fun e => ⟨one h.ok h'.ok hb e, one h'.ok h.ok (fun k => (hb k).symm) e⟩
        rw [h.sum, ← h.ok.tot, ← h'.ok.tot, ← esum_enE, ← esum_enE]
        exact esum_perm hpm⟩
      rw [e1]
      refine (hr.all hp' ?_).symm
      rw [e2]
      exact allL_asc h'.nd
    · intro he k
      have hm : ∀ {m : Bk} {T N : Int} {es : List En}, Ok T N m → es.Perm (m.map enE) → ∀ k, bal m k = ofL es k := by
        intro m T N es ho hp k
        have hkn : (es.map (·.key)).Nodup := (hp.map _).nodup_iff.2 (by rw [List.map_map]; exact ho.nd)
        by_cases hk : ∃ p ∈ m, p.1 = k
        · obtain ⟨p, hpm, rfl⟩ := hk
          rw [bal_mem ho.nd hpm]
          have := ofL_mem hkn (hp.mem_iff.2 (List.mem_map.2 ⟨p, hpm, rfl⟩) : enE p ∈ es)
          exact this.symm
        · have h0 : alook m k = none := by rw [alook_none]; exact fun p hp' e => hk ⟨p, hp', e⟩
          rw [ofL_not (fun e he hke => hk (by
            obtain ⟨p, hpm, rfl⟩ := List.mem_map.1 (hp.mem_iff.1 he)
            exact ⟨p, hpm, hke⟩))]
          unfold bal
          rw [h0]
          rfl
      rw [hm h.ok hp, hm h'.ok hp', he]
  by_cases he : es = es'
  · rw [decide_eq_true he]
    exact key.2 he
  · rw [decide_eq_false he]
    cases hb : sameB m m' with
    | false => rfl
    | true => exact absurd (key.1 hb) he

attribute [local irreducible] CG NG SG Vals Der Row Blk MapIs IterAt DerX
set_option maxHeartbeats 64000000 in
theorem clones_law (w : World) (a : Option Addr) (n c : Nat) (l : List Nat) (hl : l.length = n ∧ SlU w a l ∧ ∀ x ∈ l, x < 65536) (ao : Option Addr) (no co : Nat) (os : List Oq) (ho : os.length = no ∧ SlO w ao os ∧ ∀ o ∈ os, o.Fit) (ap : Option Addr) (np cp : Nat) (ps : List Oq) (hps : ps.length = np ∧ SlO w ap ps ∧ ∀ o ∈ ps, o.Fit) :
    Ret Try.prog 9 #[.slice a n c, .slice ao no co, .slice ap np cp] w (.bool true) := by
  obtain ⟨rfl, hS, hb⟩ := hl
  obtain ⟨rfl, hT, hob⟩ := ho
  obtain ⟨rfl, hU, hpb⟩ := hps
  refine enter3 Try.func9 rfl Try.ntmps9 rfl ?_
  obtain ⟨hok, hlen, hbal, e0, e1⟩ := begM_ok hb
  have hrel := begin_rel hb
  have hbl : (begL l).length ≤ 8 := by unfold begL; rw [begN_length]; omega
  repeat (first|apply CG.seq|apply CG.region|apply SG.nil|apply NG.next|apply CG.skip|apply CG.block|apply CG.ret|apply CG.exit|apply CG.scope|apply NG.ret_then|apply NG.ret_block|apply NG.ret_scope|apply NG.exit_then|refine NG.exit_block rfl ?_|refine NG.exit_other rfl ?_|apply NG.exit_scope|apply NG.normal_block|apply NG.normal_scope|refine SG.val rfl rfl rfl rfl (by first|((first|apply qmv|apply qas|apply qlc|apply qla|apply qfa|apply qnc|apply qic|apply qix|apply qpk|apply qls|apply qei|apply qni|apply qed|apply qnd|apply qad|apply qln|apply qle|apply qgt|apply qge|apply qlk|apply qlv|apply qxt|apply qsb|apply qnt|apply qep|apply qnp|apply qeb|apply qnb|apply qx2|apply qx4|apply qcv|apply qlm|apply qfr|apply qto|apply qmx|apply qen|apply qsn|apply qx8|apply qx7|apply qx6|apply qx5|apply qx4|apply qx3|apply qx2|apply qx1|apply qx0)<;>(first|exact rfl|exact Ar.mk (by omega)|assumption|exact dct (by assumption)|exact dcf (by assumption)|exact dct (by omega)|exact dcf (by omega)|exact List.not_mem_nil|exact dc_length _|exact nc_length _|exact rc_length _ _ _|exact ec_length _|exact nm1 (by omega)|exact nm2 (by omega) (by omega)|exact dct rfl|exact dct (by decide)|exact dcf (by decide)|exact (Int.toNat_of_nonneg (by omega)).symm|exact dcu|exact lk1 (by assumption)|exact lk0 (by assumption)|exact lkb|fail))|fail) ?_)
  refine SG.call rfl rfl rfl (by repeat' (first | exact True.intro | exact rho_of rfl | refine And.intro ?_ ?_)) ((begin_spec c hS hb).mono (fun e w1 hh => ?_))
  obtain ⟨bt, bm, v1, he1, hB1, hbt, hbm, ho1, hk1⟩ := hh
  refine ⟨_, he1, ?_⟩
  obtain ⟨a1, c1, rfl, hS1⟩ := SlF.own ec_length ho1 rfl
  have hS1 := hS1.sl
  repeat (first|apply CG.seq|apply CG.region|apply SG.nil|apply NG.next|apply CG.skip|apply CG.block|apply CG.ret|apply CG.exit|apply CG.scope|apply NG.ret_then|apply NG.ret_block|apply NG.ret_scope|apply NG.exit_then|refine NG.exit_block rfl ?_|refine NG.exit_other rfl ?_|apply NG.exit_scope|apply NG.normal_block|apply NG.normal_scope|refine SG.val rfl rfl rfl rfl (by first|((first|apply qmv|apply qas|apply qlc|apply qla|apply qfa|apply qnc|apply qic|apply qix|apply qpk|apply qls|apply qei|apply qni|apply qed|apply qnd|apply qad|apply qln|apply qle|apply qgt|apply qge|apply qlk|apply qlv|apply qxt|apply qsb|apply qnt|apply qep|apply qnp|apply qeb|apply qnb|apply qx2|apply qx4|apply qcv|apply qlm|apply qfr|apply qto|apply qmx|apply qen|apply qsn|apply qx8|apply qx7|apply qx6|apply qx5|apply qx4|apply qx3|apply qx2|apply qx1|apply qx0)<;>(first|exact rfl|exact Ar.mk (by omega)|assumption|exact dct (by assumption)|exact dcf (by assumption)|exact dct (by omega)|exact dcf (by omega)|exact List.not_mem_nil|exact dc_length _|exact nc_length _|exact rc_length _ _ _|exact ec_length _|exact nm1 (by omega)|exact nm2 (by omega) (by omega)|exact dct rfl|exact dct (by decide)|exact dcf (by decide)|exact (Int.toNat_of_nonneg (by omega)).symm|exact dcu|exact lk1 (by assumption)|exact lk0 (by assumption)|exact lkb|fail))|fail) ?_)
  refine SG.ret rfl rfl rfl (vs := []) True.intro (told_spec w1) (fun w2 hk2 => ?_)
  repeat (first|apply CG.seq|apply CG.region|apply SG.nil|apply NG.next|apply CG.skip|apply CG.block|apply CG.ret|apply CG.exit|apply CG.scope|apply NG.ret_then|apply NG.ret_block|apply NG.ret_scope|apply NG.exit_then|refine NG.exit_block rfl ?_|refine NG.exit_other rfl ?_|apply NG.exit_scope|apply NG.normal_block|apply NG.normal_scope|refine SG.val rfl rfl rfl rfl (by first|((first|apply qmv|apply qas|apply qlc|apply qla|apply qfa|apply qnc|apply qic|apply qix|apply qpk|apply qls|apply qei|apply qni|apply qed|apply qnd|apply qad|apply qln|apply qle|apply qgt|apply qge|apply qlk|apply qlv|apply qxt|apply qsb|apply qnt|apply qep|apply qnp|apply qeb|apply qnb|apply qx2|apply qx4|apply qcv|apply qlm|apply qfr|apply qto|apply qmx|apply qen|apply qsn|apply qx8|apply qx7|apply qx6|apply qx5|apply qx4|apply qx3|apply qx2|apply qx1|apply qx0)<;>(first|exact rfl|exact Ar.mk (by omega)|assumption|exact dct (by assumption)|exact dcf (by assumption)|exact dct (by omega)|exact dcf (by omega)|exact List.not_mem_nil|exact dc_length _|exact nc_length _|exact rc_length _ _ _|exact ec_length _|exact nm1 (by omega)|exact nm2 (by omega) (by omega)|exact dct rfl|exact dct (by decide)|exact dcf (by decide)|exact (Int.toNat_of_nonneg (by omega)).symm|exact dcu|exact lk1 (by assumption)|exact lk0 (by assumption)|exact lkb|fail))|fail) ?_)
  refine CG.cond_f rfl (by exact rho_of rfl) rfl ?_
  obtain ⟨T, hTe⟩ : ∃ T, T = esum (begL l) := ⟨_, rfl⟩
  rw [← hTe] at hrel e0 e1
  repeat (first|apply CG.seq|apply CG.region|apply SG.nil|apply NG.next|apply CG.skip|apply CG.block|apply CG.ret|apply CG.exit|apply CG.scope|apply NG.ret_then|apply NG.ret_block|apply NG.ret_scope|apply NG.exit_then|refine NG.exit_block rfl ?_|refine NG.exit_other rfl ?_|apply NG.exit_scope|apply NG.normal_block|apply NG.normal_scope|refine SG.val rfl rfl rfl rfl (by first|((first|apply qmv|apply qas|apply qlc|apply qla|apply qfa|apply qnc|apply qic|apply qix|apply qpk|apply qls|apply qei|apply qni|apply qed|apply qnd|apply qad|apply qln|apply qle|apply qgt|apply qge|apply qlk|apply qlv|apply qxt|apply qsb|apply qnt|apply qep|apply qnp|apply qeb|apply qnb|apply qx2|apply qx4|apply qcv|apply qlm|apply qfr|apply qto|apply qmx|apply qen|apply qsn|apply qx8|apply qx7|apply qx6|apply qx5|apply qx4|apply qx3|apply qx2|apply qx1|apply qx0)<;>(first|exact rfl|exact Ar.mk (by omega)|assumption|exact dct (by assumption)|exact dcf (by assumption)|exact dct (by omega)|exact dcf (by omega)|exact List.not_mem_nil|exact dc_length _|exact nc_length _|exact rc_length _ _ _|exact ec_length _|exact nm1 (by omega)|exact nm2 (by omega) (by omega)|exact dct rfl|exact dct (by decide)|exact dcf (by decide)|exact (Int.toNat_of_nonneg (by omega)).symm|exact dcu|exact lk1 (by assumption)|exact lk0 (by assumption)|exact lkb|fail))|fail) ?_)
  refine CG.loop (X := Nat × Bk × List En × Option Addr × Nat) (fun q => [(1, .slice ao os.length co), (2, .slice ap ps.length cp), (7, .pointer (some ⟨bt, 0, none⟩)), (8, .slice q.2.2.2.1 q.2.2.1.length q.2.2.2.2), (9, .int .i64 (q.1 : Int))])
    (fun q w' => q.1 ≤ 40 ∧ Kp [] w w' ∧ BookAt w' bt bm q.2.1 ∧ SlE w' q.2.2.2.1 q.2.2.1 ∧ Rel T (2 + q.1) q.2.1 q.2.2.1 ∧ q.2.1.length ≤ 8 + 2 * q.1 ∧ q.2.2.1.length ≤ 8 + 2 * q.1)
    (fun q => 40 - q.1) (0, begM l, begL l, a1, c1) ⟨Nat.zero_le _, hk1.trans hk2, hB1.kp0 hk2, hS1.kp0 hk2, hrel, hlen, hbl⟩ (by (repeat' (first | exact True.intro | exact rfl | refine And.intro ?_ ?_))) ?_
  rintro ⟨i, m, l1, a5, c5⟩ w5 ⟨hi, hk, hB, hS5, rel, hml, hll⟩
  simp only at hi hB hS5 rel hml hll
  refine CG.to [(1, .slice ao os.length co), (2, .slice ap ps.length cp), (7, .pointer (some ⟨bt, 0, none⟩)), (8, .slice a5 l1.length c5), (9, .int .i64 (i : Int))] (by (repeat' (first | exact True.intro | exact rfl | refine And.intro ?_ ?_))) ?_
  by_cases hlt : i < os.length ∧ i < 40
  · have g1 : (i : Int) < (os.length : Int) := by omega
    have g2 : (i : Int) < 40 := by omega
    obtain ⟨ba, oa, rfl, hr⟩ := (hT.kp0 hk).at hlt.1
    obtain ⟨o, hx⟩ : ∃ o, o = os[i]'hlt.1 := ⟨_, rfl⟩
    rw [← hx] at hr
    have lt0 := hB.map.lt
    have s0 := hk.size
    have hol := oq_length o
    repeat (first|apply CG.seq|apply CG.region|apply SG.nil|apply NG.next|apply CG.skip|apply CG.block|apply CG.ret|apply CG.exit|apply CG.scope|apply NG.ret_then|apply NG.ret_block|apply NG.ret_scope|apply NG.exit_then|refine NG.exit_block rfl ?_|refine NG.exit_other rfl ?_|apply NG.exit_scope|apply NG.normal_block|apply NG.normal_scope|refine SG.val rfl rfl rfl rfl (by first|((first|apply qmv|apply qas|apply qlc|apply qla|apply qfa|apply qnc|apply qic|apply qix|apply qpk|apply qls|apply qei|apply qni|apply qed|apply qnd|apply qad|apply qln|apply qle|apply qgt|apply qge|apply qlk|apply qlv|apply qxt|apply qsb|apply qnt|apply qep|apply qnp|apply qeb|apply qnb|apply qx2|apply qx4|apply qcv|apply qlm|apply qfr|apply qto|apply qmx|apply qen|apply qsn|apply qx8|apply qx7|apply qx6|apply qx5|apply qx4|apply qx3|apply qx2|apply qx1|apply qx0)<;>(first|exact rfl|exact Ar.mk (by omega)|assumption|exact dct (by assumption)|exact dcf (by assumption)|exact dct (by omega)|exact dcf (by omega)|exact List.not_mem_nil|exact dc_length _|exact nc_length _|exact rc_length _ _ _|exact ec_length _|exact nm1 (by omega)|exact nm2 (by omega) (by omega)|exact dct rfl|exact dct (by decide)|exact dcf (by decide)|exact (Int.toNat_of_nonneg (by omega)).symm|exact dcu|exact lk1 (by assumption)|exact lk0 (by assumption)|exact lkb|fail))|fail) ?_)
    refine CG.cond_t rfl (by exact rho_of rfl) rfl ?_
    repeat (first|apply CG.seq|apply CG.region|apply SG.nil|apply NG.next|apply CG.skip|apply CG.block|apply CG.ret|apply CG.exit|apply CG.scope|apply NG.ret_then|apply NG.ret_block|apply NG.ret_scope|apply NG.exit_then|refine NG.exit_block rfl ?_|refine NG.exit_other rfl ?_|apply NG.exit_scope|apply NG.normal_block|apply NG.normal_scope|refine SG.val rfl rfl rfl rfl (by first|((first|apply qmv|apply qas|apply qlc|apply qla|apply qfa|apply qnc|apply qic|apply qix|apply qpk|apply qls|apply qei|apply qni|apply qed|apply qnd|apply qad|apply qln|apply qle|apply qgt|apply qge|apply qlk|apply qlv|apply qxt|apply qsb|apply qnt|apply qep|apply qnp|apply qeb|apply qnb|apply qx2|apply qx4|apply qcv|apply qlm|apply qfr|apply qto|apply qmx|apply qen|apply qsn|apply qx8|apply qx7|apply qx6|apply qx5|apply qx4|apply qx3|apply qx2|apply qx1|apply qx0)<;>(first|exact rfl|exact Ar.mk (by omega)|assumption|exact dct (by assumption)|exact dcf (by assumption)|exact dct (by omega)|exact dcf (by omega)|exact List.not_mem_nil|exact dc_length _|exact nc_length _|exact rc_length _ _ _|exact ec_length _|exact nm1 (by omega)|exact nm2 (by omega) (by omega)|exact dct rfl|exact dct (by decide)|exact dcf (by decide)|exact (Int.toNat_of_nonneg (by omega)).symm|exact dcu|exact lk1 (by assumption)|exact lk0 (by assumption)|exact lkb|fail))|fail) ?_)
    refine SG.call rfl rfl rfl (by repeat' (first | exact True.intro | exact rho_of rfl | refine And.intro ?_ ?_)) ((do_spec hB c5 hS5 rel (by omega) (by omega) (by omega) (by omega) o).mono (fun e w6 hh => ?_))
    obtain ⟨a6, c6, he6, hB6, hS6, hk6⟩ := hh
    refine ⟨_, he6, ?_⟩
    have rel6 := rel.do (by omega) (by omega) o
    have hml6 := length_do m o
    have hll6 := doL_length l1 o
    repeat (first|apply CG.seq|apply CG.region|apply SG.nil|apply NG.next|apply CG.skip|apply CG.block|apply CG.ret|apply CG.exit|apply CG.scope|apply NG.ret_then|apply NG.ret_block|apply NG.ret_scope|apply NG.exit_then|refine NG.exit_block rfl ?_|refine NG.exit_other rfl ?_|apply NG.exit_scope|apply NG.normal_block|apply NG.normal_scope|refine SG.val rfl rfl rfl rfl (by first|((first|apply qmv|apply qas|apply qlc|apply qla|apply qfa|apply qnc|apply qic|apply qix|apply qpk|apply qls|apply qei|apply qni|apply qed|apply qnd|apply qad|apply qln|apply qle|apply qgt|apply qge|apply qlk|apply qlv|apply qxt|apply qsb|apply qnt|apply qep|apply qnp|apply qeb|apply qnb|apply qx2|apply qx4|apply qcv|apply qlm|apply qfr|apply qto|apply qmx|apply qen|apply qsn|apply qx8|apply qx7|apply qx6|apply qx5|apply qx4|apply qx3|apply qx2|apply qx1|apply qx0)<;>(first|exact rfl|exact Ar.mk (by omega)|assumption|exact dct (by assumption)|exact dcf (by assumption)|exact dct (by omega)|exact dcf (by omega)|exact List.not_mem_nil|exact dc_length _|exact nc_length _|exact rc_length _ _ _|exact ec_length _|exact nm1 (by omega)|exact nm2 (by omega) (by omega)|exact dct rfl|exact dct (by decide)|exact dcf (by decide)|exact (Int.toNat_of_nonneg (by omega)).symm|exact dcu|exact lk1 (by assumption)|exact lk0 (by assumption)|exact lkb|fail))|fail) ?_)
    exact NG.round (i + 1, doM m o, doL l1 o, a6, c6) (by (repeat' (first | exact True.intro | exact rfl | refine And.intro ?_ ?_))) ⟨by simp only; omega, hk.trans_new hk6 (new1 (by omega)), hB6, hS6, by simp only; rw [show (2 + ((i + 1 : Nat) : Int)) = 2 + (i : Int) + 1 by omega]; exact rel6, by simp only; omega, by simp only; omega⟩ (by simp only; omega)
  have hcase : ¬ (i : Int) < (os.length : Int) ∨ ((i : Int) < (os.length : Int) ∧ ¬ (i : Int) < 40) := by omega
  have hg := rel.ok.good (by omega) (by omega) (by omega)
  have hrb := rel.wide (N' := 100) (by omega)
  have hfit := hrb.fit (by omega) (by omega) (by omega)
  have hall := allL_length l1
  rcases hcase with g1 | ⟨g1, g2⟩
  all_goals
    repeat (first | first|apply CG.seq|apply CG.region|apply SG.nil|apply NG.next|apply CG.skip|apply CG.block|apply CG.ret|apply CG.exit|apply CG.scope|apply NG.ret_then|apply NG.ret_block|apply NG.ret_scope|apply NG.exit_then|refine NG.exit_block rfl ?_|refine NG.exit_other rfl ?_|apply NG.exit_scope|apply NG.normal_block|apply NG.normal_scope|refine SG.val rfl rfl rfl rfl (by first|((first|apply qmv|apply qas|apply qlc|apply qla|apply qfa|apply qnc|apply qic|apply qix|apply qpk|apply qls|apply qei|apply qni|apply qed|apply qnd|apply qad|apply qln|apply qle|apply qgt|apply qge|apply qlk|apply qlv|apply qxt|apply qsb|apply qnt|apply qep|apply qnp|apply qeb|apply qnb|apply qx2|apply qx4|apply qcv|apply qlm|apply qfr|apply qto|apply qmx|apply qen|apply qsn|apply qx8|apply qx7|apply qx6|apply qx5|apply qx4|apply qx3|apply qx2|apply qx1|apply qx0)<;>(first|exact rfl|exact Ar.mk (by omega)|assumption|exact dct (by assumption)|exact dcf (by assumption)|exact dct (by omega)|exact dcf (by omega)|exact List.not_mem_nil|exact dc_length _|exact nc_length _|exact rc_length _ _ _|exact ec_length _|exact nm1 (by omega)|exact nm2 (by omega) (by omega)|exact dct rfl|exact dct (by decide)|exact dcf (by decide)|exact (Int.toNat_of_nonneg (by omega)).symm|exact dcu|exact lk1 (by assumption)|exact lk0 (by assumption)|exact lkb|fail))|fail) ?_ | refine SG.skip rfl rfl ?_)
    refine CG.cond_f rfl (by exact rho_of rfl) rfl ?_
    repeat (first|apply CG.seq|apply CG.region|apply SG.nil|apply NG.next|apply CG.skip|apply CG.block|apply CG.ret|apply CG.exit|apply CG.scope|apply NG.ret_then|apply NG.ret_block|apply NG.ret_scope|apply NG.exit_then|refine NG.exit_block rfl ?_|refine NG.exit_other rfl ?_|apply NG.exit_scope|apply NG.normal_block|apply NG.normal_scope|refine SG.val rfl rfl rfl rfl (by first|((first|apply qmv|apply qas|apply qlc|apply qla|apply qfa|apply qnc|apply qic|apply qix|apply qpk|apply qls|apply qei|apply qni|apply qed|apply qnd|apply qad|apply qln|apply qle|apply qgt|apply qge|apply qlk|apply qlv|apply qxt|apply qsb|apply qnt|apply qep|apply qnp|apply qeb|apply qnb|apply qx2|apply qx4|apply qcv|apply qlm|apply qfr|apply qto|apply qmx|apply qen|apply qsn|apply qx8|apply qx7|apply qx6|apply qx5|apply qx4|apply qx3|apply qx2|apply qx1|apply qx0)<;>(first|exact rfl|exact Ar.mk (by omega)|assumption|exact dct (by assumption)|exact dcf (by assumption)|exact dct (by omega)|exact dcf (by omega)|exact List.not_mem_nil|exact dc_length _|exact nc_length _|exact rc_length _ _ _|exact ec_length _|exact nm1 (by omega)|exact nm2 (by omega) (by omega)|exact dct rfl|exact dct (by decide)|exact dcf (by decide)|exact (Int.toNat_of_nonneg (by omega)).symm|exact dcu|exact lk1 (by assumption)|exact lk0 (by assumption)|exact lkb|fail))|fail) ?_)
    refine SG.call rfl rfl rfl (by repeat' (first | exact True.intro | exact rho_of rfl | refine And.intro ?_ ?_)) ((clone_spec hB).mono (fun e w6 hh => ?_))
    obtain ⟨ct, cm, m', he6, hC6, hp, hct, hcm, hk6⟩ := hh
    refine ⟨_, he6, ?_⟩
    obtain ⟨hok', hbe⟩ := rel.ok.perm hp
    have rel' : Rel T (2 + i) m' l1 := ⟨hok', rel.nd, fun k => by rw [hbe]; exact rel.bal k, rel.sum⟩
    have hg' := hok'.good (by omega) (by omega) (by omega)
    have hsame : sameB m m' = true := (same_iff rel.ok hok').2 (fun k => (hbe k).symm)
    have hsame' : sameB m' m = true := (same_iff hok' rel.ok).2 hbe
    have hB6 := hB.kp0 hk6
    have l1b := hB.blk.lt
    have l2b := hB.map.lt
    have l3b := hC6.blk.lt
    have l4b := hC6.map.lt
    have s0 := hk.size
    have s6 := hk6.size
    have hcl : m'.length = m.length := hp.length_eq
    repeat (first|apply CG.seq|apply CG.region|apply SG.nil|apply NG.next|apply CG.skip|apply CG.block|apply CG.ret|apply CG.exit|apply CG.scope|apply NG.ret_then|apply NG.ret_block|apply NG.ret_scope|apply NG.exit_then|refine NG.exit_block rfl ?_|refine NG.exit_other rfl ?_|apply NG.exit_scope|apply NG.normal_block|apply NG.normal_scope|refine SG.val rfl rfl rfl rfl (by first|((first|apply qmv|apply qas|apply qlc|apply qla|apply qfa|apply qnc|apply qic|apply qix|apply qpk|apply qls|apply qei|apply qni|apply qed|apply qnd|apply qad|apply qln|apply qle|apply qgt|apply qge|apply qlk|apply qlv|apply qxt|apply qsb|apply qnt|apply qep|apply qnp|apply qeb|apply qnb|apply qx2|apply qx4|apply qcv|apply qlm|apply qfr|apply qto|apply qmx|apply qen|apply qsn|apply qx8|apply qx7|apply qx6|apply qx5|apply qx4|apply qx3|apply qx2|apply qx1|apply qx0)<;>(first|exact rfl|exact Ar.mk (by omega)|assumption|exact dct (by assumption)|exact dcf (by assumption)|exact dct (by omega)|exact dcf (by omega)|exact List.not_mem_nil|exact dc_length _|exact nc_length _|exact rc_length _ _ _|exact ec_length _|exact nm1 (by omega)|exact nm2 (by omega) (by omega)|exact dct rfl|exact dct (by decide)|exact dcf (by decide)|exact (Int.toNat_of_nonneg (by omega)).symm|exact dcu|exact lk1 (by assumption)|exact lk0 (by assumption)|exact lkb|fail))|fail) ?_)
    refine SG.val rfl rfl rfl rfl (vals_ptrne rfl rfl (show ct ≠ bt by omega) hC6.blk hB6.blk) ?_
    repeat (first|apply CG.seq|apply CG.region|apply SG.nil|apply NG.next|apply CG.skip|apply CG.block|apply CG.ret|apply CG.exit|apply CG.scope|apply NG.ret_then|apply NG.ret_block|apply NG.ret_scope|apply NG.exit_then|refine NG.exit_block rfl ?_|refine NG.exit_other rfl ?_|apply NG.exit_scope|apply NG.normal_block|apply NG.normal_scope|refine SG.val rfl rfl rfl rfl (by first|((first|apply qmv|apply qas|apply qlc|apply qla|apply qfa|apply qnc|apply qic|apply qix|apply qpk|apply qls|apply qei|apply qni|apply qed|apply qnd|apply qad|apply qln|apply qle|apply qgt|apply qge|apply qlk|apply qlv|apply qxt|apply qsb|apply qnt|apply qep|apply qnp|apply qeb|apply qnb|apply qx2|apply qx4|apply qcv|apply qlm|apply qfr|apply qto|apply qmx|apply qen|apply qsn|apply qx8|apply qx7|apply qx6|apply qx5|apply qx4|apply qx3|apply qx2|apply qx1|apply qx0)<;>(first|exact rfl|exact Ar.mk (by omega)|assumption|exact dct (by assumption)|exact dcf (by assumption)|exact dct (by omega)|exact dcf (by omega)|exact List.not_mem_nil|exact dc_length _|exact nc_length _|exact rc_length _ _ _|exact ec_length _|exact nm1 (by omega)|exact nm2 (by omega) (by omega)|exact dct rfl|exact dct (by decide)|exact dcf (by decide)|exact (Int.toNat_of_nonneg (by omega)).symm|exact dcu|exact lk1 (by assumption)|exact lk0 (by assumption)|exact lkb|fail))|fail) ?_)
    refine SG.ret rfl rfl rfl (by repeat' (first | exact True.intro | exact rho_of rfl | refine And.intro ?_ ?_)) (same_spec hC6 hB6 hg' hg) (fun w7 hk7 => ?_)
    rw [hsame']
    repeat (first|apply CG.seq|apply CG.region|apply SG.nil|apply NG.next|apply CG.skip|apply CG.block|apply CG.ret|apply CG.exit|apply CG.scope|apply NG.ret_then|apply NG.ret_block|apply NG.ret_scope|apply NG.exit_then|refine NG.exit_block rfl ?_|refine NG.exit_other rfl ?_|apply NG.exit_scope|apply NG.normal_block|apply NG.normal_scope|refine SG.val rfl rfl rfl rfl (by first|((first|apply qmv|apply qas|apply qlc|apply qla|apply qfa|apply qnc|apply qic|apply qix|apply qpk|apply qls|apply qei|apply qni|apply qed|apply qnd|apply qad|apply qln|apply qle|apply qgt|apply qge|apply qlk|apply qlv|apply qxt|apply qsb|apply qnt|apply qep|apply qnp|apply qeb|apply qnb|apply qx2|apply qx4|apply qcv|apply qlm|apply qfr|apply qto|apply qmx|apply qen|apply qsn|apply qx8|apply qx7|apply qx6|apply qx5|apply qx4|apply qx3|apply qx2|apply qx1|apply qx0)<;>(first|exact rfl|exact Ar.mk (by omega)|assumption|exact dct (by assumption)|exact dcf (by assumption)|exact dct (by omega)|exact dcf (by omega)|exact List.not_mem_nil|exact dc_length _|exact nc_length _|exact rc_length _ _ _|exact ec_length _|exact nm1 (by omega)|exact nm2 (by omega) (by omega)|exact dct rfl|exact dct (by decide)|exact dcf (by decide)|exact (Int.toNat_of_nonneg (by omega)).symm|exact dcu|exact lk1 (by assumption)|exact lk0 (by assumption)|exact lkb|fail))|fail) ?_)
    refine SG.ret rfl rfl rfl (by repeat' (first | exact True.intro | exact rho_of rfl | refine And.intro ?_ ?_)) (same_spec (hB6.kp0 hk7) (hC6.kp0 hk7) hg hg') (fun w8 hk8 => ?_)
    rw [hsame]
    repeat (first|apply CG.seq|apply CG.region|apply SG.nil|apply NG.next|apply CG.skip|apply CG.block|apply CG.ret|apply CG.exit|apply CG.scope|apply NG.ret_then|apply NG.ret_block|apply NG.ret_scope|apply NG.exit_then|refine NG.exit_block rfl ?_|refine NG.exit_other rfl ?_|apply NG.exit_scope|apply NG.normal_block|apply NG.normal_scope|refine SG.val rfl rfl rfl rfl (by first|((first|apply qmv|apply qas|apply qlc|apply qla|apply qfa|apply qnc|apply qic|apply qix|apply qpk|apply qls|apply qei|apply qni|apply qed|apply qnd|apply qad|apply qln|apply qle|apply qgt|apply qge|apply qlk|apply qlv|apply qxt|apply qsb|apply qnt|apply qep|apply qnp|apply qeb|apply qnb|apply qx2|apply qx4|apply qcv|apply qlm|apply qfr|apply qto|apply qmx|apply qen|apply qsn|apply qx8|apply qx7|apply qx6|apply qx5|apply qx4|apply qx3|apply qx2|apply qx1|apply qx0)<;>(first|exact rfl|exact Ar.mk (by omega)|assumption|exact dct (by assumption)|exact dcf (by assumption)|exact dct (by omega)|exact dcf (by omega)|exact List.not_mem_nil|exact dc_length _|exact nc_length _|exact rc_length _ _ _|exact ec_length _|exact nm1 (by omega)|exact nm2 (by omega) (by omega)|exact dct rfl|exact dct (by decide)|exact dcf (by decide)|exact (Int.toNat_of_nonneg (by omega)).symm|exact dcu|exact lk1 (by assumption)|exact lk0 (by assumption)|exact lkb|fail))|fail) ?_)
    refine SG.ret rfl rfl rfl (by repeat' (first | exact True.intro | exact rho_of rfl | refine And.intro ?_ ?_)) (same_sn w8 bt) (fun w9 hk9 => ?_)
    repeat (first|apply CG.seq|apply CG.region|apply SG.nil|apply NG.next|apply CG.skip|apply CG.block|apply CG.ret|apply CG.exit|apply CG.scope|apply NG.ret_then|apply NG.ret_block|apply NG.ret_scope|apply NG.exit_then|refine NG.exit_block rfl ?_|refine NG.exit_other rfl ?_|apply NG.exit_scope|apply NG.normal_block|apply NG.normal_scope|refine SG.val rfl rfl rfl rfl (by first|((first|apply qmv|apply qas|apply qlc|apply qla|apply qfa|apply qnc|apply qic|apply qix|apply qpk|apply qls|apply qei|apply qni|apply qed|apply qnd|apply qad|apply qln|apply qle|apply qgt|apply qge|apply qlk|apply qlv|apply qxt|apply qsb|apply qnt|apply qep|apply qnp|apply qeb|apply qnb|apply qx2|apply qx4|apply qcv|apply qlm|apply qfr|apply qto|apply qmx|apply qen|apply qsn|apply qx8|apply qx7|apply qx6|apply qx5|apply qx4|apply qx3|apply qx2|apply qx1|apply qx0)<;>(first|exact rfl|exact Ar.mk (by omega)|assumption|exact dct (by assumption)|exact dcf (by assumption)|exact dct (by omega)|exact dcf (by omega)|exact List.not_mem_nil|exact dc_length _|exact nc_length _|exact rc_length _ _ _|exact ec_length _|exact nm1 (by omega)|exact nm2 (by omega) (by omega)|exact dct rfl|exact dct (by decide)|exact dcf (by decide)|exact (Int.toNat_of_nonneg (by omega)).symm|exact dcu|exact lk1 (by assumption)|exact lk0 (by assumption)|exact lkb|fail))|fail) ?_)
    refine CG.cond_f rfl (by exact rho_of rfl) rfl ?_
    have hk69 := (hk7.trans hk8).trans hk9
    repeat (first|apply CG.seq|apply CG.region|apply SG.nil|apply NG.next|apply CG.skip|apply CG.block|apply CG.ret|apply CG.exit|apply CG.scope|apply NG.ret_then|apply NG.ret_block|apply NG.ret_scope|apply NG.exit_then|refine NG.exit_block rfl ?_|refine NG.exit_other rfl ?_|apply NG.exit_scope|apply NG.normal_block|apply NG.normal_scope|refine SG.val rfl rfl rfl rfl (by first|((first|apply qmv|apply qas|apply qlc|apply qla|apply qfa|apply qnc|apply qic|apply qix|apply qpk|apply qls|apply qei|apply qni|apply qed|apply qnd|apply qad|apply qln|apply qle|apply qgt|apply qge|apply qlk|apply qlv|apply qxt|apply qsb|apply qnt|apply qep|apply qnp|apply qeb|apply qnb|apply qx2|apply qx4|apply qcv|apply qlm|apply qfr|apply qto|apply qmx|apply qen|apply qsn|apply qx8|apply qx7|apply qx6|apply qx5|apply qx4|apply qx3|apply qx2|apply qx1|apply qx0)<;>(first|exact rfl|exact Ar.mk (by omega)|assumption|exact dct (by assumption)|exact dcf (by assumption)|exact dct (by omega)|exact dcf (by omega)|exact List.not_mem_nil|exact dc_length _|exact nc_length _|exact rc_length _ _ _|exact ec_length _|exact nm1 (by omega)|exact nm2 (by omega) (by omega)|exact dct rfl|exact dct (by decide)|exact dcf (by decide)|exact (Int.toNat_of_nonneg (by omega)).symm|exact dcu|exact lk1 (by assumption)|exact lk0 (by assumption)|exact lkb|fail))|fail) ?_)
    refine CG.loop (X := Nat × Bk × List En × Option Addr × Nat) (fun q => [(2, .slice ap ps.length cp), (7, .pointer (some ⟨bt, 0, none⟩)), (8, .slice a5 l1.length c5), (10, .pointer (some ⟨ct, 0, none⟩)), (11, .slice q.2.2.2.1 q.2.2.1.length q.2.2.2.2), (12, .int .i64 (q.1 : Int))])
      (fun q w' => q.1 ≤ 40 ∧ Kp [] w w' ∧ BookAt w' bt bm m ∧ SlE w' a5 l1 ∧ BookAt w' ct cm q.2.1 ∧ SlE w' q.2.2.2.1 q.2.2.1 ∧ Rel T (42 + q.1) q.2.1 q.2.2.1 ∧ q.2.1.length ≤ 100 + 2 * q.1 ∧ q.2.2.1.length ≤ 100 + 2 * q.1)
      (fun q => 40 - q.1) (0, m', l1, a5, c5) ⟨Nat.zero_le _, (hk.trans hk6).trans hk69, hB6.kp0 hk69, (hS5.kp0 hk6).kp0 hk69, hC6.kp0 hk69, (hS5.kp0 hk6).kp0 hk69, rel'.wide (by simp only; omega), by simp only; omega, by simp only; omega⟩ (by (repeat' (first | exact True.intro | exact rfl | refine And.intro ?_ ?_))) ?_
    rintro ⟨j, mc, lc, ac, cc⟩ wa ⟨hj, hka, hBa, hSa, hCa, hSc, relc, hmc, hlc⟩
    simp only at hj hCa hSc relc hmc hlc
    refine CG.to [(2, .slice ap ps.length cp), (7, .pointer (some ⟨bt, 0, none⟩)), (8, .slice a5 l1.length c5), (10, .pointer (some ⟨ct, 0, none⟩)), (11, .slice ac lc.length cc), (12, .int .i64 (j : Int))] (by (repeat' (first | exact True.intro | exact rfl | refine And.intro ?_ ?_))) ?_
    by_cases hjt : j < ps.length ∧ j < 40
    case neg =>
      have hcase : ¬ (j : Int) < (ps.length : Int) ∨ ((j : Int) < (ps.length : Int) ∧ ¬ (j : Int) < 40) := by omega
      rcases hcase with g3 | ⟨g3, g4⟩
      all_goals
        repeat (first | first|apply CG.seq|apply CG.region|apply SG.nil|apply NG.next|apply CG.skip|apply CG.block|apply CG.ret|apply CG.exit|apply CG.scope|apply NG.ret_then|apply NG.ret_block|apply NG.ret_scope|apply NG.exit_then|refine NG.exit_block rfl ?_|refine NG.exit_other rfl ?_|apply NG.exit_scope|apply NG.normal_block|apply NG.normal_scope|refine SG.val rfl rfl rfl rfl (by first|((first|apply qmv|apply qas|apply qlc|apply qla|apply qfa|apply qnc|apply qic|apply qix|apply qpk|apply qls|apply qei|apply qni|apply qed|apply qnd|apply qad|apply qln|apply qle|apply qgt|apply qge|apply qlk|apply qlv|apply qxt|apply qsb|apply qnt|apply qep|apply qnp|apply qeb|apply qnb|apply qx2|apply qx4|apply qcv|apply qlm|apply qfr|apply qto|apply qmx|apply qen|apply qsn|apply qx8|apply qx7|apply qx6|apply qx5|apply qx4|apply qx3|apply qx2|apply qx1|apply qx0)<;>(first|exact rfl|exact Ar.mk (by omega)|assumption|exact dct (by assumption)|exact dcf (by assumption)|exact dct (by omega)|exact dcf (by omega)|exact List.not_mem_nil|exact dc_length _|exact nc_length _|exact rc_length _ _ _|exact ec_length _|exact nm1 (by omega)|exact nm2 (by omega) (by omega)|exact dct rfl|exact dct (by decide)|exact dcf (by decide)|exact (Int.toNat_of_nonneg (by omega)).symm|exact dcu|exact lk1 (by assumption)|exact lk0 (by assumption)|exact lkb|fail))|fail) ?_ | refine SG.skip rfl rfl ?_)
        refine CG.cond_f rfl (by exact rho_of rfl) rfl ?_
        repeat (first|apply CG.seq|apply CG.region|apply SG.nil|apply NG.next|apply CG.skip|apply CG.block|apply CG.ret|apply CG.exit|apply CG.scope|apply NG.ret_then|apply NG.ret_block|apply NG.ret_scope|apply NG.exit_then|refine NG.exit_block rfl ?_|refine NG.exit_other rfl ?_|apply NG.exit_scope|apply NG.normal_block|apply NG.normal_scope|refine SG.val rfl rfl rfl rfl (by first|((first|apply qmv|apply qas|apply qlc|apply qla|apply qfa|apply qnc|apply qic|apply qix|apply qpk|apply qls|apply qei|apply qni|apply qed|apply qnd|apply qad|apply qln|apply qle|apply qgt|apply qge|apply qlk|apply qlv|apply qxt|apply qsb|apply qnt|apply qep|apply qnp|apply qeb|apply qnb|apply qx2|apply qx4|apply qcv|apply qlm|apply qfr|apply qto|apply qmx|apply qen|apply qsn|apply qx8|apply qx7|apply qx6|apply qx5|apply qx4|apply qx3|apply qx2|apply qx1|apply qx0)<;>(first|exact rfl|exact Ar.mk (by omega)|assumption|exact dct (by assumption)|exact dcf (by assumption)|exact dct (by omega)|exact dcf (by omega)|exact List.not_mem_nil|exact dc_length _|exact nc_length _|exact rc_length _ _ _|exact ec_length _|exact nm1 (by omega)|exact nm2 (by omega) (by omega)|exact dct rfl|exact dct (by decide)|exact dcf (by decide)|exact (Int.toNat_of_nonneg (by omega)).symm|exact dcu|exact lk1 (by assumption)|exact lk0 (by assumption)|exact lkb|fail))|fail) ?_)
        refine ret1 (Or.inl rfl) Try.results9 (by first | exact ResV.tmp rfl | exact ResV.agg rfl rfl (by assumption) (by first | exact dc_length _ | exact nc_length _ | exact rc_length _ _ _ | exact ec_length _ | rfl) | exact ResV.cell rfl rfl (by assumption)) ?_
        exact ⟨rfl, hka⟩
    have g3 : (j : Int) < (ps.length : Int) := by omega
    have g4 : (j : Int) < 40 := by omega
    obtain ⟨ba, oa, rfl, hr⟩ := (hU.kp0 hka).at hjt.1
    obtain ⟨o, hx⟩ : ∃ o, o = ps[j]'hjt.1 := ⟨_, rfl⟩
    rw [← hx] at hr
    have hol := oq_length o
    have sa := hka.size
    repeat (first|apply CG.seq|apply CG.region|apply SG.nil|apply NG.next|apply CG.skip|apply CG.block|apply CG.ret|apply CG.exit|apply CG.scope|apply NG.ret_then|apply NG.ret_block|apply NG.ret_scope|apply NG.exit_then|refine NG.exit_block rfl ?_|refine NG.exit_other rfl ?_|apply NG.exit_scope|apply NG.normal_block|apply NG.normal_scope|refine SG.val rfl rfl rfl rfl (by first|((first|apply qmv|apply qas|apply qlc|apply qla|apply qfa|apply qnc|apply qic|apply qix|apply qpk|apply qls|apply qei|apply qni|apply qed|apply qnd|apply qad|apply qln|apply qle|apply qgt|apply qge|apply qlk|apply qlv|apply qxt|apply qsb|apply qnt|apply qep|apply qnp|apply qeb|apply qnb|apply qx2|apply qx4|apply qcv|apply qlm|apply qfr|apply qto|apply qmx|apply qen|apply qsn|apply qx8|apply qx7|apply qx6|apply qx5|apply qx4|apply qx3|apply qx2|apply qx1|apply qx0)<;>(first|exact rfl|exact Ar.mk (by omega)|assumption|exact dct (by assumption)|exact dcf (by assumption)|exact dct (by omega)|exact dcf (by omega)|exact List.not_mem_nil|exact dc_length _|exact nc_length _|exact rc_length _ _ _|exact ec_length _|exact nm1 (by omega)|exact nm2 (by omega) (by omega)|exact dct rfl|exact dct (by decide)|exact dcf (by decide)|exact (Int.toNat_of_nonneg (by omega)).symm|exact dcu|exact lk1 (by assumption)|exact lk0 (by assumption)|exact lkb|fail))|fail) ?_)
    refine CG.cond_t rfl (by exact rho_of rfl) rfl ?_
    repeat (first|apply CG.seq|apply CG.region|apply SG.nil|apply NG.next|apply CG.skip|apply CG.block|apply CG.ret|apply CG.exit|apply CG.scope|apply NG.ret_then|apply NG.ret_block|apply NG.ret_scope|apply NG.exit_then|refine NG.exit_block rfl ?_|refine NG.exit_other rfl ?_|apply NG.exit_scope|apply NG.normal_block|apply NG.normal_scope|refine SG.val rfl rfl rfl rfl (by first|((first|apply qmv|apply qas|apply qlc|apply qla|apply qfa|apply qnc|apply qic|apply qix|apply qpk|apply qls|apply qei|apply qni|apply qed|apply qnd|apply qad|apply qln|apply qle|apply qgt|apply qge|apply qlk|apply qlv|apply qxt|apply qsb|apply qnt|apply qep|apply qnp|apply qeb|apply qnb|apply qx2|apply qx4|apply qcv|apply qlm|apply qfr|apply qto|apply qmx|apply qen|apply qsn|apply qx8|apply qx7|apply qx6|apply qx5|apply qx4|apply qx3|apply qx2|apply qx1|apply qx0)<;>(first|exact rfl|exact Ar.mk (by omega)|assumption|exact dct (by assumption)|exact dcf (by assumption)|exact dct (by omega)|exact dcf (by omega)|exact List.not_mem_nil|exact dc_length _|exact nc_length _|exact rc_length _ _ _|exact ec_length _|exact nm1 (by omega)|exact nm2 (by omega) (by omega)|exact dct rfl|exact dct (by decide)|exact dcf (by decide)|exact (Int.toNat_of_nonneg (by omega)).symm|exact dcu|exact lk1 (by assumption)|exact lk0 (by assumption)|exact lkb|fail))|fail) ?_)
    refine SG.call rfl rfl rfl (by repeat' (first | exact True.intro | exact rho_of rfl | refine And.intro ?_ ?_)) ((do_spec hCa cc hSc relc (by omega) (by omega) (by omega) (by omega) o).mono (fun e wb hh => ?_))
    obtain ⟨ab, cb_, heb, hCb, hSb, hkb⟩ := hh
    refine ⟨_, heb, ?_⟩
    have relb := relc.do (by omega) (by omega) o
    have hmb := length_do mc o
    have hlb := doL_length lc o
    have hk0b : Kp [] w wb := hka.trans_new hkb (new1 (by omega))
    have hBb := hBa.kp hkb (nm1 (by omega)) (nm1 (by omega))
    have hS5b := hSa.kpm hCa.map hkb
    obtain ⟨mb, emb⟩ : ∃ mb, mb = doM mc o := ⟨_, rfl⟩
    obtain ⟨lb, elb⟩ : ∃ lb, lb = doL lc o := ⟨_, rfl⟩
    rw [← emb] at hCb relb hmb
    rw [← elb] at hSb relb hlb ⊢
    have hgb := relb.ok.good (by omega) (by omega) (by omega)
    have hfitb := relb.fit (by omega) (by omega) (by omega)
    have hallb := allL_length lb
    repeat (first|apply CG.seq|apply CG.region|apply SG.nil|apply NG.next|apply CG.skip|apply CG.block|apply CG.ret|apply CG.exit|apply CG.scope|apply NG.ret_then|apply NG.ret_block|apply NG.ret_scope|apply NG.exit_then|refine NG.exit_block rfl ?_|refine NG.exit_other rfl ?_|apply NG.exit_scope|apply NG.normal_block|apply NG.normal_scope|refine SG.val rfl rfl rfl rfl (by first|((first|apply qmv|apply qas|apply qlc|apply qla|apply qfa|apply qnc|apply qic|apply qix|apply qpk|apply qls|apply qei|apply qni|apply qed|apply qnd|apply qad|apply qln|apply qle|apply qgt|apply qge|apply qlk|apply qlv|apply qxt|apply qsb|apply qnt|apply qep|apply qnp|apply qeb|apply qnb|apply qx2|apply qx4|apply qcv|apply qlm|apply qfr|apply qto|apply qmx|apply qen|apply qsn|apply qx8|apply qx7|apply qx6|apply qx5|apply qx4|apply qx3|apply qx2|apply qx1|apply qx0)<;>(first|exact rfl|exact Ar.mk (by omega)|assumption|exact dct (by assumption)|exact dcf (by assumption)|exact dct (by omega)|exact dcf (by omega)|exact List.not_mem_nil|exact dc_length _|exact nc_length _|exact rc_length _ _ _|exact ec_length _|exact nm1 (by omega)|exact nm2 (by omega) (by omega)|exact dct rfl|exact dct (by decide)|exact dcf (by decide)|exact (Int.toNat_of_nonneg (by omega)).symm|exact dcu|exact lk1 (by assumption)|exact lk0 (by assumption)|exact lkb|fail))|fail) ?_)
    refine SG.call rfl rfl rfl (by repeat' (first | exact True.intro | exact rho_of rfl | refine And.intro ?_ ?_)) ((all_spec hBb (by omega)).mono (fun e wc hh => ?_))
    obtain ⟨vc, es, hec, hoc, hpc, hac, hkc⟩ := hh
    refine ⟨_, hec, ?_⟩
    have hes := rel.all hpc hac
    obtain ⟨ac1, cc1, rfl, hSc1⟩ := SlF.own ec_length hoc rfl
    refine SG.call rfl rfl rfl (by repeat' (first | exact True.intro | exact rho_of rfl | refine And.intro ?_ ?_)) ((plain_spec cc1 hSc1.sl (by rw [hes]; omega)).mono (fun e wd hh => ?_))
    obtain ⟨vd, hed, hod, hkd⟩ := hh
    refine ⟨_, hed, ?_⟩
    obtain ⟨ad, cd, rfl, hSd⟩ := SlF.own ec_length hod rfl
    repeat (first|apply CG.seq|apply CG.region|apply SG.nil|apply NG.next|apply CG.skip|apply CG.block|apply CG.ret|apply CG.exit|apply CG.scope|apply NG.ret_then|apply NG.ret_block|apply NG.ret_scope|apply NG.exit_then|refine NG.exit_block rfl ?_|refine NG.exit_other rfl ?_|apply NG.exit_scope|apply NG.normal_block|apply NG.normal_scope|refine SG.val rfl rfl rfl rfl (by first|((first|apply qmv|apply qas|apply qlc|apply qla|apply qfa|apply qnc|apply qic|apply qix|apply qpk|apply qls|apply qei|apply qni|apply qed|apply qnd|apply qad|apply qln|apply qle|apply qgt|apply qge|apply qlk|apply qlv|apply qxt|apply qsb|apply qnt|apply qep|apply qnp|apply qeb|apply qnb|apply qx2|apply qx4|apply qcv|apply qlm|apply qfr|apply qto|apply qmx|apply qen|apply qsn|apply qx8|apply qx7|apply qx6|apply qx5|apply qx4|apply qx3|apply qx2|apply qx1|apply qx0)<;>(first|exact rfl|exact Ar.mk (by omega)|assumption|exact dct (by assumption)|exact dcf (by assumption)|exact dct (by omega)|exact dcf (by omega)|exact List.not_mem_nil|exact dc_length _|exact nc_length _|exact rc_length _ _ _|exact ec_length _|exact nm1 (by omega)|exact nm2 (by omega) (by omega)|exact dct rfl|exact dct (by decide)|exact dcf (by decide)|exact (Int.toNat_of_nonneg (by omega)).symm|exact dcu|exact lk1 (by assumption)|exact lk0 (by assumption)|exact lkb|fail))|fail) ?_)
    refine SG.call rfl rfl rfl (by repeat' (first | exact True.intro | exact rho_of rfl | refine And.intro ?_ ?_)) ((rall_spec c5 ((hS5b.kp0 hkc).kp0 hkd) (by omega)).mono (fun e we hh => ?_))
    obtain ⟨ae, ce, hee, hSe, hke⟩ := hh
    refine ⟨_, hee, ?_⟩
    refine SG.ret rfl rfl rfl (by repeat' (first | exact True.intro | exact rho_of rfl | refine And.intro ?_ ?_)) (rsame_spec cd ce (hSd.sl.kp0 hke) hSe (by rw [hes]; omega) (by rw [hes]; exact hfit) hfit) (fun wf hkf => ?_)
    rw [decide_eq_true hes]
    have hkbf := ((hkc.trans hkd).trans hke).trans hkf
    have hCf := hCb.kp0 hkbf
    have hSbf := hSb.kp0 hkbf
    have hBf := hBb.kp0 hkbf
    have hS5f := hS5b.kp0 hkbf
    repeat (first|apply CG.seq|apply CG.region|apply SG.nil|apply NG.next|apply CG.skip|apply CG.block|apply CG.ret|apply CG.exit|apply CG.scope|apply NG.ret_then|apply NG.ret_block|apply NG.ret_scope|apply NG.exit_then|refine NG.exit_block rfl ?_|refine NG.exit_other rfl ?_|apply NG.exit_scope|apply NG.normal_block|apply NG.normal_scope|refine SG.val rfl rfl rfl rfl (by first|((first|apply qmv|apply qas|apply qlc|apply qla|apply qfa|apply qnc|apply qic|apply qix|apply qpk|apply qls|apply qei|apply qni|apply qed|apply qnd|apply qad|apply qln|apply qle|apply qgt|apply qge|apply qlk|apply qlv|apply qxt|apply qsb|apply qnt|apply qep|apply qnp|apply qeb|apply qnb|apply qx2|apply qx4|apply qcv|apply qlm|apply qfr|apply qto|apply qmx|apply qen|apply qsn|apply qx8|apply qx7|apply qx6|apply qx5|apply qx4|apply qx3|apply qx2|apply qx1|apply qx0)<;>(first|exact rfl|exact Ar.mk (by omega)|assumption|exact dct (by assumption)|exact dcf (by assumption)|exact dct (by omega)|exact dcf (by omega)|exact List.not_mem_nil|exact dc_length _|exact nc_length _|exact rc_length _ _ _|exact ec_length _|exact nm1 (by omega)|exact nm2 (by omega) (by omega)|exact dct rfl|exact dct (by decide)|exact dcf (by decide)|exact (Int.toNat_of_nonneg (by omega)).symm|exact dcu|exact lk1 (by assumption)|exact lk0 (by assumption)|exact lkb|fail))|fail) ?_)
    refine SG.call rfl rfl rfl (by repeat' (first | exact True.intro | exact rho_of rfl | refine And.intro ?_ ?_)) ((all_spec hCf (by omega)).mono (fun e wg hh => ?_))
    obtain ⟨vg, es', heg, hog, hpg, hag, hkg⟩ := hh
    refine ⟨_, heg, ?_⟩
    have hes' := relb.all hpg hag
    obtain ⟨ag, cg, rfl, hSg⟩ := SlF.own ec_length hog rfl
    refine SG.call rfl rfl rfl (by repeat' (first | exact True.intro | exact rho_of rfl | refine And.intro ?_ ?_)) ((plain_spec cg hSg.sl (by rw [hes']; omega)).mono (fun e wh hh => ?_))
    obtain ⟨vh, heh, hoh, hkh⟩ := hh
    refine ⟨_, heh, ?_⟩
    obtain ⟨ah, ch, rfl, hSh⟩ := SlF.own ec_length hoh rfl
    repeat (first|apply CG.seq|apply CG.region|apply SG.nil|apply NG.next|apply CG.skip|apply CG.block|apply CG.ret|apply CG.exit|apply CG.scope|apply NG.ret_then|apply NG.ret_block|apply NG.ret_scope|apply NG.exit_then|refine NG.exit_block rfl ?_|refine NG.exit_other rfl ?_|apply NG.exit_scope|apply NG.normal_block|apply NG.normal_scope|refine SG.val rfl rfl rfl rfl (by first|((first|apply qmv|apply qas|apply qlc|apply qla|apply qfa|apply qnc|apply qic|apply qix|apply qpk|apply qls|apply qei|apply qni|apply qed|apply qnd|apply qad|apply qln|apply qle|apply qgt|apply qge|apply qlk|apply qlv|apply qxt|apply qsb|apply qnt|apply qep|apply qnp|apply qeb|apply qnb|apply qx2|apply qx4|apply qcv|apply qlm|apply qfr|apply qto|apply qmx|apply qen|apply qsn|apply qx8|apply qx7|apply qx6|apply qx5|apply qx4|apply qx3|apply qx2|apply qx1|apply qx0)<;>(first|exact rfl|exact Ar.mk (by omega)|assumption|exact dct (by assumption)|exact dcf (by assumption)|exact dct (by omega)|exact dcf (by omega)|exact List.not_mem_nil|exact dc_length _|exact nc_length _|exact rc_length _ _ _|exact ec_length _|exact nm1 (by omega)|exact nm2 (by omega) (by omega)|exact dct rfl|exact dct (by decide)|exact dcf (by decide)|exact (Int.toNat_of_nonneg (by omega)).symm|exact dcu|exact lk1 (by assumption)|exact lk0 (by assumption)|exact lkb|fail))|fail) ?_)
    refine SG.call rfl rfl rfl (by repeat' (first | exact True.intro | exact rho_of rfl | refine And.intro ?_ ?_)) ((rall_spec cb_ ((hSbf.kp0 hkg).kp0 hkh) (by omega)).mono (fun e wi hh => ?_))
    obtain ⟨ai, ci, hei, hSi, hki⟩ := hh
    refine ⟨_, hei, ?_⟩
    refine SG.ret rfl rfl rfl (by repeat' (first | exact True.intro | exact rho_of rfl | refine And.intro ?_ ?_)) (rsame_spec ch ci (hSh.sl.kp0 hki) hSi (by rw [hes']; omega) (by rw [hes']; exact hfitb) hfitb) (fun wj hkj => ?_)
    rw [decide_eq_true hes']
    have hkfj := ((hkg.trans hkh).trans hki).trans hkj
    have hss := same_of rel relb hes hes' hpc hpg
    repeat (first|apply CG.seq|apply CG.region|apply SG.nil|apply NG.next|apply CG.skip|apply CG.block|apply CG.ret|apply CG.exit|apply CG.scope|apply NG.ret_then|apply NG.ret_block|apply NG.ret_scope|apply NG.exit_then|refine NG.exit_block rfl ?_|refine NG.exit_other rfl ?_|apply NG.exit_scope|apply NG.normal_block|apply NG.normal_scope|refine SG.val rfl rfl rfl rfl (by first|((first|apply qmv|apply qas|apply qlc|apply qla|apply qfa|apply qnc|apply qic|apply qix|apply qpk|apply qls|apply qei|apply qni|apply qed|apply qnd|apply qad|apply qln|apply qle|apply qgt|apply qge|apply qlk|apply qlv|apply qxt|apply qsb|apply qnt|apply qep|apply qnp|apply qeb|apply qnb|apply qx2|apply qx4|apply qcv|apply qlm|apply qfr|apply qto|apply qmx|apply qen|apply qsn|apply qx8|apply qx7|apply qx6|apply qx5|apply qx4|apply qx3|apply qx2|apply qx1|apply qx0)<;>(first|exact rfl|exact Ar.mk (by omega)|assumption|exact dct (by assumption)|exact dcf (by assumption)|exact dct (by omega)|exact dcf (by omega)|exact List.not_mem_nil|exact dc_length _|exact nc_length _|exact rc_length _ _ _|exact ec_length _|exact nm1 (by omega)|exact nm2 (by omega) (by omega)|exact dct rfl|exact dct (by decide)|exact dcf (by decide)|exact (Int.toNat_of_nonneg (by omega)).symm|exact dcu|exact lk1 (by assumption)|exact lk0 (by assumption)|exact lkb|fail))|fail) ?_)
    refine SG.ret rfl rfl rfl (by repeat' (first | exact True.intro | exact rho_of rfl | refine And.intro ?_ ?_)) (same_spec (hBf.kp0 hkfj) (hCf.kp0 hkfj) hg hgb) (fun wk hkk => ?_)
    rw [hss]
    have hkfk := hkfj.trans hkk
    repeat (first|apply CG.seq|apply CG.region|apply SG.nil|apply NG.next|apply CG.skip|apply CG.block|apply CG.ret|apply CG.exit|apply CG.scope|apply NG.ret_then|apply NG.ret_block|apply NG.ret_scope|apply NG.exit_then|refine NG.exit_block rfl ?_|refine NG.exit_other rfl ?_|apply NG.exit_scope|apply NG.normal_block|apply NG.normal_scope|refine SG.val rfl rfl rfl rfl (by first|((first|apply qmv|apply qas|apply qlc|apply qla|apply qfa|apply qnc|apply qic|apply qix|apply qpk|apply qls|apply qei|apply qni|apply qed|apply qnd|apply qad|apply qln|apply qle|apply qgt|apply qge|apply qlk|apply qlv|apply qxt|apply qsb|apply qnt|apply qep|apply qnp|apply qeb|apply qnb|apply qx2|apply qx4|apply qcv|apply qlm|apply qfr|apply qto|apply qmx|apply qen|apply qsn|apply qx8|apply qx7|apply qx6|apply qx5|apply qx4|apply qx3|apply qx2|apply qx1|apply qx0)<;>(first|exact rfl|exact Ar.mk (by omega)|assumption|exact dct (by assumption)|exact dcf (by assumption)|exact dct (by omega)|exact dcf (by omega)|exact List.not_mem_nil|exact dc_length _|exact nc_length _|exact rc_length _ _ _|exact ec_length _|exact nm1 (by omega)|exact nm2 (by omega) (by omega)|exact dct rfl|exact dct (by decide)|exact dcf (by decide)|exact (Int.toNat_of_nonneg (by omega)).symm|exact dcu|exact lk1 (by assumption)|exact lk0 (by assumption)|exact lkb|fail))|fail) ?_)
    refine SG.call rfl rfl rfl (by repeat' (first | exact True.intro | exact rho_of rfl | refine And.intro ?_ ?_)) ((rall_spec c5 (hS5f.kp0 hkfk) (by omega)).mono (fun e wl hh => ?_))
    obtain ⟨al, cl, hel, hSl, hkl⟩ := hh
    refine ⟨_, hel, ?_⟩
    repeat (first|apply CG.seq|apply CG.region|apply SG.nil|apply NG.next|apply CG.skip|apply CG.block|apply CG.ret|apply CG.exit|apply CG.scope|apply NG.ret_then|apply NG.ret_block|apply NG.ret_scope|apply NG.exit_then|refine NG.exit_block rfl ?_|refine NG.exit_other rfl ?_|apply NG.exit_scope|apply NG.normal_block|apply NG.normal_scope|refine SG.val rfl rfl rfl rfl (by first|((first|apply qmv|apply qas|apply qlc|apply qla|apply qfa|apply qnc|apply qic|apply qix|apply qpk|apply qls|apply qei|apply qni|apply qed|apply qnd|apply qad|apply qln|apply qle|apply qgt|apply qge|apply qlk|apply qlv|apply qxt|apply qsb|apply qnt|apply qep|apply qnp|apply qeb|apply qnb|apply qx2|apply qx4|apply qcv|apply qlm|apply qfr|apply qto|apply qmx|apply qen|apply qsn|apply qx8|apply qx7|apply qx6|apply qx5|apply qx4|apply qx3|apply qx2|apply qx1|apply qx0)<;>(first|exact rfl|exact Ar.mk (by omega)|assumption|exact dct (by assumption)|exact dcf (by assumption)|exact dct (by omega)|exact dcf (by omega)|exact List.not_mem_nil|exact dc_length _|exact nc_length _|exact rc_length _ _ _|exact ec_length _|exact nm1 (by omega)|exact nm2 (by omega) (by omega)|exact dct rfl|exact dct (by decide)|exact dcf (by decide)|exact (Int.toNat_of_nonneg (by omega)).symm|exact dcu|exact lk1 (by assumption)|exact lk0 (by assumption)|exact lkb|fail))|fail) ?_)
    refine SG.call rfl rfl rfl (by repeat' (first | exact True.intro | exact rho_of rfl | refine And.intro ?_ ?_)) ((rall_spec cb_ ((hSbf.kp0 hkfk).kp0 hkl) (by omega)).mono (fun e wm hh => ?_))
    obtain ⟨am, cm', hem, hSm, hkm⟩ := hh
    refine ⟨_, hem, ?_⟩
    refine SG.ret rfl rfl rfl (by repeat' (first | exact True.intro | exact rho_of rfl | refine And.intro ?_ ?_)) (rsame_spec cl cm' (hSl.kp0 hkm) hSm (by omega) hfit hfitb) (fun wn hkn => ?_)
    have hkbn := (((hkbf.trans hkfk).trans hkl).trans hkm).trans hkn
    repeat (first|apply CG.seq|apply CG.region|apply SG.nil|apply NG.next|apply CG.skip|apply CG.block|apply CG.ret|apply CG.exit|apply CG.scope|apply NG.ret_then|apply NG.ret_block|apply NG.ret_scope|apply NG.exit_then|refine NG.exit_block rfl ?_|refine NG.exit_other rfl ?_|apply NG.exit_scope|apply NG.normal_block|apply NG.normal_scope|refine SG.val rfl rfl rfl rfl (by first|((first|apply qmv|apply qas|apply qlc|apply qla|apply qfa|apply qnc|apply qic|apply qix|apply qpk|apply qls|apply qei|apply qni|apply qed|apply qnd|apply qad|apply qln|apply qle|apply qgt|apply qge|apply qlk|apply qlv|apply qxt|apply qsb|apply qnt|apply qep|apply qnp|apply qeb|apply qnb|apply qx2|apply qx4|apply qcv|apply qlm|apply qfr|apply qto|apply qmx|apply qen|apply qsn|apply qx8|apply qx7|apply qx6|apply qx5|apply qx4|apply qx3|apply qx2|apply qx1|apply qx0)<;>(first|exact rfl|exact Ar.mk (by omega)|assumption|exact dct (by assumption)|exact dcf (by assumption)|exact dct (by omega)|exact dcf (by omega)|exact List.not_mem_nil|exact dc_length _|exact nc_length _|exact rc_length _ _ _|exact ec_length _|exact nm1 (by omega)|exact nm2 (by omega) (by omega)|exact dct rfl|exact dct (by decide)|exact dcf (by decide)|exact (Int.toNat_of_nonneg (by omega)).symm|exact dcu|exact lk1 (by assumption)|exact lk0 (by assumption)|exact lkb|fail))|fail) ?_)
    refine CG.cond_f rfl (by exact rho_of rfl) (by simp) ?_
    repeat (first|apply CG.seq|apply CG.region|apply SG.nil|apply NG.next|apply CG.skip|apply CG.block|apply CG.ret|apply CG.exit|apply CG.scope|apply NG.ret_then|apply NG.ret_block|apply NG.ret_scope|apply NG.exit_then|refine NG.exit_block rfl ?_|refine NG.exit_other rfl ?_|apply NG.exit_scope|apply NG.normal_block|apply NG.normal_scope|refine SG.val rfl rfl rfl rfl (by first|((first|apply qmv|apply qas|apply qlc|apply qla|apply qfa|apply qnc|apply qic|apply qix|apply qpk|apply qls|apply qei|apply qni|apply qed|apply qnd|apply qad|apply qln|apply qle|apply qgt|apply qge|apply qlk|apply qlv|apply qxt|apply qsb|apply qnt|apply qep|apply qnp|apply qeb|apply qnb|apply qx2|apply qx4|apply qcv|apply qlm|apply qfr|apply qto|apply qmx|apply qen|apply qsn|apply qx8|apply qx7|apply qx6|apply qx5|apply qx4|apply qx3|apply qx2|apply qx1|apply qx0)<;>(first|exact rfl|exact Ar.mk (by omega)|assumption|exact dct (by assumption)|exact dcf (by assumption)|exact dct (by omega)|exact dcf (by omega)|exact List.not_mem_nil|exact dc_length _|exact nc_length _|exact rc_length _ _ _|exact ec_length _|exact nm1 (by omega)|exact nm2 (by omega) (by omega)|exact dct rfl|exact dct (by decide)|exact dcf (by decide)|exact (Int.toNat_of_nonneg (by omega)).symm|exact dcu|exact lk1 (by assumption)|exact lk0 (by assumption)|exact lkb|fail))|fail) ?_)
    exact NG.round (j + 1, mb, lb, ab, cb_) (by (repeat' (first | exact True.intro | exact rfl | refine And.intro ?_ ?_))) ⟨by simp only; omega, hk0b.trans hkbn, hBb.kp0 hkbn, hS5b.kp0 hkbn, hCb.kp0 hkbn, hSb.kp0 hkbn, by simp only; rw [show (42 + ((j + 1 : Nat) : Int)) = 42 + (j : Int) + 1 by omega]; exact relb, by simp only; omega, by simp only; omega⟩ (by simp only; omega)
end Go.Proofs.Ytkkfppfpbobghaa
/-
  AccountClones answers true for every input, and leaves its arguments as they were. No conditions.
-/
namespace Go.Proofs.Ytkkfppfpbobghaa
open Go.ChangeShapes Go.WideShapes Go.ChangeAt Go.RowKit
set_option linter.unusedVariables false

set_option maxRecDepth 100000 in
theorem accountClones_lifted (os : Os) (started : os.Started) (H : Type) (enc : TypeId × Value → H) :
    ReturnsInHanded {} Try.checked os 9 .any (Rows.accountClonesSpec.pre6 enc Try.prog Try.f9 Rows.accountClonesRow.domain false) (Rows.accountClonesSpec.post enc Try.prog Try.f9 false true false false) := by
  refine returnsInHanded_of_change (C := Try.checked) own started (by kernel_rfl) Try.func9
    (ChangeSpec.witness6 (enc := enc) (C := Try.checked) false ⟨#[], #[.slice none 0 0, .slice none 0 0, .slice none 0 0], []⟩ 8 (by kernel_rfl) (by kernel_rfl) (by kernel_rfl) (by kernel_rfl)) ?_
  intro W base args ds gs before hval0 hW hcnd _
  have hval : ∀ (j : Nat) t v, Try.f9.params[j]? = some t → args[j]? = some v → Value.okWide Try.prog W .any base t v := hval0
  have hW' : DataW.Whole enc Try.prog Try.f9.params.toList Rows.accountClonesSpec.vars false W args.toList ds gs before := hW
  obtain ⟨p, q, hA0, hV, rfl, hfz, hnd⟩ := hW
  have hA : DataW.TrodAll enc Try.prog W 0 (fun _ => true) true Try.f9.params.toList args.toList ds p := hA0
  rw [Try.params9] at hA hval
  obtain ⟨v0, v1, v2, d0, d1, d2, p0, p1, p2, rfl, rfl, rfl, h0, h1, h2⟩ := trodAll_three hA
  obtain ⟨a0, n0, c0, rfl, hn0, hc0, hs0⟩ := open_sl Try.underlying22 (by rw [cells41]; omega) (hval 0 22 v0 rfl rfl) h0
  obtain ⟨l0, hl0⟩ := u16s_of hs0
  obtain ⟨a1, n1, c1, rfl, hn1, hc1, hs1⟩ := open_sl Try.underlying23 (by rw [cells32]; omega) (hval 1 23 v1 rfl rfl) h1
  obtain ⟨l1, hl1⟩ := ops_of hs1
  obtain ⟨a2, n2, c2, rfl, hn2, hc2, hs2⟩ := open_sl Try.underlying23 (by rw [cells32]; omega) (hval 2 23 v2 rfl rfl) h2
  obtain ⟨l2, hl2⟩ := ops_of hs2
  refine (clones_law W a0 n0 c0 l0 hl0 a1 n1 c1 l1 hl1 a2 n2 c2 l2 hl2).mono fun e W' ⟨he, hk⟩ => ⟨_, he, ?_⟩
  exact law_post laidOut (by rw [Try.params9]; exact of_decide_eq_true (by kernel_rfl)) rfl hW' rfl (by kernel_rfl) Try.underlying4 hk

theorem accountClones_holds : Rows.AccountClonesSaid :=
  OpenClaim.holds_of_wide 9 Try.f9 rfl rfl rfl rfl rfl rfl rfl ⟨rfl, rfl, rfl, rfl, rfl⟩ rfl rfl rfl rfl rfl (by kernel_rfl) Try.func9 (by kernel_rfl)
    (of_decide_eq_true (by kernel_rfl)) (by unfold Func.isWrapper; first | (rw [if_pos (by decide +kernel)]; kernel_rfl) | (rw [if_neg (by decide +kernel)]; exact ⟨rfl, rfl⟩))
    (fun os started H enc _ => accountClones_lifted os started H enc)
end Go.Proofs.Ytkkfppfpbobghaa
