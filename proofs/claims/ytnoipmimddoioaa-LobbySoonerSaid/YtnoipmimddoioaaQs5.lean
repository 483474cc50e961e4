import Derived.Test.YtnoipmimddoioaaQs4
/-
  Offers compared; looked for.
-/
namespace Go.Proofs.Ytnoipmimddoioaa
open Go.Proofs
set_option linter.unusedVariables false

theorem ofr_iff (a b : Ofr) : (a.who = b.who ∧ a.rules = b.rules ∧ a.seats = b.seats ∧ a.least = b.least ∧ a.most = b.most ∧ a.window = b.window ∧ a.till = b.till) ↔ a = b := by
  constructor
  · rintro ⟨h1, h2, h3, h4, h5, h6, h7⟩
    cases a
    cases b
    simp only at h1 h2 h3 h4 h5 h6 h7
    subst h1 h2 h3 h4 h5 h6 h7
    rfl
  · rintro rfl
    exact ⟨rfl, rfl, rfl, rfl, rfl, rfl, rfl⟩
instance : DecidableEq Ofr := fun a b => decidable_of_iff _ (ofr_iff a b)
theorem oc5 : Try.prog.cellsOf 5 = 1 := by kernel_rfl
theorem oc3 : Try.prog.cellsOf 3 = 1 := by kernel_rfl
theorem oc24 : Try.prog.cellsOf 24 = 8 := by kernel_rfl
theorem oc47 : Try.prog.cellsOf 47 = 21 := by kernel_rfl
theorem osz : ∃ m, Try.prog.types.size = m + 3 := ⟨Try.prog.types.size - 3, by kernel_rfl⟩
theorem owf (z : Int) (h1 : -4000000000000000000 ≤ z) (h2 : z ≤ 4000000000000000000) : (Lit.int .i64 z).wf = true := by
  simp [Lit.wf, IntKind.min, IntKind.max, IntKind.signed, IntKind.bits]
  omega
theorem owb (u : UInt8) : (Lit.int .u8 (u.toNat : Int)).wf = true := by
  have := u.toNat_lt
  simp [Lit.wf, IntKind.min, IntKind.max, IntKind.signed, IntKind.bits]
  omega
structure Ofr.Fit (o : Ofr) : Prop where
  s : -4000000000000000000 ≤ o.seats ∧ o.seats ≤ 4000000000000000000
  l : -4000000000000000000 ≤ o.least ∧ o.least ≤ 4000000000000000000
  m : -4000000000000000000 ≤ o.most ∧ o.most ≤ 4000000000000000000
  w : -4000000000000000000 ≤ o.window ∧ o.window ≤ 4000000000000000000
  t : -4000000000000000000 ≤ o.till ∧ o.till ≤ 4000000000000000000
theorem Ofr.Ok.fit {o : Ofr} (h : o.Ok) : o.Fit := by
  obtain ⟨h1, h2, h3, h4, h5, h6, h7, h8, h9⟩ := (okk o).1 h
  exact ⟨⟨by omega, by omega⟩, ⟨by omega, by omega⟩, ⟨by omega, by omega⟩, ⟨by omega, by omega⟩, ⟨by omega, by omega⟩⟩
set_option maxHeartbeats 4000000 in
theorem ofr_lits' (n : Nat) (a0 a1 a2 a3 a4 a5 a6 a7 b0 b1 b2 b3 b4 b5 b6 b7 : UInt8) (x y z u v : Int) (hx : (Lit.int .i64 x).wf = true) (hy : (Lit.int .i64 y).wf = true) (hz : (Lit.int .i64 z).wf = true) (hu : (Lit.int .i64 u).wf = true) (hv : (Lit.int .i64 v).wf = true) :
    (Try.prog.keyLits (n + 3 + 1) 47 [bv a0, bv a1, bv a2, bv a3, bv a4, bv a5, bv a6, bv a7, bv b0, bv b1, bv b2, bv b3, bv b4, bv b5, bv b6, bv b7, .int .i64 x, .int .i64 y, .int .i64 z, .int .i64 u, .int .i64 v]).isSome = true := by
  simp [Program.keyLits, Try.underlying47, Try.underlying24, Try.underlying5, Try.underlying3, oc5, oc24, oc3, oc47, owb, hx, hy, hz, hu, hv, List.range, List.range.loop]
theorem ofr_lits (o : Ofr) (h : o.Fit) : (Try.prog.keyLits (Try.prog.types.size + 1) 47 (ec o)).isSome = true := by
  obtain ⟨m, hm⟩ := osz
  rw [hm]
  obtain ⟨⟨l, hl⟩, ⟨l2, hl2⟩, x, y, z, u, v⟩ := o
  obtain ⟨h1, h2, h3, h4, h5⟩ := h
  match l, hl, l2, hl2 with
  | [a0, a1, a2, a3, a4, a5, a6, a7], _, [b0, b1, b2, b3, b4, b5, b6, b7], _ => exact ofr_lits' m a0 a1 a2 a3 a4 a5 a6 a7 b0 b1 b2 b3 b4 b5 b6 b7 x y z u v (owf x h1.1 h1.2) (owf y h2.1 h2.2) (owf z h3.1 h3.2) (owf u h4.1 h4.2) (owf v h5.1 h5.2)
theorem ofr_formed (o : Ofr) : (ov o).formed Try.prog 47 = true := by
  simp [ov, Value.formed, Try.underlying47, oc47, ec_length]
theorem ec_inj {a b : Ofr} (h : ec a = ec b) : a = b := by
  obtain ⟨p, n, s, l, m, w, t⟩ := a
  obtain ⟨p', n', s', l', m', w', t'⟩ := b
  have h' := List.append_inj h (by simp [dc_length])
  have h1 := dc_inj h'.1
  have h2 := List.append_inj h'.2 (by simp [dc_length])
  have h3 := dc_inj h2.1
  have h4 := h2.2
  simp at h4
  obtain ⟨rfl, rfl, rfl, rfl, rfl⟩ := h4
  simp only at h1 h3
  subst h1
  subst h3
  rfl
theorem equal_ofr {a b : Ofr} (ha : a.Fit) (hb : b.Fit) (w : World) : (Op.equal 47 (ov a) (ov b)).run Try.prog w = .ok (decide (a = b)) w := by
  obtain ⟨r, h1, h2⟩ := equal_agg (P := Try.prog) (T := 47) 3 (by omega) (by kernel_rfl) (by kernel_rfl) (by rw [Try.underlying47]) (by kernel_rfl) (ofr_formed a) (ofr_formed b) (ofr_lits a ha) (ofr_lits b hb) w
  have h3 : r = decide (a = b) := by
    by_cases e : a = b
    · rw [decide_eq_true e]
      exact h2.2 (by rw [e])
    · rw [decide_eq_false e]
      cases r with
      | false => rfl
      | true => exact absurd (ec_inj (h2.1 rfl)) e
  rw [h3] at h1
  exact h1
theorem guard47 : Try.prog.eqGuardType Try.prog.depth 47 = false := by kernel_rfl
theorem qeo {S : List Nat} {w0 : World} {F : World → Prop} {L : Env} {d : Option Nat} {ty : TypeId} {pos : String} {af : Array Edge} {g : Option (Nat × Bool)} {x y : Operand} {T' : TypeId} {a b : Ofr} {c : Bool} (hx : ro L x = some (ov a)) (hy : ro L y = some (ov b)) (ha : a.Fit) (hb : b.Fit) (h : Dc (a = b) c) :
    Vals Try.prog S w0 F L ⟨d, .binOp .eql 47 x y T', ty, pos, af, g⟩ (.bool c) := fun w _ _ => by
  rw [← h.eq]
  have hx' : rho L x = .agg (ec a).toArray := rho_of hx
  have hy' : rho L y = .agg (ec b).toArray := rho_of hy
  have he : ∀ w, (Op.equal 47 (.agg (ec a).toArray) (.agg (ec b).toArray)).run Try.prog w = .ok (decide (a = b)) w := fun w => equal_ofr ha hb w
  simp [execOp, hx', hy', eqGuard, binOp, he, guard47]
theorem qno {S : List Nat} {w0 : World} {F : World → Prop} {L : Env} {d : Option Nat} {ty : TypeId} {pos : String} {af : Array Edge} {g : Option (Nat × Bool)} {x y : Operand} {T' : TypeId} {a b : Ofr} {c : Bool} (hx : ro L x = some (ov a)) (hy : ro L y = some (ov b)) (ha : a.Fit) (hb : b.Fit) (h : Dc (a = b) c) :
    Vals Try.prog S w0 F L ⟨d, .binOp .neq 47 x y T', ty, pos, af, g⟩ (.bool (!c)) := fun w _ _ => by
  rw [← h.eq]
  have hx' : rho L x = .agg (ec a).toArray := rho_of hx
  have hy' : rho L y = .agg (ec b).toArray := rho_of hy
  have he : ∀ w, (Op.equal 47 (.agg (ec a).toArray) (.agg (ec b).toArray)).run Try.prog w = .ok (decide (a = b)) w := fun w => equal_ofr ha hb w
  simp [execOp, hx', hy', eqGuard, binOp, he, guard47]

attribute [local irreducible] CG NG SG Vals Der Row Blk MapIs IterAt
set_option maxHeartbeats 16000000 in
/-- slices.Index: from 0 on just if it is there. -/
theorem index_spec {w : World} {l : List Ofr} {a : Option Addr} {c : Nat} (hS : Sl ec 21 w a l) (hl : l.length ≤ 1000000000) (o : Ofr) (hf : ∀ x ∈ l, x.Fit) (ho : o.Fit) :
    ∃ z : Int, (0 ≤ z ↔ o ∈ l) ∧ Ret Try.prog 84 #[.slice a l.length c, ov o] w (.int .i64 z) := by
  by_cases hm : o ∈ l
  · obtain ⟨k, hk, hko, hlow⟩ : ∃ k, ∃ h : k < l.length, l[k] = o ∧ ∀ j (hj : j < k), l[j]'(by omega) ≠ o := by
      obtain ⟨x, ⟨h1, h2⟩, h3⟩ := exists_least (fun k => ∃ h : k < l.length, l[k] = o) (fun k => k) (List.getElem_of_mem hm)
      refine ⟨x, h1, h2, fun j hj e => ?_⟩
      have := h3 j ⟨by omega, e⟩
      omega
    refine ⟨k, ⟨fun _ => hm, fun _ => by omega⟩, ?_⟩
    refine enter2 Try.func84 rfl Try.ntmps84 rfl ?_
    repeat (first|apply CG.seq|apply CG.region|apply SG.nil|apply NG.next|apply CG.skip|apply CG.block|apply CG.ret|apply CG.exit|apply NG.ret_then|apply NG.ret_block|apply NG.exit_then|refine NG.exit_block rfl ?_|apply NG.normal_block|refine SG.val rfl rfl rfl rfl (by first|((first|apply qeo|apply qmv|apply qas|apply qlc|apply qla|apply qix|apply qls|apply qad|apply qln|apply qge|apply qsn)<;>(first|exact rfl|assumption|exact Ar.mk (by omega)|exact dct (by first|assumption|omega)|exact dcf (by first|assumption|omega)|exact List.not_mem_nil|apply dc_length|apply ec_length|fail))|fail) ?_)
    refine SG.box rfl rfl rfl (by exact rho_of rfl) (fun b3 w2 hk2 hb3 hB3 => ?_)
    have hB3 : Blk w2 b3 (.cells (ec o).toArray 47) := hB3
    have hR3 : Row w2 b3 0 (ec o) := Row.all hB3 rfl
    repeat (first|apply CG.seq|apply CG.region|apply SG.nil|apply NG.next|apply CG.skip|apply CG.block|apply CG.ret|apply CG.exit|apply NG.ret_then|apply NG.ret_block|apply NG.exit_then|refine NG.exit_block rfl ?_|apply NG.normal_block|refine SG.val rfl rfl rfl rfl (by first|((first|apply qeo|apply qmv|apply qas|apply qlc|apply qla|apply qix|apply qls|apply qad|apply qln|apply qge|apply qsn)<;>(first|exact rfl|assumption|exact Ar.mk (by omega)|exact dct (by first|assumption|omega)|exact dcf (by first|assumption|omega)|exact List.not_mem_nil|apply dc_length|apply ec_length|fail))|fail) ?_)
    refine CG.loop (X := Nat) (fun i => [(0, .slice a l.length c), (3, .pointer (some ⟨b3, 0, none⟩)), (7, .int .i64 (l.length : Int)), (8, .int .i64 (i : Int))]) (fun i w' => i ≤ k ∧ Kp [] w2 w') (fun i => l.length - i) 0 ⟨by omega, Kp.refl _ _⟩ (by (repeat' (first | exact True.intro | exact rfl | refine And.intro ?_ ?_))) ?_
    rintro i w3 ⟨hi, hk3⟩
    have g1 : (i : Int) < (l.length : Int) := by omega
    have hR := hR3.kp0 hk3
    obtain ⟨bz, oz, rfl, hrz⟩ := (hS.kp0 (hk2.trans hk3)).at (show i < l.length by omega)
    have hfi := hf _ (List.getElem_mem (show i < l.length by omega))
    repeat (first|apply CG.seq|apply CG.region|apply SG.nil|apply NG.next|apply CG.skip|apply CG.block|apply CG.ret|apply CG.exit|apply NG.ret_then|apply NG.ret_block|apply NG.exit_then|refine NG.exit_block rfl ?_|apply NG.normal_block|refine SG.val rfl rfl rfl rfl (by first|((first|apply qeo|apply qmv|apply qas|apply qlc|apply qla|apply qix|apply qls|apply qad|apply qln|apply qge|apply qsn)<;>(first|exact rfl|assumption|exact Ar.mk (by omega)|exact dct (by first|assumption|omega)|exact dcf (by first|assumption|omega)|exact List.not_mem_nil|apply dc_length|apply ec_length|fail))|fail) ?_)
    refine CG.cond_t rfl (by exact rho_of rfl) rfl ?_
    by_cases e : i = k
    · subst e
      rw [hko] at hrz hfi
      have e1 : o = o := rfl
      repeat (first|apply CG.seq|apply CG.region|apply SG.nil|apply NG.next|apply CG.skip|apply CG.block|apply CG.ret|apply CG.exit|apply NG.ret_then|apply NG.ret_block|apply NG.exit_then|refine NG.exit_block rfl ?_|apply NG.normal_block|refine SG.val rfl rfl rfl rfl (by first|((first|apply qeo|apply qmv|apply qas|apply qlc|apply qla|apply qix|apply qls|apply qad|apply qln|apply qge|apply qsn)<;>(first|exact rfl|assumption|exact Ar.mk (by omega)|exact dct (by first|assumption|omega)|exact dcf (by first|assumption|omega)|exact List.not_mem_nil|apply dc_length|apply ec_length|fail))|fail) ?_)
      refine CG.draw0 mixed [0, 1, 2, 3, 4, 5] [] (by kernel_rfl) ?_
      repeat (refine Der.val rfl rfl rfl (by first|((first|apply qeo|apply qmv|apply qas|apply qlc|apply qla|apply qix|apply qls|apply qad|apply qln|apply qge|apply qsn)<;>(first|exact rfl|assumption|exact Ar.mk (by omega)|exact dct (by first|assumption|omega)|exact dcf (by first|assumption|omega)|exact List.not_mem_nil|apply dc_length|apply ec_length|fail))|fail) ?_)
      refine Der.fin (fun w6 hk6 _ _ => ?_)
      repeat (first|apply CG.seq|apply CG.region|apply SG.nil|apply NG.next|apply CG.skip|apply CG.block|apply CG.ret|apply CG.exit|apply NG.ret_then|apply NG.ret_block|apply NG.exit_then|refine NG.exit_block rfl ?_|apply NG.normal_block|refine SG.val rfl rfl rfl rfl (by first|((first|apply qeo|apply qmv|apply qas|apply qlc|apply qla|apply qix|apply qls|apply qad|apply qln|apply qge|apply qsn)<;>(first|exact rfl|assumption|exact Ar.mk (by omega)|exact dct (by first|assumption|omega)|exact dcf (by first|assumption|omega)|exact List.not_mem_nil|apply dc_length|apply ec_length|fail))|fail) ?_)
      refine CG.cond_t rfl (by exact rho_of rfl) rfl ?_
      repeat (first|apply CG.seq|apply CG.region|apply SG.nil|apply NG.next|apply CG.skip|apply CG.block|apply CG.ret|apply CG.exit|apply NG.ret_then|apply NG.ret_block|apply NG.exit_then|refine NG.exit_block rfl ?_|apply NG.normal_block|refine SG.val rfl rfl rfl rfl (by first|((first|apply qeo|apply qmv|apply qas|apply qlc|apply qla|apply qix|apply qls|apply qad|apply qln|apply qge|apply qsn)<;>(first|exact rfl|assumption|exact Ar.mk (by omega)|exact dct (by first|assumption|omega)|exact dcf (by first|assumption|omega)|exact List.not_mem_nil|apply dc_length|apply ec_length|fail))|fail) ?_)
      refine ret1 (Or.inl rfl) Try.results84 (by first | exact ResV.tmp rfl | exact ResV.agg rfl rfl (by assumption) (by first | exact dc_length _ | exact nc_length _ | exact rc_length _ _ _ | exact ec_length _ | exact dl_length _ _ _ _ | rfl) | exact ResV.cell rfl rfl (by assumption)) ?_
      exact ⟨rfl, (hk2.trans hk3).trans hk6⟩
    · have e1 : ¬ o = l[i] := fun h => hlow i (by omega) h.symm
      repeat (first|apply CG.seq|apply CG.region|apply SG.nil|apply NG.next|apply CG.skip|apply CG.block|apply CG.ret|apply CG.exit|apply NG.ret_then|apply NG.ret_block|apply NG.exit_then|refine NG.exit_block rfl ?_|apply NG.normal_block|refine SG.val rfl rfl rfl rfl (by first|((first|apply qeo|apply qmv|apply qas|apply qlc|apply qla|apply qix|apply qls|apply qad|apply qln|apply qge|apply qsn)<;>(first|exact rfl|assumption|exact Ar.mk (by omega)|exact dct (by first|assumption|omega)|exact dcf (by first|assumption|omega)|exact List.not_mem_nil|apply dc_length|apply ec_length|fail))|fail) ?_)
      refine CG.draw0 mixed [0, 1, 2, 3, 4, 5] [] (by kernel_rfl) ?_
      repeat (refine Der.val rfl rfl rfl (by first|((first|apply qeo|apply qmv|apply qas|apply qlc|apply qla|apply qix|apply qls|apply qad|apply qln|apply qge|apply qsn)<;>(first|exact rfl|assumption|exact Ar.mk (by omega)|exact dct (by first|assumption|omega)|exact dcf (by first|assumption|omega)|exact List.not_mem_nil|apply dc_length|apply ec_length|fail))|fail) ?_)
      refine Der.fin (fun w6 hk6 _ _ => ?_)
      repeat (first|apply CG.seq|apply CG.region|apply SG.nil|apply NG.next|apply CG.skip|apply CG.block|apply CG.ret|apply CG.exit|apply NG.ret_then|apply NG.ret_block|apply NG.exit_then|refine NG.exit_block rfl ?_|apply NG.normal_block|refine SG.val rfl rfl rfl rfl (by first|((first|apply qeo|apply qmv|apply qas|apply qlc|apply qla|apply qix|apply qls|apply qad|apply qln|apply qge|apply qsn)<;>(first|exact rfl|assumption|exact Ar.mk (by omega)|exact dct (by first|assumption|omega)|exact dcf (by first|assumption|omega)|exact List.not_mem_nil|apply dc_length|apply ec_length|fail))|fail) ?_)
      refine CG.cond_f rfl (by exact rho_of rfl) rfl ?_
      repeat (first|apply CG.seq|apply CG.region|apply SG.nil|apply NG.next|apply CG.skip|apply CG.block|apply CG.ret|apply CG.exit|apply NG.ret_then|apply NG.ret_block|apply NG.exit_then|refine NG.exit_block rfl ?_|apply NG.normal_block|refine SG.val rfl rfl rfl rfl (by first|((first|apply qeo|apply qmv|apply qas|apply qlc|apply qla|apply qix|apply qls|apply qad|apply qln|apply qge|apply qsn)<;>(first|exact rfl|assumption|exact Ar.mk (by omega)|exact dct (by first|assumption|omega)|exact dcf (by first|assumption|omega)|exact List.not_mem_nil|apply dc_length|apply ec_length|fail))|fail) ?_)
      refine NG.round (i + 1) (by (repeat' (first | exact True.intro | exact rfl | refine And.intro ?_ ?_))) ⟨by omega, hk3.trans hk6⟩ (by omega)
  · refine ⟨-1, ⟨fun h => by omega, fun h => absurd h hm⟩, ?_⟩
    refine enter2 Try.func84 rfl Try.ntmps84 rfl ?_
    repeat (first|apply CG.seq|apply CG.region|apply SG.nil|apply NG.next|apply CG.skip|apply CG.block|apply CG.ret|apply CG.exit|apply NG.ret_then|apply NG.ret_block|apply NG.exit_then|refine NG.exit_block rfl ?_|apply NG.normal_block|refine SG.val rfl rfl rfl rfl (by first|((first|apply qeo|apply qmv|apply qas|apply qlc|apply qla|apply qix|apply qls|apply qad|apply qln|apply qge|apply qsn)<;>(first|exact rfl|assumption|exact Ar.mk (by omega)|exact dct (by first|assumption|omega)|exact dcf (by first|assumption|omega)|exact List.not_mem_nil|apply dc_length|apply ec_length|fail))|fail) ?_)
    refine SG.box rfl rfl rfl (by exact rho_of rfl) (fun b3 w2 hk2 hb3 hB3 => ?_)
    have hB3 : Blk w2 b3 (.cells (ec o).toArray 47) := hB3
    have hR3 : Row w2 b3 0 (ec o) := Row.all hB3 rfl
    repeat (first|apply CG.seq|apply CG.region|apply SG.nil|apply NG.next|apply CG.skip|apply CG.block|apply CG.ret|apply CG.exit|apply NG.ret_then|apply NG.ret_block|apply NG.exit_then|refine NG.exit_block rfl ?_|apply NG.normal_block|refine SG.val rfl rfl rfl rfl (by first|((first|apply qeo|apply qmv|apply qas|apply qlc|apply qla|apply qix|apply qls|apply qad|apply qln|apply qge|apply qsn)<;>(first|exact rfl|assumption|exact Ar.mk (by omega)|exact dct (by first|assumption|omega)|exact dcf (by first|assumption|omega)|exact List.not_mem_nil|apply dc_length|apply ec_length|fail))|fail) ?_)
    refine CG.loop (X := Nat) (fun i => [(0, .slice a l.length c), (3, .pointer (some ⟨b3, 0, none⟩)), (7, .int .i64 (l.length : Int)), (8, .int .i64 (i : Int))]) (fun i w' => i ≤ l.length ∧ Kp [] w2 w') (fun i => l.length - i) 0 ⟨by omega, Kp.refl _ _⟩ (by (repeat' (first | exact True.intro | exact rfl | refine And.intro ?_ ?_))) ?_
    rintro i w3 ⟨hi, hk3⟩
    by_cases hlt : i < l.length
    · have g1 : (i : Int) < (l.length : Int) := by omega
      have hR := hR3.kp0 hk3
      obtain ⟨bz, oz, rfl, hrz⟩ := (hS.kp0 (hk2.trans hk3)).at hlt
      have hfi := hf _ (List.getElem_mem hlt)
      have e1 : ¬ o = l[i] := fun h => hm (h ▸ List.getElem_mem hlt)
      repeat (first|apply CG.seq|apply CG.region|apply SG.nil|apply NG.next|apply CG.skip|apply CG.block|apply CG.ret|apply CG.exit|apply NG.ret_then|apply NG.ret_block|apply NG.exit_then|refine NG.exit_block rfl ?_|apply NG.normal_block|refine SG.val rfl rfl rfl rfl (by first|((first|apply qeo|apply qmv|apply qas|apply qlc|apply qla|apply qix|apply qls|apply qad|apply qln|apply qge|apply qsn)<;>(first|exact rfl|assumption|exact Ar.mk (by omega)|exact dct (by first|assumption|omega)|exact dcf (by first|assumption|omega)|exact List.not_mem_nil|apply dc_length|apply ec_length|fail))|fail) ?_)
      refine CG.cond_t rfl (by exact rho_of rfl) rfl ?_
      repeat (first|apply CG.seq|apply CG.region|apply SG.nil|apply NG.next|apply CG.skip|apply CG.block|apply CG.ret|apply CG.exit|apply NG.ret_then|apply NG.ret_block|apply NG.exit_then|refine NG.exit_block rfl ?_|apply NG.normal_block|refine SG.val rfl rfl rfl rfl (by first|((first|apply qeo|apply qmv|apply qas|apply qlc|apply qla|apply qix|apply qls|apply qad|apply qln|apply qge|apply qsn)<;>(first|exact rfl|assumption|exact Ar.mk (by omega)|exact dct (by first|assumption|omega)|exact dcf (by first|assumption|omega)|exact List.not_mem_nil|apply dc_length|apply ec_length|fail))|fail) ?_)
      refine CG.draw0 mixed [0, 1, 2, 3, 4, 5] [] (by kernel_rfl) ?_
      repeat (refine Der.val rfl rfl rfl (by first|((first|apply qeo|apply qmv|apply qas|apply qlc|apply qla|apply qix|apply qls|apply qad|apply qln|apply qge|apply qsn)<;>(first|exact rfl|assumption|exact Ar.mk (by omega)|exact dct (by first|assumption|omega)|exact dcf (by first|assumption|omega)|exact List.not_mem_nil|apply dc_length|apply ec_length|fail))|fail) ?_)
      refine Der.fin (fun w6 hk6 _ _ => ?_)
      repeat (first|apply CG.seq|apply CG.region|apply SG.nil|apply NG.next|apply CG.skip|apply CG.block|apply CG.ret|apply CG.exit|apply NG.ret_then|apply NG.ret_block|apply NG.exit_then|refine NG.exit_block rfl ?_|apply NG.normal_block|refine SG.val rfl rfl rfl rfl (by first|((first|apply qeo|apply qmv|apply qas|apply qlc|apply qla|apply qix|apply qls|apply qad|apply qln|apply qge|apply qsn)<;>(first|exact rfl|assumption|exact Ar.mk (by omega)|exact dct (by first|assumption|omega)|exact dcf (by first|assumption|omega)|exact List.not_mem_nil|apply dc_length|apply ec_length|fail))|fail) ?_)
      refine CG.cond_f rfl (by exact rho_of rfl) rfl ?_
      repeat (first|apply CG.seq|apply CG.region|apply SG.nil|apply NG.next|apply CG.skip|apply CG.block|apply CG.ret|apply CG.exit|apply NG.ret_then|apply NG.ret_block|apply NG.exit_then|refine NG.exit_block rfl ?_|apply NG.normal_block|refine SG.val rfl rfl rfl rfl (by first|((first|apply qeo|apply qmv|apply qas|apply qlc|apply qla|apply qix|apply qls|apply qad|apply qln|apply qge|apply qsn)<;>(first|exact rfl|assumption|exact Ar.mk (by omega)|exact dct (by first|assumption|omega)|exact dcf (by first|assumption|omega)|exact List.not_mem_nil|apply dc_length|apply ec_length|fail))|fail) ?_)
      refine NG.round (i + 1) (by (repeat' (first | exact True.intro | exact rfl | refine And.intro ?_ ?_))) ⟨by omega, hk3.trans hk6⟩ (by omega)
    · have g1 : ¬ (i : Int) < (l.length : Int) := by omega
      repeat (first|apply CG.seq|apply CG.region|apply SG.nil|apply NG.next|apply CG.skip|apply CG.block|apply CG.ret|apply CG.exit|apply NG.ret_then|apply NG.ret_block|apply NG.exit_then|refine NG.exit_block rfl ?_|apply NG.normal_block|refine SG.val rfl rfl rfl rfl (by first|((first|apply qeo|apply qmv|apply qas|apply qlc|apply qla|apply qix|apply qls|apply qad|apply qln|apply qge|apply qsn)<;>(first|exact rfl|assumption|exact Ar.mk (by omega)|exact dct (by first|assumption|omega)|exact dcf (by first|assumption|omega)|exact List.not_mem_nil|apply dc_length|apply ec_length|fail))|fail) ?_)
      refine CG.cond_f rfl (by exact rho_of rfl) rfl ?_
      repeat (first|apply CG.seq|apply CG.region|apply SG.nil|apply NG.next|apply CG.skip|apply CG.block|apply CG.ret|apply CG.exit|apply NG.ret_then|apply NG.ret_block|apply NG.exit_then|refine NG.exit_block rfl ?_|apply NG.normal_block|refine SG.val rfl rfl rfl rfl (by first|((first|apply qeo|apply qmv|apply qas|apply qlc|apply qla|apply qix|apply qls|apply qad|apply qln|apply qge|apply qsn)<;>(first|exact rfl|assumption|exact Ar.mk (by omega)|exact dct (by first|assumption|omega)|exact dcf (by first|assumption|omega)|exact List.not_mem_nil|apply dc_length|apply ec_length|fail))|fail) ?_)
      refine ret1 (Or.inl rfl) Try.results84 (by first | exact ResV.tmp rfl | exact ResV.agg rfl rfl (by assumption) (by first | exact dc_length _ | exact nc_length _ | exact rc_length _ _ _ | exact ec_length _ | exact dl_length _ _ _ _ | rfl) | exact ResV.cell rfl rfl (by assumption)) ?_
      exact ⟨rfl, hk2.trans hk3⟩
set_option maxHeartbeats 16000000 in
theorem contains_spec {w : World} {l : List Ofr} {a : Option Addr} {c : Nat} (hS : Sl ec 21 w a l) (hl : l.length ≤ 1000000000) (o : Ofr) (hf : ∀ x ∈ l, x.Fit) (ho : o.Fit) :
    Ret Try.prog 61 #[.slice a l.length c, ov o] w (.bool (decide (o ∈ l))) := by
  refine enter2 Try.func61 rfl Try.ntmps61 rfl ?_
  repeat (first|apply CG.seq|apply CG.region|apply SG.nil|apply NG.next|apply CG.skip|apply CG.block|apply CG.ret|apply CG.exit|apply NG.ret_then|apply NG.ret_block|apply NG.exit_then|refine NG.exit_block rfl ?_|apply NG.normal_block|refine SG.val rfl rfl rfl rfl (by first|((first|apply qeo|apply qmv|apply qas|apply qlc|apply qla|apply qix|apply qls|apply qad|apply qln|apply qge|apply qsn)<;>(first|exact rfl|assumption|exact Ar.mk (by omega)|exact dct (by first|assumption|omega)|exact dcf (by first|assumption|omega)|exact List.not_mem_nil|apply dc_length|apply ec_length|fail))|fail) ?_)
  refine SG.box rfl rfl rfl (by exact rho_of rfl) (fun b3 w2 hk2 hb3 hB3 => ?_)
  have hB3 : Blk w2 b3 (.cells (ec o).toArray 47) := hB3
  have hR3 : Row w2 b3 0 (ec o) := Row.all hB3 rfl
  obtain ⟨z, hz, hret⟩ := index_spec (c := c) (hS.kp0 hk2) hl o hf ho
  repeat (first|apply CG.seq|apply CG.region|apply SG.nil|apply NG.next|apply CG.skip|apply CG.block|apply CG.ret|apply CG.exit|apply NG.ret_then|apply NG.ret_block|apply NG.exit_then|refine NG.exit_block rfl ?_|apply NG.normal_block|refine SG.val rfl rfl rfl rfl (by first|((first|apply qeo|apply qmv|apply qas|apply qlc|apply qla|apply qix|apply qls|apply qad|apply qln|apply qge|apply qsn)<;>(first|exact rfl|assumption|exact Ar.mk (by omega)|exact dct (by first|assumption|omega)|exact dcf (by first|assumption|omega)|exact List.not_mem_nil|apply dc_length|apply ec_length|fail))|fail) ?_)
  refine SG.ret rfl rfl rfl (vs := [.slice a l.length c, ov o]) (by repeat' (first | exact True.intro | exact rho_of rfl | refine And.intro ?_ ?_)) hret (fun w3 hk3 => ?_)
  by_cases hm : o ∈ l
  · have g0 : (0 : Int) ≤ z := hz.2 hm
    rw [decide_eq_true hm]
    repeat (first|apply CG.seq|apply CG.region|apply SG.nil|apply NG.next|apply CG.skip|apply CG.block|apply CG.ret|apply CG.exit|apply NG.ret_then|apply NG.ret_block|apply NG.exit_then|refine NG.exit_block rfl ?_|apply NG.normal_block|refine SG.val rfl rfl rfl rfl (by first|((first|apply qeo|apply qmv|apply qas|apply qlc|apply qla|apply qix|apply qls|apply qad|apply qln|apply qge|apply qsn)<;>(first|exact rfl|assumption|exact Ar.mk (by omega)|exact dct (by first|assumption|omega)|exact dcf (by first|assumption|omega)|exact List.not_mem_nil|apply dc_length|apply ec_length|fail))|fail) ?_)
    refine ret1 (Or.inl rfl) Try.results61 (by first | exact ResV.tmp rfl | exact ResV.agg rfl rfl (by assumption) (by first | exact dc_length _ | exact nc_length _ | exact rc_length _ _ _ | exact ec_length _ | exact dl_length _ _ _ _ | rfl) | exact ResV.cell rfl rfl (by assumption)) ?_
    exact ⟨rfl, hk2.trans hk3⟩
  · have g0 : ¬ (0 : Int) ≤ z := fun h => hm (hz.1 h)
    rw [decide_eq_false hm]
    repeat (first|apply CG.seq|apply CG.region|apply SG.nil|apply NG.next|apply CG.skip|apply CG.block|apply CG.ret|apply CG.exit|apply NG.ret_then|apply NG.ret_block|apply NG.exit_then|refine NG.exit_block rfl ?_|apply NG.normal_block|refine SG.val rfl rfl rfl rfl (by first|((first|apply qeo|apply qmv|apply qas|apply qlc|apply qla|apply qix|apply qls|apply qad|apply qln|apply qge|apply qsn)<;>(first|exact rfl|assumption|exact Ar.mk (by omega)|exact dct (by first|assumption|omega)|exact dcf (by first|assumption|omega)|exact List.not_mem_nil|apply dc_length|apply ec_length|fail))|fail) ?_)
    refine ret1 (Or.inl rfl) Try.results61 (by first | exact ResV.tmp rfl | exact ResV.agg rfl rfl (by assumption) (by first | exact dc_length _ | exact nc_length _ | exact rc_length _ _ _ | exact ec_length _ | exact dl_length _ _ _ _ | rfl) | exact ResV.cell rfl rfl (by assumption)) ?_
    exact ⟨rfl, hk2.trans hk3⟩
set_option maxHeartbeats 16000000 in
/-- Match's comparison. -/
theorem match1_spec {w : World} {b : Nat} {l : List Ofr} {a : Option Addr} {c : Nat} (hr : Row w b 0 [.slice a l.length c]) (hS : Sl ec 21 w a l) (hl : l.length ≤ 1000000000) (o : Ofr) (hf : ∀ x ∈ l, x.Fit) (ho : o.Fit) : Ret Try.prog 60 #[ov o, .pointer (some ⟨b, 0, none⟩)] w (.bool (decide (o ∈ l))) := by
  refine enter2 Try.func60 rfl Try.ntmps60 rfl ?_
  repeat (first|apply CG.seq|apply CG.region|apply SG.nil|apply NG.next|apply CG.skip|apply CG.block|apply CG.ret|apply CG.exit|apply NG.ret_then|apply NG.ret_block|apply NG.exit_then|refine NG.exit_block rfl ?_|apply NG.normal_block|refine SG.val rfl rfl rfl rfl (by first|((first|apply qeo|apply qmv|apply qas|apply qlc|apply qla|apply qix|apply qls|apply qad|apply qln|apply qge|apply qsn)<;>(first|exact rfl|assumption|exact Ar.mk (by omega)|exact dct (by first|assumption|omega)|exact dcf (by first|assumption|omega)|exact List.not_mem_nil|apply dc_length|apply ec_length|fail))|fail) ?_)
  refine SG.box rfl rfl rfl (by exact rho_of rfl) (fun b3 w2 hk2 hb3 hB3 => ?_)
  have hB3 : Blk w2 b3 (.cells (ec o).toArray 47) := hB3
  have hR3 : Row w2 b3 0 (ec o) := Row.all hB3 rfl
  have hr2 := hr.kp0 hk2
  repeat (first|apply CG.seq|apply CG.region|apply SG.nil|apply NG.next|apply CG.skip|apply CG.block|apply CG.ret|apply CG.exit|apply NG.ret_then|apply NG.ret_block|apply NG.exit_then|refine NG.exit_block rfl ?_|apply NG.normal_block|refine SG.val rfl rfl rfl rfl (by first|((first|apply qeo|apply qmv|apply qas|apply qlc|apply qla|apply qix|apply qls|apply qad|apply qln|apply qge|apply qsn)<;>(first|exact rfl|assumption|exact Ar.mk (by omega)|exact dct (by first|assumption|omega)|exact dcf (by first|assumption|omega)|exact List.not_mem_nil|apply dc_length|apply ec_length|fail))|fail) ?_)
  refine SG.ret rfl rfl rfl (vs := [.slice a l.length c, ov o]) (by repeat' (first | exact True.intro | exact rho_of rfl | refine And.intro ?_ ?_)) (contains_spec (c := c) (hS.kp0 hk2) hl o hf ho) (fun w3 hk3 => ?_)
  repeat (first|apply CG.seq|apply CG.region|apply SG.nil|apply NG.next|apply CG.skip|apply CG.block|apply CG.ret|apply CG.exit|apply NG.ret_then|apply NG.ret_block|apply NG.exit_then|refine NG.exit_block rfl ?_|apply NG.normal_block|refine SG.val rfl rfl rfl rfl (by first|((first|apply qeo|apply qmv|apply qas|apply qlc|apply qla|apply qix|apply qls|apply qad|apply qln|apply qge|apply qsn)<;>(first|exact rfl|assumption|exact Ar.mk (by omega)|exact dct (by first|assumption|omega)|exact dcf (by first|assumption|omega)|exact List.not_mem_nil|apply dc_length|apply ec_length|fail))|fail) ?_)
  refine ret1 (Or.inl rfl) Try.results60 (by first | exact ResV.tmp rfl | exact ResV.agg rfl rfl (by assumption) (by first | exact dc_length _ | exact nc_length _ | exact rc_length _ _ _ | exact ec_length _ | exact dl_length _ _ _ _ | rfl) | exact ResV.cell rfl rfl (by assumption)) ?_
  exact ⟨rfl, hk2.trans hk3⟩
set_option maxHeartbeats 16000000 in
theorem oclone_spec {w : World} {a : Option Addr} {l : List Ofr} (c : Nat) (h : Sl ec 21 w a l) (hl : l.length ≤ 100000) : Calls Try.prog 63 #[.slice a l.length c] w (fun e w' => ∃ v, e = .returned v ∧ w'.ownsRow w.heap.size 47 21 v l.length (flt ec l) ∧ Kp [] w w') := by
  refine enter1 Try.func63 rfl Try.ntmps63 rfl ?_
  cases a with
  | none =>
    have hn : l = [] := by
      cases l with
      | nil => rfl
      | cons x l => obtain ⟨b, off, e, _⟩ := h 0 x rfl; cases e
    subst hn
    repeat (first|apply CG.seq|apply CG.region|apply SG.nil|apply NG.next|apply CG.skip|apply CG.block|apply CG.ret|apply CG.exit|apply NG.ret_then|apply NG.ret_block|apply NG.exit_then|refine NG.exit_block rfl ?_|apply NG.normal_block|refine SG.val rfl rfl rfl rfl (by first|((first|apply qeo|apply qmv|apply qas|apply qlc|apply qla|apply qix|apply qls|apply qad|apply qln|apply qge|apply qsn)<;>(first|exact rfl|assumption|exact Ar.mk (by omega)|exact dct (by first|assumption|omega)|exact dcf (by first|assumption|omega)|exact List.not_mem_nil|apply dc_length|apply ec_length|fail))|fail) ?_)
    refine CG.cond_t rfl (by exact rho_of rfl) rfl ?_
    repeat (first|apply CG.seq|apply CG.region|apply SG.nil|apply NG.next|apply CG.skip|apply CG.block|apply CG.ret|apply CG.exit|apply NG.ret_then|apply NG.ret_block|apply NG.exit_then|refine NG.exit_block rfl ?_|apply NG.normal_block|refine SG.val rfl rfl rfl rfl (by first|((first|apply qeo|apply qmv|apply qas|apply qlc|apply qla|apply qix|apply qls|apply qad|apply qln|apply qge|apply qsn)<;>(first|exact rfl|assumption|exact Ar.mk (by omega)|exact dct (by first|assumption|omega)|exact dcf (by first|assumption|omega)|exact List.not_mem_nil|apply dc_length|apply ec_length|fail))|fail) ?_)
    refine ret1 (Or.inl rfl) Try.results63 (by first | exact ResV.tmp rfl | exact ResV.agg rfl rfl (by assumption) (by first | exact dc_length _ | exact nc_length _ | exact rc_length _ _ _ | exact ec_length _ | exact dl_length _ _ _ _ | rfl) | exact ResV.cell rfl rfl (by assumption)) ?_
    exact ⟨_, rfl, ⟨rfl, Or.inl ⟨rfl, rfl⟩⟩, Kp.refl _ _⟩
  | some ad =>
    repeat (first|apply CG.seq|apply CG.region|apply SG.nil|apply NG.next|apply CG.skip|apply CG.block|apply CG.ret|apply CG.exit|apply NG.ret_then|apply NG.ret_block|apply NG.exit_then|refine NG.exit_block rfl ?_|apply NG.normal_block|refine SG.val rfl rfl rfl rfl (by first|((first|apply qeo|apply qmv|apply qas|apply qlc|apply qla|apply qix|apply qls|apply qad|apply qln|apply qge|apply qsn)<;>(first|exact rfl|assumption|exact Ar.mk (by omega)|exact dct (by first|assumption|omega)|exact dcf (by first|assumption|omega)|exact List.not_mem_nil|apply dc_length|apply ec_length|fail))|fail) ?_)
    refine CG.cond_f rfl (by exact rho_of rfl) rfl ?_
    repeat (first|apply CG.seq|apply CG.region|apply SG.nil|apply NG.next|apply CG.skip|apply CG.block|apply CG.ret|apply CG.exit|apply NG.ret_then|apply NG.ret_block|apply NG.exit_then|refine NG.exit_block rfl ?_|apply NG.normal_block|refine SG.val rfl rfl rfl rfl (by first|((first|apply qeo|apply qmv|apply qas|apply qlc|apply qla|apply qix|apply qls|apply qad|apply qln|apply qge|apply qsn)<;>(first|exact rfl|assumption|exact Ar.mk (by omega)|exact dct (by first|assumption|omega)|exact dcf (by first|assumption|omega)|exact List.not_mem_nil|apply dc_length|apply ec_length|fail))|fail) ?_)
    refine SG.empty rfl rfl (fun b5 w1 hk1 hb5 hB5 => ?_)
    repeat (first|apply CG.seq|apply CG.region|apply SG.nil|apply NG.next|apply CG.skip|apply CG.block|apply CG.ret|apply CG.exit|apply NG.ret_then|apply NG.ret_block|apply NG.exit_then|refine NG.exit_block rfl ?_|apply NG.normal_block|refine SG.val rfl rfl rfl rfl (by first|((first|apply qeo|apply qmv|apply qas|apply qlc|apply qla|apply qix|apply qls|apply qad|apply qln|apply qge|apply qsn)<;>(first|exact rfl|assumption|exact Ar.mk (by omega)|exact dct (by first|assumption|omega)|exact dcf (by first|assumption|omega)|exact List.not_mem_nil|apply dc_length|apply ec_length|fail))|fail) ?_)
    refine SG.cloneO (m := w.heap.size) rfl rfl rfl ec_length ec_one (by exact rho_of rfl) (by exact rho_of rfl) rfl rfl rfl (by simp only [maxLen]; omega) (by show l.length * 56 ≤ _; omega) hb5 (h.kp0 hk1) hB5 (fun v w2 hk2 ho2 => ?_)
    repeat (first|apply CG.seq|apply CG.region|apply SG.nil|apply NG.next|apply CG.skip|apply CG.block|apply CG.ret|apply CG.exit|apply NG.ret_then|apply NG.ret_block|apply NG.exit_then|refine NG.exit_block rfl ?_|apply NG.normal_block|refine SG.val rfl rfl rfl rfl (by first|((first|apply qeo|apply qmv|apply qas|apply qlc|apply qla|apply qix|apply qls|apply qad|apply qln|apply qge|apply qsn)<;>(first|exact rfl|assumption|exact Ar.mk (by omega)|exact dct (by first|assumption|omega)|exact dcf (by first|assumption|omega)|exact List.not_mem_nil|apply dc_length|apply ec_length|fail))|fail) ?_)
    refine ret1 (Or.inl rfl) Try.results63 (by first | exact ResV.tmp rfl | exact ResV.agg rfl rfl (by assumption) (by first | exact dc_length _ | exact nc_length _ | exact rc_length _ _ _ | exact ec_length _ | exact dl_length _ _ _ _ | rfl) | exact ResV.cell rfl rfl (by assumption)) ?_
    exact ⟨v, rfl, ho2, hk1.trans hk2⟩
end Go.Proofs.Ytnoipmimddoioaa
/-
  All that wait; whom a lobby matches.
-/
namespace Go.Proofs.Ytnoipmimddoioaa
open Go.Proofs Go.Shelf Go.Sort
set_option linter.unusedVariables false

def lateL (now : Int) (l : List Ofr) : List Ofr := l.filter (fun x => !decide (x.till < now))
theorem lateL_le (now : Int) (l : List Ofr) : (lateL now l).length ≤ l.length := List.length_filter_le _ _
theorem deal_found {l t : List Ofr} (h : findD l = some t) (hok : ∀ x ∈ l, x.Ok) : (dealOf t).2 = 0 := by
  obtain ⟨h1, h2, o, v, rfl, h3⟩ := findD_some h
  have e0 : dealOf (o :: v) = if ((o :: v).length : Int) = o.seats then (if (o :: v).all (fun x => decide x.Ok) then (if decide ((o :: v).Pairwise fitP) then (goodDel o.rules (o :: v), 0) else (zDel, 11)) else (zDel, 2)) else (zDel, 3) := rfl
  rw [e0, if_pos h3, if_pos (List.all_eq_true.2 (fun x hx => decide_eq_true (hok x (h1.subset hx)))), if_pos (decide_eq_true h2)]
theorem Lob.new {base : Nat} {w : World} {bt b : Nat} {room : Int} {v : Value} {l : List Ofr} (h : Lob base w bt room v l) (hb : w.heap.size ≤ b) : b ∉ bt :: ownB v := fun hm => by
  rcases List.mem_cons.1 hm with e | e
  · have := h.blk.lt
    omega
  · exact own_out h.own hb e
theorem own_nea {w : World} {base n cap z : Nat} {a : Option Addr} {sz : Nat} {T T' : TypeId} {xs : List Value} {cs : Array Value} (ho : w.ownsRow base T sz (.slice a n cap) n xs) (hT : T' ≠ T) (hz : Blk w z (.cells cs T')) : ∀ b off, a = some ⟨b, off, none⟩ → b ∉ [z] := by
  intro b off e
  subst e
  rcases ho.2 with ⟨h, _⟩ | ⟨g, c, cur, h, _⟩
  · cases h
  · cases h
    exact own_neb ho hT hz b rfl
theorem own_geB {w : World} {base n : Nat} {v : Value} {sz : Nat} {T : TypeId} {xs : List Value} (ho : w.ownsRow base T sz v n xs) : ∀ b, v.ownBlock = some b → base ≤ b := by
  intro b hb
  rcases ho.2 with ⟨rfl, _⟩ | ⟨g', c, cur, rfl, hg, _⟩
  · cases hb
  · cases hb
    exact hg
theorem own_ge {w : World} {base n cap g : Nat} {sz : Nat} {T : TypeId} {xs : List Value} (ho : w.ownsRow base T sz (.slice (some ⟨g, 0, none⟩) n cap) n xs) : base ≤ g := by
  rcases ho.2 with ⟨h, _⟩ | ⟨g', c, cur, h, hb, _⟩
  · cases h
  · cases h
    exact hb
theorem findD_step {l : List Ofr} {i : Nat} (h : i < l.length) : findD (l.drop i) = match grab l[i].seats [l[i]] (l.drop (i + 1)) with
    | some t => some t
    | none => findD (l.drop (i + 1)) := by
  rw [List.drop_eq_getElem_cons h]
  rfl

attribute [local irreducible] CG NG SG Vals Der Row Blk MapIs IterAt addI xorI orI andI shlI shrI mulI twoI cmpD cmpW kW digO manyI mixD sortK maxs dealOf
set_option maxHeartbeats 16000000 in
theorem all2_spec {w : World} {base bt : Nat} {room : Int} {v : Value} {l : List Ofr} (now : Int) (hL : Lob base w bt room v l) (hl : l.length ≤ 100000) : Calls Try.prog 31 #[.pointer (some ⟨bt, 0, none⟩), .int .i64 now] w (fun e w' => ∃ v', e = .returned v' ∧ w'.ownsRow w.heap.size 47 21 v' (lateL now l).length (flt ec (lateL now l)) ∧ Kp [] w w') := by
  refine enter2 Try.func31 rfl Try.ntmps31 rfl ?_
  obtain ⟨a, c, rfl, hc, hS⟩ := Sl.own ec_length hL.own rfl
  obtain ⟨r0, r1⟩ := hL.rows
  repeat (first|apply CG.seq|apply CG.region|apply SG.nil|apply NG.next|apply CG.skip|apply CG.block|apply CG.ret|apply CG.exit|apply CG.scope|apply NG.ret_then|apply NG.ret_scope|apply NG.exit_then|refine NG.exit_block rfl ?_|refine NG.exit_other rfl ?_|apply NG.normal_block|refine SG.val rfl rfl rfl rfl (by first|((first|apply qmf|apply qep|apply qmv|apply qas|apply qlc|apply qla|apply qfa|apply qnc|apply qix|apply qls|apply qei|apply qni|apply qad|apply qln|apply qxt|apply qnt|apply qep|apply qfr|apply qsn)<;>(first|exact rfl|assumption|exact Ar.mk (by omega)|exact dct (by first|assumption|omega)|exact dcf (by first|assumption|omega)|exact List.not_mem_nil|apply dc_length|apply ec_length|apply dl_length|exact nm1 (by omega)|fail))|fail) ?_)
  refine CG.cond_f rfl (by exact rho_of rfl) rfl ?_
  repeat (first|apply CG.seq|apply CG.region|apply SG.nil|apply NG.next|apply CG.skip|apply CG.block|apply CG.ret|apply CG.exit|apply CG.scope|apply NG.ret_then|apply NG.ret_scope|apply NG.exit_then|refine NG.exit_block rfl ?_|refine NG.exit_other rfl ?_|apply NG.normal_block|refine SG.val rfl rfl rfl rfl (by first|((first|apply qmf|apply qep|apply qmv|apply qas|apply qlc|apply qla|apply qfa|apply qnc|apply qix|apply qls|apply qei|apply qni|apply qad|apply qln|apply qxt|apply qnt|apply qep|apply qfr|apply qsn)<;>(first|exact rfl|assumption|exact Ar.mk (by omega)|exact dct (by first|assumption|omega)|exact dcf (by first|assumption|omega)|exact List.not_mem_nil|apply dc_length|apply ec_length|apply dl_length|exact nm1 (by omega)|fail))|fail) ?_)
  refine SG.call rfl rfl rfl (vs := [.slice a l.length c]) (by repeat' (first | exact True.intro | exact rho_of rfl | refine And.intro ?_ ?_)) ((oclone_spec c hS hl).mono (fun e w1 hh => ?_))
  obtain ⟨v1, he, ho1, hk1⟩ := hh
  refine ⟨_, he, ?_⟩
  repeat (first|apply CG.seq|apply CG.region|apply SG.nil|apply NG.next|apply CG.skip|apply CG.block|apply CG.ret|apply CG.exit|apply CG.scope|apply NG.ret_then|apply NG.ret_scope|apply NG.exit_then|refine NG.exit_block rfl ?_|refine NG.exit_other rfl ?_|apply NG.normal_block|refine SG.val rfl rfl rfl rfl (by first|((first|apply qmf|apply qep|apply qmv|apply qas|apply qlc|apply qla|apply qfa|apply qnc|apply qix|apply qls|apply qei|apply qni|apply qad|apply qln|apply qxt|apply qnt|apply qep|apply qfr|apply qsn)<;>(first|exact rfl|assumption|exact Ar.mk (by omega)|exact dct (by first|assumption|omega)|exact dcf (by first|assumption|omega)|exact List.not_mem_nil|apply dc_length|apply ec_length|apply dl_length|exact nm1 (by omega)|fail))|fail) ?_)
  refine SG.call rfl rfl rfl (vs := [.int .i64 now]) (by repeat' (first | exact True.intro | exact rho_of rfl | refine And.intro ?_ ?_)) ((late_spec now w1).mono (fun e w2 hh => ?_))
  obtain ⟨b2, he, hk2, hb2, hr2⟩ := hh
  refine ⟨_, he, ?_⟩
  have ho2 := own_kp0 ho1 hk2
  have hn2 := own_out (b := b2) ho1 hb2
  repeat (first|apply CG.seq|apply CG.region|apply SG.nil|apply NG.next|apply CG.skip|apply CG.block|apply CG.ret|apply CG.exit|apply CG.scope|apply NG.ret_then|apply NG.ret_scope|apply NG.exit_then|refine NG.exit_block rfl ?_|refine NG.exit_other rfl ?_|apply NG.normal_block|refine SG.val rfl rfl rfl rfl (by first|((first|apply qmf|apply qep|apply qmv|apply qas|apply qlc|apply qla|apply qfa|apply qnc|apply qix|apply qls|apply qei|apply qni|apply qad|apply qln|apply qxt|apply qnt|apply qep|apply qfr|apply qsn)<;>(first|exact rfl|assumption|exact Ar.mk (by omega)|exact dct (by first|assumption|omega)|exact dcf (by first|assumption|omega)|exact List.not_mem_nil|apply dc_length|apply ec_length|apply dl_length|exact nm1 (by omega)|fail))|fail) ?_)
  refine SG.call rfl rfl rfl (vs := [v1, fnv 82 [.pointer (some ⟨b2, 0, none⟩)]]) (by repeat' (first | exact True.intro | exact rho_of rfl | refine And.intro ?_ ?_)) ((delf_spec (p := fun x => decide (x.till < now)) ho2 (by omega) (fun x hx W hk => late1_spec (hr2.kp hk hn2) x)).mono (fun e w3 hh => ?_))
  obtain ⟨v3, he, ho3, hk3, hv3⟩ := hh
  refine ⟨_, he, ?_⟩
  repeat (first|apply CG.seq|apply CG.region|apply SG.nil|apply NG.next|apply CG.skip|apply CG.block|apply CG.ret|apply CG.exit|apply CG.scope|apply NG.ret_then|apply NG.ret_scope|apply NG.exit_then|refine NG.exit_block rfl ?_|refine NG.exit_other rfl ?_|apply NG.normal_block|refine SG.val rfl rfl rfl rfl (by first|((first|apply qmf|apply qep|apply qmv|apply qas|apply qlc|apply qla|apply qfa|apply qnc|apply qix|apply qls|apply qei|apply qni|apply qad|apply qln|apply qxt|apply qnt|apply qep|apply qfr|apply qsn)<;>(first|exact rfl|assumption|exact Ar.mk (by omega)|exact dct (by first|assumption|omega)|exact dcf (by first|assumption|omega)|exact List.not_mem_nil|apply dc_length|apply ec_length|apply dl_length|exact nm1 (by omega)|fail))|fail) ?_)
  refine ret1 (Or.inl rfl) Try.results31 (by first | exact ResV.tmp rfl | exact ResV.agg rfl rfl (by assumption) (by first | exact dc_length _ | exact nc_length _ | exact rc_length _ _ _ | exact ec_length _ | exact dl_length _ _ _ _ | rfl) | exact ResV.cell rfl rfl (by assumption)) ?_
  exact ⟨v3, rfl, ho3, (hk1.trans hk2).trans_new hk3 (own_new ho2 (Nat.le_refl _))⟩

set_option maxHeartbeats 32000000 in
theorem match_spec {w : World} {base bt : Nat} {room : Int} {v : Value} {l : List Ofr} (now : Int) (hL : Lob base w bt room v l) (hl : l.length ≤ 1000) (hok : ∀ x ∈ l, x.Ok) : Calls Try.prog 30 #[.pointer (some ⟨bt, 0, none⟩), .int .i64 now] w (fun e w' =>
    (findD (lateL now l) = none ∧ e = .returned (.tuple #[dealV zd (.slice none 0 0) 0 0, .slice none 0 0, .bool false]) ∧ Kp [] w w') ∨
    ∃ t vd vt v', findD (lateL now l) = some t ∧ e = .returned (.tuple #[vd, vt, .bool true]) ∧ DealAt w w' 24 vd (dealOf t).1 ∧ w'.ownsRow w.heap.size 47 21 vt t.length (flt ec t) ∧ Kp (bt :: ownB v) w w' ∧ Lob base w' bt room v' (l.filter (fun x => !decide (x ∈ t))) ∧ ∀ b, v'.ownBlock = some b → v.ownBlock = some b) := by
  refine enter2 Try.func30 rfl Try.ntmps30 rfl ?_
  have hKl := lateL_le now l
  have hKok : ∀ x ∈ lateL now l, x.Ok := fun x hx => hok x (List.mem_filter.1 hx).1
  have hall := fun W (h : Kp [] w W) => all2_spec now (hL.kp0 h) (by omega)
  generalize lateL now l = K at hKl hKok hall
  have hfd := fun t (h : findD K = some t) => deal_found h hKok
  have hsub := fun t h => (findD_some (l := K) (u := t) h).1
  repeat (first|apply CG.seq|apply CG.region|apply SG.nil|apply NG.next|apply CG.skip|apply CG.block|apply CG.ret|apply CG.exit|apply CG.scope|apply NG.ret_then|apply NG.ret_scope|apply NG.exit_then|refine NG.exit_block rfl ?_|refine NG.exit_other rfl ?_|apply NG.normal_block|refine SG.val rfl rfl rfl rfl (by first|((first|apply qmf|apply qep|apply qmv|apply qas|apply qlc|apply qla|apply qfa|apply qnc|apply qix|apply qls|apply qei|apply qni|apply qad|apply qln|apply qxt|apply qnt|apply qep|apply qfr|apply qsn)<;>(first|exact rfl|assumption|exact Ar.mk (by omega)|exact dct (by first|assumption|omega)|exact dcf (by first|assumption|omega)|exact List.not_mem_nil|apply dc_length|apply ec_length|apply dl_length|exact nm1 (by omega)|fail))|fail) ?_)
  refine SG.alloc rfl rfl rfl (fun b4 w1 hk1 hb4 hB4 => ?_)
  have hB4 : Blk w1 b4 (.cells (dl zd (.slice none 0 0) 0 0).toArray 27) := hB4
  have l41 := hB4.lt
  repeat (first|apply CG.seq|apply CG.region|apply SG.nil|apply NG.next|apply CG.skip|apply CG.block|apply CG.ret|apply CG.exit|apply CG.scope|apply NG.ret_then|apply NG.ret_scope|apply NG.exit_then|refine NG.exit_block rfl ?_|refine NG.exit_other rfl ?_|apply NG.normal_block|refine SG.val rfl rfl rfl rfl (by first|((first|apply qmf|apply qep|apply qmv|apply qas|apply qlc|apply qla|apply qfa|apply qnc|apply qix|apply qls|apply qei|apply qni|apply qad|apply qln|apply qxt|apply qnt|apply qep|apply qfr|apply qsn)<;>(first|exact rfl|assumption|exact Ar.mk (by omega)|exact dct (by first|assumption|omega)|exact dcf (by first|assumption|omega)|exact List.not_mem_nil|apply dc_length|apply ec_length|apply dl_length|exact nm1 (by omega)|fail))|fail) ?_)
  refine CG.cond_f rfl (by exact rho_of rfl) rfl ?_
  repeat (first|apply CG.seq|apply CG.region|apply SG.nil|apply NG.next|apply CG.skip|apply CG.block|apply CG.ret|apply CG.exit|apply CG.scope|apply NG.ret_then|apply NG.ret_scope|apply NG.exit_then|refine NG.exit_block rfl ?_|refine NG.exit_other rfl ?_|apply NG.normal_block|refine SG.val rfl rfl rfl rfl (by first|((first|apply qmf|apply qep|apply qmv|apply qas|apply qlc|apply qla|apply qfa|apply qnc|apply qix|apply qls|apply qei|apply qni|apply qad|apply qln|apply qxt|apply qnt|apply qep|apply qfr|apply qsn)<;>(first|exact rfl|assumption|exact Ar.mk (by omega)|exact dct (by first|assumption|omega)|exact dcf (by first|assumption|omega)|exact List.not_mem_nil|apply dc_length|apply ec_length|apply dl_length|exact nm1 (by omega)|fail))|fail) ?_)
  refine SG.alloc rfl rfl rfl (fun b7 w2 hk2 hb7 hB7 => ?_)
  have hB7 : Blk w2 b7 (.cells #[.slice none 0 0] 31) := hB7
  have hB4 := hB4.kp0 hk2
  repeat (first|apply CG.seq|apply CG.region|apply SG.nil|apply NG.next|apply CG.skip|apply CG.block|apply CG.ret|apply CG.exit|apply CG.scope|apply NG.ret_then|apply NG.ret_scope|apply NG.exit_then|refine NG.exit_block rfl ?_|refine NG.exit_other rfl ?_|apply NG.normal_block|refine SG.val rfl rfl rfl rfl (by first|((first|apply qmf|apply qep|apply qmv|apply qas|apply qlc|apply qla|apply qfa|apply qnc|apply qix|apply qls|apply qei|apply qni|apply qad|apply qln|apply qxt|apply qnt|apply qep|apply qfr|apply qsn)<;>(first|exact rfl|assumption|exact Ar.mk (by omega)|exact dct (by first|assumption|omega)|exact dcf (by first|assumption|omega)|exact List.not_mem_nil|apply dc_length|apply ec_length|apply dl_length|exact nm1 (by omega)|fail))|fail) ?_)
  refine SG.call rfl rfl rfl (vs := [.pointer (some ⟨bt, 0, none⟩), .int .i64 now]) (by repeat' (first | exact True.intro | exact rho_of rfl | refine And.intro ?_ ?_)) ((hall w2 (hk1.trans hk2)).mono (fun e w3 hh => ?_))
  obtain ⟨vo, he, hoo, hk3⟩ := hh
  refine ⟨_, he, ?_⟩
  have hB4 := hB4.kp0 hk3
  have hB7 := hB7.kp0 hk3
  have k3 := (hk1.trans hk2).trans hk3
  have s1 := hk1.size
  have s2 := hk2.size
  have s3 := hk3.size
  have l4 := hB4.lt
  have l7 := hB7.lt
  have hoo3 := hoo
  obtain ⟨ao, co, rfl, hco, hSo⟩ := Sl.own ec_length hoo rfl
  have hao7 : ∀ b off, ao = some ⟨b, off, none⟩ → b ∉ [b7] := own_nea hoo (by decide) hB7
  have hE4 := hB4
  clear hall hoo hk1 hk2 hk3
  repeat (first|apply CG.seq|apply CG.region|apply SG.nil|apply NG.next|apply CG.skip|apply CG.block|apply CG.ret|apply CG.exit|apply CG.scope|apply NG.ret_then|apply NG.ret_scope|apply NG.exit_then|refine NG.exit_block rfl ?_|refine NG.exit_other rfl ?_|apply NG.normal_block|refine SG.val rfl rfl rfl rfl (by first|((first|apply qmf|apply qep|apply qmv|apply qas|apply qlc|apply qla|apply qfa|apply qnc|apply qix|apply qls|apply qei|apply qni|apply qad|apply qln|apply qxt|apply qnt|apply qep|apply qfr|apply qsn)<;>(first|exact rfl|assumption|exact Ar.mk (by omega)|exact dct (by first|assumption|omega)|exact dcf (by first|assumption|omega)|exact List.not_mem_nil|apply dc_length|apply ec_length|apply dl_length|exact nm1 (by omega)|fail))|fail) ?_)
  refine CG.label ?_
  repeat (first|apply CG.seq|apply CG.region|apply SG.nil|apply NG.next|apply CG.skip|apply CG.block|apply CG.ret|apply CG.exit|apply CG.scope|apply NG.ret_then|apply NG.ret_scope|apply NG.exit_then|refine NG.exit_block rfl ?_|refine NG.exit_other rfl ?_|apply NG.normal_block|refine SG.val rfl rfl rfl rfl (by first|((first|apply qmf|apply qep|apply qmv|apply qas|apply qlc|apply qla|apply qfa|apply qnc|apply qix|apply qls|apply qei|apply qni|apply qad|apply qln|apply qxt|apply qnt|apply qep|apply qfr|apply qsn)<;>(first|exact rfl|assumption|exact Ar.mk (by omega)|exact dct (by first|assumption|omega)|exact dcf (by first|assumption|omega)|exact List.not_mem_nil|apply dc_length|apply ec_length|apply dl_length|exact nm1 (by omega)|fail))|fail) ?_)
  refine CG.loop (X := Nat) (fun i => [(0, .pointer (some ⟨bt, 0, none⟩)), (4, .pointer (some ⟨b4, 0, none⟩)), (7, .pointer (some ⟨b7, 0, none⟩)), (8, .slice ao K.length co), (21, .slice ao K.length co), (22, .int .i64 (K.length : Int)), (23, .int .i64 (i : Int))])
    (fun i w' => i ≤ K.length ∧ Kp [b7] w3 w' ∧ Blk w' b7 (.cells #[.slice none 0 0] 31) ∧ findD (K.drop i) = findD K) (fun i => K.length - i) 0 ⟨by omega, Kp.refl _ _, hB7, rfl⟩ (by (repeat' (first | exact True.intro | exact rfl | refine And.intro ?_ ?_))) ?_
  rintro i w4 ⟨hi, hk4, hB7, hfi⟩
  have hB4 := hB4.kp hk4 (nm1 (by omega))
  have k4 : Kp [] w w4 := k3.trans_new hk4 (new1 (by omega))
  have s4 := hk4.size
  by_cases hlt : i < K.length
  · have g1 : (i : Int) < (K.length : Int) := by omega
    obtain ⟨bz, oz, rfl, hrz⟩ := (hSo.kp hk4 hao7).at hlt
    rw [findD_step hlt] at hfi
    generalize hfo : K[i] = fo at hrz hfi
    repeat (first|apply CG.seq|apply CG.region|apply SG.nil|apply NG.next|apply CG.skip|apply CG.block|apply CG.ret|apply CG.exit|apply CG.scope|apply NG.ret_then|apply NG.ret_scope|apply NG.exit_then|refine NG.exit_block rfl ?_|refine NG.exit_other rfl ?_|apply NG.normal_block|refine SG.val rfl rfl rfl rfl (by first|((first|apply qmf|apply qep|apply qmv|apply qas|apply qlc|apply qla|apply qfa|apply qnc|apply qix|apply qls|apply qei|apply qni|apply qad|apply qln|apply qxt|apply qnt|apply qep|apply qfr|apply qsn)<;>(first|exact rfl|assumption|exact Ar.mk (by omega)|exact dct (by first|assumption|omega)|exact dcf (by first|assumption|omega)|exact List.not_mem_nil|apply dc_length|apply ec_length|apply dl_length|exact nm1 (by omega)|fail))|fail) ?_)
    refine CG.cond_t rfl (by exact rho_of rfl) rfl ?_
    repeat (first|apply CG.seq|apply CG.region|apply SG.nil|apply NG.next|apply CG.skip|apply CG.block|apply CG.ret|apply CG.exit|apply CG.scope|apply NG.ret_then|apply NG.ret_scope|apply NG.exit_then|refine NG.exit_block rfl ?_|refine NG.exit_other rfl ?_|apply NG.normal_block|refine SG.val rfl rfl rfl rfl (by first|((first|apply qmf|apply qep|apply qmv|apply qas|apply qlc|apply qla|apply qfa|apply qnc|apply qix|apply qls|apply qei|apply qni|apply qad|apply qln|apply qxt|apply qnt|apply qep|apply qfr|apply qsn)<;>(first|exact rfl|assumption|exact Ar.mk (by omega)|exact dct (by first|assumption|omega)|exact dcf (by first|assumption|omega)|exact List.not_mem_nil|apply dc_length|apply ec_length|apply dl_length|exact nm1 (by omega)|fail))|fail) ?_)
    refine SG.alloc rfl rfl rfl (fun b10 w5 hk5 hb10 hB10 => ?_)
    repeat (first|apply CG.seq|apply CG.region|apply SG.nil|apply NG.next|apply CG.skip|apply CG.block|apply CG.ret|apply CG.exit|apply CG.scope|apply NG.ret_then|apply NG.ret_scope|apply NG.exit_then|refine NG.exit_block rfl ?_|refine NG.exit_other rfl ?_|apply NG.normal_block|refine SG.val rfl rfl rfl rfl (by first|((first|apply qmf|apply qep|apply qmv|apply qas|apply qlc|apply qla|apply qfa|apply qnc|apply qix|apply qls|apply qei|apply qni|apply qad|apply qln|apply qxt|apply qnt|apply qep|apply qfr|apply qsn)<;>(first|exact rfl|assumption|exact Ar.mk (by omega)|exact dct (by first|assumption|omega)|exact dcf (by first|assumption|omega)|exact List.not_mem_nil|apply dc_length|apply ec_length|apply dl_length|exact nm1 (by omega)|fail))|fail) ?_)
    refine SG.setAll (l := ec fo) rfl rfl (by exact rho_of rfl) (by exact rho_of rfl) hB10 (ec_length _) rfl (ec_one _) (fun w6 hk6 hB10 => ?_)
    have hB10 : Blk w6 b10 (.cells (ec fo).toArray 47) := hB10
    have hR10 : Row w6 b10 0 (ec fo) := Row.all hB10 rfl
    have k46 : Kp [] w4 w6 := hk5.trans_new hk6 (new1 (by omega))
    clear hrz
    repeat (first|apply CG.seq|apply CG.region|apply SG.nil|apply NG.next|apply CG.skip|apply CG.block|apply CG.ret|apply CG.exit|apply CG.scope|apply NG.ret_then|apply NG.ret_scope|apply NG.exit_then|refine NG.exit_block rfl ?_|refine NG.exit_other rfl ?_|apply NG.normal_block|refine SG.val rfl rfl rfl rfl (by first|((first|apply qmf|apply qep|apply qmv|apply qas|apply qlc|apply qla|apply qfa|apply qnc|apply qix|apply qls|apply qei|apply qni|apply qad|apply qln|apply qxt|apply qnt|apply qep|apply qfr|apply qsn)<;>(first|exact rfl|assumption|exact Ar.mk (by omega)|exact dct (by first|assumption|omega)|exact dcf (by first|assumption|omega)|exact List.not_mem_nil|apply dc_length|apply ec_length|apply dl_length|exact nm1 (by omega)|fail))|fail) ?_)
    refine SG.buildSlice rfl rfl rfl rfl (bso _) (fun bs w7 hk7 hbs hBs => ?_)
    have s46 := k46.size
    have s7 := hk7.size
    have l10 := hB10.lt
    have hB7' := (hB7.kp0 k46).kp0 hk7
    repeat (first|apply CG.seq|apply CG.region|apply SG.nil|apply NG.next|apply CG.skip|apply CG.block|apply CG.ret|apply CG.exit|apply CG.scope|apply NG.ret_then|apply NG.ret_scope|apply NG.exit_then|refine NG.exit_block rfl ?_|refine NG.exit_other rfl ?_|apply NG.normal_block|refine SG.val rfl rfl rfl rfl (by first|((first|apply qmf|apply qep|apply qmv|apply qas|apply qlc|apply qla|apply qfa|apply qnc|apply qix|apply qls|apply qei|apply qni|apply qad|apply qln|apply qxt|apply qnt|apply qep|apply qfr|apply qsn)<;>(first|exact rfl|assumption|exact Ar.mk (by omega)|exact dct (by first|assumption|omega)|exact dcf (by first|assumption|omega)|exact List.not_mem_nil|apply dc_length|apply ec_length|apply dl_length|exact nm1 (by omega)|fail))|fail) ?_)
    refine SG.store rfl rfl (by exact rho_of rfl) (by exact rho_of rfl) hB7' rfl (by show 0 + 1 ≤ 1; omega) rfl (fun w8 hk8 hB7 => ?_)
    have hB7 : Blk w8 b7 (.cells #[.slice (some ⟨bs, 0, none⟩) 1 1] 31) := hB7
    have hos : w8.ownsRow w6.heap.size 47 21 (.slice (some ⟨bs, 0, none⟩) 1 1) [fo].length (flt ec [fo]) := by
      have : Blk w7 bs (.cells (flt ec [fo]).toArray 47) := by rw [flt_one]; exact hBs
      have := own_made (base := w6.heap.size) ec_length this hbs (n := 1) rfl (by simp [maxLen])
      exact own_kp this hk8 (own_neb this (by decide) hB7')
    have s8 := hk8.size
    have hk38 : Kp [b7] w3 w8 := ((hk4.trans k46.any).trans hk7.any).trans hk8
    have hB10 := (hB10.kp0 hk7).kp hk8 (nm1 (by omega))
    have k8 := (k46.trans hk7)
    clear hk7 k46 hk6 hk5 hR10 hBs hB7' hbs
    repeat (first|apply CG.seq|apply CG.region|apply SG.nil|apply NG.next|apply CG.skip|apply CG.block|apply CG.ret|apply CG.exit|apply CG.scope|apply NG.ret_then|apply NG.ret_scope|apply NG.exit_then|refine NG.exit_block rfl ?_|refine NG.exit_other rfl ?_|apply NG.normal_block|refine SG.val rfl rfl rfl rfl (by first|((first|apply qmf|apply qep|apply qmv|apply qas|apply qlc|apply qla|apply qfa|apply qnc|apply qix|apply qls|apply qei|apply qni|apply qad|apply qln|apply qxt|apply qnt|apply qep|apply qfr|apply qsn)<;>(first|exact rfl|assumption|exact Ar.mk (by omega)|exact dct (by first|assumption|omega)|exact dcf (by first|assumption|omega)|exact List.not_mem_nil|apply dc_length|apply ec_length|apply dl_length|exact nm1 (by omega)|fail))|fail) ?_)
    refine SG.val rfl rfl rfl rfl (qfr (j := i + 1) rfl rfl (by omega) (Ar.mk (by omega))) ?_
    repeat (first|apply CG.seq|apply CG.region|apply SG.nil|apply NG.next|apply CG.skip|apply CG.block|apply CG.ret|apply CG.exit|apply CG.scope|apply NG.ret_then|apply NG.ret_scope|apply NG.exit_then|refine NG.exit_block rfl ?_|refine NG.exit_other rfl ?_|apply NG.normal_block|refine SG.val rfl rfl rfl rfl (by first|((first|apply qmf|apply qep|apply qmv|apply qas|apply qlc|apply qla|apply qfa|apply qnc|apply qix|apply qls|apply qei|apply qni|apply qad|apply qln|apply qxt|apply qnt|apply qep|apply qfr|apply qsn)<;>(first|exact rfl|assumption|exact Ar.mk (by omega)|exact dct (by first|assumption|omega)|exact dcf (by first|assumption|omega)|exact List.not_mem_nil|apply dc_length|apply ec_length|apply dl_length|exact nm1 (by omega)|fail))|fail) ?_)
    refine CG.loop (X := Value × List Ofr × Nat) (fun x => [(0, .pointer (some ⟨bt, 0, none⟩)), (4, .pointer (some ⟨b4, 0, none⟩)), (7, .pointer (some ⟨b7, 0, none⟩)), (8, .slice (some ⟨bz, oz, none⟩) K.length co), (21, .slice (some ⟨bz, oz, none⟩) K.length co), (22, .int .i64 (K.length : Int)), (23, .int .i64 (i : Int)), (10, .pointer (some ⟨b10, 0, none⟩)), (33, .slice (some ⟨bz, if co = i + 1 then oz else oz + (i + 1) * 21, none⟩) (K.length - (i + 1)) (co - (i + 1))), (34, .int .i64 ((K.length - (i + 1) : Nat) : Int)), (35, .int .i64 (x.2.2 : Int))])
      (fun x w' => x.2.2 ≤ K.length - (i + 1) ∧ x.2.1.length ≤ x.2.2 + 1 ∧ Kp [b7] w3 w' ∧ w8.heap.size ≤ w'.heap.size ∧ Blk w' b10 (.cells (ec fo).toArray 47) ∧ Blk w' b7 (.cells #[x.1] 31) ∧ w'.ownsRow w6.heap.size 47 21 x.1 x.2.1.length (flt ec x.2.1) ∧
        (match grab fo.seats x.2.1 (K.drop (i + 1 + x.2.2)) with | some t => some t | none => findD (K.drop (i + 1))) = findD K) (fun x => K.length - x.2.2) (.slice (some ⟨bs, 0, none⟩) 1 1, [fo], 0) ⟨Nat.zero_le _, Nat.le_refl _, hk38, Nat.le_refl _, hB10, hB7, hos, hfi⟩ (by (repeat' (first | exact True.intro | exact rfl | refine And.intro ?_ ?_))) ?_
    clear hB7 hos hk38 hB10 hfi
    rintro ⟨tv, t, j⟩ w9 ⟨hj, htj, hk9, s9, hB10, hB7, hot, hgr⟩
    simp only at hj htj hB7 hot hgr
    refine CG.to [(0, .pointer (some ⟨bt, 0, none⟩)), (4, .pointer (some ⟨b4, 0, none⟩)), (7, .pointer (some ⟨b7, 0, none⟩)), (8, .slice (some ⟨bz, oz, none⟩) K.length co), (21, .slice (some ⟨bz, oz, none⟩) K.length co), (22, .int .i64 (K.length : Int)), (23, .int .i64 (i : Int)), (10, .pointer (some ⟨b10, 0, none⟩)), (33, .slice (some ⟨bz, if co = i + 1 then oz else oz + (i + 1) * 21, none⟩) (K.length - (i + 1)) (co - (i + 1))), (34, .int .i64 ((K.length - (i + 1) : Nat) : Int)), (35, .int .i64 (j : Int))] (by (repeat' (first | exact True.intro | exact rfl | refine And.intro ?_ ?_))) ?_
    by_cases hjt : j < K.length - (i + 1)
    · have g2 : (j : Int) < ((K.length - (i + 1) : Nat) : Int) := by omega
      have hik : i + 1 + j < K.length := by omega
      have hrj := (hSo.kp hk9 hao7).row (List.getElem?_eq_getElem hik)
      have eo : oz + (i + 1 + j) * 21 = (if co = i + 1 then oz else oz + (i + 1) * 21) + j * 21 := by
        rw [if_neg (by omega), Nat.add_mul (i + 1) j 21]
        omega
      rw [eo] at hrj
      rw [List.drop_eq_getElem_cons hik] at hgr
      have hokj := hKok _ (List.getElem_mem hik)
      generalize K[i + 1 + j] = oj at hrj hgr hokj
      generalize (if co = i + 1 then oz else oz + (i + 1) * 21) = ofs at hrj
      obtain ⟨tva, tvc, rfl, htc, hSt⟩ := Sl.own ec_length hot rfl
      have hR7 : Row w9 b7 0 [.slice tva t.length tvc] := Row.all hB7 rfl
      repeat (first|apply CG.seq|apply CG.region|apply SG.nil|apply NG.next|apply CG.skip|apply CG.block|apply CG.ret|apply CG.exit|apply CG.scope|apply NG.ret_then|apply NG.ret_scope|apply NG.exit_then|refine NG.exit_block rfl ?_|refine NG.exit_other rfl ?_|apply NG.normal_block|refine SG.val rfl rfl rfl rfl (by first|((first|apply qmf|apply qep|apply qmv|apply qas|apply qlc|apply qla|apply qfa|apply qnc|apply qix|apply qls|apply qei|apply qni|apply qad|apply qln|apply qxt|apply qnt|apply qep|apply qfr|apply qsn)<;>(first|exact rfl|assumption|exact Ar.mk (by omega)|exact dct (by first|assumption|omega)|exact dcf (by first|assumption|omega)|exact List.not_mem_nil|apply dc_length|apply ec_length|apply dl_length|exact nm1 (by omega)|fail))|fail) ?_)
      refine CG.cond_t rfl (by exact rho_of rfl) rfl ?_
      repeat (first|apply CG.seq|apply CG.region|apply SG.nil|apply NG.next|apply CG.skip|apply CG.block|apply CG.ret|apply CG.exit|apply CG.scope|apply NG.ret_then|apply NG.ret_scope|apply NG.exit_then|refine NG.exit_block rfl ?_|refine NG.exit_other rfl ?_|apply NG.normal_block|refine SG.val rfl rfl rfl rfl (by first|((first|apply qmf|apply qep|apply qmv|apply qas|apply qlc|apply qla|apply qfa|apply qnc|apply qix|apply qls|apply qei|apply qni|apply qad|apply qln|apply qxt|apply qnt|apply qep|apply qfr|apply qsn)<;>(first|exact rfl|assumption|exact Ar.mk (by omega)|exact dct (by first|assumption|omega)|exact dcf (by first|assumption|omega)|exact List.not_mem_nil|apply dc_length|apply ec_length|apply dl_length|exact nm1 (by omega)|fail))|fail) ?_)
      refine SG.alloc rfl rfl rfl (fun b12 w10 hk10 hb12 hB12 => ?_)
      refine SG.setAll (l := ec oj) rfl rfl (by exact rho_of rfl) (by exact rho_of rfl) hB12 (ec_length _) rfl (ec_one _) (fun w11 hk11 hB12 => ?_)
      have hB12 : Blk w11 b12 (.cells (ec oj).toArray 47) := hB12
      have hR12 : Row w11 b12 0 (ec oj) := Row.all hB12 rfl
      have k911 : Kp [] w9 w11 := hk10.trans_new hk11 (new1 (by omega))
      have l12 := hB12.lt
      have s911 := k911.size
      have hR7 := hR7.kp0 k911
      clear hrj hB12
      repeat (first|apply CG.seq|apply CG.region|apply SG.nil|apply NG.next|apply CG.skip|apply CG.block|apply CG.ret|apply CG.exit|apply CG.scope|apply NG.ret_then|apply NG.ret_scope|apply NG.exit_then|refine NG.exit_block rfl ?_|refine NG.exit_other rfl ?_|apply NG.normal_block|refine SG.val rfl rfl rfl rfl (by first|((first|apply qmf|apply qep|apply qmv|apply qas|apply qlc|apply qla|apply qfa|apply qnc|apply qix|apply qls|apply qei|apply qni|apply qad|apply qln|apply qxt|apply qnt|apply qep|apply qfr|apply qsn)<;>(first|exact rfl|assumption|exact Ar.mk (by omega)|exact dct (by first|assumption|omega)|exact dcf (by first|assumption|omega)|exact List.not_mem_nil|apply dc_length|apply ec_length|apply dl_length|exact nm1 (by omega)|fail))|fail) ?_)
      refine SG.ret rfl rfl rfl (vs := [.slice tva t.length tvc, ov oj]) (by repeat' (first | exact True.intro | exact rho_of rfl | refine And.intro ?_ ?_)) (fits_spec (c := tvc) (hSt.kp0 k911) (by omega) oj) (fun w12 hk12 => ?_)
      cases ha : t.any (fun x => !decide (fitP x oj)) with
      | true =>
        rw [grab_no ha] at hgr
        repeat (first|apply CG.seq|apply CG.region|apply SG.nil|apply NG.next|apply CG.skip|apply CG.block|apply CG.ret|apply CG.exit|apply CG.scope|apply NG.ret_then|apply NG.ret_scope|apply NG.exit_then|refine NG.exit_block rfl ?_|refine NG.exit_other rfl ?_|apply NG.normal_block|refine SG.val rfl rfl rfl rfl (by first|((first|apply qmf|apply qep|apply qmv|apply qas|apply qlc|apply qla|apply qfa|apply qnc|apply qix|apply qls|apply qei|apply qni|apply qad|apply qln|apply qxt|apply qnt|apply qep|apply qfr|apply qsn)<;>(first|exact rfl|assumption|exact Ar.mk (by omega)|exact dct (by first|assumption|omega)|exact dcf (by first|assumption|omega)|exact List.not_mem_nil|apply dc_length|apply ec_length|apply dl_length|exact nm1 (by omega)|fail))|fail) ?_)
        refine CG.cond_t rfl (by exact rho_of rfl) rfl ?_
        have k12 := k911.trans hk12
        repeat (first|apply CG.seq|apply CG.region|apply SG.nil|apply NG.next|apply CG.skip|apply CG.block|apply CG.ret|apply CG.exit|apply CG.scope|apply NG.ret_then|apply NG.ret_scope|apply NG.exit_then|refine NG.exit_block rfl ?_|refine NG.exit_other rfl ?_|apply NG.normal_block|refine SG.val rfl rfl rfl rfl (by first|((first|apply qmf|apply qep|apply qmv|apply qas|apply qlc|apply qla|apply qfa|apply qnc|apply qix|apply qls|apply qei|apply qni|apply qad|apply qln|apply qxt|apply qnt|apply qep|apply qfr|apply qsn)<;>(first|exact rfl|assumption|exact Ar.mk (by omega)|exact dct (by first|assumption|omega)|exact dcf (by first|assumption|omega)|exact List.not_mem_nil|apply dc_length|apply ec_length|apply dl_length|exact nm1 (by omega)|fail))|fail) ?_)
        refine NG.round (.slice tva t.length tvc, t, j + 1) (by (repeat' (first | exact True.intro | exact rfl | refine And.intro ?_ ?_))) ⟨by simp only; omega, by simp only; omega, hk9.trans k12.any, Nat.le_trans s9 k12.size, hB10.kp0 k12, hB7.kp0 k12, own_kp0 hot k12, hgr⟩ (by simp only; omega)
      | false =>
        have k12 := k911.trans hk12
        have hR7 := hR7.kp0 hk12
        have hR12 := hR12.kp0 hk12
        repeat (first|apply CG.seq|apply CG.region|apply SG.nil|apply NG.next|apply CG.skip|apply CG.block|apply CG.ret|apply CG.exit|apply CG.scope|apply NG.ret_then|apply NG.ret_scope|apply NG.exit_then|refine NG.exit_block rfl ?_|refine NG.exit_other rfl ?_|apply NG.normal_block|refine SG.val rfl rfl rfl rfl (by first|((first|apply qmf|apply qep|apply qmv|apply qas|apply qlc|apply qla|apply qfa|apply qnc|apply qix|apply qls|apply qei|apply qni|apply qad|apply qln|apply qxt|apply qnt|apply qep|apply qfr|apply qsn)<;>(first|exact rfl|assumption|exact Ar.mk (by omega)|exact dct (by first|assumption|omega)|exact dcf (by first|assumption|omega)|exact List.not_mem_nil|apply dc_length|apply ec_length|apply dl_length|exact nm1 (by omega)|fail))|fail) ?_)
        refine CG.cond_f rfl (by exact rho_of rfl) rfl ?_
        repeat (first|apply CG.seq|apply CG.region|apply SG.nil|apply NG.next|apply CG.skip|apply CG.block|apply CG.ret|apply CG.exit|apply CG.scope|apply NG.ret_then|apply NG.ret_scope|apply NG.exit_then|refine NG.exit_block rfl ?_|refine NG.exit_other rfl ?_|apply NG.normal_block|refine SG.val rfl rfl rfl rfl (by first|((first|apply qmf|apply qep|apply qmv|apply qas|apply qlc|apply qla|apply qfa|apply qnc|apply qix|apply qls|apply qei|apply qni|apply qad|apply qln|apply qxt|apply qnt|apply qep|apply qfr|apply qsn)<;>(first|exact rfl|assumption|exact Ar.mk (by omega)|exact dct (by first|assumption|omega)|exact dcf (by first|assumption|omega)|exact List.not_mem_nil|apply dc_length|apply ec_length|apply dl_length|exact nm1 (by omega)|fail))|fail) ?_)
        refine SG.buildSlice rfl rfl rfl rfl (bso _) (fun bs w13 hk13 hbs hBs => ?_)
        have ho13 := own_kp0 (own_kp0 hot k12) hk13
        have k13 := k12.trans hk13
        have s13 := k13.size
        have hBb := (hB7.kp0 k13)
        repeat (first|apply CG.seq|apply CG.region|apply SG.nil|apply NG.next|apply CG.skip|apply CG.block|apply CG.ret|apply CG.exit|apply CG.scope|apply NG.ret_then|apply NG.ret_scope|apply NG.exit_then|refine NG.exit_block rfl ?_|refine NG.exit_other rfl ?_|apply NG.normal_block|refine SG.val rfl rfl rfl rfl (by first|((first|apply qmf|apply qep|apply qmv|apply qas|apply qlc|apply qla|apply qfa|apply qnc|apply qix|apply qls|apply qei|apply qni|apply qad|apply qln|apply qxt|apply qnt|apply qep|apply qfr|apply qsn)<;>(first|exact rfl|assumption|exact Ar.mk (by omega)|exact dct (by first|assumption|omega)|exact dcf (by first|assumption|omega)|exact List.not_mem_nil|apply dc_length|apply ec_length|apply dl_length|exact nm1 (by omega)|fail))|fail) ?_)
        refine SG.appO (enc := ec) (xs := t) (ys := [oj]) (base := w6.heap.size) rfl rfl rfl (by exact rho_of rfl) (by exact rho_of rfl) rfl rfl rfl rfl ec_length ec_one ho13 (sl_one ec_length hBs) (by simp only [maxLen, List.length_cons, List.length_nil]; omega) (by show (t.length + 1) * 56 ≤ _; omega) (by omega) (fun v14 w14 hk14 ho14 hg14 => ?_)
        have hB7 := blk_own ho13 (by decide) hBb hk14
        have hB10 := (hB10.kp0 k13).kp hk14 (own_nb ho13 b10 l10)
        have k14 := (hk9.trans k13.any).trans_new hk14 (own_new ho13 (by omega))
        have s14 := hk14.size
        clear hk14 ho13 hot hBb hBs hR12 hR7 hk13 hg14 hbs hSt k12 k911 hk12 hk11 hk10
        obtain ⟨g, cap, rfl, hcp⟩ := own_slice ho14 (by simp)
        repeat (first|apply CG.seq|apply CG.region|apply SG.nil|apply NG.next|apply CG.skip|apply CG.block|apply CG.ret|apply CG.exit|apply CG.scope|apply NG.ret_then|apply NG.ret_scope|apply NG.exit_then|refine NG.exit_block rfl ?_|refine NG.exit_other rfl ?_|apply NG.normal_block|refine SG.val rfl rfl rfl rfl (by first|((first|apply qmf|apply qep|apply qmv|apply qas|apply qlc|apply qla|apply qfa|apply qnc|apply qix|apply qls|apply qei|apply qni|apply qad|apply qln|apply qxt|apply qnt|apply qep|apply qfr|apply qsn)<;>(first|exact rfl|assumption|exact Ar.mk (by omega)|exact dct (by first|assumption|omega)|exact dcf (by first|assumption|omega)|exact List.not_mem_nil|apply dc_length|apply ec_length|apply dl_length|exact nm1 (by omega)|fail))|fail) ?_)
        refine SG.store rfl rfl (by exact rho_of rfl) (by exact rho_of rfl) hB7 rfl (by show 0 + 1 ≤ 1; omega) rfl (fun w15 hk15 hC7 => ?_)
        have hC7 : Blk w15 b7 (.cells #[.slice (some ⟨g, 0, none⟩) (t ++ [oj]).length cap] 31) := hC7
        have ho15 := own_kp ho14 hk15 (own_neb ho14 (by decide) hB7)
        have hB10 := hB10.kp hk15 (nm1 (by omega))
        have hR7 : Row w15 b7 0 [.slice (some ⟨g, 0, none⟩) (t ++ [oj]).length cap] := Row.all hC7 rfl
        have k15 := k14.trans hk15
        have s15 := hk15.size
        obtain ⟨-, -, rs, -⟩ := ec_rows hB10
        clear hB7 ho14 hk15 k14
        by_cases hs : ((t ++ [oj]).length : Int) = fo.seats
        · rw [grab_end ha hs] at hgr
          have hF : findD K = some (t ++ [oj]) := hgr.symm
          have hul : (t ++ [oj]).length ≤ 1000 := by rw [List.length_append, List.length_singleton]; omega
          have h00 : (0 : Int) = 0 := rfl
          generalize t ++ [oj] = u at hF hul ho15 hC7 hR7 hs hcp
          have hd0 := hfd u hF
          have hul2 := (hsub u hF)
          repeat (first|apply CG.seq|apply CG.region|apply SG.nil|apply NG.next|apply CG.skip|apply CG.block|apply CG.ret|apply CG.exit|apply CG.scope|apply NG.ret_then|apply NG.ret_scope|apply NG.exit_then|refine NG.exit_block rfl ?_|refine NG.exit_other rfl ?_|apply NG.normal_block|refine SG.val rfl rfl rfl rfl (by first|((first|apply qmf|apply qep|apply qmv|apply qas|apply qlc|apply qla|apply qfa|apply qnc|apply qix|apply qls|apply qei|apply qni|apply qad|apply qln|apply qxt|apply qnt|apply qep|apply qfr|apply qsn)<;>(first|exact rfl|assumption|exact Ar.mk (by omega)|exact dct (by first|assumption|omega)|exact dcf (by first|assumption|omega)|exact List.not_mem_nil|apply dc_length|apply ec_length|apply dl_length|exact nm1 (by omega)|fail))|fail) ?_)
          refine CG.cond_t rfl (by exact rho_of rfl) rfl ?_
          repeat (first|apply CG.seq|apply CG.region|apply SG.nil|apply NG.next|apply CG.skip|apply CG.block|apply CG.ret|apply CG.exit|apply CG.scope|apply NG.ret_then|apply NG.ret_scope|apply NG.exit_then|refine NG.exit_block rfl ?_|refine NG.exit_other rfl ?_|apply NG.normal_block|refine SG.val rfl rfl rfl rfl (by first|((first|apply qmf|apply qep|apply qmv|apply qas|apply qlc|apply qla|apply qfa|apply qnc|apply qix|apply qls|apply qei|apply qni|apply qad|apply qln|apply qxt|apply qnt|apply qep|apply qfr|apply qsn)<;>(first|exact rfl|assumption|exact Ar.mk (by omega)|exact dct (by first|assumption|omega)|exact dcf (by first|assumption|omega)|exact List.not_mem_nil|apply dc_length|apply ec_length|apply dl_length|exact nm1 (by omega)|fail))|fail) ?_)
          refine CG.cond_f rfl (by exact rho_of rfl) rfl ?_
          have hS15 : Sl ec 21 w15 (some ⟨g, 0, none⟩) u := by
            obtain ⟨_, _, e, _, h⟩ := Sl.own ec_length ho15 rfl
            cases e
            exact h
          repeat (first|apply CG.seq|apply CG.region|apply SG.nil|apply NG.next|apply CG.skip|apply CG.block|apply CG.ret|apply CG.exit|apply CG.scope|apply NG.ret_then|apply NG.ret_scope|apply NG.exit_then|refine NG.exit_block rfl ?_|refine NG.exit_other rfl ?_|apply NG.normal_block|refine SG.val rfl rfl rfl rfl (by first|((first|apply qmf|apply qep|apply qmv|apply qas|apply qlc|apply qla|apply qfa|apply qnc|apply qix|apply qls|apply qei|apply qni|apply qad|apply qln|apply qxt|apply qnt|apply qep|apply qfr|apply qsn)<;>(first|exact rfl|assumption|exact Ar.mk (by omega)|exact dct (by first|assumption|omega)|exact dcf (by first|assumption|omega)|exact List.not_mem_nil|apply dc_length|apply ec_length|apply dl_length|exact nm1 (by omega)|fail))|fail) ?_)
          refine SG.call rfl rfl rfl (vs := [.slice (some ⟨g, 0, none⟩) u.length cap]) (by repeat' (first | exact True.intro | exact rho_of rfl | refine And.intro ?_ ?_)) ((of2_spec hS15 (by omega) hcp).mono (fun e w16 hh => ?_))
          obtain ⟨vd, he, ⟨sd, rfl, hoD⟩, hk16⟩ := hh
          rw [hd0] at he
          refine ⟨_, he, ?_⟩
          generalize hDe : (dealOf u).1 = D at hoD
          obtain ⟨ad, cd, rfl, hcd, hSd⟩ := Sl.own dc_length hoD rfl
          repeat (first|apply CG.seq|apply CG.region|apply SG.nil|apply NG.next|apply CG.skip|apply CG.block|apply CG.ret|apply CG.exit|apply CG.scope|apply NG.ret_then|apply NG.ret_scope|apply NG.exit_then|refine NG.exit_block rfl ?_|refine NG.exit_other rfl ?_|apply NG.normal_block|refine SG.val rfl rfl rfl rfl (by first|((first|apply qmf|apply qep|apply qmv|apply qas|apply qlc|apply qla|apply qfa|apply qnc|apply qix|apply qls|apply qei|apply qni|apply qad|apply qln|apply qxt|apply qnt|apply qep|apply qfr|apply qsn)<;>(first|exact rfl|assumption|exact Ar.mk (by omega)|exact dct (by first|assumption|omega)|exact dcf (by first|assumption|omega)|exact List.not_mem_nil|apply dc_length|apply ec_length|apply dl_length|exact nm1 (by omega)|fail))|fail) ?_)
          refine SG.alloc rfl rfl rfl (fun b13 w17 hk17 hb13 hB13 => ?_)
          refine SG.setAll (l := dl D.rules (.slice ad D.who.length cd) D.stake D.window) rfl rfl (by exact rho_of rfl) (by exact rho_of rfl) hB13 (dl_length _ _ _ _) rfl (dl_one _ _ _ _ _ _) (fun w18 hk18 hB13 => ?_)
          have hB13 : Blk w18 b13 (.cells (dl D.rules (.slice ad D.who.length cd) D.stake D.window).toArray 27) := hB13
          have k618 : Kp [] w16 w18 := hk17.trans_new hk18 (new1 (by omega))
          have k518 := hk16.trans k618
          have hkw : Kp [] w w18 := (k3.trans_new k15 (new1 (by omega))).trans k518
          have hL18 := hL.kp0 hkw
          have ho18 := own_kp0 ho15 k518
          have hR18 := hR7.kp0 k518
          have hB4 := (hB4.kp0 k8)
          have s16 := hk16.size
          have s618 := k618.size
          repeat (first|apply CG.seq|apply CG.region|apply SG.nil|apply NG.next|apply CG.skip|apply CG.block|apply CG.ret|apply CG.exit|apply CG.scope|apply NG.ret_then|apply NG.ret_scope|apply NG.exit_then|refine NG.exit_block rfl ?_|refine NG.exit_other rfl ?_|apply NG.normal_block|refine SG.val rfl rfl rfl rfl (by first|((first|apply qmf|apply qep|apply qmv|apply qas|apply qlc|apply qla|apply qfa|apply qnc|apply qix|apply qls|apply qei|apply qni|apply qad|apply qln|apply qxt|apply qnt|apply qep|apply qfr|apply qsn)<;>(first|exact rfl|assumption|exact Ar.mk (by omega)|exact dct (by first|assumption|omega)|exact dcf (by first|assumption|omega)|exact List.not_mem_nil|apply dc_length|apply ec_length|apply dl_length|exact nm1 (by omega)|fail))|fail) ?_)
          refine CG.cond_f rfl (by exact rho_of rfl) rfl ?_
          repeat (first|apply CG.seq|apply CG.region|apply SG.nil|apply NG.next|apply CG.skip|apply CG.block|apply CG.ret|apply CG.exit|apply CG.scope|apply NG.ret_then|apply NG.ret_scope|apply NG.exit_then|refine NG.exit_block rfl ?_|refine NG.exit_other rfl ?_|apply NG.normal_block|refine SG.val rfl rfl rfl rfl (by first|((first|apply qmf|apply qep|apply qmv|apply qas|apply qlc|apply qla|apply qfa|apply qnc|apply qix|apply qls|apply qei|apply qni|apply qad|apply qln|apply qxt|apply qnt|apply qep|apply qfr|apply qsn)<;>(first|exact rfl|assumption|exact Ar.mk (by omega)|exact dct (by first|assumption|omega)|exact dcf (by first|assumption|omega)|exact List.not_mem_nil|apply dc_length|apply ec_length|apply dl_length|exact nm1 (by omega)|fail))|fail) ?_)
          refine SG.val rfl rfl rfl rfl (qmf (vs := [.pointer (some ⟨b7, 0, none⟩)]) rfl) ?_
          have hn7 : b7 ∉ bt :: ownB v := hL.new (by omega)
          have hn13 : b13 ∉ bt :: ownB v := hL.new (by omega)
          have hn4 : b4 ∉ bt :: ownB v := hL.new (by omega)
          have hng : ∀ z ∈ bt :: ownB v, z ≠ g := fun z hz e => by
            subst e
            have := own_nb ho15 bt (by have := hL.blk.lt; omega)
            exact hL.new (b := z) (by have := own_ge ho15; omega) hz
          repeat (first|apply CG.seq|apply CG.region|apply SG.nil|apply NG.next|apply CG.skip|apply CG.block|apply CG.ret|apply CG.exit|apply CG.scope|apply NG.ret_then|apply NG.ret_scope|apply NG.exit_then|refine NG.exit_block rfl ?_|refine NG.exit_other rfl ?_|apply NG.normal_block|refine SG.val rfl rfl rfl rfl (by first|((first|apply qmf|apply qep|apply qmv|apply qas|apply qlc|apply qla|apply qfa|apply qnc|apply qix|apply qls|apply qei|apply qni|apply qad|apply qln|apply qxt|apply qnt|apply qep|apply qfr|apply qsn)<;>(first|exact rfl|assumption|exact Ar.mk (by omega)|exact dct (by first|assumption|omega)|exact dcf (by first|assumption|omega)|exact List.not_mem_nil|apply dc_length|apply ec_length|apply dl_length|exact nm1 (by omega)|fail))|fail) ?_)
          refine SG.call rfl rfl rfl (vs := [.pointer (some ⟨bt, 0, none⟩), fnv 60 [.pointer (some ⟨b7, 0, none⟩)]]) (by repeat' (first | exact True.intro | exact rho_of rfl | refine And.intro ?_ ?_)) ((ldrop_spec (p := fun x => decide (x ∈ u)) hL18 (by omega) (fun x hx W hk => match1_spec (hR18.kp hk (fun hm => hn7 (List.mem_cons_of_mem _ hm))) ((hS15.kp0 k518).kp hk (fun b off e hm => by cases e; exact hng _ (List.mem_cons_of_mem _ hm) rfl)) (by omega) x (fun y hy => (hKok y (hul2.subset hy)).fit) (hok x hx).fit)).mono (fun e w19 hh => ?_))
          obtain ⟨he, hk19, v', hL', hv'⟩ := hh
          refine ⟨_, he, ?_⟩
          have hS19 : w19.ownsRow w6.heap.size 47 21 (.slice (some ⟨g, 0, none⟩) u.length cap) u.length (flt ec u) := own_kp ho18 hk19 (fun b hb hm => by cases hb; exact hng _ hm rfl)
          have hC19 := hR18.kp hk19 hn7
          have hD19 : Row w19 b13 0 (dl D.rules (.slice ad D.who.length cd) D.stake D.window) := (Row.all hB13 rfl).kp hk19 hn13
          have hE18 := (hE4.kp k15 (nm1 (by omega))).kp0 k518
          have hE19 := hE18.kp hk19 hn4
          have hoD19 : w19.ownsRow w.heap.size 24 8 (.slice ad D.who.length cd) D.who.length (flt dc D.who) := own_kp (own_kp0 (own_mono hoD (show w.heap.size ≤ w15.heap.size by omega)) k618) hk19 (fun b hb => hL.new (own_geB (own_mono hoD (show w.heap.size ≤ w15.heap.size by omega)) b hb))
          clear hR18 hB13 hE18 hS15 hL18 ho18 hR7 hB4 hB10 rs hgr
          repeat (first|apply CG.seq|apply CG.region|apply SG.nil|apply NG.next|apply CG.skip|apply CG.block|apply CG.ret|apply CG.exit|apply CG.scope|apply NG.ret_then|apply NG.ret_scope|apply NG.exit_then|refine NG.exit_block rfl ?_|refine NG.exit_other rfl ?_|apply NG.normal_block|refine SG.val rfl rfl rfl rfl (by first|((first|apply qmf|apply qep|apply qmv|apply qas|apply qlc|apply qla|apply qfa|apply qnc|apply qix|apply qls|apply qei|apply qni|apply qad|apply qln|apply qxt|apply qnt|apply qep|apply qfr|apply qsn)<;>(first|exact rfl|assumption|exact Ar.mk (by omega)|exact dct (by first|assumption|omega)|exact dcf (by first|assumption|omega)|exact List.not_mem_nil|apply dc_length|apply ec_length|apply dl_length|exact nm1 (by omega)|fail))|fail) ?_)
          refine CG.tailg mixed 3 [0, 1, 2] [2] [b4] (fun w' => Blk w' b4 (.cells (dl zd (.slice none 0 0) 0 0).toArray 27)) (by kernel_rfl) hE19 (fun w w' hk h => h.kp0 hk) ?_
          repeat (refine Der.val rfl rfl rfl (by first|((first|apply qmf|apply qep|apply qmv|apply qas|apply qlc|apply qla|apply qfa|apply qnc|apply qix|apply qls|apply qei|apply qni|apply qad|apply qln|apply qxt|apply qnt|apply qep|apply qfr|apply qsn)<;>(first|exact rfl|assumption|exact Ar.mk (by omega)|exact dct (by first|assumption|omega)|exact dcf (by first|assumption|omega)|exact List.not_mem_nil|apply dc_length|apply ec_length|apply dl_length|exact nm1 (by omega)|fail))|fail) ?_)
          refine Der.storeR (fun w' => Blk w' b4 (.cells (spl (dl zd (.slice none 0 0) 0 0) 0 (dl D.rules (.slice ad D.who.length cd) D.stake D.window)).toArray 27)) rfl rfl rfl rfl (by exact rho_of rfl) (by exact rho_of rfl) (fun _ _ _ h => h) (fun w w' hk h => h.kp0 hk) (fun w h => ?_) ?_
          · have hc : (Value.agg (dl D.rules (.slice ad D.who.length cd) D.stake D.window).toArray).cells.toList = dl D.rules (.slice ad D.who.length cd) D.stake D.window := by simp [Value.cells]
            have hrun := run_storeAt (P := Try.prog) (f := ty.i27) (off := 0) (v := .agg (dl D.rules (.slice ad D.who.length cd) D.stake D.window).toArray) h (by rw [hc]; exact dl_length _ _ _ _) (by rw [hc, dl_length, List.size_toArray, dl_length]; omega) (by rw [hc]; exact dl_one _ _ _ _ _ _)
            rw [hc] at hrun
            exact ⟨_, hrun, h.set _, Kp.set w h rfl rfl⟩
          refine Der.tl (fun w20 hk20 _ hC20 => ?_)
          rw [spl_all (by rw [dl_length, dl_length])] at hC20
          have hr : Row w20 b4 0 (dl D.rules (.slice ad D.who.length cd) D.stake D.window) := Row.all hC20 rfl
          repeat (first|apply CG.seq|apply CG.region|apply SG.nil|apply NG.next|apply CG.skip|apply CG.block|apply CG.ret|apply CG.exit|apply CG.scope|apply NG.ret_then|apply NG.ret_scope|apply NG.exit_then|refine NG.exit_block rfl ?_|refine NG.exit_other rfl ?_|apply NG.normal_block|refine SG.val rfl rfl rfl rfl (by first|((first|apply qmf|apply qep|apply qmv|apply qas|apply qlc|apply qla|apply qfa|apply qnc|apply qix|apply qls|apply qei|apply qni|apply qad|apply qln|apply qxt|apply qnt|apply qep|apply qfr|apply qsn)<;>(first|exact rfl|assumption|exact Ar.mk (by omega)|exact dct (by first|assumption|omega)|exact dcf (by first|assumption|omega)|exact List.not_mem_nil|apply dc_length|apply ec_length|apply dl_length|exact nm1 (by omega)|fail))|fail) ?_)
          refine ret3 (Or.inl rfl) Try.results30 (ResV.agg rfl rfl hr (dl_length _ _ _ _)) (by first | exact ResV.tmp rfl | exact ResV.agg rfl rfl (by assumption) (by first | exact dc_length _ | exact nc_length _ | exact rc_length _ _ _ | exact ec_length _ | exact dl_length _ _ _ _ | rfl) | exact ResV.cell rfl rfl (by assumption)) (by first | exact ResV.tmp rfl | exact ResV.agg rfl rfl (by assumption) (by first | exact dc_length _ | exact nc_length _ | exact rc_length _ _ _ | exact ec_length _ | exact dl_length _ _ _ _ | rfl) | exact ResV.cell rfl rfl (by assumption)) ?_
          exact Or.inr ⟨u, _, _, v', hF, rfl, by rw [hDe]; exact ⟨_, rfl, own_kp hoD19 hk20 (own_neb hoD19 (by decide) hE19)⟩, own_kp (own_mono hS19 (by omega)) hk20 (own_neb hS19 (by decide) hE19), (hkw.any.trans hk19).trans_new hk20 (new1 (by omega)), ⟨hL'.blk.kp hk20 (nm1 (by have := hL.blk.lt; omega)), own_kp hL'.own hk20 (own_neb hL'.own (by decide) hE19)⟩, hv'⟩
        · rw [grab_on ha hs] at hgr
          repeat (first|apply CG.seq|apply CG.region|apply SG.nil|apply NG.next|apply CG.skip|apply CG.block|apply CG.ret|apply CG.exit|apply CG.scope|apply NG.ret_then|apply NG.ret_scope|apply NG.exit_then|refine NG.exit_block rfl ?_|refine NG.exit_other rfl ?_|apply NG.normal_block|refine SG.val rfl rfl rfl rfl (by first|((first|apply qmf|apply qep|apply qmv|apply qas|apply qlc|apply qla|apply qfa|apply qnc|apply qix|apply qls|apply qei|apply qni|apply qad|apply qln|apply qxt|apply qnt|apply qep|apply qfr|apply qsn)<;>(first|exact rfl|assumption|exact Ar.mk (by omega)|exact dct (by first|assumption|omega)|exact dcf (by first|assumption|omega)|exact List.not_mem_nil|apply dc_length|apply ec_length|apply dl_length|exact nm1 (by omega)|fail))|fail) ?_)
          refine CG.cond_f rfl (by exact rho_of rfl) rfl ?_
          repeat (first|apply CG.seq|apply CG.region|apply SG.nil|apply NG.next|apply CG.skip|apply CG.block|apply CG.ret|apply CG.exit|apply CG.scope|apply NG.ret_then|apply NG.ret_scope|apply NG.exit_then|refine NG.exit_block rfl ?_|refine NG.exit_other rfl ?_|apply NG.normal_block|refine SG.val rfl rfl rfl rfl (by first|((first|apply qmf|apply qep|apply qmv|apply qas|apply qlc|apply qla|apply qfa|apply qnc|apply qix|apply qls|apply qei|apply qni|apply qad|apply qln|apply qxt|apply qnt|apply qep|apply qfr|apply qsn)<;>(first|exact rfl|assumption|exact Ar.mk (by omega)|exact dct (by first|assumption|omega)|exact dcf (by first|assumption|omega)|exact List.not_mem_nil|apply dc_length|apply ec_length|apply dl_length|exact nm1 (by omega)|fail))|fail) ?_)
          refine NG.round (.slice (some ⟨g, 0, none⟩) (t ++ [oj]).length cap, t ++ [oj], j + 1) (by (repeat' (first | exact True.intro | exact rfl | refine And.intro ?_ ?_))) ⟨by simp only; omega, by simp only [List.length_append, List.length_singleton]; omega, k15, by omega, hB10, hC7, ho15, hgr⟩ (by simp only; omega)
    · have g2 : ¬ (j : Int) < ((K.length - (i + 1) : Nat) : Int) := by omega
      rw [List.drop_of_length_le (by omega), grab_nil] at hgr
      repeat (first|apply CG.seq|apply CG.region|apply SG.nil|apply NG.next|apply CG.skip|apply CG.block|apply CG.ret|apply CG.exit|apply CG.scope|apply NG.ret_then|apply NG.ret_scope|apply NG.exit_then|refine NG.exit_block rfl ?_|refine NG.exit_other rfl ?_|apply NG.normal_block|refine SG.val rfl rfl rfl rfl (by first|((first|apply qmf|apply qep|apply qmv|apply qas|apply qlc|apply qla|apply qfa|apply qnc|apply qix|apply qls|apply qei|apply qni|apply qad|apply qln|apply qxt|apply qnt|apply qep|apply qfr|apply qsn)<;>(first|exact rfl|assumption|exact Ar.mk (by omega)|exact dct (by first|assumption|omega)|exact dcf (by first|assumption|omega)|exact List.not_mem_nil|apply dc_length|apply ec_length|apply dl_length|exact nm1 (by omega)|fail))|fail) ?_)
      refine CG.cond_f rfl (by exact rho_of rfl) rfl ?_
      repeat (first|apply CG.seq|apply CG.region|apply SG.nil|apply NG.next|apply CG.skip|apply CG.block|apply CG.ret|apply CG.exit|apply CG.scope|apply NG.ret_then|apply NG.ret_scope|apply NG.exit_then|refine NG.exit_block rfl ?_|refine NG.exit_other rfl ?_|apply NG.normal_block|refine SG.val rfl rfl rfl rfl (by first|((first|apply qmf|apply qep|apply qmv|apply qas|apply qlc|apply qla|apply qfa|apply qnc|apply qix|apply qls|apply qei|apply qni|apply qad|apply qln|apply qxt|apply qnt|apply qep|apply qfr|apply qsn)<;>(first|exact rfl|assumption|exact Ar.mk (by omega)|exact dct (by first|assumption|omega)|exact dcf (by first|assumption|omega)|exact List.not_mem_nil|apply dc_length|apply ec_length|apply dl_length|exact nm1 (by omega)|fail))|fail) ?_)
      refine SG.store rfl rfl (by exact rho_of rfl) (by exact rho_of rfl) hB7 rfl (by show 0 + 1 ≤ 1; omega) rfl (fun w10 hk10 hC7 => ?_)
      have hC7 : Blk w10 b7 (.cells #[.slice none 0 0] 31) := hC7
      repeat (first|apply CG.seq|apply CG.region|apply SG.nil|apply NG.next|apply CG.skip|apply CG.block|apply CG.ret|apply CG.exit|apply CG.scope|apply NG.ret_then|apply NG.ret_scope|apply NG.exit_then|refine NG.exit_block rfl ?_|refine NG.exit_other rfl ?_|apply NG.normal_block|refine SG.val rfl rfl rfl rfl (by first|((first|apply qmf|apply qep|apply qmv|apply qas|apply qlc|apply qla|apply qfa|apply qnc|apply qix|apply qls|apply qei|apply qni|apply qad|apply qln|apply qxt|apply qnt|apply qep|apply qfr|apply qsn)<;>(first|exact rfl|assumption|exact Ar.mk (by omega)|exact dct (by first|assumption|omega)|exact dcf (by first|assumption|omega)|exact List.not_mem_nil|apply dc_length|apply ec_length|apply dl_length|exact nm1 (by omega)|fail))|fail) ?_)
      refine NG.round (i + 1) (by (repeat' (first | exact True.intro | exact rfl | refine And.intro ?_ ?_))) ⟨by omega, hk9.trans hk10, hC7, hgr⟩ (by omega)
  · have g1 : ¬ (i : Int) < (K.length : Int) := by omega
    rw [List.drop_of_length_le (by omega)] at hfi
    have hF : findD K = none := hfi.symm
    have hR7 : Row w4 b7 0 [.slice none 0 0] := Row.all hB7 rfl
    repeat (first|apply CG.seq|apply CG.region|apply SG.nil|apply NG.next|apply CG.skip|apply CG.block|apply CG.ret|apply CG.exit|apply CG.scope|apply NG.ret_then|apply NG.ret_scope|apply NG.exit_then|refine NG.exit_block rfl ?_|refine NG.exit_other rfl ?_|apply NG.normal_block|refine SG.val rfl rfl rfl rfl (by first|((first|apply qmf|apply qep|apply qmv|apply qas|apply qlc|apply qla|apply qfa|apply qnc|apply qix|apply qls|apply qei|apply qni|apply qad|apply qln|apply qxt|apply qnt|apply qep|apply qfr|apply qsn)<;>(first|exact rfl|assumption|exact Ar.mk (by omega)|exact dct (by first|assumption|omega)|exact dcf (by first|assumption|omega)|exact List.not_mem_nil|apply dc_length|apply ec_length|apply dl_length|exact nm1 (by omega)|fail))|fail) ?_)
    refine CG.cond_f rfl (by exact rho_of rfl) rfl ?_
    repeat (first|apply CG.seq|apply CG.region|apply SG.nil|apply NG.next|apply CG.skip|apply CG.block|apply CG.ret|apply CG.exit|apply CG.scope|apply NG.ret_then|apply NG.ret_scope|apply NG.exit_then|refine NG.exit_block rfl ?_|refine NG.exit_other rfl ?_|apply NG.normal_block|refine SG.val rfl rfl rfl rfl (by first|((first|apply qmf|apply qep|apply qmv|apply qas|apply qlc|apply qla|apply qfa|apply qnc|apply qix|apply qls|apply qei|apply qni|apply qad|apply qln|apply qxt|apply qnt|apply qep|apply qfr|apply qsn)<;>(first|exact rfl|assumption|exact Ar.mk (by omega)|exact dct (by first|assumption|omega)|exact dcf (by first|assumption|omega)|exact List.not_mem_nil|apply dc_length|apply ec_length|apply dl_length|exact nm1 (by omega)|fail))|fail) ?_)
    refine CG.cond_t rfl (by exact rho_of rfl) rfl ?_
    repeat (first|apply CG.seq|apply CG.region|apply SG.nil|apply NG.next|apply CG.skip|apply CG.block|apply CG.ret|apply CG.exit|apply CG.scope|apply NG.ret_then|apply NG.ret_scope|apply NG.exit_then|refine NG.exit_block rfl ?_|refine NG.exit_other rfl ?_|apply NG.normal_block|refine SG.val rfl rfl rfl rfl (by first|((first|apply qmf|apply qep|apply qmv|apply qas|apply qlc|apply qla|apply qfa|apply qnc|apply qix|apply qls|apply qei|apply qni|apply qad|apply qln|apply qxt|apply qnt|apply qep|apply qfr|apply qsn)<;>(first|exact rfl|assumption|exact Ar.mk (by omega)|exact dct (by first|assumption|omega)|exact dcf (by first|assumption|omega)|exact List.not_mem_nil|apply dc_length|apply ec_length|apply dl_length|exact nm1 (by omega)|fail))|fail) ?_)
    refine SG.val rfl rfl rfl rfl (vals_build rfl bdz) ?_
    refine SG.setAll (l := dl zd (.slice none 0 0) 0 0) rfl rfl (by exact rho_of rfl) (by exact rho_of rfl) hB4 (dl_length _ _ _ _) (dl_length _ _ _ _) (dl_one _ _ _ _ _ _) (fun w5 hk5 hB5 => ?_)
    have hr : Row w5 b4 0 (dl zd (.slice none 0 0) 0 0) := Row.all hB5 rfl
    repeat (first|apply CG.seq|apply CG.region|apply SG.nil|apply NG.next|apply CG.skip|apply CG.block|apply CG.ret|apply CG.exit|apply CG.scope|apply NG.ret_then|apply NG.ret_scope|apply NG.exit_then|refine NG.exit_block rfl ?_|refine NG.exit_other rfl ?_|apply NG.normal_block|refine SG.val rfl rfl rfl rfl (by first|((first|apply qmf|apply qep|apply qmv|apply qas|apply qlc|apply qla|apply qfa|apply qnc|apply qix|apply qls|apply qei|apply qni|apply qad|apply qln|apply qxt|apply qnt|apply qep|apply qfr|apply qsn)<;>(first|exact rfl|assumption|exact Ar.mk (by omega)|exact dct (by first|assumption|omega)|exact dcf (by first|assumption|omega)|exact List.not_mem_nil|apply dc_length|apply ec_length|apply dl_length|exact nm1 (by omega)|fail))|fail) ?_)
    refine ret3 (Or.inl rfl) Try.results30 (ResV.agg rfl rfl hr (dl_length _ _ _ _)) (by first | exact ResV.tmp rfl | exact ResV.agg rfl rfl (by assumption) (by first | exact dc_length _ | exact nc_length _ | exact rc_length _ _ _ | exact ec_length _ | exact dl_length _ _ _ _ | rfl) | exact ResV.cell rfl rfl (by assumption)) (by first | exact ResV.tmp rfl | exact ResV.agg rfl rfl (by assumption) (by first | exact dc_length _ | exact nc_length _ | exact rc_length _ _ _ | exact ec_length _ | exact dl_length _ _ _ _ | rfl) | exact ResV.cell rfl rfl (by assumption)) ?_
    exact Or.inl ⟨hF, rfl, k4.trans_new hk5 (new1 (by omega))⟩
end Go.Proofs.Ytnoipmimddoioaa
/-
  Deals compared.
-/
namespace Go.Proofs.Ytnoipmimddoioaa
open Go.Proofs
set_option linter.unusedVariables false

theorem del_iff (a b : Del) : (a.rules = b.rules ∧ a.who = b.who ∧ a.stake = b.stake ∧ a.window = b.window) ↔ a = b := by
  obtain ⟨a1, a2, a3, a4⟩ := a
  obtain ⟨b1, b2, b3, b4⟩ := b
  simp
instance : DecidableEq Del := fun a b => decidable_of_iff _ (del_iff a b)
theorem del_cases (a b : Del) : (a ≠ b ∧ a.rules ≠ b.rules) ∨ (a ≠ b ∧ a.rules = b.rules ∧ a.who ≠ b.who) ∨ (a ≠ b ∧ a.rules = b.rules ∧ a.who = b.who ∧ a.stake ≠ b.stake) ∨ (a ≠ b ∧ a.rules = b.rules ∧ a.who = b.who ∧ a.stake = b.stake ∧ a.window ≠ b.window) ∨ (a = b ∧ a.rules = b.rules ∧ a.who = b.who ∧ a.stake = b.stake ∧ a.window = b.window) := by
  have hi := del_iff a b
  by_cases h1 : a.rules = b.rules
  rotate_left
  · exact Or.inl ⟨fun e => h1 (hi.2 e).1, h1⟩
  by_cases h2 : a.who = b.who
  rotate_left
  · exact Or.inr (Or.inl ⟨fun e => h2 (hi.2 e).2.1, h1, h2⟩)
  by_cases h3 : a.stake = b.stake
  rotate_left
  · exact Or.inr (Or.inr (Or.inl ⟨fun e => h3 (hi.2 e).2.2.1, h1, h2, h3⟩))
  by_cases h4 : a.window = b.window
  rotate_left
  · exact Or.inr (Or.inr (Or.inr (Or.inl ⟨fun e => h4 (hi.2 e).2.2.2, h1, h2, h3, h4⟩)))
  exact Or.inr (Or.inr (Or.inr (Or.inr ⟨hi.1 ⟨h1, h2, h3, h4⟩, h1, h2, h3, h4⟩)))
theorem take_eq_step {α : Type} {l m : List α} {i : Nat} (h : l.take i = m.take i) (h1 : i < l.length) (h2 : i < m.length) (he : l[i] = m[i]) : l.take (i + 1) = m.take (i + 1) := by
  rw [List.take_succ_eq_append_getElem h1, List.take_succ_eq_append_getElem h2, h, he]
theorem ne_of_get {α : Type} {l m : List α} {i : Nat} (h1 : i < l.length) (h2 : i < m.length) (he : l[i] ≠ m[i]) : l ≠ m := by
  intro e
  subst e
  exact he rfl

attribute [local irreducible] CG NG SG Vals Der Row Blk MapIs IterAt addI xorI orI andI shlI shrI mulI
set_option maxHeartbeats 16000000 in
theorem equal_spec {w : World} {l m : List Dg} {a a' : Option Addr} {c c' : Nat} (hS : Sl dc 8 w a l) (hT : Sl dc 8 w a' m) (hl : l.length ≤ 1000000000) : Ret Try.prog 56 #[.slice a l.length c, .slice a' m.length c'] w (.bool (decide (l = m))) := by
  refine enter2 Try.func56 rfl Try.ntmps56 rfl ?_
  by_cases hlen : l.length = m.length
  · have g0 : (l.length : Int) = (m.length : Int) := by omega
    repeat (first|apply CG.seq|apply CG.region|apply SG.nil|apply NG.next|apply CG.skip|apply CG.block|apply CG.ret|apply CG.exit|apply NG.ret_then|apply NG.ret_block|apply NG.exit_then|refine NG.exit_block rfl ?_|apply NG.normal_block|refine SG.val rfl rfl rfl rfl (by first|((first|apply qmv|apply qas|apply qlc|apply qla|apply qfa|apply qix|apply qpk|apply qls|apply qei|apply qni|apply qed|apply qnd|apply qad|apply qln)<;>(first|exact rfl|assumption|exact Ar.mk (by omega)|exact dct (by first|assumption|omega)|exact dcf (by first|assumption|omega)|exact List.not_mem_nil|apply dc_length|fail))|fail) ?_)
    refine CG.cond_f rfl (by exact rho_of rfl) rfl ?_
    repeat (first|apply CG.seq|apply CG.region|apply SG.nil|apply NG.next|apply CG.skip|apply CG.block|apply CG.ret|apply CG.exit|apply NG.ret_then|apply NG.ret_block|apply NG.exit_then|refine NG.exit_block rfl ?_|apply NG.normal_block|refine SG.val rfl rfl rfl rfl (by first|((first|apply qmv|apply qas|apply qlc|apply qla|apply qfa|apply qix|apply qpk|apply qls|apply qei|apply qni|apply qed|apply qnd|apply qad|apply qln)<;>(first|exact rfl|assumption|exact Ar.mk (by omega)|exact dct (by first|assumption|omega)|exact dcf (by first|assumption|omega)|exact List.not_mem_nil|apply dc_length|fail))|fail) ?_)
    refine CG.loop (X := Nat) (fun i => [(0, .slice a l.length c), (1, .slice a' m.length c'), (12, .int .i64 (l.length : Int)), (13, .int .i64 (i : Int))]) (fun i w' => i ≤ l.length ∧ Kp [] w w' ∧ l.take i = m.take i) (fun i => l.length - i) 0 ⟨by omega, Kp.refl _ _, rfl⟩ (by (repeat' (first | exact True.intro | exact rfl | refine And.intro ?_ ?_))) ?_
    rintro i w1 ⟨hi, hk, ht⟩
    by_cases hlt : i < l.length
    · have g1 : (i : Int) < (l.length : Int) := by omega
      have hlt2 : i < m.length := by omega
      obtain ⟨b1, o1, rfl, hr1⟩ := (hS.kp0 hk).at hlt
      obtain ⟨b2, o2, rfl, hr2⟩ := (hT.kp0 hk).at hlt2
      repeat (first|apply CG.seq|apply CG.region|apply SG.nil|apply NG.next|apply CG.skip|apply CG.block|apply CG.ret|apply CG.exit|apply NG.ret_then|apply NG.ret_block|apply NG.exit_then|refine NG.exit_block rfl ?_|apply NG.normal_block|refine SG.val rfl rfl rfl rfl (by first|((first|apply qmv|apply qas|apply qlc|apply qla|apply qfa|apply qix|apply qpk|apply qls|apply qei|apply qni|apply qed|apply qnd|apply qad|apply qln)<;>(first|exact rfl|assumption|exact Ar.mk (by omega)|exact dct (by first|assumption|omega)|exact dcf (by first|assumption|omega)|exact List.not_mem_nil|apply dc_length|fail))|fail) ?_)
      refine CG.cond_t rfl (by exact rho_of rfl) rfl ?_
      by_cases he : l[i] = m[i]
      · repeat (first|apply CG.seq|apply CG.region|apply SG.nil|apply NG.next|apply CG.skip|apply CG.block|apply CG.ret|apply CG.exit|apply NG.ret_then|apply NG.ret_block|apply NG.exit_then|refine NG.exit_block rfl ?_|apply NG.normal_block|refine SG.val rfl rfl rfl rfl (by first|((first|apply qmv|apply qas|apply qlc|apply qla|apply qfa|apply qix|apply qpk|apply qls|apply qei|apply qni|apply qed|apply qnd|apply qad|apply qln)<;>(first|exact rfl|assumption|exact Ar.mk (by omega)|exact dct (by first|assumption|omega)|exact dcf (by first|assumption|omega)|exact List.not_mem_nil|apply dc_length|fail))|fail) ?_)
        refine CG.draw0 mixed [0, 1, 2, 3, 4, 5, 6, 7, 8] [] (by kernel_rfl) ?_
        repeat (refine Der.val rfl rfl rfl (by first|((first|apply qmv|apply qas|apply qlc|apply qla|apply qfa|apply qix|apply qpk|apply qls|apply qei|apply qni|apply qed|apply qnd|apply qad|apply qln)<;>(first|exact rfl|assumption|exact Ar.mk (by omega)|exact dct (by first|assumption|omega)|exact dcf (by first|assumption|omega)|exact List.not_mem_nil|apply dc_length|fail))|fail) ?_)
        refine Der.fin (fun w2 hk2 _ _ => ?_)
        repeat (first|apply CG.seq|apply CG.region|apply SG.nil|apply NG.next|apply CG.skip|apply CG.block|apply CG.ret|apply CG.exit|apply NG.ret_then|apply NG.ret_block|apply NG.exit_then|refine NG.exit_block rfl ?_|apply NG.normal_block|refine SG.val rfl rfl rfl rfl (by first|((first|apply qmv|apply qas|apply qlc|apply qla|apply qfa|apply qix|apply qpk|apply qls|apply qei|apply qni|apply qed|apply qnd|apply qad|apply qln)<;>(first|exact rfl|assumption|exact Ar.mk (by omega)|exact dct (by first|assumption|omega)|exact dcf (by first|assumption|omega)|exact List.not_mem_nil|apply dc_length|fail))|fail) ?_)
        refine CG.cond_f rfl (by exact rho_of rfl) rfl ?_
        repeat (first|apply CG.seq|apply CG.region|apply SG.nil|apply NG.next|apply CG.skip|apply CG.block|apply CG.ret|apply CG.exit|apply NG.ret_then|apply NG.ret_block|apply NG.exit_then|refine NG.exit_block rfl ?_|apply NG.normal_block|refine SG.val rfl rfl rfl rfl (by first|((first|apply qmv|apply qas|apply qlc|apply qla|apply qfa|apply qix|apply qpk|apply qls|apply qei|apply qni|apply qed|apply qnd|apply qad|apply qln)<;>(first|exact rfl|assumption|exact Ar.mk (by omega)|exact dct (by first|assumption|omega)|exact dcf (by first|assumption|omega)|exact List.not_mem_nil|apply dc_length|fail))|fail) ?_)
        refine NG.round (i + 1) (by (repeat' (first | exact True.intro | exact rfl | refine And.intro ?_ ?_))) ⟨by omega, hk.trans hk2, take_eq_step ht hlt hlt2 he⟩ (by omega)
      · repeat (first|apply CG.seq|apply CG.region|apply SG.nil|apply NG.next|apply CG.skip|apply CG.block|apply CG.ret|apply CG.exit|apply NG.ret_then|apply NG.ret_block|apply NG.exit_then|refine NG.exit_block rfl ?_|apply NG.normal_block|refine SG.val rfl rfl rfl rfl (by first|((first|apply qmv|apply qas|apply qlc|apply qla|apply qfa|apply qix|apply qpk|apply qls|apply qei|apply qni|apply qed|apply qnd|apply qad|apply qln)<;>(first|exact rfl|assumption|exact Ar.mk (by omega)|exact dct (by first|assumption|omega)|exact dcf (by first|assumption|omega)|exact List.not_mem_nil|apply dc_length|fail))|fail) ?_)
        refine CG.draw0 mixed [0, 1, 2, 3, 4, 5, 6, 7, 8] [] (by kernel_rfl) ?_
        repeat (refine Der.val rfl rfl rfl (by first|((first|apply qmv|apply qas|apply qlc|apply qla|apply qfa|apply qix|apply qpk|apply qls|apply qei|apply qni|apply qed|apply qnd|apply qad|apply qln)<;>(first|exact rfl|assumption|exact Ar.mk (by omega)|exact dct (by first|assumption|omega)|exact dcf (by first|assumption|omega)|exact List.not_mem_nil|apply dc_length|fail))|fail) ?_)
        refine Der.fin (fun w2 hk2 _ _ => ?_)
        repeat (first|apply CG.seq|apply CG.region|apply SG.nil|apply NG.next|apply CG.skip|apply CG.block|apply CG.ret|apply CG.exit|apply NG.ret_then|apply NG.ret_block|apply NG.exit_then|refine NG.exit_block rfl ?_|apply NG.normal_block|refine SG.val rfl rfl rfl rfl (by first|((first|apply qmv|apply qas|apply qlc|apply qla|apply qfa|apply qix|apply qpk|apply qls|apply qei|apply qni|apply qed|apply qnd|apply qad|apply qln)<;>(first|exact rfl|assumption|exact Ar.mk (by omega)|exact dct (by first|assumption|omega)|exact dcf (by first|assumption|omega)|exact List.not_mem_nil|apply dc_length|fail))|fail) ?_)
        refine CG.cond_t rfl (by exact rho_of rfl) rfl ?_
        repeat (first|apply CG.seq|apply CG.region|apply SG.nil|apply NG.next|apply CG.skip|apply CG.block|apply CG.ret|apply CG.exit|apply NG.ret_then|apply NG.ret_block|apply NG.exit_then|refine NG.exit_block rfl ?_|apply NG.normal_block|refine SG.val rfl rfl rfl rfl (by first|((first|apply qmv|apply qas|apply qlc|apply qla|apply qfa|apply qix|apply qpk|apply qls|apply qei|apply qni|apply qed|apply qnd|apply qad|apply qln)<;>(first|exact rfl|assumption|exact Ar.mk (by omega)|exact dct (by first|assumption|omega)|exact dcf (by first|assumption|omega)|exact List.not_mem_nil|apply dc_length|fail))|fail) ?_)
        refine ret1 (Or.inl rfl) Try.results56 (by first | exact ResV.tmp rfl | exact ResV.agg rfl rfl (by assumption) (by first | exact dc_length _ | exact nc_length _ | exact rc_length _ _ _ | exact ec_length _ | exact dl_length _ _ _ _ | rfl) | exact ResV.cell rfl rfl (by assumption)) ?_
        rw [decide_eq_false (ne_of_get hlt hlt2 he)]
        exact ⟨rfl, hk.trans hk2⟩
    · have g1 : ¬ (i : Int) < (l.length : Int) := by omega
      have heq : l = m := by
        have e1 : l.take i = l := List.take_of_length_le (by omega)
        have e2 : m.take i = m := List.take_of_length_le (by omega)
        rw [← e1, ← e2, ht]
      repeat (first|apply CG.seq|apply CG.region|apply SG.nil|apply NG.next|apply CG.skip|apply CG.block|apply CG.ret|apply CG.exit|apply NG.ret_then|apply NG.ret_block|apply NG.exit_then|refine NG.exit_block rfl ?_|apply NG.normal_block|refine SG.val rfl rfl rfl rfl (by first|((first|apply qmv|apply qas|apply qlc|apply qla|apply qfa|apply qix|apply qpk|apply qls|apply qei|apply qni|apply qed|apply qnd|apply qad|apply qln)<;>(first|exact rfl|assumption|exact Ar.mk (by omega)|exact dct (by first|assumption|omega)|exact dcf (by first|assumption|omega)|exact List.not_mem_nil|apply dc_length|fail))|fail) ?_)
      refine CG.cond_f rfl (by exact rho_of rfl) rfl ?_
      repeat (first|apply CG.seq|apply CG.region|apply SG.nil|apply NG.next|apply CG.skip|apply CG.block|apply CG.ret|apply CG.exit|apply NG.ret_then|apply NG.ret_block|apply NG.exit_then|refine NG.exit_block rfl ?_|apply NG.normal_block|refine SG.val rfl rfl rfl rfl (by first|((first|apply qmv|apply qas|apply qlc|apply qla|apply qfa|apply qix|apply qpk|apply qls|apply qei|apply qni|apply qed|apply qnd|apply qad|apply qln)<;>(first|exact rfl|assumption|exact Ar.mk (by omega)|exact dct (by first|assumption|omega)|exact dcf (by first|assumption|omega)|exact List.not_mem_nil|apply dc_length|fail))|fail) ?_)
      refine ret1 (Or.inl rfl) Try.results56 (by first | exact ResV.tmp rfl | exact ResV.agg rfl rfl (by assumption) (by first | exact dc_length _ | exact nc_length _ | exact rc_length _ _ _ | exact ec_length _ | exact dl_length _ _ _ _ | rfl) | exact ResV.cell rfl rfl (by assumption)) ?_
      rw [decide_eq_true heq]
      exact ⟨rfl, hk⟩
  · have g0 : ¬ (l.length : Int) = (m.length : Int) := by omega
    have hne : l ≠ m := fun e => hlen (by rw [e])
    repeat (first|apply CG.seq|apply CG.region|apply SG.nil|apply NG.next|apply CG.skip|apply CG.block|apply CG.ret|apply CG.exit|apply NG.ret_then|apply NG.ret_block|apply NG.exit_then|refine NG.exit_block rfl ?_|apply NG.normal_block|refine SG.val rfl rfl rfl rfl (by first|((first|apply qmv|apply qas|apply qlc|apply qla|apply qfa|apply qix|apply qpk|apply qls|apply qei|apply qni|apply qed|apply qnd|apply qad|apply qln)<;>(first|exact rfl|assumption|exact Ar.mk (by omega)|exact dct (by first|assumption|omega)|exact dcf (by first|assumption|omega)|exact List.not_mem_nil|apply dc_length|fail))|fail) ?_)
    refine CG.cond_t rfl (by exact rho_of rfl) rfl ?_
    repeat (first|apply CG.seq|apply CG.region|apply SG.nil|apply NG.next|apply CG.skip|apply CG.block|apply CG.ret|apply CG.exit|apply NG.ret_then|apply NG.ret_block|apply NG.exit_then|refine NG.exit_block rfl ?_|apply NG.normal_block|refine SG.val rfl rfl rfl rfl (by first|((first|apply qmv|apply qas|apply qlc|apply qla|apply qfa|apply qix|apply qpk|apply qls|apply qei|apply qni|apply qed|apply qnd|apply qad|apply qln)<;>(first|exact rfl|assumption|exact Ar.mk (by omega)|exact dct (by first|assumption|omega)|exact dcf (by first|assumption|omega)|exact List.not_mem_nil|apply dc_length|fail))|fail) ?_)
    refine ret1 (Or.inl rfl) Try.results56 (by first | exact ResV.tmp rfl | exact ResV.agg rfl rfl (by assumption) (by first | exact dc_length _ | exact nc_length _ | exact rc_length _ _ _ | exact ec_length _ | exact dl_length _ _ _ _ | rfl) | exact ResV.cell rfl rfl (by assumption)) ?_
    rw [decide_eq_false hne]
    exact ⟨rfl, Kp.refl _ _⟩
set_option maxHeartbeats 16000000 in
theorem same_spec {w : World} (d e : Del) {a a' : Option Addr} {c c' : Nat} (hS : Sl dc 8 w a d.who) (hT : Sl dc 8 w a' e.who) (hl : d.who.length ≤ 1000000000) : Ret Try.prog 26 #[dealV d.rules (.slice a d.who.length c) d.stake d.window, dealV e.rules (.slice a' e.who.length c') e.stake e.window] w (.bool (decide (d = e))) := by
  refine enter2 Try.func26 rfl Try.ntmps26 rfl ?_
  repeat (first|apply CG.seq|apply CG.region|apply SG.nil|apply NG.next|apply CG.skip|apply CG.block|apply CG.ret|apply CG.exit|apply NG.ret_then|apply NG.ret_block|apply NG.exit_then|refine NG.exit_block rfl ?_|apply NG.normal_block|refine SG.val rfl rfl rfl rfl (by first|((first|apply qmv|apply qas|apply qlc|apply qla|apply qfa|apply qix|apply qpk|apply qls|apply qei|apply qni|apply qed|apply qnd|apply qad|apply qln)<;>(first|exact rfl|assumption|exact Ar.mk (by omega)|exact dct (by first|assumption|omega)|exact dcf (by first|assumption|omega)|exact List.not_mem_nil|apply dc_length|fail))|fail) ?_)
  refine SG.box rfl rfl rfl (by exact rho_of rfl) (fun b1 w1 hk1 hb1 hB1 => ?_)
  have hB1 : Blk w1 b1 (.cells (dl d.rules (.slice a d.who.length c) d.stake d.window).toArray 27) := hB1
  refine SG.box rfl rfl rfl (by exact rho_of rfl) (fun b2 w2 hk2 hb2 hB2 => ?_)
  have hB2 : Blk w2 b2 (.cells (dl e.rules (.slice a' e.who.length c') e.stake e.window).toArray 27) := hB2
  have k2 := hk1.trans hk2
  have hB1 := hB1.kp0 hk2
  obtain ⟨a0, a1, a2, a3, -⟩ := dl_rows hB1
  obtain ⟨r0, r1, r2, r3, -⟩ := dl_rows hB2
  rcases del_cases d e with ⟨h0, h1⟩ | h
  · repeat (first | first|apply CG.seq|apply CG.region|apply SG.nil|apply NG.next|apply CG.skip|apply CG.block|apply CG.ret|apply CG.exit|apply NG.ret_then|apply NG.ret_block|apply NG.exit_then|refine NG.exit_block rfl ?_|apply NG.normal_block|refine SG.val rfl rfl rfl rfl (by first|((first|apply qmv|apply qas|apply qlc|apply qla|apply qfa|apply qix|apply qpk|apply qls|apply qei|apply qni|apply qed|apply qnd|apply qad|apply qln)<;>(first|exact rfl|assumption|exact Ar.mk (by omega)|exact dct (by first|assumption|omega)|exact dcf (by first|assumption|omega)|exact List.not_mem_nil|apply dc_length|fail))|fail) ?_ | refine SG.skip rfl rfl ?_)
    refine ret1 (Or.inl rfl) Try.results26 (by first | exact ResV.tmp rfl | exact ResV.agg rfl rfl (by assumption) (by first | exact dc_length _ | exact nc_length _ | exact rc_length _ _ _ | exact ec_length _ | exact dl_length _ _ _ _ | rfl) | exact ResV.cell rfl rfl (by assumption)) ?_
    rw [decide_eq_false h0]
    exact ⟨rfl, k2⟩
  · have h1 : d.rules = e.rules := by rcases h with ⟨_, h, _⟩ | ⟨_, h, _⟩ | ⟨_, h, _⟩ | ⟨_, h, _⟩ <;> exact h
    have hsp := equal_spec (w := w2) (c := c) (c' := c') (hS.kp0 k2) (hT.kp0 k2) hl
    repeat (first | first|apply CG.seq|apply CG.region|apply SG.nil|apply NG.next|apply CG.skip|apply CG.block|apply CG.ret|apply CG.exit|apply NG.ret_then|apply NG.ret_block|apply NG.exit_then|refine NG.exit_block rfl ?_|apply NG.normal_block|refine SG.val rfl rfl rfl rfl (by first|((first|apply qmv|apply qas|apply qlc|apply qla|apply qfa|apply qix|apply qpk|apply qls|apply qei|apply qni|apply qed|apply qnd|apply qad|apply qln)<;>(first|exact rfl|assumption|exact Ar.mk (by omega)|exact dct (by first|assumption|omega)|exact dcf (by first|assumption|omega)|exact List.not_mem_nil|apply dc_length|fail))|fail) ?_ | refine SG.skip rfl rfl ?_)
    refine SG.ret rfl rfl rfl (by repeat' (first | exact True.intro | exact rho_of rfl | refine And.intro ?_ ?_)) hsp (fun w3 hk3 => ?_)
    have k3 := k2.trans hk3
    obtain ⟨-, -, a2, a3, -⟩ := dl_rows (hB1.kp0 hk3)
    obtain ⟨-, -, r2, r3, -⟩ := dl_rows (hB2.kp0 hk3)
    rcases h with ⟨h0, -, h2⟩ | ⟨h0, -, h2, h3⟩ | ⟨h0, -, h2, h3, h4⟩ | ⟨h0, -, h2, h3, h4⟩
    all_goals
      first
        | rw [decide_eq_true h2]
        | rw [decide_eq_false h2]
      repeat (first | first|apply CG.seq|apply CG.region|apply SG.nil|apply NG.next|apply CG.skip|apply CG.block|apply CG.ret|apply CG.exit|apply NG.ret_then|apply NG.ret_block|apply NG.exit_then|refine NG.exit_block rfl ?_|apply NG.normal_block|refine SG.val rfl rfl rfl rfl (by first|((first|apply qmv|apply qas|apply qlc|apply qla|apply qfa|apply qix|apply qpk|apply qls|apply qei|apply qni|apply qed|apply qnd|apply qad|apply qln)<;>(first|exact rfl|assumption|exact Ar.mk (by omega)|exact dct (by first|assumption|omega)|exact dcf (by first|assumption|omega)|exact List.not_mem_nil|apply dc_length|fail))|fail) ?_ | refine SG.skip rfl rfl ?_)
      refine ret1 (Or.inl rfl) Try.results26 (by first | exact ResV.tmp rfl | exact ResV.agg rfl rfl (by assumption) (by first | exact dc_length _ | exact nc_length _ | exact rc_length _ _ _ | exact ec_length _ | exact dl_length _ _ _ _ | rfl) | exact ResV.cell rfl rfl (by assumption)) ?_
      first
        | rw [decide_eq_false h0]; exact ⟨rfl, k3⟩
        | rw [decide_eq_true h0]; exact ⟨rfl, k3⟩
set_option maxHeartbeats 16000000 in
theorem samedeal_spec {w : World} (d e : Del) {a a' : Option Addr} {c c' : Nat} (hS : Sl dc 8 w a d.who) (hT : Sl dc 8 w a' e.who) (hl : d.who.length ≤ 1000000000) : Ret Try.prog 15 #[dealV d.rules (.slice a d.who.length c) d.stake d.window, dealV e.rules (.slice a' e.who.length c') e.stake e.window] w (.bool (decide (d = e))) := by
  refine enter2 Try.func15 rfl Try.ntmps15 rfl ?_
  repeat (first|apply CG.seq|apply CG.region|apply SG.nil|apply NG.next|apply CG.skip|apply CG.block|apply CG.ret|apply CG.exit|apply NG.ret_then|apply NG.ret_block|apply NG.exit_then|refine NG.exit_block rfl ?_|apply NG.normal_block|refine SG.val rfl rfl rfl rfl (by first|((first|apply qmv|apply qas|apply qlc|apply qla|apply qfa|apply qix|apply qpk|apply qls|apply qei|apply qni|apply qed|apply qnd|apply qad|apply qln)<;>(first|exact rfl|assumption|exact Ar.mk (by omega)|exact dct (by first|assumption|omega)|exact dcf (by first|assumption|omega)|exact List.not_mem_nil|apply dc_length|fail))|fail) ?_)
  refine SG.box rfl rfl rfl (by exact rho_of rfl) (fun b1 w1 hk1 hb1 hB1 => ?_)
  have hB1 : Blk w1 b1 (.cells (dl d.rules (.slice a d.who.length c) d.stake d.window).toArray 39) := hB1
  refine SG.box rfl rfl rfl (by exact rho_of rfl) (fun b2 w2 hk2 hb2 hB2 => ?_)
  have hB2 : Blk w2 b2 (.cells (dl e.rules (.slice a' e.who.length c') e.stake e.window).toArray 39) := hB2
  have k2 := hk1.trans hk2
  have hB1 := hB1.kp0 hk2
  obtain ⟨a0, a1, a2, a3, -⟩ := dl_rows hB1
  obtain ⟨r0, r1, r2, r3, -⟩ := dl_rows hB2
  have hi := del_iff d e
  by_cases h1 : d.rules = e.rules
  rotate_left
  · have h0 : d ≠ e := fun q => h1 (hi.2 q).1
    repeat (first | first|apply CG.seq|apply CG.region|apply SG.nil|apply NG.next|apply CG.skip|apply CG.block|apply CG.ret|apply CG.exit|apply NG.ret_then|apply NG.ret_block|apply NG.exit_then|refine NG.exit_block rfl ?_|apply NG.normal_block|refine SG.val rfl rfl rfl rfl (by first|((first|apply qmv|apply qas|apply qlc|apply qla|apply qfa|apply qix|apply qpk|apply qls|apply qei|apply qni|apply qed|apply qnd|apply qad|apply qln)<;>(first|exact rfl|assumption|exact Ar.mk (by omega)|exact dct (by first|assumption|omega)|exact dcf (by first|assumption|omega)|exact List.not_mem_nil|apply dc_length|fail))|fail) ?_ | refine SG.skip rfl rfl ?_)
    refine CG.cond_t rfl (by exact rho_of rfl) rfl ?_
    repeat (first|apply CG.seq|apply CG.region|apply SG.nil|apply NG.next|apply CG.skip|apply CG.block|apply CG.ret|apply CG.exit|apply NG.ret_then|apply NG.ret_block|apply NG.exit_then|refine NG.exit_block rfl ?_|apply NG.normal_block|refine SG.val rfl rfl rfl rfl (by first|((first|apply qmv|apply qas|apply qlc|apply qla|apply qfa|apply qix|apply qpk|apply qls|apply qei|apply qni|apply qed|apply qnd|apply qad|apply qln)<;>(first|exact rfl|assumption|exact Ar.mk (by omega)|exact dct (by first|assumption|omega)|exact dcf (by first|assumption|omega)|exact List.not_mem_nil|apply dc_length|fail))|fail) ?_)
    refine ret1 (Or.inl rfl) Try.results15 (by first | exact ResV.tmp rfl | exact ResV.agg rfl rfl (by assumption) (by first | exact dc_length _ | exact nc_length _ | exact rc_length _ _ _ | exact ec_length _ | exact dl_length _ _ _ _ | rfl) | exact ResV.cell rfl rfl (by assumption)) ?_
    rw [decide_eq_false h0]
    exact ⟨rfl, k2⟩
  by_cases h2 : d.stake = e.stake
  rotate_left
  · have h0 : d ≠ e := fun q => h2 (hi.2 q).2.2.1
    repeat (first | first|apply CG.seq|apply CG.region|apply SG.nil|apply NG.next|apply CG.skip|apply CG.block|apply CG.ret|apply CG.exit|apply NG.ret_then|apply NG.ret_block|apply NG.exit_then|refine NG.exit_block rfl ?_|apply NG.normal_block|refine SG.val rfl rfl rfl rfl (by first|((first|apply qmv|apply qas|apply qlc|apply qla|apply qfa|apply qix|apply qpk|apply qls|apply qei|apply qni|apply qed|apply qnd|apply qad|apply qln)<;>(first|exact rfl|assumption|exact Ar.mk (by omega)|exact dct (by first|assumption|omega)|exact dcf (by first|assumption|omega)|exact List.not_mem_nil|apply dc_length|fail))|fail) ?_ | refine SG.skip rfl rfl ?_)
    refine CG.cond_t rfl (by exact rho_of rfl) rfl ?_
    repeat (first|apply CG.seq|apply CG.region|apply SG.nil|apply NG.next|apply CG.skip|apply CG.block|apply CG.ret|apply CG.exit|apply NG.ret_then|apply NG.ret_block|apply NG.exit_then|refine NG.exit_block rfl ?_|apply NG.normal_block|refine SG.val rfl rfl rfl rfl (by first|((first|apply qmv|apply qas|apply qlc|apply qla|apply qfa|apply qix|apply qpk|apply qls|apply qei|apply qni|apply qed|apply qnd|apply qad|apply qln)<;>(first|exact rfl|assumption|exact Ar.mk (by omega)|exact dct (by first|assumption|omega)|exact dcf (by first|assumption|omega)|exact List.not_mem_nil|apply dc_length|fail))|fail) ?_)
    refine ret1 (Or.inl rfl) Try.results15 (by first | exact ResV.tmp rfl | exact ResV.agg rfl rfl (by assumption) (by first | exact dc_length _ | exact nc_length _ | exact rc_length _ _ _ | exact ec_length _ | exact dl_length _ _ _ _ | rfl) | exact ResV.cell rfl rfl (by assumption)) ?_
    rw [decide_eq_false h0]
    exact ⟨rfl, k2⟩
  by_cases h3 : d.window = e.window
  rotate_left
  · have h0 : d ≠ e := fun q => h3 (hi.2 q).2.2.2
    repeat (first | first|apply CG.seq|apply CG.region|apply SG.nil|apply NG.next|apply CG.skip|apply CG.block|apply CG.ret|apply CG.exit|apply NG.ret_then|apply NG.ret_block|apply NG.exit_then|refine NG.exit_block rfl ?_|apply NG.normal_block|refine SG.val rfl rfl rfl rfl (by first|((first|apply qmv|apply qas|apply qlc|apply qla|apply qfa|apply qix|apply qpk|apply qls|apply qei|apply qni|apply qed|apply qnd|apply qad|apply qln)<;>(first|exact rfl|assumption|exact Ar.mk (by omega)|exact dct (by first|assumption|omega)|exact dcf (by first|assumption|omega)|exact List.not_mem_nil|apply dc_length|fail))|fail) ?_ | refine SG.skip rfl rfl ?_)
    refine CG.cond_t rfl (by exact rho_of rfl) rfl ?_
    repeat (first|apply CG.seq|apply CG.region|apply SG.nil|apply NG.next|apply CG.skip|apply CG.block|apply CG.ret|apply CG.exit|apply NG.ret_then|apply NG.ret_block|apply NG.exit_then|refine NG.exit_block rfl ?_|apply NG.normal_block|refine SG.val rfl rfl rfl rfl (by first|((first|apply qmv|apply qas|apply qlc|apply qla|apply qfa|apply qix|apply qpk|apply qls|apply qei|apply qni|apply qed|apply qnd|apply qad|apply qln)<;>(first|exact rfl|assumption|exact Ar.mk (by omega)|exact dct (by first|assumption|omega)|exact dcf (by first|assumption|omega)|exact List.not_mem_nil|apply dc_length|fail))|fail) ?_)
    refine ret1 (Or.inl rfl) Try.results15 (by first | exact ResV.tmp rfl | exact ResV.agg rfl rfl (by assumption) (by first | exact dc_length _ | exact nc_length _ | exact rc_length _ _ _ | exact ec_length _ | exact dl_length _ _ _ _ | rfl) | exact ResV.cell rfl rfl (by assumption)) ?_
    rw [decide_eq_false h0]
    exact ⟨rfl, k2⟩
  by_cases h4 : d.who.length = e.who.length
  rotate_left
  · have h0 : d ≠ e := fun q => h4 (by rw [q])
    have g4 : ¬ (d.who.length : Int) = (e.who.length : Int) := by omega
    repeat (first | first|apply CG.seq|apply CG.region|apply SG.nil|apply NG.next|apply CG.skip|apply CG.block|apply CG.ret|apply CG.exit|apply NG.ret_then|apply NG.ret_block|apply NG.exit_then|refine NG.exit_block rfl ?_|apply NG.normal_block|refine SG.val rfl rfl rfl rfl (by first|((first|apply qmv|apply qas|apply qlc|apply qla|apply qfa|apply qix|apply qpk|apply qls|apply qei|apply qni|apply qed|apply qnd|apply qad|apply qln)<;>(first|exact rfl|assumption|exact Ar.mk (by omega)|exact dct (by first|assumption|omega)|exact dcf (by first|assumption|omega)|exact List.not_mem_nil|apply dc_length|fail))|fail) ?_ | refine SG.skip rfl rfl ?_)
    refine CG.cond_t rfl (by exact rho_of rfl) rfl ?_
    repeat (first|apply CG.seq|apply CG.region|apply SG.nil|apply NG.next|apply CG.skip|apply CG.block|apply CG.ret|apply CG.exit|apply NG.ret_then|apply NG.ret_block|apply NG.exit_then|refine NG.exit_block rfl ?_|apply NG.normal_block|refine SG.val rfl rfl rfl rfl (by first|((first|apply qmv|apply qas|apply qlc|apply qla|apply qfa|apply qix|apply qpk|apply qls|apply qei|apply qni|apply qed|apply qnd|apply qad|apply qln)<;>(first|exact rfl|assumption|exact Ar.mk (by omega)|exact dct (by first|assumption|omega)|exact dcf (by first|assumption|omega)|exact List.not_mem_nil|apply dc_length|fail))|fail) ?_)
    refine ret1 (Or.inl rfl) Try.results15 (by first | exact ResV.tmp rfl | exact ResV.agg rfl rfl (by assumption) (by first | exact dc_length _ | exact nc_length _ | exact rc_length _ _ _ | exact ec_length _ | exact dl_length _ _ _ _ | rfl) | exact ResV.cell rfl rfl (by assumption)) ?_
    rw [decide_eq_false h0]
    exact ⟨rfl, k2⟩
  have g4 : (d.who.length : Int) = (e.who.length : Int) := by omega
  repeat (first | first|apply CG.seq|apply CG.region|apply SG.nil|apply NG.next|apply CG.skip|apply CG.block|apply CG.ret|apply CG.exit|apply NG.ret_then|apply NG.ret_block|apply NG.exit_then|refine NG.exit_block rfl ?_|apply NG.normal_block|refine SG.val rfl rfl rfl rfl (by first|((first|apply qmv|apply qas|apply qlc|apply qla|apply qfa|apply qix|apply qpk|apply qls|apply qei|apply qni|apply qed|apply qnd|apply qad|apply qln)<;>(first|exact rfl|assumption|exact Ar.mk (by omega)|exact dct (by first|assumption|omega)|exact dcf (by first|assumption|omega)|exact List.not_mem_nil|apply dc_length|fail))|fail) ?_ | refine SG.skip rfl rfl ?_)
  refine CG.cond_f rfl (by exact rho_of rfl) rfl ?_
  repeat (first|apply CG.seq|apply CG.region|apply SG.nil|apply NG.next|apply CG.skip|apply CG.block|apply CG.ret|apply CG.exit|apply NG.ret_then|apply NG.ret_block|apply NG.exit_then|refine NG.exit_block rfl ?_|apply NG.normal_block|refine SG.val rfl rfl rfl rfl (by first|((first|apply qmv|apply qas|apply qlc|apply qla|apply qfa|apply qix|apply qpk|apply qls|apply qei|apply qni|apply qed|apply qnd|apply qad|apply qln)<;>(first|exact rfl|assumption|exact Ar.mk (by omega)|exact dct (by first|assumption|omega)|exact dcf (by first|assumption|omega)|exact List.not_mem_nil|apply dc_length|fail))|fail) ?_)
  refine CG.loop (X := Nat) (fun i => [(2, .pointer (some ⟨b1, 0, none⟩)), (3, .pointer (some ⟨b2, 0, none⟩)), (5, .int .i64 (i : Int))]) (fun i w' => i ≤ d.who.length ∧ Kp [] w2 w' ∧ d.who.take i = e.who.take i) (fun i => d.who.length - i) 0 ⟨by omega, Kp.refl _ _, rfl⟩ (by (repeat' (first | exact True.intro | exact rfl | refine And.intro ?_ ?_))) ?_
  rintro i w3 ⟨hil, hk, ht⟩
  obtain ⟨-, a1, -, -, -⟩ := dl_rows (hB1.kp0 hk)
  obtain ⟨-, r1, -, -, -⟩ := dl_rows (hB2.kp0 hk)
  by_cases hlt : i < d.who.length
  · have g1 : (i : Int) < (d.who.length : Int) := by omega
    have hlt2 : i < e.who.length := by omega
    obtain ⟨b3, o3, rfl, hr3⟩ := (hS.kp0 (k2.trans hk)).at hlt
    obtain ⟨b4, o4, rfl, hr4⟩ := (hT.kp0 (k2.trans hk)).at hlt2
    repeat (first|apply CG.seq|apply CG.region|apply SG.nil|apply NG.next|apply CG.skip|apply CG.block|apply CG.ret|apply CG.exit|apply NG.ret_then|apply NG.ret_block|apply NG.exit_then|refine NG.exit_block rfl ?_|apply NG.normal_block|refine SG.val rfl rfl rfl rfl (by first|((first|apply qmv|apply qas|apply qlc|apply qla|apply qfa|apply qix|apply qpk|apply qls|apply qei|apply qni|apply qed|apply qnd|apply qad|apply qln)<;>(first|exact rfl|assumption|exact Ar.mk (by omega)|exact dct (by first|assumption|omega)|exact dcf (by first|assumption|omega)|exact List.not_mem_nil|apply dc_length|fail))|fail) ?_)
    refine CG.cond_t rfl (by exact rho_of rfl) rfl ?_
    by_cases he : d.who[i] = e.who[i]
    · repeat (first|apply CG.seq|apply CG.region|apply SG.nil|apply NG.next|apply CG.skip|apply CG.block|apply CG.ret|apply CG.exit|apply NG.ret_then|apply NG.ret_block|apply NG.exit_then|refine NG.exit_block rfl ?_|apply NG.normal_block|refine SG.val rfl rfl rfl rfl (by first|((first|apply qmv|apply qas|apply qlc|apply qla|apply qfa|apply qix|apply qpk|apply qls|apply qei|apply qni|apply qed|apply qnd|apply qad|apply qln)<;>(first|exact rfl|assumption|exact Ar.mk (by omega)|exact dct (by first|assumption|omega)|exact dcf (by first|assumption|omega)|exact List.not_mem_nil|apply dc_length|fail))|fail) ?_)
      refine CG.draw0 mixed [0, 1, 2, 3, 4, 5, 6, 7, 8, 9, 10] [] (by kernel_rfl) ?_
      repeat (refine Der.val rfl rfl rfl (by first|((first|apply qmv|apply qas|apply qlc|apply qla|apply qfa|apply qix|apply qpk|apply qls|apply qei|apply qni|apply qed|apply qnd|apply qad|apply qln)<;>(first|exact rfl|assumption|exact Ar.mk (by omega)|exact dct (by first|assumption|omega)|exact dcf (by first|assumption|omega)|exact List.not_mem_nil|apply dc_length|fail))|fail) ?_)
      refine Der.fin (fun w4 hk4 _ _ => ?_)
      repeat (first|apply CG.seq|apply CG.region|apply SG.nil|apply NG.next|apply CG.skip|apply CG.block|apply CG.ret|apply CG.exit|apply NG.ret_then|apply NG.ret_block|apply NG.exit_then|refine NG.exit_block rfl ?_|apply NG.normal_block|refine SG.val rfl rfl rfl rfl (by first|((first|apply qmv|apply qas|apply qlc|apply qla|apply qfa|apply qix|apply qpk|apply qls|apply qei|apply qni|apply qed|apply qnd|apply qad|apply qln)<;>(first|exact rfl|assumption|exact Ar.mk (by omega)|exact dct (by first|assumption|omega)|exact dcf (by first|assumption|omega)|exact List.not_mem_nil|apply dc_length|fail))|fail) ?_)
      refine CG.cond_f rfl (by exact rho_of rfl) rfl ?_
      repeat (first|apply CG.seq|apply CG.region|apply SG.nil|apply NG.next|apply CG.skip|apply CG.block|apply CG.ret|apply CG.exit|apply NG.ret_then|apply NG.ret_block|apply NG.exit_then|refine NG.exit_block rfl ?_|apply NG.normal_block|refine SG.val rfl rfl rfl rfl (by first|((first|apply qmv|apply qas|apply qlc|apply qla|apply qfa|apply qix|apply qpk|apply qls|apply qei|apply qni|apply qed|apply qnd|apply qad|apply qln)<;>(first|exact rfl|assumption|exact Ar.mk (by omega)|exact dct (by first|assumption|omega)|exact dcf (by first|assumption|omega)|exact List.not_mem_nil|apply dc_length|fail))|fail) ?_)
      refine NG.round (i + 1) (by (repeat' (first | exact True.intro | exact rfl | refine And.intro ?_ ?_))) ⟨by omega, hk.trans hk4, take_eq_step ht hlt hlt2 he⟩ (by omega)
    · have h0 : d ≠ e := fun q => ne_of_get hlt hlt2 he (hi.2 q).2.1
      repeat (first|apply CG.seq|apply CG.region|apply SG.nil|apply NG.next|apply CG.skip|apply CG.block|apply CG.ret|apply CG.exit|apply NG.ret_then|apply NG.ret_block|apply NG.exit_then|refine NG.exit_block rfl ?_|apply NG.normal_block|refine SG.val rfl rfl rfl rfl (by first|((first|apply qmv|apply qas|apply qlc|apply qla|apply qfa|apply qix|apply qpk|apply qls|apply qei|apply qni|apply qed|apply qnd|apply qad|apply qln)<;>(first|exact rfl|assumption|exact Ar.mk (by omega)|exact dct (by first|assumption|omega)|exact dcf (by first|assumption|omega)|exact List.not_mem_nil|apply dc_length|fail))|fail) ?_)
      refine CG.draw0 mixed [0, 1, 2, 3, 4, 5, 6, 7, 8, 9, 10] [] (by kernel_rfl) ?_
      repeat (refine Der.val rfl rfl rfl (by first|((first|apply qmv|apply qas|apply qlc|apply qla|apply qfa|apply qix|apply qpk|apply qls|apply qei|apply qni|apply qed|apply qnd|apply qad|apply qln)<;>(first|exact rfl|assumption|exact Ar.mk (by omega)|exact dct (by first|assumption|omega)|exact dcf (by first|assumption|omega)|exact List.not_mem_nil|apply dc_length|fail))|fail) ?_)
      refine Der.fin (fun w4 hk4 _ _ => ?_)
      repeat (first|apply CG.seq|apply CG.region|apply SG.nil|apply NG.next|apply CG.skip|apply CG.block|apply CG.ret|apply CG.exit|apply NG.ret_then|apply NG.ret_block|apply NG.exit_then|refine NG.exit_block rfl ?_|apply NG.normal_block|refine SG.val rfl rfl rfl rfl (by first|((first|apply qmv|apply qas|apply qlc|apply qla|apply qfa|apply qix|apply qpk|apply qls|apply qei|apply qni|apply qed|apply qnd|apply qad|apply qln)<;>(first|exact rfl|assumption|exact Ar.mk (by omega)|exact dct (by first|assumption|omega)|exact dcf (by first|assumption|omega)|exact List.not_mem_nil|apply dc_length|fail))|fail) ?_)
      refine CG.cond_t rfl (by exact rho_of rfl) rfl ?_
      repeat (first|apply CG.seq|apply CG.region|apply SG.nil|apply NG.next|apply CG.skip|apply CG.block|apply CG.ret|apply CG.exit|apply NG.ret_then|apply NG.ret_block|apply NG.exit_then|refine NG.exit_block rfl ?_|apply NG.normal_block|refine SG.val rfl rfl rfl rfl (by first|((first|apply qmv|apply qas|apply qlc|apply qla|apply qfa|apply qix|apply qpk|apply qls|apply qei|apply qni|apply qed|apply qnd|apply qad|apply qln)<;>(first|exact rfl|assumption|exact Ar.mk (by omega)|exact dct (by first|assumption|omega)|exact dcf (by first|assumption|omega)|exact List.not_mem_nil|apply dc_length|fail))|fail) ?_)
      refine ret1 (Or.inl rfl) Try.results15 (by first | exact ResV.tmp rfl | exact ResV.agg rfl rfl (by assumption) (by first | exact dc_length _ | exact nc_length _ | exact rc_length _ _ _ | exact ec_length _ | exact dl_length _ _ _ _ | rfl) | exact ResV.cell rfl rfl (by assumption)) ?_
      rw [decide_eq_false h0]
      exact ⟨rfl, (k2.trans hk).trans hk4⟩
  · have g1 : ¬ (i : Int) < (d.who.length : Int) := by omega
    have heq : d.who = e.who := by
      have e1 : d.who.take i = d.who := List.take_of_length_le (by omega)
      have e2 : e.who.take i = e.who := List.take_of_length_le (by omega)
      rw [← e1, ← e2, ht]
    have h0 : d = e := hi.1 ⟨h1, heq, h2, h3⟩
    repeat (first|apply CG.seq|apply CG.region|apply SG.nil|apply NG.next|apply CG.skip|apply CG.block|apply CG.ret|apply CG.exit|apply NG.ret_then|apply NG.ret_block|apply NG.exit_then|refine NG.exit_block rfl ?_|apply NG.normal_block|refine SG.val rfl rfl rfl rfl (by first|((first|apply qmv|apply qas|apply qlc|apply qla|apply qfa|apply qix|apply qpk|apply qls|apply qei|apply qni|apply qed|apply qnd|apply qad|apply qln)<;>(first|exact rfl|assumption|exact Ar.mk (by omega)|exact dct (by first|assumption|omega)|exact dcf (by first|assumption|omega)|exact List.not_mem_nil|apply dc_length|fail))|fail) ?_)
    refine CG.cond_f rfl (by exact rho_of rfl) rfl ?_
    repeat (first|apply CG.seq|apply CG.region|apply SG.nil|apply NG.next|apply CG.skip|apply CG.block|apply CG.ret|apply CG.exit|apply NG.ret_then|apply NG.ret_block|apply NG.exit_then|refine NG.exit_block rfl ?_|apply NG.normal_block|refine SG.val rfl rfl rfl rfl (by first|((first|apply qmv|apply qas|apply qlc|apply qla|apply qfa|apply qix|apply qpk|apply qls|apply qei|apply qni|apply qed|apply qnd|apply qad|apply qln)<;>(first|exact rfl|assumption|exact Ar.mk (by omega)|exact dct (by first|assumption|omega)|exact dcf (by first|assumption|omega)|exact List.not_mem_nil|apply dc_length|fail))|fail) ?_)
    refine ret1 (Or.inl rfl) Try.results15 (by first | exact ResV.tmp rfl | exact ResV.agg rfl rfl (by assumption) (by first | exact dc_length _ | exact nc_length _ | exact rc_length _ _ _ | exact ec_length _ | exact dl_length _ _ _ _ | rfl) | exact ResV.cell rfl rfl (by assumption)) ?_
    rw [decide_eq_true h0]
    exact ⟨rfl, k2.trans hk⟩
end Go.Proofs.Ytnoipmimddoioaa
/-
  The chapter's example; whether a deal follows of offers.
-/
namespace Go.Proofs.Ytnoipmimddoioaa
open Go.Proofs Go.Shelf Go.Sort
set_option linter.unusedVariables false

def exA : List Ofr := [oneO 1 5 9 10, oneO 2 7 20 30]
def exB : List Ofr := [oneO 1 5 6 10, oneO 2 7 20 30]
theorem exA_eq : dealOf exA = (goodDel (d1 7) exA, 0) := by
  have h1 : ((exA.length : Int) = 2) := rfl
  have h2 : exA.all (fun x => decide x.Ok) = true := by decide
  have h3 : decide (exA.Pairwise fitP) = true := by decide
  show (if (exA.length : Int) = 2 then (if exA.all (fun x => decide x.Ok) then (if decide (exA.Pairwise fitP) then (goodDel (d1 7) exA, 0) else (zDel, 11)) else (zDel, 2)) else (zDel, 3)) = (goodDel (d1 7) exA, (0 : Int))
  rw [if_pos h1, if_pos h2, if_pos h3]
theorem exB_eq : dealOf exB = (zDel, 11) := by
  have h1 : ((exB.length : Int) = 2) := rfl
  have h2 : exB.all (fun x => decide x.Ok) = true := by decide
  have h3 : ¬ (decide (exB.Pairwise fitP) = true) := by decide
  show (if (exB.length : Int) = 2 then (if exB.all (fun x => decide x.Ok) then (if decide (exB.Pairwise fitP) then (goodDel (d1 7) exB, 0) else (zDel, 11)) else (zDel, 2)) else (zDel, 3)) = (zDel, (11 : Int))
  rw [if_pos h1, if_pos h2, if_neg h3]
theorem exA_st : maxs (·.least) exA = 7 := by decide
theorem exA_wi : maxs (·.window) exA = 30 := by decide
def followsZ (d : Del) (l : List Ofr) : Int := if (dealOf l).2 = 0 then (if d = (dealOf l).1 then 0 else 11) else (dealOf l).2

attribute [local irreducible] CG NG SG Vals Der Row Blk MapIs IterAt addI xorI orI andI shlI shrI mulI twoI cmpD cmpW kW digO manyI mixD sortK maxs
theorem good_len (r : Dg) (l : List Ofr) : (goodDel r l).who.length = l.length := by
  show (sortK (kW (mixD l)) (l.map (·.who))).length = l.length
  rw [(sortK_perm _ _).length_eq, List.length_map]
theorem exA_who : (goodDel (d1 7) exA).who.length = 2 := good_len (d1 7) exA
set_option maxHeartbeats 16000000 in
theorem known_spec (w : World) : Ret Try.prog 13 #[] w (.bool true) := by
  refine enter0 Try.func13 rfl Try.ntmps13 ?_
  repeat (first|apply CG.seq|apply CG.region|apply SG.nil|apply NG.next|apply CG.skip|apply CG.ret|apply NG.ret_then|refine SG.val rfl rfl rfl rfl (by first|((first|apply qmv|apply qas|apply qlc|apply qla|apply qfa|apply qpk|apply qei|apply qni|apply qed|apply qln|apply qxt|apply qnt)<;>(first|exact rfl|assumption|exact dct (by first|assumption|omega)|exact dcf (by first|assumption|omega)|exact List.not_mem_nil|apply dc_length|apply ec_length|apply dl_length|fail))|fail) ?_)
  refine SG.ret rfl rfl rfl (vs := [bv 1, .int .i64 5, .int .i64 9, .int .i64 10]) (by repeat' (first | exact True.intro | exact rho_of rfl | refine And.intro ?_ ?_)) (one_spec 1 5 9 10 w) (fun w1 hk1 => ?_)
  refine SG.ret rfl rfl rfl (vs := [bv 2, .int .i64 7, .int .i64 20, .int .i64 30]) (by repeat' (first | exact True.intro | exact rho_of rfl | refine And.intro ?_ ?_)) (one_spec 2 7 20 30 w1) (fun w2 hk2 => ?_)
  refine SG.buildSlice rfl rfl rfl rfl (fun w => bso2' w 1 2 5 9 10 7 20 30) (fun b3 w3 hk3 hb3 hB3 => ?_)
  have hS3 : Sl ec 21 w3 (some ⟨b3, 0, none⟩) exA := flt_rowf ec_length hB3
  have hof := of2_spec (c := 2) hS3 (by decide) (by decide)
  rw [exA_eq] at hof
  refine SG.call rfl rfl rfl (vs := [.slice (some ⟨b3, 0, none⟩) 2 2]) (by repeat' (first | exact True.intro | exact rho_of rfl | refine And.intro ?_ ?_)) (hof.mono (fun e w4 hh => ?_))
  obtain ⟨v4, he, ⟨s4, rfl, ho4⟩, hk4⟩ := hh
  refine ⟨_, he, ?_⟩
  obtain ⟨a4, c4, rfl⟩ := own_sl ho4
  have k4 := ((hk1.trans hk2).trans hk3).trans hk4
  simp only at ho4
  repeat (first|apply CG.seq|apply CG.region|apply SG.nil|apply NG.next|apply CG.skip|apply CG.ret|apply NG.ret_then|refine SG.val rfl rfl rfl rfl (by first|((first|apply qmv|apply qas|apply qlc|apply qla|apply qfa|apply qpk|apply qei|apply qni|apply qed|apply qln|apply qxt|apply qnt)<;>(first|exact rfl|assumption|exact dct (by first|assumption|omega)|exact dcf (by first|assumption|omega)|exact List.not_mem_nil|apply dc_length|apply ec_length|apply dl_length|fail))|fail) ?_)
  refine SG.alloc rfl rfl rfl (fun b5 w5 hk5 hb5 hB5 => ?_)
  refine SG.setAll (l := dl (goodDel (d1 7) exA).rules (.slice a4 (goodDel (d1 7) exA).who.length c4) (goodDel (d1 7) exA).stake (goodDel (d1 7) exA).window) rfl rfl (by exact rho_of rfl) (by exact rho_of rfl) hB5 (dl_length _ _ _ _) rfl (dl_one _ _ _ _ _ _) (fun w6 hk6 hB6 => ?_)
  have hB6 : Blk w6 b5 (.cells (dl (d1 7) (.slice a4 (goodDel (d1 7) exA).who.length c4) (maxs (·.least) exA) (maxs (·.window) exA)).toArray 27) := hB6
  rw [exA_who, exA_st, exA_wi] at hB6
  have l5 := hB6.lt
  have k6 : Kp [] w w6 := (k4.trans hk5).trans_new hk6 (new1 (by have := k4.size; omega))
  repeat (first|apply CG.seq|apply CG.region|apply SG.nil|apply NG.next|apply CG.skip|apply CG.ret|apply NG.ret_then|refine SG.val rfl rfl rfl rfl (by first|((first|apply qmv|apply qas|apply qlc|apply qla|apply qfa|apply qpk|apply qei|apply qni|apply qed|apply qln|apply qxt|apply qnt)<;>(first|exact rfl|assumption|exact dct (by first|assumption|omega)|exact dcf (by first|assumption|omega)|exact List.not_mem_nil|apply dc_length|apply ec_length|apply dl_length|fail))|fail) ?_)
  refine SG.ret rfl rfl rfl (vs := [bv 1, .int .i64 5, .int .i64 6, .int .i64 10]) (by repeat' (first | exact True.intro | exact rho_of rfl | refine And.intro ?_ ?_)) (one_spec 1 5 6 10 w6) (fun w7 hk7 => ?_)
  refine SG.ret rfl rfl rfl (vs := [bv 2, .int .i64 7, .int .i64 20, .int .i64 30]) (by repeat' (first | exact True.intro | exact rho_of rfl | refine And.intro ?_ ?_)) (one_spec 2 7 20 30 w7) (fun w8 hk8 => ?_)
  refine SG.buildSlice rfl rfl rfl rfl (fun w => bso2' w 1 2 5 6 10 7 20 30) (fun b9 w9 hk9 hb9 hB9 => ?_)
  have hS9 : Sl ec 21 w9 (some ⟨b9, 0, none⟩) exB := flt_rowf ec_length hB9
  have hof := of2_spec (c := 2) hS9 (by decide) (by decide)
  rw [exB_eq] at hof
  refine SG.call rfl rfl rfl (vs := [.slice (some ⟨b9, 0, none⟩) 2 2]) (by repeat' (first | exact True.intro | exact rho_of rfl | refine And.intro ?_ ?_)) (hof.mono (fun e w10 hh => ?_))
  obtain ⟨v10, he, ⟨s10, rfl, ho10⟩, hk10⟩ := hh
  refine ⟨_, he, ?_⟩
  obtain ⟨a10, c10, rfl⟩ := own_sl ho10
  have k10 := ((hk7.trans hk8).trans hk9).trans hk10
  repeat (first|apply CG.seq|apply CG.region|apply SG.nil|apply NG.next|apply CG.skip|apply CG.ret|apply NG.ret_then|refine SG.val rfl rfl rfl rfl (by first|((first|apply qmv|apply qas|apply qlc|apply qla|apply qfa|apply qpk|apply qei|apply qni|apply qed|apply qln|apply qxt|apply qnt)<;>(first|exact rfl|assumption|exact dct (by first|assumption|omega)|exact dcf (by first|assumption|omega)|exact List.not_mem_nil|apply dc_length|apply ec_length|apply dl_length|fail))|fail) ?_)
  refine SG.alloc rfl rfl rfl (fun b11 w11 hk11 hb11 hB11 => ?_)
  refine SG.setAll (l := dl zDel.rules (.slice a10 zDel.who.length c10) zDel.stake zDel.window) rfl rfl (by exact rho_of rfl) (by exact rho_of rfl) hB11 (dl_length _ _ _ _) rfl (dl_one _ _ _ _ _ _) (fun w12 hk12 hB12 => ?_)
  have k12 : Kp [] w6 w12 := (k10.trans hk11).trans_new hk12 (new1 (by have := k10.size; omega))
  obtain ⟨r0, r1, r2, r3, -⟩ := dl_rows (hB6.kp0 k12)
  have g0 : (0 : Int) = 0 := rfl
  have g7 : (7 : Int) = 7 := rfl
  have g30 : (30 : Int) = 30 := rfl
  have g2 : ((2 : Nat) : Int) = 2 := rfl
  have g11 : (11 : Int) = 11 := rfl
  have gd : d1 7 = d1 7 := rfl
  repeat (first | first|apply CG.seq|apply CG.region|apply SG.nil|apply NG.next|apply CG.skip|apply CG.ret|apply NG.ret_then|refine SG.val rfl rfl rfl rfl (by first|((first|apply qmv|apply qas|apply qlc|apply qla|apply qfa|apply qpk|apply qei|apply qni|apply qed|apply qln|apply qxt|apply qnt)<;>(first|exact rfl|assumption|exact dct (by first|assumption|omega)|exact dcf (by first|assumption|omega)|exact List.not_mem_nil|apply dc_length|apply ec_length|apply dl_length|fail))|fail) ?_ | refine SG.skip rfl rfl ?_)
  refine SG.val rfl rfl rfl rfl (vals_build rfl (bd1 7)) ?_
  repeat (first | first|apply CG.seq|apply CG.region|apply SG.nil|apply NG.next|apply CG.skip|apply CG.ret|apply NG.ret_then|refine SG.val rfl rfl rfl rfl (by first|((first|apply qmv|apply qas|apply qlc|apply qla|apply qfa|apply qpk|apply qei|apply qni|apply qed|apply qln|apply qxt|apply qnt)<;>(first|exact rfl|assumption|exact dct (by first|assumption|omega)|exact dcf (by first|assumption|omega)|exact List.not_mem_nil|apply dc_length|apply ec_length|apply dl_length|fail))|fail) ?_ | refine SG.skip rfl rfl ?_)
  refine ret1 (Or.inl rfl) Try.results13 (by first | exact ResV.tmp rfl | exact ResV.agg rfl rfl (by assumption) (by first | exact dc_length _ | exact nc_length _ | exact rc_length _ _ _ | exact ec_length _ | exact dl_length _ _ _ _ | rfl) | exact ResV.cell rfl rfl (by assumption)) ?_
  exact ⟨rfl, k6.trans k12⟩
set_option maxHeartbeats 16000000 in
theorem follows_spec {w : World} (d : Del) {a a' : Option Addr} {c c' : Nat} {l : List Ofr} (hD : Sl dc 8 w a d.who) (hdl : d.who.length ≤ 1000000) (hS : Sl ec 21 w a' l) (hl : l.length ≤ 10000) (hc : l.length ≤ c') : Ret Try.prog 27 #[dealV d.rules (.slice a d.who.length c) d.stake d.window, .slice a' l.length c'] w (.int .i64 (followsZ d l)) := by
  refine enter2 Try.func27 rfl Try.ntmps27 rfl ?_
  unfold followsZ
  repeat (first|apply CG.seq|apply CG.region|apply SG.nil|apply NG.next|apply CG.skip|apply CG.ret|apply NG.ret_then|refine SG.val rfl rfl rfl rfl (by first|((first|apply qmv|apply qas|apply qlc|apply qla|apply qfa|apply qpk|apply qei|apply qni|apply qed|apply qln|apply qxt|apply qnt)<;>(first|exact rfl|assumption|exact dct (by first|assumption|omega)|exact dcf (by first|assumption|omega)|exact List.not_mem_nil|apply dc_length|apply ec_length|apply dl_length|fail))|fail) ?_)
  refine SG.box rfl rfl rfl (by exact rho_of rfl) (fun b1 w1 hk1 hb1 hB1 => ?_)
  have hB1 : Blk w1 b1 (.cells (dl d.rules (.slice a d.who.length c) d.stake d.window).toArray 27) := hB1
  have hof := of2_spec (c := c') (hS.kp0 hk1) hl hc
  generalize dealOf l = q at hof
  obtain ⟨d2, z⟩ := q
  simp only at hof ⊢
  repeat (first|apply CG.seq|apply CG.region|apply SG.nil|apply NG.next|apply CG.skip|apply CG.ret|apply NG.ret_then|refine SG.val rfl rfl rfl rfl (by first|((first|apply qmv|apply qas|apply qlc|apply qla|apply qfa|apply qpk|apply qei|apply qni|apply qed|apply qln|apply qxt|apply qnt)<;>(first|exact rfl|assumption|exact dct (by first|assumption|omega)|exact dcf (by first|assumption|omega)|exact List.not_mem_nil|apply dc_length|apply ec_length|apply dl_length|fail))|fail) ?_)
  refine SG.call rfl rfl rfl (vs := [.slice a' l.length c']) (by repeat' (first | exact True.intro | exact rho_of rfl | refine And.intro ?_ ?_)) (hof.mono (fun e w4 hh => ?_))
  obtain ⟨v4, he, ⟨s4, rfl, ho4⟩, hk4⟩ := hh
  refine ⟨_, he, ?_⟩
  obtain ⟨a4, c4, rfl, _, hS4⟩ := Sl.own dc_length ho4 rfl
  have k4 := hk1.trans hk4
  repeat (first|apply CG.seq|apply CG.region|apply SG.nil|apply NG.next|apply CG.skip|apply CG.ret|apply NG.ret_then|refine SG.val rfl rfl rfl rfl (by first|((first|apply qmv|apply qas|apply qlc|apply qla|apply qfa|apply qpk|apply qei|apply qni|apply qed|apply qln|apply qxt|apply qnt)<;>(first|exact rfl|assumption|exact dct (by first|assumption|omega)|exact dcf (by first|assumption|omega)|exact List.not_mem_nil|apply dc_length|apply ec_length|apply dl_length|fail))|fail) ?_)
  refine SG.alloc rfl rfl rfl (fun b5 w5 hk5 hb5 hB5 => ?_)
  refine SG.setAll (l := dl d2.rules (.slice a4 d2.who.length c4) d2.stake d2.window) rfl rfl (by exact rho_of rfl) (by exact rho_of rfl) hB5 (dl_length _ _ _ _) rfl (dl_one _ _ _ _ _ _) (fun w6 hk6 hB6 => ?_)
  have hr6 := Row.all (l := dl d2.rules (.slice a4 d2.who.length c4) d2.stake d2.window) hB6 rfl
  have k56 : Kp [] w4 w6 := hk5.trans_new hk6 (new1 (by omega))
  have k6 := k4.trans k56
  have hr1 := Row.all (l := dl d.rules (.slice a d.who.length c) d.stake d.window) (hB1.kp0 (hk4.trans k56)) rfl
  by_cases hz : z = 0
  · rw [if_pos hz]
    repeat (first|apply CG.seq|apply CG.region|apply SG.nil|apply NG.next|apply CG.skip|apply CG.ret|apply NG.ret_then|refine SG.val rfl rfl rfl rfl (by first|((first|apply qmv|apply qas|apply qlc|apply qla|apply qfa|apply qpk|apply qei|apply qni|apply qed|apply qln|apply qxt|apply qnt)<;>(first|exact rfl|assumption|exact dct (by first|assumption|omega)|exact dcf (by first|assumption|omega)|exact List.not_mem_nil|apply dc_length|apply ec_length|apply dl_length|fail))|fail) ?_)
    refine CG.cond_f rfl (by exact rho_of rfl) rfl ?_
    repeat (first|apply CG.seq|apply CG.region|apply SG.nil|apply NG.next|apply CG.skip|apply CG.ret|apply NG.ret_then|refine SG.val rfl rfl rfl rfl (by first|((first|apply qmv|apply qas|apply qlc|apply qla|apply qfa|apply qpk|apply qei|apply qni|apply qed|apply qln|apply qxt|apply qnt)<;>(first|exact rfl|assumption|exact dct (by first|assumption|omega)|exact dcf (by first|assumption|omega)|exact List.not_mem_nil|apply dc_length|apply ec_length|apply dl_length|fail))|fail) ?_)
    refine SG.ret rfl rfl rfl (vs := [dealV d.rules (.slice a d.who.length c) d.stake d.window, dealV d2.rules (.slice a4 d2.who.length c4) d2.stake d2.window]) (by repeat' (first | exact True.intro | exact rho_of rfl | refine And.intro ?_ ?_)) (same_spec d d2 (hD.kp0 k6) (hS4.kp0 k56) (by omega)) (fun w7 hk7 => ?_)
    by_cases hd : d = d2
    · rw [decide_eq_true hd, if_pos hd]
      repeat (first|apply CG.seq|apply CG.region|apply SG.nil|apply NG.next|apply CG.skip|apply CG.ret|apply NG.ret_then|refine SG.val rfl rfl rfl rfl (by first|((first|apply qmv|apply qas|apply qlc|apply qla|apply qfa|apply qpk|apply qei|apply qni|apply qed|apply qln|apply qxt|apply qnt)<;>(first|exact rfl|assumption|exact dct (by first|assumption|omega)|exact dcf (by first|assumption|omega)|exact List.not_mem_nil|apply dc_length|apply ec_length|apply dl_length|fail))|fail) ?_)
      refine CG.cond_f rfl (by exact rho_of rfl) rfl ?_
      repeat (first|apply CG.seq|apply CG.region|apply SG.nil|apply NG.next|apply CG.skip|apply CG.ret|apply NG.ret_then|refine SG.val rfl rfl rfl rfl (by first|((first|apply qmv|apply qas|apply qlc|apply qla|apply qfa|apply qpk|apply qei|apply qni|apply qed|apply qln|apply qxt|apply qnt)<;>(first|exact rfl|assumption|exact dct (by first|assumption|omega)|exact dcf (by first|assumption|omega)|exact List.not_mem_nil|apply dc_length|apply ec_length|apply dl_length|fail))|fail) ?_)
      refine ret1 (Or.inl rfl) Try.results27 (by first | exact ResV.tmp rfl | exact ResV.agg rfl rfl (by assumption) (by first | exact dc_length _ | exact nc_length _ | exact rc_length _ _ _ | exact ec_length _ | exact dl_length _ _ _ _ | rfl) | exact ResV.cell rfl rfl (by assumption)) ?_
      exact ⟨rfl, k6.trans hk7⟩
    · rw [decide_eq_false hd, if_neg hd]
      repeat (first|apply CG.seq|apply CG.region|apply SG.nil|apply NG.next|apply CG.skip|apply CG.ret|apply NG.ret_then|refine SG.val rfl rfl rfl rfl (by first|((first|apply qmv|apply qas|apply qlc|apply qla|apply qfa|apply qpk|apply qei|apply qni|apply qed|apply qln|apply qxt|apply qnt)<;>(first|exact rfl|assumption|exact dct (by first|assumption|omega)|exact dcf (by first|assumption|omega)|exact List.not_mem_nil|apply dc_length|apply ec_length|apply dl_length|fail))|fail) ?_)
      refine CG.cond_t rfl (by exact rho_of rfl) rfl ?_
      repeat (first|apply CG.seq|apply CG.region|apply SG.nil|apply NG.next|apply CG.skip|apply CG.ret|apply NG.ret_then|refine SG.val rfl rfl rfl rfl (by first|((first|apply qmv|apply qas|apply qlc|apply qla|apply qfa|apply qpk|apply qei|apply qni|apply qed|apply qln|apply qxt|apply qnt)<;>(first|exact rfl|assumption|exact dct (by first|assumption|omega)|exact dcf (by first|assumption|omega)|exact List.not_mem_nil|apply dc_length|apply ec_length|apply dl_length|fail))|fail) ?_)
      refine ret1 (Or.inl rfl) Try.results27 (by first | exact ResV.tmp rfl | exact ResV.agg rfl rfl (by assumption) (by first | exact dc_length _ | exact nc_length _ | exact rc_length _ _ _ | exact ec_length _ | exact dl_length _ _ _ _ | rfl) | exact ResV.cell rfl rfl (by assumption)) ?_
      exact ⟨rfl, k6.trans hk7⟩
  · rw [if_neg hz]
    repeat (first|apply CG.seq|apply CG.region|apply SG.nil|apply NG.next|apply CG.skip|apply CG.ret|apply NG.ret_then|refine SG.val rfl rfl rfl rfl (by first|((first|apply qmv|apply qas|apply qlc|apply qla|apply qfa|apply qpk|apply qei|apply qni|apply qed|apply qln|apply qxt|apply qnt)<;>(first|exact rfl|assumption|exact dct (by first|assumption|omega)|exact dcf (by first|assumption|omega)|exact List.not_mem_nil|apply dc_length|apply ec_length|apply dl_length|fail))|fail) ?_)
    refine CG.cond_t rfl (by exact rho_of rfl) rfl ?_
    repeat (first|apply CG.seq|apply CG.region|apply SG.nil|apply NG.next|apply CG.skip|apply CG.ret|apply NG.ret_then|refine SG.val rfl rfl rfl rfl (by first|((first|apply qmv|apply qas|apply qlc|apply qla|apply qfa|apply qpk|apply qei|apply qni|apply qed|apply qln|apply qxt|apply qnt)<;>(first|exact rfl|assumption|exact dct (by first|assumption|omega)|exact dcf (by first|assumption|omega)|exact List.not_mem_nil|apply dc_length|apply ec_length|apply dl_length|fail))|fail) ?_)
    refine ret1 (Or.inl rfl) Try.results27 (by first | exact ResV.tmp rfl | exact ResV.agg rfl rfl (by assumption) (by first | exact dc_length _ | exact nc_length _ | exact rc_length _ _ _ | exact ec_length _ | exact dl_length _ _ _ _ | rfl) | exact ResV.cell rfl rfl (by assumption)) ?_
    exact ⟨rfl, k6⟩
end Go.Proofs.Ytnoipmimddoioaa
/-
  The lesser of two ints.
-/
namespace Go.Proofs.Ytnoipmimddoioaa
set_option linter.unusedVariables false
section
variable {P : Program} {S : List Nat} {w0 : World} {F : World → Prop} {L : Env} {d : Option Nat} {ty : TypeId} {pos : String} {af : Array Edge} {g : Option (Nat × Bool)}
theorem qmn {T T2 : TypeId} {x y : Operand} {a b : Int} (hx : ro L x = some (.int .i64 a)) (hy : ro L y = some (.int .i64 b)) :
    Vals P S w0 F L ⟨d, .call { callee := .builtin .min, args := #[x, y], argTypes := #[T, T2] }, ty, pos, af, g⟩ (.int .i64 (if b < a then b else a)) := fun w _ _ => by
  simp [execOp, rho_of hx, rho_of hy, resolve, invoke, builtin, Builtin.min_, Builtin.min2]
end
section
variable {P : Program} {S : List Nat} {w0 : World} {F : World → Prop} {L : Env} {d : Option Nat} {ty : TypeId} {pos : String} {af : Array Edge} {g : Option (Nat × Bool)}
/-- A byte as an int. -/
theorem qb3 {T T' : TypeId} [u : Ut P T (.int .u8)] [u' : Ut P T' (.int .i64)] {x : Operand} {a : UInt8} (hx : ro L x = some (bv a)) : Vals P S w0 F L ⟨d, .convert T T' x, ty, pos, af, g⟩ (.int .i64 (a.toNat : Int)) := by
  have h := qcv (P := P) (S := S) (w0 := w0) (F := F) (d := d) (ty := ty) (pos := pos) (af := af) (g := g) (u := u) (u' := u') hx
  have hlt : a.toNat < 256 := a.toNat_lt
  have e : IntKind.wrap .i64 (a.toNat : Int) = (a.toNat : Int) := by
    simp [IntKind.wrap, IntKind.bits, IntKind.signed]
    omega
  rwa [e] at h
end
theorem min_take {α : Type} (l : List α) (m : Nat) : (if (m : Int) < (l.length : Int) then (m : Int) else (l.length : Int)) = ((l.take m).length : Int) := by
  rw [List.length_take]
  split <;> omega
end Go.Proofs.Ytnoipmimddoioaa
/-
  A nil lobby; a new one. LobbyNil, walked.
-/
namespace Go.Proofs.Ytnoipmimddoioaa
open Go.Proofs Go.Shelf Go.Sort
set_option linter.unusedVariables false

abbrev np : Value := .pointer none
theorem bl1 (z : Int) (w : World) : (Instr.build 95 #[(0, .int .i64 z)]).run Try.prog w = .ok (.agg #[.int .i64 z, .slice none 0 0]) w := by kernel_rfl

attribute [local irreducible] CG NG SG Vals Der Row Blk MapIs IterAt addI xorI orI andI shlI shrI mulI twoI cmpD cmpW kW digO manyI mixD sortK maxs dealOf nameD
set_option maxHeartbeats 8000000 in
theorem post_nil (z : Int) (o : Ofr) (w : World) : Ret Try.prog 29 #[np, .int .i64 z, ov o] w (.int .i64 1) := by
  refine enter3 Try.func29 rfl Try.ntmps29 rfl ?_
  repeat (first|apply CG.seq|apply CG.region|apply SG.nil|apply NG.next|apply CG.skip|apply CG.ret|apply CG.scope|apply NG.ret_then|apply NG.ret_scope|refine SG.val rfl rfl rfl rfl (by first|((first|apply qep|apply qmv|apply qas|apply qla|apply qfa|apply qpk|apply qls|apply qei|apply qln|apply qgt|apply qxt|apply qnt|apply qep)<;>(first|exact rfl|assumption|exact dct (by first|assumption|omega)|exact dcf (by first|assumption|omega)|exact List.not_mem_nil|apply dc_length|apply ec_length|apply dl_length|fail))|fail) ?_)
  refine SG.box rfl rfl rfl (by exact rho_of rfl) (fun b1 w1 hk1 hb1 hB1 => ?_)
  repeat (first|apply CG.seq|apply CG.region|apply SG.nil|apply NG.next|apply CG.skip|apply CG.ret|apply CG.scope|apply NG.ret_then|apply NG.ret_scope|refine SG.val rfl rfl rfl rfl (by first|((first|apply qep|apply qmv|apply qas|apply qla|apply qfa|apply qpk|apply qls|apply qei|apply qln|apply qgt|apply qxt|apply qnt|apply qep)<;>(first|exact rfl|assumption|exact dct (by first|assumption|omega)|exact dcf (by first|assumption|omega)|exact List.not_mem_nil|apply dc_length|apply ec_length|apply dl_length|fail))|fail) ?_)
  refine CG.cond_t rfl (by exact rho_of rfl) rfl ?_
  repeat (first|apply CG.seq|apply CG.region|apply SG.nil|apply NG.next|apply CG.skip|apply CG.ret|apply CG.scope|apply NG.ret_then|apply NG.ret_scope|refine SG.val rfl rfl rfl rfl (by first|((first|apply qep|apply qmv|apply qas|apply qla|apply qfa|apply qpk|apply qls|apply qei|apply qln|apply qgt|apply qxt|apply qnt|apply qep)<;>(first|exact rfl|assumption|exact dct (by first|assumption|omega)|exact dcf (by first|assumption|omega)|exact List.not_mem_nil|apply dc_length|apply ec_length|apply dl_length|fail))|fail) ?_)
  refine ret1 (Or.inl rfl) Try.results29 (by first | exact ResV.tmp rfl | exact ResV.agg rfl rfl (by assumption) (by first | exact dc_length _ | exact nc_length _ | exact rc_length _ _ _ | exact ec_length _ | exact dl_length _ _ _ _ | rfl) | exact ResV.cell rfl rfl (by assumption)) ?_
  exact ⟨rfl, hk1⟩
set_option maxHeartbeats 8000000 in
theorem drop_nil (d : Dg) (w : World) : Ret Try.prog 32 #[np, dv d] w (.bool false) := by
  refine enter2 Try.func32 rfl Try.ntmps32 rfl ?_
  repeat (first|apply CG.seq|apply CG.region|apply SG.nil|apply NG.next|apply CG.skip|apply CG.ret|apply CG.scope|apply NG.ret_then|apply NG.ret_scope|refine SG.val rfl rfl rfl rfl (by first|((first|apply qep|apply qmv|apply qas|apply qla|apply qfa|apply qpk|apply qls|apply qei|apply qln|apply qgt|apply qxt|apply qnt|apply qep)<;>(first|exact rfl|assumption|exact dct (by first|assumption|omega)|exact dcf (by first|assumption|omega)|exact List.not_mem_nil|apply dc_length|apply ec_length|apply dl_length|fail))|fail) ?_)
  refine SG.box rfl rfl rfl (by exact rho_of rfl) (fun b1 w1 hk1 hb1 hB1 => ?_)
  repeat (first|apply CG.seq|apply CG.region|apply SG.nil|apply NG.next|apply CG.skip|apply CG.ret|apply CG.scope|apply NG.ret_then|apply NG.ret_scope|refine SG.val rfl rfl rfl rfl (by first|((first|apply qep|apply qmv|apply qas|apply qla|apply qfa|apply qpk|apply qls|apply qei|apply qln|apply qgt|apply qxt|apply qnt|apply qep)<;>(first|exact rfl|assumption|exact dct (by first|assumption|omega)|exact dcf (by first|assumption|omega)|exact List.not_mem_nil|apply dc_length|apply ec_length|apply dl_length|fail))|fail) ?_)
  refine CG.draw0 mixed [0, 1, 2, 3, 4, 5, 6, 7, 8, 9, 10, 11] [] (by kernel_rfl) ?_
  repeat (first | refine Der.val rfl rfl rfl (by first|((first|apply qep|apply qmv|apply qas|apply qla|apply qfa|apply qpk|apply qls|apply qei|apply qln|apply qgt|apply qxt|apply qnt|apply qep)<;>(first|exact rfl|assumption|exact dct (by first|assumption|omega)|exact dcf (by first|assumption|omega)|exact List.not_mem_nil|apply dc_length|apply ec_length|apply dl_length|fail))|fail) ?_ | refine Der.skip rfl rfl ?_)
  refine Der.fin (fun w2 hk2 _ _ => ?_)
  repeat (first|apply CG.seq|apply CG.region|apply SG.nil|apply NG.next|apply CG.skip|apply CG.ret|apply CG.scope|apply NG.ret_then|apply NG.ret_scope|refine SG.val rfl rfl rfl rfl (by first|((first|apply qep|apply qmv|apply qas|apply qla|apply qfa|apply qpk|apply qls|apply qei|apply qln|apply qgt|apply qxt|apply qnt|apply qep)<;>(first|exact rfl|assumption|exact dct (by first|assumption|omega)|exact dcf (by first|assumption|omega)|exact List.not_mem_nil|apply dc_length|apply ec_length|apply dl_length|fail))|fail) ?_)
  refine CG.cond_t rfl (by exact rho_of rfl) rfl ?_
  repeat (first|apply CG.seq|apply CG.region|apply SG.nil|apply NG.next|apply CG.skip|apply CG.ret|apply CG.scope|apply NG.ret_then|apply NG.ret_scope|refine SG.val rfl rfl rfl rfl (by first|((first|apply qep|apply qmv|apply qas|apply qla|apply qfa|apply qpk|apply qls|apply qei|apply qln|apply qgt|apply qxt|apply qnt|apply qep)<;>(first|exact rfl|assumption|exact dct (by first|assumption|omega)|exact dcf (by first|assumption|omega)|exact List.not_mem_nil|apply dc_length|apply ec_length|apply dl_length|fail))|fail) ?_)
  refine ret1 (Or.inl rfl) Try.results32 (by first | exact ResV.tmp rfl | exact ResV.agg rfl rfl (by assumption) (by first | exact dc_length _ | exact nc_length _ | exact rc_length _ _ _ | exact ec_length _ | exact dl_length _ _ _ _ | rfl) | exact ResV.cell rfl rfl (by assumption)) ?_
  exact ⟨rfl, hk1.trans hk2⟩
set_option maxHeartbeats 8000000 in
theorem all_nil (z : Int) (w : World) : Ret Try.prog 31 #[np, .int .i64 z] w (.slice none 0 0) := by
  refine enter2 Try.func31 rfl Try.ntmps31 rfl ?_
  repeat (first|apply CG.seq|apply CG.region|apply SG.nil|apply NG.next|apply CG.skip|apply CG.ret|apply CG.scope|apply NG.ret_then|apply NG.ret_scope|refine SG.val rfl rfl rfl rfl (by first|((first|apply qep|apply qmv|apply qas|apply qla|apply qfa|apply qpk|apply qls|apply qei|apply qln|apply qgt|apply qxt|apply qnt|apply qep)<;>(first|exact rfl|assumption|exact dct (by first|assumption|omega)|exact dcf (by first|assumption|omega)|exact List.not_mem_nil|apply dc_length|apply ec_length|apply dl_length|fail))|fail) ?_)
  refine CG.cond_t rfl (by exact rho_of rfl) rfl ?_
  repeat (first|apply CG.seq|apply CG.region|apply SG.nil|apply NG.next|apply CG.skip|apply CG.ret|apply CG.scope|apply NG.ret_then|apply NG.ret_scope|refine SG.val rfl rfl rfl rfl (by first|((first|apply qep|apply qmv|apply qas|apply qla|apply qfa|apply qpk|apply qls|apply qei|apply qln|apply qgt|apply qxt|apply qnt|apply qep)<;>(first|exact rfl|assumption|exact dct (by first|assumption|omega)|exact dcf (by first|assumption|omega)|exact List.not_mem_nil|apply dc_length|apply ec_length|apply dl_length|fail))|fail) ?_)
  refine ret1 (Or.inl rfl) Try.results31 (by first | exact ResV.tmp rfl | exact ResV.agg rfl rfl (by assumption) (by first | exact dc_length _ | exact nc_length _ | exact rc_length _ _ _ | exact ec_length _ | exact dl_length _ _ _ _ | rfl) | exact ResV.cell rfl rfl (by assumption)) ?_
  exact ⟨rfl, Kp.refl _ _⟩
set_option maxHeartbeats 8000000 in
theorem clone_nil (w : World) : Ret Try.prog 33 #[np] w np := by
  refine enter1 Try.func33 rfl Try.ntmps33 rfl ?_
  repeat (first|apply CG.seq|apply CG.region|apply SG.nil|apply NG.next|apply CG.skip|apply CG.ret|apply CG.scope|apply NG.ret_then|apply NG.ret_scope|refine SG.val rfl rfl rfl rfl (by first|((first|apply qep|apply qmv|apply qas|apply qla|apply qfa|apply qpk|apply qls|apply qei|apply qln|apply qgt|apply qxt|apply qnt|apply qep)<;>(first|exact rfl|assumption|exact dct (by first|assumption|omega)|exact dcf (by first|assumption|omega)|exact List.not_mem_nil|apply dc_length|apply ec_length|apply dl_length|fail))|fail) ?_)
  refine CG.cond_t rfl (by exact rho_of rfl) rfl ?_
  repeat (first|apply CG.seq|apply CG.region|apply SG.nil|apply NG.next|apply CG.skip|apply CG.ret|apply CG.scope|apply NG.ret_then|apply NG.ret_scope|refine SG.val rfl rfl rfl rfl (by first|((first|apply qep|apply qmv|apply qas|apply qla|apply qfa|apply qpk|apply qls|apply qei|apply qln|apply qgt|apply qxt|apply qnt|apply qep)<;>(first|exact rfl|assumption|exact dct (by first|assumption|omega)|exact dcf (by first|assumption|omega)|exact List.not_mem_nil|apply dc_length|apply ec_length|apply dl_length|fail))|fail) ?_)
  refine ret1 (Or.inl rfl) Try.results33 (by first | exact ResV.tmp rfl | exact ResV.agg rfl rfl (by assumption) (by first | exact dc_length _ | exact nc_length _ | exact rc_length _ _ _ | exact ec_length _ | exact dl_length _ _ _ _ | rfl) | exact ResV.cell rfl rfl (by assumption)) ?_
  exact ⟨rfl, Kp.refl _ _⟩
set_option maxHeartbeats 8000000 in
theorem same_nn (w : World) : Ret Try.prog 34 #[np, np] w (.bool true) := by
  refine enter2 Try.func34 rfl Try.ntmps34 rfl ?_
  repeat (first | first|apply CG.seq|apply CG.region|apply SG.nil|apply NG.next|apply CG.skip|apply CG.ret|apply CG.scope|apply NG.ret_then|apply NG.ret_scope|refine SG.val rfl rfl rfl rfl (by first|((first|apply qep|apply qmv|apply qas|apply qla|apply qfa|apply qpk|apply qls|apply qei|apply qln|apply qgt|apply qxt|apply qnt|apply qep)<;>(first|exact rfl|assumption|exact dct (by first|assumption|omega)|exact dcf (by first|assumption|omega)|exact List.not_mem_nil|apply dc_length|apply ec_length|apply dl_length|fail))|fail) ?_ | refine SG.skip rfl rfl ?_)
  refine CG.cond_t rfl (by exact rho_of rfl) rfl ?_
  repeat (first | first|apply CG.seq|apply CG.region|apply SG.nil|apply NG.next|apply CG.skip|apply CG.ret|apply CG.scope|apply NG.ret_then|apply NG.ret_scope|refine SG.val rfl rfl rfl rfl (by first|((first|apply qep|apply qmv|apply qas|apply qla|apply qfa|apply qpk|apply qls|apply qei|apply qln|apply qgt|apply qxt|apply qnt|apply qep)<;>(first|exact rfl|assumption|exact dct (by first|assumption|omega)|exact dcf (by first|assumption|omega)|exact List.not_mem_nil|apply dc_length|apply ec_length|apply dl_length|fail))|fail) ?_ | refine SG.skip rfl rfl ?_)
  refine ret1 (Or.inl rfl) Try.results34 (by first | exact ResV.tmp rfl | exact ResV.agg rfl rfl (by assumption) (by first | exact dc_length _ | exact nc_length _ | exact rc_length _ _ _ | exact ec_length _ | exact dl_length _ _ _ _ | rfl) | exact ResV.cell rfl rfl (by assumption)) ?_
  exact ⟨rfl, Kp.refl _ _⟩
set_option maxHeartbeats 8000000 in
theorem same_np (b : Nat) (w : World) : Ret Try.prog 34 #[np, .pointer (some ⟨b, 0, none⟩)] w (.bool false) := by
  refine enter2 Try.func34 rfl Try.ntmps34 rfl ?_
  repeat (first | first|apply CG.seq|apply CG.region|apply SG.nil|apply NG.next|apply CG.skip|apply CG.ret|apply CG.scope|apply NG.ret_then|apply NG.ret_scope|refine SG.val rfl rfl rfl rfl (by first|((first|apply qep|apply qmv|apply qas|apply qla|apply qfa|apply qpk|apply qls|apply qei|apply qln|apply qgt|apply qxt|apply qnt|apply qep)<;>(first|exact rfl|assumption|exact dct (by first|assumption|omega)|exact dcf (by first|assumption|omega)|exact List.not_mem_nil|apply dc_length|apply ec_length|apply dl_length|fail))|fail) ?_ | refine SG.skip rfl rfl ?_)
  refine CG.cond_t rfl (by exact rho_of rfl) rfl ?_
  repeat (first | first|apply CG.seq|apply CG.region|apply SG.nil|apply NG.next|apply CG.skip|apply CG.ret|apply CG.scope|apply NG.ret_then|apply NG.ret_scope|refine SG.val rfl rfl rfl rfl (by first|((first|apply qep|apply qmv|apply qas|apply qla|apply qfa|apply qpk|apply qls|apply qei|apply qln|apply qgt|apply qxt|apply qnt|apply qep)<;>(first|exact rfl|assumption|exact dct (by first|assumption|omega)|exact dcf (by first|assumption|omega)|exact List.not_mem_nil|apply dc_length|apply ec_length|apply dl_length|fail))|fail) ?_ | refine SG.skip rfl rfl ?_)
  refine ret1 (Or.inl rfl) Try.results34 (by first | exact ResV.tmp rfl | exact ResV.agg rfl rfl (by assumption) (by first | exact dc_length _ | exact nc_length _ | exact rc_length _ _ _ | exact ec_length _ | exact dl_length _ _ _ _ | rfl) | exact ResV.cell rfl rfl (by assumption)) ?_
  exact ⟨rfl, Kp.refl _ _⟩
set_option maxHeartbeats 8000000 in
theorem same_pn (b : Nat) (w : World) : Ret Try.prog 34 #[.pointer (some ⟨b, 0, none⟩), np] w (.bool false) := by
  refine enter2 Try.func34 rfl Try.ntmps34 rfl ?_
  repeat (first | first|apply CG.seq|apply CG.region|apply SG.nil|apply NG.next|apply CG.skip|apply CG.ret|apply CG.scope|apply NG.ret_then|apply NG.ret_scope|refine SG.val rfl rfl rfl rfl (by first|((first|apply qep|apply qmv|apply qas|apply qla|apply qfa|apply qpk|apply qls|apply qei|apply qln|apply qgt|apply qxt|apply qnt|apply qep)<;>(first|exact rfl|assumption|exact dct (by first|assumption|omega)|exact dcf (by first|assumption|omega)|exact List.not_mem_nil|apply dc_length|apply ec_length|apply dl_length|fail))|fail) ?_ | refine SG.skip rfl rfl ?_)
  refine CG.cond_t rfl (by exact rho_of rfl) rfl ?_
  repeat (first | first|apply CG.seq|apply CG.region|apply SG.nil|apply NG.next|apply CG.skip|apply CG.ret|apply CG.scope|apply NG.ret_then|apply NG.ret_scope|refine SG.val rfl rfl rfl rfl (by first|((first|apply qep|apply qmv|apply qas|apply qla|apply qfa|apply qpk|apply qls|apply qei|apply qln|apply qgt|apply qxt|apply qnt|apply qep)<;>(first|exact rfl|assumption|exact dct (by first|assumption|omega)|exact dcf (by first|assumption|omega)|exact List.not_mem_nil|apply dc_length|apply ec_length|apply dl_length|fail))|fail) ?_ | refine SG.skip rfl rfl ?_)
  refine ret1 (Or.inl rfl) Try.results34 (by first | exact ResV.tmp rfl | exact ResV.agg rfl rfl (by assumption) (by first | exact dc_length _ | exact nc_length _ | exact rc_length _ _ _ | exact ec_length _ | exact dl_length _ _ _ _ | rfl) | exact ResV.cell rfl rfl (by assumption)) ?_
  exact ⟨rfl, Kp.refl _ _⟩
set_option maxHeartbeats 8000000 in
theorem match_nil (z : Int) (w : World) : Ret Try.prog 30 #[np, .int .i64 z] w (.tuple #[dealV zd (.slice none 0 0) 0 0, .slice none 0 0, .bool false]) := by
  refine enter2 Try.func30 rfl Try.ntmps30 rfl ?_
  repeat (first|apply CG.seq|apply CG.region|apply SG.nil|apply NG.next|apply CG.skip|apply CG.ret|apply CG.scope|apply NG.ret_then|apply NG.ret_scope|refine SG.val rfl rfl rfl rfl (by first|((first|apply qep|apply qmv|apply qas|apply qla|apply qfa|apply qpk|apply qls|apply qei|apply qln|apply qgt|apply qxt|apply qnt|apply qep)<;>(first|exact rfl|assumption|exact dct (by first|assumption|omega)|exact dcf (by first|assumption|omega)|exact List.not_mem_nil|apply dc_length|apply ec_length|apply dl_length|fail))|fail) ?_)
  refine SG.alloc rfl rfl rfl (fun b2 w1 hk1 hb2 hB2 => ?_)
  repeat (first|apply CG.seq|apply CG.region|apply SG.nil|apply NG.next|apply CG.skip|apply CG.ret|apply CG.scope|apply NG.ret_then|apply NG.ret_scope|refine SG.val rfl rfl rfl rfl (by first|((first|apply qep|apply qmv|apply qas|apply qla|apply qfa|apply qpk|apply qls|apply qei|apply qln|apply qgt|apply qxt|apply qnt|apply qep)<;>(first|exact rfl|assumption|exact dct (by first|assumption|omega)|exact dcf (by first|assumption|omega)|exact List.not_mem_nil|apply dc_length|apply ec_length|apply dl_length|fail))|fail) ?_)
  refine CG.cond_t rfl (by exact rho_of rfl) rfl ?_
  repeat (first|apply CG.seq|apply CG.region|apply SG.nil|apply NG.next|apply CG.skip|apply CG.ret|apply CG.scope|apply NG.ret_then|apply NG.ret_scope|refine SG.val rfl rfl rfl rfl (by first|((first|apply qep|apply qmv|apply qas|apply qla|apply qfa|apply qpk|apply qls|apply qei|apply qln|apply qgt|apply qxt|apply qnt|apply qep)<;>(first|exact rfl|assumption|exact dct (by first|assumption|omega)|exact dcf (by first|assumption|omega)|exact List.not_mem_nil|apply dc_length|apply ec_length|apply dl_length|fail))|fail) ?_)
  refine SG.val rfl rfl rfl rfl (vals_build rfl bdz) ?_
  refine SG.setAll (l := dl zd (.slice none 0 0) 0 0) rfl rfl (by exact rho_of rfl) (by exact rho_of rfl) hB2 (dl_length _ _ _ _) rfl (dl_one _ _ _ _ _ _) (fun w2 hk2 hB3 => ?_)
  have hr : Row w2 b2 0 (dl zd (.slice none 0 0) 0 0) := Row.all hB3 rfl
  repeat (first|apply CG.seq|apply CG.region|apply SG.nil|apply NG.next|apply CG.skip|apply CG.ret|apply CG.scope|apply NG.ret_then|apply NG.ret_scope|refine SG.val rfl rfl rfl rfl (by first|((first|apply qep|apply qmv|apply qas|apply qla|apply qfa|apply qpk|apply qls|apply qei|apply qln|apply qgt|apply qxt|apply qnt|apply qep)<;>(first|exact rfl|assumption|exact dct (by first|assumption|omega)|exact dcf (by first|assumption|omega)|exact List.not_mem_nil|apply dc_length|apply ec_length|apply dl_length|fail))|fail) ?_)
  refine ret3 (Or.inl rfl) Try.results30 (ResV.agg rfl rfl hr (dl_length _ _ _ _)) (by first | exact ResV.tmp rfl | exact ResV.agg rfl rfl (by assumption) (by first | exact dc_length _ | exact nc_length _ | exact rc_length _ _ _ | exact ec_length _ | exact dl_length _ _ _ _ | rfl) | exact ResV.cell rfl rfl (by assumption)) (by first | exact ResV.tmp rfl | exact ResV.agg rfl rfl (by assumption) (by first | exact dc_length _ | exact nc_length _ | exact rc_length _ _ _ | exact ec_length _ | exact dl_length _ _ _ _ | rfl) | exact ResV.cell rfl rfl (by assumption)) ?_
  exact ⟨rfl, hk1.trans_new hk2 (new1 (by omega))⟩
set_option maxHeartbeats 8000000 in
theorem new_spec (z : Int) (h1 : 1 ≤ z) (h2 : z ≤ 256) (w : World) : Calls Try.prog 28 #[.int .i64 z] w (fun e w' => ∃ b, e = .returned (.tuple #[.pointer (some ⟨b, 0, none⟩), .int .i64 0]) ∧ Kp [] w w' ∧ w.heap.size ≤ b ∧ Blk w' b (.cells #[.int .i64 z, .slice none 0 0] 95)) := by
  refine enter1 Try.func28 rfl Try.ntmps28 rfl ?_
  have g1 : ¬ z < 1 := by omega
  have g2 : ¬ 256 < z := by omega
  repeat (first | first|apply CG.seq|apply CG.region|apply SG.nil|apply NG.next|apply CG.skip|apply CG.ret|apply CG.scope|apply NG.ret_then|apply NG.ret_scope|refine SG.val rfl rfl rfl rfl (by first|((first|apply qep|apply qmv|apply qas|apply qla|apply qfa|apply qpk|apply qls|apply qei|apply qln|apply qgt|apply qxt|apply qnt|apply qep)<;>(first|exact rfl|assumption|exact dct (by first|assumption|omega)|exact dcf (by first|assumption|omega)|exact List.not_mem_nil|apply dc_length|apply ec_length|apply dl_length|fail))|fail) ?_ | refine SG.skip rfl rfl ?_)
  refine CG.cond_f rfl (by exact rho_of rfl) rfl ?_
  repeat (first|apply CG.seq|apply CG.region|apply SG.nil|apply NG.next|apply CG.skip|apply CG.ret|apply CG.scope|apply NG.ret_then|apply NG.ret_scope|refine SG.val rfl rfl rfl rfl (by first|((first|apply qep|apply qmv|apply qas|apply qla|apply qfa|apply qpk|apply qls|apply qei|apply qln|apply qgt|apply qxt|apply qnt|apply qep)<;>(first|exact rfl|assumption|exact dct (by first|assumption|omega)|exact dcf (by first|assumption|omega)|exact List.not_mem_nil|apply dc_length|apply ec_length|apply dl_length|fail))|fail) ?_)
  refine SG.val rfl rfl rfl rfl (vals_build rfl (bl1 z)) ?_
  refine SG.box rfl rfl rfl (by exact rho_of rfl) (fun b w1 hk1 hb hB => ?_)
  repeat (first|apply CG.seq|apply CG.region|apply SG.nil|apply NG.next|apply CG.skip|apply CG.ret|apply CG.scope|apply NG.ret_then|apply NG.ret_scope|refine SG.val rfl rfl rfl rfl (by first|((first|apply qep|apply qmv|apply qas|apply qla|apply qfa|apply qpk|apply qls|apply qei|apply qln|apply qgt|apply qxt|apply qnt|apply qep)<;>(first|exact rfl|assumption|exact dct (by first|assumption|omega)|exact dcf (by first|assumption|omega)|exact List.not_mem_nil|apply dc_length|apply ec_length|apply dl_length|fail))|fail) ?_)
  refine ret2 (Or.inl rfl) Try.results28 (by first | exact ResV.tmp rfl | exact ResV.agg rfl rfl (by assumption) (by first | exact dc_length _ | exact nc_length _ | exact rc_length _ _ _ | exact ec_length _ | exact dl_length _ _ _ _ | rfl) | exact ResV.cell rfl rfl (by assumption)) (by first | exact ResV.tmp rfl | exact ResV.agg rfl rfl (by assumption) (by first | exact dc_length _ | exact nc_length _ | exact rc_length _ _ _ | exact ec_length _ | exact dl_length _ _ _ _ | rfl) | exact ResV.cell rfl rfl (by assumption)) ?_
  exact ⟨b, rfl, hk1, hb, hB⟩
set_option maxHeartbeats 8000000 in
theorem new_bad (z : Int) (h : z < 1 ∨ 256 < z) (w : World) : Ret Try.prog 28 #[.int .i64 z] w (.tuple #[np, .int .i64 2]) := by
  refine enter1 Try.func28 rfl Try.ntmps28 rfl ?_
  by_cases g1 : z < 1
  · repeat (first | first|apply CG.seq|apply CG.region|apply SG.nil|apply NG.next|apply CG.skip|apply CG.ret|apply CG.scope|apply NG.ret_then|apply NG.ret_scope|refine SG.val rfl rfl rfl rfl (by first|((first|apply qep|apply qmv|apply qas|apply qla|apply qfa|apply qpk|apply qls|apply qei|apply qln|apply qgt|apply qxt|apply qnt|apply qep)<;>(first|exact rfl|assumption|exact dct (by first|assumption|omega)|exact dcf (by first|assumption|omega)|exact List.not_mem_nil|apply dc_length|apply ec_length|apply dl_length|fail))|fail) ?_ | refine SG.skip rfl rfl ?_)
    refine CG.cond_t rfl (by exact rho_of rfl) rfl ?_
    repeat (first|apply CG.seq|apply CG.region|apply SG.nil|apply NG.next|apply CG.skip|apply CG.ret|apply CG.scope|apply NG.ret_then|apply NG.ret_scope|refine SG.val rfl rfl rfl rfl (by first|((first|apply qep|apply qmv|apply qas|apply qla|apply qfa|apply qpk|apply qls|apply qei|apply qln|apply qgt|apply qxt|apply qnt|apply qep)<;>(first|exact rfl|assumption|exact dct (by first|assumption|omega)|exact dcf (by first|assumption|omega)|exact List.not_mem_nil|apply dc_length|apply ec_length|apply dl_length|fail))|fail) ?_)
    refine ret2 (Or.inl rfl) Try.results28 (by first | exact ResV.tmp rfl | exact ResV.agg rfl rfl (by assumption) (by first | exact dc_length _ | exact nc_length _ | exact rc_length _ _ _ | exact ec_length _ | exact dl_length _ _ _ _ | rfl) | exact ResV.cell rfl rfl (by assumption)) (by first | exact ResV.tmp rfl | exact ResV.agg rfl rfl (by assumption) (by first | exact dc_length _ | exact nc_length _ | exact rc_length _ _ _ | exact ec_length _ | exact dl_length _ _ _ _ | rfl) | exact ResV.cell rfl rfl (by assumption)) ?_
    exact ⟨rfl, Kp.refl _ _⟩
  · have g2 : 256 < z := by omega
    repeat (first | first|apply CG.seq|apply CG.region|apply SG.nil|apply NG.next|apply CG.skip|apply CG.ret|apply CG.scope|apply NG.ret_then|apply NG.ret_scope|refine SG.val rfl rfl rfl rfl (by first|((first|apply qep|apply qmv|apply qas|apply qla|apply qfa|apply qpk|apply qls|apply qei|apply qln|apply qgt|apply qxt|apply qnt|apply qep)<;>(first|exact rfl|assumption|exact dct (by first|assumption|omega)|exact dcf (by first|assumption|omega)|exact List.not_mem_nil|apply dc_length|apply ec_length|apply dl_length|fail))|fail) ?_ | refine SG.skip rfl rfl ?_)
    refine CG.cond_t rfl (by exact rho_of rfl) rfl ?_
    repeat (first|apply CG.seq|apply CG.region|apply SG.nil|apply NG.next|apply CG.skip|apply CG.ret|apply CG.scope|apply NG.ret_then|apply NG.ret_scope|refine SG.val rfl rfl rfl rfl (by first|((first|apply qep|apply qmv|apply qas|apply qla|apply qfa|apply qpk|apply qls|apply qei|apply qln|apply qgt|apply qxt|apply qnt|apply qep)<;>(first|exact rfl|assumption|exact dct (by first|assumption|omega)|exact dcf (by first|assumption|omega)|exact List.not_mem_nil|apply dc_length|apply ec_length|apply dl_length|fail))|fail) ?_)
    refine ret2 (Or.inl rfl) Try.results28 (by first | exact ResV.tmp rfl | exact ResV.agg rfl rfl (by assumption) (by first | exact dc_length _ | exact nc_length _ | exact rc_length _ _ _ | exact ec_length _ | exact dl_length _ _ _ _ | rfl) | exact ResV.cell rfl rfl (by assumption)) (by first | exact ResV.tmp rfl | exact ResV.agg rfl rfl (by assumption) (by first | exact dc_length _ | exact nc_length _ | exact rc_length _ _ _ | exact ec_length _ | exact dl_length _ _ _ _ | rfl) | exact ResV.cell rfl rfl (by assumption)) ?_
    exact ⟨rfl, Kp.refl _ _⟩
set_option maxHeartbeats 8000000 in
theorem nil_walk (w : World) (o : Ofr) (now : Int) : Ret Try.prog 10 #[ov o, .int .i64 now] w (.bool true) := by
  refine enter2 Try.func10 rfl Try.ntmps10 rfl ?_
  repeat (first|apply CG.seq|apply CG.region|apply SG.nil|apply NG.next|apply CG.skip|apply CG.ret|apply CG.scope|apply NG.ret_then|apply NG.ret_scope|refine SG.val rfl rfl rfl rfl (by first|((first|apply qep|apply qmv|apply qas|apply qla|apply qfa|apply qpk|apply qls|apply qei|apply qln|apply qgt|apply qxt|apply qnt|apply qep)<;>(first|exact rfl|assumption|exact dct (by first|assumption|omega)|exact dcf (by first|assumption|omega)|exact List.not_mem_nil|apply dc_length|apply ec_length|apply dl_length|fail))|fail) ?_)
  refine SG.box rfl rfl rfl (by exact rho_of rfl) (fun b1 w1 hk1 hb1 hB1 => ?_)
  have hB1 : Blk w1 b1 (.cells (ec o).toArray 35) := hB1
  repeat (first|apply CG.seq|apply CG.region|apply SG.nil|apply NG.next|apply CG.skip|apply CG.ret|apply CG.scope|apply NG.ret_then|apply NG.ret_scope|refine SG.val rfl rfl rfl rfl (by first|((first|apply qep|apply qmv|apply qas|apply qla|apply qfa|apply qpk|apply qls|apply qei|apply qln|apply qgt|apply qxt|apply qnt|apply qep)<;>(first|exact rfl|assumption|exact dct (by first|assumption|omega)|exact dcf (by first|assumption|omega)|exact List.not_mem_nil|apply dc_length|apply ec_length|apply dl_length|fail))|fail) ?_)
  refine SG.ret rfl rfl rfl (vs := [np, .int .i64 now]) (by repeat' (first | exact True.intro | exact rho_of rfl | refine And.intro ?_ ?_)) (match_nil now w1) (fun w2 hk2 => ?_)
  repeat (first|apply CG.seq|apply CG.region|apply SG.nil|apply NG.next|apply CG.skip|apply CG.ret|apply CG.scope|apply NG.ret_then|apply NG.ret_scope|refine SG.val rfl rfl rfl rfl (by first|((first|apply qep|apply qmv|apply qas|apply qla|apply qfa|apply qpk|apply qls|apply qei|apply qln|apply qgt|apply qxt|apply qnt|apply qep)<;>(first|exact rfl|assumption|exact dct (by first|assumption|omega)|exact dcf (by first|assumption|omega)|exact List.not_mem_nil|apply dc_length|apply ec_length|apply dl_length|fail))|fail) ?_)
  refine SG.alloc rfl rfl rfl (fun b6 w3 hk3 hb6 hB6 => ?_)
  refine SG.setAll (l := dl zd (.slice none 0 0) 0 0) rfl rfl (by exact rho_of rfl) (by exact rho_of rfl) hB6 (dl_length _ _ _ _) rfl (dl_one _ _ _ _ _ _) (fun w4 hk4 hB7 => ?_)
  have hB7 : Blk w4 b6 (.cells (dl zd (.slice none 0 0) 0 0).toArray 27) := hB7
  have k34 : Kp [] w2 w4 := hk3.trans_new hk4 (new1 (by omega))
  repeat (first|apply CG.seq|apply CG.region|apply SG.nil|apply NG.next|apply CG.skip|apply CG.ret|apply CG.scope|apply NG.ret_then|apply NG.ret_scope|refine SG.val rfl rfl rfl rfl (by first|((first|apply qep|apply qmv|apply qas|apply qla|apply qfa|apply qpk|apply qls|apply qei|apply qln|apply qgt|apply qxt|apply qnt|apply qep)<;>(first|exact rfl|assumption|exact dct (by first|assumption|omega)|exact dcf (by first|assumption|omega)|exact List.not_mem_nil|apply dc_length|apply ec_length|apply dl_length|fail))|fail) ?_)
  refine SG.call rfl rfl rfl (vs := [.int .i64 1]) (by repeat' (first | exact True.intro | exact rho_of rfl | refine And.intro ?_ ?_)) ((new_spec 1 (by omega) (by omega) w4).mono (fun e w5 hh => ?_))
  obtain ⟨b9, he, hk5, hb9, hB9⟩ := hh
  refine ⟨_, he, ?_⟩
  have h00 : (0 : Int) = 0 := rfl
  have h11 : (1 : Int) = 1 := rfl
  have hn0 : ((0 : Nat) : Int) = 0 := rfl
  repeat (first|apply CG.seq|apply CG.region|apply SG.nil|apply NG.next|apply CG.skip|apply CG.ret|apply CG.scope|apply NG.ret_then|apply NG.ret_scope|refine SG.val rfl rfl rfl rfl (by first|((first|apply qep|apply qmv|apply qas|apply qla|apply qfa|apply qpk|apply qls|apply qei|apply qln|apply qgt|apply qxt|apply qnt|apply qep)<;>(first|exact rfl|assumption|exact dct (by first|assumption|omega)|exact dcf (by first|assumption|omega)|exact List.not_mem_nil|apply dc_length|apply ec_length|apply dl_length|fail))|fail) ?_)
  refine SG.ret rfl rfl rfl (vs := []) (by repeat' (first | exact True.intro | exact rho_of rfl | refine And.intro ?_ ?_)) (known_spec w5) (fun w6 hk6 => ?_)
  have k16 := (((hk2.trans k34).trans hk5).trans hk6)
  obtain ⟨q0, -, -, -, -, -, -, qa⟩ := ec_rows (hB1.kp0 k16)
  repeat (first | first|apply CG.seq|apply CG.region|apply SG.nil|apply NG.next|apply CG.skip|apply CG.ret|apply CG.scope|apply NG.ret_then|apply NG.ret_scope|refine SG.val rfl rfl rfl rfl (by first|((first|apply qep|apply qmv|apply qas|apply qla|apply qfa|apply qpk|apply qls|apply qei|apply qln|apply qgt|apply qxt|apply qnt|apply qep)<;>(first|exact rfl|assumption|exact dct (by first|assumption|omega)|exact dcf (by first|assumption|omega)|exact List.not_mem_nil|apply dc_length|apply ec_length|apply dl_length|fail))|fail) ?_ | refine SG.skip rfl rfl ?_)
  refine SG.ret rfl rfl rfl (vs := [ov o]) (by repeat' (first | exact True.intro | exact rho_of rfl | refine And.intro ?_ ?_)) (to_spec o w6) (fun w7 hk7 => ?_)
  refine SG.ret rfl rfl rfl (vs := [np, .int .i64 now, ov o]) (by repeat' (first | exact True.intro | exact rho_of rfl | refine And.intro ?_ ?_)) (post_nil now o w7) (fun w8 hk8 => ?_)
  have q0 := (q0.kp0 hk7).kp0 hk8
  repeat (first | first|apply CG.seq|apply CG.region|apply SG.nil|apply NG.next|apply CG.skip|apply CG.ret|apply CG.scope|apply NG.ret_then|apply NG.ret_scope|refine SG.val rfl rfl rfl rfl (by first|((first|apply qep|apply qmv|apply qas|apply qla|apply qfa|apply qpk|apply qls|apply qei|apply qln|apply qgt|apply qxt|apply qnt|apply qep)<;>(first|exact rfl|assumption|exact dct (by first|assumption|omega)|exact dcf (by first|assumption|omega)|exact List.not_mem_nil|apply dc_length|apply ec_length|apply dl_length|fail))|fail) ?_ | refine SG.skip rfl rfl ?_)
  refine SG.ret rfl rfl rfl (vs := [np, dv o.who]) (by repeat' (first | exact True.intro | exact rho_of rfl | refine And.intro ?_ ?_)) (drop_nil o.who w8) (fun w9 hk9 => ?_)
  repeat (first | first|apply CG.seq|apply CG.region|apply SG.nil|apply NG.next|apply CG.skip|apply CG.ret|apply CG.scope|apply NG.ret_then|apply NG.ret_scope|refine SG.val rfl rfl rfl rfl (by first|((first|apply qep|apply qmv|apply qas|apply qla|apply qfa|apply qpk|apply qls|apply qei|apply qln|apply qgt|apply qxt|apply qnt|apply qep)<;>(first|exact rfl|assumption|exact dct (by first|assumption|omega)|exact dcf (by first|assumption|omega)|exact List.not_mem_nil|apply dc_length|apply ec_length|apply dl_length|fail))|fail) ?_ | refine SG.skip rfl rfl ?_)
  refine SG.ret rfl rfl rfl (vs := [np, .int .i64 now]) (by repeat' (first | exact True.intro | exact rho_of rfl | refine And.intro ?_ ?_)) (all_nil now w9) (fun w10 hk10 => ?_)
  have k410 := (((((hk5.trans hk6).trans hk7).trans hk8).trans hk9).trans hk10)
  have qd := Row.all (l := dl zd (.slice none 0 0) 0 0) (hB7.kp0 k410) rfl
  repeat (first | first|apply CG.seq|apply CG.region|apply SG.nil|apply NG.next|apply CG.skip|apply CG.ret|apply CG.scope|apply NG.ret_then|apply NG.ret_scope|refine SG.val rfl rfl rfl rfl (by first|((first|apply qep|apply qmv|apply qas|apply qla|apply qfa|apply qpk|apply qls|apply qei|apply qln|apply qgt|apply qxt|apply qnt|apply qep)<;>(first|exact rfl|assumption|exact dct (by first|assumption|omega)|exact dcf (by first|assumption|omega)|exact List.not_mem_nil|apply dc_length|apply ec_length|apply dl_length|fail))|fail) ?_ | refine SG.skip rfl rfl ?_)
  refine SG.val rfl rfl rfl rfl (vals_build rfl bdz) ?_
  refine SG.ret rfl rfl rfl (vs := [dealV zd (.slice none 0 0) 0 0, dealV zd (.slice none 0 0) 0 0]) (by repeat' (first | exact True.intro | exact rho_of rfl | refine And.intro ?_ ?_)) (by have := same_spec (w := w10) zDel zDel (a := none) (a' := none) (c := 0) (c' := 0) Sl.nil Sl.nil (by simp [zDel]); rwa [decide_eq_true rfl] at this) (fun w11 hk11 => ?_)
  repeat (first | first|apply CG.seq|apply CG.region|apply SG.nil|apply NG.next|apply CG.skip|apply CG.ret|apply CG.scope|apply NG.ret_then|apply NG.ret_scope|refine SG.val rfl rfl rfl rfl (by first|((first|apply qep|apply qmv|apply qas|apply qla|apply qfa|apply qpk|apply qls|apply qei|apply qln|apply qgt|apply qxt|apply qnt|apply qep)<;>(first|exact rfl|assumption|exact dct (by first|assumption|omega)|exact dcf (by first|assumption|omega)|exact List.not_mem_nil|apply dc_length|apply ec_length|apply dl_length|fail))|fail) ?_ | refine SG.skip rfl rfl ?_)
  refine SG.ret rfl rfl rfl (vs := [np]) (by repeat' (first | exact True.intro | exact rho_of rfl | refine And.intro ?_ ?_)) (clone_nil w11) (fun w12 hk12 => ?_)
  repeat (first | first|apply CG.seq|apply CG.region|apply SG.nil|apply NG.next|apply CG.skip|apply CG.ret|apply CG.scope|apply NG.ret_then|apply NG.ret_scope|refine SG.val rfl rfl rfl rfl (by first|((first|apply qep|apply qmv|apply qas|apply qla|apply qfa|apply qpk|apply qls|apply qei|apply qln|apply qgt|apply qxt|apply qnt|apply qep)<;>(first|exact rfl|assumption|exact dct (by first|assumption|omega)|exact dcf (by first|assumption|omega)|exact List.not_mem_nil|apply dc_length|apply ec_length|apply dl_length|fail))|fail) ?_ | refine SG.skip rfl rfl ?_)
  refine SG.ret rfl rfl rfl (vs := [np, np]) (by repeat' (first | exact True.intro | exact rho_of rfl | refine And.intro ?_ ?_)) (same_nn w12) (fun w13 hk13 => ?_)
  repeat (first | first|apply CG.seq|apply CG.region|apply SG.nil|apply NG.next|apply CG.skip|apply CG.ret|apply CG.scope|apply NG.ret_then|apply NG.ret_scope|refine SG.val rfl rfl rfl rfl (by first|((first|apply qep|apply qmv|apply qas|apply qla|apply qfa|apply qpk|apply qls|apply qei|apply qln|apply qgt|apply qxt|apply qnt|apply qep)<;>(first|exact rfl|assumption|exact dct (by first|assumption|omega)|exact dcf (by first|assumption|omega)|exact List.not_mem_nil|apply dc_length|apply ec_length|apply dl_length|fail))|fail) ?_ | refine SG.skip rfl rfl ?_)
  refine SG.ret rfl rfl rfl (vs := [np, .pointer (some ⟨b9, 0, none⟩)]) (by repeat' (first | exact True.intro | exact rho_of rfl | refine And.intro ?_ ?_)) (same_np b9 w13) (fun w14 hk14 => ?_)
  repeat (first | first|apply CG.seq|apply CG.region|apply SG.nil|apply NG.next|apply CG.skip|apply CG.ret|apply CG.scope|apply NG.ret_then|apply NG.ret_scope|refine SG.val rfl rfl rfl rfl (by first|((first|apply qep|apply qmv|apply qas|apply qla|apply qfa|apply qpk|apply qls|apply qei|apply qln|apply qgt|apply qxt|apply qnt|apply qep)<;>(first|exact rfl|assumption|exact dct (by first|assumption|omega)|exact dcf (by first|assumption|omega)|exact List.not_mem_nil|apply dc_length|apply ec_length|apply dl_length|fail))|fail) ?_ | refine SG.skip rfl rfl ?_)
  refine SG.ret rfl rfl rfl (vs := [.pointer (some ⟨b9, 0, none⟩), np]) (by repeat' (first | exact True.intro | exact rho_of rfl | refine And.intro ?_ ?_)) (same_pn b9 w14) (fun w15 hk15 => ?_)
  repeat (first | first|apply CG.seq|apply CG.region|apply SG.nil|apply NG.next|apply CG.skip|apply CG.ret|apply CG.scope|apply NG.ret_then|apply NG.ret_scope|refine SG.val rfl rfl rfl rfl (by first|((first|apply qep|apply qmv|apply qas|apply qla|apply qfa|apply qpk|apply qls|apply qei|apply qln|apply qgt|apply qxt|apply qnt|apply qep)<;>(first|exact rfl|assumption|exact dct (by first|assumption|omega)|exact dcf (by first|assumption|omega)|exact List.not_mem_nil|apply dc_length|apply ec_length|apply dl_length|fail))|fail) ?_ | refine SG.skip rfl rfl ?_)
  refine ret1 (Or.inl rfl) Try.results10 (by first | exact ResV.tmp rfl | exact ResV.agg rfl rfl (by assumption) (by first | exact dc_length _ | exact nc_length _ | exact rc_length _ _ _ | exact ec_length _ | exact dl_length _ _ _ _ | rfl) | exact ResV.cell rfl rfl (by assumption)) ?_
  exact ⟨rfl, (((((((hk1.trans hk2).trans k34).trans k410).trans hk11).trans hk12).trans hk13).trans hk14).trans hk15⟩
end Go.Proofs.Ytnoipmimddoioaa
/-
  LobbyMatch, walked.
-/
namespace Go.Proofs.Ytnoipmimddoioaa
open Go.Proofs Go.Shelf Go.Sort
set_option linter.unusedVariables false

theorem CG.cut_then {P : Program} {n : Nat} {Q Q' : Exit → Act → World → Prop} {L : Env} {w : World} {c B : Code} (M : Env → World → Prop) (h : CG P n c (Exit.then (fun a w => ∃ L, Fits n a L ∧ M L w) Q') L w) (h2 : ∀ L w, M L w → CG P n B Q L w) : CG P n c (Exit.then (B.wp P Q) Q') L w := by
  intro a ha
  refine wp_mono (h a ha) (fun e a w hq => ?_)
  cases e <;> first | exact hq | (obtain ⟨L, h1, h2'⟩ := hq; exact h2 L w h2' a h1)
/-- What waits: all may be, each of another one. -/
structure Wait (m : List Ofr) : Prop where
  ok : ∀ x ∈ m, x.Ok
  nd : (m.map (·.who)).Nodup
theorem Wait.nil : Wait [] := ⟨fun x h => (by cases h), List.nodup_nil⟩
theorem Wait.nodup {m : List Ofr} (h : Wait m) : m.Nodup := by
  have := h.nd
  rw [List.Nodup, List.pairwise_map] at this
  exact this.imp (fun h e => h (by rw [e]))
theorem Wait.filter {m : List Ofr} (h : Wait m) (p : Ofr → Bool) : Wait (m.filter p) :=
  ⟨fun x hx => h.ok x (List.mem_filter.1 hx).1, h.nd.sublist ((List.filter_sublist).map _)⟩
theorem Wait.late {m : List Ofr} (h : Wait m) : lateL 0 m = m := by
  unfold lateL
  rw [List.filter_eq_self]
  intro x hx
  have := (h.ok x hx).t1
  simp
  omega
theorem Wait.post {m : List Ofr} (h : Wait m) {room now : Int} {o : Ofr} (ho : o.Ok) : Wait (postL room now o m) := by
  have hk : Wait (keepL now o m) := (h.filter _).filter _
  unfold postL
  split
  · exact hk
  · refine ⟨fun x hx => ?_, ?_⟩
    · rcases List.mem_append.1 hx with h1 | h1
      · exact hk.ok x h1
      · rw [List.mem_singleton] at h1
        exact h1 ▸ ho
    · rw [List.map_append, List.nodup_append]
      refine ⟨hk.nd, by simp, fun a ha b hb => ?_⟩
      simp only [List.map_cons, List.map_nil, List.mem_singleton] at hb
      subst hb
      obtain ⟨x, hx, rfl⟩ := List.mem_map.1 ha
      have := (List.mem_filter.1 hx).2
      simpa using this
theorem postL_len (room now : Int) (o : Ofr) (m : List Ofr) : (postL room now o m).length ≤ m.length + 1 := by
  have h1 := List.length_filter_le (fun x : Ofr => !decide (x.who = o.who)) (m.filter (fun x => !decide (x.till < now)))
  have h2 := List.length_filter_le (fun x : Ofr => !decide (x.till < now)) m
  have h3 : (keepL now o m).length ≤ m.length := Nat.le_trans h1 h2
  unfold postL
  split
  · omega
  · rw [List.length_append, List.length_singleton]
    omega
theorem deal_len0 {l : List Ofr} (h : (dealOf l).2 = 0) : (dealOf l).1.who.length = l.length := by
  cases l with
  | nil => exact absurd h (by decide)
  | cons o r =>
    have e0 : dealOf (o :: r) = if ((o :: r).length : Int) = o.seats then (if (o :: r).all (fun x => decide x.Ok) then (if decide ((o :: r).Pairwise fitP) then (goodDel o.rules (o :: r), 0) else (zDel, 11)) else (zDel, 2)) else (zDel, 3) := rfl
    rw [e0] at h ⊢
    split at h
    · rename_i h1
      split at h
      · rename_i h2
        split at h
        · rename_i h3
          rw [if_pos h1, if_pos h2, if_pos h3]
          exact good_len _ _
        · cases h
      · cases h
    · cases h
theorem follows0 {l : List Ofr} (h : (dealOf l).2 = 0) : followsZ (dealOf l).1 l = 0 := by
  unfold followsZ
  rw [if_pos h, if_pos rfl]

attribute [local irreducible] CG NG SG Vals Der Row Blk MapIs IterAt addI xorI orI andI shlI shrI mulI twoI cmpD cmpW kW digO manyI mixD sortK maxs dealOf
/-- A post, whatever the offer. -/
theorem post_any {w : World} {base bt : Nat} {room : Int} {v : Value} {m : List Ofr} (o : Ofr) (hL : Lob base w bt room v m) (hl : m.length ≤ 1000) (hbase : base ≤ w.heap.size) (hW : Wait m) (hm : m.length + 1 ≤ room) :
    Calls Try.prog 29 #[.pointer (some ⟨bt, 0, none⟩), .int .i64 0, ov o] w (fun e w' => (∃ z : Int, e = .returned (.int .i64 z) ∧ (o.Ok → z = 0)) ∧ Kp (bt :: ownB v) w w' ∧ ∃ v' m', Lob base w' bt room v' m' ∧ Wait m' ∧ m'.length ≤ m.length + 1 ∧ (o.Ok → m' = keepL 0 o m ++ [o])) := by
  by_cases ho : o.Ok
  · have hlt : ¬ o.till < 0 := by have := ho.t1; omega
    refine (post_yes (by omega) (by omega) o ho hlt hL (by omega) hbase).mono (fun e w' hh => ?_)
    obtain ⟨h1, h2, v', h3⟩ := hh
    have hk : (keepL 0 o m).length ≤ m.length := Nat.le_trans (List.length_filter_le _ _) (List.length_filter_le _ _)
    refine ⟨⟨_, h1, fun _ => ?_⟩, h2, v', _, h3, hW.post ho, postL_len _ _ _ _, fun _ => ?_⟩
    · unfold postE
      rw [if_neg (by omega)]
    · unfold postL
      rw [if_neg (by omega)]
  · refine (post_no (by omega) (by omega) o (Or.inl ho)).mono (fun e w' hh => ?_)
    obtain ⟨h1, h2⟩ := hh
    exact ⟨⟨_, h1, fun h => absurd h ho⟩, h2.any, v, m, hL.kp0 h2, hW, Nat.le_succ _, fun h => absurd h ho⟩
theorem Lob.kp2 {w w' : World} {w0 : World} {bt : Nat} {room : Int} {v : Value} {l : List Ofr} (h : Lob w0.heap.size w bt room v l) (hb : w0.heap.size ≤ bt) (hk0 : Kp [] w0 w) (hk : Kp (bt :: ownB v) w w') : Kp [] w0 w' :=
  hk0.trans_new hk (fun x hx => by
    right
    rcases List.mem_cons.1 hx with e | e
    · omega
    · exact own_geB h.own x (ownB_mem e))

set_option maxHeartbeats 32000000 in
theorem lmatch_walk (w : World) (a : Option Addr) (n c : Nat) (l : List Ofr) (hL : l.length = n ∧ Sl ec 21 w a l) (hnc : n ≤ c) (hc : c ≤ maxLen) : Ret Try.prog 9 #[.slice a n c] w (.bool true) := by
  obtain ⟨rfl, hS⟩ := hL
  refine enter1 Try.func9 rfl Try.ntmps9 rfl ?_
  have h00 : (0 : Int) = 0 := rfl
  repeat (first|apply CG.seq|apply CG.region|apply SG.nil|apply NG.next|apply CG.skip|apply CG.block|apply CG.ret|apply CG.exit|apply NG.ret_then|apply NG.ret_block|apply NG.exit_then|refine NG.exit_block rfl ?_|apply NG.normal_block|refine SG.val rfl rfl rfl rfl (by first|((first|apply qep|apply qeo|apply qmv|apply qas|apply qlc|apply qla|apply qfa|apply qix|apply qpk|apply qls|apply qei|apply qni|apply qad|apply qln|apply qxt|apply qnt|apply qep)<;>(first|exact rfl|assumption|exact Ar.mk (by omega)|exact dct (by first|assumption|omega)|exact dcf (by first|assumption|omega)|exact List.not_mem_nil|apply dc_length|apply ec_length|apply dl_length|fail))|fail) ?_)
  refine SG.call rfl rfl rfl (vs := [.int .i64 20]) (by repeat' (first | exact True.intro | exact rho_of rfl | refine And.intro ?_ ?_)) ((new_spec 20 (by omega) (by omega) w).mono (fun e w1 hh => ?_))
  obtain ⟨b, he, hk1, hb, hB⟩ := hh
  refine ⟨_, he, ?_⟩
  have hL1 : Lob w.heap.size w1 b 20 (.slice none 0 0) [] := ⟨hB, own_nil⟩
  repeat (first | first|apply CG.seq|apply CG.region|apply SG.nil|apply NG.next|apply CG.skip|apply CG.block|apply CG.ret|apply CG.exit|apply NG.ret_then|apply NG.ret_block|apply NG.exit_then|refine NG.exit_block rfl ?_|apply NG.normal_block|refine SG.val rfl rfl rfl rfl (by first|((first|apply qep|apply qeo|apply qmv|apply qas|apply qlc|apply qla|apply qfa|apply qix|apply qpk|apply qls|apply qei|apply qni|apply qad|apply qln|apply qxt|apply qnt|apply qep)<;>(first|exact rfl|assumption|exact Ar.mk (by omega)|exact dct (by first|assumption|omega)|exact dcf (by first|assumption|omega)|exact List.not_mem_nil|apply dc_length|apply ec_length|apply dl_length|fail))|fail) ?_ | refine SG.skip rfl rfl ?_)
  refine CG.cond_f rfl (by exact rho_of rfl) rfl ?_
  repeat (first|apply CG.seq|apply CG.region|apply SG.nil|apply NG.next|apply CG.skip|apply CG.block|apply CG.ret|apply CG.exit|apply NG.ret_then|apply NG.ret_block|apply NG.exit_then|refine NG.exit_block rfl ?_|apply NG.normal_block|refine SG.val rfl rfl rfl rfl (by first|((first|apply qep|apply qeo|apply qmv|apply qas|apply qlc|apply qla|apply qfa|apply qix|apply qpk|apply qls|apply qei|apply qni|apply qad|apply qln|apply qxt|apply qnt|apply qep)<;>(first|exact rfl|assumption|exact Ar.mk (by omega)|exact dct (by first|assumption|omega)|exact dcf (by first|assumption|omega)|exact List.not_mem_nil|apply dc_length|apply ec_length|apply dl_length|fail))|fail) ?_)
  refine CG.loop (X := Value × List Ofr × Nat) (fun x => [(0, .slice a l.length c), (3, .pointer (some ⟨b, 0, none⟩)), (5, .int .i64 (x.2.2 : Int))])
    (fun x w' => x.2.2 ≤ l.length ∧ x.2.2 ≤ 16 ∧ Kp [] w w' ∧ Lob w.heap.size w' b 20 x.1 x.2.1 ∧ Wait x.2.1 ∧ x.2.1.length ≤ x.2.2) (fun x => 16 - x.2.2) (.slice none 0 0, [], 0) ⟨Nat.zero_le _, by simp, hk1, hL1, Wait.nil, Nat.le_refl _⟩ (by (repeat' (first | exact True.intro | exact rfl | refine And.intro ?_ ?_))) ?_
  rintro ⟨v, m, i⟩ w2 ⟨hi, hi16, hk2, hL2, hW2, hm⟩
  simp only at hi hi16 hL2 hW2 hm
  refine CG.to [(0, .slice a l.length c), (3, .pointer (some ⟨b, 0, none⟩)), (5, .int .i64 (i : Int))] (by (repeat' (first | exact True.intro | exact rfl | refine And.intro ?_ ?_))) ?_
  by_cases hlt : i < l.length ∧ i < 16
  · have g1 : (i : Int) < (l.length : Int) := by omega
    have g2 : (i : Int) < 16 := by omega
    obtain ⟨ba, oa, rfl, hri⟩ := (hS.kp0 hk2).at hlt.1
    repeat (first | first|apply CG.seq|apply CG.region|apply SG.nil|apply NG.next|apply CG.skip|apply CG.block|apply CG.ret|apply CG.exit|apply NG.ret_then|apply NG.ret_block|apply NG.exit_then|refine NG.exit_block rfl ?_|apply NG.normal_block|refine SG.val rfl rfl rfl rfl (by first|((first|apply qep|apply qeo|apply qmv|apply qas|apply qlc|apply qla|apply qfa|apply qix|apply qpk|apply qls|apply qei|apply qni|apply qad|apply qln|apply qxt|apply qnt|apply qep)<;>(first|exact rfl|assumption|exact Ar.mk (by omega)|exact dct (by first|assumption|omega)|exact dcf (by first|assumption|omega)|exact List.not_mem_nil|apply dc_length|apply ec_length|apply dl_length|fail))|fail) ?_ | refine SG.skip rfl rfl ?_)
    refine CG.cond_t rfl (by exact rho_of rfl) rfl ?_
    repeat (first|apply CG.seq|apply CG.region|apply SG.nil|apply NG.next|apply CG.skip|apply CG.block|apply CG.ret|apply CG.exit|apply NG.ret_then|apply NG.ret_block|apply NG.exit_then|refine NG.exit_block rfl ?_|apply NG.normal_block|refine SG.val rfl rfl rfl rfl (by first|((first|apply qep|apply qeo|apply qmv|apply qas|apply qlc|apply qla|apply qfa|apply qix|apply qpk|apply qls|apply qei|apply qni|apply qad|apply qln|apply qxt|apply qnt|apply qep)<;>(first|exact rfl|assumption|exact Ar.mk (by omega)|exact dct (by first|assumption|omega)|exact dcf (by first|assumption|omega)|exact List.not_mem_nil|apply dc_length|apply ec_length|apply dl_length|fail))|fail) ?_)
    refine SG.ret rfl rfl rfl (vs := [ov l[i]]) (by repeat' (first | exact True.intro | exact rho_of rfl | refine And.intro ?_ ?_)) (to_spec l[i] w2) (fun w3 hk3 => ?_)
    repeat (first|apply CG.seq|apply CG.region|apply SG.nil|apply NG.next|apply CG.skip|apply CG.block|apply CG.ret|apply CG.exit|apply NG.ret_then|apply NG.ret_block|apply NG.exit_then|refine NG.exit_block rfl ?_|apply NG.normal_block|refine SG.val rfl rfl rfl rfl (by first|((first|apply qep|apply qeo|apply qmv|apply qas|apply qlc|apply qla|apply qfa|apply qix|apply qpk|apply qls|apply qei|apply qni|apply qad|apply qln|apply qxt|apply qnt|apply qep)<;>(first|exact rfl|assumption|exact Ar.mk (by omega)|exact dct (by first|assumption|omega)|exact dcf (by first|assumption|omega)|exact List.not_mem_nil|apply dc_length|apply ec_length|apply dl_length|fail))|fail) ?_)
    refine SG.call rfl rfl rfl (vs := [.pointer (some ⟨b, 0, none⟩), .int .i64 0, ov l[i]]) (by repeat' (first | exact True.intro | exact rho_of rfl | refine And.intro ?_ ?_)) ((post_any l[i] (hL2.kp0 hk3) (by omega) (hk2.trans hk3).size hW2 (by omega)).mono (fun e w4 hh => ?_))
    obtain ⟨⟨z, he, _⟩, hk4, v', m', hL4, hW4, hm4, _⟩ := hh
    refine ⟨_, he, ?_⟩
    have k4 := (hL2.kp0 hk3).kp2 hb (hk2.trans hk3) hk4
    repeat (first|apply CG.seq|apply CG.region|apply SG.nil|apply NG.next|apply CG.skip|apply CG.block|apply CG.ret|apply CG.exit|apply NG.ret_then|apply NG.ret_block|apply NG.exit_then|refine NG.exit_block rfl ?_|apply NG.normal_block|refine SG.val rfl rfl rfl rfl (by first|((first|apply qep|apply qeo|apply qmv|apply qas|apply qlc|apply qla|apply qfa|apply qix|apply qpk|apply qls|apply qei|apply qni|apply qad|apply qln|apply qxt|apply qnt|apply qep)<;>(first|exact rfl|assumption|exact Ar.mk (by omega)|exact dct (by first|assumption|omega)|exact dcf (by first|assumption|omega)|exact List.not_mem_nil|apply dc_length|apply ec_length|apply dl_length|fail))|fail) ?_)
    refine NG.round (v', m', i + 1) (by (repeat' (first | exact True.intro | exact rfl | refine And.intro ?_ ?_))) ⟨by simp only; omega, by simp only; omega, k4, hL4, hW4, by simp only; omega⟩ (by simp only; omega)
  · repeat (refine CG.seq ?_)
    refine CG.cut_then (fun L w' => SubE [(0, .slice a l.length c), (3, .pointer (some ⟨b, 0, none⟩)), (32, .bool false)] L ∧ w' = w2) ?_ ?_
    · by_cases h1 : i < l.length
      · have g1 : (i : Int) < (l.length : Int) := by omega
        have g2 : ¬ (i : Int) < 16 := by omega
        repeat (first | first|apply CG.seq|apply CG.region|apply SG.nil|apply NG.next|apply CG.skip|apply CG.block|apply CG.ret|apply CG.exit|apply NG.ret_then|apply NG.ret_block|apply NG.exit_then|refine NG.exit_block rfl ?_|apply NG.normal_block|refine SG.val rfl rfl rfl rfl (by first|((first|apply qep|apply qeo|apply qmv|apply qas|apply qlc|apply qla|apply qfa|apply qix|apply qpk|apply qls|apply qei|apply qni|apply qad|apply qln|apply qxt|apply qnt|apply qep)<;>(first|exact rfl|assumption|exact Ar.mk (by omega)|exact dct (by first|assumption|omega)|exact dcf (by first|assumption|omega)|exact List.not_mem_nil|apply dc_length|apply ec_length|apply dl_length|fail))|fail) ?_ | refine SG.skip rfl rfl ?_)
        exact NG.cut ⟨by (repeat' (first | exact True.intro | exact rfl | refine And.intro ?_ ?_)), rfl⟩
      · have g1 : ¬ (i : Int) < (l.length : Int) := by omega
        repeat (first | first|apply CG.seq|apply CG.region|apply SG.nil|apply NG.next|apply CG.skip|apply CG.block|apply CG.ret|apply CG.exit|apply NG.ret_then|apply NG.ret_block|apply NG.exit_then|refine NG.exit_block rfl ?_|apply NG.normal_block|refine SG.val rfl rfl rfl rfl (by first|((first|apply qep|apply qeo|apply qmv|apply qas|apply qlc|apply qla|apply qfa|apply qix|apply qpk|apply qls|apply qei|apply qni|apply qad|apply qln|apply qxt|apply qnt|apply qep)<;>(first|exact rfl|assumption|exact Ar.mk (by omega)|exact dct (by first|assumption|omega)|exact dcf (by first|assumption|omega)|exact List.not_mem_nil|apply dc_length|apply ec_length|apply dl_length|fail))|fail) ?_ | refine SG.skip rfl rfl ?_)
        exact NG.cut ⟨by (repeat' (first | exact True.intro | exact rfl | refine And.intro ?_ ?_)), rfl⟩
    rintro L _ ⟨hLL, rfl⟩
    refine CG.to _ hLL ?_
    repeat (first|apply CG.seq|apply CG.region|apply SG.nil|apply NG.next|apply CG.skip|apply CG.block|apply CG.ret|apply CG.exit|apply NG.ret_then|apply NG.ret_block|apply NG.exit_then|refine NG.exit_block rfl ?_|apply NG.normal_block|refine SG.val rfl rfl rfl rfl (by first|((first|apply qep|apply qeo|apply qmv|apply qas|apply qlc|apply qla|apply qfa|apply qix|apply qpk|apply qls|apply qei|apply qni|apply qad|apply qln|apply qxt|apply qnt|apply qep)<;>(first|exact rfl|assumption|exact Ar.mk (by omega)|exact dct (by first|assumption|omega)|exact dcf (by first|assumption|omega)|exact List.not_mem_nil|apply dc_length|apply ec_length|apply dl_length|fail))|fail) ?_)
    refine CG.cond_f rfl (by exact rho_of rfl) rfl ?_
    have hm16 : m.length ≤ 16 := by omega
    clear hm hlt hi hi16 hL1 hB
    repeat (first|apply CG.seq|apply CG.region|apply SG.nil|apply NG.next|apply CG.skip|apply CG.block|apply CG.ret|apply CG.exit|apply NG.ret_then|apply NG.ret_block|apply NG.exit_then|refine NG.exit_block rfl ?_|apply NG.normal_block|refine SG.val rfl rfl rfl rfl (by first|((first|apply qep|apply qeo|apply qmv|apply qas|apply qlc|apply qla|apply qfa|apply qix|apply qpk|apply qls|apply qei|apply qni|apply qad|apply qln|apply qxt|apply qnt|apply qep)<;>(first|exact rfl|assumption|exact Ar.mk (by omega)|exact dct (by first|assumption|omega)|exact dcf (by first|assumption|omega)|exact List.not_mem_nil|apply dc_length|apply ec_length|apply dl_length|fail))|fail) ?_)
    refine CG.loop (X := Value × List Ofr × Nat) (fun x => [(3, .pointer (some ⟨b, 0, none⟩)), (6, .int .i64 (x.2.2 : Int))])
      (fun x w' => x.2.2 ≤ 10 ∧ Kp [] w w' ∧ Lob w.heap.size w' b 20 x.1 x.2.1 ∧ Wait x.2.1 ∧ x.2.1.length ≤ 16) (fun x => 10 - x.2.2) (v, m, 0) ⟨by simp, hk2, hL2, hW2, hm16⟩ (by (repeat' (first | exact True.intro | exact rfl | refine And.intro ?_ ?_))) ?_
    clear hm16 hW2 hL2 hk2 hLL L v m i
    rintro ⟨v, m, r⟩ w3 ⟨hr, hk3, hL3, hW3, hm⟩
    simp only at hr hL3 hW3 hm
    refine CG.to [(3, .pointer (some ⟨b, 0, none⟩)), (6, .int .i64 (r : Int))] (by (repeat' (first | exact True.intro | exact rfl | refine And.intro ?_ ?_))) ?_
    by_cases hr10 : r < 10
    · have g1 : (r : Int) < 10 := by omega
      have hlm := hW3.late
      repeat (first|apply CG.seq|apply CG.region|apply SG.nil|apply NG.next|apply CG.skip|apply CG.block|apply CG.ret|apply CG.exit|apply NG.ret_then|apply NG.ret_block|apply NG.exit_then|refine NG.exit_block rfl ?_|apply NG.normal_block|refine SG.val rfl rfl rfl rfl (by first|((first|apply qep|apply qeo|apply qmv|apply qas|apply qlc|apply qla|apply qfa|apply qix|apply qpk|apply qls|apply qei|apply qni|apply qad|apply qln|apply qxt|apply qnt|apply qep)<;>(first|exact rfl|assumption|exact Ar.mk (by omega)|exact dct (by first|assumption|omega)|exact dcf (by first|assumption|omega)|exact List.not_mem_nil|apply dc_length|apply ec_length|apply dl_length|fail))|fail) ?_)
      refine CG.cond_t rfl (by exact rho_of rfl) rfl ?_
      repeat (first|apply CG.seq|apply CG.region|apply SG.nil|apply NG.next|apply CG.skip|apply CG.block|apply CG.ret|apply CG.exit|apply NG.ret_then|apply NG.ret_block|apply NG.exit_then|refine NG.exit_block rfl ?_|apply NG.normal_block|refine SG.val rfl rfl rfl rfl (by first|((first|apply qep|apply qeo|apply qmv|apply qas|apply qlc|apply qla|apply qfa|apply qix|apply qpk|apply qls|apply qei|apply qni|apply qad|apply qln|apply qxt|apply qnt|apply qep)<;>(first|exact rfl|assumption|exact Ar.mk (by omega)|exact dct (by first|assumption|omega)|exact dcf (by first|assumption|omega)|exact List.not_mem_nil|apply dc_length|apply ec_length|apply dl_length|fail))|fail) ?_)
      refine SG.call rfl rfl rfl (vs := [.pointer (some ⟨b, 0, none⟩), .int .i64 0]) (by repeat' (first | exact True.intro | exact rho_of rfl | refine And.intro ?_ ?_)) ((all2_spec 0 hL3 (by omega)).mono (fun e w4 hh => ?_))
      obtain ⟨vw, he, hw4, hk4⟩ := hh
      refine ⟨_, he, ?_⟩
      rw [hlm] at hw4
      have hL4 := hL3.kp0 hk4
      repeat (first|apply CG.seq|apply CG.region|apply SG.nil|apply NG.next|apply CG.skip|apply CG.block|apply CG.ret|apply CG.exit|apply NG.ret_then|apply NG.ret_block|apply NG.exit_then|refine NG.exit_block rfl ?_|apply NG.normal_block|refine SG.val rfl rfl rfl rfl (by first|((first|apply qep|apply qeo|apply qmv|apply qas|apply qlc|apply qla|apply qfa|apply qix|apply qpk|apply qls|apply qei|apply qni|apply qad|apply qln|apply qxt|apply qnt|apply qep)<;>(first|exact rfl|assumption|exact Ar.mk (by omega)|exact dct (by first|assumption|omega)|exact dcf (by first|assumption|omega)|exact List.not_mem_nil|apply dc_length|apply ec_length|apply dl_length|fail))|fail) ?_)
      refine SG.call rfl rfl rfl (vs := [.pointer (some ⟨b, 0, none⟩), .int .i64 0]) (by repeat' (first | exact True.intro | exact rho_of rfl | refine And.intro ?_ ?_)) ((match_spec 0 hL4 (by omega) hW3.ok).mono (fun e w5 hh => ?_))
      rw [hlm] at hh
      rcases hh with ⟨hF, he, hk5⟩ | ⟨t, vd, vt, v', hF, he, hD, ht5, hk5, hL5, _⟩
      · refine ⟨_, he, ?_⟩
        obtain ⟨aw, cw, rfl, hcw, hSw⟩ := Sl.own ec_length hw4 rfl
        repeat (first|apply CG.seq|apply CG.region|apply SG.nil|apply NG.next|apply CG.skip|apply CG.block|apply CG.ret|apply CG.exit|apply NG.ret_then|apply NG.ret_block|apply NG.exit_then|refine NG.exit_block rfl ?_|apply NG.normal_block|refine SG.val rfl rfl rfl rfl (by first|((first|apply qep|apply qeo|apply qmv|apply qas|apply qlc|apply qla|apply qfa|apply qix|apply qpk|apply qls|apply qei|apply qni|apply qad|apply qln|apply qxt|apply qnt|apply qep)<;>(first|exact rfl|assumption|exact Ar.mk (by omega)|exact dct (by first|assumption|omega)|exact dcf (by first|assumption|omega)|exact List.not_mem_nil|apply dc_length|apply ec_length|apply dl_length|fail))|fail) ?_)
        refine SG.alloc rfl rfl rfl (fun b8 w6 hk6 hb8 hB8 => ?_)
        refine SG.setAll (l := dl zd (.slice none 0 0) 0 0) rfl rfl (by exact rho_of rfl) (by exact rho_of rfl) hB8 (dl_length _ _ _ _) rfl (dl_one _ _ _ _ _ _) (fun w7 hk7 hB9 => ?_)
        have hB9 : Blk w7 b8 (.cells (dl zd (.slice none 0 0) 0 0).toArray 27) := hB9
        have k57 : Kp [] w5 w7 := hk6.trans_new hk7 (new1 (by omega))
        have hL7 := (hL4.kp0 hk5).kp0 k57
        repeat (first|apply CG.seq|apply CG.region|apply SG.nil|apply NG.next|apply CG.skip|apply CG.block|apply CG.ret|apply CG.exit|apply NG.ret_then|apply NG.ret_block|apply NG.exit_then|refine NG.exit_block rfl ?_|apply NG.normal_block|refine SG.val rfl rfl rfl rfl (by first|((first|apply qep|apply qeo|apply qmv|apply qas|apply qlc|apply qla|apply qfa|apply qix|apply qpk|apply qls|apply qei|apply qni|apply qad|apply qln|apply qxt|apply qnt|apply qep)<;>(first|exact rfl|assumption|exact Ar.mk (by omega)|exact dct (by first|assumption|omega)|exact dcf (by first|assumption|omega)|exact List.not_mem_nil|apply dc_length|apply ec_length|apply dl_length|fail))|fail) ?_)
        refine SG.call rfl rfl rfl (vs := [.pointer (some ⟨b, 0, none⟩), .int .i64 0]) (by repeat' (first | exact True.intro | exact rho_of rfl | refine And.intro ?_ ?_)) ((all2_spec 0 hL7 (by omega)).mono (fun e w8 hh => ?_))
        obtain ⟨vl, he, hl8, hk8⟩ := hh
        refine ⟨_, he, ?_⟩
        rw [hlm] at hl8
        obtain ⟨al, cl, rfl, hcl, hSl⟩ := Sl.own ec_length hl8 rfl
        have hn0 : ((0 : Nat) : Int) = 0 := rfl
        have hmm : (m.length : Int) = (m.length : Int) := rfl
        repeat (first|apply CG.seq|apply CG.region|apply SG.nil|apply NG.next|apply CG.skip|apply CG.block|apply CG.ret|apply CG.exit|apply NG.ret_then|apply NG.ret_block|apply NG.exit_then|refine NG.exit_block rfl ?_|apply NG.normal_block|refine SG.val rfl rfl rfl rfl (by first|((first|apply qep|apply qeo|apply qmv|apply qas|apply qlc|apply qla|apply qfa|apply qix|apply qpk|apply qls|apply qei|apply qni|apply qad|apply qln|apply qxt|apply qnt|apply qep)<;>(first|exact rfl|assumption|exact Ar.mk (by omega)|exact dct (by first|assumption|omega)|exact dcf (by first|assumption|omega)|exact List.not_mem_nil|apply dc_length|apply ec_length|apply dl_length|fail))|fail) ?_)
        refine CG.cond_t rfl (by exact rho_of rfl) rfl ?_
        repeat (first|apply CG.seq|apply CG.region|apply SG.nil|apply NG.next|apply CG.skip|apply CG.block|apply CG.ret|apply CG.exit|apply NG.ret_then|apply NG.ret_block|apply NG.exit_then|refine NG.exit_block rfl ?_|apply NG.normal_block|refine SG.val rfl rfl rfl rfl (by first|((first|apply qep|apply qeo|apply qmv|apply qas|apply qlc|apply qla|apply qfa|apply qix|apply qpk|apply qls|apply qei|apply qni|apply qad|apply qln|apply qxt|apply qnt|apply qep)<;>(first|exact rfl|assumption|exact Ar.mk (by omega)|exact dct (by first|assumption|omega)|exact dcf (by first|assumption|omega)|exact List.not_mem_nil|apply dc_length|apply ec_length|apply dl_length|fail))|fail) ?_)
        refine SG.ret rfl rfl rfl (vs := []) (by repeat' (first | exact True.intro | exact rho_of rfl | refine And.intro ?_ ?_)) (known_spec w8) (fun w9 hk9 => ?_)
        obtain ⟨-, p1, -, -, -⟩ := dl_rows ((hB9.kp0 hk8).kp0 hk9)
        repeat (first | first|apply CG.seq|apply CG.region|apply SG.nil|apply NG.next|apply CG.skip|apply CG.block|apply CG.ret|apply CG.exit|apply NG.ret_then|apply NG.ret_block|apply NG.exit_then|refine NG.exit_block rfl ?_|apply NG.normal_block|refine SG.val rfl rfl rfl rfl (by first|((first|apply qep|apply qeo|apply qmv|apply qas|apply qlc|apply qla|apply qfa|apply qix|apply qpk|apply qls|apply qei|apply qni|apply qad|apply qln|apply qxt|apply qnt|apply qep)<;>(first|exact rfl|assumption|exact Ar.mk (by omega)|exact dct (by first|assumption|omega)|exact dcf (by first|assumption|omega)|exact List.not_mem_nil|apply dc_length|apply ec_length|apply dl_length|fail))|fail) ?_ | refine SG.skip rfl rfl ?_)
        refine ret1 (Or.inl rfl) Try.results9 (by first | exact ResV.tmp rfl | exact ResV.agg rfl rfl (by assumption) (by first | exact dc_length _ | exact nc_length _ | exact rc_length _ _ _ | exact ec_length _ | exact dl_length _ _ _ _ | rfl) | exact ResV.cell rfl rfl (by assumption)) ?_
        exact ⟨rfl, (((((hk3.trans hk4).trans hk5).trans k57).trans hk8).trans hk9)⟩
      · refine ⟨_, he, ?_⟩
        obtain ⟨sd, rfl, hsd⟩ := hD
        have hd0 := deal_found hF hW3.ok
        have hdl := deal_len0 hd0
        have hfo := follows0 hd0
        have hsub := (findD_some hF).1
        have hnd := hW3.nodup
        have hft := sub_filter hsub hnd
        have hsl := sub_len hsub hnd
        have htl : t.length ≤ 16 := Nat.le_trans hsub.length_le hm
        generalize (dealOf t).1 = D at hsd hdl hfo
        have k5 := hL4.kp2 hb (hk3.trans hk4) hk5
        have hw5 := own_kp hw4 hk5 (fun z hz => hL3.new (own_geB hw4 z hz) )
        obtain ⟨aw, cw, rfl, hcw, hSw⟩ := Sl.own ec_length hw5 rfl
        obtain ⟨at', ct, rfl, hct, hSt⟩ := Sl.own ec_length ht5 rfl
        obtain ⟨ad, cd, rfl, hcd, hSd⟩ := Sl.own dc_length hsd rfl
        repeat (first|apply CG.seq|apply CG.region|apply SG.nil|apply NG.next|apply CG.skip|apply CG.block|apply CG.ret|apply CG.exit|apply NG.ret_then|apply NG.ret_block|apply NG.exit_then|refine NG.exit_block rfl ?_|apply NG.normal_block|refine SG.val rfl rfl rfl rfl (by first|((first|apply qep|apply qeo|apply qmv|apply qas|apply qlc|apply qla|apply qfa|apply qix|apply qpk|apply qls|apply qei|apply qni|apply qad|apply qln|apply qxt|apply qnt|apply qep)<;>(first|exact rfl|assumption|exact Ar.mk (by omega)|exact dct (by first|assumption|omega)|exact dcf (by first|assumption|omega)|exact List.not_mem_nil|apply dc_length|apply ec_length|apply dl_length|fail))|fail) ?_)
        refine SG.alloc rfl rfl rfl (fun b8 w6 hk6 hb8 hB8 => ?_)
        refine SG.setAll (l := dl D.rules (.slice ad D.who.length cd) D.stake D.window) rfl rfl (by exact rho_of rfl) (by exact rho_of rfl) hB8 (dl_length _ _ _ _) rfl (dl_one _ _ _ _ _ _) (fun w7 hk7 hB9 => ?_)
        have hB9 : Blk w7 b8 (.cells (dl D.rules (.slice ad D.who.length cd) D.stake D.window).toArray 27) := hB9
        have k57 : Kp [] w5 w7 := hk6.trans_new hk7 (new1 (by omega))
        have hL7 := hL5.kp0 k57
        have hW5 := hW3.filter (fun x => !decide (x ∈ t))
        have hlm5 := hW5.late
        generalize hM : m.filter (fun x => !decide (x ∈ t)) = m2 at hL5 hL7 hW5 hlm5 hsl
        repeat (first|apply CG.seq|apply CG.region|apply SG.nil|apply NG.next|apply CG.skip|apply CG.block|apply CG.ret|apply CG.exit|apply NG.ret_then|apply NG.ret_block|apply NG.exit_then|refine NG.exit_block rfl ?_|apply NG.normal_block|refine SG.val rfl rfl rfl rfl (by first|((first|apply qep|apply qeo|apply qmv|apply qas|apply qlc|apply qla|apply qfa|apply qix|apply qpk|apply qls|apply qei|apply qni|apply qad|apply qln|apply qxt|apply qnt|apply qep)<;>(first|exact rfl|assumption|exact Ar.mk (by omega)|exact dct (by first|assumption|omega)|exact dcf (by first|assumption|omega)|exact List.not_mem_nil|apply dc_length|apply ec_length|apply dl_length|fail))|fail) ?_)
        refine SG.call rfl rfl rfl (vs := [.pointer (some ⟨b, 0, none⟩), .int .i64 0]) (by repeat' (first | exact True.intro | exact rho_of rfl | refine And.intro ?_ ?_)) ((all2_spec 0 hL7 (by omega)).mono (fun e w8 hh => ?_))
        obtain ⟨vl, he, hl8, hk8⟩ := hh
        refine ⟨_, he, ?_⟩
        rw [hlm5] at hl8
        obtain ⟨al, cl, rfl, hcl, hSl⟩ := Sl.own ec_length hl8 rfl
        have k58 := k57.trans hk8
        repeat (first|apply CG.seq|apply CG.region|apply SG.nil|apply NG.next|apply CG.skip|apply CG.block|apply CG.ret|apply CG.exit|apply NG.ret_then|apply NG.ret_block|apply NG.exit_then|refine NG.exit_block rfl ?_|apply NG.normal_block|refine SG.val rfl rfl rfl rfl (by first|((first|apply qep|apply qeo|apply qmv|apply qas|apply qlc|apply qla|apply qfa|apply qix|apply qpk|apply qls|apply qei|apply qni|apply qad|apply qln|apply qxt|apply qnt|apply qep)<;>(first|exact rfl|assumption|exact Ar.mk (by omega)|exact dct (by first|assumption|omega)|exact dcf (by first|assumption|omega)|exact List.not_mem_nil|apply dc_length|apply ec_length|apply dl_length|fail))|fail) ?_)
        refine CG.cond_f rfl (by exact rho_of rfl) rfl ?_
        have hB10 := hB9.kp0 hk8
        have hRd : Row w8 b8 0 (dl D.rules (.slice ad D.who.length cd) D.stake D.window) := Row.all hB10 rfl
        repeat (first|apply CG.seq|apply CG.region|apply SG.nil|apply NG.next|apply CG.skip|apply CG.block|apply CG.ret|apply CG.exit|apply NG.ret_then|apply NG.ret_block|apply NG.exit_then|refine NG.exit_block rfl ?_|apply NG.normal_block|refine SG.val rfl rfl rfl rfl (by first|((first|apply qep|apply qeo|apply qmv|apply qas|apply qlc|apply qla|apply qfa|apply qix|apply qpk|apply qls|apply qei|apply qni|apply qad|apply qln|apply qxt|apply qnt|apply qep)<;>(first|exact rfl|assumption|exact Ar.mk (by omega)|exact dct (by first|assumption|omega)|exact dcf (by first|assumption|omega)|exact List.not_mem_nil|apply dc_length|apply ec_length|apply dl_length|fail))|fail) ?_)
        refine SG.ret rfl rfl rfl (vs := [dealV D.rules (.slice ad D.who.length cd) D.stake D.window, .slice at' t.length ct]) (by repeat' (first | exact True.intro | exact rho_of rfl | refine And.intro ?_ ?_)) (follows_spec D (hSd.kp0 k58) (by omega) (hSt.kp0 k58) (by omega) hct) (fun w9 hk9 => ?_)
        rw [hfo]
        obtain ⟨-, p1, -, -, -⟩ := dl_rows (hB10.kp0 hk9)
        have e1 : ((m2.length : Int) + (t.length : Int)) = (m.length : Int) := by omega
        have e2 : (t.length : Int) = (D.who.length : Int) := by omega
        repeat (first | first|apply CG.seq|apply CG.region|apply SG.nil|apply NG.next|apply CG.skip|apply CG.block|apply CG.ret|apply CG.exit|apply NG.ret_then|apply NG.ret_block|apply NG.exit_then|refine NG.exit_block rfl ?_|apply NG.normal_block|refine SG.val rfl rfl rfl rfl (by first|((first|apply qep|apply qeo|apply qmv|apply qas|apply qlc|apply qla|apply qfa|apply qix|apply qpk|apply qls|apply qei|apply qni|apply qad|apply qln|apply qxt|apply qnt|apply qep)<;>(first|exact rfl|assumption|exact Ar.mk (by omega)|exact dct (by first|assumption|omega)|exact dcf (by first|assumption|omega)|exact List.not_mem_nil|apply dc_length|apply ec_length|apply dl_length|fail))|fail) ?_ | refine SG.skip rfl rfl ?_)
        refine CG.cond_f rfl (by exact rho_of rfl) rfl ?_
        have k59 := k58.trans hk9
        have hSw := hSw.kp0 k59
        have hSt := hSt.kp0 k59
        have hSl := hSl.kp0 hk9
        repeat (first|apply CG.seq|apply CG.region|apply SG.nil|apply NG.next|apply CG.skip|apply CG.block|apply CG.ret|apply CG.exit|apply NG.ret_then|apply NG.ret_block|apply NG.exit_then|refine NG.exit_block rfl ?_|apply NG.normal_block|refine SG.val rfl rfl rfl rfl (by first|((first|apply qep|apply qeo|apply qmv|apply qas|apply qlc|apply qla|apply qfa|apply qix|apply qpk|apply qls|apply qei|apply qni|apply qad|apply qln|apply qxt|apply qnt|apply qep)<;>(first|exact rfl|assumption|exact Ar.mk (by omega)|exact dct (by first|assumption|omega)|exact dcf (by first|assumption|omega)|exact List.not_mem_nil|apply dc_length|apply ec_length|apply dl_length|fail))|fail) ?_)
        refine CG.loop (X := Nat × Nat × Nat) (fun x => [(3, .pointer (some ⟨b, 0, none⟩)), (6, .int .i64 (r : Int)), (7, .slice aw m.length cw), (9, .slice at' t.length ct), (11, .slice al m2.length cl), (12, .int .i64 (x.2.1 : Int)), (13, .int .i64 (x.2.2 : Int)), (14, .int .i64 (x.1 : Int))])
          (fun x w' => x.1 ≤ m.length ∧ Kp [] w9 w' ∧ x.2.1 = ((m.take x.1).filter (fun x => decide (x ∈ t))).length ∧ x.2.2 = ((m.take x.1).filter (fun x => !decide (x ∈ t))).length) (fun x => m.length - x.1) (0, 0, 0) ⟨Nat.zero_le _, Kp.refl _ _, rfl, rfl⟩ (by (repeat' (first | exact True.intro | exact rfl | refine And.intro ?_ ?_))) ?_
        rintro ⟨i, j, k⟩ w10 ⟨hi, hk10, hj, hk⟩
        simp only at hi hj hk
        refine CG.to [(3, .pointer (some ⟨b, 0, none⟩)), (6, .int .i64 (r : Int)), (7, .slice aw m.length cw), (9, .slice at' t.length ct), (11, .slice al m2.length cl), (12, .int .i64 (j : Int)), (13, .int .i64 (k : Int)), (14, .int .i64 (i : Int))] (by (repeat' (first | exact True.intro | exact rfl | refine And.intro ?_ ?_))) ?_
        by_cases hlt : i < m.length
        · have g2 : (i : Int) < (m.length : Int) := by omega
          obtain ⟨bw, ow, rfl, hrw⟩ := (hSw.kp0 hk10).at hlt
          have hfw := (hW3.ok _ (List.getElem_mem hlt)).fit
          have st1 := filt_step (fun x => decide (x ∈ t)) m i hlt
          have st2 := filt_step (fun x => !decide (x ∈ t)) m i hlt
          have at1 := filt_at (fun x => decide (x ∈ t)) m i hlt
          have at2 := filt_at (fun x => !decide (x ∈ t)) m i hlt
          rw [hft, ← hj] at at1
          rw [hM, ← hk] at at2
          rw [← hj] at st1
          rw [← hk] at st2
          repeat (first|apply CG.seq|apply CG.region|apply SG.nil|apply NG.next|apply CG.skip|apply CG.block|apply CG.ret|apply CG.exit|apply NG.ret_then|apply NG.ret_block|apply NG.exit_then|refine NG.exit_block rfl ?_|apply NG.normal_block|refine SG.val rfl rfl rfl rfl (by first|((first|apply qep|apply qeo|apply qmv|apply qas|apply qlc|apply qla|apply qfa|apply qix|apply qpk|apply qls|apply qei|apply qni|apply qad|apply qln|apply qxt|apply qnt|apply qep)<;>(first|exact rfl|assumption|exact Ar.mk (by omega)|exact dct (by first|assumption|omega)|exact dcf (by first|assumption|omega)|exact List.not_mem_nil|apply dc_length|apply ec_length|apply dl_length|fail))|fail) ?_)
          refine CG.cond_t rfl (by exact rho_of rfl) rfl ?_
          by_cases hmt : m[i] ∈ t
          · rw [decide_eq_true hmt] at st1 st2 at1
            have at1 := at1 rfl
            obtain ⟨hjt, hje⟩ := List.getElem?_eq_some_iff.1 at1
            have g3 : (j : Int) < (t.length : Int) := by omega
            obtain ⟨bz, oz, rfl, hrt⟩ := (hSt.kp0 hk10).at hjt
            rw [hje] at hrt
            have eq1 : m[i] = m[i] := rfl
            generalize m[i] = x at hrw hrt hfw eq1
            repeat (first|apply CG.seq|apply CG.region|apply SG.nil|apply NG.next|apply CG.skip|apply CG.block|apply CG.ret|apply CG.exit|apply NG.ret_then|apply NG.ret_block|apply NG.exit_then|refine NG.exit_block rfl ?_|apply NG.normal_block|refine SG.val rfl rfl rfl rfl (by first|((first|apply qep|apply qeo|apply qmv|apply qas|apply qlc|apply qla|apply qfa|apply qix|apply qpk|apply qls|apply qei|apply qni|apply qad|apply qln|apply qxt|apply qnt|apply qep)<;>(first|exact rfl|assumption|exact Ar.mk (by omega)|exact dct (by first|assumption|omega)|exact dcf (by first|assumption|omega)|exact List.not_mem_nil|apply dc_length|apply ec_length|apply dl_length|fail))|fail) ?_)
            refine CG.draw0 mixed [0, 1, 2, 3, 4, 5, 6, 7, 8, 9, 10, 11, 12, 13, 14, 15] [] (by kernel_rfl) ?_
            repeat (first | refine Der.val rfl rfl rfl (by first|((first|apply qep|apply qeo|apply qmv|apply qas|apply qlc|apply qla|apply qfa|apply qix|apply qpk|apply qls|apply qei|apply qni|apply qad|apply qln|apply qxt|apply qnt|apply qep)<;>(first|exact rfl|assumption|exact Ar.mk (by omega)|exact dct (by first|assumption|omega)|exact dcf (by first|assumption|omega)|exact List.not_mem_nil|apply dc_length|apply ec_length|apply dl_length|fail))|fail) ?_ | refine Der.skip rfl rfl ?_)
            refine Der.fin (fun w11 hk11 _ _ => ?_)
            repeat (first|apply CG.seq|apply CG.region|apply SG.nil|apply NG.next|apply CG.skip|apply CG.block|apply CG.ret|apply CG.exit|apply NG.ret_then|apply NG.ret_block|apply NG.exit_then|refine NG.exit_block rfl ?_|apply NG.normal_block|refine SG.val rfl rfl rfl rfl (by first|((first|apply qep|apply qeo|apply qmv|apply qas|apply qlc|apply qla|apply qfa|apply qix|apply qpk|apply qls|apply qei|apply qni|apply qad|apply qln|apply qxt|apply qnt|apply qep)<;>(first|exact rfl|assumption|exact Ar.mk (by omega)|exact dct (by first|assumption|omega)|exact dcf (by first|assumption|omega)|exact List.not_mem_nil|apply dc_length|apply ec_length|apply dl_length|fail))|fail) ?_)
            refine CG.cond_t rfl (by exact rho_of rfl) rfl ?_
            repeat (first|apply CG.seq|apply CG.region|apply SG.nil|apply NG.next|apply CG.skip|apply CG.block|apply CG.ret|apply CG.exit|apply NG.ret_then|apply NG.ret_block|apply NG.exit_then|refine NG.exit_block rfl ?_|apply NG.normal_block|refine SG.val rfl rfl rfl rfl (by first|((first|apply qep|apply qeo|apply qmv|apply qas|apply qlc|apply qla|apply qfa|apply qix|apply qpk|apply qls|apply qei|apply qni|apply qad|apply qln|apply qxt|apply qnt|apply qep)<;>(first|exact rfl|assumption|exact Ar.mk (by omega)|exact dct (by first|assumption|omega)|exact dcf (by first|assumption|omega)|exact List.not_mem_nil|apply dc_length|apply ec_length|apply dl_length|fail))|fail) ?_)
            refine NG.round (i + 1, j + 1, k) (by (repeat' (first | exact True.intro | exact rfl | refine And.intro ?_ ?_))) ⟨by simp only; omega, hk10.trans hk11, by simp only; rw [st1]; rfl, by simp only; rw [st2]; rfl⟩ (by simp only; omega)
          · rw [decide_eq_false hmt] at st1 st2 at2
            have at2 := at2 rfl
            obtain ⟨hkl, hke⟩ := List.getElem?_eq_some_iff.1 at2
            have g4 : (k : Int) < (m2.length : Int) := by omega
            obtain ⟨bz, oz, rfl, hrl⟩ := (hSl.kp0 hk10).at hkl
            rw [hke] at hrl
            have eq1 : m[i] = m[i] := rfl
            have hneq : ∀ (h : j < t.length), ¬ m[i] = t[j] := fun h e => hmt (e ▸ List.getElem_mem h)
            have hfj : ∀ (h : j < t.length), (t[j]).Fit := fun h => (hW3.ok _ (hsub.subset (List.getElem_mem h))).fit
            generalize m[i] = x at hrw hrl hfw eq1 hneq
            repeat (first|apply CG.seq|apply CG.region|apply SG.nil|apply NG.next|apply CG.skip|apply CG.block|apply CG.ret|apply CG.exit|apply NG.ret_then|apply NG.ret_block|apply NG.exit_then|refine NG.exit_block rfl ?_|apply NG.normal_block|refine SG.val rfl rfl rfl rfl (by first|((first|apply qep|apply qeo|apply qmv|apply qas|apply qlc|apply qla|apply qfa|apply qix|apply qpk|apply qls|apply qei|apply qni|apply qad|apply qln|apply qxt|apply qnt|apply qep)<;>(first|exact rfl|assumption|exact Ar.mk (by omega)|exact dct (by first|assumption|omega)|exact dcf (by first|assumption|omega)|exact List.not_mem_nil|apply dc_length|apply ec_length|apply dl_length|fail))|fail) ?_)
            refine CG.cut_then (fun L w' => SubE [(3, .pointer (some ⟨b, 0, none⟩)), (6, .int .i64 (r : Int)), (7, .slice (some ⟨bw, ow, none⟩) m.length cw), (9, .slice at' t.length ct), (11, .slice (some ⟨bz, oz, none⟩) m2.length cl), (12, .int .i64 (j : Int)), (13, .int .i64 (k : Int)), (14, .int .i64 (i : Int)), (105, .bool false)] L ∧ Kp [] w10 w') ?_ ?_
            · by_cases hjt : j < t.length
              · have g3 : (j : Int) < (t.length : Int) := by omega
                obtain ⟨by', oy, rfl, hrt⟩ := (hSt.kp0 hk10).at hjt
                have hneq := hneq hjt
                have hfj := hfj hjt
                refine CG.draw0 mixed [0, 1, 2, 3, 4, 5, 6, 7, 8, 9, 10, 11, 12, 13, 14, 15] [] (by kernel_rfl) ?_
                repeat (first | refine Der.val rfl rfl rfl (by first|((first|apply qep|apply qeo|apply qmv|apply qas|apply qlc|apply qla|apply qfa|apply qix|apply qpk|apply qls|apply qei|apply qni|apply qad|apply qln|apply qxt|apply qnt|apply qep)<;>(first|exact rfl|assumption|exact Ar.mk (by omega)|exact dct (by first|assumption|omega)|exact dcf (by first|assumption|omega)|exact List.not_mem_nil|apply dc_length|apply ec_length|apply dl_length|fail))|fail) ?_ | refine Der.skip rfl rfl ?_)
                refine Der.fin (fun w11 hk11 _ _ => ?_)
                exact NG.cut ⟨by (repeat' (first | exact True.intro | exact rfl | refine And.intro ?_ ?_)), hk11⟩
              · have g3 : ¬ (j : Int) < (t.length : Int) := by omega
                refine CG.draw0 mixed [0, 1, 2, 3, 4, 5, 6, 7, 8, 9, 10, 11, 12, 13, 14, 15] [] (by kernel_rfl) ?_
                repeat (first | refine Der.val rfl rfl rfl (by first|((first|apply qep|apply qeo|apply qmv|apply qas|apply qlc|apply qla|apply qfa|apply qix|apply qpk|apply qls|apply qei|apply qni|apply qad|apply qln|apply qxt|apply qnt|apply qep)<;>(first|exact rfl|assumption|exact Ar.mk (by omega)|exact dct (by first|assumption|omega)|exact dcf (by first|assumption|omega)|exact List.not_mem_nil|apply dc_length|apply ec_length|apply dl_length|fail))|fail) ?_ | refine Der.skip rfl rfl ?_)
                refine Der.fin (fun w11 hk11 _ _ => ?_)
                exact NG.cut ⟨by (repeat' (first | exact True.intro | exact rfl | refine And.intro ?_ ?_)), hk11⟩
            rintro L w11 ⟨hLL, hk11⟩
            refine CG.to _ hLL ?_
            have hrw := hrw.kp0 hk11
            have hrl := hrl.kp0 hk11
            repeat (first|apply CG.seq|apply CG.region|apply SG.nil|apply NG.next|apply CG.skip|apply CG.block|apply CG.ret|apply CG.exit|apply NG.ret_then|apply NG.ret_block|apply NG.exit_then|refine NG.exit_block rfl ?_|apply NG.normal_block|refine SG.val rfl rfl rfl rfl (by first|((first|apply qep|apply qeo|apply qmv|apply qas|apply qlc|apply qla|apply qfa|apply qix|apply qpk|apply qls|apply qei|apply qni|apply qad|apply qln|apply qxt|apply qnt|apply qep)<;>(first|exact rfl|assumption|exact Ar.mk (by omega)|exact dct (by first|assumption|omega)|exact dcf (by first|assumption|omega)|exact List.not_mem_nil|apply dc_length|apply ec_length|apply dl_length|fail))|fail) ?_)
            refine CG.cond_f rfl (by exact rho_of rfl) rfl ?_
            repeat (first|apply CG.seq|apply CG.region|apply SG.nil|apply NG.next|apply CG.skip|apply CG.block|apply CG.ret|apply CG.exit|apply NG.ret_then|apply NG.ret_block|apply NG.exit_then|refine NG.exit_block rfl ?_|apply NG.normal_block|refine SG.val rfl rfl rfl rfl (by first|((first|apply qep|apply qeo|apply qmv|apply qas|apply qlc|apply qla|apply qfa|apply qix|apply qpk|apply qls|apply qei|apply qni|apply qad|apply qln|apply qxt|apply qnt|apply qep)<;>(first|exact rfl|assumption|exact Ar.mk (by omega)|exact dct (by first|assumption|omega)|exact dcf (by first|assumption|omega)|exact List.not_mem_nil|apply dc_length|apply ec_length|apply dl_length|fail))|fail) ?_)
            refine CG.draw0 mixed [0, 1, 2, 3, 4, 5, 6, 7, 8, 9, 10, 11, 12, 13, 14, 15] [] (by kernel_rfl) ?_
            repeat (first | refine Der.val rfl rfl rfl (by first|((first|apply qep|apply qeo|apply qmv|apply qas|apply qlc|apply qla|apply qfa|apply qix|apply qpk|apply qls|apply qei|apply qni|apply qad|apply qln|apply qxt|apply qnt|apply qep)<;>(first|exact rfl|assumption|exact Ar.mk (by omega)|exact dct (by first|assumption|omega)|exact dcf (by first|assumption|omega)|exact List.not_mem_nil|apply dc_length|apply ec_length|apply dl_length|fail))|fail) ?_ | refine Der.skip rfl rfl ?_)
            refine Der.fin (fun w12 hk12 _ _ => ?_)
            repeat (first|apply CG.seq|apply CG.region|apply SG.nil|apply NG.next|apply CG.skip|apply CG.block|apply CG.ret|apply CG.exit|apply NG.ret_then|apply NG.ret_block|apply NG.exit_then|refine NG.exit_block rfl ?_|apply NG.normal_block|refine SG.val rfl rfl rfl rfl (by first|((first|apply qep|apply qeo|apply qmv|apply qas|apply qlc|apply qla|apply qfa|apply qix|apply qpk|apply qls|apply qei|apply qni|apply qad|apply qln|apply qxt|apply qnt|apply qep)<;>(first|exact rfl|assumption|exact Ar.mk (by omega)|exact dct (by first|assumption|omega)|exact dcf (by first|assumption|omega)|exact List.not_mem_nil|apply dc_length|apply ec_length|apply dl_length|fail))|fail) ?_)
            refine CG.cond_t rfl (by exact rho_of rfl) rfl ?_
            repeat (first|apply CG.seq|apply CG.region|apply SG.nil|apply NG.next|apply CG.skip|apply CG.block|apply CG.ret|apply CG.exit|apply NG.ret_then|apply NG.ret_block|apply NG.exit_then|refine NG.exit_block rfl ?_|apply NG.normal_block|refine SG.val rfl rfl rfl rfl (by first|((first|apply qep|apply qeo|apply qmv|apply qas|apply qlc|apply qla|apply qfa|apply qix|apply qpk|apply qls|apply qei|apply qni|apply qad|apply qln|apply qxt|apply qnt|apply qep)<;>(first|exact rfl|assumption|exact Ar.mk (by omega)|exact dct (by first|assumption|omega)|exact dcf (by first|assumption|omega)|exact List.not_mem_nil|apply dc_length|apply ec_length|apply dl_length|fail))|fail) ?_)
            refine NG.round (i + 1, j, k + 1) (by (repeat' (first | exact True.intro | exact rfl | refine And.intro ?_ ?_))) ⟨by simp only; omega, (hk10.trans hk11).trans hk12, by simp only; rw [st1]; rfl, by simp only; rw [st2]; rfl⟩ (by simp only; omega)
        · have g2 : ¬ (i : Int) < (m.length : Int) := by omega
          repeat (first|apply CG.seq|apply CG.region|apply SG.nil|apply NG.next|apply CG.skip|apply CG.block|apply CG.ret|apply CG.exit|apply NG.ret_then|apply NG.ret_block|apply NG.exit_then|refine NG.exit_block rfl ?_|apply NG.normal_block|refine SG.val rfl rfl rfl rfl (by first|((first|apply qep|apply qeo|apply qmv|apply qas|apply qlc|apply qla|apply qfa|apply qix|apply qpk|apply qls|apply qei|apply qni|apply qad|apply qln|apply qxt|apply qnt|apply qep)<;>(first|exact rfl|assumption|exact Ar.mk (by omega)|exact dct (by first|assumption|omega)|exact dcf (by first|assumption|omega)|exact List.not_mem_nil|apply dc_length|apply ec_length|apply dl_length|fail))|fail) ?_)
          refine CG.cond_f rfl (by exact rho_of rfl) rfl ?_
          repeat (first|apply CG.seq|apply CG.region|apply SG.nil|apply NG.next|apply CG.skip|apply CG.block|apply CG.ret|apply CG.exit|apply NG.ret_then|apply NG.ret_block|apply NG.exit_then|refine NG.exit_block rfl ?_|apply NG.normal_block|refine SG.val rfl rfl rfl rfl (by first|((first|apply qep|apply qeo|apply qmv|apply qas|apply qlc|apply qla|apply qfa|apply qix|apply qpk|apply qls|apply qei|apply qni|apply qad|apply qln|apply qxt|apply qnt|apply qep)<;>(first|exact rfl|assumption|exact Ar.mk (by omega)|exact dct (by first|assumption|omega)|exact dcf (by first|assumption|omega)|exact List.not_mem_nil|apply dc_length|apply ec_length|apply dl_length|fail))|fail) ?_)
          have k510 := k59.trans hk10
          refine NG.round (v', m2, r + 1) (by (repeat' (first | exact True.intro | exact rfl | refine And.intro ?_ ?_))) ⟨by simp only; omega, k5.trans k510, hL5.kp0 k510, hW5, by simp only; omega⟩ (by simp only; omega)
    · have g1 : ¬ (r : Int) < 10 := by omega
      repeat (first|apply CG.seq|apply CG.region|apply SG.nil|apply NG.next|apply CG.skip|apply CG.block|apply CG.ret|apply CG.exit|apply NG.ret_then|apply NG.ret_block|apply NG.exit_then|refine NG.exit_block rfl ?_|apply NG.normal_block|refine SG.val rfl rfl rfl rfl (by first|((first|apply qep|apply qeo|apply qmv|apply qas|apply qlc|apply qla|apply qfa|apply qix|apply qpk|apply qls|apply qei|apply qni|apply qad|apply qln|apply qxt|apply qnt|apply qep)<;>(first|exact rfl|assumption|exact Ar.mk (by omega)|exact dct (by first|assumption|omega)|exact dcf (by first|assumption|omega)|exact List.not_mem_nil|apply dc_length|apply ec_length|apply dl_length|fail))|fail) ?_)
      refine CG.cond_f rfl (by exact rho_of rfl) rfl ?_
      repeat (first|apply CG.seq|apply CG.region|apply SG.nil|apply NG.next|apply CG.skip|apply CG.block|apply CG.ret|apply CG.exit|apply NG.ret_then|apply NG.ret_block|apply NG.exit_then|refine NG.exit_block rfl ?_|apply NG.normal_block|refine SG.val rfl rfl rfl rfl (by first|((first|apply qep|apply qeo|apply qmv|apply qas|apply qlc|apply qla|apply qfa|apply qix|apply qpk|apply qls|apply qei|apply qni|apply qad|apply qln|apply qxt|apply qnt|apply qep)<;>(first|exact rfl|assumption|exact Ar.mk (by omega)|exact dct (by first|assumption|omega)|exact dcf (by first|assumption|omega)|exact List.not_mem_nil|apply dc_length|apply ec_length|apply dl_length|fail))|fail) ?_)
      refine SG.ret rfl rfl rfl (vs := []) (by repeat' (first | exact True.intro | exact rho_of rfl | refine And.intro ?_ ?_)) (known_spec w3) (fun w4 hk4 => ?_)
      repeat (first|apply CG.seq|apply CG.region|apply SG.nil|apply NG.next|apply CG.skip|apply CG.block|apply CG.ret|apply CG.exit|apply NG.ret_then|apply NG.ret_block|apply NG.exit_then|refine NG.exit_block rfl ?_|apply NG.normal_block|refine SG.val rfl rfl rfl rfl (by first|((first|apply qep|apply qeo|apply qmv|apply qas|apply qlc|apply qla|apply qfa|apply qix|apply qpk|apply qls|apply qei|apply qni|apply qad|apply qln|apply qxt|apply qnt|apply qep)<;>(first|exact rfl|assumption|exact Ar.mk (by omega)|exact dct (by first|assumption|omega)|exact dcf (by first|assumption|omega)|exact List.not_mem_nil|apply dc_length|apply ec_length|apply dl_length|fail))|fail) ?_)
      refine ret1 (Or.inl rfl) Try.results9 (by first | exact ResV.tmp rfl | exact ResV.agg rfl rfl (by assumption) (by first | exact dc_length _ | exact nc_length _ | exact rc_length _ _ _ | exact ec_length _ | exact dl_length _ _ _ _ | rfl) | exact ResV.cell rfl rfl (by assumption)) ?_
      exact ⟨rfl, hk3.trans hk4⟩
end Go.Proofs.Ytnoipmimddoioaa
