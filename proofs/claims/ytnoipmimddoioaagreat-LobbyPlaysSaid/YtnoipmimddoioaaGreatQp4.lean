import Derived.Test.YtnoipmimddoioaaGreatQp3
namespace Go.Proofs.YtnoipmimddoioaaGreat
open Go.Proofs
set_option linter.unusedVariables false
theorem ofr_iff (a b : Ofr) : (a.who = b.who ∧ a.rules = b.rules ∧ a.seats = b.seats ∧ a.least = b.least ∧ a.most = b.most ∧ a.window = b.window ∧ a.till = b.till) ↔ a = b := by
  constructor
  · rintro ⟨h1, h2, h3, h4, h5, h6, h7⟩
    cases a
    cases b
    simp only at h1 h2 h3 h4 h5 h6 h7
    subst h1 h2 h3 h4 h5 h6 h7
    rfl
  · rintro rfl
    exact ⟨rfl, rfl, rfl, rfl, rfl, rfl, rfl⟩
instance : DecidableEq Ofr := fun a b => decidable_of_iff _ (ofr_iff a b)
theorem oc5 : Tryz.prog.cellsOf 5 = 1 := by kernel_rfl
theorem oc3 : Tryz.prog.cellsOf 3 = 1 := by kernel_rfl
theorem oc24 : Tryz.prog.cellsOf 39 = 8 := by kernel_rfl
theorem oc47 : Tryz.prog.cellsOf 41 = 21 := by kernel_rfl
theorem osz : ∃ m, Tryz.prog.types.size = m + 3 := ⟨Tryz.prog.types.size - 3, by kernel_rfl⟩
theorem owf (z : Int) (h1 : -4000000000000000000 ≤ z) (h2 : z ≤ 4000000000000000000) : (Lit.int .i64 z).wf = true := by
  simp [Lit.wf, IntKind.min, IntKind.max, IntKind.signed, IntKind.bits]
  omega
theorem owb (u : UInt8) : (Lit.int .u8 (u.toNat : Int)).wf = true := by
  have := u.toNat_lt
  simp [Lit.wf, IntKind.min, IntKind.max, IntKind.signed, IntKind.bits]
  omega
structure Ofr.Fit (o : Ofr) : Prop where
  s : -4000000000000000000 ≤ o.seats ∧ o.seats ≤ 4000000000000000000
  l : -4000000000000000000 ≤ o.least ∧ o.least ≤ 4000000000000000000
  m : -4000000000000000000 ≤ o.most ∧ o.most ≤ 4000000000000000000
  w : -4000000000000000000 ≤ o.window ∧ o.window ≤ 4000000000000000000
  t : -4000000000000000000 ≤ o.till ∧ o.till ≤ 4000000000000000000
theorem Ofr.Ok.fit {o : Ofr} (h : o.Ok) : o.Fit := by
  obtain ⟨h1, h2, h3, h4, h5, h6, h7, h8, h9⟩ := (okk o).1 h
  exact ⟨⟨by omega, by omega⟩, ⟨by omega, by omega⟩, ⟨by omega, by omega⟩, ⟨by omega, by omega⟩, ⟨by omega, by omega⟩⟩
set_option maxHeartbeats 4000000 in
theorem ofr_lits' (n : Nat) (a0 a1 a2 a3 a4 a5 a6 a7 b0 b1 b2 b3 b4 b5 b6 b7 : UInt8) (x y z u v : Int) (hx : (Lit.int .i64 x).wf = true) (hy : (Lit.int .i64 y).wf = true) (hz : (Lit.int .i64 z).wf = true) (hu : (Lit.int .i64 u).wf = true) (hv : (Lit.int .i64 v).wf = true) :
    (Tryz.prog.keyLits (n + 3 + 1) 41 [bv a0, bv a1, bv a2, bv a3, bv a4, bv a5, bv a6, bv a7, bv b0, bv b1, bv b2, bv b3, bv b4, bv b5, bv b6, bv b7, .int .i64 x, .int .i64 y, .int .i64 z, .int .i64 u, .int .i64 v]).isSome = true := by
  simp [Program.keyLits, Tryz.underlying41, Tryz.underlying39, Tryz.underlying5, Tryz.underlying3, oc5, oc24, oc3, oc47, owb, hx, hy, hz, hu, hv, List.range, List.range.loop]
theorem ofr_lits (o : Ofr) (h : o.Fit) : (Tryz.prog.keyLits (Tryz.prog.types.size + 1) 41 (ec o)).isSome = true := by
  obtain ⟨m, hm⟩ := osz
  rw [hm]
  obtain ⟨⟨l, hl⟩, ⟨l2, hl2⟩, x, y, z, u, v⟩ := o
  obtain ⟨h1, h2, h3, h4, h5⟩ := h
  match l, hl, l2, hl2 with
  | [a0, a1, a2, a3, a4, a5, a6, a7], _, [b0, b1, b2, b3, b4, b5, b6, b7], _ => exact ofr_lits' m a0 a1 a2 a3 a4 a5 a6 a7 b0 b1 b2 b3 b4 b5 b6 b7 x y z u v (owf x h1.1 h1.2) (owf y h2.1 h2.2) (owf z h3.1 h3.2) (owf u h4.1 h4.2) (owf v h5.1 h5.2)
theorem ofr_formed (o : Ofr) : (ov o).formed Tryz.prog 41 = true := by
  simp [ov, Value.formed, Tryz.underlying41, oc47, ec_length]
theorem ec_inj {a b : Ofr} (h : ec a = ec b) : a = b := by
  obtain ⟨p, n, s, l, m, w, t⟩ := a
  obtain ⟨p', n', s', l', m', w', t'⟩ := b
  have h' := List.append_inj h (by simp [dc_length])
  have h1 := dc_inj h'.1
  have h2 := List.append_inj h'.2 (by simp [dc_length])
  have h3 := dc_inj h2.1
  have h4 := h2.2
  simp at h4
  obtain ⟨rfl, rfl, rfl, rfl, rfl⟩ := h4
  simp only at h1 h3
  subst h1
  subst h3
  rfl
theorem equal_ofr {a b : Ofr} (ha : a.Fit) (hb : b.Fit) (w : World) : (Op.equal 41 (ov a) (ov b)).run Tryz.prog w = .ok (decide (a = b)) w := by
  obtain ⟨r, h1, h2⟩ := equal_agg (P := Tryz.prog) (T := 41) 3 (by omega) (by kernel_rfl) (by kernel_rfl) (by rw [Tryz.underlying41]) (by kernel_rfl) (ofr_formed a) (ofr_formed b) (ofr_lits a ha) (ofr_lits b hb) w
  have h3 : r = decide (a = b) := by
    by_cases e : a = b
    · rw [decide_eq_true e]
      exact h2.2 (by rw [e])
    · rw [decide_eq_false e]
      cases r with
      | false => rfl
      | true => exact absurd (ec_inj (h2.1 rfl)) e
  rw [h3] at h1
  exact h1
theorem guard47 : Tryz.prog.eqGuardType Tryz.prog.depth 41 = false := by kernel_rfl
theorem qeo {S : List Nat} {w0 : World} {F : World → Prop} {L : Env} {d : Option Nat} {ty : TypeId} {pos : String} {af : Array Edge} {g : Option (Nat × Bool)} {x y : Operand} {T' : TypeId} {a b : Ofr} {c : Bool} (hx : ro L x = some (ov a)) (hy : ro L y = some (ov b)) (ha : a.Fit) (hb : b.Fit) (h : Dc (a = b) c) :
    Vals Tryz.prog S w0 F L ⟨d, .binOp .eql 41 x y T', ty, pos, af, g⟩ (.bool c) := fun w _ _ => by
  rw [← h.eq]
  have hx' : rho L x = .agg (ec a).toArray := rho_of hx
  have hy' : rho L y = .agg (ec b).toArray := rho_of hy
  have he : ∀ w, (Op.equal 41 (.agg (ec a).toArray) (.agg (ec b).toArray)).run Tryz.prog w = .ok (decide (a = b)) w := fun w => equal_ofr ha hb w
  simp [execOp, hx', hy', eqGuard, binOp, he, guard47]
theorem qno {S : List Nat} {w0 : World} {F : World → Prop} {L : Env} {d : Option Nat} {ty : TypeId} {pos : String} {af : Array Edge} {g : Option (Nat × Bool)} {x y : Operand} {T' : TypeId} {a b : Ofr} {c : Bool} (hx : ro L x = some (ov a)) (hy : ro L y = some (ov b)) (ha : a.Fit) (hb : b.Fit) (h : Dc (a = b) c) :
    Vals Tryz.prog S w0 F L ⟨d, .binOp .neq 41 x y T', ty, pos, af, g⟩ (.bool (!c)) := fun w _ _ => by
  rw [← h.eq]
  have hx' : rho L x = .agg (ec a).toArray := rho_of hx
  have hy' : rho L y = .agg (ec b).toArray := rho_of hy
  have he : ∀ w, (Op.equal 41 (.agg (ec a).toArray) (.agg (ec b).toArray)).run Tryz.prog w = .ok (decide (a = b)) w := fun w => equal_ofr ha hb w
  simp [execOp, hx', hy', eqGuard, binOp, he]
attribute [local irreducible] CG NG SG Vals Der Row Blk MapIs IterAt
set_option maxHeartbeats 16000000 in
/-- slices.Index: from 0 on just if it is there. -/
theorem index_spec {w : World} {l : List Ofr} {a : Option Addr} {c : Nat} (hS : Sl ec 21 w a l) (hl : l.length ≤ 1000000000) (o : Ofr) (hf : ∀ x ∈ l, x.Fit) (ho : o.Fit) :
    ∃ z : Int, (0 ≤ z ↔ o ∈ l) ∧ Ret Tryz.prog 53 #[.slice a l.length c, ov o] w (.int .i64 z) := by
  by_cases hm : o ∈ l
  · obtain ⟨k, hk, hko, hlow⟩ : ∃ k, ∃ h : k < l.length, l[k] = o ∧ ∀ j (hj : j < k), l[j]'(by omega) ≠ o := by
      obtain ⟨x, ⟨h1, h2⟩, h3⟩ := exists_least (fun k => ∃ h : k < l.length, l[k] = o) (fun k => k) (List.getElem_of_mem hm)
      refine ⟨x, h1, h2, fun j hj e => ?_⟩
      have := h3 j ⟨by omega, e⟩
      omega
    refine ⟨k, ⟨fun _ => hm, fun _ => by omega⟩, ?_⟩
    refine enter2 Tryz.func53 rfl Tryz.ntmps53 rfl ?_
    repeat (first|apply cA|apply cB|apply cD|apply cE|apply cF|apply cG|apply cH|apply cJ|apply cM|apply cN|apply cU|refine cV rfl ?_|apply cY|refine cZ rfl rfl rfl rfl (by first|((first|apply qeo|apply qmv|apply qas|apply qlc|apply qla|apply qix|apply qls|apply qad|apply qln|apply qge|apply qsn)<;>(first|exact rfl|assumption|exact Ar.mk (by omega)|exact dct (by first|assumption|omega)|exact dcf (by first|assumption|omega)|exact List.not_mem_nil|apply dc_length|apply ec_length|fail))|fail) ?_)
    refine SG.box rfl rfl rfl (by exact rho_of rfl) (fun b3 w2 hk2 hb3 hB3 => ?_)
    have hB3 : Blk w2 b3 (.cells (ec o).toArray 41) := hB3
    have hR3 : Row w2 b3 0 (ec o) := Row.all hB3 rfl
    repeat (first|apply cA|apply cB|apply cD|apply cE|apply cF|apply cG|apply cH|apply cJ|apply cM|apply cN|apply cU|refine cV rfl ?_|apply cY|refine cZ rfl rfl rfl rfl (by first|((first|apply qeo|apply qmv|apply qas|apply qlc|apply qla|apply qix|apply qls|apply qad|apply qln|apply qge|apply qsn)<;>(first|exact rfl|assumption|exact Ar.mk (by omega)|exact dct (by first|assumption|omega)|exact dcf (by first|assumption|omega)|exact List.not_mem_nil|apply dc_length|apply ec_length|fail))|fail) ?_)
    refine CG.loop (X := Nat) (fun i => [(0, .slice a l.length c), (3, .pointer (some ⟨b3, 0, none⟩)), (7, .int .i64 (l.length : Int)), (8, .int .i64 (i : Int))]) (fun i w' => i ≤ k ∧ Kp [] w2 w') (fun i => l.length - i) 0 ⟨by omega, Kp.refl _ _⟩ (by (repeat' (first | exact True.intro | exact rfl | refine And.intro ?_ ?_))) ?_
    rintro i w3 ⟨hi, hk3⟩
    have g1 : (i : Int) < (l.length : Int) := by omega
    have hR := hR3.kp0 hk3
    obtain ⟨bz, oz, rfl, hrz⟩ := (hS.kp0 (hk2.trans hk3)).at (show i < l.length by omega)
    have hfi := hf _ (List.getElem_mem (show i < l.length by omega))
    repeat (first|apply cA|apply cB|apply cD|apply cE|apply cF|apply cG|apply cH|apply cJ|apply cM|apply cN|apply cU|refine cV rfl ?_|apply cY|refine cZ rfl rfl rfl rfl (by first|((first|apply qeo|apply qmv|apply qas|apply qlc|apply qla|apply qix|apply qls|apply qad|apply qln|apply qge|apply qsn)<;>(first|exact rfl|assumption|exact Ar.mk (by omega)|exact dct (by first|assumption|omega)|exact dcf (by first|assumption|omega)|exact List.not_mem_nil|apply dc_length|apply ec_length|fail))|fail) ?_)
    refine dD rfl (by exact rho_of rfl) rfl ?_
    by_cases e : i = k
    · subst e
      rw [hko] at hrz hfi
      have e1 : o = o := rfl
      repeat (first|apply cA|apply cB|apply cD|apply cE|apply cF|apply cG|apply cH|apply cJ|apply cM|apply cN|apply cU|refine cV rfl ?_|apply cY|refine cZ rfl rfl rfl rfl (by first|((first|apply qeo|apply qmv|apply qas|apply qlc|apply qla|apply qix|apply qls|apply qad|apply qln|apply qge|apply qsn)<;>(first|exact rfl|assumption|exact Ar.mk (by omega)|exact dct (by first|assumption|omega)|exact dcf (by first|assumption|omega)|exact List.not_mem_nil|apply dc_length|apply ec_length|fail))|fail) ?_)
      refine CG.draw0 mixed [0, 1, 2, 3, 4, 5] [] (by kernel_rfl) ?_
      repeat (refine dB rfl rfl rfl (by first|((first|apply qeo|apply qmv|apply qas|apply qlc|apply qla|apply qix|apply qls|apply qad|apply qln|apply qge|apply qsn)<;>(first|exact rfl|assumption|exact Ar.mk (by omega)|exact dct (by first|assumption|omega)|exact dcf (by first|assumption|omega)|exact List.not_mem_nil|apply dc_length|apply ec_length|fail))|fail) ?_)
      refine Der.fin (fun w6 hk6 _ _ => ?_)
      repeat (first|apply cA|apply cB|apply cD|apply cE|apply cF|apply cG|apply cH|apply cJ|apply cM|apply cN|apply cU|refine cV rfl ?_|apply cY|refine cZ rfl rfl rfl rfl (by first|((first|apply qeo|apply qmv|apply qas|apply qlc|apply qla|apply qix|apply qls|apply qad|apply qln|apply qge|apply qsn)<;>(first|exact rfl|assumption|exact Ar.mk (by omega)|exact dct (by first|assumption|omega)|exact dcf (by first|assumption|omega)|exact List.not_mem_nil|apply dc_length|apply ec_length|fail))|fail) ?_)
      refine dD rfl (by exact rho_of rfl) rfl ?_
      repeat (first|apply cA|apply cB|apply cD|apply cE|apply cF|apply cG|apply cH|apply cJ|apply cM|apply cN|apply cU|refine cV rfl ?_|apply cY|refine cZ rfl rfl rfl rfl (by first|((first|apply qeo|apply qmv|apply qas|apply qlc|apply qla|apply qix|apply qls|apply qad|apply qln|apply qge|apply qsn)<;>(first|exact rfl|assumption|exact Ar.mk (by omega)|exact dct (by first|assumption|omega)|exact dcf (by first|assumption|omega)|exact List.not_mem_nil|apply dc_length|apply ec_length|fail))|fail) ?_)
      refine ret1 (Or.inl rfl) Tryz.results53 (by first | exact ResV.tmp rfl | exact ResV.agg rfl rfl (by assumption) (by first | exact dc_length _ | exact nc_length _ | exact rc_length _ _ _ | exact ec_length _ | exact dl_length _ _ _ _ | rfl) | exact ResV.cell rfl rfl (by assumption)) ?_
      exact ⟨rfl, (hk2.trans hk3).trans hk6⟩
    · have e1 : ¬ o = l[i] := fun h => hlow i (by omega) h.symm
      repeat (first|apply cA|apply cB|apply cD|apply cE|apply cF|apply cG|apply cH|apply cJ|apply cM|apply cN|apply cU|refine cV rfl ?_|apply cY|refine cZ rfl rfl rfl rfl (by first|((first|apply qeo|apply qmv|apply qas|apply qlc|apply qla|apply qix|apply qls|apply qad|apply qln|apply qge|apply qsn)<;>(first|exact rfl|assumption|exact Ar.mk (by omega)|exact dct (by first|assumption|omega)|exact dcf (by first|assumption|omega)|exact List.not_mem_nil|apply dc_length|apply ec_length|fail))|fail) ?_)
      refine CG.draw0 mixed [0, 1, 2, 3, 4, 5] [] (by kernel_rfl) ?_
      repeat (refine dB rfl rfl rfl (by first|((first|apply qeo|apply qmv|apply qas|apply qlc|apply qla|apply qix|apply qls|apply qad|apply qln|apply qge|apply qsn)<;>(first|exact rfl|assumption|exact Ar.mk (by omega)|exact dct (by first|assumption|omega)|exact dcf (by first|assumption|omega)|exact List.not_mem_nil|apply dc_length|apply ec_length|fail))|fail) ?_)
      refine Der.fin (fun w6 hk6 _ _ => ?_)
      repeat (first|apply cA|apply cB|apply cD|apply cE|apply cF|apply cG|apply cH|apply cJ|apply cM|apply cN|apply cU|refine cV rfl ?_|apply cY|refine cZ rfl rfl rfl rfl (by first|((first|apply qeo|apply qmv|apply qas|apply qlc|apply qla|apply qix|apply qls|apply qad|apply qln|apply qge|apply qsn)<;>(first|exact rfl|assumption|exact Ar.mk (by omega)|exact dct (by first|assumption|omega)|exact dcf (by first|assumption|omega)|exact List.not_mem_nil|apply dc_length|apply ec_length|fail))|fail) ?_)
      refine dE rfl (by exact rho_of rfl) rfl ?_
      repeat (first|apply cA|apply cB|apply cD|apply cE|apply cF|apply cG|apply cH|apply cJ|apply cM|apply cN|apply cU|refine cV rfl ?_|apply cY|refine cZ rfl rfl rfl rfl (by first|((first|apply qeo|apply qmv|apply qas|apply qlc|apply qla|apply qix|apply qls|apply qad|apply qln|apply qge|apply qsn)<;>(first|exact rfl|assumption|exact Ar.mk (by omega)|exact dct (by first|assumption|omega)|exact dcf (by first|assumption|omega)|exact List.not_mem_nil|apply dc_length|apply ec_length|fail))|fail) ?_)
      refine NG.round (i + 1) (by (repeat' (first | exact True.intro | exact rfl | refine And.intro ?_ ?_))) ⟨by omega, hk3.trans hk6⟩ (by omega)
  · refine ⟨-1, ⟨fun h => by omega, fun h => absurd h hm⟩, ?_⟩
    refine enter2 Tryz.func53 rfl Tryz.ntmps53 rfl ?_
    repeat (first|apply cA|apply cB|apply cD|apply cE|apply cF|apply cG|apply cH|apply cJ|apply cM|apply cN|apply cU|refine cV rfl ?_|apply cY|refine cZ rfl rfl rfl rfl (by first|((first|apply qeo|apply qmv|apply qas|apply qlc|apply qla|apply qix|apply qls|apply qad|apply qln|apply qge|apply qsn)<;>(first|exact rfl|assumption|exact Ar.mk (by omega)|exact dct (by first|assumption|omega)|exact dcf (by first|assumption|omega)|exact List.not_mem_nil|apply dc_length|apply ec_length|fail))|fail) ?_)
    refine SG.box rfl rfl rfl (by exact rho_of rfl) (fun b3 w2 hk2 hb3 hB3 => ?_)
    have hB3 : Blk w2 b3 (.cells (ec o).toArray 41) := hB3
    have hR3 : Row w2 b3 0 (ec o) := Row.all hB3 rfl
    repeat (first|apply cA|apply cB|apply cD|apply cE|apply cF|apply cG|apply cH|apply cJ|apply cM|apply cN|apply cU|refine cV rfl ?_|apply cY|refine cZ rfl rfl rfl rfl (by first|((first|apply qeo|apply qmv|apply qas|apply qlc|apply qla|apply qix|apply qls|apply qad|apply qln|apply qge|apply qsn)<;>(first|exact rfl|assumption|exact Ar.mk (by omega)|exact dct (by first|assumption|omega)|exact dcf (by first|assumption|omega)|exact List.not_mem_nil|apply dc_length|apply ec_length|fail))|fail) ?_)
    refine CG.loop (X := Nat) (fun i => [(0, .slice a l.length c), (3, .pointer (some ⟨b3, 0, none⟩)), (7, .int .i64 (l.length : Int)), (8, .int .i64 (i : Int))]) (fun i w' => i ≤ l.length ∧ Kp [] w2 w') (fun i => l.length - i) 0 ⟨by omega, Kp.refl _ _⟩ (by (repeat' (first | exact True.intro | exact rfl | refine And.intro ?_ ?_))) ?_
    rintro i w3 ⟨hi, hk3⟩
    by_cases hlt : i < l.length
    · have g1 : (i : Int) < (l.length : Int) := by omega
      have hR := hR3.kp0 hk3
      obtain ⟨bz, oz, rfl, hrz⟩ := (hS.kp0 (hk2.trans hk3)).at hlt
      have hfi := hf _ (List.getElem_mem hlt)
      have e1 : ¬ o = l[i] := fun h => hm (h ▸ List.getElem_mem hlt)
      repeat (first|apply cA|apply cB|apply cD|apply cE|apply cF|apply cG|apply cH|apply cJ|apply cM|apply cN|apply cU|refine cV rfl ?_|apply cY|refine cZ rfl rfl rfl rfl (by first|((first|apply qeo|apply qmv|apply qas|apply qlc|apply qla|apply qix|apply qls|apply qad|apply qln|apply qge|apply qsn)<;>(first|exact rfl|assumption|exact Ar.mk (by omega)|exact dct (by first|assumption|omega)|exact dcf (by first|assumption|omega)|exact List.not_mem_nil|apply dc_length|apply ec_length|fail))|fail) ?_)
      refine dD rfl (by exact rho_of rfl) rfl ?_
      repeat (first|apply cA|apply cB|apply cD|apply cE|apply cF|apply cG|apply cH|apply cJ|apply cM|apply cN|apply cU|refine cV rfl ?_|apply cY|refine cZ rfl rfl rfl rfl (by first|((first|apply qeo|apply qmv|apply qas|apply qlc|apply qla|apply qix|apply qls|apply qad|apply qln|apply qge|apply qsn)<;>(first|exact rfl|assumption|exact Ar.mk (by omega)|exact dct (by first|assumption|omega)|exact dcf (by first|assumption|omega)|exact List.not_mem_nil|apply dc_length|apply ec_length|fail))|fail) ?_)
      refine CG.draw0 mixed [0, 1, 2, 3, 4, 5] [] (by kernel_rfl) ?_
      repeat (refine dB rfl rfl rfl (by first|((first|apply qeo|apply qmv|apply qas|apply qlc|apply qla|apply qix|apply qls|apply qad|apply qln|apply qge|apply qsn)<;>(first|exact rfl|assumption|exact Ar.mk (by omega)|exact dct (by first|assumption|omega)|exact dcf (by first|assumption|omega)|exact List.not_mem_nil|apply dc_length|apply ec_length|fail))|fail) ?_)
      refine Der.fin (fun w6 hk6 _ _ => ?_)
      repeat (first|apply cA|apply cB|apply cD|apply cE|apply cF|apply cG|apply cH|apply cJ|apply cM|apply cN|apply cU|refine cV rfl ?_|apply cY|refine cZ rfl rfl rfl rfl (by first|((first|apply qeo|apply qmv|apply qas|apply qlc|apply qla|apply qix|apply qls|apply qad|apply qln|apply qge|apply qsn)<;>(first|exact rfl|assumption|exact Ar.mk (by omega)|exact dct (by first|assumption|omega)|exact dcf (by first|assumption|omega)|exact List.not_mem_nil|apply dc_length|apply ec_length|fail))|fail) ?_)
      refine dE rfl (by exact rho_of rfl) rfl ?_
      repeat (first|apply cA|apply cB|apply cD|apply cE|apply cF|apply cG|apply cH|apply cJ|apply cM|apply cN|apply cU|refine cV rfl ?_|apply cY|refine cZ rfl rfl rfl rfl (by first|((first|apply qeo|apply qmv|apply qas|apply qlc|apply qla|apply qix|apply qls|apply qad|apply qln|apply qge|apply qsn)<;>(first|exact rfl|assumption|exact Ar.mk (by omega)|exact dct (by first|assumption|omega)|exact dcf (by first|assumption|omega)|exact List.not_mem_nil|apply dc_length|apply ec_length|fail))|fail) ?_)
      refine NG.round (i + 1) (by (repeat' (first | exact True.intro | exact rfl | refine And.intro ?_ ?_))) ⟨by omega, hk3.trans hk6⟩ (by omega)
    · have g1 : ¬ (i : Int) < (l.length : Int) := by omega
      repeat (first|apply cA|apply cB|apply cD|apply cE|apply cF|apply cG|apply cH|apply cJ|apply cM|apply cN|apply cU|refine cV rfl ?_|apply cY|refine cZ rfl rfl rfl rfl (by first|((first|apply qeo|apply qmv|apply qas|apply qlc|apply qla|apply qix|apply qls|apply qad|apply qln|apply qge|apply qsn)<;>(first|exact rfl|assumption|exact Ar.mk (by omega)|exact dct (by first|assumption|omega)|exact dcf (by first|assumption|omega)|exact List.not_mem_nil|apply dc_length|apply ec_length|fail))|fail) ?_)
      refine dE rfl (by exact rho_of rfl) rfl ?_
      repeat (first|apply cA|apply cB|apply cD|apply cE|apply cF|apply cG|apply cH|apply cJ|apply cM|apply cN|apply cU|refine cV rfl ?_|apply cY|refine cZ rfl rfl rfl rfl (by first|((first|apply qeo|apply qmv|apply qas|apply qlc|apply qla|apply qix|apply qls|apply qad|apply qln|apply qge|apply qsn)<;>(first|exact rfl|assumption|exact Ar.mk (by omega)|exact dct (by first|assumption|omega)|exact dcf (by first|assumption|omega)|exact List.not_mem_nil|apply dc_length|apply ec_length|fail))|fail) ?_)
      refine ret1 (Or.inl rfl) Tryz.results53 (by first | exact ResV.tmp rfl | exact ResV.agg rfl rfl (by assumption) (by first | exact dc_length _ | exact nc_length _ | exact rc_length _ _ _ | exact ec_length _ | exact dl_length _ _ _ _ | rfl) | exact ResV.cell rfl rfl (by assumption)) ?_
      exact ⟨rfl, hk2.trans hk3⟩
set_option maxHeartbeats 16000000 in
theorem contains_spec {w : World} {l : List Ofr} {a : Option Addr} {c : Nat} (hS : Sl ec 21 w a l) (hl : l.length ≤ 1000000000) (o : Ofr) (hf : ∀ x ∈ l, x.Fit) (ho : o.Fit) :
    Ret Tryz.prog 32 #[.slice a l.length c, ov o] w (.bool (decide (o ∈ l))) := by
  refine enter2 Tryz.func32 rfl Tryz.ntmps32 rfl ?_
  repeat (first|apply cA|apply cB|apply cD|apply cE|apply cF|apply cG|apply cH|apply cJ|apply cM|apply cN|apply cU|refine cV rfl ?_|apply cY|refine cZ rfl rfl rfl rfl (by first|((first|apply qeo|apply qmv|apply qas|apply qlc|apply qla|apply qix|apply qls|apply qad|apply qln|apply qge|apply qsn)<;>(first|exact rfl|assumption|exact Ar.mk (by omega)|exact dct (by first|assumption|omega)|exact dcf (by first|assumption|omega)|exact List.not_mem_nil|apply dc_length|apply ec_length|fail))|fail) ?_)
  refine SG.box rfl rfl rfl (by exact rho_of rfl) (fun b3 w2 hk2 hb3 hB3 => ?_)
  have hB3 : Blk w2 b3 (.cells (ec o).toArray 41) := hB3
  have hR3 : Row w2 b3 0 (ec o) := Row.all hB3 rfl
  obtain ⟨z, hz, hret⟩ := index_spec (c := c) (hS.kp0 hk2) hl o hf ho
  repeat (first|apply cA|apply cB|apply cD|apply cE|apply cF|apply cG|apply cH|apply cJ|apply cM|apply cN|apply cU|refine cV rfl ?_|apply cY|refine cZ rfl rfl rfl rfl (by first|((first|apply qeo|apply qmv|apply qas|apply qlc|apply qla|apply qix|apply qls|apply qad|apply qln|apply qge|apply qsn)<;>(first|exact rfl|assumption|exact Ar.mk (by omega)|exact dct (by first|assumption|omega)|exact dcf (by first|assumption|omega)|exact List.not_mem_nil|apply dc_length|apply ec_length|fail))|fail) ?_)
  refine SG.ret rfl rfl rfl (vs := [.slice a l.length c, ov o]) (by repeat' (first | exact True.intro | exact rho_of rfl | refine And.intro ?_ ?_)) hret (fun w3 hk3 => ?_)
  by_cases hm : o ∈ l
  · have g0 : (0 : Int) ≤ z := hz.2 hm
    rw [decide_eq_true hm]
    repeat (first|apply cA|apply cB|apply cD|apply cE|apply cF|apply cG|apply cH|apply cJ|apply cM|apply cN|apply cU|refine cV rfl ?_|apply cY|refine cZ rfl rfl rfl rfl (by first|((first|apply qeo|apply qmv|apply qas|apply qlc|apply qla|apply qix|apply qls|apply qad|apply qln|apply qge|apply qsn)<;>(first|exact rfl|assumption|exact Ar.mk (by omega)|exact dct (by first|assumption|omega)|exact dcf (by first|assumption|omega)|exact List.not_mem_nil|apply dc_length|apply ec_length|fail))|fail) ?_)
    refine ret1 (Or.inl rfl) Tryz.results32 (by first | exact ResV.tmp rfl | exact ResV.agg rfl rfl (by assumption) (by first | exact dc_length _ | exact nc_length _ | exact rc_length _ _ _ | exact ec_length _ | exact dl_length _ _ _ _ | rfl) | exact ResV.cell rfl rfl (by assumption)) ?_
    exact ⟨rfl, hk2.trans hk3⟩
  · have g0 : ¬ (0 : Int) ≤ z := fun h => hm (hz.1 h)
    rw [decide_eq_false hm]
    repeat (first|apply cA|apply cB|apply cD|apply cE|apply cF|apply cG|apply cH|apply cJ|apply cM|apply cN|apply cU|refine cV rfl ?_|apply cY|refine cZ rfl rfl rfl rfl (by first|((first|apply qeo|apply qmv|apply qas|apply qlc|apply qla|apply qix|apply qls|apply qad|apply qln|apply qge|apply qsn)<;>(first|exact rfl|assumption|exact Ar.mk (by omega)|exact dct (by first|assumption|omega)|exact dcf (by first|assumption|omega)|exact List.not_mem_nil|apply dc_length|apply ec_length|fail))|fail) ?_)
    refine ret1 (Or.inl rfl) Tryz.results32 (by first | exact ResV.tmp rfl | exact ResV.agg rfl rfl (by assumption) (by first | exact dc_length _ | exact nc_length _ | exact rc_length _ _ _ | exact ec_length _ | exact dl_length _ _ _ _ | rfl) | exact ResV.cell rfl rfl (by assumption)) ?_
    exact ⟨rfl, hk2.trans hk3⟩
set_option maxHeartbeats 16000000 in
/-- Match's comparison. -/
theorem match1_spec {w : World} {b : Nat} {l : List Ofr} {a : Option Addr} {c : Nat} (hr : Row w b 0 [.slice a l.length c]) (hS : Sl ec 21 w a l) (hl : l.length ≤ 1000000000) (o : Ofr) (hf : ∀ x ∈ l, x.Fit) (ho : o.Fit) : Ret Tryz.prog 31 #[ov o, .pointer (some ⟨b, 0, none⟩)] w (.bool (decide (o ∈ l))) := by
  refine enter2 Tryz.func31 rfl Tryz.ntmps31 rfl ?_
  repeat (first|apply cA|apply cB|apply cD|apply cE|apply cF|apply cG|apply cH|apply cJ|apply cM|apply cN|apply cU|refine cV rfl ?_|apply cY|refine cZ rfl rfl rfl rfl (by first|((first|apply qeo|apply qmv|apply qas|apply qlc|apply qla|apply qix|apply qls|apply qad|apply qln|apply qge|apply qsn)<;>(first|exact rfl|assumption|exact Ar.mk (by omega)|exact dct (by first|assumption|omega)|exact dcf (by first|assumption|omega)|exact List.not_mem_nil|apply dc_length|apply ec_length|fail))|fail) ?_)
  refine SG.box rfl rfl rfl (by exact rho_of rfl) (fun b3 w2 hk2 hb3 hB3 => ?_)
  have hB3 : Blk w2 b3 (.cells (ec o).toArray 41) := hB3
  have hR3 : Row w2 b3 0 (ec o) := Row.all hB3 rfl
  have hr2 := hr.kp0 hk2
  repeat (first|apply cA|apply cB|apply cD|apply cE|apply cF|apply cG|apply cH|apply cJ|apply cM|apply cN|apply cU|refine cV rfl ?_|apply cY|refine cZ rfl rfl rfl rfl (by first|((first|apply qeo|apply qmv|apply qas|apply qlc|apply qla|apply qix|apply qls|apply qad|apply qln|apply qge|apply qsn)<;>(first|exact rfl|assumption|exact Ar.mk (by omega)|exact dct (by first|assumption|omega)|exact dcf (by first|assumption|omega)|exact List.not_mem_nil|apply dc_length|apply ec_length|fail))|fail) ?_)
  refine SG.ret rfl rfl rfl (vs := [.slice a l.length c, ov o]) (by repeat' (first | exact True.intro | exact rho_of rfl | refine And.intro ?_ ?_)) (contains_spec (c := c) (hS.kp0 hk2) hl o hf ho) (fun w3 hk3 => ?_)
  repeat (first|apply cA|apply cB|apply cD|apply cE|apply cF|apply cG|apply cH|apply cJ|apply cM|apply cN|apply cU|refine cV rfl ?_|apply cY|refine cZ rfl rfl rfl rfl (by first|((first|apply qeo|apply qmv|apply qas|apply qlc|apply qla|apply qix|apply qls|apply qad|apply qln|apply qge|apply qsn)<;>(first|exact rfl|assumption|exact Ar.mk (by omega)|exact dct (by first|assumption|omega)|exact dcf (by first|assumption|omega)|exact List.not_mem_nil|apply dc_length|apply ec_length|fail))|fail) ?_)
  refine ret1 (Or.inl rfl) Tryz.results31 (by first | exact ResV.tmp rfl | exact ResV.agg rfl rfl (by assumption) (by first | exact dc_length _ | exact nc_length _ | exact rc_length _ _ _ | exact ec_length _ | exact dl_length _ _ _ _ | rfl) | exact ResV.cell rfl rfl (by assumption)) ?_
  exact ⟨rfl, hk2.trans hk3⟩
set_option maxHeartbeats 16000000 in
theorem oclone_spec {w : World} {a : Option Addr} {l : List Ofr} (c : Nat) (h : Sl ec 21 w a l) (hl : l.length ≤ 100000) : Calls Tryz.prog 34 #[.slice a l.length c] w (fun e w' => ∃ v, e = .returned v ∧ w'.ownsRow w.heap.size 41 21 v l.length (flt ec l) ∧ Kp [] w w') := by
  refine enter1 Tryz.func34 rfl Tryz.ntmps34 rfl ?_
  cases a with
  | none =>
    have hn : l = [] := by
      cases l with
      | nil => rfl
      | cons x l => obtain ⟨b, off, e, _⟩ := h 0 x rfl; cases e
    subst hn
    repeat (first|apply cA|apply cB|apply cD|apply cE|apply cF|apply cG|apply cH|apply cJ|apply cM|apply cN|apply cU|refine cV rfl ?_|apply cY|refine cZ rfl rfl rfl rfl (by first|((first|apply qeo|apply qmv|apply qas|apply qlc|apply qla|apply qix|apply qls|apply qad|apply qln|apply qge|apply qsn)<;>(first|exact rfl|assumption|exact Ar.mk (by omega)|exact dct (by first|assumption|omega)|exact dcf (by first|assumption|omega)|exact List.not_mem_nil|apply dc_length|apply ec_length|fail))|fail) ?_)
    refine dD rfl (by exact rho_of rfl) rfl ?_
    repeat (first|apply cA|apply cB|apply cD|apply cE|apply cF|apply cG|apply cH|apply cJ|apply cM|apply cN|apply cU|refine cV rfl ?_|apply cY|refine cZ rfl rfl rfl rfl (by first|((first|apply qeo|apply qmv|apply qas|apply qlc|apply qla|apply qix|apply qls|apply qad|apply qln|apply qge|apply qsn)<;>(first|exact rfl|assumption|exact Ar.mk (by omega)|exact dct (by first|assumption|omega)|exact dcf (by first|assumption|omega)|exact List.not_mem_nil|apply dc_length|apply ec_length|fail))|fail) ?_)
    refine ret1 (Or.inl rfl) Tryz.results34 (by first | exact ResV.tmp rfl | exact ResV.agg rfl rfl (by assumption) (by first | exact dc_length _ | exact nc_length _ | exact rc_length _ _ _ | exact ec_length _ | exact dl_length _ _ _ _ | rfl) | exact ResV.cell rfl rfl (by assumption)) ?_
    exact ⟨_, rfl, ⟨rfl, Or.inl ⟨rfl, rfl⟩⟩, Kp.refl _ _⟩
  | some ad =>
    repeat (first|apply cA|apply cB|apply cD|apply cE|apply cF|apply cG|apply cH|apply cJ|apply cM|apply cN|apply cU|refine cV rfl ?_|apply cY|refine cZ rfl rfl rfl rfl (by first|((first|apply qeo|apply qmv|apply qas|apply qlc|apply qla|apply qix|apply qls|apply qad|apply qln|apply qge|apply qsn)<;>(first|exact rfl|assumption|exact Ar.mk (by omega)|exact dct (by first|assumption|omega)|exact dcf (by first|assumption|omega)|exact List.not_mem_nil|apply dc_length|apply ec_length|fail))|fail) ?_)
    refine dE rfl (by exact rho_of rfl) rfl ?_
    repeat (first|apply cA|apply cB|apply cD|apply cE|apply cF|apply cG|apply cH|apply cJ|apply cM|apply cN|apply cU|refine cV rfl ?_|apply cY|refine cZ rfl rfl rfl rfl (by first|((first|apply qeo|apply qmv|apply qas|apply qlc|apply qla|apply qix|apply qls|apply qad|apply qln|apply qge|apply qsn)<;>(first|exact rfl|assumption|exact Ar.mk (by omega)|exact dct (by first|assumption|omega)|exact dcf (by first|assumption|omega)|exact List.not_mem_nil|apply dc_length|apply ec_length|fail))|fail) ?_)
    refine SG.empty rfl rfl (fun b5 w1 hk1 hb5 hB5 => ?_)
    repeat (first|apply cA|apply cB|apply cD|apply cE|apply cF|apply cG|apply cH|apply cJ|apply cM|apply cN|apply cU|refine cV rfl ?_|apply cY|refine cZ rfl rfl rfl rfl (by first|((first|apply qeo|apply qmv|apply qas|apply qlc|apply qla|apply qix|apply qls|apply qad|apply qln|apply qge|apply qsn)<;>(first|exact rfl|assumption|exact Ar.mk (by omega)|exact dct (by first|assumption|omega)|exact dcf (by first|assumption|omega)|exact List.not_mem_nil|apply dc_length|apply ec_length|fail))|fail) ?_)
    refine SG.cloneO (m := w.heap.size) rfl rfl rfl ec_length ec_one (by exact rho_of rfl) (by exact rho_of rfl) rfl rfl rfl (by simp only [maxLen]; omega) (by show l.length * 56 ≤ _; omega) hb5 (h.kp0 hk1) hB5 (fun v w2 hk2 ho2 => ?_)
    repeat (first|apply cA|apply cB|apply cD|apply cE|apply cF|apply cG|apply cH|apply cJ|apply cM|apply cN|apply cU|refine cV rfl ?_|apply cY|refine cZ rfl rfl rfl rfl (by first|((first|apply qeo|apply qmv|apply qas|apply qlc|apply qla|apply qix|apply qls|apply qad|apply qln|apply qge|apply qsn)<;>(first|exact rfl|assumption|exact Ar.mk (by omega)|exact dct (by first|assumption|omega)|exact dcf (by first|assumption|omega)|exact List.not_mem_nil|apply dc_length|apply ec_length|fail))|fail) ?_)
    refine ret1 (Or.inl rfl) Tryz.results34 (by first | exact ResV.tmp rfl | exact ResV.agg rfl rfl (by assumption) (by first | exact dc_length _ | exact nc_length _ | exact rc_length _ _ _ | exact ec_length _ | exact dl_length _ _ _ _ | rfl) | exact ResV.cell rfl rfl (by assumption)) ?_
    exact ⟨v, rfl, ho2, hk1.trans hk2⟩
end Go.Proofs.YtnoipmimddoioaaGreat
namespace Go.Proofs.YtnoipmimddoioaaGreat
open Go.Proofs Go.Shelf Go.Sort
set_option linter.unusedVariables false
def lateL (now : Int) (l : List Ofr) : List Ofr := l.filter (fun x => !decide (x.till < now))
theorem lateL_le (now : Int) (l : List Ofr) : (lateL now l).length ≤ l.length := List.length_filter_le _ _
theorem deal_found {l t : List Ofr} (h : findD l = some t) (hok : ∀ x ∈ l, x.Ok) : (dealOf t).2 = 0 := by
  obtain ⟨h1, h2, o, v, rfl, h3⟩ := findD_some h
  have e0 : dealOf (o :: v) = if ((o :: v).length : Int) = o.seats then (if (o :: v).all (fun x => decide x.Ok) then (if decide ((o :: v).Pairwise fitP) then (goodDel o.rules (o :: v), 0) else (zDel, 11)) else (zDel, 2)) else (zDel, 3) := rfl
  rw [e0, if_pos h3, if_pos (List.all_eq_true.2 (fun x hx => decide_eq_true (hok x (h1.subset hx)))), if_pos (decide_eq_true h2)]
theorem Lob.new {base : Nat} {w : World} {bt b : Nat} {room : Int} {v : Value} {l : List Ofr} (h : Lob base w bt room v l) (hb : w.heap.size ≤ b) : b ∉ bt :: ownB v := fun hm => by
  rcases List.mem_cons.1 hm with e | e
  · have := h.blk.lt
    omega
  · exact own_out h.own hb e
theorem own_nea {w : World} {base n cap z : Nat} {a : Option Addr} {sz : Nat} {T T' : TypeId} {xs : List Value} {cs : Array Value} (ho : w.ownsRow base T sz (.slice a n cap) n xs) (hT : T' ≠ T) (hz : Blk w z (.cells cs T')) : ∀ b off, a = some ⟨b, off, none⟩ → b ∉ [z] := by
  intro b off e
  subst e
  rcases ho.2 with ⟨h, _⟩ | ⟨g, c, cur, h, _⟩
  · cases h
  · cases h
    exact own_neb ho hT hz b rfl
theorem own_geB {w : World} {base n : Nat} {v : Value} {sz : Nat} {T : TypeId} {xs : List Value} (ho : w.ownsRow base T sz v n xs) : ∀ b, v.ownBlock = some b → base ≤ b := by
  intro b hb
  rcases ho.2 with ⟨rfl, _⟩ | ⟨g', c, cur, rfl, hg, _⟩
  · cases hb
  · cases hb
    exact hg
theorem own_ge {w : World} {base n cap g : Nat} {sz : Nat} {T : TypeId} {xs : List Value} (ho : w.ownsRow base T sz (.slice (some ⟨g, 0, none⟩) n cap) n xs) : base ≤ g := by
  rcases ho.2 with ⟨h, _⟩ | ⟨g', c, cur, h, hb, _⟩
  · cases h
  · cases h
    exact hb
theorem findD_step {l : List Ofr} {i : Nat} (h : i < l.length) : findD (l.drop i) = match grab l[i].seats [l[i]] (l.drop (i + 1)) with
    | some t => some t
    | none => findD (l.drop (i + 1)) := by
  rw [List.drop_eq_getElem_cons h]
  rfl
attribute [local irreducible] CG NG SG Vals Der Row Blk MapIs IterAt addI xorI orI andI shlI shrI mulI twoI cmpD cmpW kW digO manyI mixD sortK maxs dealOf
set_option maxHeartbeats 16000000 in
theorem all2_spec {w : World} {base bt : Nat} {room : Int} {v : Value} {l : List Ofr} (now : Int) (hL : Lob base w bt room v l) (hl : l.length ≤ 100000) : Calls Tryz.prog 18 #[.pointer (some ⟨bt, 0, none⟩), .int .i64 now] w (fun e w' => ∃ v', e = .returned v' ∧ w'.ownsRow w.heap.size 41 21 v' (lateL now l).length (flt ec (lateL now l)) ∧ Kp [] w w') := by
  refine enter2 Tryz.func18 rfl Tryz.ntmps18 rfl ?_
  obtain ⟨a, c, rfl, hc, hS⟩ := Sl.own ec_length hL.own rfl
  obtain ⟨r0, r1⟩ := hL.rows
  repeat (first|apply cA|apply cB|apply cD|apply cE|apply cF|apply cG|apply cH|apply cJ|apply cK|apply cM|apply cQ|apply cU|refine cV rfl ?_|refine cX rfl ?_|apply cY|refine cZ rfl rfl rfl rfl (by first|((first|apply qmf|apply qep|apply qmv|apply qas|apply qlc|apply qla|apply qfa|apply qnc|apply qix|apply qls|apply qei|apply qni|apply qad|apply qln|apply qxt|apply qnt|apply qep|apply qfr|apply qsn)<;>(first|exact rfl|assumption|exact Ar.mk (by omega)|exact dct (by first|assumption|omega)|exact dcf (by first|assumption|omega)|exact List.not_mem_nil|apply dc_length|apply ec_length|apply dl_length|exact nm1 (by omega)|fail))|fail) ?_)
  refine dE rfl (by exact rho_of rfl) rfl ?_
  repeat (first|apply cA|apply cB|apply cD|apply cE|apply cF|apply cG|apply cH|apply cJ|apply cK|apply cM|apply cQ|apply cU|refine cV rfl ?_|refine cX rfl ?_|apply cY|refine cZ rfl rfl rfl rfl (by first|((first|apply qmf|apply qep|apply qmv|apply qas|apply qlc|apply qla|apply qfa|apply qnc|apply qix|apply qls|apply qei|apply qni|apply qad|apply qln|apply qxt|apply qnt|apply qep|apply qfr|apply qsn)<;>(first|exact rfl|assumption|exact Ar.mk (by omega)|exact dct (by first|assumption|omega)|exact dcf (by first|assumption|omega)|exact List.not_mem_nil|apply dc_length|apply ec_length|apply dl_length|exact nm1 (by omega)|fail))|fail) ?_)
  refine SG.call rfl rfl rfl (vs := [.slice a l.length c]) (by repeat' (first | exact True.intro | exact rho_of rfl | refine And.intro ?_ ?_)) ((oclone_spec c hS hl).mono (fun e w1 hh => ?_))
  obtain ⟨v1, he, ho1, hk1⟩ := hh
  refine ⟨_, he, ?_⟩
  repeat (first|apply cA|apply cB|apply cD|apply cE|apply cF|apply cG|apply cH|apply cJ|apply cK|apply cM|apply cQ|apply cU|refine cV rfl ?_|refine cX rfl ?_|apply cY|refine cZ rfl rfl rfl rfl (by first|((first|apply qmf|apply qep|apply qmv|apply qas|apply qlc|apply qla|apply qfa|apply qnc|apply qix|apply qls|apply qei|apply qni|apply qad|apply qln|apply qxt|apply qnt|apply qep|apply qfr|apply qsn)<;>(first|exact rfl|assumption|exact Ar.mk (by omega)|exact dct (by first|assumption|omega)|exact dcf (by first|assumption|omega)|exact List.not_mem_nil|apply dc_length|apply ec_length|apply dl_length|exact nm1 (by omega)|fail))|fail) ?_)
  refine SG.call rfl rfl rfl (vs := [.int .i64 now]) (by repeat' (first | exact True.intro | exact rho_of rfl | refine And.intro ?_ ?_)) ((late_spec now w1).mono (fun e w2 hh => ?_))
  obtain ⟨b2, he, hk2, hb2, hr2⟩ := hh
  refine ⟨_, he, ?_⟩
  have ho2 := own_kp0 ho1 hk2
  have hn2 := own_out (b := b2) ho1 hb2
  repeat (first|apply cA|apply cB|apply cD|apply cE|apply cF|apply cG|apply cH|apply cJ|apply cK|apply cM|apply cQ|apply cU|refine cV rfl ?_|refine cX rfl ?_|apply cY|refine cZ rfl rfl rfl rfl (by first|((first|apply qmf|apply qep|apply qmv|apply qas|apply qlc|apply qla|apply qfa|apply qnc|apply qix|apply qls|apply qei|apply qni|apply qad|apply qln|apply qxt|apply qnt|apply qep|apply qfr|apply qsn)<;>(first|exact rfl|assumption|exact Ar.mk (by omega)|exact dct (by first|assumption|omega)|exact dcf (by first|assumption|omega)|exact List.not_mem_nil|apply dc_length|apply ec_length|apply dl_length|exact nm1 (by omega)|fail))|fail) ?_)
  refine SG.call rfl rfl rfl (vs := [v1, fnv 43 [.pointer (some ⟨b2, 0, none⟩)]]) (by repeat' (first | exact True.intro | exact rho_of rfl | refine And.intro ?_ ?_)) ((delf_spec (p := fun x => decide (x.till < now)) ho2 (by omega) (fun x hx W hk => late1_spec (hr2.kp hk hn2) x)).mono (fun e w3 hh => ?_))
  obtain ⟨v3, he, ho3, hk3, hv3⟩ := hh
  refine ⟨_, he, ?_⟩
  repeat (first|apply cA|apply cB|apply cD|apply cE|apply cF|apply cG|apply cH|apply cJ|apply cK|apply cM|apply cQ|apply cU|refine cV rfl ?_|refine cX rfl ?_|apply cY|refine cZ rfl rfl rfl rfl (by first|((first|apply qmf|apply qep|apply qmv|apply qas|apply qlc|apply qla|apply qfa|apply qnc|apply qix|apply qls|apply qei|apply qni|apply qad|apply qln|apply qxt|apply qnt|apply qep|apply qfr|apply qsn)<;>(first|exact rfl|assumption|exact Ar.mk (by omega)|exact dct (by first|assumption|omega)|exact dcf (by first|assumption|omega)|exact List.not_mem_nil|apply dc_length|apply ec_length|apply dl_length|exact nm1 (by omega)|fail))|fail) ?_)
  refine ret1 (Or.inl rfl) Tryz.results18 (by first | exact ResV.tmp rfl | exact ResV.agg rfl rfl (by assumption) (by first | exact dc_length _ | exact nc_length _ | exact rc_length _ _ _ | exact ec_length _ | exact dl_length _ _ _ _ | rfl) | exact ResV.cell rfl rfl (by assumption)) ?_
  exact ⟨v3, rfl, ho3, (hk1.trans hk2).trans_new hk3 (own_new ho2 (Nat.le_refl _))⟩
set_option maxHeartbeats 32000000 in
theorem match_spec {w : World} {base bt : Nat} {room : Int} {v : Value} {l : List Ofr} (now : Int) (hL : Lob base w bt room v l) (hl : l.length ≤ 1000) (hok : ∀ x ∈ l, x.Ok) : Calls Tryz.prog 12 #[.pointer (some ⟨bt, 0, none⟩), .int .i64 now] w (fun e w' =>
    (findD (lateL now l) = none ∧ e = .returned (.tuple #[dealV zd (.slice none 0 0) 0 0, .slice none 0 0, .bool false]) ∧ Kp [] w w') ∨
    ∃ t vd vt v', findD (lateL now l) = some t ∧ e = .returned (.tuple #[vd, vt, .bool true]) ∧ DealAt w w' 39 vd (dealOf t).1 ∧ w'.ownsRow w.heap.size 41 21 vt t.length (flt ec t) ∧ Kp (bt :: ownB v) w w' ∧ Lob base w' bt room v' (l.filter (fun x => !decide (x ∈ t))) ∧ ∀ b, v'.ownBlock = some b → v.ownBlock = some b) := by
  refine enter2 Tryz.func12 rfl Tryz.ntmps12 rfl ?_
  have hKl := lateL_le now l
  have hKok : ∀ x ∈ lateL now l, x.Ok := fun x hx => hok x (List.mem_filter.1 hx).1
  have hall := fun W (h : Kp [] w W) => all2_spec now (hL.kp0 h) (by omega)
  generalize lateL now l = K at hKl hKok hall
  have hfd := fun t (h : findD K = some t) => deal_found h hKok
  have hsub := fun t h => (findD_some (l := K) (u := t) h).1
  repeat (first|apply cA|apply cB|apply cD|apply cE|apply cF|apply cG|apply cH|apply cJ|apply cK|apply cM|apply cQ|apply cU|refine cV rfl ?_|refine cX rfl ?_|apply cY|refine cZ rfl rfl rfl rfl (by first|((first|apply qmf|apply qep|apply qmv|apply qas|apply qlc|apply qla|apply qfa|apply qnc|apply qix|apply qls|apply qei|apply qni|apply qad|apply qln|apply qxt|apply qnt|apply qep|apply qfr|apply qsn)<;>(first|exact rfl|assumption|exact Ar.mk (by omega)|exact dct (by first|assumption|omega)|exact dcf (by first|assumption|omega)|exact List.not_mem_nil|apply dc_length|apply ec_length|apply dl_length|exact nm1 (by omega)|fail))|fail) ?_)
  refine SG.alloc rfl rfl rfl (fun b4 w1 hk1 hb4 hB4 => ?_)
  have hB4 : Blk w1 b4 (.cells (dl zd (.slice none 0 0) 0 0).toArray 53) := hB4
  have l41 := hB4.lt
  repeat (first|apply cA|apply cB|apply cD|apply cE|apply cF|apply cG|apply cH|apply cJ|apply cK|apply cM|apply cQ|apply cU|refine cV rfl ?_|refine cX rfl ?_|apply cY|refine cZ rfl rfl rfl rfl (by first|((first|apply qmf|apply qep|apply qmv|apply qas|apply qlc|apply qla|apply qfa|apply qnc|apply qix|apply qls|apply qei|apply qni|apply qad|apply qln|apply qxt|apply qnt|apply qep|apply qfr|apply qsn)<;>(first|exact rfl|assumption|exact Ar.mk (by omega)|exact dct (by first|assumption|omega)|exact dcf (by first|assumption|omega)|exact List.not_mem_nil|apply dc_length|apply ec_length|apply dl_length|exact nm1 (by omega)|fail))|fail) ?_)
  refine dE rfl (by exact rho_of rfl) rfl ?_
  repeat (first|apply cA|apply cB|apply cD|apply cE|apply cF|apply cG|apply cH|apply cJ|apply cK|apply cM|apply cQ|apply cU|refine cV rfl ?_|refine cX rfl ?_|apply cY|refine cZ rfl rfl rfl rfl (by first|((first|apply qmf|apply qep|apply qmv|apply qas|apply qlc|apply qla|apply qfa|apply qnc|apply qix|apply qls|apply qei|apply qni|apply qad|apply qln|apply qxt|apply qnt|apply qep|apply qfr|apply qsn)<;>(first|exact rfl|assumption|exact Ar.mk (by omega)|exact dct (by first|assumption|omega)|exact dcf (by first|assumption|omega)|exact List.not_mem_nil|apply dc_length|apply ec_length|apply dl_length|exact nm1 (by omega)|fail))|fail) ?_)
  refine SG.alloc rfl rfl rfl (fun b7 w2 hk2 hb7 hB7 => ?_)
  have hB7 : Blk w2 b7 (.cells #[.slice none 0 0] 54) := hB7
  have hB4 := hB4.kp0 hk2
  repeat (first|apply cA|apply cB|apply cD|apply cE|apply cF|apply cG|apply cH|apply cJ|apply cK|apply cM|apply cQ|apply cU|refine cV rfl ?_|refine cX rfl ?_|apply cY|refine cZ rfl rfl rfl rfl (by first|((first|apply qmf|apply qep|apply qmv|apply qas|apply qlc|apply qla|apply qfa|apply qnc|apply qix|apply qls|apply qei|apply qni|apply qad|apply qln|apply qxt|apply qnt|apply qep|apply qfr|apply qsn)<;>(first|exact rfl|assumption|exact Ar.mk (by omega)|exact dct (by first|assumption|omega)|exact dcf (by first|assumption|omega)|exact List.not_mem_nil|apply dc_length|apply ec_length|apply dl_length|exact nm1 (by omega)|fail))|fail) ?_)
  refine SG.call rfl rfl rfl (vs := [.pointer (some ⟨bt, 0, none⟩), .int .i64 now]) (by repeat' (first | exact True.intro | exact rho_of rfl | refine And.intro ?_ ?_)) ((hall w2 (hk1.trans hk2)).mono (fun e w3 hh => ?_))
  obtain ⟨vo, he, hoo, hk3⟩ := hh
  refine ⟨_, he, ?_⟩
  have hB4 := hB4.kp0 hk3
  have hB7 := hB7.kp0 hk3
  have k3 := (hk1.trans hk2).trans hk3
  have s1 := hk1.size
  have s2 := hk2.size
  have s3 := hk3.size
  have l4 := hB4.lt
  have l7 := hB7.lt
  have hoo3 := hoo
  obtain ⟨ao, co, rfl, hco, hSo⟩ := Sl.own ec_length hoo rfl
  have hao7 : ∀ b off, ao = some ⟨b, off, none⟩ → b ∉ [b7] := own_nea hoo (by decide) hB7
  have hE4 := hB4
  clear hall hoo hk1 hk2 hk3
  repeat (first|apply cA|apply cB|apply cD|apply cE|apply cF|apply cG|apply cH|apply cJ|apply cK|apply cM|apply cQ|apply cU|refine cV rfl ?_|refine cX rfl ?_|apply cY|refine cZ rfl rfl rfl rfl (by first|((first|apply qmf|apply qep|apply qmv|apply qas|apply qlc|apply qla|apply qfa|apply qnc|apply qix|apply qls|apply qei|apply qni|apply qad|apply qln|apply qxt|apply qnt|apply qep|apply qfr|apply qsn)<;>(first|exact rfl|assumption|exact Ar.mk (by omega)|exact dct (by first|assumption|omega)|exact dcf (by first|assumption|omega)|exact List.not_mem_nil|apply dc_length|apply ec_length|apply dl_length|exact nm1 (by omega)|fail))|fail) ?_)
  refine CG.label ?_
  repeat (first|apply cA|apply cB|apply cD|apply cE|apply cF|apply cG|apply cH|apply cJ|apply cK|apply cM|apply cQ|apply cU|refine cV rfl ?_|refine cX rfl ?_|apply cY|refine cZ rfl rfl rfl rfl (by first|((first|apply qmf|apply qep|apply qmv|apply qas|apply qlc|apply qla|apply qfa|apply qnc|apply qix|apply qls|apply qei|apply qni|apply qad|apply qln|apply qxt|apply qnt|apply qep|apply qfr|apply qsn)<;>(first|exact rfl|assumption|exact Ar.mk (by omega)|exact dct (by first|assumption|omega)|exact dcf (by first|assumption|omega)|exact List.not_mem_nil|apply dc_length|apply ec_length|apply dl_length|exact nm1 (by omega)|fail))|fail) ?_)
  refine CG.loop (X := Nat) (fun i => [(0, .pointer (some ⟨bt, 0, none⟩)), (4, .pointer (some ⟨b4, 0, none⟩)), (7, .pointer (some ⟨b7, 0, none⟩)), (8, .slice ao K.length co), (21, .slice ao K.length co), (22, .int .i64 (K.length : Int)), (23, .int .i64 (i : Int))])
    (fun i w' => i ≤ K.length ∧ Kp [b7] w3 w' ∧ Blk w' b7 (.cells #[.slice none 0 0] 54) ∧ findD (K.drop i) = findD K) (fun i => K.length - i) 0 ⟨by omega, Kp.refl _ _, hB7, rfl⟩ (by (repeat' (first | exact True.intro | exact rfl | refine And.intro ?_ ?_))) ?_
  rintro i w4 ⟨hi, hk4, hB7, hfi⟩
  have hB4 := hB4.kp hk4 (nm1 (by omega))
  have k4 : Kp [] w w4 := k3.trans_new hk4 (new1 (by omega))
  have s4 := hk4.size
  by_cases hlt : i < K.length
  · have g1 : (i : Int) < (K.length : Int) := by omega
    obtain ⟨bz, oz, rfl, hrz⟩ := (hSo.kp hk4 hao7).at hlt
    rw [findD_step hlt] at hfi
    generalize hfo : K[i] = fo at hrz hfi
    repeat (first|apply cA|apply cB|apply cD|apply cE|apply cF|apply cG|apply cH|apply cJ|apply cK|apply cM|apply cQ|apply cU|refine cV rfl ?_|refine cX rfl ?_|apply cY|refine cZ rfl rfl rfl rfl (by first|((first|apply qmf|apply qep|apply qmv|apply qas|apply qlc|apply qla|apply qfa|apply qnc|apply qix|apply qls|apply qei|apply qni|apply qad|apply qln|apply qxt|apply qnt|apply qep|apply qfr|apply qsn)<;>(first|exact rfl|assumption|exact Ar.mk (by omega)|exact dct (by first|assumption|omega)|exact dcf (by first|assumption|omega)|exact List.not_mem_nil|apply dc_length|apply ec_length|apply dl_length|exact nm1 (by omega)|fail))|fail) ?_)
    refine dD rfl (by exact rho_of rfl) rfl ?_
    repeat (first|apply cA|apply cB|apply cD|apply cE|apply cF|apply cG|apply cH|apply cJ|apply cK|apply cM|apply cQ|apply cU|refine cV rfl ?_|refine cX rfl ?_|apply cY|refine cZ rfl rfl rfl rfl (by first|((first|apply qmf|apply qep|apply qmv|apply qas|apply qlc|apply qla|apply qfa|apply qnc|apply qix|apply qls|apply qei|apply qni|apply qad|apply qln|apply qxt|apply qnt|apply qep|apply qfr|apply qsn)<;>(first|exact rfl|assumption|exact Ar.mk (by omega)|exact dct (by first|assumption|omega)|exact dcf (by first|assumption|omega)|exact List.not_mem_nil|apply dc_length|apply ec_length|apply dl_length|exact nm1 (by omega)|fail))|fail) ?_)
    refine SG.alloc rfl rfl rfl (fun b10 w5 hk5 hb10 hB10 => ?_)
    repeat (first|apply cA|apply cB|apply cD|apply cE|apply cF|apply cG|apply cH|apply cJ|apply cK|apply cM|apply cQ|apply cU|refine cV rfl ?_|refine cX rfl ?_|apply cY|refine cZ rfl rfl rfl rfl (by first|((first|apply qmf|apply qep|apply qmv|apply qas|apply qlc|apply qla|apply qfa|apply qnc|apply qix|apply qls|apply qei|apply qni|apply qad|apply qln|apply qxt|apply qnt|apply qep|apply qfr|apply qsn)<;>(first|exact rfl|assumption|exact Ar.mk (by omega)|exact dct (by first|assumption|omega)|exact dcf (by first|assumption|omega)|exact List.not_mem_nil|apply dc_length|apply ec_length|apply dl_length|exact nm1 (by omega)|fail))|fail) ?_)
    refine SG.setAll (l := ec fo) rfl rfl (by exact rho_of rfl) (by exact rho_of rfl) hB10 (ec_length _) rfl (ec_one _) (fun w6 hk6 hB10 => ?_)
    have hB10 : Blk w6 b10 (.cells (ec fo).toArray 41) := hB10
    have hR10 : Row w6 b10 0 (ec fo) := Row.all hB10 rfl
    have k46 : Kp [] w4 w6 := hk5.trans_new hk6 (new1 (by omega))
    clear hrz
    repeat (first|apply cA|apply cB|apply cD|apply cE|apply cF|apply cG|apply cH|apply cJ|apply cK|apply cM|apply cQ|apply cU|refine cV rfl ?_|refine cX rfl ?_|apply cY|refine cZ rfl rfl rfl rfl (by first|((first|apply qmf|apply qep|apply qmv|apply qas|apply qlc|apply qla|apply qfa|apply qnc|apply qix|apply qls|apply qei|apply qni|apply qad|apply qln|apply qxt|apply qnt|apply qep|apply qfr|apply qsn)<;>(first|exact rfl|assumption|exact Ar.mk (by omega)|exact dct (by first|assumption|omega)|exact dcf (by first|assumption|omega)|exact List.not_mem_nil|apply dc_length|apply ec_length|apply dl_length|exact nm1 (by omega)|fail))|fail) ?_)
    refine SG.buildSlice rfl rfl rfl rfl (bso _) (fun bs w7 hk7 hbs hBs => ?_)
    have s46 := k46.size
    have s7 := hk7.size
    have l10 := hB10.lt
    have hB7' := (hB7.kp0 k46).kp0 hk7
    repeat (first|apply cA|apply cB|apply cD|apply cE|apply cF|apply cG|apply cH|apply cJ|apply cK|apply cM|apply cQ|apply cU|refine cV rfl ?_|refine cX rfl ?_|apply cY|refine cZ rfl rfl rfl rfl (by first|((first|apply qmf|apply qep|apply qmv|apply qas|apply qlc|apply qla|apply qfa|apply qnc|apply qix|apply qls|apply qei|apply qni|apply qad|apply qln|apply qxt|apply qnt|apply qep|apply qfr|apply qsn)<;>(first|exact rfl|assumption|exact Ar.mk (by omega)|exact dct (by first|assumption|omega)|exact dcf (by first|assumption|omega)|exact List.not_mem_nil|apply dc_length|apply ec_length|apply dl_length|exact nm1 (by omega)|fail))|fail) ?_)
    refine SG.store rfl rfl (by exact rho_of rfl) (by exact rho_of rfl) hB7' rfl (by show 0 + 1 ≤ 1; omega) rfl (fun w8 hk8 hB7 => ?_)
    have hB7 : Blk w8 b7 (.cells #[.slice (some ⟨bs, 0, none⟩) 1 1] 54) := hB7
    have hos : w8.ownsRow w6.heap.size 41 21 (.slice (some ⟨bs, 0, none⟩) 1 1) [fo].length (flt ec [fo]) := by
      have : Blk w7 bs (.cells (flt ec [fo]).toArray 41) := by rw [flt_one]; exact hBs
      have := own_made (base := w6.heap.size) ec_length this hbs (n := 1) rfl (by simp [maxLen])
      exact own_kp this hk8 (own_neb this (by decide) hB7')
    have s8 := hk8.size
    have hk38 : Kp [b7] w3 w8 := ((hk4.trans k46.any).trans hk7.any).trans hk8
    have hB10 := (hB10.kp0 hk7).kp hk8 (nm1 (by omega))
    have k8 := (k46.trans hk7)
    clear hk7 k46 hk6 hk5 hR10 hBs hB7' hbs
    repeat (first|apply cA|apply cB|apply cD|apply cE|apply cF|apply cG|apply cH|apply cJ|apply cK|apply cM|apply cQ|apply cU|refine cV rfl ?_|refine cX rfl ?_|apply cY|refine cZ rfl rfl rfl rfl (by first|((first|apply qmf|apply qep|apply qmv|apply qas|apply qlc|apply qla|apply qfa|apply qnc|apply qix|apply qls|apply qei|apply qni|apply qad|apply qln|apply qxt|apply qnt|apply qep|apply qfr|apply qsn)<;>(first|exact rfl|assumption|exact Ar.mk (by omega)|exact dct (by first|assumption|omega)|exact dcf (by first|assumption|omega)|exact List.not_mem_nil|apply dc_length|apply ec_length|apply dl_length|exact nm1 (by omega)|fail))|fail) ?_)
    refine cZ rfl rfl rfl rfl (qfr (j := i + 1) rfl rfl (by omega) (Ar.mk (by omega))) ?_
    repeat (first|apply cA|apply cB|apply cD|apply cE|apply cF|apply cG|apply cH|apply cJ|apply cK|apply cM|apply cQ|apply cU|refine cV rfl ?_|refine cX rfl ?_|apply cY|refine cZ rfl rfl rfl rfl (by first|((first|apply qmf|apply qep|apply qmv|apply qas|apply qlc|apply qla|apply qfa|apply qnc|apply qix|apply qls|apply qei|apply qni|apply qad|apply qln|apply qxt|apply qnt|apply qep|apply qfr|apply qsn)<;>(first|exact rfl|assumption|exact Ar.mk (by omega)|exact dct (by first|assumption|omega)|exact dcf (by first|assumption|omega)|exact List.not_mem_nil|apply dc_length|apply ec_length|apply dl_length|exact nm1 (by omega)|fail))|fail) ?_)
    refine CG.loop (X := Value × List Ofr × Nat) (fun x => [(0, .pointer (some ⟨bt, 0, none⟩)), (4, .pointer (some ⟨b4, 0, none⟩)), (7, .pointer (some ⟨b7, 0, none⟩)), (8, .slice (some ⟨bz, oz, none⟩) K.length co), (21, .slice (some ⟨bz, oz, none⟩) K.length co), (22, .int .i64 (K.length : Int)), (23, .int .i64 (i : Int)), (10, .pointer (some ⟨b10, 0, none⟩)), (33, .slice (some ⟨bz, if co = i + 1 then oz else oz + (i + 1) * 21, none⟩) (K.length - (i + 1)) (co - (i + 1))), (34, .int .i64 ((K.length - (i + 1) : Nat) : Int)), (35, .int .i64 (x.2.2 : Int))])
      (fun x w' => x.2.2 ≤ K.length - (i + 1) ∧ x.2.1.length ≤ x.2.2 + 1 ∧ Kp [b7] w3 w' ∧ w8.heap.size ≤ w'.heap.size ∧ Blk w' b10 (.cells (ec fo).toArray 41) ∧ Blk w' b7 (.cells #[x.1] 54) ∧ w'.ownsRow w6.heap.size 41 21 x.1 x.2.1.length (flt ec x.2.1) ∧
        (match grab fo.seats x.2.1 (K.drop (i + 1 + x.2.2)) with | some t => some t | none => findD (K.drop (i + 1))) = findD K) (fun x => K.length - x.2.2) (.slice (some ⟨bs, 0, none⟩) 1 1, [fo], 0) ⟨Nat.zero_le _, Nat.le_refl _, hk38, Nat.le_refl _, hB10, hB7, hos, hfi⟩ (by (repeat' (first | exact True.intro | exact rfl | refine And.intro ?_ ?_))) ?_
    clear hB7 hos hk38 hB10 hfi
    rintro ⟨tv, t, j⟩ w9 ⟨hj, htj, hk9, s9, hB10, hB7, hot, hgr⟩
    simp only at hj htj hB7 hot hgr
    refine CG.to [(0, .pointer (some ⟨bt, 0, none⟩)), (4, .pointer (some ⟨b4, 0, none⟩)), (7, .pointer (some ⟨b7, 0, none⟩)), (8, .slice (some ⟨bz, oz, none⟩) K.length co), (21, .slice (some ⟨bz, oz, none⟩) K.length co), (22, .int .i64 (K.length : Int)), (23, .int .i64 (i : Int)), (10, .pointer (some ⟨b10, 0, none⟩)), (33, .slice (some ⟨bz, if co = i + 1 then oz else oz + (i + 1) * 21, none⟩) (K.length - (i + 1)) (co - (i + 1))), (34, .int .i64 ((K.length - (i + 1) : Nat) : Int)), (35, .int .i64 (j : Int))] (by (repeat' (first | exact True.intro | exact rfl | refine And.intro ?_ ?_))) ?_
    by_cases hjt : j < K.length - (i + 1)
    · have g2 : (j : Int) < ((K.length - (i + 1) : Nat) : Int) := by omega
      have hik : i + 1 + j < K.length := by omega
      have hrj := (hSo.kp hk9 hao7).row (List.getElem?_eq_getElem hik)
      have eo : oz + (i + 1 + j) * 21 = (if co = i + 1 then oz else oz + (i + 1) * 21) + j * 21 := by
        rw [if_neg (by omega), Nat.add_mul (i + 1) j 21]
        omega
      rw [eo] at hrj
      rw [List.drop_eq_getElem_cons hik] at hgr
      have hokj := hKok _ (List.getElem_mem hik)
      generalize K[i + 1 + j] = oj at hrj hgr hokj
      generalize (if co = i + 1 then oz else oz + (i + 1) * 21) = ofs at hrj
      obtain ⟨tva, tvc, rfl, htc, hSt⟩ := Sl.own ec_length hot rfl
      have hR7 : Row w9 b7 0 [.slice tva t.length tvc] := Row.all hB7 rfl
      repeat (first|apply cA|apply cB|apply cD|apply cE|apply cF|apply cG|apply cH|apply cJ|apply cK|apply cM|apply cQ|apply cU|refine cV rfl ?_|refine cX rfl ?_|apply cY|refine cZ rfl rfl rfl rfl (by first|((first|apply qmf|apply qep|apply qmv|apply qas|apply qlc|apply qla|apply qfa|apply qnc|apply qix|apply qls|apply qei|apply qni|apply qad|apply qln|apply qxt|apply qnt|apply qep|apply qfr|apply qsn)<;>(first|exact rfl|assumption|exact Ar.mk (by omega)|exact dct (by first|assumption|omega)|exact dcf (by first|assumption|omega)|exact List.not_mem_nil|apply dc_length|apply ec_length|apply dl_length|exact nm1 (by omega)|fail))|fail) ?_)
      refine dD rfl (by exact rho_of rfl) rfl ?_
      repeat (first|apply cA|apply cB|apply cD|apply cE|apply cF|apply cG|apply cH|apply cJ|apply cK|apply cM|apply cQ|apply cU|refine cV rfl ?_|refine cX rfl ?_|apply cY|refine cZ rfl rfl rfl rfl (by first|((first|apply qmf|apply qep|apply qmv|apply qas|apply qlc|apply qla|apply qfa|apply qnc|apply qix|apply qls|apply qei|apply qni|apply qad|apply qln|apply qxt|apply qnt|apply qep|apply qfr|apply qsn)<;>(first|exact rfl|assumption|exact Ar.mk (by omega)|exact dct (by first|assumption|omega)|exact dcf (by first|assumption|omega)|exact List.not_mem_nil|apply dc_length|apply ec_length|apply dl_length|exact nm1 (by omega)|fail))|fail) ?_)
      refine SG.alloc rfl rfl rfl (fun b12 w10 hk10 hb12 hB12 => ?_)
      refine SG.setAll (l := ec oj) rfl rfl (by exact rho_of rfl) (by exact rho_of rfl) hB12 (ec_length _) rfl (ec_one _) (fun w11 hk11 hB12 => ?_)
      have hB12 : Blk w11 b12 (.cells (ec oj).toArray 41) := hB12
      have hR12 : Row w11 b12 0 (ec oj) := Row.all hB12 rfl
      have k911 : Kp [] w9 w11 := hk10.trans_new hk11 (new1 (by omega))
      have l12 := hB12.lt
      have s911 := k911.size
      have hR7 := hR7.kp0 k911
      clear hrj hB12
      repeat (first|apply cA|apply cB|apply cD|apply cE|apply cF|apply cG|apply cH|apply cJ|apply cK|apply cM|apply cQ|apply cU|refine cV rfl ?_|refine cX rfl ?_|apply cY|refine cZ rfl rfl rfl rfl (by first|((first|apply qmf|apply qep|apply qmv|apply qas|apply qlc|apply qla|apply qfa|apply qnc|apply qix|apply qls|apply qei|apply qni|apply qad|apply qln|apply qxt|apply qnt|apply qep|apply qfr|apply qsn)<;>(first|exact rfl|assumption|exact Ar.mk (by omega)|exact dct (by first|assumption|omega)|exact dcf (by first|assumption|omega)|exact List.not_mem_nil|apply dc_length|apply ec_length|apply dl_length|exact nm1 (by omega)|fail))|fail) ?_)
      refine SG.ret rfl rfl rfl (vs := [.slice tva t.length tvc, ov oj]) (by repeat' (first | exact True.intro | exact rho_of rfl | refine And.intro ?_ ?_)) (fits_spec (c := tvc) (hSt.kp0 k911) (by omega) oj) (fun w12 hk12 => ?_)
      cases ha : t.any (fun x => !decide (fitP x oj)) with
      | true =>
        rw [grab_no ha] at hgr
        repeat (first|apply cA|apply cB|apply cD|apply cE|apply cF|apply cG|apply cH|apply cJ|apply cK|apply cM|apply cQ|apply cU|refine cV rfl ?_|refine cX rfl ?_|apply cY|refine cZ rfl rfl rfl rfl (by first|((first|apply qmf|apply qep|apply qmv|apply qas|apply qlc|apply qla|apply qfa|apply qnc|apply qix|apply qls|apply qei|apply qni|apply qad|apply qln|apply qxt|apply qnt|apply qep|apply qfr|apply qsn)<;>(first|exact rfl|assumption|exact Ar.mk (by omega)|exact dct (by first|assumption|omega)|exact dcf (by first|assumption|omega)|exact List.not_mem_nil|apply dc_length|apply ec_length|apply dl_length|exact nm1 (by omega)|fail))|fail) ?_)
        refine dD rfl (by exact rho_of rfl) rfl ?_
        have k12 := k911.trans hk12
        repeat (first|apply cA|apply cB|apply cD|apply cE|apply cF|apply cG|apply cH|apply cJ|apply cK|apply cM|apply cQ|apply cU|refine cV rfl ?_|refine cX rfl ?_|apply cY|refine cZ rfl rfl rfl rfl (by first|((first|apply qmf|apply qep|apply qmv|apply qas|apply qlc|apply qla|apply qfa|apply qnc|apply qix|apply qls|apply qei|apply qni|apply qad|apply qln|apply qxt|apply qnt|apply qep|apply qfr|apply qsn)<;>(first|exact rfl|assumption|exact Ar.mk (by omega)|exact dct (by first|assumption|omega)|exact dcf (by first|assumption|omega)|exact List.not_mem_nil|apply dc_length|apply ec_length|apply dl_length|exact nm1 (by omega)|fail))|fail) ?_)
        refine NG.round (.slice tva t.length tvc, t, j + 1) (by (repeat' (first | exact True.intro | exact rfl | refine And.intro ?_ ?_))) ⟨by simp only; omega, by simp only; omega, hk9.trans k12.any, Nat.le_trans s9 k12.size, hB10.kp0 k12, hB7.kp0 k12, own_kp0 hot k12, hgr⟩ (by simp only; omega)
      | false =>
        have k12 := k911.trans hk12
        have hR7 := hR7.kp0 hk12
        have hR12 := hR12.kp0 hk12
        repeat (first|apply cA|apply cB|apply cD|apply cE|apply cF|apply cG|apply cH|apply cJ|apply cK|apply cM|apply cQ|apply cU|refine cV rfl ?_|refine cX rfl ?_|apply cY|refine cZ rfl rfl rfl rfl (by first|((first|apply qmf|apply qep|apply qmv|apply qas|apply qlc|apply qla|apply qfa|apply qnc|apply qix|apply qls|apply qei|apply qni|apply qad|apply qln|apply qxt|apply qnt|apply qep|apply qfr|apply qsn)<;>(first|exact rfl|assumption|exact Ar.mk (by omega)|exact dct (by first|assumption|omega)|exact dcf (by first|assumption|omega)|exact List.not_mem_nil|apply dc_length|apply ec_length|apply dl_length|exact nm1 (by omega)|fail))|fail) ?_)
        refine dE rfl (by exact rho_of rfl) rfl ?_
        repeat (first|apply cA|apply cB|apply cD|apply cE|apply cF|apply cG|apply cH|apply cJ|apply cK|apply cM|apply cQ|apply cU|refine cV rfl ?_|refine cX rfl ?_|apply cY|refine cZ rfl rfl rfl rfl (by first|((first|apply qmf|apply qep|apply qmv|apply qas|apply qlc|apply qla|apply qfa|apply qnc|apply qix|apply qls|apply qei|apply qni|apply qad|apply qln|apply qxt|apply qnt|apply qep|apply qfr|apply qsn)<;>(first|exact rfl|assumption|exact Ar.mk (by omega)|exact dct (by first|assumption|omega)|exact dcf (by first|assumption|omega)|exact List.not_mem_nil|apply dc_length|apply ec_length|apply dl_length|exact nm1 (by omega)|fail))|fail) ?_)
        refine SG.buildSlice rfl rfl rfl rfl (bso _) (fun bs w13 hk13 hbs hBs => ?_)
        have ho13 := own_kp0 (own_kp0 hot k12) hk13
        have k13 := k12.trans hk13
        have s13 := k13.size
        have hBb := (hB7.kp0 k13)
        repeat (first|apply cA|apply cB|apply cD|apply cE|apply cF|apply cG|apply cH|apply cJ|apply cK|apply cM|apply cQ|apply cU|refine cV rfl ?_|refine cX rfl ?_|apply cY|refine cZ rfl rfl rfl rfl (by first|((first|apply qmf|apply qep|apply qmv|apply qas|apply qlc|apply qla|apply qfa|apply qnc|apply qix|apply qls|apply qei|apply qni|apply qad|apply qln|apply qxt|apply qnt|apply qep|apply qfr|apply qsn)<;>(first|exact rfl|assumption|exact Ar.mk (by omega)|exact dct (by first|assumption|omega)|exact dcf (by first|assumption|omega)|exact List.not_mem_nil|apply dc_length|apply ec_length|apply dl_length|exact nm1 (by omega)|fail))|fail) ?_)
        refine SG.appO (enc := ec) (xs := t) (ys := [oj]) (base := w6.heap.size) rfl rfl rfl (by exact rho_of rfl) (by exact rho_of rfl) rfl rfl rfl rfl ec_length ec_one ho13 (sl_one ec_length hBs) (by simp only [maxLen, List.length_cons, List.length_nil]; omega) (by show (t.length + 1) * 56 ≤ _; omega) (by omega) (fun v14 w14 hk14 ho14 hg14 => ?_)
        have hB7 := blk_own ho13 (by decide) hBb hk14
        have hB10 := (hB10.kp0 k13).kp hk14 (own_nb ho13 b10 l10)
        have k14 := (hk9.trans k13.any).trans_new hk14 (own_new ho13 (by omega))
        have s14 := hk14.size
        clear hk14 ho13 hot hBb hBs hR12 hR7 hk13 hg14 hbs hSt k12 k911 hk12 hk11 hk10
        obtain ⟨g, cap, rfl, hcp⟩ := own_slice ho14 (by simp)
        repeat (first|apply cA|apply cB|apply cD|apply cE|apply cF|apply cG|apply cH|apply cJ|apply cK|apply cM|apply cQ|apply cU|refine cV rfl ?_|refine cX rfl ?_|apply cY|refine cZ rfl rfl rfl rfl (by first|((first|apply qmf|apply qep|apply qmv|apply qas|apply qlc|apply qla|apply qfa|apply qnc|apply qix|apply qls|apply qei|apply qni|apply qad|apply qln|apply qxt|apply qnt|apply qep|apply qfr|apply qsn)<;>(first|exact rfl|assumption|exact Ar.mk (by omega)|exact dct (by first|assumption|omega)|exact dcf (by first|assumption|omega)|exact List.not_mem_nil|apply dc_length|apply ec_length|apply dl_length|exact nm1 (by omega)|fail))|fail) ?_)
        refine SG.store rfl rfl (by exact rho_of rfl) (by exact rho_of rfl) hB7 rfl (by show 0 + 1 ≤ 1; omega) rfl (fun w15 hk15 hC7 => ?_)
        have hC7 : Blk w15 b7 (.cells #[.slice (some ⟨g, 0, none⟩) (t ++ [oj]).length cap] 54) := hC7
        have ho15 := own_kp ho14 hk15 (own_neb ho14 (by decide) hB7)
        have hB10 := hB10.kp hk15 (nm1 (by omega))
        have hR7 : Row w15 b7 0 [.slice (some ⟨g, 0, none⟩) (t ++ [oj]).length cap] := Row.all hC7 rfl
        have k15 := k14.trans hk15
        have s15 := hk15.size
        obtain ⟨-, -, rs, -⟩ := ec_rows hB10
        clear hB7 ho14 hk15 k14
        by_cases hs : ((t ++ [oj]).length : Int) = fo.seats
        · rw [grab_end ha hs] at hgr
          have hF : findD K = some (t ++ [oj]) := hgr.symm
          have hul : (t ++ [oj]).length ≤ 1000 := by rw [List.length_append, List.length_singleton]; omega
          have h00 : (0 : Int) = 0 := rfl
          generalize t ++ [oj] = u at hF hul ho15 hC7 hR7 hs hcp
          have hd0 := hfd u hF
          have hul2 := (hsub u hF)
          repeat (first|apply cA|apply cB|apply cD|apply cE|apply cF|apply cG|apply cH|apply cJ|apply cK|apply cM|apply cQ|apply cU|refine cV rfl ?_|refine cX rfl ?_|apply cY|refine cZ rfl rfl rfl rfl (by first|((first|apply qmf|apply qep|apply qmv|apply qas|apply qlc|apply qla|apply qfa|apply qnc|apply qix|apply qls|apply qei|apply qni|apply qad|apply qln|apply qxt|apply qnt|apply qep|apply qfr|apply qsn)<;>(first|exact rfl|assumption|exact Ar.mk (by omega)|exact dct (by first|assumption|omega)|exact dcf (by first|assumption|omega)|exact List.not_mem_nil|apply dc_length|apply ec_length|apply dl_length|exact nm1 (by omega)|fail))|fail) ?_)
          refine dD rfl (by exact rho_of rfl) rfl ?_
          repeat (first|apply cA|apply cB|apply cD|apply cE|apply cF|apply cG|apply cH|apply cJ|apply cK|apply cM|apply cQ|apply cU|refine cV rfl ?_|refine cX rfl ?_|apply cY|refine cZ rfl rfl rfl rfl (by first|((first|apply qmf|apply qep|apply qmv|apply qas|apply qlc|apply qla|apply qfa|apply qnc|apply qix|apply qls|apply qei|apply qni|apply qad|apply qln|apply qxt|apply qnt|apply qep|apply qfr|apply qsn)<;>(first|exact rfl|assumption|exact Ar.mk (by omega)|exact dct (by first|assumption|omega)|exact dcf (by first|assumption|omega)|exact List.not_mem_nil|apply dc_length|apply ec_length|apply dl_length|exact nm1 (by omega)|fail))|fail) ?_)
          refine dE rfl (by exact rho_of rfl) rfl ?_
          have hS15 : Sl ec 21 w15 (some ⟨g, 0, none⟩) u := by
            obtain ⟨_, _, e, _, h⟩ := Sl.own ec_length ho15 rfl
            cases e
            exact h
          repeat (first|apply cA|apply cB|apply cD|apply cE|apply cF|apply cG|apply cH|apply cJ|apply cK|apply cM|apply cQ|apply cU|refine cV rfl ?_|refine cX rfl ?_|apply cY|refine cZ rfl rfl rfl rfl (by first|((first|apply qmf|apply qep|apply qmv|apply qas|apply qlc|apply qla|apply qfa|apply qnc|apply qix|apply qls|apply qei|apply qni|apply qad|apply qln|apply qxt|apply qnt|apply qep|apply qfr|apply qsn)<;>(first|exact rfl|assumption|exact Ar.mk (by omega)|exact dct (by first|assumption|omega)|exact dcf (by first|assumption|omega)|exact List.not_mem_nil|apply dc_length|apply ec_length|apply dl_length|exact nm1 (by omega)|fail))|fail) ?_)
          refine SG.call rfl rfl rfl (vs := [.slice (some ⟨g, 0, none⟩) u.length cap]) (by repeat' (first | exact True.intro | exact rho_of rfl | refine And.intro ?_ ?_)) ((of2_spec hS15 (by omega) hcp).mono (fun e w16 hh => ?_))
          obtain ⟨vd, he, ⟨sd, rfl, hoD⟩, hk16⟩ := hh
          rw [hd0] at he
          refine ⟨_, he, ?_⟩
          generalize hDe : (dealOf u).1 = D at hoD
          obtain ⟨ad, cd, rfl, hcd, hSd⟩ := Sl.own dc_length hoD rfl
          repeat (first|apply cA|apply cB|apply cD|apply cE|apply cF|apply cG|apply cH|apply cJ|apply cK|apply cM|apply cQ|apply cU|refine cV rfl ?_|refine cX rfl ?_|apply cY|refine cZ rfl rfl rfl rfl (by first|((first|apply qmf|apply qep|apply qmv|apply qas|apply qlc|apply qla|apply qfa|apply qnc|apply qix|apply qls|apply qei|apply qni|apply qad|apply qln|apply qxt|apply qnt|apply qep|apply qfr|apply qsn)<;>(first|exact rfl|assumption|exact Ar.mk (by omega)|exact dct (by first|assumption|omega)|exact dcf (by first|assumption|omega)|exact List.not_mem_nil|apply dc_length|apply ec_length|apply dl_length|exact nm1 (by omega)|fail))|fail) ?_)
          refine SG.alloc rfl rfl rfl (fun b13 w17 hk17 hb13 hB13 => ?_)
          refine SG.setAll (l := dl D.rules (.slice ad D.who.length cd) D.stake D.window) rfl rfl (by exact rho_of rfl) (by exact rho_of rfl) hB13 (dl_length _ _ _ _) rfl (dl_one _ _ _ _ _ _) (fun w18 hk18 hB13 => ?_)
          have hB13 : Blk w18 b13 (.cells (dl D.rules (.slice ad D.who.length cd) D.stake D.window).toArray 53) := hB13
          have k618 : Kp [] w16 w18 := hk17.trans_new hk18 (new1 (by omega))
          have k518 := hk16.trans k618
          have hkw : Kp [] w w18 := (k3.trans_new k15 (new1 (by omega))).trans k518
          have hL18 := hL.kp0 hkw
          have ho18 := own_kp0 ho15 k518
          have hR18 := hR7.kp0 k518
          have hB4 := (hB4.kp0 k8)
          have s16 := hk16.size
          have s618 := k618.size
          repeat (first|apply cA|apply cB|apply cD|apply cE|apply cF|apply cG|apply cH|apply cJ|apply cK|apply cM|apply cQ|apply cU|refine cV rfl ?_|refine cX rfl ?_|apply cY|refine cZ rfl rfl rfl rfl (by first|((first|apply qmf|apply qep|apply qmv|apply qas|apply qlc|apply qla|apply qfa|apply qnc|apply qix|apply qls|apply qei|apply qni|apply qad|apply qln|apply qxt|apply qnt|apply qep|apply qfr|apply qsn)<;>(first|exact rfl|assumption|exact Ar.mk (by omega)|exact dct (by first|assumption|omega)|exact dcf (by first|assumption|omega)|exact List.not_mem_nil|apply dc_length|apply ec_length|apply dl_length|exact nm1 (by omega)|fail))|fail) ?_)
          refine dE rfl (by exact rho_of rfl) rfl ?_
          repeat (first|apply cA|apply cB|apply cD|apply cE|apply cF|apply cG|apply cH|apply cJ|apply cK|apply cM|apply cQ|apply cU|refine cV rfl ?_|refine cX rfl ?_|apply cY|refine cZ rfl rfl rfl rfl (by first|((first|apply qmf|apply qep|apply qmv|apply qas|apply qlc|apply qla|apply qfa|apply qnc|apply qix|apply qls|apply qei|apply qni|apply qad|apply qln|apply qxt|apply qnt|apply qep|apply qfr|apply qsn)<;>(first|exact rfl|assumption|exact Ar.mk (by omega)|exact dct (by first|assumption|omega)|exact dcf (by first|assumption|omega)|exact List.not_mem_nil|apply dc_length|apply ec_length|apply dl_length|exact nm1 (by omega)|fail))|fail) ?_)
          refine cZ rfl rfl rfl rfl (qmf (vs := [.pointer (some ⟨b7, 0, none⟩)]) rfl) ?_
          have hn7 : b7 ∉ bt :: ownB v := hL.new (by omega)
          have hn13 : b13 ∉ bt :: ownB v := hL.new (by omega)
          have hn4 : b4 ∉ bt :: ownB v := hL.new (by omega)
          have hng : ∀ z ∈ bt :: ownB v, z ≠ g := fun z hz e => by
            subst e
            have := own_nb ho15 bt (by have := hL.blk.lt; omega)
            exact hL.new (b := z) (by have := own_ge ho15; omega) hz
          repeat (first|apply cA|apply cB|apply cD|apply cE|apply cF|apply cG|apply cH|apply cJ|apply cK|apply cM|apply cQ|apply cU|refine cV rfl ?_|refine cX rfl ?_|apply cY|refine cZ rfl rfl rfl rfl (by first|((first|apply qmf|apply qep|apply qmv|apply qas|apply qlc|apply qla|apply qfa|apply qnc|apply qix|apply qls|apply qei|apply qni|apply qad|apply qln|apply qxt|apply qnt|apply qep|apply qfr|apply qsn)<;>(first|exact rfl|assumption|exact Ar.mk (by omega)|exact dct (by first|assumption|omega)|exact dcf (by first|assumption|omega)|exact List.not_mem_nil|apply dc_length|apply ec_length|apply dl_length|exact nm1 (by omega)|fail))|fail) ?_)
          refine SG.call rfl rfl rfl (vs := [.pointer (some ⟨bt, 0, none⟩), fnv 31 [.pointer (some ⟨b7, 0, none⟩)]]) (by repeat' (first | exact True.intro | exact rho_of rfl | refine And.intro ?_ ?_)) ((ldrop_spec (p := fun x => decide (x ∈ u)) hL18 (by omega) (fun x hx W hk => match1_spec (hR18.kp hk (fun hm => hn7 (List.mem_cons_of_mem _ hm))) ((hS15.kp0 k518).kp hk (fun b off e hm => by cases e; exact hng _ (List.mem_cons_of_mem _ hm) rfl)) (by omega) x (fun y hy => (hKok y (hul2.subset hy)).fit) (hok x hx).fit)).mono (fun e w19 hh => ?_))
          obtain ⟨he, hk19, v', hL', hv'⟩ := hh
          refine ⟨_, he, ?_⟩
          have hS19 : w19.ownsRow w6.heap.size 41 21 (.slice (some ⟨g, 0, none⟩) u.length cap) u.length (flt ec u) := own_kp ho18 hk19 (fun b hb hm => by cases hb; exact hng _ hm rfl)
          have hC19 := hR18.kp hk19 hn7
          have hD19 : Row w19 b13 0 (dl D.rules (.slice ad D.who.length cd) D.stake D.window) := (Row.all hB13 rfl).kp hk19 hn13
          have hE18 := (hE4.kp k15 (nm1 (by omega))).kp0 k518
          have hE19 := hE18.kp hk19 hn4
          have hoD19 : w19.ownsRow w.heap.size 39 8 (.slice ad D.who.length cd) D.who.length (flt dc D.who) := own_kp (own_kp0 (own_mono hoD (show w.heap.size ≤ w15.heap.size by omega)) k618) hk19 (fun b hb => hL.new (own_geB (own_mono hoD (show w.heap.size ≤ w15.heap.size by omega)) b hb))
          clear hR18 hB13 hE18 hS15 hL18 ho18 hR7 hB4 hB10 rs hgr
          repeat (first|apply cA|apply cB|apply cD|apply cE|apply cF|apply cG|apply cH|apply cJ|apply cK|apply cM|apply cQ|apply cU|refine cV rfl ?_|refine cX rfl ?_|apply cY|refine cZ rfl rfl rfl rfl (by first|((first|apply qmf|apply qep|apply qmv|apply qas|apply qlc|apply qla|apply qfa|apply qnc|apply qix|apply qls|apply qei|apply qni|apply qad|apply qln|apply qxt|apply qnt|apply qep|apply qfr|apply qsn)<;>(first|exact rfl|assumption|exact Ar.mk (by omega)|exact dct (by first|assumption|omega)|exact dcf (by first|assumption|omega)|exact List.not_mem_nil|apply dc_length|apply ec_length|apply dl_length|exact nm1 (by omega)|fail))|fail) ?_)
          refine CG.tailg mixed 3 [0, 1, 2] [2] [b4] (fun w' => Blk w' b4 (.cells (dl zd (.slice none 0 0) 0 0).toArray 53)) (by kernel_rfl) hE19 (fun w w' hk h => h.kp0 hk) ?_
          repeat (refine dB rfl rfl rfl (by first|((first|apply qmf|apply qep|apply qmv|apply qas|apply qlc|apply qla|apply qfa|apply qnc|apply qix|apply qls|apply qei|apply qni|apply qad|apply qln|apply qxt|apply qnt|apply qep|apply qfr|apply qsn)<;>(first|exact rfl|assumption|exact Ar.mk (by omega)|exact dct (by first|assumption|omega)|exact dcf (by first|assumption|omega)|exact List.not_mem_nil|apply dc_length|apply ec_length|apply dl_length|exact nm1 (by omega)|fail))|fail) ?_)
          refine Der.storeR (fun w' => Blk w' b4 (.cells (spl (dl zd (.slice none 0 0) 0 0) 0 (dl D.rules (.slice ad D.who.length cd) D.stake D.window)).toArray 53)) rfl rfl rfl rfl (by exact rho_of rfl) (by exact rho_of rfl) (fun _ _ _ h => h) (fun w w' hk h => h.kp0 hk) (fun w h => ?_) ?_
          · have hc : (Value.agg (dl D.rules (.slice ad D.who.length cd) D.stake D.window).toArray).cells.toList = dl D.rules (.slice ad D.who.length cd) D.stake D.window := by simp [Value.cells]
            have hrun := run_storeAt (P := Tryz.prog) (f := ty.i53) (off := 0) (v := .agg (dl D.rules (.slice ad D.who.length cd) D.stake D.window).toArray) h (by rw [hc]; exact dl_length _ _ _ _) (by rw [hc, dl_length, List.size_toArray, dl_length]; omega) (by rw [hc]; exact dl_one _ _ _ _ _ _)
            rw [hc] at hrun
            exact ⟨_, hrun, h.set _, Kp.set w h rfl rfl⟩
          refine Der.tl (fun w20 hk20 _ hC20 => ?_)
          rw [spl_all (by rw [dl_length, dl_length])] at hC20
          have hr : Row w20 b4 0 (dl D.rules (.slice ad D.who.length cd) D.stake D.window) := Row.all hC20 rfl
          repeat (first|apply cA|apply cB|apply cD|apply cE|apply cF|apply cG|apply cH|apply cJ|apply cK|apply cM|apply cQ|apply cU|refine cV rfl ?_|refine cX rfl ?_|apply cY|refine cZ rfl rfl rfl rfl (by first|((first|apply qmf|apply qep|apply qmv|apply qas|apply qlc|apply qla|apply qfa|apply qnc|apply qix|apply qls|apply qei|apply qni|apply qad|apply qln|apply qxt|apply qnt|apply qep|apply qfr|apply qsn)<;>(first|exact rfl|assumption|exact Ar.mk (by omega)|exact dct (by first|assumption|omega)|exact dcf (by first|assumption|omega)|exact List.not_mem_nil|apply dc_length|apply ec_length|apply dl_length|exact nm1 (by omega)|fail))|fail) ?_)
          refine ret3 (Or.inl rfl) Tryz.results12 (ResV.agg rfl rfl hr (dl_length _ _ _ _)) (by first | exact ResV.tmp rfl | exact ResV.agg rfl rfl (by assumption) (by first | exact dc_length _ | exact nc_length _ | exact rc_length _ _ _ | exact ec_length _ | exact dl_length _ _ _ _ | rfl) | exact ResV.cell rfl rfl (by assumption)) (by first | exact ResV.tmp rfl | exact ResV.agg rfl rfl (by assumption) (by first | exact dc_length _ | exact nc_length _ | exact rc_length _ _ _ | exact ec_length _ | exact dl_length _ _ _ _ | rfl) | exact ResV.cell rfl rfl (by assumption)) ?_
          exact Or.inr ⟨u, _, _, v', hF, rfl, by rw [hDe]; exact ⟨_, rfl, own_kp hoD19 hk20 (own_neb hoD19 (by decide) hE19)⟩, own_kp (own_mono hS19 (by omega)) hk20 (own_neb hS19 (by decide) hE19), (hkw.any.trans hk19).trans_new hk20 (new1 (by omega)), ⟨hL'.blk.kp hk20 (nm1 (by have := hL.blk.lt; omega)), own_kp hL'.own hk20 (own_neb hL'.own (by decide) hE19)⟩, hv'⟩
        · rw [grab_on ha hs] at hgr
          repeat (first|apply cA|apply cB|apply cD|apply cE|apply cF|apply cG|apply cH|apply cJ|apply cK|apply cM|apply cQ|apply cU|refine cV rfl ?_|refine cX rfl ?_|apply cY|refine cZ rfl rfl rfl rfl (by first|((first|apply qmf|apply qep|apply qmv|apply qas|apply qlc|apply qla|apply qfa|apply qnc|apply qix|apply qls|apply qei|apply qni|apply qad|apply qln|apply qxt|apply qnt|apply qep|apply qfr|apply qsn)<;>(first|exact rfl|assumption|exact Ar.mk (by omega)|exact dct (by first|assumption|omega)|exact dcf (by first|assumption|omega)|exact List.not_mem_nil|apply dc_length|apply ec_length|apply dl_length|exact nm1 (by omega)|fail))|fail) ?_)
          refine dE rfl (by exact rho_of rfl) rfl ?_
          repeat (first|apply cA|apply cB|apply cD|apply cE|apply cF|apply cG|apply cH|apply cJ|apply cK|apply cM|apply cQ|apply cU|refine cV rfl ?_|refine cX rfl ?_|apply cY|refine cZ rfl rfl rfl rfl (by first|((first|apply qmf|apply qep|apply qmv|apply qas|apply qlc|apply qla|apply qfa|apply qnc|apply qix|apply qls|apply qei|apply qni|apply qad|apply qln|apply qxt|apply qnt|apply qep|apply qfr|apply qsn)<;>(first|exact rfl|assumption|exact Ar.mk (by omega)|exact dct (by first|assumption|omega)|exact dcf (by first|assumption|omega)|exact List.not_mem_nil|apply dc_length|apply ec_length|apply dl_length|exact nm1 (by omega)|fail))|fail) ?_)
          refine NG.round (.slice (some ⟨g, 0, none⟩) (t ++ [oj]).length cap, t ++ [oj], j + 1) (by (repeat' (first | exact True.intro | exact rfl | refine And.intro ?_ ?_))) ⟨by simp only; omega, by simp only [List.length_append, List.length_singleton]; omega, k15, by omega, hB10, hC7, ho15, hgr⟩ (by simp only; omega)
    · have g2 : ¬ (j : Int) < ((K.length - (i + 1) : Nat) : Int) := by omega
      rw [List.drop_of_length_le (by omega), grab_nil] at hgr
      repeat (first|apply cA|apply cB|apply cD|apply cE|apply cF|apply cG|apply cH|apply cJ|apply cK|apply cM|apply cQ|apply cU|refine cV rfl ?_|refine cX rfl ?_|apply cY|refine cZ rfl rfl rfl rfl (by first|((first|apply qmf|apply qep|apply qmv|apply qas|apply qlc|apply qla|apply qfa|apply qnc|apply qix|apply qls|apply qei|apply qni|apply qad|apply qln|apply qxt|apply qnt|apply qep|apply qfr|apply qsn)<;>(first|exact rfl|assumption|exact Ar.mk (by omega)|exact dct (by first|assumption|omega)|exact dcf (by first|assumption|omega)|exact List.not_mem_nil|apply dc_length|apply ec_length|apply dl_length|exact nm1 (by omega)|fail))|fail) ?_)
      refine dE rfl (by exact rho_of rfl) rfl ?_
      repeat (first|apply cA|apply cB|apply cD|apply cE|apply cF|apply cG|apply cH|apply cJ|apply cK|apply cM|apply cQ|apply cU|refine cV rfl ?_|refine cX rfl ?_|apply cY|refine cZ rfl rfl rfl rfl (by first|((first|apply qmf|apply qep|apply qmv|apply qas|apply qlc|apply qla|apply qfa|apply qnc|apply qix|apply qls|apply qei|apply qni|apply qad|apply qln|apply qxt|apply qnt|apply qep|apply qfr|apply qsn)<;>(first|exact rfl|assumption|exact Ar.mk (by omega)|exact dct (by first|assumption|omega)|exact dcf (by first|assumption|omega)|exact List.not_mem_nil|apply dc_length|apply ec_length|apply dl_length|exact nm1 (by omega)|fail))|fail) ?_)
      refine SG.store rfl rfl (by exact rho_of rfl) (by exact rho_of rfl) hB7 rfl (by show 0 + 1 ≤ 1; omega) rfl (fun w10 hk10 hC7 => ?_)
      have hC7 : Blk w10 b7 (.cells #[.slice none 0 0] 54) := hC7
      repeat (first|apply cA|apply cB|apply cD|apply cE|apply cF|apply cG|apply cH|apply cJ|apply cK|apply cM|apply cQ|apply cU|refine cV rfl ?_|refine cX rfl ?_|apply cY|refine cZ rfl rfl rfl rfl (by first|((first|apply qmf|apply qep|apply qmv|apply qas|apply qlc|apply qla|apply qfa|apply qnc|apply qix|apply qls|apply qei|apply qni|apply qad|apply qln|apply qxt|apply qnt|apply qep|apply qfr|apply qsn)<;>(first|exact rfl|assumption|exact Ar.mk (by omega)|exact dct (by first|assumption|omega)|exact dcf (by first|assumption|omega)|exact List.not_mem_nil|apply dc_length|apply ec_length|apply dl_length|exact nm1 (by omega)|fail))|fail) ?_)
      refine NG.round (i + 1) (by (repeat' (first | exact True.intro | exact rfl | refine And.intro ?_ ?_))) ⟨by omega, hk9.trans hk10, hC7, hgr⟩ (by omega)
  · have g1 : ¬ (i : Int) < (K.length : Int) := by omega
    rw [List.drop_of_length_le (by omega)] at hfi
    have hF : findD K = none := hfi.symm
    have hR7 : Row w4 b7 0 [.slice none 0 0] := Row.all hB7 rfl
    repeat (first|apply cA|apply cB|apply cD|apply cE|apply cF|apply cG|apply cH|apply cJ|apply cK|apply cM|apply cQ|apply cU|refine cV rfl ?_|refine cX rfl ?_|apply cY|refine cZ rfl rfl rfl rfl (by first|((first|apply qmf|apply qep|apply qmv|apply qas|apply qlc|apply qla|apply qfa|apply qnc|apply qix|apply qls|apply qei|apply qni|apply qad|apply qln|apply qxt|apply qnt|apply qep|apply qfr|apply qsn)<;>(first|exact rfl|assumption|exact Ar.mk (by omega)|exact dct (by first|assumption|omega)|exact dcf (by first|assumption|omega)|exact List.not_mem_nil|apply dc_length|apply ec_length|apply dl_length|exact nm1 (by omega)|fail))|fail) ?_)
    refine dE rfl (by exact rho_of rfl) rfl ?_
    repeat (first|apply cA|apply cB|apply cD|apply cE|apply cF|apply cG|apply cH|apply cJ|apply cK|apply cM|apply cQ|apply cU|refine cV rfl ?_|refine cX rfl ?_|apply cY|refine cZ rfl rfl rfl rfl (by first|((first|apply qmf|apply qep|apply qmv|apply qas|apply qlc|apply qla|apply qfa|apply qnc|apply qix|apply qls|apply qei|apply qni|apply qad|apply qln|apply qxt|apply qnt|apply qep|apply qfr|apply qsn)<;>(first|exact rfl|assumption|exact Ar.mk (by omega)|exact dct (by first|assumption|omega)|exact dcf (by first|assumption|omega)|exact List.not_mem_nil|apply dc_length|apply ec_length|apply dl_length|exact nm1 (by omega)|fail))|fail) ?_)
    refine dD rfl (by exact rho_of rfl) rfl ?_
    repeat (first|apply cA|apply cB|apply cD|apply cE|apply cF|apply cG|apply cH|apply cJ|apply cK|apply cM|apply cQ|apply cU|refine cV rfl ?_|refine cX rfl ?_|apply cY|refine cZ rfl rfl rfl rfl (by first|((first|apply qmf|apply qep|apply qmv|apply qas|apply qlc|apply qla|apply qfa|apply qnc|apply qix|apply qls|apply qei|apply qni|apply qad|apply qln|apply qxt|apply qnt|apply qep|apply qfr|apply qsn)<;>(first|exact rfl|assumption|exact Ar.mk (by omega)|exact dct (by first|assumption|omega)|exact dcf (by first|assumption|omega)|exact List.not_mem_nil|apply dc_length|apply ec_length|apply dl_length|exact nm1 (by omega)|fail))|fail) ?_)
    refine cZ rfl rfl rfl rfl (vals_build rfl bdz) ?_
    refine SG.setAll (l := dl zd (.slice none 0 0) 0 0) rfl rfl (by exact rho_of rfl) (by exact rho_of rfl) hB4 (dl_length _ _ _ _) (dl_length _ _ _ _) (dl_one _ _ _ _ _ _) (fun w5 hk5 hB5 => ?_)
    have hr : Row w5 b4 0 (dl zd (.slice none 0 0) 0 0) := Row.all hB5 rfl
    repeat (first|apply cA|apply cB|apply cD|apply cE|apply cF|apply cG|apply cH|apply cJ|apply cK|apply cM|apply cQ|apply cU|refine cV rfl ?_|refine cX rfl ?_|apply cY|refine cZ rfl rfl rfl rfl (by first|((first|apply qmf|apply qep|apply qmv|apply qas|apply qlc|apply qla|apply qfa|apply qnc|apply qix|apply qls|apply qei|apply qni|apply qad|apply qln|apply qxt|apply qnt|apply qep|apply qfr|apply qsn)<;>(first|exact rfl|assumption|exact Ar.mk (by omega)|exact dct (by first|assumption|omega)|exact dcf (by first|assumption|omega)|exact List.not_mem_nil|apply dc_length|apply ec_length|apply dl_length|exact nm1 (by omega)|fail))|fail) ?_)
    refine ret3 (Or.inl rfl) Tryz.results12 (ResV.agg rfl rfl hr (dl_length _ _ _ _)) (by first | exact ResV.tmp rfl | exact ResV.agg rfl rfl (by assumption) (by first | exact dc_length _ | exact nc_length _ | exact rc_length _ _ _ | exact ec_length _ | exact dl_length _ _ _ _ | rfl) | exact ResV.cell rfl rfl (by assumption)) (by first | exact ResV.tmp rfl | exact ResV.agg rfl rfl (by assumption) (by first | exact dc_length _ | exact nc_length _ | exact rc_length _ _ _ | exact ec_length _ | exact dl_length _ _ _ _ | rfl) | exact ResV.cell rfl rfl (by assumption)) ?_
    exact Or.inl ⟨hF, rfl, k4.trans_new hk5 (new1 (by omega))⟩
end Go.Proofs.YtnoipmimddoioaaGreat
namespace Go.Proofs.YtnoipmimddoioaaGreat
open Go.Proofs
set_option linter.unusedVariables false
theorem del_iff (a b : Del) : (a.rules = b.rules ∧ a.who = b.who ∧ a.stake = b.stake ∧ a.window = b.window) ↔ a = b := by
  obtain ⟨a1, a2, a3, a4⟩ := a
  obtain ⟨b1, b2, b3, b4⟩ := b
  simp
instance : DecidableEq Del := fun a b => decidable_of_iff _ (del_iff a b)
theorem take_eq_step {α : Type} {l m : List α} {i : Nat} (h : l.take i = m.take i) (h1 : i < l.length) (h2 : i < m.length) (he : l[i] = m[i]) : l.take (i + 1) = m.take (i + 1) := by
  rw [List.take_succ_eq_append_getElem h1, List.take_succ_eq_append_getElem h2, h, he]
theorem ne_of_get {α : Type} {l m : List α} {i : Nat} (h1 : i < l.length) (h2 : i < m.length) (he : l[i] ≠ m[i]) : l ≠ m := by
  intro e
  subst e
  exact he rfl
attribute [local irreducible] CG NG SG Vals Der Row Blk MapIs IterAt addI xorI orI andI shlI shrI mulI
set_option maxHeartbeats 16000000 in
theorem samedeal_spec {w : World} (d e : Del) {a a' : Option Addr} {c c' : Nat} (hS : Sl dc 8 w a d.who) (hT : Sl dc 8 w a' e.who) (hl : d.who.length ≤ 1000000000) : Ret Tryz.prog 13 #[dealV d.rules (.slice a d.who.length c) d.stake d.window, dealV e.rules (.slice a' e.who.length c') e.stake e.window] w (.bool (decide (d = e))) := by
  refine enter2 Tryz.func13 rfl Tryz.ntmps13 rfl ?_
  repeat (first|apply cA|apply cB|apply cD|apply cE|apply cF|apply cG|apply cH|apply cJ|apply cM|apply cN|apply cU|refine cV rfl ?_|apply cY|refine cZ rfl rfl rfl rfl (by first|((first|apply qmv|apply qas|apply qlc|apply qla|apply qfa|apply qix|apply qpk|apply qls|apply qei|apply qni|apply qed|apply qnd|apply qad|apply qln)<;>(first|exact rfl|assumption|exact Ar.mk (by omega)|exact dct (by first|assumption|omega)|exact dcf (by first|assumption|omega)|exact List.not_mem_nil|apply dc_length|fail))|fail) ?_)
  refine SG.box rfl rfl rfl (by exact rho_of rfl) (fun b1 w1 hk1 hb1 hB1 => ?_)
  have hB1 : Blk w1 b1 (.cells (dl d.rules (.slice a d.who.length c) d.stake d.window).toArray 48) := hB1
  refine SG.box rfl rfl rfl (by exact rho_of rfl) (fun b2 w2 hk2 hb2 hB2 => ?_)
  have hB2 : Blk w2 b2 (.cells (dl e.rules (.slice a' e.who.length c') e.stake e.window).toArray 48) := hB2
  have k2 := hk1.trans hk2
  have hB1 := hB1.kp0 hk2
  obtain ⟨a0, a1, a2, a3, -⟩ := dl_rows hB1
  obtain ⟨r0, r1, r2, r3, -⟩ := dl_rows hB2
  have hi := del_iff d e
  by_cases h1 : d.rules = e.rules
  rotate_left
  · have h0 : d ≠ e := fun q => h1 (hi.2 q).1
    repeat (first | first|apply cA|apply cB|apply cD|apply cE|apply cF|apply cG|apply cH|apply cJ|apply cM|apply cN|apply cU|refine cV rfl ?_|apply cY|refine cZ rfl rfl rfl rfl (by first|((first|apply qmv|apply qas|apply qlc|apply qla|apply qfa|apply qix|apply qpk|apply qls|apply qei|apply qni|apply qed|apply qnd|apply qad|apply qln)<;>(first|exact rfl|assumption|exact Ar.mk (by omega)|exact dct (by first|assumption|omega)|exact dcf (by first|assumption|omega)|exact List.not_mem_nil|apply dc_length|fail))|fail) ?_ | refine dA rfl rfl ?_)
    refine dD rfl (by exact rho_of rfl) rfl ?_
    repeat (first|apply cA|apply cB|apply cD|apply cE|apply cF|apply cG|apply cH|apply cJ|apply cM|apply cN|apply cU|refine cV rfl ?_|apply cY|refine cZ rfl rfl rfl rfl (by first|((first|apply qmv|apply qas|apply qlc|apply qla|apply qfa|apply qix|apply qpk|apply qls|apply qei|apply qni|apply qed|apply qnd|apply qad|apply qln)<;>(first|exact rfl|assumption|exact Ar.mk (by omega)|exact dct (by first|assumption|omega)|exact dcf (by first|assumption|omega)|exact List.not_mem_nil|apply dc_length|fail))|fail) ?_)
    refine ret1 (Or.inl rfl) Tryz.results13 (by first | exact ResV.tmp rfl | exact ResV.agg rfl rfl (by assumption) (by first | exact dc_length _ | exact nc_length _ | exact rc_length _ _ _ | exact ec_length _ | exact dl_length _ _ _ _ | rfl) | exact ResV.cell rfl rfl (by assumption)) ?_
    rw [decide_eq_false h0]
    exact ⟨rfl, k2⟩
  by_cases h2 : d.stake = e.stake
  rotate_left
  · have h0 : d ≠ e := fun q => h2 (hi.2 q).2.2.1
    repeat (first | first|apply cA|apply cB|apply cD|apply cE|apply cF|apply cG|apply cH|apply cJ|apply cM|apply cN|apply cU|refine cV rfl ?_|apply cY|refine cZ rfl rfl rfl rfl (by first|((first|apply qmv|apply qas|apply qlc|apply qla|apply qfa|apply qix|apply qpk|apply qls|apply qei|apply qni|apply qed|apply qnd|apply qad|apply qln)<;>(first|exact rfl|assumption|exact Ar.mk (by omega)|exact dct (by first|assumption|omega)|exact dcf (by first|assumption|omega)|exact List.not_mem_nil|apply dc_length|fail))|fail) ?_ | refine dA rfl rfl ?_)
    refine dD rfl (by exact rho_of rfl) rfl ?_
    repeat (first|apply cA|apply cB|apply cD|apply cE|apply cF|apply cG|apply cH|apply cJ|apply cM|apply cN|apply cU|refine cV rfl ?_|apply cY|refine cZ rfl rfl rfl rfl (by first|((first|apply qmv|apply qas|apply qlc|apply qla|apply qfa|apply qix|apply qpk|apply qls|apply qei|apply qni|apply qed|apply qnd|apply qad|apply qln)<;>(first|exact rfl|assumption|exact Ar.mk (by omega)|exact dct (by first|assumption|omega)|exact dcf (by first|assumption|omega)|exact List.not_mem_nil|apply dc_length|fail))|fail) ?_)
    refine ret1 (Or.inl rfl) Tryz.results13 (by first | exact ResV.tmp rfl | exact ResV.agg rfl rfl (by assumption) (by first | exact dc_length _ | exact nc_length _ | exact rc_length _ _ _ | exact ec_length _ | exact dl_length _ _ _ _ | rfl) | exact ResV.cell rfl rfl (by assumption)) ?_
    rw [decide_eq_false h0]
    exact ⟨rfl, k2⟩
  by_cases h3 : d.window = e.window
  rotate_left
  · have h0 : d ≠ e := fun q => h3 (hi.2 q).2.2.2
    repeat (first | first|apply cA|apply cB|apply cD|apply cE|apply cF|apply cG|apply cH|apply cJ|apply cM|apply cN|apply cU|refine cV rfl ?_|apply cY|refine cZ rfl rfl rfl rfl (by first|((first|apply qmv|apply qas|apply qlc|apply qla|apply qfa|apply qix|apply qpk|apply qls|apply qei|apply qni|apply qed|apply qnd|apply qad|apply qln)<;>(first|exact rfl|assumption|exact Ar.mk (by omega)|exact dct (by first|assumption|omega)|exact dcf (by first|assumption|omega)|exact List.not_mem_nil|apply dc_length|fail))|fail) ?_ | refine dA rfl rfl ?_)
    refine dD rfl (by exact rho_of rfl) rfl ?_
    repeat (first|apply cA|apply cB|apply cD|apply cE|apply cF|apply cG|apply cH|apply cJ|apply cM|apply cN|apply cU|refine cV rfl ?_|apply cY|refine cZ rfl rfl rfl rfl (by first|((first|apply qmv|apply qas|apply qlc|apply qla|apply qfa|apply qix|apply qpk|apply qls|apply qei|apply qni|apply qed|apply qnd|apply qad|apply qln)<;>(first|exact rfl|assumption|exact Ar.mk (by omega)|exact dct (by first|assumption|omega)|exact dcf (by first|assumption|omega)|exact List.not_mem_nil|apply dc_length|fail))|fail) ?_)
    refine ret1 (Or.inl rfl) Tryz.results13 (by first | exact ResV.tmp rfl | exact ResV.agg rfl rfl (by assumption) (by first | exact dc_length _ | exact nc_length _ | exact rc_length _ _ _ | exact ec_length _ | exact dl_length _ _ _ _ | rfl) | exact ResV.cell rfl rfl (by assumption)) ?_
    rw [decide_eq_false h0]
    exact ⟨rfl, k2⟩
  by_cases h4 : d.who.length = e.who.length
  rotate_left
  · have h0 : d ≠ e := fun q => h4 (by rw [q])
    have g4 : ¬ (d.who.length : Int) = (e.who.length : Int) := by omega
    repeat (first | first|apply cA|apply cB|apply cD|apply cE|apply cF|apply cG|apply cH|apply cJ|apply cM|apply cN|apply cU|refine cV rfl ?_|apply cY|refine cZ rfl rfl rfl rfl (by first|((first|apply qmv|apply qas|apply qlc|apply qla|apply qfa|apply qix|apply qpk|apply qls|apply qei|apply qni|apply qed|apply qnd|apply qad|apply qln)<;>(first|exact rfl|assumption|exact Ar.mk (by omega)|exact dct (by first|assumption|omega)|exact dcf (by first|assumption|omega)|exact List.not_mem_nil|apply dc_length|fail))|fail) ?_ | refine dA rfl rfl ?_)
    refine dD rfl (by exact rho_of rfl) rfl ?_
    repeat (first|apply cA|apply cB|apply cD|apply cE|apply cF|apply cG|apply cH|apply cJ|apply cM|apply cN|apply cU|refine cV rfl ?_|apply cY|refine cZ rfl rfl rfl rfl (by first|((first|apply qmv|apply qas|apply qlc|apply qla|apply qfa|apply qix|apply qpk|apply qls|apply qei|apply qni|apply qed|apply qnd|apply qad|apply qln)<;>(first|exact rfl|assumption|exact Ar.mk (by omega)|exact dct (by first|assumption|omega)|exact dcf (by first|assumption|omega)|exact List.not_mem_nil|apply dc_length|fail))|fail) ?_)
    refine ret1 (Or.inl rfl) Tryz.results13 (by first | exact ResV.tmp rfl | exact ResV.agg rfl rfl (by assumption) (by first | exact dc_length _ | exact nc_length _ | exact rc_length _ _ _ | exact ec_length _ | exact dl_length _ _ _ _ | rfl) | exact ResV.cell rfl rfl (by assumption)) ?_
    rw [decide_eq_false h0]
    exact ⟨rfl, k2⟩
  have g4 : (d.who.length : Int) = (e.who.length : Int) := by omega
  repeat (first | first|apply cA|apply cB|apply cD|apply cE|apply cF|apply cG|apply cH|apply cJ|apply cM|apply cN|apply cU|refine cV rfl ?_|apply cY|refine cZ rfl rfl rfl rfl (by first|((first|apply qmv|apply qas|apply qlc|apply qla|apply qfa|apply qix|apply qpk|apply qls|apply qei|apply qni|apply qed|apply qnd|apply qad|apply qln)<;>(first|exact rfl|assumption|exact Ar.mk (by omega)|exact dct (by first|assumption|omega)|exact dcf (by first|assumption|omega)|exact List.not_mem_nil|apply dc_length|fail))|fail) ?_ | refine dA rfl rfl ?_)
  refine dE rfl (by exact rho_of rfl) rfl ?_
  repeat (first|apply cA|apply cB|apply cD|apply cE|apply cF|apply cG|apply cH|apply cJ|apply cM|apply cN|apply cU|refine cV rfl ?_|apply cY|refine cZ rfl rfl rfl rfl (by first|((first|apply qmv|apply qas|apply qlc|apply qla|apply qfa|apply qix|apply qpk|apply qls|apply qei|apply qni|apply qed|apply qnd|apply qad|apply qln)<;>(first|exact rfl|assumption|exact Ar.mk (by omega)|exact dct (by first|assumption|omega)|exact dcf (by first|assumption|omega)|exact List.not_mem_nil|apply dc_length|fail))|fail) ?_)
  refine CG.loop (X := Nat) (fun i => [(2, .pointer (some ⟨b1, 0, none⟩)), (3, .pointer (some ⟨b2, 0, none⟩)), (5, .int .i64 (i : Int))]) (fun i w' => i ≤ d.who.length ∧ Kp [] w2 w' ∧ d.who.take i = e.who.take i) (fun i => d.who.length - i) 0 ⟨by omega, Kp.refl _ _, rfl⟩ (by (repeat' (first | exact True.intro | exact rfl | refine And.intro ?_ ?_))) ?_
  rintro i w3 ⟨hil, hk, ht⟩
  obtain ⟨-, a1, -, -, -⟩ := dl_rows (hB1.kp0 hk)
  obtain ⟨-, r1, -, -, -⟩ := dl_rows (hB2.kp0 hk)
  by_cases hlt : i < d.who.length
  · have g1 : (i : Int) < (d.who.length : Int) := by omega
    have hlt2 : i < e.who.length := by omega
    obtain ⟨b3, o3, rfl, hr3⟩ := (hS.kp0 (k2.trans hk)).at hlt
    obtain ⟨b4, o4, rfl, hr4⟩ := (hT.kp0 (k2.trans hk)).at hlt2
    repeat (first|apply cA|apply cB|apply cD|apply cE|apply cF|apply cG|apply cH|apply cJ|apply cM|apply cN|apply cU|refine cV rfl ?_|apply cY|refine cZ rfl rfl rfl rfl (by first|((first|apply qmv|apply qas|apply qlc|apply qla|apply qfa|apply qix|apply qpk|apply qls|apply qei|apply qni|apply qed|apply qnd|apply qad|apply qln)<;>(first|exact rfl|assumption|exact Ar.mk (by omega)|exact dct (by first|assumption|omega)|exact dcf (by first|assumption|omega)|exact List.not_mem_nil|apply dc_length|fail))|fail) ?_)
    refine dD rfl (by exact rho_of rfl) rfl ?_
    by_cases he : d.who[i] = e.who[i]
    · repeat (first|apply cA|apply cB|apply cD|apply cE|apply cF|apply cG|apply cH|apply cJ|apply cM|apply cN|apply cU|refine cV rfl ?_|apply cY|refine cZ rfl rfl rfl rfl (by first|((first|apply qmv|apply qas|apply qlc|apply qla|apply qfa|apply qix|apply qpk|apply qls|apply qei|apply qni|apply qed|apply qnd|apply qad|apply qln)<;>(first|exact rfl|assumption|exact Ar.mk (by omega)|exact dct (by first|assumption|omega)|exact dcf (by first|assumption|omega)|exact List.not_mem_nil|apply dc_length|fail))|fail) ?_)
      refine CG.draw0 mixed [0, 1, 2, 3, 4, 5, 6, 7, 8, 9, 10] [] (by kernel_rfl) ?_
      repeat (refine dB rfl rfl rfl (by first|((first|apply qmv|apply qas|apply qlc|apply qla|apply qfa|apply qix|apply qpk|apply qls|apply qei|apply qni|apply qed|apply qnd|apply qad|apply qln)<;>(first|exact rfl|assumption|exact Ar.mk (by omega)|exact dct (by first|assumption|omega)|exact dcf (by first|assumption|omega)|exact List.not_mem_nil|apply dc_length|fail))|fail) ?_)
      refine Der.fin (fun w4 hk4 _ _ => ?_)
      repeat (first|apply cA|apply cB|apply cD|apply cE|apply cF|apply cG|apply cH|apply cJ|apply cM|apply cN|apply cU|refine cV rfl ?_|apply cY|refine cZ rfl rfl rfl rfl (by first|((first|apply qmv|apply qas|apply qlc|apply qla|apply qfa|apply qix|apply qpk|apply qls|apply qei|apply qni|apply qed|apply qnd|apply qad|apply qln)<;>(first|exact rfl|assumption|exact Ar.mk (by omega)|exact dct (by first|assumption|omega)|exact dcf (by first|assumption|omega)|exact List.not_mem_nil|apply dc_length|fail))|fail) ?_)
      refine dE rfl (by exact rho_of rfl) rfl ?_
      repeat (first|apply cA|apply cB|apply cD|apply cE|apply cF|apply cG|apply cH|apply cJ|apply cM|apply cN|apply cU|refine cV rfl ?_|apply cY|refine cZ rfl rfl rfl rfl (by first|((first|apply qmv|apply qas|apply qlc|apply qla|apply qfa|apply qix|apply qpk|apply qls|apply qei|apply qni|apply qed|apply qnd|apply qad|apply qln)<;>(first|exact rfl|assumption|exact Ar.mk (by omega)|exact dct (by first|assumption|omega)|exact dcf (by first|assumption|omega)|exact List.not_mem_nil|apply dc_length|fail))|fail) ?_)
      refine NG.round (i + 1) (by (repeat' (first | exact True.intro | exact rfl | refine And.intro ?_ ?_))) ⟨by omega, hk.trans hk4, take_eq_step ht hlt hlt2 he⟩ (by omega)
    · have h0 : d ≠ e := fun q => ne_of_get hlt hlt2 he (hi.2 q).2.1
      repeat (first|apply cA|apply cB|apply cD|apply cE|apply cF|apply cG|apply cH|apply cJ|apply cM|apply cN|apply cU|refine cV rfl ?_|apply cY|refine cZ rfl rfl rfl rfl (by first|((first|apply qmv|apply qas|apply qlc|apply qla|apply qfa|apply qix|apply qpk|apply qls|apply qei|apply qni|apply qed|apply qnd|apply qad|apply qln)<;>(first|exact rfl|assumption|exact Ar.mk (by omega)|exact dct (by first|assumption|omega)|exact dcf (by first|assumption|omega)|exact List.not_mem_nil|apply dc_length|fail))|fail) ?_)
      refine CG.draw0 mixed [0, 1, 2, 3, 4, 5, 6, 7, 8, 9, 10] [] (by kernel_rfl) ?_
      repeat (refine dB rfl rfl rfl (by first|((first|apply qmv|apply qas|apply qlc|apply qla|apply qfa|apply qix|apply qpk|apply qls|apply qei|apply qni|apply qed|apply qnd|apply qad|apply qln)<;>(first|exact rfl|assumption|exact Ar.mk (by omega)|exact dct (by first|assumption|omega)|exact dcf (by first|assumption|omega)|exact List.not_mem_nil|apply dc_length|fail))|fail) ?_)
      refine Der.fin (fun w4 hk4 _ _ => ?_)
      repeat (first|apply cA|apply cB|apply cD|apply cE|apply cF|apply cG|apply cH|apply cJ|apply cM|apply cN|apply cU|refine cV rfl ?_|apply cY|refine cZ rfl rfl rfl rfl (by first|((first|apply qmv|apply qas|apply qlc|apply qla|apply qfa|apply qix|apply qpk|apply qls|apply qei|apply qni|apply qed|apply qnd|apply qad|apply qln)<;>(first|exact rfl|assumption|exact Ar.mk (by omega)|exact dct (by first|assumption|omega)|exact dcf (by first|assumption|omega)|exact List.not_mem_nil|apply dc_length|fail))|fail) ?_)
      refine dD rfl (by exact rho_of rfl) rfl ?_
      repeat (first|apply cA|apply cB|apply cD|apply cE|apply cF|apply cG|apply cH|apply cJ|apply cM|apply cN|apply cU|refine cV rfl ?_|apply cY|refine cZ rfl rfl rfl rfl (by first|((first|apply qmv|apply qas|apply qlc|apply qla|apply qfa|apply qix|apply qpk|apply qls|apply qei|apply qni|apply qed|apply qnd|apply qad|apply qln)<;>(first|exact rfl|assumption|exact Ar.mk (by omega)|exact dct (by first|assumption|omega)|exact dcf (by first|assumption|omega)|exact List.not_mem_nil|apply dc_length|fail))|fail) ?_)
      refine ret1 (Or.inl rfl) Tryz.results13 (by first | exact ResV.tmp rfl | exact ResV.agg rfl rfl (by assumption) (by first | exact dc_length _ | exact nc_length _ | exact rc_length _ _ _ | exact ec_length _ | exact dl_length _ _ _ _ | rfl) | exact ResV.cell rfl rfl (by assumption)) ?_
      rw [decide_eq_false h0]
      exact ⟨rfl, (k2.trans hk).trans hk4⟩
  · have g1 : ¬ (i : Int) < (d.who.length : Int) := by omega
    have heq : d.who = e.who := by
      have e1 : d.who.take i = d.who := List.take_of_length_le (by omega)
      have e2 : e.who.take i = e.who := List.take_of_length_le (by omega)
      rw [← e1, ← e2, ht]
    have h0 : d = e := hi.1 ⟨h1, heq, h2, h3⟩
    repeat (first|apply cA|apply cB|apply cD|apply cE|apply cF|apply cG|apply cH|apply cJ|apply cM|apply cN|apply cU|refine cV rfl ?_|apply cY|refine cZ rfl rfl rfl rfl (by first|((first|apply qmv|apply qas|apply qlc|apply qla|apply qfa|apply qix|apply qpk|apply qls|apply qei|apply qni|apply qed|apply qnd|apply qad|apply qln)<;>(first|exact rfl|assumption|exact Ar.mk (by omega)|exact dct (by first|assumption|omega)|exact dcf (by first|assumption|omega)|exact List.not_mem_nil|apply dc_length|fail))|fail) ?_)
    refine dE rfl (by exact rho_of rfl) rfl ?_
    repeat (first|apply cA|apply cB|apply cD|apply cE|apply cF|apply cG|apply cH|apply cJ|apply cM|apply cN|apply cU|refine cV rfl ?_|apply cY|refine cZ rfl rfl rfl rfl (by first|((first|apply qmv|apply qas|apply qlc|apply qla|apply qfa|apply qix|apply qpk|apply qls|apply qei|apply qni|apply qed|apply qnd|apply qad|apply qln)<;>(first|exact rfl|assumption|exact Ar.mk (by omega)|exact dct (by first|assumption|omega)|exact dcf (by first|assumption|omega)|exact List.not_mem_nil|apply dc_length|fail))|fail) ?_)
    refine ret1 (Or.inl rfl) Tryz.results13 (by first | exact ResV.tmp rfl | exact ResV.agg rfl rfl (by assumption) (by first | exact dc_length _ | exact nc_length _ | exact rc_length _ _ _ | exact ec_length _ | exact dl_length _ _ _ _ | rfl) | exact ResV.cell rfl rfl (by assumption)) ?_
    rw [decide_eq_true h0]
    exact ⟨rfl, k2.trans hk⟩
end Go.Proofs.YtnoipmimddoioaaGreat
namespace Go.Proofs.YtnoipmimddoioaaGreat
open Go.Proofs Go.Shelf Go.Sort
set_option linter.unusedVariables false
def exA : List Ofr := [oneO 1 5 9 10, oneO 2 7 20 30]
def exB : List Ofr := [oneO 1 5 6 10, oneO 2 7 20 30]
theorem exA_eq : dealOf exA = (goodDel (d1 7) exA, 0) := by
  have h1 : ((exA.length : Int) = 2) := rfl
  have h2 : exA.all (fun x => decide x.Ok) = true := by decide
  have h3 : decide (exA.Pairwise fitP) = true := by decide
  show (if (exA.length : Int) = 2 then (if exA.all (fun x => decide x.Ok) then (if decide (exA.Pairwise fitP) then (goodDel (d1 7) exA, 0) else (zDel, 11)) else (zDel, 2)) else (zDel, 3)) = (goodDel (d1 7) exA, (0 : Int))
  rw [if_pos h1, if_pos h2, if_pos h3]
theorem exB_eq : dealOf exB = (zDel, 11) := by
  have h1 : ((exB.length : Int) = 2) := rfl
  have h2 : exB.all (fun x => decide x.Ok) = true := by decide
  have h3 : ¬ (decide (exB.Pairwise fitP) = true) := by decide
  show (if (exB.length : Int) = 2 then (if exB.all (fun x => decide x.Ok) then (if decide (exB.Pairwise fitP) then (goodDel (d1 7) exB, 0) else (zDel, 11)) else (zDel, 2)) else (zDel, 3)) = (zDel, (11 : Int))
  rw [if_pos h1, if_pos h2, if_neg h3]
theorem exA_st : maxs (·.least) exA = 7 := by decide
theorem exA_wi : maxs (·.window) exA = 30 := by decide
def followsZ (d : Del) (l : List Ofr) : Int := if (dealOf l).2 = 0 then (if d = (dealOf l).1 then 0 else 11) else (dealOf l).2
attribute [local irreducible] CG NG SG Vals Der Row Blk MapIs IterAt addI xorI orI andI shlI shrI mulI twoI cmpD cmpW kW digO manyI mixD sortK maxs
theorem good_len (r : Dg) (l : List Ofr) : (goodDel r l).who.length = l.length := by
  show (sortK (kW (mixD l)) (l.map (·.who))).length = l.length
  rw [(sortK_perm _ _).length_eq, List.length_map]
theorem exA_who : (goodDel (d1 7) exA).who.length = 2 := good_len (d1 7) exA
set_option maxHeartbeats 16000000 in
theorem known_spec (w : World) : Ret Tryz.prog 5 #[] w (.bool true) := by
  refine enter0 Tryz.func5 rfl Tryz.ntmps5 ?_
  repeat (first|apply cA|apply cB|apply cD|apply cE|apply cF|apply cH|apply cM|refine cZ rfl rfl rfl rfl (by first|((first|apply qmv|apply qas|apply qlc|apply qla|apply qfa|apply qpk|apply qei|apply qni|apply qed|apply qln|apply qxt|apply qnt)<;>(first|exact rfl|assumption|exact dct (by first|assumption|omega)|exact dcf (by first|assumption|omega)|exact List.not_mem_nil|apply dc_length|apply ec_length|apply dl_length|fail))|fail) ?_)
  refine SG.ret rfl rfl rfl (vs := [bv 1, .int .i64 5, .int .i64 9, .int .i64 10]) (by repeat' (first | exact True.intro | exact rho_of rfl | refine And.intro ?_ ?_)) (one_spec 1 5 9 10 w) (fun w1 hk1 => ?_)
  refine SG.ret rfl rfl rfl (vs := [bv 2, .int .i64 7, .int .i64 20, .int .i64 30]) (by repeat' (first | exact True.intro | exact rho_of rfl | refine And.intro ?_ ?_)) (one_spec 2 7 20 30 w1) (fun w2 hk2 => ?_)
  refine SG.buildSlice rfl rfl rfl rfl (fun w => bso2' w 1 2 5 9 10 7 20 30) (fun b3 w3 hk3 hb3 hB3 => ?_)
  have hS3 : Sl ec 21 w3 (some ⟨b3, 0, none⟩) exA := flt_rowf ec_length hB3
  have hof := of2_spec (c := 2) hS3 (by decide) (by decide)
  rw [exA_eq] at hof
  refine SG.call rfl rfl rfl (vs := [.slice (some ⟨b3, 0, none⟩) 2 2]) (by repeat' (first | exact True.intro | exact rho_of rfl | refine And.intro ?_ ?_)) (hof.mono (fun e w4 hh => ?_))
  obtain ⟨v4, he, ⟨s4, rfl, ho4⟩, hk4⟩ := hh
  refine ⟨_, he, ?_⟩
  obtain ⟨a4, c4, rfl⟩ := own_sl ho4
  have k4 := ((hk1.trans hk2).trans hk3).trans hk4
  simp only at ho4
  repeat (first|apply cA|apply cB|apply cD|apply cE|apply cF|apply cH|apply cM|refine cZ rfl rfl rfl rfl (by first|((first|apply qmv|apply qas|apply qlc|apply qla|apply qfa|apply qpk|apply qei|apply qni|apply qed|apply qln|apply qxt|apply qnt)<;>(first|exact rfl|assumption|exact dct (by first|assumption|omega)|exact dcf (by first|assumption|omega)|exact List.not_mem_nil|apply dc_length|apply ec_length|apply dl_length|fail))|fail) ?_)
  refine SG.alloc rfl rfl rfl (fun b5 w5 hk5 hb5 hB5 => ?_)
  refine SG.setAll (l := dl (goodDel (d1 7) exA).rules (.slice a4 (goodDel (d1 7) exA).who.length c4) (goodDel (d1 7) exA).stake (goodDel (d1 7) exA).window) rfl rfl (by exact rho_of rfl) (by exact rho_of rfl) hB5 (dl_length _ _ _ _) rfl (dl_one _ _ _ _ _ _) (fun w6 hk6 hB6 => ?_)
  have hB6 : Blk w6 b5 (.cells (dl (d1 7) (.slice a4 (goodDel (d1 7) exA).who.length c4) (maxs (·.least) exA) (maxs (·.window) exA)).toArray 53) := hB6
  rw [exA_who, exA_st, exA_wi] at hB6
  have l5 := hB6.lt
  have k6 : Kp [] w w6 := (k4.trans hk5).trans_new hk6 (new1 (by have := k4.size; omega))
  repeat (first|apply cA|apply cB|apply cD|apply cE|apply cF|apply cH|apply cM|refine cZ rfl rfl rfl rfl (by first|((first|apply qmv|apply qas|apply qlc|apply qla|apply qfa|apply qpk|apply qei|apply qni|apply qed|apply qln|apply qxt|apply qnt)<;>(first|exact rfl|assumption|exact dct (by first|assumption|omega)|exact dcf (by first|assumption|omega)|exact List.not_mem_nil|apply dc_length|apply ec_length|apply dl_length|fail))|fail) ?_)
  refine SG.ret rfl rfl rfl (vs := [bv 1, .int .i64 5, .int .i64 6, .int .i64 10]) (by repeat' (first | exact True.intro | exact rho_of rfl | refine And.intro ?_ ?_)) (one_spec 1 5 6 10 w6) (fun w7 hk7 => ?_)
  refine SG.ret rfl rfl rfl (vs := [bv 2, .int .i64 7, .int .i64 20, .int .i64 30]) (by repeat' (first | exact True.intro | exact rho_of rfl | refine And.intro ?_ ?_)) (one_spec 2 7 20 30 w7) (fun w8 hk8 => ?_)
  refine SG.buildSlice rfl rfl rfl rfl (fun w => bso2' w 1 2 5 6 10 7 20 30) (fun b9 w9 hk9 hb9 hB9 => ?_)
  have hS9 : Sl ec 21 w9 (some ⟨b9, 0, none⟩) exB := flt_rowf ec_length hB9
  have hof := of2_spec (c := 2) hS9 (by decide) (by decide)
  rw [exB_eq] at hof
  refine SG.call rfl rfl rfl (vs := [.slice (some ⟨b9, 0, none⟩) 2 2]) (by repeat' (first | exact True.intro | exact rho_of rfl | refine And.intro ?_ ?_)) (hof.mono (fun e w10 hh => ?_))
  obtain ⟨v10, he, ⟨s10, rfl, ho10⟩, hk10⟩ := hh
  refine ⟨_, he, ?_⟩
  obtain ⟨a10, c10, rfl⟩ := own_sl ho10
  have k10 := ((hk7.trans hk8).trans hk9).trans hk10
  repeat (first|apply cA|apply cB|apply cD|apply cE|apply cF|apply cH|apply cM|refine cZ rfl rfl rfl rfl (by first|((first|apply qmv|apply qas|apply qlc|apply qla|apply qfa|apply qpk|apply qei|apply qni|apply qed|apply qln|apply qxt|apply qnt)<;>(first|exact rfl|assumption|exact dct (by first|assumption|omega)|exact dcf (by first|assumption|omega)|exact List.not_mem_nil|apply dc_length|apply ec_length|apply dl_length|fail))|fail) ?_)
  refine SG.alloc rfl rfl rfl (fun b11 w11 hk11 hb11 hB11 => ?_)
  refine SG.setAll (l := dl zDel.rules (.slice a10 zDel.who.length c10) zDel.stake zDel.window) rfl rfl (by exact rho_of rfl) (by exact rho_of rfl) hB11 (dl_length _ _ _ _) rfl (dl_one _ _ _ _ _ _) (fun w12 hk12 hB12 => ?_)
  have k12 : Kp [] w6 w12 := (k10.trans hk11).trans_new hk12 (new1 (by have := k10.size; omega))
  obtain ⟨r0, r1, r2, r3, -⟩ := dl_rows (hB6.kp0 k12)
  have g0 : (0 : Int) = 0 := rfl
  have g7 : (7 : Int) = 7 := rfl
  have g30 : (30 : Int) = 30 := rfl
  have g2 : ((2 : Nat) : Int) = 2 := rfl
  have g11 : (11 : Int) = 11 := rfl
  have gd : d1 7 = d1 7 := rfl
  repeat (first | first|apply cA|apply cB|apply cD|apply cE|apply cF|apply cH|apply cM|refine cZ rfl rfl rfl rfl (by first|((first|apply qmv|apply qas|apply qlc|apply qla|apply qfa|apply qpk|apply qei|apply qni|apply qed|apply qln|apply qxt|apply qnt)<;>(first|exact rfl|assumption|exact dct (by first|assumption|omega)|exact dcf (by first|assumption|omega)|exact List.not_mem_nil|apply dc_length|apply ec_length|apply dl_length|fail))|fail) ?_ | refine dA rfl rfl ?_)
  refine cZ rfl rfl rfl rfl (vals_build rfl (bd1 7)) ?_
  repeat (first | first|apply cA|apply cB|apply cD|apply cE|apply cF|apply cH|apply cM|refine cZ rfl rfl rfl rfl (by first|((first|apply qmv|apply qas|apply qlc|apply qla|apply qfa|apply qpk|apply qei|apply qni|apply qed|apply qln|apply qxt|apply qnt)<;>(first|exact rfl|assumption|exact dct (by first|assumption|omega)|exact dcf (by first|assumption|omega)|exact List.not_mem_nil|apply dc_length|apply ec_length|apply dl_length|fail))|fail) ?_ | refine dA rfl rfl ?_)
  refine ret1 (Or.inl rfl) Tryz.results5 (by first | exact ResV.tmp rfl | exact ResV.agg rfl rfl (by assumption) (by first | exact dc_length _ | exact nc_length _ | exact rc_length _ _ _ | exact ec_length _ | exact dl_length _ _ _ _ | rfl) | exact ResV.cell rfl rfl (by assumption)) ?_
  exact ⟨rfl, k6.trans k12⟩
end Go.Proofs.YtnoipmimddoioaaGreat
namespace Go.Proofs.YtnoipmimddoioaaGreat
set_option linter.unusedVariables false
section
variable {P : Program} {S : List Nat} {w0 : World} {F : World → Prop} {L : Env} {d : Option Nat} {ty : TypeId} {pos : String} {af : Array Edge} {g : Option (Nat × Bool)}
theorem qmn {T T2 : TypeId} {x y : Operand} {a b : Int} (hx : ro L x = some (.int .i64 a)) (hy : ro L y = some (.int .i64 b)) :
    Vals P S w0 F L ⟨d, .call { callee := .builtin .min, args := #[x, y], argTypes := #[T, T2] }, ty, pos, af, g⟩ (.int .i64 (if b < a then b else a)) := fun w _ _ => by
  simp [execOp, rho_of hx, rho_of hy, resolve, invoke, builtin, Builtin.min_, Builtin.min2]
end
section
variable {P : Program} {S : List Nat} {w0 : World} {F : World → Prop} {L : Env} {d : Option Nat} {ty : TypeId} {pos : String} {af : Array Edge} {g : Option (Nat × Bool)}
end
end Go.Proofs.YtnoipmimddoioaaGreat
namespace Go.Proofs.YtnoipmimddoioaaGreat
open Go.Proofs Go.Shelf Go.Sort
set_option linter.unusedVariables false
abbrev np : Value := .pointer none
theorem bl1 (z : Int) (w : World) : (Instr.build 66 #[(0, .int .i64 z)]).run Tryz.prog w = .ok (.agg #[.int .i64 z, .slice none 0 0]) w := by kernel_rfl
attribute [local irreducible] CG NG SG Vals Der Row Blk MapIs IterAt addI xorI orI andI shlI shrI mulI twoI cmpD cmpW kW digO manyI mixD sortK maxs dealOf nameD
set_option maxHeartbeats 8000000 in
theorem new_spec (z : Int) (h1 : 1 ≤ z) (h2 : z ≤ 256) (w : World) : Calls Tryz.prog 4 #[.int .i64 z] w (fun e w' => ∃ b, e = .returned (.tuple #[.pointer (some ⟨b, 0, none⟩), .int .i64 0]) ∧ Kp [] w w' ∧ w.heap.size ≤ b ∧ Blk w' b (.cells #[.int .i64 z, .slice none 0 0] 66)) := by
  refine enter1 Tryz.func4 rfl Tryz.ntmps4 rfl ?_
  have g1 : ¬ z < 1 := by omega
  have g2 : ¬ 256 < z := by omega
  repeat (first | first|apply cA|apply cB|apply cD|apply cE|apply cF|apply cH|apply cK|apply cM|apply cQ|refine cZ rfl rfl rfl rfl (by first|((first|apply qep|apply qmv|apply qas|apply qla|apply qfa|apply qpk|apply qls|apply qei|apply qln|apply qgt|apply qxt|apply qnt|apply qep)<;>(first|exact rfl|assumption|exact dct (by first|assumption|omega)|exact dcf (by first|assumption|omega)|exact List.not_mem_nil|apply dc_length|apply ec_length|apply dl_length|fail))|fail) ?_ | refine dA rfl rfl ?_)
  refine dE rfl (by exact rho_of rfl) rfl ?_
  repeat (first|apply cA|apply cB|apply cD|apply cE|apply cF|apply cH|apply cK|apply cM|apply cQ|refine cZ rfl rfl rfl rfl (by first|((first|apply qep|apply qmv|apply qas|apply qla|apply qfa|apply qpk|apply qls|apply qei|apply qln|apply qgt|apply qxt|apply qnt|apply qep)<;>(first|exact rfl|assumption|exact dct (by first|assumption|omega)|exact dcf (by first|assumption|omega)|exact List.not_mem_nil|apply dc_length|apply ec_length|apply dl_length|fail))|fail) ?_)
  refine cZ rfl rfl rfl rfl (vals_build rfl (bl1 z)) ?_
  refine SG.box rfl rfl rfl (by exact rho_of rfl) (fun b w1 hk1 hb hB => ?_)
  repeat (first|apply cA|apply cB|apply cD|apply cE|apply cF|apply cH|apply cK|apply cM|apply cQ|refine cZ rfl rfl rfl rfl (by first|((first|apply qep|apply qmv|apply qas|apply qla|apply qfa|apply qpk|apply qls|apply qei|apply qln|apply qgt|apply qxt|apply qnt|apply qep)<;>(first|exact rfl|assumption|exact dct (by first|assumption|omega)|exact dcf (by first|assumption|omega)|exact List.not_mem_nil|apply dc_length|apply ec_length|apply dl_length|fail))|fail) ?_)
  refine ret2 (Or.inl rfl) Tryz.results4 (by first | exact ResV.tmp rfl | exact ResV.agg rfl rfl (by assumption) (by first | exact dc_length _ | exact nc_length _ | exact rc_length _ _ _ | exact ec_length _ | exact dl_length _ _ _ _ | rfl) | exact ResV.cell rfl rfl (by assumption)) (by first | exact ResV.tmp rfl | exact ResV.agg rfl rfl (by assumption) (by first | exact dc_length _ | exact nc_length _ | exact rc_length _ _ _ | exact ec_length _ | exact dl_length _ _ _ _ | rfl) | exact ResV.cell rfl rfl (by assumption)) ?_
  exact ⟨b, rfl, hk1, hb, hB⟩
set_option maxHeartbeats 8000000 in
theorem new_bad (z : Int) (h : z < 1 ∨ 256 < z) (w : World) : Ret Tryz.prog 4 #[.int .i64 z] w (.tuple #[np, .int .i64 2]) := by
  refine enter1 Tryz.func4 rfl Tryz.ntmps4 rfl ?_
  by_cases g1 : z < 1
  · repeat (first | first|apply cA|apply cB|apply cD|apply cE|apply cF|apply cH|apply cK|apply cM|apply cQ|refine cZ rfl rfl rfl rfl (by first|((first|apply qep|apply qmv|apply qas|apply qla|apply qfa|apply qpk|apply qls|apply qei|apply qln|apply qgt|apply qxt|apply qnt|apply qep)<;>(first|exact rfl|assumption|exact dct (by first|assumption|omega)|exact dcf (by first|assumption|omega)|exact List.not_mem_nil|apply dc_length|apply ec_length|apply dl_length|fail))|fail) ?_ | refine dA rfl rfl ?_)
    refine dD rfl (by exact rho_of rfl) rfl ?_
    repeat (first|apply cA|apply cB|apply cD|apply cE|apply cF|apply cH|apply cK|apply cM|apply cQ|refine cZ rfl rfl rfl rfl (by first|((first|apply qep|apply qmv|apply qas|apply qla|apply qfa|apply qpk|apply qls|apply qei|apply qln|apply qgt|apply qxt|apply qnt|apply qep)<;>(first|exact rfl|assumption|exact dct (by first|assumption|omega)|exact dcf (by first|assumption|omega)|exact List.not_mem_nil|apply dc_length|apply ec_length|apply dl_length|fail))|fail) ?_)
    refine ret2 (Or.inl rfl) Tryz.results4 (by first | exact ResV.tmp rfl | exact ResV.agg rfl rfl (by assumption) (by first | exact dc_length _ | exact nc_length _ | exact rc_length _ _ _ | exact ec_length _ | exact dl_length _ _ _ _ | rfl) | exact ResV.cell rfl rfl (by assumption)) (by first | exact ResV.tmp rfl | exact ResV.agg rfl rfl (by assumption) (by first | exact dc_length _ | exact nc_length _ | exact rc_length _ _ _ | exact ec_length _ | exact dl_length _ _ _ _ | rfl) | exact ResV.cell rfl rfl (by assumption)) ?_
    exact ⟨rfl, Kp.refl _ _⟩
  · have g2 : 256 < z := by omega
    repeat (first | first|apply cA|apply cB|apply cD|apply cE|apply cF|apply cH|apply cK|apply cM|apply cQ|refine cZ rfl rfl rfl rfl (by first|((first|apply qep|apply qmv|apply qas|apply qla|apply qfa|apply qpk|apply qls|apply qei|apply qln|apply qgt|apply qxt|apply qnt|apply qep)<;>(first|exact rfl|assumption|exact dct (by first|assumption|omega)|exact dcf (by first|assumption|omega)|exact List.not_mem_nil|apply dc_length|apply ec_length|apply dl_length|fail))|fail) ?_ | refine dA rfl rfl ?_)
    refine dD rfl (by exact rho_of rfl) rfl ?_
    repeat (first|apply cA|apply cB|apply cD|apply cE|apply cF|apply cH|apply cK|apply cM|apply cQ|refine cZ rfl rfl rfl rfl (by first|((first|apply qep|apply qmv|apply qas|apply qla|apply qfa|apply qpk|apply qls|apply qei|apply qln|apply qgt|apply qxt|apply qnt|apply qep)<;>(first|exact rfl|assumption|exact dct (by first|assumption|omega)|exact dcf (by first|assumption|omega)|exact List.not_mem_nil|apply dc_length|apply ec_length|apply dl_length|fail))|fail) ?_)
    refine ret2 (Or.inl rfl) Tryz.results4 (by first | exact ResV.tmp rfl | exact ResV.agg rfl rfl (by assumption) (by first | exact dc_length _ | exact nc_length _ | exact rc_length _ _ _ | exact ec_length _ | exact dl_length _ _ _ _ | rfl) | exact ResV.cell rfl rfl (by assumption)) (by first | exact ResV.tmp rfl | exact ResV.agg rfl rfl (by assumption) (by first | exact dc_length _ | exact nc_length _ | exact rc_length _ _ _ | exact ec_length _ | exact dl_length _ _ _ _ | rfl) | exact ResV.cell rfl rfl (by assumption)) ?_
    exact ⟨rfl, Kp.refl _ _⟩
end Go.Proofs.YtnoipmimddoioaaGreat
namespace Go.Proofs.YtnoipmimddoioaaGreat
open Go.Proofs Go.Shelf Go.Sort
set_option linter.unusedVariables false
theorem CG.cut_then {P : Program} {n : Nat} {Q Q' : Exit → Act → World → Prop} {L : Env} {w : World} {c B : Code} (M : Env → World → Prop) (h : CG P n c (Exit.then (fun a w => ∃ L, Fits n a L ∧ M L w) Q') L w) (h2 : ∀ L w, M L w → CG P n B Q L w) : CG P n c (Exit.then (B.wp P Q) Q') L w := by
  intro a ha
  refine wp_mono (h a ha) (fun e a w hq => ?_)
  cases e <;> first | exact hq | (obtain ⟨L, h1, h2'⟩ := hq; exact h2 L w h2' a h1)
/-- What waits: all may be, each of another one. -/
structure Wait (m : List Ofr) : Prop where
  ok : ∀ x ∈ m, x.Ok
  nd : (m.map (·.who)).Nodup
theorem Wait.nil : Wait [] := ⟨fun x h => (by cases h), List.nodup_nil⟩
theorem Wait.filter {m : List Ofr} (h : Wait m) (p : Ofr → Bool) : Wait (m.filter p) :=
  ⟨fun x hx => h.ok x (List.mem_filter.1 hx).1, h.nd.sublist ((List.filter_sublist).map _)⟩
theorem Wait.post {m : List Ofr} (h : Wait m) {room now : Int} {o : Ofr} (ho : o.Ok) : Wait (postL room now o m) := by
  have hk : Wait (keepL now o m) := (h.filter _).filter _
  unfold postL
  split
  · exact hk
  · refine ⟨fun x hx => ?_, ?_⟩
    · rcases List.mem_append.1 hx with h1 | h1
      · exact hk.ok x h1
      · rw [List.mem_singleton] at h1
        exact h1 ▸ ho
    · rw [List.map_append, List.nodup_append]
      refine ⟨hk.nd, by simp, fun a ha b hb => ?_⟩
      simp only [List.map_cons, List.map_nil, List.mem_singleton] at hb
      subst hb
      obtain ⟨x, hx, rfl⟩ := List.mem_map.1 ha
      have := (List.mem_filter.1 hx).2
      simpa using this
theorem deal_len0 {l : List Ofr} (h : (dealOf l).2 = 0) : (dealOf l).1.who.length = l.length := by
  cases l with
  | nil => exact absurd h (by decide)
  | cons o r =>
    have e0 : dealOf (o :: r) = if ((o :: r).length : Int) = o.seats then (if (o :: r).all (fun x => decide x.Ok) then (if decide ((o :: r).Pairwise fitP) then (goodDel o.rules (o :: r), 0) else (zDel, 11)) else (zDel, 2)) else (zDel, 3) := rfl
    rw [e0] at h ⊢
    split at h
    · rename_i h1
      split at h
      · rename_i h2
        split at h
        · rename_i h3
          rw [if_pos h1, if_pos h2, if_pos h3]
          exact good_len _ _
        · cases h
      · cases h
    · cases h
attribute [local irreducible] CG NG SG Vals Der Row Blk MapIs IterAt addI xorI orI andI shlI shrI mulI twoI cmpD cmpW kW digO manyI mixD sortK maxs dealOf
theorem Lob.kp2 {w w' : World} {w0 : World} {bt : Nat} {room : Int} {v : Value} {l : List Ofr} (h : Lob w0.heap.size w bt room v l) (hb : w0.heap.size ≤ bt) (hk0 : Kp [] w0 w) (hk : Kp (bt :: ownB v) w w') : Kp [] w0 w' :=
  hk0.trans_new hk (fun x hx => by
    right
    rcases List.mem_cons.1 hx with e | e
    · omega
    · exact own_geB h.own x (ownB_mem e))
end Go.Proofs.YtnoipmimddoioaaGreat
namespace Go.Proofs.YtnoipmimddoioaaGreat
open Go.Proofs Go.Shelf Go.Sort
set_option linter.unusedVariables false
/-- The document's lobby, as a value. -/
def lv (room : Int) (s : Value) : Value := .agg #[.int .i64 room, s]
theorem bsO' (w : World) (a0 a1 a2 a3 a4 a5 a6 a7 b0 b1 b2 b3 b4 b5 b6 b7 : UInt8) (x y z u v : Int) : (Instr.buildSlice 28 1 #[(0, .agg #[bv a0, bv a1, bv a2, bv a3, bv a4, bv a5, bv a6, bv a7, bv b0, bv b1, bv b2, bv b3, bv b4, bv b5, bv b6, bv b7, .int .i64 x, .int .i64 y, .int .i64 z, .int .i64 u, .int .i64 v])]).run Tryz.prog w = .ok (.slice (some ⟨w.heap.size, 0, none⟩) 1 1) { w with heap := w.heap.push (.cells #[bv a0, bv a1, bv a2, bv a3, bv a4, bv a5, bv a6, bv a7, bv b0, bv b1, bv b2, bv b3, bv b4, bv b5, bv b6, bv b7, .int .i64 x, .int .i64 y, .int .i64 z, .int .i64 u, .int .i64 v] 33) } := by kernel_rfl
theorem bsO (o : Ofr) (w : World) : (Instr.buildSlice 28 1 #[(0, ov o)]).run Tryz.prog w = .ok (.slice (some ⟨w.heap.size, 0, none⟩) 1 1) { w with heap := w.heap.push (.cells (ec o).toArray 33) } := by
  obtain ⟨⟨l, hl⟩, ⟨l2, hl2⟩, x, y, z, u, v⟩ := o
  match l, hl, l2, hl2 with
  | [a0, a1, a2, a3, a4, a5, a6, a7], _, [b0, b1, b2, b3, b4, b5, b6, b7], _ => exact bsO' w a0 a1 a2 a3 a4 a5 a6 a7 b0 b1 b2 b3 b4 b5 b6 b7 x y z u v
theorem bsO0 (w : World) : (Instr.buildSlice 28 0 #[]).run Tryz.prog w = .ok (.slice (some ⟨w.heap.size, 0, none⟩) 0 0) { w with heap := w.heap.push (.cells (flt ec []).toArray 33) } := by kernel_rfl
theorem lv_rows {w : World} {b : Nat} {T : TypeId} {room : Int} {s : Value} (h : Blk w b (.cells #[.int .i64 room, s] T)) : Row w b 0 [.int .i64 room] ∧ Row w b 1 [s] ∧ Row w b 0 [.int .i64 room, s] :=
  ⟨Row.of h [] [s] rfl rfl, Row.of h [.int .i64 room] [] rfl rfl, Row.all h rfl⟩
theorem filt_snoc {α : Type} (p : α → Bool) (l : List α) (i : Nat) (h : i < l.length) : (l.take (i + 1)).filter p = (l.take i).filter p ++ (if p l[i] then [l[i]] else []) := by
  rw [List.take_succ_eq_append_getElem h, List.filter_append]
  cases hp : p l[i] <;> simp [hp]
/-- The block of a slice, if there is anything in it, is of a type. -/
def Ty {α : Type} (T : TypeId) (w : World) (a : Option Addr) (l : List α) : Prop := l ≠ [] → ∀ b off, a = some ⟨b, off, none⟩ → ∃ cs f, w.heap[b]? = some (.cells cs T f)
theorem Ty.kp {α : Type} {T : TypeId} {S : List Nat} {w w' : World} {a : Option Addr} {l : List α} (h : Ty T w a l) (hk : Kp S w w') (hb : l ≠ [] → ∀ b off, a = some ⟨b, off, none⟩ → b ∉ S) : Ty T w' a l := fun hn b off e => by
  obtain ⟨cs, f, hh⟩ := h hn b off e
  exact ⟨cs, f, (hk.blk b (Array.getElem?_eq_some_iff.1 hh).1 (hb hn b off e)).trans hh⟩
theorem Ty.kp0 {α : Type} {T : TypeId} {w w' : World} {a : Option Addr} {l : List α} (h : Ty T w a l) (hk : Kp [] w w') : Ty T w' a l := h.kp hk (by simp)
theorem Ty.own {α : Type} {w : World} {base n cap sz : Nat} {a : Option Addr} {T : TypeId} {l : List α} {xs : List Value} (ho : w.ownsRow base T sz (.slice a n cap) n xs) : Ty T w a l := fun _ b off e => by
  subst e
  rcases ho.2 with ⟨h, _⟩ | ⟨g, c, cur, h, _, hg, _⟩
  · cases h
  · cases h
    exact ⟨_, _, hg⟩
theorem Ty.ne {α : Type} {T T' : TypeId} {w : World} {a : Option Addr} {l : List α} {z : Nat} {cs : Array Value} (h : Ty T w a l) (hn : l ≠ []) (hz : Blk w z (.cells cs T')) (hT : T' ≠ T) : ∀ b off, a = some ⟨b, off, none⟩ → b ≠ z := fun b off e hb => by
  subst hb
  obtain ⟨cs', f, hh⟩ := h hn b off e
  have hz : w.heap[b]? = some (.cells cs T') := hz
  rw [hz] at hh
  cases hh
  exact hT rfl
def whoL (d : Dg) (l : List Ofr) : List Ofr := l.filter (fun x => !decide (x.who = d))
theorem keepL_eq (now : Int) (o : Ofr) (l : List Ofr) : keepL now o l = whoL o.who (lateL now l) := rfl
attribute [local irreducible] CG NG SG Vals Der Row Blk MapIs IterAt addI xorI orI andI shlI shrI mulI twoI cmpD cmpW kW digO manyI mixD sortK maxs dealOf DerR
set_option maxHeartbeats 16000000 in
theorem rall_spec {w : World} {l : List Ofr} {a : Option Addr} {c : Nat} (room now : Int) (hS : Sl ec 21 w a l) (hl : l.length ≤ 100000) : RetO Tryz.prog 33 ec 21 19 #[lv room (.slice a l.length c), .int .i64 now] w (lateL now l) := by
  refine enter2 Tryz.func19 rfl Tryz.ntmps19 rfl ?_
  repeat (first|apply cA|apply cB|apply cD|apply cE|apply cF|apply cG|apply cH|apply cJ|apply cU|refine cV rfl ?_|apply cY|refine cZ rfl rfl rfl rfl (by first|((first|apply qmv|apply qas|apply qlc|apply qla|apply qfa|apply qix|apply qls|apply qnd|apply qad|apply qln|apply qge)<;>(first|exact rfl|assumption|exact Ar.mk (by omega)|exact dct (by first|assumption|omega)|exact dcf (by first|assumption|omega)|exact List.not_mem_nil|apply dc_length|apply ec_length|exact nm1 (by omega)|exact dcu|fail))|fail) ?_)
  refine SG.box rfl rfl rfl (by exact rho_of rfl) (fun b2 w1 hk1 hb2 hB2 => ?_)
  have hB2 : Blk w1 b2 (.cells #[.int .i64 room, .slice a l.length c] 30) := hB2
  repeat (first|apply cA|apply cB|apply cD|apply cE|apply cF|apply cG|apply cH|apply cJ|apply cU|refine cV rfl ?_|apply cY|refine cZ rfl rfl rfl rfl (by first|((first|apply qmv|apply qas|apply qlc|apply qla|apply qfa|apply qix|apply qls|apply qnd|apply qad|apply qln|apply qge)<;>(first|exact rfl|assumption|exact Ar.mk (by omega)|exact dct (by first|assumption|omega)|exact dcf (by first|assumption|omega)|exact List.not_mem_nil|apply dc_length|apply ec_length|exact nm1 (by omega)|exact dcu|fail))|fail) ?_)
  refine CG.loop (X := Value × Nat) (fun x => [(1, .int .i64 now), (2, .pointer (some ⟨b2, 0, none⟩)), (5, x.1), (6, .int .i64 (x.2 : Int))])
    (fun x w' => x.2 ≤ l.length ∧ Kp [] w1 w' ∧ w'.ownsRow w1.heap.size 33 21 x.1 (lateL now (l.take x.2)).length (flt ec (lateL now (l.take x.2)))) (fun x => l.length - x.2) (.slice none 0 0, 0) ⟨Nat.zero_le _, Kp.refl _ _, own_nil⟩ (by (repeat' (first | exact True.intro | exact rfl | refine And.intro ?_ ?_))) ?_
  rintro ⟨v, i⟩ w2 ⟨hi, hk2, ho⟩
  simp only at hi ho
  refine CG.to [(1, .int .i64 now), (2, .pointer (some ⟨b2, 0, none⟩)), (5, v), (6, .int .i64 (i : Int))] (by (repeat' (first | exact True.intro | exact rfl | refine And.intro ?_ ?_))) ?_
  obtain ⟨-, r1, -⟩ := lv_rows (hB2.kp0 hk2)
  by_cases hlt : i < l.length
  · have g1 : (i : Int) < (l.length : Int) := by omega
    obtain ⟨ba, oa, rfl, hri⟩ := (hS.kp0 (hk1.trans hk2)).at hlt
    obtain ⟨-, -, -, -, -, -, q6⟩ := ec_rowsO hri
    have hsn : lateL now (l.take (i + 1)) = lateL now (l.take i) ++ (if (!decide (l[i].till < now)) then [l[i]] else []) := filt_snoc _ l i hlt
    have hll : (lateL now (l.take i)).length ≤ i := Nat.le_trans (lateL_le _ _) (by rw [List.length_take]; omega)
    generalize lateL now (l.take i) = O at ho hsn hll
    generalize l[i] = x at hri q6 hsn
    repeat (first|apply cA|apply cB|apply cD|apply cE|apply cF|apply cG|apply cH|apply cJ|apply cU|refine cV rfl ?_|apply cY|refine cZ rfl rfl rfl rfl (by first|((first|apply qmv|apply qas|apply qlc|apply qla|apply qfa|apply qix|apply qls|apply qnd|apply qad|apply qln|apply qge)<;>(first|exact rfl|assumption|exact Ar.mk (by omega)|exact dct (by first|assumption|omega)|exact dcf (by first|assumption|omega)|exact List.not_mem_nil|apply dc_length|apply ec_length|exact nm1 (by omega)|exact dcu|fail))|fail) ?_)
    refine dD rfl (by exact rho_of rfl) rfl ?_
    by_cases ht : now ≤ x.till
    · rw [decide_eq_false (show ¬ x.till < now by omega)] at hsn
      repeat (first|apply cA|apply cB|apply cD|apply cE|apply cF|apply cG|apply cH|apply cJ|apply cU|refine cV rfl ?_|apply cY|refine cZ rfl rfl rfl rfl (by first|((first|apply qmv|apply qas|apply qlc|apply qla|apply qfa|apply qix|apply qls|apply qnd|apply qad|apply qln|apply qge)<;>(first|exact rfl|assumption|exact Ar.mk (by omega)|exact dct (by first|assumption|omega)|exact dcf (by first|assumption|omega)|exact List.not_mem_nil|apply dc_length|apply ec_length|exact nm1 (by omega)|exact dcu|fail))|fail) ?_)
      refine dD rfl (by exact rho_of rfl) rfl ?_
      clear q6
      repeat (first|apply cA|apply cB|apply cD|apply cE|apply cF|apply cG|apply cH|apply cJ|apply cU|refine cV rfl ?_|apply cY|refine cZ rfl rfl rfl rfl (by first|((first|apply qmv|apply qas|apply qlc|apply qla|apply qfa|apply qix|apply qls|apply qnd|apply qad|apply qln|apply qge)<;>(first|exact rfl|assumption|exact Ar.mk (by omega)|exact dct (by first|assumption|omega)|exact dcf (by first|assumption|omega)|exact List.not_mem_nil|apply dc_length|apply ec_length|exact nm1 (by omega)|exact dcu|fail))|fail) ?_)
      refine SG.buildSlice rfl rfl rfl rfl (bsO _) (fun bs w3 hk3 hbs hBs => ?_)
      have ho3 := own_kp0 ho hk3
      refine SG.appO (enc := ec) (xs := O) (ys := [x]) (base := w1.heap.size) rfl rfl rfl (by exact rho_of rfl) (by exact rho_of rfl) rfl rfl rfl rfl ec_length ec_one ho3 (sl_one ec_length hBs) (by simp only [maxLen, List.length_cons, List.length_nil]; omega) (by show (O.length + 1) * 56 ≤ _; omega) (hk2.trans hk3).size (fun v4 w4 hk4 ho4 _ => ?_)
      repeat (first|apply cA|apply cB|apply cD|apply cE|apply cF|apply cG|apply cH|apply cJ|apply cU|refine cV rfl ?_|apply cY|refine cZ rfl rfl rfl rfl (by first|((first|apply qmv|apply qas|apply qlc|apply qla|apply qfa|apply qix|apply qls|apply qnd|apply qad|apply qln|apply qge)<;>(first|exact rfl|assumption|exact Ar.mk (by omega)|exact dct (by first|assumption|omega)|exact dcf (by first|assumption|omega)|exact List.not_mem_nil|apply dc_length|apply ec_length|exact nm1 (by omega)|exact dcu|fail))|fail) ?_)
      refine NG.round (v4, i + 1) (by (repeat' (first | exact True.intro | exact rfl | refine And.intro ?_ ?_))) ⟨by simp only; omega, (hk2.trans hk3).trans_new hk4 (own_new ho3 (Nat.le_refl _)), by simp only; rw [hsn]; exact ho4⟩ (by simp only; omega)
    · rw [decide_eq_true (show x.till < now by omega)] at hsn
      have hsn : lateL now (l.take (i + 1)) = O := hsn.trans (List.append_nil _)
      repeat (first|apply cA|apply cB|apply cD|apply cE|apply cF|apply cG|apply cH|apply cJ|apply cU|refine cV rfl ?_|apply cY|refine cZ rfl rfl rfl rfl (by first|((first|apply qmv|apply qas|apply qlc|apply qla|apply qfa|apply qix|apply qls|apply qnd|apply qad|apply qln|apply qge)<;>(first|exact rfl|assumption|exact Ar.mk (by omega)|exact dct (by first|assumption|omega)|exact dcf (by first|assumption|omega)|exact List.not_mem_nil|apply dc_length|apply ec_length|exact nm1 (by omega)|exact dcu|fail))|fail) ?_)
      refine dE rfl (by exact rho_of rfl) rfl ?_
      repeat (first|apply cA|apply cB|apply cD|apply cE|apply cF|apply cG|apply cH|apply cJ|apply cU|refine cV rfl ?_|apply cY|refine cZ rfl rfl rfl rfl (by first|((first|apply qmv|apply qas|apply qlc|apply qla|apply qfa|apply qix|apply qls|apply qnd|apply qad|apply qln|apply qge)<;>(first|exact rfl|assumption|exact Ar.mk (by omega)|exact dct (by first|assumption|omega)|exact dcf (by first|assumption|omega)|exact List.not_mem_nil|apply dc_length|apply ec_length|exact nm1 (by omega)|exact dcu|fail))|fail) ?_)
      refine NG.round (v, i + 1) (by (repeat' (first | exact True.intro | exact rfl | refine And.intro ?_ ?_))) ⟨by simp only; omega, hk2, by simp only; rw [hsn]; exact ho⟩ (by simp only; omega)
  · have g1 : ¬ (i : Int) < (l.length : Int) := by omega
    rw [List.take_of_length_le (by omega)] at ho
    repeat (first|apply cA|apply cB|apply cD|apply cE|apply cF|apply cG|apply cH|apply cJ|apply cU|refine cV rfl ?_|apply cY|refine cZ rfl rfl rfl rfl (by first|((first|apply qmv|apply qas|apply qlc|apply qla|apply qfa|apply qix|apply qls|apply qnd|apply qad|apply qln|apply qge)<;>(first|exact rfl|assumption|exact Ar.mk (by omega)|exact dct (by first|assumption|omega)|exact dcf (by first|assumption|omega)|exact List.not_mem_nil|apply dc_length|apply ec_length|exact nm1 (by omega)|exact dcu|fail))|fail) ?_)
    refine dE rfl (by exact rho_of rfl) rfl ?_
    repeat (first|apply cA|apply cB|apply cD|apply cE|apply cF|apply cG|apply cH|apply cJ|apply cU|refine cV rfl ?_|apply cY|refine cZ rfl rfl rfl rfl (by first|((first|apply qmv|apply qas|apply qlc|apply qla|apply qfa|apply qix|apply qls|apply qnd|apply qad|apply qln|apply qge)<;>(first|exact rfl|assumption|exact Ar.mk (by omega)|exact dct (by first|assumption|omega)|exact dcf (by first|assumption|omega)|exact List.not_mem_nil|apply dc_length|apply ec_length|exact nm1 (by omega)|exact dcu|fail))|fail) ?_)
    refine ret1 (Or.inl rfl) Tryz.results19 (by first | exact ResV.tmp rfl | exact ResV.agg rfl rfl (by assumption) (by first | exact dc_length _ | exact nc_length _ | exact rc_length _ _ _ | exact ec_length _ | exact dl_length _ _ _ _ | rfl) | exact ResV.cell rfl rfl (by assumption)) ?_
    exact ⟨v, rfl, own_mono ho hk1.size, hk1.trans hk2⟩
set_option maxHeartbeats 16000000 in
theorem rdrop_spec {w : World} {l : List Ofr} {a : Option Addr} {c : Nat} (room : Int) (d : Dg) (hS : Sl ec 21 w a l) (hl : l.length ≤ 100000) : Calls Tryz.prog 9 #[lv room (.slice a l.length c), dv d] w (fun e w' => ∃ v', e = .returned (.tuple #[lv room v', .bool (decide ((whoL d l).length < l.length))]) ∧ w'.ownsRow w.heap.size 33 21 v' (whoL d l).length (flt ec (whoL d l)) ∧ Kp [] w w') := by
  refine enter2 Tryz.func9 rfl Tryz.ntmps9 rfl ?_
  repeat (first|apply cA|apply cB|apply cD|apply cE|apply cF|apply cG|apply cH|apply cJ|apply cU|refine cV rfl ?_|apply cY|refine cZ rfl rfl rfl rfl (by first|((first|apply qmv|apply qas|apply qlc|apply qla|apply qfa|apply qix|apply qls|apply qnd|apply qad|apply qln|apply qge)<;>(first|exact rfl|assumption|exact Ar.mk (by omega)|exact dct (by first|assumption|omega)|exact dcf (by first|assumption|omega)|exact List.not_mem_nil|apply dc_length|apply ec_length|exact nm1 (by omega)|exact dcu|fail))|fail) ?_)
  refine SG.box rfl rfl rfl (by exact rho_of rfl) (fun b2 w1 hk1 hb2 hB2 => ?_)
  have hB2 : Blk w1 b2 (.cells #[.int .i64 room, .slice a l.length c] 30) := hB2
  have l21 := hB2.lt
  repeat (first|apply cA|apply cB|apply cD|apply cE|apply cF|apply cG|apply cH|apply cJ|apply cU|refine cV rfl ?_|apply cY|refine cZ rfl rfl rfl rfl (by first|((first|apply qmv|apply qas|apply qlc|apply qla|apply qfa|apply qix|apply qls|apply qnd|apply qad|apply qln|apply qge)<;>(first|exact rfl|assumption|exact Ar.mk (by omega)|exact dct (by first|assumption|omega)|exact dcf (by first|assumption|omega)|exact List.not_mem_nil|apply dc_length|apply ec_length|exact nm1 (by omega)|exact dcu|fail))|fail) ?_)
  refine SG.box rfl rfl rfl (by exact rho_of rfl) (fun b3 w2 hk2 hb3 hB3 => ?_)
  have hB3 : Blk w2 b3 (.cells (dc d).toArray 31) := hB3
  repeat (first|apply cA|apply cB|apply cD|apply cE|apply cF|apply cG|apply cH|apply cJ|apply cU|refine cV rfl ?_|apply cY|refine cZ rfl rfl rfl rfl (by first|((first|apply qmv|apply qas|apply qlc|apply qla|apply qfa|apply qix|apply qls|apply qnd|apply qad|apply qln|apply qge)<;>(first|exact rfl|assumption|exact Ar.mk (by omega)|exact dct (by first|assumption|omega)|exact dcf (by first|assumption|omega)|exact List.not_mem_nil|apply dc_length|apply ec_length|exact nm1 (by omega)|exact dcu|fail))|fail) ?_)
  refine SG.alloc rfl rfl rfl (fun b4 w3 hk3 hb4 hB4 => ?_)
  have hB4 : Blk w3 b4 (.cells #[.int .i64 0, .slice none 0 0] 30) := hB4
  have hR3 : Row w3 b3 0 (dc d) := Row.all (hB3.kp0 hk3) rfl
  have hB2 := (hB2.kp0 hk2).kp0 hk3
  have l2 := hB2.lt
  have s1 := hk1.size
  have s2 := hk2.size
  have k3 := (hk1.trans hk2).trans hk3
  repeat (first|apply cA|apply cB|apply cD|apply cE|apply cF|apply cG|apply cH|apply cJ|apply cU|refine cV rfl ?_|apply cY|refine cZ rfl rfl rfl rfl (by first|((first|apply qmv|apply qas|apply qlc|apply qla|apply qfa|apply qix|apply qls|apply qnd|apply qad|apply qln|apply qge)<;>(first|exact rfl|assumption|exact Ar.mk (by omega)|exact dct (by first|assumption|omega)|exact dcf (by first|assumption|omega)|exact List.not_mem_nil|apply dc_length|apply ec_length|exact nm1 (by omega)|exact dcu|fail))|fail) ?_)
  refine CG.loop (X := Value × Nat) (fun x => [(2, .pointer (some ⟨b2, 0, none⟩)), (3, .pointer (some ⟨b3, 0, none⟩)), (4, .pointer (some ⟨b4, 0, none⟩)), (6, x.1), (7, .int .i64 (x.2 : Int))])
    (fun x w' => x.2 ≤ l.length ∧ Kp [] w3 w' ∧ w'.ownsRow w3.heap.size 33 21 x.1 (whoL d (l.take x.2)).length (flt ec (whoL d (l.take x.2)))) (fun x => l.length - x.2) (.slice none 0 0, 0) ⟨Nat.zero_le _, Kp.refl _ _, own_nil⟩ (by (repeat' (first | exact True.intro | exact rfl | refine And.intro ?_ ?_))) ?_
  rintro ⟨v, i⟩ w4 ⟨hi, hk4, ho⟩
  simp only at hi ho
  refine CG.to [(2, .pointer (some ⟨b2, 0, none⟩)), (3, .pointer (some ⟨b3, 0, none⟩)), (4, .pointer (some ⟨b4, 0, none⟩)), (6, v), (7, .int .i64 (i : Int))] (by (repeat' (first | exact True.intro | exact rfl | refine And.intro ?_ ?_))) ?_
  have hR4 := hR3.kp0 hk4
  obtain ⟨-, r1, -⟩ := lv_rows (hB2.kp0 hk4)
  by_cases hlt : i < l.length
  · have g1 : (i : Int) < (l.length : Int) := by omega
    obtain ⟨ba, oa, rfl, hri⟩ := (hS.kp0 (k3.trans hk4)).at hlt
    obtain ⟨q0, -⟩ := ec_rowsO hri
    have hsn : whoL d (l.take (i + 1)) = whoL d (l.take i) ++ (if (!decide (l[i].who = d)) then [l[i]] else []) := filt_snoc _ l i hlt
    have hll : (whoL d (l.take i)).length ≤ i := Nat.le_trans (List.length_filter_le _ _) (by rw [List.length_take]; omega)
    generalize whoL d (l.take i) = O at ho hsn hll
    have hrx := hri
    clear hri
    generalize l[i] = x at hrx q0 hsn
    repeat (first|apply cA|apply cB|apply cD|apply cE|apply cF|apply cG|apply cH|apply cJ|apply cU|refine cV rfl ?_|apply cY|refine cZ rfl rfl rfl rfl (by first|((first|apply qmv|apply qas|apply qlc|apply qla|apply qfa|apply qix|apply qls|apply qnd|apply qad|apply qln|apply qge)<;>(first|exact rfl|assumption|exact Ar.mk (by omega)|exact dct (by first|assumption|omega)|exact dcf (by first|assumption|omega)|exact List.not_mem_nil|apply dc_length|apply ec_length|exact nm1 (by omega)|exact dcu|fail))|fail) ?_)
    refine dD rfl (by exact rho_of rfl) rfl ?_
    have hr0 := hrx
    clear hrx
    by_cases ht : x.who = d
    · rw [decide_eq_true ht] at hsn
      have hsn : whoL d (l.take (i + 1)) = O := hsn.trans (List.append_nil _)
      clear hr0
      repeat (first|apply cA|apply cB|apply cD|apply cE|apply cF|apply cG|apply cH|apply cJ|apply cU|refine cV rfl ?_|apply cY|refine cZ rfl rfl rfl rfl (by first|((first|apply qmv|apply qas|apply qlc|apply qla|apply qfa|apply qix|apply qls|apply qnd|apply qad|apply qln|apply qge)<;>(first|exact rfl|assumption|exact Ar.mk (by omega)|exact dct (by first|assumption|omega)|exact dcf (by first|assumption|omega)|exact List.not_mem_nil|apply dc_length|apply ec_length|exact nm1 (by omega)|exact dcu|fail))|fail) ?_)
      refine CG.draw0 mixed [0, 1, 2, 3, 4, 5, 6, 7] [] (by kernel_rfl) ?_
      repeat (refine dB rfl rfl rfl (by first|((first|apply qmv|apply qas|apply qlc|apply qla|apply qfa|apply qix|apply qls|apply qnd|apply qad|apply qln|apply qge)<;>(first|exact rfl|assumption|exact Ar.mk (by omega)|exact dct (by first|assumption|omega)|exact dcf (by first|assumption|omega)|exact List.not_mem_nil|apply dc_length|apply ec_length|exact nm1 (by omega)|exact dcu|fail))|fail) ?_)
      refine Der.fin (fun w5 hk5 _ _ => ?_)
      repeat (first|apply cA|apply cB|apply cD|apply cE|apply cF|apply cG|apply cH|apply cJ|apply cU|refine cV rfl ?_|apply cY|refine cZ rfl rfl rfl rfl (by first|((first|apply qmv|apply qas|apply qlc|apply qla|apply qfa|apply qix|apply qls|apply qnd|apply qad|apply qln|apply qge)<;>(first|exact rfl|assumption|exact Ar.mk (by omega)|exact dct (by first|assumption|omega)|exact dcf (by first|assumption|omega)|exact List.not_mem_nil|apply dc_length|apply ec_length|exact nm1 (by omega)|exact dcu|fail))|fail) ?_)
      refine dE rfl (by exact rho_of rfl) rfl ?_
      repeat (first|apply cA|apply cB|apply cD|apply cE|apply cF|apply cG|apply cH|apply cJ|apply cU|refine cV rfl ?_|apply cY|refine cZ rfl rfl rfl rfl (by first|((first|apply qmv|apply qas|apply qlc|apply qla|apply qfa|apply qix|apply qls|apply qnd|apply qad|apply qln|apply qge)<;>(first|exact rfl|assumption|exact Ar.mk (by omega)|exact dct (by first|assumption|omega)|exact dcf (by first|assumption|omega)|exact List.not_mem_nil|apply dc_length|apply ec_length|exact nm1 (by omega)|exact dcu|fail))|fail) ?_)
      refine NG.round (v, i + 1) (by (repeat' (first | exact True.intro | exact rfl | refine And.intro ?_ ?_))) ⟨by simp only; omega, hk4.trans hk5, by simp only; rw [hsn]; exact own_kp0 ho hk5⟩ (by simp only; omega)
    · rw [decide_eq_false ht] at hsn
      have hz : ∀ W, Kp [] w4 W → Row W ba (oa + i * 21) (ec x) := fun W hk => hr0.kp0 hk
      clear hr0
      repeat (first|apply cA|apply cB|apply cD|apply cE|apply cF|apply cG|apply cH|apply cJ|apply cU|refine cV rfl ?_|apply cY|refine cZ rfl rfl rfl rfl (by first|((first|apply qmv|apply qas|apply qlc|apply qla|apply qfa|apply qix|apply qls|apply qnd|apply qad|apply qln|apply qge)<;>(first|exact rfl|assumption|exact Ar.mk (by omega)|exact dct (by first|assumption|omega)|exact dcf (by first|assumption|omega)|exact List.not_mem_nil|apply dc_length|apply ec_length|exact nm1 (by omega)|exact dcu|fail))|fail) ?_)
      refine CG.draw0 mixed [0, 1, 2, 3, 4, 5, 6, 7] [] (by kernel_rfl) ?_
      repeat (refine dB rfl rfl rfl (by first|((first|apply qmv|apply qas|apply qlc|apply qla|apply qfa|apply qix|apply qls|apply qnd|apply qad|apply qln|apply qge)<;>(first|exact rfl|assumption|exact Ar.mk (by omega)|exact dct (by first|assumption|omega)|exact dcf (by first|assumption|omega)|exact List.not_mem_nil|apply dc_length|apply ec_length|exact nm1 (by omega)|exact dcu|fail))|fail) ?_)
      refine Der.fin (fun w5 hk5 _ _ => ?_)
      have hrz := hz w5 hk5
      have r1 := r1.kp0 hk5
      clear hz q0
      repeat (first|apply cA|apply cB|apply cD|apply cE|apply cF|apply cG|apply cH|apply cJ|apply cU|refine cV rfl ?_|apply cY|refine cZ rfl rfl rfl rfl (by first|((first|apply qmv|apply qas|apply qlc|apply qla|apply qfa|apply qix|apply qls|apply qnd|apply qad|apply qln|apply qge)<;>(first|exact rfl|assumption|exact Ar.mk (by omega)|exact dct (by first|assumption|omega)|exact dcf (by first|assumption|omega)|exact List.not_mem_nil|apply dc_length|apply ec_length|exact nm1 (by omega)|exact dcu|fail))|fail) ?_)
      refine dD rfl (by exact rho_of rfl) rfl ?_
      repeat (first|apply cA|apply cB|apply cD|apply cE|apply cF|apply cG|apply cH|apply cJ|apply cU|refine cV rfl ?_|apply cY|refine cZ rfl rfl rfl rfl (by first|((first|apply qmv|apply qas|apply qlc|apply qla|apply qfa|apply qix|apply qls|apply qnd|apply qad|apply qln|apply qge)<;>(first|exact rfl|assumption|exact Ar.mk (by omega)|exact dct (by first|assumption|omega)|exact dcf (by first|assumption|omega)|exact List.not_mem_nil|apply dc_length|apply ec_length|exact nm1 (by omega)|exact dcu|fail))|fail) ?_)
      refine SG.buildSlice rfl rfl rfl rfl (bsO _) (fun bs w6 hk6 hbs hBs => ?_)
      have ho6 := own_kp0 (own_kp0 ho hk5) hk6
      have k46 := (hk4.trans hk5).trans hk6
      refine SG.appO (enc := ec) (xs := O) (ys := [x]) (base := w3.heap.size) rfl rfl rfl (by exact rho_of rfl) (by exact rho_of rfl) rfl rfl rfl rfl ec_length ec_one ho6 (sl_one ec_length hBs) (by simp only [maxLen, List.length_cons, List.length_nil]; omega) (by show (O.length + 1) * 56 ≤ _; omega) k46.size (fun v4 w7 hk7 ho7 _ => ?_)
      repeat (first|apply cA|apply cB|apply cD|apply cE|apply cF|apply cG|apply cH|apply cJ|apply cU|refine cV rfl ?_|apply cY|refine cZ rfl rfl rfl rfl (by first|((first|apply qmv|apply qas|apply qlc|apply qla|apply qfa|apply qix|apply qls|apply qnd|apply qad|apply qln|apply qge)<;>(first|exact rfl|assumption|exact Ar.mk (by omega)|exact dct (by first|assumption|omega)|exact dcf (by first|assumption|omega)|exact List.not_mem_nil|apply dc_length|apply ec_length|exact nm1 (by omega)|exact dcu|fail))|fail) ?_)
      refine NG.round (v4, i + 1) (by (repeat' (first | exact True.intro | exact rfl | refine And.intro ?_ ?_))) ⟨by simp only; omega, k46.trans_new hk7 (own_new ho6 (Nat.le_refl _)), by simp only; rw [hsn]; exact ho7⟩ (by simp only; omega)
  · have g1 : ¬ (i : Int) < (l.length : Int) := by omega
    rw [List.take_of_length_le (by omega)] at ho
    have hB5 := hB2.kp0 hk4
    have hB6 := hB4.kp0 hk4
    have hwl : (whoL d l).length ≤ 100000 := Nat.le_trans (List.length_filter_le _ _) hl
    generalize whoL d l = O at ho hwl
    obtain ⟨av, cv, rfl, _, hSv⟩ := Sl.own ec_length ho rfl
    have g2 : ((O.length : Int) < (l.length : Int)) ↔ (O.length < l.length) := Int.ofNat_lt
    have g3 : decide (O.length < l.length) = decide ((O.length : Int) < (l.length : Int)) := (decide_eq_decide.2 g2).symm
    rw [g3]
    repeat (first|apply cA|apply cB|apply cD|apply cE|apply cF|apply cG|apply cH|apply cJ|apply cU|refine cV rfl ?_|apply cY|refine cZ rfl rfl rfl rfl (by first|((first|apply qmv|apply qas|apply qlc|apply qla|apply qfa|apply qix|apply qls|apply qnd|apply qad|apply qln|apply qge)<;>(first|exact rfl|assumption|exact Ar.mk (by omega)|exact dct (by first|assumption|omega)|exact dcf (by first|assumption|omega)|exact List.not_mem_nil|apply dc_length|apply ec_length|exact nm1 (by omega)|exact dcu|fail))|fail) ?_)
    refine dE rfl (by exact rho_of rfl) rfl ?_
    repeat (first|apply cA|apply cB|apply cD|apply cE|apply cF|apply cG|apply cH|apply cJ|apply cU|refine cV rfl ?_|apply cY|refine cZ rfl rfl rfl rfl (by first|((first|apply qmv|apply qas|apply qlc|apply qla|apply qfa|apply qix|apply qls|apply qnd|apply qad|apply qln|apply qge)<;>(first|exact rfl|assumption|exact Ar.mk (by omega)|exact dct (by first|assumption|omega)|exact dcf (by first|assumption|omega)|exact List.not_mem_nil|apply dc_length|apply ec_length|exact nm1 (by omega)|exact dcu|fail))|fail) ?_)
    clear r1
    refine SG.store rfl rfl (by exact rho_of rfl) (by exact rho_of rfl) hB5 rfl (by show 0 + 1 + 1 ≤ 2; omega) rfl (fun w5 hk5 hC5 => ?_)
    have hC5 : Blk w5 b2 (.cells #[.int .i64 room, .slice av O.length cv] 30) := hC5
    have hC6 := hB6.kp hk5 (nm1 (by omega))
    obtain ⟨-, -, r2⟩ := lv_rows hC5
    repeat (first|apply cA|apply cB|apply cD|apply cE|apply cF|apply cG|apply cH|apply cJ|apply cU|refine cV rfl ?_|apply cY|refine cZ rfl rfl rfl rfl (by first|((first|apply qmv|apply qas|apply qlc|apply qla|apply qfa|apply qix|apply qls|apply qnd|apply qad|apply qln|apply qge)<;>(first|exact rfl|assumption|exact Ar.mk (by omega)|exact dct (by first|assumption|omega)|exact dcf (by first|assumption|omega)|exact List.not_mem_nil|apply dc_length|apply ec_length|exact nm1 (by omega)|exact dcu|fail))|fail) ?_)
    refine SG.setAll (l := [.int .i64 room, .slice av O.length cv]) rfl rfl (by exact rho_of rfl) (by exact rho_of rfl) hC6 rfl rfl rfl (fun w6 hk6 hC7 => ?_)
    have hr : Row w6 b4 0 [.int .i64 room, .slice av O.length cv] := Row.all hC7 rfl
    have ho6 := own_kp (own_kp ho hk5 (own_neb ho (by decide) hB5)) hk6 (own_neb (own_kp ho hk5 (own_neb ho (by decide) hB5)) (by decide) hC6)
    repeat (first|apply cA|apply cB|apply cD|apply cE|apply cF|apply cG|apply cH|apply cJ|apply cU|refine cV rfl ?_|apply cY|refine cZ rfl rfl rfl rfl (by first|((first|apply qmv|apply qas|apply qlc|apply qla|apply qfa|apply qix|apply qls|apply qnd|apply qad|apply qln|apply qge)<;>(first|exact rfl|assumption|exact Ar.mk (by omega)|exact dct (by first|assumption|omega)|exact dcf (by first|assumption|omega)|exact List.not_mem_nil|apply dc_length|apply ec_length|exact nm1 (by omega)|exact dcu|fail))|fail) ?_)
    refine ret2 (Or.inl rfl) Tryz.results9 (ResV.agg rfl rfl hr rfl) (by first | exact ResV.tmp rfl | exact ResV.agg rfl rfl (by assumption) (by first | exact dc_length _ | exact nc_length _ | exact rc_length _ _ _ | exact ec_length _ | exact dl_length _ _ _ _ | rfl) | exact ResV.cell rfl rfl (by assumption)) ?_
    exact ⟨_, rfl, own_mono ho6 k3.size, ((k3.trans hk4).trans_new hk5 (new1 (by omega))).trans_new hk6 (new1 (by omega))⟩
end Go.Proofs.YtnoipmimddoioaaGreat
namespace Go.Proofs.YtnoipmimddoioaaGreat
open Go.Proofs Go.Shelf Go.Sort
set_option linter.unusedVariables false
def postG (room now : Int) (o : Ofr) (m : List Ofr) : List Ofr := if (now < 0 ∨ 1099511627776 < now ∨ ¬ o.Ok) ∨ o.till < now then m else postL room now o m
def postF (room now : Int) (o : Ofr) (m : List Ofr) : Int := if now < 0 ∨ 1099511627776 < now ∨ ¬ o.Ok then 2 else if o.till < now then 19 else postE room now o m
theorem keepL_le (now : Int) (o : Ofr) (l : List Ofr) : (keepL now o l).length ≤ l.length := Nat.le_trans (List.length_filter_le _ _) (List.length_filter_le _ _)
attribute [local irreducible] CG NG SG Vals Der Row Blk MapIs IterAt addI xorI orI andI shlI shrI mulI twoI cmpD cmpW kW digO manyI mixD sortK maxs dealOf DerR
set_option maxHeartbeats 16000000 in
theorem rpost_spec {w : World} {l : List Ofr} {a : Option Addr} {c : Nat} (room now : Int) (o : Ofr) (hS : Sl ec 21 w a l) (hl : l.length ≤ 100000) (hr : (l.length : Int) ≤ room) (hlc : l.length ≤ c) (hT : Ty 33 w a l) : Calls Tryz.prog 6 #[lv room (.slice a l.length c), .int .i64 now, ov o] w (fun e w' => ∃ a' c', e = .returned (.tuple #[lv room (.slice a' (postG room now o l).length c'), .int .i64 (postF room now o l)]) ∧ Sl ec 21 w' a' (postG room now o l) ∧ (postG room now o l).length ≤ c' ∧ Ty 33 w' a' (postG room now o l) ∧ Kp [] w w') := by
  refine enter3 Tryz.func6 rfl Tryz.ntmps6 rfl ?_
  repeat (first|apply cA|apply cB|apply cD|apply cE|apply cF|apply cH|apply cM|refine cZ rfl rfl rfl rfl (by first|((first|apply qmv|apply qas|apply qlc|apply qla|apply qfa|apply qpk|apply qls|apply qei|apply qln|apply qgt|apply qxt|apply qnt)<;>(first|exact rfl|assumption|exact dct (by first|assumption|omega)|exact dcf (by first|assumption|omega)|exact List.not_mem_nil|apply dc_length|apply ec_length|exact nm1 (by omega)|fail))|fail) ?_)
  refine SG.box rfl rfl rfl (by exact rho_of rfl) (fun b3 w1 hk1 hb3 hB3 => ?_)
  have hB3 : Blk w1 b3 (.cells #[.int .i64 room, .slice a l.length c] 30) := hB3
  have l3 := hB3.lt
  repeat (first|apply cA|apply cB|apply cD|apply cE|apply cF|apply cH|apply cM|refine cZ rfl rfl rfl rfl (by first|((first|apply qmv|apply qas|apply qlc|apply qla|apply qfa|apply qpk|apply qls|apply qei|apply qln|apply qgt|apply qxt|apply qnt)<;>(first|exact rfl|assumption|exact dct (by first|assumption|omega)|exact dcf (by first|assumption|omega)|exact List.not_mem_nil|apply dc_length|apply ec_length|exact nm1 (by omega)|fail))|fail) ?_)
  refine SG.box rfl rfl rfl (by exact rho_of rfl) (fun b5 w2 hk2 hb5 hB5 => ?_)
  have hB5 : Blk w2 b5 (.cells (ec o).toArray 33) := hB5
  have l5 := hB5.lt
  have hB3 := hB3.kp0 hk2
  repeat (first|apply cA|apply cB|apply cD|apply cE|apply cF|apply cH|apply cM|refine cZ rfl rfl rfl rfl (by first|((first|apply qmv|apply qas|apply qlc|apply qla|apply qfa|apply qpk|apply qls|apply qei|apply qln|apply qgt|apply qxt|apply qnt)<;>(first|exact rfl|assumption|exact dct (by first|assumption|omega)|exact dcf (by first|assumption|omega)|exact List.not_mem_nil|apply dc_length|apply ec_length|exact nm1 (by omega)|fail))|fail) ?_)
  refine SG.alloc rfl rfl rfl (fun b6 w3 hk3 hb6 hB6 => ?_)
  have hB6 : Blk w3 b6 (.cells #[.int .i64 0, .slice none 0 0] 30) := hB6
  have hB3 := hB3.kp0 hk3
  have hB5 := hB5.kp0 hk3
  have k3 := (hk1.trans hk2).trans hk3
  have s1 := hk1.size
  have s2 := hk2.size
  have s3 := hk3.size
  have l6 := hB6.lt
  by_cases hbad : now < 0 ∨ 1099511627776 < now ∨ ¬ o.Ok
  · have e1 : postG room now o l = l := if_pos (Or.inl hbad)
    have e2 : postF room now o l = 2 := if_pos hbad
    rw [e1, e2]
    refine cZ rfl rfl rfl rfl (by first|((first|apply qmv|apply qas|apply qlc|apply qla|apply qfa|apply qpk|apply qls|apply qei|apply qln|apply qgt|apply qxt|apply qnt)<;>(first|exact rfl|assumption|exact dct (by first|assumption|omega)|exact dcf (by first|assumption|omega)|exact List.not_mem_nil|apply dc_length|apply ec_length|exact nm1 (by omega)|fail))|fail) ?_
    refine cD ?_
    refine cE ?_
    repeat (first | refine cK ?_ | refine cA ?_)
    refine CG.cut_then (fun L w' => SubE [(3, .pointer (some ⟨b3, 0, none⟩)), (6, .pointer (some ⟨b6, 0, none⟩)), (18, .bool true)] L ∧ Kp [] w3 w') ?_ ?_
    · have hR5 : Row w3 b5 0 (ec o) := Row.all hB5 rfl
      rcases Classical.em (now < 0) with g1 | g1
      · repeat (first | first|apply cA|apply cB|apply cD|apply cE|apply cF|apply cH|apply cM|refine cZ rfl rfl rfl rfl (by first|((first|apply qmv|apply qas|apply qlc|apply qla|apply qfa|apply qpk|apply qls|apply qei|apply qln|apply qgt|apply qxt|apply qnt)<;>(first|exact rfl|assumption|exact dct (by first|assumption|omega)|exact dcf (by first|assumption|omega)|exact List.not_mem_nil|apply dc_length|apply ec_length|exact nm1 (by omega)|fail))|fail) ?_ | refine dA rfl rfl ?_)
        exact NG.cut ⟨by (repeat' (first | exact True.intro | exact rfl | refine And.intro ?_ ?_)), Kp.refl _ _⟩
      · rcases Classical.em (1099511627776 < now) with g2 | g2
        · repeat (first | first|apply cA|apply cB|apply cD|apply cE|apply cF|apply cH|apply cM|refine cZ rfl rfl rfl rfl (by first|((first|apply qmv|apply qas|apply qlc|apply qla|apply qfa|apply qpk|apply qls|apply qei|apply qln|apply qgt|apply qxt|apply qnt)<;>(first|exact rfl|assumption|exact dct (by first|assumption|omega)|exact dcf (by first|assumption|omega)|exact List.not_mem_nil|apply dc_length|apply ec_length|exact nm1 (by omega)|fail))|fail) ?_ | refine dA rfl rfl ?_)
          exact NG.cut ⟨by (repeat' (first | exact True.intro | exact rfl | refine And.intro ?_ ?_)), Kp.refl _ _⟩
        · have ho : ¬ o.Ok := by
            rcases hbad with h | h | h
            · exact absurd h g1
            · exact absurd h g2
            · exact h
          repeat (first | first|apply cA|apply cB|apply cD|apply cE|apply cF|apply cH|apply cM|refine cZ rfl rfl rfl rfl (by first|((first|apply qmv|apply qas|apply qlc|apply qla|apply qfa|apply qpk|apply qls|apply qei|apply qln|apply qgt|apply qxt|apply qnt)<;>(first|exact rfl|assumption|exact dct (by first|assumption|omega)|exact dcf (by first|assumption|omega)|exact List.not_mem_nil|apply dc_length|apply ec_length|exact nm1 (by omega)|fail))|fail) ?_ | refine dA rfl rfl ?_)
          refine SG.ret rfl rfl rfl (vs := [ov o]) (by repeat' (first | exact True.intro | exact rho_of rfl | refine And.intro ?_ ?_)) (right_spec o w3) (fun w4 hk4 => ?_)
          rw [decide_eq_false ho]
          repeat (first | first|apply cA|apply cB|apply cD|apply cE|apply cF|apply cH|apply cM|refine cZ rfl rfl rfl rfl (by first|((first|apply qmv|apply qas|apply qlc|apply qla|apply qfa|apply qpk|apply qls|apply qei|apply qln|apply qgt|apply qxt|apply qnt)<;>(first|exact rfl|assumption|exact dct (by first|assumption|omega)|exact dcf (by first|assumption|omega)|exact List.not_mem_nil|apply dc_length|apply ec_length|exact nm1 (by omega)|fail))|fail) ?_ | refine dA rfl rfl ?_)
          exact NG.cut ⟨by (repeat' (first | exact True.intro | exact rfl | refine And.intro ?_ ?_)), hk4⟩
    rintro L w4 ⟨hLL, hk4⟩
    refine CG.to _ hLL ?_
    have hB3 := hB3.kp0 hk4
    have hB6 := hB6.kp0 hk4
    obtain ⟨-, -, r2⟩ := lv_rows hB3
    refine dD rfl (by exact rho_of rfl) rfl ?_
    repeat (first|apply cA|apply cB|apply cD|apply cE|apply cF|apply cH|apply cM|refine cZ rfl rfl rfl rfl (by first|((first|apply qmv|apply qas|apply qlc|apply qla|apply qfa|apply qpk|apply qls|apply qei|apply qln|apply qgt|apply qxt|apply qnt)<;>(first|exact rfl|assumption|exact dct (by first|assumption|omega)|exact dcf (by first|assumption|omega)|exact List.not_mem_nil|apply dc_length|apply ec_length|exact nm1 (by omega)|fail))|fail) ?_)
    refine SG.setAll (l := [.int .i64 room, .slice a l.length c]) rfl rfl (by exact rho_of rfl) (by exact rho_of rfl) hB6 rfl rfl rfl (fun w5 hk5 hC => ?_)
    have hrr : Row w5 b6 0 [.int .i64 room, .slice a l.length c] := Row.all hC rfl
    have k5 : Kp [] w w5 := (k3.trans hk4).trans_new hk5 (new1 (by omega))
    repeat (first|apply cA|apply cB|apply cD|apply cE|apply cF|apply cH|apply cM|refine cZ rfl rfl rfl rfl (by first|((first|apply qmv|apply qas|apply qlc|apply qla|apply qfa|apply qpk|apply qls|apply qei|apply qln|apply qgt|apply qxt|apply qnt)<;>(first|exact rfl|assumption|exact dct (by first|assumption|omega)|exact dcf (by first|assumption|omega)|exact List.not_mem_nil|apply dc_length|apply ec_length|exact nm1 (by omega)|fail))|fail) ?_)
    refine ret2 (Or.inl rfl) Tryz.results6 (ResV.agg rfl rfl hrr rfl) (by first | exact ResV.tmp rfl | exact ResV.agg rfl rfl (by assumption) (by first | exact dc_length _ | exact nc_length _ | exact rc_length _ _ _ | exact ec_length _ | exact dl_length _ _ _ _ | rfl) | exact ResV.cell rfl rfl (by assumption)) ?_
    exact ⟨a, c, rfl, hS.kp0 k5, hlc, hT.kp0 k5, k5⟩
  have g1 : ¬ now < 0 := fun h => hbad (Or.inl h)
  have g2 : ¬ 1099511627776 < now := fun h => hbad (Or.inr (Or.inl h))
  have ho : o.Ok := Classical.byContradiction (fun h => hbad (Or.inr (Or.inr h)))
  have hR5 : Row w3 b5 0 (ec o) := Row.all hB5 rfl
  repeat (first | first|apply cA|apply cB|apply cD|apply cE|apply cF|apply cH|apply cM|refine cZ rfl rfl rfl rfl (by first|((first|apply qmv|apply qas|apply qlc|apply qla|apply qfa|apply qpk|apply qls|apply qei|apply qln|apply qgt|apply qxt|apply qnt)<;>(first|exact rfl|assumption|exact dct (by first|assumption|omega)|exact dcf (by first|assumption|omega)|exact List.not_mem_nil|apply dc_length|apply ec_length|exact nm1 (by omega)|fail))|fail) ?_ | refine dA rfl rfl ?_)
  refine SG.ret rfl rfl rfl (vs := [ov o]) (by repeat' (first | exact True.intro | exact rho_of rfl | refine And.intro ?_ ?_)) (right_spec o w3) (fun w4 hk4 => ?_)
  rw [decide_eq_true ho]
  clear hR5
  have hB3 := hB3.kp0 hk4
  have hB5 := hB5.kp0 hk4
  have hB6 := hB6.kp0 hk4
  obtain ⟨q0, -, -, -, -, -, q6, -⟩ := ec_rows hB5
  obtain ⟨-, -, r2⟩ := lv_rows hB3
  have k4 := k3.trans hk4
  have s4 := hk4.size
  repeat (first | first|apply cA|apply cB|apply cD|apply cE|apply cF|apply cH|apply cM|refine cZ rfl rfl rfl rfl (by first|((first|apply qmv|apply qas|apply qlc|apply qla|apply qfa|apply qpk|apply qls|apply qei|apply qln|apply qgt|apply qxt|apply qnt)<;>(first|exact rfl|assumption|exact dct (by first|assumption|omega)|exact dcf (by first|assumption|omega)|exact List.not_mem_nil|apply dc_length|apply ec_length|exact nm1 (by omega)|fail))|fail) ?_ | refine dA rfl rfl ?_)
  refine dE rfl (by exact rho_of rfl) rfl ?_
  by_cases ht : o.till < now
  · have e1 : postG room now o l = l := if_pos (Or.inr ht)
    have e2 : postF room now o l = 19 := by
      unfold postF
      rw [if_neg hbad, if_pos ht]
    rw [e1, e2]
    repeat (first|apply cA|apply cB|apply cD|apply cE|apply cF|apply cH|apply cM|refine cZ rfl rfl rfl rfl (by first|((first|apply qmv|apply qas|apply qlc|apply qla|apply qfa|apply qpk|apply qls|apply qei|apply qln|apply qgt|apply qxt|apply qnt)<;>(first|exact rfl|assumption|exact dct (by first|assumption|omega)|exact dcf (by first|assumption|omega)|exact List.not_mem_nil|apply dc_length|apply ec_length|exact nm1 (by omega)|fail))|fail) ?_)
    refine dD rfl (by exact rho_of rfl) rfl ?_
    repeat (first|apply cA|apply cB|apply cD|apply cE|apply cF|apply cH|apply cM|refine cZ rfl rfl rfl rfl (by first|((first|apply qmv|apply qas|apply qlc|apply qla|apply qfa|apply qpk|apply qls|apply qei|apply qln|apply qgt|apply qxt|apply qnt)<;>(first|exact rfl|assumption|exact dct (by first|assumption|omega)|exact dcf (by first|assumption|omega)|exact List.not_mem_nil|apply dc_length|apply ec_length|exact nm1 (by omega)|fail))|fail) ?_)
    refine SG.setAll (l := [.int .i64 room, .slice a l.length c]) rfl rfl (by exact rho_of rfl) (by exact rho_of rfl) hB6 rfl rfl rfl (fun w5 hk5 hC => ?_)
    have hrr : Row w5 b6 0 [.int .i64 room, .slice a l.length c] := Row.all hC rfl
    have k5 : Kp [] w w5 := k4.trans_new hk5 (new1 (by omega))
    repeat (first|apply cA|apply cB|apply cD|apply cE|apply cF|apply cH|apply cM|refine cZ rfl rfl rfl rfl (by first|((first|apply qmv|apply qas|apply qlc|apply qla|apply qfa|apply qpk|apply qls|apply qei|apply qln|apply qgt|apply qxt|apply qnt)<;>(first|exact rfl|assumption|exact dct (by first|assumption|omega)|exact dcf (by first|assumption|omega)|exact List.not_mem_nil|apply dc_length|apply ec_length|exact nm1 (by omega)|fail))|fail) ?_)
    refine ret2 (Or.inl rfl) Tryz.results6 (ResV.agg rfl rfl hrr rfl) (by first | exact ResV.tmp rfl | exact ResV.agg rfl rfl (by assumption) (by first | exact dc_length _ | exact nc_length _ | exact rc_length _ _ _ | exact ec_length _ | exact dl_length _ _ _ _ | rfl) | exact ResV.cell rfl rfl (by assumption)) ?_
    exact ⟨a, c, rfl, hS.kp0 k5, hlc, hT.kp0 k5, k5⟩
  have e1 : postG room now o l = postL room now o l := if_neg (fun h => h.elim hbad ht)
  have e2 : postF room now o l = postE room now o l := by
    unfold postF
    rw [if_neg hbad, if_neg ht]
  rw [e1, e2]
  have hkl := keepL_le now o l
  have hpl : postL room now o l = if room ≤ (keepL now o l).length then keepL now o l else keepL now o l ++ [o] := rfl
  have hpe : postE room now o l = if room ≤ (keepL now o l).length then 8 else 0 := rfl
  have hll := lateL_le now l
  repeat (first|apply cA|apply cB|apply cD|apply cE|apply cF|apply cH|apply cM|refine cZ rfl rfl rfl rfl (by first|((first|apply qmv|apply qas|apply qlc|apply qla|apply qfa|apply qpk|apply qls|apply qei|apply qln|apply qgt|apply qxt|apply qnt)<;>(first|exact rfl|assumption|exact dct (by first|assumption|omega)|exact dcf (by first|assumption|omega)|exact List.not_mem_nil|apply dc_length|apply ec_length|exact nm1 (by omega)|fail))|fail) ?_)
  refine dE rfl (by exact rho_of rfl) rfl ?_
  repeat (first|apply cA|apply cB|apply cD|apply cE|apply cF|apply cH|apply cM|refine cZ rfl rfl rfl rfl (by first|((first|apply qmv|apply qas|apply qlc|apply qla|apply qfa|apply qpk|apply qls|apply qei|apply qln|apply qgt|apply qxt|apply qnt)<;>(first|exact rfl|assumption|exact dct (by first|assumption|omega)|exact dcf (by first|assumption|omega)|exact List.not_mem_nil|apply dc_length|apply ec_length|exact nm1 (by omega)|fail))|fail) ?_)
  refine SG.call rfl rfl rfl (vs := [lv room (.slice a l.length c), .int .i64 now]) (by repeat' (first | exact True.intro | exact rho_of rfl | refine And.intro ?_ ?_)) ((rall_spec room now (hS.kp0 k4) hl).mono (fun e w5 hh => ?_))
  obtain ⟨v5, he, ho5, hk5⟩ := hh
  refine ⟨_, he, ?_⟩
  obtain ⟨a5, c5, rfl, _, hS5⟩ := Sl.own ec_length ho5 rfl
  have hB3 := hB3.kp0 hk5
  repeat (first|apply cA|apply cB|apply cD|apply cE|apply cF|apply cH|apply cM|refine cZ rfl rfl rfl rfl (by first|((first|apply qmv|apply qas|apply qlc|apply qla|apply qfa|apply qpk|apply qls|apply qei|apply qln|apply qgt|apply qxt|apply qnt)<;>(first|exact rfl|assumption|exact dct (by first|assumption|omega)|exact dcf (by first|assumption|omega)|exact List.not_mem_nil|apply dc_length|apply ec_length|exact nm1 (by omega)|fail))|fail) ?_)
  refine SG.store rfl rfl (by exact rho_of rfl) (by exact rho_of rfl) hB3 rfl (by show 0 + 1 + 1 ≤ 2; omega) rfl (fun w6 hk6 hC3 => ?_)
  have hC3 : Blk w6 b3 (.cells #[.int .i64 room, .slice a5 (lateL now l).length c5] 30) := hC3
  have hS6 := hS5.kp hk6 (own_nea ho5 (by decide) hB3)
  have hB5 := (hB5.kp0 hk5).kp hk6 (nm1 (by omega))
  have hB6 := (hB6.kp0 hk5).kp hk6 (nm1 (by omega))
  have k6 := (k4.trans hk5).trans_new hk6 (new1 (by omega))
  clear r2 q0 q6
  obtain ⟨-, -, r2⟩ := lv_rows hC3
  obtain ⟨q0, -⟩ := ec_rows hB5
  have s5 := hk5.size
  have s6 := hk6.size
  repeat (first|apply cA|apply cB|apply cD|apply cE|apply cF|apply cH|apply cM|refine cZ rfl rfl rfl rfl (by first|((first|apply qmv|apply qas|apply qlc|apply qla|apply qfa|apply qpk|apply qls|apply qei|apply qln|apply qgt|apply qxt|apply qnt)<;>(first|exact rfl|assumption|exact dct (by first|assumption|omega)|exact dcf (by first|assumption|omega)|exact List.not_mem_nil|apply dc_length|apply ec_length|exact nm1 (by omega)|fail))|fail) ?_)
  refine SG.call rfl rfl rfl (vs := [lv room (.slice a5 (lateL now l).length c5), dv o.who]) (by repeat' (first | exact True.intro | exact rho_of rfl | refine And.intro ?_ ?_)) ((rdrop_spec room o.who hS6 (by omega)).mono (fun e w7 hh => ?_))
  obtain ⟨v7, he, ho7, hk7⟩ := hh
  refine ⟨_, he, ?_⟩
  rw [← keepL_eq] at ho7
  generalize keepL now o l = K at ho7 hkl hpl hpe
  obtain ⟨a7, c7, rfl, hc7, hS7⟩ := Sl.own ec_length ho7 rfl
  have hC3 := hC3.kp0 hk7
  have hB5 := hB5.kp0 hk7
  have hB6 := hB6.kp0 hk7
  repeat (first|apply cA|apply cB|apply cD|apply cE|apply cF|apply cH|apply cM|refine cZ rfl rfl rfl rfl (by first|((first|apply qmv|apply qas|apply qlc|apply qla|apply qfa|apply qpk|apply qls|apply qei|apply qln|apply qgt|apply qxt|apply qnt)<;>(first|exact rfl|assumption|exact dct (by first|assumption|omega)|exact dcf (by first|assumption|omega)|exact List.not_mem_nil|apply dc_length|apply ec_length|exact nm1 (by omega)|fail))|fail) ?_)
  refine SG.setAll (l := [.int .i64 room, .slice a7 K.length c7]) rfl rfl (by exact rho_of rfl) (by exact rho_of rfl) hC3 rfl rfl rfl (fun w8 hk8 hD3 => ?_)
  have hD3 : Blk w8 b3 (.cells #[.int .i64 room, .slice a7 K.length c7] 30) := hD3
  have hS8 := hS7.kp hk8 (own_nea ho7 (by decide) hC3)
  have hB5 := hB5.kp hk8 (nm1 (by omega))
  have hB6 := hB6.kp hk8 (nm1 (by omega))
  have k8 := (k6.trans hk7).trans_new hk8 (new1 (by omega))
  clear r2 q0
  obtain ⟨r0, r1, r2⟩ := lv_rows hD3
  have s7 := hk7.size
  have s8 := hk8.size
  by_cases hrm : (K.length : Int) = room
  · have g3 : room ≤ (K.length : Int) := by omega
    rw [if_pos g3] at hpl hpe
    rw [hpl, hpe]
    clear r2
    repeat (first|apply cA|apply cB|apply cD|apply cE|apply cF|apply cH|apply cM|refine cZ rfl rfl rfl rfl (by first|((first|apply qmv|apply qas|apply qlc|apply qla|apply qfa|apply qpk|apply qls|apply qei|apply qln|apply qgt|apply qxt|apply qnt)<;>(first|exact rfl|assumption|exact dct (by first|assumption|omega)|exact dcf (by first|assumption|omega)|exact List.not_mem_nil|apply dc_length|apply ec_length|exact nm1 (by omega)|fail))|fail) ?_)
    refine dD rfl (by exact rho_of rfl) rfl ?_
    clear r0 r1
    obtain ⟨-, -, r2⟩ := lv_rows hD3
    repeat (first|apply cA|apply cB|apply cD|apply cE|apply cF|apply cH|apply cM|refine cZ rfl rfl rfl rfl (by first|((first|apply qmv|apply qas|apply qlc|apply qla|apply qfa|apply qpk|apply qls|apply qei|apply qln|apply qgt|apply qxt|apply qnt)<;>(first|exact rfl|assumption|exact dct (by first|assumption|omega)|exact dcf (by first|assumption|omega)|exact List.not_mem_nil|apply dc_length|apply ec_length|exact nm1 (by omega)|fail))|fail) ?_)
    refine SG.setAll (l := [.int .i64 room, .slice a7 K.length c7]) rfl rfl (by exact rho_of rfl) (by exact rho_of rfl) hB6 rfl rfl rfl (fun w9 hk9 hC => ?_)
    have hrr : Row w9 b6 0 [.int .i64 room, .slice a7 K.length c7] := Row.all hC rfl
    have k9 : Kp [] w w9 := k8.trans_new hk9 (new1 (by omega))
    repeat (first|apply cA|apply cB|apply cD|apply cE|apply cF|apply cH|apply cM|refine cZ rfl rfl rfl rfl (by first|((first|apply qmv|apply qas|apply qlc|apply qla|apply qfa|apply qpk|apply qls|apply qei|apply qln|apply qgt|apply qxt|apply qnt)<;>(first|exact rfl|assumption|exact dct (by first|assumption|omega)|exact dcf (by first|assumption|omega)|exact List.not_mem_nil|apply dc_length|apply ec_length|exact nm1 (by omega)|fail))|fail) ?_)
    refine ret2 (Or.inl rfl) Tryz.results6 (ResV.agg rfl rfl hrr rfl) (by first | exact ResV.tmp rfl | exact ResV.agg rfl rfl (by assumption) (by first | exact dc_length _ | exact nc_length _ | exact rc_length _ _ _ | exact ec_length _ | exact dl_length _ _ _ _ | rfl) | exact ResV.cell rfl rfl (by assumption)) ?_
    have ho8 := own_kp ho7 hk8 (own_neb ho7 (by decide) hC3)
    exact ⟨a7, c7, rfl, hS8.kp hk9 (own_nea ho8 (by decide) hB6), hc7, Ty.own (own_kp ho8 hk9 (own_neb ho8 (by decide) hB6)), k9⟩
  · have g3 : ¬ room ≤ (K.length : Int) := by omega
    rw [if_neg g3] at hpl hpe
    rw [hpl, hpe]
    clear r2
    repeat (first|apply cA|apply cB|apply cD|apply cE|apply cF|apply cH|apply cM|refine cZ rfl rfl rfl rfl (by first|((first|apply qmv|apply qas|apply qlc|apply qla|apply qfa|apply qpk|apply qls|apply qei|apply qln|apply qgt|apply qxt|apply qnt)<;>(first|exact rfl|assumption|exact dct (by first|assumption|omega)|exact dcf (by first|assumption|omega)|exact List.not_mem_nil|apply dc_length|apply ec_length|exact nm1 (by omega)|fail))|fail) ?_)
    refine dE rfl (by exact rho_of rfl) rfl ?_
    clear r0
    have hR5 : Row w8 b5 0 (ec o) := Row.all hB5 rfl
    repeat (first|apply cA|apply cB|apply cD|apply cE|apply cF|apply cH|apply cM|refine cZ rfl rfl rfl rfl (by first|((first|apply qmv|apply qas|apply qlc|apply qla|apply qfa|apply qpk|apply qls|apply qei|apply qln|apply qgt|apply qxt|apply qnt)<;>(first|exact rfl|assumption|exact dct (by first|assumption|omega)|exact dcf (by first|assumption|omega)|exact List.not_mem_nil|apply dc_length|apply ec_length|exact nm1 (by omega)|fail))|fail) ?_)
    refine CG.rows mixed 6 [1, 2, 4, 0, 3, 5] [⟨0, 0, oP w8.heap.size 33 21 ec []⟩, ⟨3, 0, oP w8.heap.size 33 21 ec ([] ++ K)⟩, ⟨5, 1, oP w8.heap.size 33 21 ec [o]⟩] (by kernel_rfl) (by kernel_rfl) (by kernel_rfl) (OkL.all (by repeat' (first | exact OkL.nil | refine OkL.cons ?_ ?_ | exact oP_ok | exact bP_ok))) ?_
    repeat (refine DerR.val rfl rfl rfl rfl (by first|((first|apply qmv|apply qas|apply qlc|apply qla|apply qfa|apply qpk|apply qls|apply qei|apply qln|apply qgt|apply qxt|apply qnt)<;>(first|exact rfl|assumption|exact dct (by first|assumption|omega)|exact dcf (by first|assumption|omega)|exact List.not_mem_nil|apply dc_length|apply ec_length|exact nm1 (by omega)|fail))|fail) ?_)
    refine DerR.buildO [] ec_length rfl rfl rfl rfl rfl (by repeat' (first | exact OkL.nil | refine OkL.cons ?_ ?_ | exact oP_ok | exact bP_ok)) rfl (Nat.le_refl _) (by simp) bsO0 (fun v0 => ?_)
    refine DerR.append (src := 0) [] K [(0, [])] ec_length ec_one rfl rfl (by kernel_rfl) ⟨Nat.le_refl _, trivial⟩ rfl rfl rfl (by repeat' (first | exact OkL.nil | refine OkL.cons ?_ ?_ | exact oP_ok | exact bP_ok)) (by exact rho_of rfl) (by exact rho_of rfl) rfl rfl rfl (by simp only [maxLen, List.length_nil]; omega) (by show (0 + K.length) * 56 ≤ _; omega) (Nat.le_refl _) (.head _) (by kernel_rfl) (fun w hk hF => ⟨_, _, rfl, hS8.kp0 hk⟩) (fun v4 => ?_)
    refine DerR.buildO [o] ec_length rfl rfl rfl rfl rfl (by repeat' (first | exact OkL.nil | refine OkL.cons ?_ ?_ | exact oP_ok | exact bP_ok)) rfl (Nat.le_refl _) (by simp [maxLen]) (fun w => by rw [flt_one]; exact bsO o w) (fun v9 => ?_)
    refine DerR.tl (fun w9 V hok hV => ?_)
    have ho4 : w9.ownsRow w8.heap.size 33 21 v4 K.length (flt ec K) := hok.get hV (.tail _ (.head _)) rfl
    have ho9 : w9.ownsRow w8.heap.size 33 21 v9 ([o] : List Ofr).length (flt ec [o]) := hok.get hV (.head _) rfl
    have hk9 := hok.kp
    obtain ⟨a9, c9, rfl, _, hS9⟩ := Sl.own ec_length ho9 rfl
    refine SG.appO (enc := ec) (xs := K) (ys := [o]) (base := w8.heap.size) rfl rfl rfl (by exact rho_of rfl) (by exact rho_of rfl) rfl rfl rfl rfl ec_length ec_one ho4 hS9 (by simp only [maxLen, List.length_cons, List.length_nil]; omega) (by show (K.length + 1) * 56 ≤ _; omega) hk9.size (fun v10 w10 hk10 ho10 _ => ?_)
    have k810 : Kp [] w8 w10 := hk9.trans_new hk10 (own_new ho4 (Nat.le_refl _))
    have hD3 := hD3.kp0 k810
    have hB6 := hB6.kp0 k810
    obtain ⟨a10, c10, rfl, hc10, hS10⟩ := Sl.own ec_length ho10 rfl
    repeat (first|apply cA|apply cB|apply cD|apply cE|apply cF|apply cH|apply cM|refine cZ rfl rfl rfl rfl (by first|((first|apply qmv|apply qas|apply qlc|apply qla|apply qfa|apply qpk|apply qls|apply qei|apply qln|apply qgt|apply qxt|apply qnt)<;>(first|exact rfl|assumption|exact dct (by first|assumption|omega)|exact dcf (by first|assumption|omega)|exact List.not_mem_nil|apply dc_length|apply ec_length|exact nm1 (by omega)|fail))|fail) ?_)
    refine SG.store rfl rfl (by exact rho_of rfl) (by exact rho_of rfl) hD3 rfl (by show 0 + 1 + 1 ≤ 2; omega) rfl (fun w11 hk11 hE3 => ?_)
    have hE3 : Blk w11 b3 (.cells #[.int .i64 room, .slice a10 (K ++ [o]).length c10] 30) := hE3
    have ho11 := own_kp ho10 hk11 (own_neb ho10 (by decide) hD3)
    have hB11 := hB6.kp hk11 (nm1 (by omega))
    obtain ⟨-, -, r2⟩ := lv_rows hE3
    repeat (first|apply cA|apply cB|apply cD|apply cE|apply cF|apply cH|apply cM|refine cZ rfl rfl rfl rfl (by first|((first|apply qmv|apply qas|apply qlc|apply qla|apply qfa|apply qpk|apply qls|apply qei|apply qln|apply qgt|apply qxt|apply qnt)<;>(first|exact rfl|assumption|exact dct (by first|assumption|omega)|exact dcf (by first|assumption|omega)|exact List.not_mem_nil|apply dc_length|apply ec_length|exact nm1 (by omega)|fail))|fail) ?_)
    refine SG.setAll (l := [.int .i64 room, .slice a10 (K ++ [o]).length c10]) rfl rfl (by exact rho_of rfl) (by exact rho_of rfl) hB11 rfl rfl rfl (fun w12 hk12 hC => ?_)
    have hrr : Row w12 b6 0 [.int .i64 room, .slice a10 (K ++ [o]).length c10] := Row.all hC rfl
    have ho12 := own_kp ho11 hk12 (own_neb ho11 (by decide) hB11)
    obtain ⟨a12, c12, e12, hc12, hS12⟩ := Sl.own ec_length ho12 rfl
    cases e12
    repeat (first|apply cA|apply cB|apply cD|apply cE|apply cF|apply cH|apply cM|refine cZ rfl rfl rfl rfl (by first|((first|apply qmv|apply qas|apply qlc|apply qla|apply qfa|apply qpk|apply qls|apply qei|apply qln|apply qgt|apply qxt|apply qnt)<;>(first|exact rfl|assumption|exact dct (by first|assumption|omega)|exact dcf (by first|assumption|omega)|exact List.not_mem_nil|apply dc_length|apply ec_length|exact nm1 (by omega)|fail))|fail) ?_)
    refine ret2 (Or.inl rfl) Tryz.results6 (ResV.agg rfl rfl hrr rfl) (by first | exact ResV.tmp rfl | exact ResV.agg rfl rfl (by assumption) (by first | exact dc_length _ | exact nc_length _ | exact rc_length _ _ _ | exact ec_length _ | exact dl_length _ _ _ _ | rfl) | exact ResV.cell rfl rfl (by assumption)) ?_
    exact ⟨a10, c10, rfl, hS12, hc12, Ty.own ho12, ((k8.trans k810).trans_new hk11 (new1 (by omega))).trans_new hk12 (new1 (by omega))⟩
end Go.Proofs.YtnoipmimddoioaaGreat
namespace Go.Proofs.YtnoipmimddoioaaGreat
open Go.Proofs
set_option linter.unusedVariables false
theorem bsr (w : World) (a b c e : Int) : (Instr.build 116 #[(0, .int .u64 a), (1, .int .u64 b), (2, .int .u64 c), (3, .int .u64 e)]).run Tryz.prog w = .ok (.agg (hsl ⟨a, b, c, e⟩).toArray) w := by kernel_rfl
theorem bz8 (w : World) : (Instr.build 31 #[]).run Tryz.prog w = .ok (dv zd) w := by kernel_rfl
attribute [local irreducible] CG NG SG Vals Der Row Blk MapIs IterAt addI xorI orI andI shlI shrI mulI
set_option maxHeartbeats 8000000 in
theorem left_spec (w : World) (x k : Int) (h0 : 0 ≤ k ∧ k ≤ 64) : Ret Tryz.prog 100 #[.int .u64 x, .int .u64 k] w (.int .u64 (rotI x k)) := by
  refine enter2 Tryz.func100 rfl Tryz.ntmps100 rfl ?_
  repeat (first|apply cA|apply cB|apply cD|apply cE|apply cF|apply cG|apply cH|apply cJ|apply cU|refine cV rfl ?_|apply cY|refine cZ rfl rfl rfl rfl (by first|((first|apply quad|apply quxo|apply quor|apply qush|apply qusr|apply qusb|apply qia0|apply qmv|apply qas|apply qlc|apply qla|apply qle)<;>(first|exact rfl|assumption|exact Ar.mk (by omega)|exact dct (by first|assumption|omega)|exact dcf (by first|assumption|omega)|exact List.not_mem_nil|exact nm1 (by omega)|fail))|fail) ?_)
  refine ret1 (Or.inl rfl) Tryz.results100 (by first | exact ResV.tmp rfl | exact ResV.agg rfl rfl (by assumption) (by first | exact dc_length _ | exact nc_length _ | exact rc_length _ _ _ | exact ec_length _ | exact dl_length _ _ _ _ | rfl) | exact ResV.cell rfl rfl (by assumption)) ?_
  exact ⟨rfl, Kp.refl _ _⟩
theorem left32 (w : World) (x : Int) : Ret Tryz.prog 100 #[.int .u64 x, .int .u64 32] w (.int .u64 (rotI x 32)) := left_spec w x 32 (by omega)
theorem left24 (w : World) (x : Int) : Ret Tryz.prog 100 #[.int .u64 x, .int .u64 24] w (.int .u64 (rotI x 24)) := left_spec w x 24 (by omega)
theorem left16 (w : World) (x : Int) : Ret Tryz.prog 100 #[.int .u64 x, .int .u64 16] w (.int .u64 (rotI x 16)) := left_spec w x 16 (by omega)
theorem left63 (w : World) (x : Int) : Ret Tryz.prog 100 #[.int .u64 x, .int .u64 63] w (.int .u64 (rotI x 63)) := left_spec w x 63 (by omega)
set_option maxHeartbeats 16000000 in
theorem rstir_spec (s : Hs) (w : World) : Ret Tryz.prog 89 #[.agg (hsl s).toArray] w (.agg (hsl (stirI s)).toArray) := by
  refine enter1 Tryz.func89 rfl Tryz.ntmps89 rfl ?_
  repeat (first|apply cA|apply cB|apply cD|apply cE|apply cF|apply cG|apply cH|apply cJ|apply cU|refine cV rfl ?_|apply cY|refine cZ rfl rfl rfl rfl (by first|((first|apply quad|apply quxo|apply quor|apply qush|apply qusr|apply qusb|apply qia0|apply qmv|apply qas|apply qlc|apply qla|apply qle)<;>(first|exact rfl|assumption|exact Ar.mk (by omega)|exact dct (by first|assumption|omega)|exact dcf (by first|assumption|omega)|exact List.not_mem_nil|exact nm1 (by omega)|fail))|fail) ?_)
  refine SG.box rfl rfl rfl (by exact rho_of rfl) (fun b1 w1 hk1 hb1 hB1 => ?_)
  have hB1 : Blk w1 b1 (.cells (hsl s).toArray 116) := hB1
  refine SG.alloc rfl rfl rfl (fun b2 w2 hk2 hb2 hB2 => ?_)
  have hB2 : Blk w2 b2 (.cells (hsl ⟨0, 0, 0, 0⟩).toArray 116) := hB2
  have l1 := hB1.lt
  have s1 := hk1.size
  have s2 := hk2.size
  have k2 := hk1.trans hk2
  repeat (first|apply cA|apply cB|apply cD|apply cE|apply cF|apply cG|apply cH|apply cJ|apply cU|refine cV rfl ?_|apply cY|refine cZ rfl rfl rfl rfl (by first|((first|apply quad|apply quxo|apply quor|apply qush|apply qusr|apply qusb|apply qia0|apply qmv|apply qas|apply qlc|apply qla|apply qle)<;>(first|exact rfl|assumption|exact Ar.mk (by omega)|exact dct (by first|assumption|omega)|exact dcf (by first|assumption|omega)|exact List.not_mem_nil|exact nm1 (by omega)|fail))|fail) ?_)
  refine CG.loop (X := Nat) (fun i => [(1, .pointer (some ⟨b1, 0, none⟩)), (2, .pointer (some ⟨b2, 0, none⟩)), (3, .int .u64 ((i + 1 : Nat) : Int))])
    (fun i w' => i ≤ 6 ∧ Kp [b1] w2 w' ∧ Blk w' b1 (.cells (hsl (roundsI s i)).toArray 116)) (fun i => 6 - i) 0 ⟨by omega, Kp.refl _ _, hB1.kp0 hk2⟩ (by (repeat' (first | exact True.intro | exact rfl | refine And.intro ?_ ?_))) ?_
  rintro i v0 ⟨hi, hk, hB⟩
  by_cases hlt : i < 6
  · have g1 : ((i + 1 : Nat) : Int) ≤ 6 := by omega
    have e1 := addI_small (k := i + 1) (by omega)
    obtain ⟨r0, r1, r2, r3, _⟩ := hs_rows hB
    generalize hq : roundsI s i = q at hB r0 r1 r2 r3
    repeat (first|apply cA|apply cB|apply cD|apply cE|apply cF|apply cG|apply cH|apply cJ|apply cU|refine cV rfl ?_|apply cY|refine cZ rfl rfl rfl rfl (by first|((first|apply quad|apply quxo|apply quor|apply qush|apply qusr|apply qusb|apply qia0|apply qmv|apply qas|apply qlc|apply qla|apply qle)<;>(first|exact rfl|assumption|exact Ar.mk (by omega)|exact dct (by first|assumption|omega)|exact dcf (by first|assumption|omega)|exact List.not_mem_nil|exact nm1 (by omega)|fail))|fail) ?_)
    refine dD rfl (by exact rho_of rfl) rfl ?_
    repeat (first|apply cA|apply cB|apply cD|apply cE|apply cF|apply cG|apply cH|apply cJ|apply cU|refine cV rfl ?_|apply cY|refine cZ rfl rfl rfl rfl (by first|((first|apply quad|apply quxo|apply quor|apply qush|apply qusr|apply qusb|apply qia0|apply qmv|apply qas|apply qlc|apply qla|apply qle)<;>(first|exact rfl|assumption|exact Ar.mk (by omega)|exact dct (by first|assumption|omega)|exact dcf (by first|assumption|omega)|exact List.not_mem_nil|exact nm1 (by omega)|fail))|fail) ?_)
    generalize hy0 : xorI (addI q.a q.b) ((i + 1 : Nat) : Int) = y0
    refine SG.store rfl rfl (by exact rho_of rfl) (by exact rho_of rfl) hB rfl (by show 0 + 1 ≤ 4; omega) rfl (fun v1 hj1 hB => ?_)
    have hB : Blk v1 b1 (.cells (hsl ⟨y0, q.b, q.c, q.d⟩).toArray 116) := hB
    have hk := hk.trans hj1
    clear r0 r1 r2 r3
    obtain ⟨r0, r1, r2, r3, _⟩ := hs_rows hB
    repeat (first|apply cA|apply cB|apply cD|apply cE|apply cF|apply cG|apply cH|apply cJ|apply cU|refine cV rfl ?_|apply cY|refine cZ rfl rfl rfl rfl (by first|((first|apply quad|apply quxo|apply quor|apply qush|apply qusr|apply qusb|apply qia0|apply qmv|apply qas|apply qlc|apply qla|apply qle)<;>(first|exact rfl|assumption|exact Ar.mk (by omega)|exact dct (by first|assumption|omega)|exact dcf (by first|assumption|omega)|exact List.not_mem_nil|exact nm1 (by omega)|fail))|fail) ?_)
    refine SG.ret rfl rfl rfl (by repeat' (first | exact True.intro | exact rho_of rfl | refine And.intro ?_ ?_)) (left32 v1 _) (fun v2 hj2 => ?_)
    have hB := hB.kp0 hj2
    have hk := hk.trans hj2.any
    repeat (first|apply cA|apply cB|apply cD|apply cE|apply cF|apply cG|apply cH|apply cJ|apply cU|refine cV rfl ?_|apply cY|refine cZ rfl rfl rfl rfl (by first|((first|apply quad|apply quxo|apply quor|apply qush|apply qusr|apply qusb|apply qia0|apply qmv|apply qas|apply qlc|apply qla|apply qle)<;>(first|exact rfl|assumption|exact Ar.mk (by omega)|exact dct (by first|assumption|omega)|exact dcf (by first|assumption|omega)|exact List.not_mem_nil|exact nm1 (by omega)|fail))|fail) ?_)
    generalize hy1 : rotI (xorI q.d y0) 32 = y1
    refine SG.store rfl rfl (by exact rho_of rfl) (by exact rho_of rfl) hB rfl (by show 3 + 1 ≤ 4; omega) rfl (fun v3 hj3 hB => ?_)
    have hB : Blk v3 b1 (.cells (hsl ⟨y0, q.b, q.c, y1⟩).toArray 116) := hB
    have hk := hk.trans hj3
    clear r0 r1 r2 r3
    obtain ⟨r0, r1, r2, r3, _⟩ := hs_rows hB
    repeat (first|apply cA|apply cB|apply cD|apply cE|apply cF|apply cG|apply cH|apply cJ|apply cU|refine cV rfl ?_|apply cY|refine cZ rfl rfl rfl rfl (by first|((first|apply quad|apply quxo|apply quor|apply qush|apply qusr|apply qusb|apply qia0|apply qmv|apply qas|apply qlc|apply qla|apply qle)<;>(first|exact rfl|assumption|exact Ar.mk (by omega)|exact dct (by first|assumption|omega)|exact dcf (by first|assumption|omega)|exact List.not_mem_nil|exact nm1 (by omega)|fail))|fail) ?_)
    generalize hy2 : addI q.c y1 = y2
    refine SG.store rfl rfl (by exact rho_of rfl) (by exact rho_of rfl) hB rfl (by show 2 + 1 ≤ 4; omega) rfl (fun v4 hj4 hB => ?_)
    have hB : Blk v4 b1 (.cells (hsl ⟨y0, q.b, y2, y1⟩).toArray 116) := hB
    have hk := hk.trans hj4
    clear r0 r1 r2 r3
    obtain ⟨r0, r1, r2, r3, _⟩ := hs_rows hB
    repeat (first|apply cA|apply cB|apply cD|apply cE|apply cF|apply cG|apply cH|apply cJ|apply cU|refine cV rfl ?_|apply cY|refine cZ rfl rfl rfl rfl (by first|((first|apply quad|apply quxo|apply quor|apply qush|apply qusr|apply qusb|apply qia0|apply qmv|apply qas|apply qlc|apply qla|apply qle)<;>(first|exact rfl|assumption|exact Ar.mk (by omega)|exact dct (by first|assumption|omega)|exact dcf (by first|assumption|omega)|exact List.not_mem_nil|exact nm1 (by omega)|fail))|fail) ?_)
    refine SG.ret rfl rfl rfl (by repeat' (first | exact True.intro | exact rho_of rfl | refine And.intro ?_ ?_)) (left24 v4 _) (fun v5 hj5 => ?_)
    have hB := hB.kp0 hj5
    have hk := hk.trans hj5.any
    repeat (first|apply cA|apply cB|apply cD|apply cE|apply cF|apply cG|apply cH|apply cJ|apply cU|refine cV rfl ?_|apply cY|refine cZ rfl rfl rfl rfl (by first|((first|apply quad|apply quxo|apply quor|apply qush|apply qusr|apply qusb|apply qia0|apply qmv|apply qas|apply qlc|apply qla|apply qle)<;>(first|exact rfl|assumption|exact Ar.mk (by omega)|exact dct (by first|assumption|omega)|exact dcf (by first|assumption|omega)|exact List.not_mem_nil|exact nm1 (by omega)|fail))|fail) ?_)
    generalize hy3 : rotI (xorI q.b y2) 24 = y3
    refine SG.store rfl rfl (by exact rho_of rfl) (by exact rho_of rfl) hB rfl (by show 1 + 1 ≤ 4; omega) rfl (fun v6 hj6 hB => ?_)
    have hB : Blk v6 b1 (.cells (hsl ⟨y0, y3, y2, y1⟩).toArray 116) := hB
    have hk := hk.trans hj6
    clear r0 r1 r2 r3
    obtain ⟨r0, r1, r2, r3, _⟩ := hs_rows hB
    repeat (first|apply cA|apply cB|apply cD|apply cE|apply cF|apply cG|apply cH|apply cJ|apply cU|refine cV rfl ?_|apply cY|refine cZ rfl rfl rfl rfl (by first|((first|apply quad|apply quxo|apply quor|apply qush|apply qusr|apply qusb|apply qia0|apply qmv|apply qas|apply qlc|apply qla|apply qle)<;>(first|exact rfl|assumption|exact Ar.mk (by omega)|exact dct (by first|assumption|omega)|exact dcf (by first|assumption|omega)|exact List.not_mem_nil|exact nm1 (by omega)|fail))|fail) ?_)
    generalize hy4 : addI y0 y3 = y4
    refine SG.store rfl rfl (by exact rho_of rfl) (by exact rho_of rfl) hB rfl (by show 0 + 1 ≤ 4; omega) rfl (fun v7 hj7 hB => ?_)
    have hB : Blk v7 b1 (.cells (hsl ⟨y4, y3, y2, y1⟩).toArray 116) := hB
    have hk := hk.trans hj7
    clear r0 r1 r2 r3
    obtain ⟨r0, r1, r2, r3, _⟩ := hs_rows hB
    repeat (first|apply cA|apply cB|apply cD|apply cE|apply cF|apply cG|apply cH|apply cJ|apply cU|refine cV rfl ?_|apply cY|refine cZ rfl rfl rfl rfl (by first|((first|apply quad|apply quxo|apply quor|apply qush|apply qusr|apply qusb|apply qia0|apply qmv|apply qas|apply qlc|apply qla|apply qle)<;>(first|exact rfl|assumption|exact Ar.mk (by omega)|exact dct (by first|assumption|omega)|exact dcf (by first|assumption|omega)|exact List.not_mem_nil|exact nm1 (by omega)|fail))|fail) ?_)
    refine SG.ret rfl rfl rfl (by repeat' (first | exact True.intro | exact rho_of rfl | refine And.intro ?_ ?_)) (left16 v7 _) (fun v8 hj8 => ?_)
    have hB := hB.kp0 hj8
    have hk := hk.trans hj8.any
    repeat (first|apply cA|apply cB|apply cD|apply cE|apply cF|apply cG|apply cH|apply cJ|apply cU|refine cV rfl ?_|apply cY|refine cZ rfl rfl rfl rfl (by first|((first|apply quad|apply quxo|apply quor|apply qush|apply qusr|apply qusb|apply qia0|apply qmv|apply qas|apply qlc|apply qla|apply qle)<;>(first|exact rfl|assumption|exact Ar.mk (by omega)|exact dct (by first|assumption|omega)|exact dcf (by first|assumption|omega)|exact List.not_mem_nil|exact nm1 (by omega)|fail))|fail) ?_)
    generalize hy5 : rotI (xorI y1 y4) 16 = y5
    refine SG.store rfl rfl (by exact rho_of rfl) (by exact rho_of rfl) hB rfl (by show 3 + 1 ≤ 4; omega) rfl (fun v9 hj9 hB => ?_)
    have hB : Blk v9 b1 (.cells (hsl ⟨y4, y3, y2, y5⟩).toArray 116) := hB
    have hk := hk.trans hj9
    clear r0 r1 r2 r3
    obtain ⟨r0, r1, r2, r3, _⟩ := hs_rows hB
    repeat (first|apply cA|apply cB|apply cD|apply cE|apply cF|apply cG|apply cH|apply cJ|apply cU|refine cV rfl ?_|apply cY|refine cZ rfl rfl rfl rfl (by first|((first|apply quad|apply quxo|apply quor|apply qush|apply qusr|apply qusb|apply qia0|apply qmv|apply qas|apply qlc|apply qla|apply qle)<;>(first|exact rfl|assumption|exact Ar.mk (by omega)|exact dct (by first|assumption|omega)|exact dcf (by first|assumption|omega)|exact List.not_mem_nil|exact nm1 (by omega)|fail))|fail) ?_)
    generalize hy6 : addI y2 y5 = y6
    refine SG.store rfl rfl (by exact rho_of rfl) (by exact rho_of rfl) hB rfl (by show 2 + 1 ≤ 4; omega) rfl (fun v10 hj10 hB => ?_)
    have hB : Blk v10 b1 (.cells (hsl ⟨y4, y3, y6, y5⟩).toArray 116) := hB
    have hk := hk.trans hj10
    clear r0 r1 r2 r3
    obtain ⟨r0, r1, r2, r3, _⟩ := hs_rows hB
    repeat (first|apply cA|apply cB|apply cD|apply cE|apply cF|apply cG|apply cH|apply cJ|apply cU|refine cV rfl ?_|apply cY|refine cZ rfl rfl rfl rfl (by first|((first|apply quad|apply quxo|apply quor|apply qush|apply qusr|apply qusb|apply qia0|apply qmv|apply qas|apply qlc|apply qla|apply qle)<;>(first|exact rfl|assumption|exact Ar.mk (by omega)|exact dct (by first|assumption|omega)|exact dcf (by first|assumption|omega)|exact List.not_mem_nil|exact nm1 (by omega)|fail))|fail) ?_)
    refine SG.ret rfl rfl rfl (by repeat' (first | exact True.intro | exact rho_of rfl | refine And.intro ?_ ?_)) (left63 v10 _) (fun v11 hj11 => ?_)
    have hB := hB.kp0 hj11
    have hk := hk.trans hj11.any
    repeat (first|apply cA|apply cB|apply cD|apply cE|apply cF|apply cG|apply cH|apply cJ|apply cU|refine cV rfl ?_|apply cY|refine cZ rfl rfl rfl rfl (by first|((first|apply quad|apply quxo|apply quor|apply qush|apply qusr|apply qusb|apply qia0|apply qmv|apply qas|apply qlc|apply qla|apply qle)<;>(first|exact rfl|assumption|exact Ar.mk (by omega)|exact dct (by first|assumption|omega)|exact dcf (by first|assumption|omega)|exact List.not_mem_nil|exact nm1 (by omega)|fail))|fail) ?_)
    generalize hy7 : rotI (xorI y3 y6) 63 = y7
    refine SG.store rfl rfl (by exact rho_of rfl) (by exact rho_of rfl) hB rfl (by show 1 + 1 ≤ 4; omega) rfl (fun v12 hj12 hB => ?_)
    have hB : Blk v12 b1 (.cells (hsl ⟨y4, y7, y6, y5⟩).toArray 116) := hB
    have hk := hk.trans hj12
    clear r0 r1 r2 r3
    obtain ⟨r0, r1, r2, r3, _⟩ := hs_rows hB
    repeat (first|apply cA|apply cB|apply cD|apply cE|apply cF|apply cG|apply cH|apply cJ|apply cU|refine cV rfl ?_|apply cY|refine cZ rfl rfl rfl rfl (by first|((first|apply quad|apply quxo|apply quor|apply qush|apply qusr|apply qusb|apply qia0|apply qmv|apply qas|apply qlc|apply qla|apply qle)<;>(first|exact rfl|assumption|exact Ar.mk (by omega)|exact dct (by first|assumption|omega)|exact dcf (by first|assumption|omega)|exact List.not_mem_nil|exact nm1 (by omega)|fail))|fail) ?_)
    rw [e1]
    refine NG.round (i + 1) (by (repeat' (first | exact True.intro | exact rfl | refine And.intro ?_ ?_))) ⟨by omega, hk, ?_⟩ (by omega)
    have e : roundsI s (i + 1) = ⟨y4, y7, y6, y5⟩ := by
      rw [roundsI, hq, ← hy7, ← hy6, ← hy5, ← hy4, ← hy3, ← hy2, ← hy1, ← hy0]
      rfl
    rw [e]
    exact hB
  · have g1 : ¬ ((i + 1 : Nat) : Int) ≤ 6 := by omega
    have e6 : i = 6 := by omega
    subst e6
    have hr : Row v0 b1 0 (hsl (stirI s)) := Row.all hB rfl
    repeat (first|apply cA|apply cB|apply cD|apply cE|apply cF|apply cG|apply cH|apply cJ|apply cU|refine cV rfl ?_|apply cY|refine cZ rfl rfl rfl rfl (by first|((first|apply quad|apply quxo|apply quor|apply qush|apply qusr|apply qusb|apply qia0|apply qmv|apply qas|apply qlc|apply qla|apply qle)<;>(first|exact rfl|assumption|exact Ar.mk (by omega)|exact dct (by first|assumption|omega)|exact dcf (by first|assumption|omega)|exact List.not_mem_nil|exact nm1 (by omega)|fail))|fail) ?_)
    refine dE rfl (by exact rho_of rfl) rfl ?_
    repeat (first|apply cA|apply cB|apply cD|apply cE|apply cF|apply cG|apply cH|apply cJ|apply cU|refine cV rfl ?_|apply cY|refine cZ rfl rfl rfl rfl (by first|((first|apply quad|apply quxo|apply quor|apply qush|apply qusr|apply qusb|apply qia0|apply qmv|apply qas|apply qlc|apply qla|apply qle)<;>(first|exact rfl|assumption|exact Ar.mk (by omega)|exact dct (by first|assumption|omega)|exact dcf (by first|assumption|omega)|exact List.not_mem_nil|exact nm1 (by omega)|fail))|fail) ?_)
    refine SG.setAll (old := hsl ⟨0, 0, 0, 0⟩) (l := hsl (stirI s)) rfl rfl (by exact rho_of rfl) (by exact rho_of rfl) (hB2.kp hk (nm1 (by omega))) rfl rfl rfl (fun w3 hk3 hB3 => ?_)
    have hr3 : Row w3 b2 0 (hsl (stirI s)) := Row.all hB3 rfl
    repeat (first|apply cA|apply cB|apply cD|apply cE|apply cF|apply cG|apply cH|apply cJ|apply cU|refine cV rfl ?_|apply cY|refine cZ rfl rfl rfl rfl (by first|((first|apply quad|apply quxo|apply quor|apply qush|apply qusr|apply qusb|apply qia0|apply qmv|apply qas|apply qlc|apply qla|apply qle)<;>(first|exact rfl|assumption|exact Ar.mk (by omega)|exact dct (by first|assumption|omega)|exact dcf (by first|assumption|omega)|exact List.not_mem_nil|exact nm1 (by omega)|fail))|fail) ?_)
    refine ret1 (Or.inl rfl) Tryz.results89 (by first | exact ResV.tmp rfl | exact ResV.agg rfl rfl (by assumption) (by first | exact dc_length _ | exact nc_length _ | exact rc_length _ _ _ | exact ec_length _ | exact dl_length _ _ _ _ | rfl) | exact ResV.cell rfl rfl (by assumption)) ?_
    exact ⟨rfl, (k2.trans_new hk (new1 (by omega))).trans_new hk3 (new1 (by omega))⟩
set_option maxHeartbeats 8000000 in
theorem rbegin_spec (z : Int) (w : World) : Ret Tryz.prog 67 #[.int .u64 z] w (.agg (hsl (beginI z)).toArray) := by
  refine enter1 Tryz.func67 rfl Tryz.ntmps67 rfl ?_
  repeat (first|apply cA|apply cB|apply cD|apply cE|apply cF|apply cG|apply cH|apply cJ|apply cU|refine cV rfl ?_|apply cY|refine cZ rfl rfl rfl rfl (by first|((first|apply quad|apply quxo|apply quor|apply qush|apply qusr|apply qusb|apply qia0|apply qmv|apply qas|apply qlc|apply qla|apply qle)<;>(first|exact rfl|assumption|exact Ar.mk (by omega)|exact dct (by first|assumption|omega)|exact dcf (by first|assumption|omega)|exact List.not_mem_nil|exact nm1 (by omega)|fail))|fail) ?_)
  refine SG.alloc rfl rfl rfl (fun b2 w1 hk1 hb2 hB2 => ?_)
  have hB2 : Blk w1 b2 (.cells (hsl ⟨0, 0, 0, 0⟩).toArray 116) := hB2
  repeat (first|apply cA|apply cB|apply cD|apply cE|apply cF|apply cG|apply cH|apply cJ|apply cU|refine cV rfl ?_|apply cY|refine cZ rfl rfl rfl rfl (by first|((first|apply quad|apply quxo|apply quor|apply qush|apply qusr|apply qusb|apply qia0|apply qmv|apply qas|apply qlc|apply qla|apply qle)<;>(first|exact rfl|assumption|exact Ar.mk (by omega)|exact dct (by first|assumption|omega)|exact dcf (by first|assumption|omega)|exact List.not_mem_nil|exact nm1 (by omega)|fail))|fail) ?_)
  refine cZ rfl rfl rfl rfl (vals_build rfl (fun w => bsr w _ _ _ _)) ?_
  refine SG.setAll (old := hsl ⟨0, 0, 0, 0⟩) (l := hsl (beginI z)) rfl rfl (by exact rho_of rfl) (by exact rho_of rfl) hB2 rfl rfl rfl (fun w2 hk2 hB3 => ?_)
  have hr : Row w2 b2 0 (hsl (beginI z)) := Row.all hB3 rfl
  repeat (first|apply cA|apply cB|apply cD|apply cE|apply cF|apply cG|apply cH|apply cJ|apply cU|refine cV rfl ?_|apply cY|refine cZ rfl rfl rfl rfl (by first|((first|apply quad|apply quxo|apply quor|apply qush|apply qusr|apply qusb|apply qia0|apply qmv|apply qas|apply qlc|apply qla|apply qle)<;>(first|exact rfl|assumption|exact Ar.mk (by omega)|exact dct (by first|assumption|omega)|exact dcf (by first|assumption|omega)|exact List.not_mem_nil|exact nm1 (by omega)|fail))|fail) ?_)
  refine ret1 (Or.inl rfl) Tryz.results67 (by first | exact ResV.tmp rfl | exact ResV.agg rfl rfl (by assumption) (by first | exact dc_length _ | exact nc_length _ | exact rc_length _ _ _ | exact ec_length _ | exact dl_length _ _ _ _ | rfl) | exact ResV.cell rfl rfl (by assumption)) ?_
  exact ⟨rfl, hk1.trans_new hk2 (new1 hb2)⟩
set_option maxHeartbeats 8000000 in
theorem rin_spec (s : Hs) (z : Int) (w : World) : Ret Tryz.prog 68 #[.agg (hsl s).toArray, .int .u64 z] w (.agg (hsl (takeI s z)).toArray) := by
  refine enter2 Tryz.func68 rfl Tryz.ntmps68 rfl ?_
  repeat (first|apply cA|apply cB|apply cD|apply cE|apply cF|apply cG|apply cH|apply cJ|apply cU|refine cV rfl ?_|apply cY|refine cZ rfl rfl rfl rfl (by first|((first|apply quad|apply quxo|apply quor|apply qush|apply qusr|apply qusb|apply qia0|apply qmv|apply qas|apply qlc|apply qla|apply qle)<;>(first|exact rfl|assumption|exact Ar.mk (by omega)|exact dct (by first|assumption|omega)|exact dcf (by first|assumption|omega)|exact List.not_mem_nil|exact nm1 (by omega)|fail))|fail) ?_)
  refine SG.box rfl rfl rfl (by exact rho_of rfl) (fun b1 w1 hk1 hb1 hB1 => ?_)
  have hB1 : Blk w1 b1 (.cells (hsl s).toArray 116) := hB1
  refine SG.alloc rfl rfl rfl (fun b2 w2 hk2 hb2 hB2 => ?_)
  have hB2 : Blk w2 b2 (.cells (hsl ⟨0, 0, 0, 0⟩).toArray 116) := hB2
  have l1 := hB1.lt
  have hB1 := hB1.kp0 hk2
  obtain ⟨r0, r1, r2, r3, _⟩ := hs_rows hB1
  repeat (first|apply cA|apply cB|apply cD|apply cE|apply cF|apply cG|apply cH|apply cJ|apply cU|refine cV rfl ?_|apply cY|refine cZ rfl rfl rfl rfl (by first|((first|apply quad|apply quxo|apply quor|apply qush|apply qusr|apply qusb|apply qia0|apply qmv|apply qas|apply qlc|apply qla|apply qle)<;>(first|exact rfl|assumption|exact Ar.mk (by omega)|exact dct (by first|assumption|omega)|exact dcf (by first|assumption|omega)|exact List.not_mem_nil|exact nm1 (by omega)|fail))|fail) ?_)
  refine SG.store rfl rfl (by exact rho_of rfl) (by exact rho_of rfl) hB1 rfl (by show 0 + 1 ≤ 4; omega) rfl (fun w3 hk3 hB => ?_)
  have hB : Blk w3 b1 (.cells (hsl ⟨xorI s.a z, s.b, s.c, s.d⟩).toArray 116) := hB
  have hr := Row.all hB rfl
  have hr : Row w3 b1 0 (hsl ⟨xorI s.a z, s.b, s.c, s.d⟩) := hr
  repeat (first|apply cA|apply cB|apply cD|apply cE|apply cF|apply cG|apply cH|apply cJ|apply cU|refine cV rfl ?_|apply cY|refine cZ rfl rfl rfl rfl (by first|((first|apply quad|apply quxo|apply quor|apply qush|apply qusr|apply qusb|apply qia0|apply qmv|apply qas|apply qlc|apply qla|apply qle)<;>(first|exact rfl|assumption|exact Ar.mk (by omega)|exact dct (by first|assumption|omega)|exact dcf (by first|assumption|omega)|exact List.not_mem_nil|exact nm1 (by omega)|fail))|fail) ?_)
  refine SG.ret rfl rfl rfl (by repeat' (first | exact True.intro | exact rho_of rfl | refine And.intro ?_ ?_)) (rstir_spec _ w3) (fun w4 hk4 => ?_)
  refine SG.setAll (old := hsl ⟨0, 0, 0, 0⟩) (l := hsl (takeI s z)) rfl rfl (by exact rho_of rfl) (by exact rho_of rfl) ((hB2.kp hk3 (nm1 (by omega))).kp0 hk4) rfl rfl rfl (fun w5 hk5 hB5 => ?_)
  have hr5 : Row w5 b2 0 (hsl (takeI s z)) := Row.all hB5 rfl
  have s1 := hk1.size
  have s2 := hk2.size
  repeat (first|apply cA|apply cB|apply cD|apply cE|apply cF|apply cG|apply cH|apply cJ|apply cU|refine cV rfl ?_|apply cY|refine cZ rfl rfl rfl rfl (by first|((first|apply quad|apply quxo|apply quor|apply qush|apply qusr|apply qusb|apply qia0|apply qmv|apply qas|apply qlc|apply qla|apply qle)<;>(first|exact rfl|assumption|exact Ar.mk (by omega)|exact dct (by first|assumption|omega)|exact dcf (by first|assumption|omega)|exact List.not_mem_nil|exact nm1 (by omega)|fail))|fail) ?_)
  refine ret1 (Or.inl rfl) Tryz.results68 (by first | exact ResV.tmp rfl | exact ResV.agg rfl rfl (by assumption) (by first | exact dc_length _ | exact nc_length _ | exact rc_length _ _ _ | exact ec_length _ | exact dl_length _ _ _ _ | rfl) | exact ResV.cell rfl rfl (by assumption)) ?_
  exact ⟨rfl, (((hk1.trans hk2).trans_new hk3 (new1 (by omega))).trans hk4).trans_new hk5 (new1 (by omega))⟩
end Go.Proofs.YtnoipmimddoioaaGreat
namespace Go.Proofs.YtnoipmimddoioaaGreat
open Go.Proofs
set_option linter.unusedVariables false
attribute [local irreducible] CG NG SG Vals Der Row Blk MapIs IterAt addI xorI orI andI shlI shrI mulI
theorem frm_step {n i : Nat} : UInt8.ofNat (n / 2 ^ (8 * i)) = toB (((n / 2 ^ (8 * i) : Nat) : Int) % 256) := by
  unfold toB
  have e : ((n / 2 ^ (8 * i) : Nat) : Int) % 256 % 256 = ((n / 2 ^ (8 * i) % 256 : Nat) : Int) := by omega
  rw [e, Int.toNat_natCast]
  apply UInt8.toNat_inj.1
  rw [UInt8.toNat_ofNat', UInt8.toNat_ofNat']
  omega
set_option maxHeartbeats 8000000 in
theorem rfrom_spec (n : Nat) (hn : n < 18446744073709551616) (w : World) : Ret Tryz.prog 90 #[.int .u64 (n : Int)] w (dv (frm n)) := by
  refine enter1 Tryz.func90 rfl Tryz.ntmps90 rfl ?_
  repeat (first|apply cA|apply cB|apply cD|apply cE|apply cF|apply cG|apply cH|apply cJ|apply cU|refine cV rfl ?_|apply cY|refine cZ rfl rfl rfl rfl (by first|(apply q64b<;>(first|exact rfl|assumption|exact Ar.mk (by omega)|exact dct (by first|assumption|omega)|exact dcf (by first|assumption|omega)|exact List.not_mem_nil|apply dc_length|exact nm1 (by omega)|fail))|((first|apply qqu|apply qru|apply qia|apply qmv|apply qas|apply qla|apply qls|apply qad)<;>(first|exact rfl|assumption|exact Ar.mk (by omega)|exact dct (by first|assumption|omega)|exact dcf (by first|assumption|omega)|exact List.not_mem_nil|apply dc_length|exact nm1 (by omega)|fail))|fail) ?_)
  refine SG.alloc rfl rfl rfl (fun b2 w1 hk1 hb2 hB2 => ?_)
  repeat (first|apply cA|apply cB|apply cD|apply cE|apply cF|apply cG|apply cH|apply cJ|apply cU|refine cV rfl ?_|apply cY|refine cZ rfl rfl rfl rfl (by first|(apply q64b<;>(first|exact rfl|assumption|exact Ar.mk (by omega)|exact dct (by first|assumption|omega)|exact dcf (by first|assumption|omega)|exact List.not_mem_nil|apply dc_length|exact nm1 (by omega)|fail))|((first|apply qqu|apply qru|apply qia|apply qmv|apply qas|apply qla|apply qls|apply qad)<;>(first|exact rfl|assumption|exact Ar.mk (by omega)|exact dct (by first|assumption|omega)|exact dcf (by first|assumption|omega)|exact List.not_mem_nil|apply dc_length|exact nm1 (by omega)|fail))|fail) ?_)
  refine cZ rfl rfl rfl rfl (vals_build rfl bz8) ?_
  refine SG.alloc rfl rfl rfl (fun b3 w2 hk2 hb3 hB3 => ?_)
  have hB2 : Blk w1 b2 (.cells (dc zd).toArray 31) := hB2
  have hB3 : Blk w2 b3 (.cells (dc zd).toArray 31) := hB3
  refine SG.setAll (old := dc zd) (l := dc zd) rfl rfl (by exact rho_of rfl) (by exact rho_of rfl) hB3 (dc_length _) (dc_length _) (dc_one _) (fun w2' hk2' hB3 => ?_)
  have hl2 := hB2.lt
  have s1 := hk1.size
  have s2 := hk2.size
  repeat (first|apply cA|apply cB|apply cD|apply cE|apply cF|apply cG|apply cH|apply cJ|apply cU|refine cV rfl ?_|apply cY|refine cZ rfl rfl rfl rfl (by first|(apply q64b<;>(first|exact rfl|assumption|exact Ar.mk (by omega)|exact dct (by first|assumption|omega)|exact dcf (by first|assumption|omega)|exact List.not_mem_nil|apply dc_length|exact nm1 (by omega)|fail))|((first|apply qqu|apply qru|apply qia|apply qmv|apply qas|apply qla|apply qls|apply qad)<;>(first|exact rfl|assumption|exact Ar.mk (by omega)|exact dct (by first|assumption|omega)|exact dcf (by first|assumption|omega)|exact List.not_mem_nil|apply dc_length|exact nm1 (by omega)|fail))|fail) ?_)
  refine CG.loop (X := Nat) (fun i => [(0, .int .u64 ((n / 2 ^ (8 * i) : Nat) : Int)), (2, .pointer (some ⟨b2, 0, none⟩)), (3, .pointer (some ⟨b3, 0, none⟩)), (4, .int .i64 (i : Int))])
    (fun i w' => i ≤ 8 ∧ Kp [b3] w2 w' ∧ Blk w' b3 (.cells (part n i).toArray 31)) (fun i => 8 - i) 0 ⟨by omega, hk2', hB3⟩ (by simp only [Nat.mul_zero, Nat.pow_zero, Nat.div_one]; (repeat' (first | exact True.intro | exact rfl | refine And.intro ?_ ?_))) ?_
  rintro i w3 ⟨hi, hk3, hB⟩
  by_cases hlt : i < 8
  · have g1 : (i : Int) < 8 := by omega
    have hb : Ar (0 ≤ ((n / 2 ^ (8 * i) : Nat) : Int) ∧ ((n / 2 ^ (8 * i) : Nat) : Int) < 18446744073709551616 ∧ (0 : Int) < 256) := ⟨by
      have h1 := Nat.div_le_self n (2 ^ (8 * i))
      generalize n / 2 ^ (8 * i) = q at h1 ⊢
      omega⟩
    have e2 : ((n / 2 ^ (8 * i) : Nat) : Int) / 256 = ((n / 2 ^ (8 * (i + 1)) : Nat) : Int) := by
      have : (2 : Nat) ^ (8 * (i + 1)) = 2 ^ (8 * i) * 256 := by rw [Nat.mul_add, Nat.pow_add]
      rw [this, ← Nat.div_div_eq_div_mul]
      omega
    have e3 := frm_step (n := n) (i := i)
    generalize hm : n / 2 ^ (8 * i) = m at hb e2 e3 ⊢
    repeat (first|apply cA|apply cB|apply cD|apply cE|apply cF|apply cG|apply cH|apply cJ|apply cU|refine cV rfl ?_|apply cY|refine cZ rfl rfl rfl rfl (by first|(apply q64b<;>(first|exact rfl|assumption|exact Ar.mk (by omega)|exact dct (by first|assumption|omega)|exact dcf (by first|assumption|omega)|exact List.not_mem_nil|apply dc_length|exact nm1 (by omega)|fail))|((first|apply qqu|apply qru|apply qia|apply qmv|apply qas|apply qla|apply qls|apply qad)<;>(first|exact rfl|assumption|exact Ar.mk (by omega)|exact dct (by first|assumption|omega)|exact dcf (by first|assumption|omega)|exact List.not_mem_nil|apply dc_length|exact nm1 (by omega)|fail))|fail) ?_)
    refine dD rfl (by exact rho_of rfl) rfl ?_
    repeat (first|apply cA|apply cB|apply cD|apply cE|apply cF|apply cG|apply cH|apply cJ|apply cU|refine cV rfl ?_|apply cY|refine cZ rfl rfl rfl rfl (by first|(apply q64b<;>(first|exact rfl|assumption|exact Ar.mk (by omega)|exact dct (by first|assumption|omega)|exact dcf (by first|assumption|omega)|exact List.not_mem_nil|apply dc_length|exact nm1 (by omega)|fail))|((first|apply qqu|apply qru|apply qia|apply qmv|apply qas|apply qla|apply qls|apply qad)<;>(first|exact rfl|assumption|exact Ar.mk (by omega)|exact dct (by first|assumption|omega)|exact dcf (by first|assumption|omega)|exact List.not_mem_nil|apply dc_length|exact nm1 (by omega)|fail))|fail) ?_)
    rw [← e3]
    refine SG.store rfl rfl (by exact rho_of rfl) (by exact rho_of rfl) hB rfl (by show 0 + i * 1 + 1 ≤ (part n i).toArray.size; simp [part_length hi]; omega) rfl (fun w4 hk4 hB4 => ?_)
    have hB4 : Blk w4 b3 (.cells (spl (part n i) (0 + i * 1) [bv (UInt8.ofNat m)]).toArray 31) := hB4
    repeat (first|apply cA|apply cB|apply cD|apply cE|apply cF|apply cG|apply cH|apply cJ|apply cU|refine cV rfl ?_|apply cY|refine cZ rfl rfl rfl rfl (by first|(apply q64b<;>(first|exact rfl|assumption|exact Ar.mk (by omega)|exact dct (by first|assumption|omega)|exact dcf (by first|assumption|omega)|exact List.not_mem_nil|apply dc_length|exact nm1 (by omega)|fail))|((first|apply qqu|apply qru|apply qia|apply qmv|apply qas|apply qla|apply qls|apply qad)<;>(first|exact rfl|assumption|exact Ar.mk (by omega)|exact dct (by first|assumption|omega)|exact dcf (by first|assumption|omega)|exact List.not_mem_nil|apply dc_length|exact nm1 (by omega)|fail))|fail) ?_)
    rw [e2]
    refine NG.round (i + 1) (by (repeat' (first | exact True.intro | exact rfl | refine And.intro ?_ ?_))) ⟨by omega, hk3.trans hk4, ?_⟩ (by omega)
    rw [← hm, show 0 + i * 1 = i from by omega, part_step hlt] at hB4
    exact hB4
  · have g1 : ¬ (i : Int) < 8 := by omega
    have e8 : i = 8 := by omega
    subst e8
    rw [part_all] at hB
    have hr : Row w3 b3 0 (dc (frm n)) := Row.all hB rfl
    repeat (first|apply cA|apply cB|apply cD|apply cE|apply cF|apply cG|apply cH|apply cJ|apply cU|refine cV rfl ?_|apply cY|refine cZ rfl rfl rfl rfl (by first|(apply q64b<;>(first|exact rfl|assumption|exact Ar.mk (by omega)|exact dct (by first|assumption|omega)|exact dcf (by first|assumption|omega)|exact List.not_mem_nil|apply dc_length|exact nm1 (by omega)|fail))|((first|apply qqu|apply qru|apply qia|apply qmv|apply qas|apply qla|apply qls|apply qad)<;>(first|exact rfl|assumption|exact Ar.mk (by omega)|exact dct (by first|assumption|omega)|exact dcf (by first|assumption|omega)|exact List.not_mem_nil|apply dc_length|exact nm1 (by omega)|fail))|fail) ?_)
    refine dE rfl (by exact rho_of rfl) rfl ?_
    repeat (first|apply cA|apply cB|apply cD|apply cE|apply cF|apply cG|apply cH|apply cJ|apply cU|refine cV rfl ?_|apply cY|refine cZ rfl rfl rfl rfl (by first|(apply q64b<;>(first|exact rfl|assumption|exact Ar.mk (by omega)|exact dct (by first|assumption|omega)|exact dcf (by first|assumption|omega)|exact List.not_mem_nil|apply dc_length|exact nm1 (by omega)|fail))|((first|apply qqu|apply qru|apply qia|apply qmv|apply qas|apply qla|apply qls|apply qad)<;>(first|exact rfl|assumption|exact Ar.mk (by omega)|exact dct (by first|assumption|omega)|exact dcf (by first|assumption|omega)|exact List.not_mem_nil|apply dc_length|exact nm1 (by omega)|fail))|fail) ?_)
    refine SG.setAll (old := dc zd) (l := dc (frm n)) rfl rfl (by exact rho_of rfl) (by exact rho_of rfl) ((hB2.kp0 hk2).kp hk3 (nm1 (by omega))) (dc_length _) (dc_length _) (dc_one _) (fun w4 hk4 hB4 => ?_)
    have hr4 : Row w4 b2 0 (dc (frm n)) := Row.all hB4 rfl
    repeat (first|apply cA|apply cB|apply cD|apply cE|apply cF|apply cG|apply cH|apply cJ|apply cU|refine cV rfl ?_|apply cY|refine cZ rfl rfl rfl rfl (by first|(apply q64b<;>(first|exact rfl|assumption|exact Ar.mk (by omega)|exact dct (by first|assumption|omega)|exact dcf (by first|assumption|omega)|exact List.not_mem_nil|apply dc_length|exact nm1 (by omega)|fail))|((first|apply qqu|apply qru|apply qia|apply qmv|apply qas|apply qla|apply qls|apply qad)<;>(first|exact rfl|assumption|exact Ar.mk (by omega)|exact dct (by first|assumption|omega)|exact dcf (by first|assumption|omega)|exact List.not_mem_nil|apply dc_length|exact nm1 (by omega)|fail))|fail) ?_)
    refine ret1 (Or.inl rfl) Tryz.results90 (by first | exact ResV.tmp rfl | exact ResV.agg rfl rfl (by assumption) (by first | exact dc_length _ | exact nc_length _ | exact rc_length _ _ _ | exact ec_length _ | exact dl_length _ _ _ _ | rfl) | exact ResV.cell rfl rfl (by assumption)) ?_
    exact ⟨rfl, ((hk1.trans hk2).trans_new hk3 (new1 (by omega))).trans_new hk4 (new1 hb2)⟩
end Go.Proofs.YtnoipmimddoioaaGreat
namespace Go.Proofs.YtnoipmimddoioaaGreat
open Go.Proofs
set_option linter.unusedVariables false
theorem row_at {w : World} {b off i : Nat} {l : List Value} {v : Value} (h : Row w b off l) (hv : l[i]? = some v) : Row w b (off + i * 1) [v] := by
  obtain ⟨cs, T, f, h1, h2⟩ := h
  refine ⟨cs, T, f, h1, fun j u hj => ?_⟩
  cases j with
  | zero =>
    simp at hj
    subst hj
    rw [show off + i * 1 + 0 = off + i from by omega]
    exact h2 i v hv
  | succ j => simp at hj
attribute [local irreducible] CG NG SG Vals Der Row Blk MapIs IterAt addI xorI orI andI shlI shrI mulI
set_option maxHeartbeats 8000000 in
theorem rnum_spec (d : Dg) (w : World) : Ret Tryz.prog 49 #[dv d] w (.int .u64 (num d : Int)) := by
  refine enter1 Tryz.func49 rfl Tryz.ntmps49 rfl ?_
  repeat (first|apply cA|apply cB|apply cD|apply cE|apply cF|apply cG|apply cH|apply cJ|apply cU|refine cV rfl ?_|apply cY|refine cZ rfl rfl rfl rfl (by first|(apply qb64<;>(first|exact rfl|assumption|exact Ar.mk (by omega)|exact dct (by first|assumption|omega)|exact dcf (by first|assumption|omega)|exact List.not_mem_nil|apply dc_length|fail))|((first|apply quad|apply quml|apply quxo|apply qia0|apply qia|apply qmv|apply qas|apply qlc|apply qge|apply qsb)<;>(first|exact rfl|assumption|exact Ar.mk (by omega)|exact dct (by first|assumption|omega)|exact dcf (by first|assumption|omega)|exact List.not_mem_nil|apply dc_length|fail))|fail) ?_)
  refine SG.box rfl rfl rfl (by exact rho_of rfl) (fun b1 w1 hk1 hb1 hB1 => ?_)
  have hB1 : Blk w1 b1 (.cells (dc d).toArray 31) := hB1
  have hr := Row.all hB1 (l := dc d) rfl
  repeat (first|apply cA|apply cB|apply cD|apply cE|apply cF|apply cG|apply cH|apply cJ|apply cU|refine cV rfl ?_|apply cY|refine cZ rfl rfl rfl rfl (by first|(apply qb64<;>(first|exact rfl|assumption|exact Ar.mk (by omega)|exact dct (by first|assumption|omega)|exact dcf (by first|assumption|omega)|exact List.not_mem_nil|apply dc_length|fail))|((first|apply quad|apply quml|apply quxo|apply qia0|apply qia|apply qmv|apply qas|apply qlc|apply qge|apply qsb)<;>(first|exact rfl|assumption|exact Ar.mk (by omega)|exact dct (by first|assumption|omega)|exact dcf (by first|assumption|omega)|exact List.not_mem_nil|apply dc_length|fail))|fail) ?_)
  have h8 : val (d.1.drop 8) = 0 := by rw [List.drop_of_length_le (by rw [d.2]; omega)]; rfl
  refine CG.loop (X := Nat) (fun j => [(1, .pointer (some ⟨b1, 0, none⟩)), (3, .int .u64 (val (d.1.drop j) : Int)), (4, .int .i64 ((j : Int) - 1))])
    (fun j w' => j ≤ 8 ∧ w' = w1) (fun j => j) 8 ⟨by omega, rfl⟩ (by rw [h8]; (repeat' (first | exact True.intro | exact rfl | refine And.intro ?_ ?_))) ?_
  rintro j w2 ⟨hj, rfl⟩
  cases j with
  | zero =>
    have g1 : ¬ (0 : Int) ≤ ((0 : Nat) : Int) - 1 := by omega
    have e0 : val (d.1.drop 0) = num d := rfl
    rw [e0]
    generalize ((0 : Nat) : Int) - 1 = m at g1 ⊢
    repeat (first|apply cA|apply cB|apply cD|apply cE|apply cF|apply cG|apply cH|apply cJ|apply cU|refine cV rfl ?_|apply cY|refine cZ rfl rfl rfl rfl (by first|(apply qb64<;>(first|exact rfl|assumption|exact Ar.mk (by omega)|exact dct (by first|assumption|omega)|exact dcf (by first|assumption|omega)|exact List.not_mem_nil|apply dc_length|fail))|((first|apply quad|apply quml|apply quxo|apply qia0|apply qia|apply qmv|apply qas|apply qlc|apply qge|apply qsb)<;>(first|exact rfl|assumption|exact Ar.mk (by omega)|exact dct (by first|assumption|omega)|exact dcf (by first|assumption|omega)|exact List.not_mem_nil|apply dc_length|fail))|fail) ?_)
    refine dE rfl (by exact rho_of rfl) rfl ?_
    repeat (first|apply cA|apply cB|apply cD|apply cE|apply cF|apply cG|apply cH|apply cJ|apply cU|refine cV rfl ?_|apply cY|refine cZ rfl rfl rfl rfl (by first|(apply qb64<;>(first|exact rfl|assumption|exact Ar.mk (by omega)|exact dct (by first|assumption|omega)|exact dcf (by first|assumption|omega)|exact List.not_mem_nil|apply dc_length|fail))|((first|apply quad|apply quml|apply quxo|apply qia0|apply qia|apply qmv|apply qas|apply qlc|apply qge|apply qsb)<;>(first|exact rfl|assumption|exact Ar.mk (by omega)|exact dct (by first|assumption|omega)|exact dcf (by first|assumption|omega)|exact List.not_mem_nil|apply dc_length|fail))|fail) ?_)
    refine ret1 (Or.inl rfl) Tryz.results49 (by first | exact ResV.tmp rfl | exact ResV.agg rfl rfl (by assumption) (by first | exact dc_length _ | exact nc_length _ | exact rc_length _ _ _ | exact ec_length _ | exact dl_length _ _ _ _ | rfl) | exact ResV.cell rfl rfl (by assumption)) ?_
    exact ⟨rfl, hk1⟩
  | succ k =>
    have hk8 : k < d.1.length := by rw [d.2]; omega
    have ek : ((k + 1 : Nat) : Int) - 1 = (k : Int) := by omega
    have g1 : (0 : Int) ≤ (k : Int) := by omega
    have hv := val_drop (l := d.1) (i := k) hk8
    have hlt : val (d.1.drop (k + 1)) * 256 + d.1[k].toNat < 18446744073709551616 := by
      rw [← hv]
      have h1 := val_lt (d.1.drop k)
      have h2 : (256 : Nat) ^ (d.1.drop k).length ≤ 256 ^ 8 := Nat.pow_le_pow_right (by omega) (by rw [List.length_drop, d.2]; omega)
      have h3 : (256 : Nat) ^ 8 = 18446744073709551616 := rfl
      rw [← h3]
      exact Nat.lt_of_lt_of_le h1 h2
    have e1 := addmul_nat hlt
    rw [← hv] at e1
    clear hlt
    have hrk := row_at hr (i := k) (v := bv d.1[k]) (by simp [dc, hk8])
    rw [ek]
    repeat (first|apply cA|apply cB|apply cD|apply cE|apply cF|apply cG|apply cH|apply cJ|apply cU|refine cV rfl ?_|apply cY|refine cZ rfl rfl rfl rfl (by first|(apply qb64<;>(first|exact rfl|assumption|exact Ar.mk (by omega)|exact dct (by first|assumption|omega)|exact dcf (by first|assumption|omega)|exact List.not_mem_nil|apply dc_length|fail))|((first|apply quad|apply quml|apply quxo|apply qia0|apply qia|apply qmv|apply qas|apply qlc|apply qge|apply qsb)<;>(first|exact rfl|assumption|exact Ar.mk (by omega)|exact dct (by first|assumption|omega)|exact dcf (by first|assumption|omega)|exact List.not_mem_nil|apply dc_length|fail))|fail) ?_)
    refine dD rfl (by exact rho_of rfl) rfl ?_
    repeat (first|apply cA|apply cB|apply cD|apply cE|apply cF|apply cG|apply cH|apply cJ|apply cU|refine cV rfl ?_|apply cY|refine cZ rfl rfl rfl rfl (by first|(apply qb64<;>(first|exact rfl|assumption|exact Ar.mk (by omega)|exact dct (by first|assumption|omega)|exact dcf (by first|assumption|omega)|exact List.not_mem_nil|apply dc_length|fail))|((first|apply quad|apply quml|apply quxo|apply qia0|apply qia|apply qmv|apply qas|apply qlc|apply qge|apply qsb)<;>(first|exact rfl|assumption|exact Ar.mk (by omega)|exact dct (by first|assumption|omega)|exact dcf (by first|assumption|omega)|exact List.not_mem_nil|apply dc_length|fail))|fail) ?_)
    rw [e1]
    refine NG.round k (by (repeat' (first | exact True.intro | exact rfl | refine And.intro ?_ ?_))) ⟨by omega, rfl⟩ (by omega)
set_option maxHeartbeats 8000000 in
theorem rout_spec (s : Hs) (w : World) : Ret Tryz.prog 69 #[.agg (hsl s).toArray] w (dv (givesI s)) := by
  refine enter1 Tryz.func69 rfl Tryz.ntmps69 rfl ?_
  obtain ⟨n, hn, hn2⟩ := xorI_nat s.a s.c
  have hg : givesI s = frm n := by unfold givesI; rw [hn]; rfl
  rw [hg]
  have hspec := fun w => rfrom_spec n hn2 w
  clear hn2 hg
  repeat (first|apply cA|apply cB|apply cD|apply cE|apply cF|apply cG|apply cH|apply cJ|apply cU|refine cV rfl ?_|apply cY|refine cZ rfl rfl rfl rfl (by first|(apply qb64<;>(first|exact rfl|assumption|exact Ar.mk (by omega)|exact dct (by first|assumption|omega)|exact dcf (by first|assumption|omega)|exact List.not_mem_nil|apply dc_length|fail))|((first|apply quad|apply quml|apply quxo|apply qia0|apply qia|apply qmv|apply qas|apply qlc|apply qge|apply qsb)<;>(first|exact rfl|assumption|exact Ar.mk (by omega)|exact dct (by first|assumption|omega)|exact dcf (by first|assumption|omega)|exact List.not_mem_nil|apply dc_length|fail))|fail) ?_)
  refine SG.box rfl rfl rfl (by exact rho_of rfl) (fun b1 w1 hk1 hb1 hB1 => ?_)
  have hB1 : Blk w1 b1 (.cells (hsl s).toArray 116) := hB1
  refine SG.alloc rfl rfl rfl (fun b2 w2 hk2 hb2 hB2 => ?_)
  have hB2 : Blk w2 b2 (.cells (dc zd).toArray 31) := hB2
  obtain ⟨r0, r1, r2, r3, _⟩ := hs_rows (hB1.kp0 hk2)
  repeat (first|apply cA|apply cB|apply cD|apply cE|apply cF|apply cG|apply cH|apply cJ|apply cU|refine cV rfl ?_|apply cY|refine cZ rfl rfl rfl rfl (by first|(apply qb64<;>(first|exact rfl|assumption|exact Ar.mk (by omega)|exact dct (by first|assumption|omega)|exact dcf (by first|assumption|omega)|exact List.not_mem_nil|apply dc_length|fail))|((first|apply quad|apply quml|apply quxo|apply qia0|apply qia|apply qmv|apply qas|apply qlc|apply qge|apply qsb)<;>(first|exact rfl|assumption|exact Ar.mk (by omega)|exact dct (by first|assumption|omega)|exact dcf (by first|assumption|omega)|exact List.not_mem_nil|apply dc_length|fail))|fail) ?_)
  rw [hn]
  refine SG.ret rfl rfl rfl (by repeat' (first | exact True.intro | exact rho_of rfl | refine And.intro ?_ ?_)) (hspec w2) (fun w3 hk3 => ?_)
  refine SG.setAll (old := dc zd) (l := dc (frm n)) rfl rfl (by exact rho_of rfl) (by exact rho_of rfl) (hB2.kp0 hk3) (dc_length _) (dc_length _) (dc_one _) (fun w4 hk4 hB4 => ?_)
  have hr4 : Row w4 b2 0 (dc (frm n)) := Row.all hB4 rfl
  have s1 := hk1.size
  repeat (first|apply cA|apply cB|apply cD|apply cE|apply cF|apply cG|apply cH|apply cJ|apply cU|refine cV rfl ?_|apply cY|refine cZ rfl rfl rfl rfl (by first|(apply qb64<;>(first|exact rfl|assumption|exact Ar.mk (by omega)|exact dct (by first|assumption|omega)|exact dcf (by first|assumption|omega)|exact List.not_mem_nil|apply dc_length|fail))|((first|apply quad|apply quml|apply quxo|apply qia0|apply qia|apply qmv|apply qas|apply qlc|apply qge|apply qsb)<;>(first|exact rfl|assumption|exact Ar.mk (by omega)|exact dct (by first|assumption|omega)|exact dcf (by first|assumption|omega)|exact List.not_mem_nil|apply dc_length|fail))|fail) ?_)
  refine ret1 (Or.inl rfl) Tryz.results69 (by first | exact ResV.tmp rfl | exact ResV.agg rfl rfl (by assumption) (by first | exact dc_length _ | exact nc_length _ | exact rc_length _ _ _ | exact ec_length _ | exact dl_length _ _ _ _ | rfl) | exact ResV.cell rfl rfl (by assumption)) ?_
  exact ⟨rfl, ((hk1.trans hk2).trans hk3).trans_new hk4 (new1 (by omega))⟩
def padAll (l : List UInt8) : List UInt8 := l ++ 1 :: List.replicate (7 - l.length % 8) 0
theorem padAll_length (l : List UInt8) : (padAll l).length = (l.length / 8 + 1) * 8 := by simp [padAll]; omega
theorem eights_prefix (r : List UInt8) : ∀ (k : Nat) (s : Hs) (l : List UInt8), k * 8 ≤ l.length → eightsI s (l ++ r) k = eightsI s l k
  | 0, _, _, _ => rfl
  | k + 1, s, l, h => by
    have h8 : 8 ≤ l.length := by omega
    rw [eightsI, eightsI, List.take_append_of_le_length h8, List.drop_append_of_le_length h8]
    exact eights_prefix r k _ _ (by rw [List.length_drop]; omega)
theorem eights_pad (s : Hs) (l : List UInt8) : eightsI s (padAll l) (l.length / 8 + 1) = takeI (eightsI s l (l.length / 8)) (val (l.drop (l.length / 8 * 8) ++ [1]) : Int) := by
  rw [eights_step]
  have e1 : eightsI s (padAll l) (l.length / 8) = eightsI s l (l.length / 8) := eights_prefix _ _ _ _ (by omega)
  have e2 : (padAll l).drop (l.length / 8 * 8) = padL (l.drop (l.length / 8 * 8)) := by
    unfold padAll padL
    rw [List.drop_append_of_le_length (by omega), List.length_drop, show l.length - l.length / 8 * 8 = l.length % 8 from by omega]
  have e3 : (l.drop (l.length / 8 * 8)).length < 8 := by rw [List.length_drop]; omega
  rw [e1, e2, List.take_of_length_le (by rw [pad_length e3]; omega), pad_val]
def fillp (r : List UInt8) (k : Nat) : List Value := (r.take k).map bv ++ List.replicate (8 - k) (bv 0)
theorem fillp_length {r : List UInt8} {k : Nat} (h : r.length = 8) (hk : k ≤ 8) : (fillp r k).length = 8 := by simp [fillp]; omega
theorem fillp_zero (r : List UInt8) : fillp r 0 = dc zd := rfl
theorem fillp_all {r : List UInt8} (h : r.length = 8) : fillp r 8 = dc (⟨r, h⟩ : Dg) := by simp [fillp, dc, List.take_of_length_le (Nat.le_of_eq h)]
theorem fillp_step {r : List UInt8} {k : Nat} (hr : r.length = 8) (h : k < 8) : spl (fillp r k) k [bv (r[k]'(by omega))] = fillp r (k + 1) := by
  have hrp : List.replicate (8 - k) (bv 0) = [bv 0] ++ List.replicate (8 - (k + 1)) (bv 0) := by
    rw [show 8 - k = (8 - (k + 1)) + 1 from by omega, List.replicate_succ]
    rfl
  have := spl_mid (pre := (r.take k).map bv) (old := [bv 0]) (post := List.replicate (8 - (k + 1)) (bv 0)) (l := [bv (r[k]'(by omega))]) rfl
  rw [← hrp] at this
  simp only [List.length_map, List.length_take, Nat.min_eq_left (show k ≤ r.length by omega)] at this
  unfold fillp
  rw [this, show r.take (k + 1) = r.take k ++ [r[k]'(by omega)] from List.take_succ_eq_append_getElem (by omega), List.map_append, List.append_assoc]
  rfl
theorem bs0 (w : World) : (Instr.buildSlice 111 0 #[]).run Tryz.prog w = .ok (.slice (some ⟨w.heap.size, 0, none⟩) 0 0) { w with heap := w.heap.push (.cells #[] 5) } := by kernel_rfl
end Go.Proofs.YtnoipmimddoioaaGreat
namespace Go.Proofs.YtnoipmimddoioaaGreat
open Go.Proofs
set_option linter.unusedVariables false
/-- What stands behind the bytes after k zeros. -/
def padK (l : List UInt8) (k : Nat) : List UInt8 := l ++ 1 :: List.replicate k 0
theorem padK_length (l : List UInt8) (k : Nat) : (padK l k).length = l.length + 1 + k := by simp [padK]; omega
theorem padK_step (l : List UInt8) (k : Nat) : padK l k ++ [0] = padK l (k + 1) := by
  unfold padK
  rw [List.append_assoc, List.cons_append, ← List.replicate_succ']
attribute [local irreducible] CG NG SG Vals Der Row Blk MapIs IterAt addI xorI orI andI shlI shrI mulI
set_option maxHeartbeats 16000000 in
theorem rbytes_spec {w : World} {s : Hs} {a : Option Addr} {c : Nat} {l : List UInt8} (hS : Sl by1 1 w a l) (hl : l.length ≤ 100000000) :
    Ret Tryz.prog 88 #[.agg (hsl s).toArray, .slice a l.length c] w (.agg (hsl (bytesI s l)).toArray) := by
  refine enter2 Tryz.func88 rfl Tryz.ntmps88 rfl ?_
  repeat (first|apply cA|apply cB|apply cD|apply cE|apply cF|apply cG|apply cH|apply cJ|apply cU|refine cV rfl ?_|apply cY|refine cZ rfl rfl rfl rfl (by first|(apply qi64<;>(first|exact rfl|assumption|exact Ar.mk (by omega)|exact dct (by first|assumption|omega)|exact dcf (by first|assumption|omega)|exact List.not_mem_nil|apply dc_length|exact nm1 (by omega)|fail))|((first|apply qri|apply qia|apply qmv|apply qas|apply qlc|apply qla|apply qix|apply qls|apply qni|apply qad|apply qln)<;>(first|exact rfl|assumption|exact Ar.mk (by omega)|exact dct (by first|assumption|omega)|exact dcf (by first|assumption|omega)|exact List.not_mem_nil|apply dc_length|exact nm1 (by omega)|fail))|fail) ?_)
  refine SG.box rfl rfl rfl (by exact rho_of rfl) (fun b1 w1 hk1 hb1 hB1 => ?_)
  have hB1 : Blk w1 b1 (.cells (hsl s).toArray 116) := hB1
  refine SG.alloc rfl rfl rfl (fun b2 w2 hk2 hb2 hB2 => ?_)
  have hB2 : Blk w2 b2 (.cells (hsl ⟨0, 0, 0, 0⟩).toArray 116) := hB2
  have l1 := hB1.lt
  have l2 := hB2.lt
  have s1 := hk1.size
  have s2 := hk2.size
  have hB1 := hB1.kp0 hk2
  have k2 := hk1.trans hk2
  repeat (first|apply cA|apply cB|apply cD|apply cE|apply cF|apply cG|apply cH|apply cJ|apply cU|refine cV rfl ?_|apply cY|refine cZ rfl rfl rfl rfl (by first|(apply qi64<;>(first|exact rfl|assumption|exact Ar.mk (by omega)|exact dct (by first|assumption|omega)|exact dcf (by first|assumption|omega)|exact List.not_mem_nil|apply dc_length|exact nm1 (by omega)|fail))|((first|apply qri|apply qia|apply qmv|apply qas|apply qlc|apply qla|apply qix|apply qls|apply qni|apply qad|apply qln)<;>(first|exact rfl|assumption|exact Ar.mk (by omega)|exact dct (by first|assumption|omega)|exact dcf (by first|assumption|omega)|exact List.not_mem_nil|apply dc_length|exact nm1 (by omega)|fail))|fail) ?_)
  refine SG.buildSlice rfl rfl rfl rfl bs0 (fun b9 w3 hk3 hb9 hB9 => ?_)
  have ho0 : w3.ownsRow w2.heap.size 5 1 (.slice (some ⟨b9, 0, none⟩) 0 0) ([] : List UInt8).length (flt by1 []) := own_made by1_len hB9 hb9 rfl (by simp [maxLen])
  repeat (first|apply cA|apply cB|apply cD|apply cE|apply cF|apply cG|apply cH|apply cJ|apply cU|refine cV rfl ?_|apply cY|refine cZ rfl rfl rfl rfl (by first|(apply qi64<;>(first|exact rfl|assumption|exact Ar.mk (by omega)|exact dct (by first|assumption|omega)|exact dcf (by first|assumption|omega)|exact List.not_mem_nil|apply dc_length|exact nm1 (by omega)|fail))|((first|apply qri|apply qia|apply qmv|apply qas|apply qlc|apply qla|apply qix|apply qls|apply qni|apply qad|apply qln)<;>(first|exact rfl|assumption|exact Ar.mk (by omega)|exact dct (by first|assumption|omega)|exact dcf (by first|assumption|omega)|exact List.not_mem_nil|apply dc_length|exact nm1 (by omega)|fail))|fail) ?_)
  refine SG.appO (enc := by1) (xs := []) (ys := l) (base := w2.heap.size) rfl rfl rfl (by exact rho_of rfl) (by exact rho_of rfl) rfl rfl rfl rfl by1_len by1_one ho0 ((hS.kp0 k2).kp0 hk3) (by simp only [maxLen, List.length_nil]; omega) (by show (0 + l.length) * 1 ≤ _; omega) hk3.size (fun v4 w4 hk4 ho4 _ => ?_)
  have k4 : Kp [] w2 w4 := hk3.trans_new hk4 (own_new ho0 (Nat.le_refl _))
  rw [List.nil_append] at ho4
  refine SG.buildSlice rfl rfl rfl rfl (bs1 1) (fun b5 w5 hk5 hb5 hB5 => ?_)
  have hS5 : Sl by1 1 w5 (some ⟨b5, 0, none⟩) [(1 : UInt8)] := Sl.of_blk (pre := []) (post := []) by1_len (l := [1]) (T := 5) hB5
  refine SG.appO (enc := by1) (xs := l) (ys := [1]) (base := w2.heap.size) rfl rfl rfl (by exact rho_of rfl) (by exact rho_of rfl) rfl rfl rfl rfl by1_len by1_one (own_kp0 ho4 hk5) hS5 (by simp only [maxLen, List.length_cons, List.length_nil]; omega) (by show (l.length + 1) * 1 ≤ _; omega) (Nat.le_trans k4.size hk5.size) (fun v6 w6 hk6 ho6 _ => ?_)
  have k6 : Kp [] w2 w6 := (k4.trans hk5).trans_new hk6 (own_new (own_kp0 ho4 hk5) (Nat.le_refl _))
  have ho6 : w6.ownsRow w2.heap.size 5 1 v6 (padK l 0).length (flt by1 (padK l 0)) := ho6
  clear ho0 ho4 hS5 hB5 hB9
  repeat (first|apply cA|apply cB|apply cD|apply cE|apply cF|apply cG|apply cH|apply cJ|apply cU|refine cV rfl ?_|apply cY|refine cZ rfl rfl rfl rfl (by first|(apply qi64<;>(first|exact rfl|assumption|exact Ar.mk (by omega)|exact dct (by first|assumption|omega)|exact dcf (by first|assumption|omega)|exact List.not_mem_nil|apply dc_length|exact nm1 (by omega)|fail))|((first|apply qri|apply qia|apply qmv|apply qas|apply qlc|apply qla|apply qix|apply qls|apply qni|apply qad|apply qln)<;>(first|exact rfl|assumption|exact Ar.mk (by omega)|exact dct (by first|assumption|omega)|exact dcf (by first|assumption|omega)|exact List.not_mem_nil|apply dc_length|exact nm1 (by omega)|fail))|fail) ?_)
  refine CG.loop (X := Value × Nat) (fun x => [(1, .slice a l.length c), (2, .pointer (some ⟨b1, 0, none⟩)), (4, .pointer (some ⟨b2, 0, none⟩)), (5, x.1)])
    (fun x w' => x.2 ≤ 7 - l.length % 8 ∧ Kp [] w2 w' ∧ w'.ownsRow w2.heap.size 5 1 x.1 (padK l x.2).length (flt by1 (padK l x.2))) (fun x => 7 - l.length % 8 - x.2) (v6, 0) ⟨by simp only; omega, k6, ho6⟩ (by (repeat' (first | exact True.intro | exact rfl | refine And.intro ?_ ?_))) ?_
  rintro ⟨v7, k⟩ w7 ⟨hk, k7, ho7⟩
  simp only at hk ho7
  refine CG.to [(1, .slice a l.length c), (2, .pointer (some ⟨b1, 0, none⟩)), (4, .pointer (some ⟨b2, 0, none⟩)), (5, v7)] (by (repeat' (first | exact True.intro | exact rfl | refine And.intro ?_ ?_))) ?_
  clear ho6 k6
  have hpl := padK_length l k
  obtain ⟨a7, c7, rfl, hc7, hS7⟩ := Sl.own by1_len ho7 rfl
  by_cases hlt : k < 7 - l.length % 8
  · have g1 : ¬ ((padK l k).length : Int) % 8 = 0 := by omega
    repeat (first|apply cA|apply cB|apply cD|apply cE|apply cF|apply cG|apply cH|apply cJ|apply cU|refine cV rfl ?_|apply cY|refine cZ rfl rfl rfl rfl (by first|(apply qi64<;>(first|exact rfl|assumption|exact Ar.mk (by omega)|exact dct (by first|assumption|omega)|exact dcf (by first|assumption|omega)|exact List.not_mem_nil|apply dc_length|exact nm1 (by omega)|fail))|((first|apply qri|apply qia|apply qmv|apply qas|apply qlc|apply qla|apply qix|apply qls|apply qni|apply qad|apply qln)<;>(first|exact rfl|assumption|exact Ar.mk (by omega)|exact dct (by first|assumption|omega)|exact dcf (by first|assumption|omega)|exact List.not_mem_nil|apply dc_length|exact nm1 (by omega)|fail))|fail) ?_)
    refine dD rfl (by exact rho_of rfl) rfl ?_
    repeat (first|apply cA|apply cB|apply cD|apply cE|apply cF|apply cG|apply cH|apply cJ|apply cU|refine cV rfl ?_|apply cY|refine cZ rfl rfl rfl rfl (by first|(apply qi64<;>(first|exact rfl|assumption|exact Ar.mk (by omega)|exact dct (by first|assumption|omega)|exact dcf (by first|assumption|omega)|exact List.not_mem_nil|apply dc_length|exact nm1 (by omega)|fail))|((first|apply qri|apply qia|apply qmv|apply qas|apply qlc|apply qla|apply qix|apply qls|apply qni|apply qad|apply qln)<;>(first|exact rfl|assumption|exact Ar.mk (by omega)|exact dct (by first|assumption|omega)|exact dcf (by first|assumption|omega)|exact List.not_mem_nil|apply dc_length|exact nm1 (by omega)|fail))|fail) ?_)
    refine SG.buildSlice rfl rfl rfl rfl (bs1 0) (fun b8 w8 hk8 hb8 hB8 => ?_)
    have hS8 : Sl by1 1 w8 (some ⟨b8, 0, none⟩) [(0 : UInt8)] := Sl.of_blk (pre := []) (post := []) by1_len (l := [0]) (T := 5) hB8
    refine SG.appO (enc := by1) (xs := padK l k) (ys := [0]) (base := w2.heap.size) rfl rfl rfl (by exact rho_of rfl) (by exact rho_of rfl) rfl rfl rfl rfl by1_len by1_one (own_kp0 ho7 hk8) hS8 (by simp only [maxLen, List.length_cons, List.length_nil]; omega) (by show ((padK l k).length + 1) * 1 ≤ _; omega) (Nat.le_trans k7.size hk8.size) (fun v9 w9 hk9 ho9 _ => ?_)
    rw [padK_step] at ho9
    repeat (first|apply cA|apply cB|apply cD|apply cE|apply cF|apply cG|apply cH|apply cJ|apply cU|refine cV rfl ?_|apply cY|refine cZ rfl rfl rfl rfl (by first|(apply qi64<;>(first|exact rfl|assumption|exact Ar.mk (by omega)|exact dct (by first|assumption|omega)|exact dcf (by first|assumption|omega)|exact List.not_mem_nil|apply dc_length|exact nm1 (by omega)|fail))|((first|apply qri|apply qia|apply qmv|apply qas|apply qlc|apply qla|apply qix|apply qls|apply qni|apply qad|apply qln)<;>(first|exact rfl|assumption|exact Ar.mk (by omega)|exact dct (by first|assumption|omega)|exact dcf (by first|assumption|omega)|exact List.not_mem_nil|apply dc_length|exact nm1 (by omega)|fail))|fail) ?_)
    refine NG.round (v9, k + 1) (by (repeat' (first | exact True.intro | exact rfl | refine And.intro ?_ ?_))) ⟨by simp only; omega, (k7.trans hk8).trans_new hk9 (own_new (own_kp0 ho7 hk8) (Nat.le_refl _)), ho9⟩ (by simp only; omega)
  · have ek : k = 7 - l.length % 8 := by omega
    have epad : padK l k = padAll l := by rw [ek]; rfl
    have g1 : ((padK l k).length : Int) % 8 = 0 := by omega
    rw [epad] at hS7 hpl g1 ho7 ⊢
    have hB17 := hB1.kp0 k7
    have hB27 := hB2.kp0 k7
    have hlen := padAll_length l
    generalize hM : l.length / 8 + 1 = M at hlen
    have hnew : ∀ b off, a7 = some ⟨b, off, none⟩ → w2.heap.size ≤ b := fun b off e => by
      rcases ho7.2 with ⟨h1, _⟩ | ⟨g, cap, cur, h1, h2, _⟩
      · simp only [Value.slice.injEq] at h1
        rw [h1.1] at e
        cases e
      · simp only [Value.slice.injEq] at h1
        rw [h1.1] at e
        cases e
        exact h2
    clear ho7
    repeat (first|apply cA|apply cB|apply cD|apply cE|apply cF|apply cG|apply cH|apply cJ|apply cU|refine cV rfl ?_|apply cY|refine cZ rfl rfl rfl rfl (by first|(apply qi64<;>(first|exact rfl|assumption|exact Ar.mk (by omega)|exact dct (by first|assumption|omega)|exact dcf (by first|assumption|omega)|exact List.not_mem_nil|apply dc_length|exact nm1 (by omega)|fail))|((first|apply qri|apply qia|apply qmv|apply qas|apply qlc|apply qla|apply qix|apply qls|apply qni|apply qad|apply qln)<;>(first|exact rfl|assumption|exact Ar.mk (by omega)|exact dct (by first|assumption|omega)|exact dcf (by first|assumption|omega)|exact List.not_mem_nil|apply dc_length|exact nm1 (by omega)|fail))|fail) ?_)
    refine dE rfl (by exact rho_of rfl) rfl ?_
    repeat (first|apply cA|apply cB|apply cD|apply cE|apply cF|apply cG|apply cH|apply cJ|apply cU|refine cV rfl ?_|apply cY|refine cZ rfl rfl rfl rfl (by first|(apply qi64<;>(first|exact rfl|assumption|exact Ar.mk (by omega)|exact dct (by first|assumption|omega)|exact dcf (by first|assumption|omega)|exact List.not_mem_nil|apply dc_length|exact nm1 (by omega)|fail))|((first|apply qri|apply qia|apply qmv|apply qas|apply qlc|apply qla|apply qix|apply qls|apply qni|apply qad|apply qln)<;>(first|exact rfl|assumption|exact Ar.mk (by omega)|exact dct (by first|assumption|omega)|exact dcf (by first|assumption|omega)|exact List.not_mem_nil|apply dc_length|exact nm1 (by omega)|fail))|fail) ?_)
    refine CG.loop (X := Nat) (fun q => [(1, .slice a l.length c), (2, .pointer (some ⟨b1, 0, none⟩)), (4, .pointer (some ⟨b2, 0, none⟩)), (5, .slice a7 (padAll l).length c7), (6, .int .i64 ((q * 8 : Nat) : Int))])
      (fun q w' => q ≤ M ∧ Kp [b1] w7 w' ∧ Blk w' b1 (.cells (hsl (eightsI s (padAll l) q)).toArray 116)) (fun q => M - q) 0 ⟨by omega, Kp.refl _ _, hB17⟩ (by rw [Nat.zero_mul]; (repeat' (first | exact True.intro | exact rfl | refine And.intro ?_ ?_))) ?_
    rintro q w8 ⟨hq, k8, hB8⟩
    by_cases hqM : q < M
    · have g2 : ((q * 8 : Nat) : Int) < ((padAll l).length : Int) := by omega
      have h8 : (((padAll l).drop (q * 8)).take 8).length = 8 := by simp; omega
      obtain ⟨b7, off, rfl, _⟩ := hS7.at (i := q * 8) (by omega)
      have hb7 := hnew b7 off rfl
      have hS8 := hS7.kp k8 (fun b3 off3 e => by cases e; exact nm1 (by omega))
      generalize hr : ((padAll l).drop (q * 8)).take 8 = r at h8
      have l7 : b7 < w7.heap.size := by
        obtain ⟨_, _, e, hrow⟩ := hS7.at (i := q * 8) (by omega)
        cases e
        exact hrow.lt
      have s8 := k8.size
      repeat (first|apply cA|apply cB|apply cD|apply cE|apply cF|apply cG|apply cH|apply cJ|apply cU|refine cV rfl ?_|apply cY|refine cZ rfl rfl rfl rfl (by first|(apply qi64<;>(first|exact rfl|assumption|exact Ar.mk (by omega)|exact dct (by first|assumption|omega)|exact dcf (by first|assumption|omega)|exact List.not_mem_nil|apply dc_length|exact nm1 (by omega)|fail))|((first|apply qri|apply qia|apply qmv|apply qas|apply qlc|apply qla|apply qix|apply qls|apply qni|apply qad|apply qln)<;>(first|exact rfl|assumption|exact Ar.mk (by omega)|exact dct (by first|assumption|omega)|exact dcf (by first|assumption|omega)|exact List.not_mem_nil|apply dc_length|exact nm1 (by omega)|fail))|fail) ?_)
      refine dD rfl (by exact rho_of rfl) rfl ?_
      repeat (first|apply cA|apply cB|apply cD|apply cE|apply cF|apply cG|apply cH|apply cJ|apply cU|refine cV rfl ?_|apply cY|refine cZ rfl rfl rfl rfl (by first|(apply qi64<;>(first|exact rfl|assumption|exact Ar.mk (by omega)|exact dct (by first|assumption|omega)|exact dcf (by first|assumption|omega)|exact List.not_mem_nil|apply dc_length|exact nm1 (by omega)|fail))|((first|apply qri|apply qia|apply qmv|apply qas|apply qlc|apply qla|apply qix|apply qls|apply qni|apply qad|apply qln)<;>(first|exact rfl|assumption|exact Ar.mk (by omega)|exact dct (by first|assumption|omega)|exact dcf (by first|assumption|omega)|exact List.not_mem_nil|apply dc_length|exact nm1 (by omega)|fail))|fail) ?_)
      refine cZ rfl rfl rfl rfl (vals_build rfl bz8) ?_
      refine SG.alloc rfl rfl rfl (fun b3 w9 hk9 hb3 hB3 => ?_)
      have hB3 : Blk w9 b3 (.cells (dc zd).toArray 31) := hB3
      refine SG.setAll (old := dc zd) (l := dc zd) rfl rfl (by exact rho_of rfl) (by exact rho_of rfl) hB3 (dc_length _) (dc_length _) (dc_one _) (fun w10 hk10 hB3 => ?_)
      have l3 := hB3.lt
      have s9 := hk9.size
      have hS10 := (hS8.kp0 hk9).kp hk10 (fun b4 off4 e => by cases e; exact nm1 (by omega))
      repeat (first|apply cA|apply cB|apply cD|apply cE|apply cF|apply cG|apply cH|apply cJ|apply cU|refine cV rfl ?_|apply cY|refine cZ rfl rfl rfl rfl (by first|(apply qi64<;>(first|exact rfl|assumption|exact Ar.mk (by omega)|exact dct (by first|assumption|omega)|exact dcf (by first|assumption|omega)|exact List.not_mem_nil|apply dc_length|exact nm1 (by omega)|fail))|((first|apply qri|apply qia|apply qmv|apply qas|apply qlc|apply qla|apply qix|apply qls|apply qni|apply qad|apply qln)<;>(first|exact rfl|assumption|exact Ar.mk (by omega)|exact dct (by first|assumption|omega)|exact dcf (by first|assumption|omega)|exact List.not_mem_nil|apply dc_length|exact nm1 (by omega)|fail))|fail) ?_)
      refine CG.loop (X := Nat) (fun k => [(1, .slice a l.length c), (2, .pointer (some ⟨b1, 0, none⟩)), (4, .pointer (some ⟨b2, 0, none⟩)), (5, .slice (some ⟨b7, off, none⟩) (padAll l).length c7), (6, .int .i64 ((q * 8 : Nat) : Int)), (7, .pointer (some ⟨b3, 0, none⟩)), (8, .int .i64 (k : Int))])
        (fun k w' => k ≤ 8 ∧ Kp [b3] w10 w' ∧ Blk w' b3 (.cells (fillp r k).toArray 31)) (fun k => 8 - k) 0 ⟨by omega, Kp.refl _ _, by rw [fillp_zero]; exact hB3⟩ (by (repeat' (first | exact True.intro | exact rfl | refine And.intro ?_ ?_))) ?_
      rintro k w11 ⟨hk8, k11, hB11⟩
      by_cases hk : k < 8
      · have g3 : (k : Int) < 8 := by omega
        have hS11 := hS10.kp k11 (fun b4 off4 e => by cases e; exact nm1 (by omega))
        have hg : (padAll l)[q * 8 + k]? = some (r[k]'(by omega)) := by
          rw [← List.getElem?_eq_getElem, ← hr, List.getElem?_take_of_lt hk, List.getElem?_drop]
        have hrow := hS11.row hg
        have hrow : Row w11 b7 (off + (q * 8 + k) * 1) [bv (r[k]'(by omega))] := hrow
        have ez : ((q * 8 : Nat) : Int) + (k : Int) = ((q * 8 + k : Nat) : Int) := by omega
        repeat (first|apply cA|apply cB|apply cD|apply cE|apply cF|apply cG|apply cH|apply cJ|apply cU|refine cV rfl ?_|apply cY|refine cZ rfl rfl rfl rfl (by first|(apply qi64<;>(first|exact rfl|assumption|exact Ar.mk (by omega)|exact dct (by first|assumption|omega)|exact dcf (by first|assumption|omega)|exact List.not_mem_nil|apply dc_length|exact nm1 (by omega)|fail))|((first|apply qri|apply qia|apply qmv|apply qas|apply qlc|apply qla|apply qix|apply qls|apply qni|apply qad|apply qln)<;>(first|exact rfl|assumption|exact Ar.mk (by omega)|exact dct (by first|assumption|omega)|exact dcf (by first|assumption|omega)|exact List.not_mem_nil|apply dc_length|exact nm1 (by omega)|fail))|fail) ?_)
        refine dD rfl (by exact rho_of rfl) rfl ?_
        repeat (first|apply cA|apply cB|apply cD|apply cE|apply cF|apply cG|apply cH|apply cJ|apply cU|refine cV rfl ?_|apply cY|refine cZ rfl rfl rfl rfl (by first|(apply qi64<;>(first|exact rfl|assumption|exact Ar.mk (by omega)|exact dct (by first|assumption|omega)|exact dcf (by first|assumption|omega)|exact List.not_mem_nil|apply dc_length|exact nm1 (by omega)|fail))|((first|apply qri|apply qia|apply qmv|apply qas|apply qlc|apply qla|apply qix|apply qls|apply qni|apply qad|apply qln)<;>(first|exact rfl|assumption|exact Ar.mk (by omega)|exact dct (by first|assumption|omega)|exact dcf (by first|assumption|omega)|exact List.not_mem_nil|apply dc_length|exact nm1 (by omega)|fail))|fail) ?_)
        rw [ez]
        repeat (first|apply cA|apply cB|apply cD|apply cE|apply cF|apply cG|apply cH|apply cJ|apply cU|refine cV rfl ?_|apply cY|refine cZ rfl rfl rfl rfl (by first|(apply qi64<;>(first|exact rfl|assumption|exact Ar.mk (by omega)|exact dct (by first|assumption|omega)|exact dcf (by first|assumption|omega)|exact List.not_mem_nil|apply dc_length|exact nm1 (by omega)|fail))|((first|apply qri|apply qia|apply qmv|apply qas|apply qlc|apply qla|apply qix|apply qls|apply qni|apply qad|apply qln)<;>(first|exact rfl|assumption|exact Ar.mk (by omega)|exact dct (by first|assumption|omega)|exact dcf (by first|assumption|omega)|exact List.not_mem_nil|apply dc_length|exact nm1 (by omega)|fail))|fail) ?_)
        refine SG.store rfl rfl (by exact rho_of rfl) (by exact rho_of rfl) hB11 rfl (by show 0 + k * 1 + 1 ≤ (fillp r k).toArray.size; simp [fillp_length h8 hk8]; omega) rfl (fun w12 hk12 hB12 => ?_)
        have hB12 : Blk w12 b3 (.cells (spl (fillp r k) (0 + k * 1) [bv (r[k]'(by omega))]).toArray 31) := hB12
        rw [show 0 + k * 1 = k from by omega, fillp_step h8 hk] at hB12
        repeat (first|apply cA|apply cB|apply cD|apply cE|apply cF|apply cG|apply cH|apply cJ|apply cU|refine cV rfl ?_|apply cY|refine cZ rfl rfl rfl rfl (by first|(apply qi64<;>(first|exact rfl|assumption|exact Ar.mk (by omega)|exact dct (by first|assumption|omega)|exact dcf (by first|assumption|omega)|exact List.not_mem_nil|apply dc_length|exact nm1 (by omega)|fail))|((first|apply qri|apply qia|apply qmv|apply qas|apply qlc|apply qla|apply qix|apply qls|apply qni|apply qad|apply qln)<;>(first|exact rfl|assumption|exact Ar.mk (by omega)|exact dct (by first|assumption|omega)|exact dcf (by first|assumption|omega)|exact List.not_mem_nil|apply dc_length|exact nm1 (by omega)|fail))|fail) ?_)
        refine NG.round (k + 1) (by (repeat' (first | exact True.intro | exact rfl | refine And.intro ?_ ?_))) ⟨by omega, k11.trans hk12, hB12⟩ (by omega)
      · have g3 : ¬ (k : Int) < 8 := by omega
        have e8 : k = 8 := by omega
        subst e8
        rw [fillp_all h8] at hB11
        have hrd : Row w11 b3 0 (dc (⟨r, h8⟩ : Dg)) := Row.all hB11 rfl
        have hBs := ((hB8.kp0 hk9).kp hk10 (nm1 (by omega))).kp k11 (nm1 (by omega))
        have hrs := Row.all (l := hsl (eightsI s (padAll l) q)) hBs rfl
        repeat (first|apply cA|apply cB|apply cD|apply cE|apply cF|apply cG|apply cH|apply cJ|apply cU|refine cV rfl ?_|apply cY|refine cZ rfl rfl rfl rfl (by first|(apply qi64<;>(first|exact rfl|assumption|exact Ar.mk (by omega)|exact dct (by first|assumption|omega)|exact dcf (by first|assumption|omega)|exact List.not_mem_nil|apply dc_length|exact nm1 (by omega)|fail))|((first|apply qri|apply qia|apply qmv|apply qas|apply qlc|apply qla|apply qix|apply qls|apply qni|apply qad|apply qln)<;>(first|exact rfl|assumption|exact Ar.mk (by omega)|exact dct (by first|assumption|omega)|exact dcf (by first|assumption|omega)|exact List.not_mem_nil|apply dc_length|exact nm1 (by omega)|fail))|fail) ?_)
        refine dE rfl (by exact rho_of rfl) rfl ?_
        repeat (first|apply cA|apply cB|apply cD|apply cE|apply cF|apply cG|apply cH|apply cJ|apply cU|refine cV rfl ?_|apply cY|refine cZ rfl rfl rfl rfl (by first|(apply qi64<;>(first|exact rfl|assumption|exact Ar.mk (by omega)|exact dct (by first|assumption|omega)|exact dcf (by first|assumption|omega)|exact List.not_mem_nil|apply dc_length|exact nm1 (by omega)|fail))|((first|apply qri|apply qia|apply qmv|apply qas|apply qlc|apply qla|apply qix|apply qls|apply qni|apply qad|apply qln)<;>(first|exact rfl|assumption|exact Ar.mk (by omega)|exact dct (by first|assumption|omega)|exact dcf (by first|assumption|omega)|exact List.not_mem_nil|apply dc_length|exact nm1 (by omega)|fail))|fail) ?_)
        refine CG.tail mixed 3 [0, 1, 2] (by kernel_rfl) ?_
        repeat (refine dB rfl rfl rfl (by first|(apply qi64<;>(first|exact rfl|assumption|exact Ar.mk (by omega)|exact dct (by first|assumption|omega)|exact dcf (by first|assumption|omega)|exact List.not_mem_nil|apply dc_length|exact nm1 (by omega)|fail))|((first|apply qri|apply qia|apply qmv|apply qas|apply qlc|apply qla|apply qix|apply qls|apply qni|apply qad|apply qln)<;>(first|exact rfl|assumption|exact Ar.mk (by omega)|exact dct (by first|assumption|omega)|exact dcf (by first|assumption|omega)|exact List.not_mem_nil|apply dc_length|exact nm1 (by omega)|fail))|fail) ?_)
        refine Der.call rfl rfl rfl (vs := [dv (⟨r, h8⟩ : Dg)]) (by repeat' (first | exact True.intro | exact rho_of rfl | refine And.intro ?_ ?_)) (fun w _ _ => rnum_spec ⟨r, h8⟩ w) ?_
        refine Der.tl (fun w12 hk12 _ _ => ?_)
        refine SG.ret rfl rfl rfl (by repeat' (first | exact True.intro | exact rho_of rfl | refine And.intro ?_ ?_)) (rin_spec (eightsI s (padAll l) q) (num (⟨r, h8⟩ : Dg) : Int) w12) (fun w13 hk13 => ?_)
        refine SG.setAll (old := hsl (eightsI s (padAll l) q)) (l := hsl (takeI (eightsI s (padAll l) q) (num (⟨r, h8⟩ : Dg) : Int))) rfl rfl (by exact rho_of rfl) (by exact rho_of rfl) ((hBs.kp0 hk12).kp0 hk13) rfl rfl rfl (fun w14 hk14 hB14 => ?_)
        have ez : ((q * 8 : Nat) : Int) + 8 = (((q + 1) * 8 : Nat) : Int) := by omega
        repeat (first|apply cA|apply cB|apply cD|apply cE|apply cF|apply cG|apply cH|apply cJ|apply cU|refine cV rfl ?_|apply cY|refine cZ rfl rfl rfl rfl (by first|(apply qi64<;>(first|exact rfl|assumption|exact Ar.mk (by omega)|exact dct (by first|assumption|omega)|exact dcf (by first|assumption|omega)|exact List.not_mem_nil|apply dc_length|exact nm1 (by omega)|fail))|((first|apply qri|apply qia|apply qmv|apply qas|apply qlc|apply qla|apply qix|apply qls|apply qni|apply qad|apply qln)<;>(first|exact rfl|assumption|exact Ar.mk (by omega)|exact dct (by first|assumption|omega)|exact dcf (by first|assumption|omega)|exact List.not_mem_nil|apply dc_length|exact nm1 (by omega)|fail))|fail) ?_)
        rw [ez]
        have kk : Kp [b1] w8 w14 := ((((hk9.trans_new hk10 (new1 (by omega))).trans_new k11 (new1 (by omega))).trans hk12).trans hk13).any.trans hk14
        refine NG.round (q + 1) (by (repeat' (first | exact True.intro | exact rfl | refine And.intro ?_ ?_))) ⟨by omega, k8.trans kk, ?_⟩ (by omega)
        rw [eights_step, hr]
        exact hB14
    · have g2 : ¬ ((q * 8 : Nat) : Int) < ((padAll l).length : Int) := by omega
      have eq : q = M := by omega
      subst eq
      have hrs := Row.all (l := hsl (eightsI s (padAll l) q)) hB8 rfl
      repeat (first|apply cA|apply cB|apply cD|apply cE|apply cF|apply cG|apply cH|apply cJ|apply cU|refine cV rfl ?_|apply cY|refine cZ rfl rfl rfl rfl (by first|(apply qi64<;>(first|exact rfl|assumption|exact Ar.mk (by omega)|exact dct (by first|assumption|omega)|exact dcf (by first|assumption|omega)|exact List.not_mem_nil|apply dc_length|exact nm1 (by omega)|fail))|((first|apply qri|apply qia|apply qmv|apply qas|apply qlc|apply qla|apply qix|apply qls|apply qni|apply qad|apply qln)<;>(first|exact rfl|assumption|exact Ar.mk (by omega)|exact dct (by first|assumption|omega)|exact dcf (by first|assumption|omega)|exact List.not_mem_nil|apply dc_length|exact nm1 (by omega)|fail))|fail) ?_)
      refine dE rfl (by exact rho_of rfl) rfl ?_
      repeat (first|apply cA|apply cB|apply cD|apply cE|apply cF|apply cG|apply cH|apply cJ|apply cU|refine cV rfl ?_|apply cY|refine cZ rfl rfl rfl rfl (by first|(apply qi64<;>(first|exact rfl|assumption|exact Ar.mk (by omega)|exact dct (by first|assumption|omega)|exact dcf (by first|assumption|omega)|exact List.not_mem_nil|apply dc_length|exact nm1 (by omega)|fail))|((first|apply qri|apply qia|apply qmv|apply qas|apply qlc|apply qla|apply qix|apply qls|apply qni|apply qad|apply qln)<;>(first|exact rfl|assumption|exact Ar.mk (by omega)|exact dct (by first|assumption|omega)|exact dcf (by first|assumption|omega)|exact List.not_mem_nil|apply dc_length|exact nm1 (by omega)|fail))|fail) ?_)
      refine SG.ret rfl rfl rfl (by repeat' (first | exact True.intro | exact rho_of rfl | refine And.intro ?_ ?_)) (rin_spec (eightsI s (padAll l) q) (l.length : Int) w8) (fun w9 hk9 => ?_)
      refine SG.setAll (old := hsl ⟨0, 0, 0, 0⟩) (l := hsl (bytesI s l)) rfl rfl (by exact rho_of rfl) ?_ (((hB27.kp k8 (nm1 (by omega))).kp0 hk9)) rfl rfl rfl (fun w10 hk10 hB10 => ?_)
      · rw [← hM, eights_pad]
        exact rho_of rfl
      · have hr10 : Row w10 b2 0 (hsl (bytesI s l)) := Row.all hB10 rfl
        repeat (first|apply cA|apply cB|apply cD|apply cE|apply cF|apply cG|apply cH|apply cJ|apply cU|refine cV rfl ?_|apply cY|refine cZ rfl rfl rfl rfl (by first|(apply qi64<;>(first|exact rfl|assumption|exact Ar.mk (by omega)|exact dct (by first|assumption|omega)|exact dcf (by first|assumption|omega)|exact List.not_mem_nil|apply dc_length|exact nm1 (by omega)|fail))|((first|apply qri|apply qia|apply qmv|apply qas|apply qlc|apply qla|apply qix|apply qls|apply qni|apply qad|apply qln)<;>(first|exact rfl|assumption|exact Ar.mk (by omega)|exact dct (by first|assumption|omega)|exact dcf (by first|assumption|omega)|exact List.not_mem_nil|apply dc_length|exact nm1 (by omega)|fail))|fail) ?_)
        refine ret1 (Or.inl rfl) Tryz.results88 (by first | exact ResV.tmp rfl | exact ResV.agg rfl rfl (by assumption) (by first | exact dc_length _ | exact nc_length _ | exact rc_length _ _ _ | exact ec_length _ | exact dl_length _ _ _ _ | rfl) | exact ResV.cell rfl rfl (by assumption)) ?_
        exact ⟨rfl, (((k2.trans k7).trans_new k8 (new1 (by omega))).trans hk9).trans_new hk10 (new1 (by omega))⟩
end Go.Proofs.YtnoipmimddoioaaGreat
