/-
  LobbyPlays answers true for every input, and leaves its arguments as they were. No conditions.
-/
import Derived.Test.YtnoipmimddoioaaGreatQp5
namespace Go.Proofs.YtnoipmimddoioaaGreat
open Go.Proofs Go.Shelf Go.Sort
set_option linter.unusedVariables false
theorem any_who (d : Dg) : ∀ m : List Ofr, m.any (fun x => decide (x.who = d)) = decide ((whoL d m).length < m.length)
  | [] => by simp [whoL]
  | x :: m => by
    have ih := any_who d m
    have hle : (whoL d m).length ≤ m.length := List.length_filter_le _ _
    rw [List.any_cons, ih]
    unfold whoL at hle ⊢
    rw [List.filter_cons]
    by_cases h : x.who = d
    · simp [h]
      omega
    · simp [h]
theorem bl2 (z : Int) (a : Option Addr) (n c : Nat) (w : World) : (Instr.build 66 #[(0, .int .i64 z), (1, .slice a n c)]).run Tryz.prog w = .ok (.agg #[.int .i64 z, .slice a n c]) w := by kernel_rfl
theorem btO' (a0 a1 a2 a3 a4 a5 a6 a7 b0 b1 b2 b3 b4 b5 b6 b7 : UInt8) (x y z u v : Int) (w : World) : (Instr.build 33 #[(0, .agg #[bv a0, bv a1, bv a2, bv a3, bv a4, bv a5, bv a6, bv a7]), (1, .agg #[bv b0, bv b1, bv b2, bv b3, bv b4, bv b5, bv b6, bv b7]), (2, .int .i64 x), (3, .int .i64 y), (4, .int .i64 z), (5, .int .i64 u), (6, .int .i64 v)]).run Tryz.prog w = .ok (.agg #[bv a0, bv a1, bv a2, bv a3, bv a4, bv a5, bv a6, bv a7, bv b0, bv b1, bv b2, bv b3, bv b4, bv b5, bv b6, bv b7, .int .i64 x, .int .i64 y, .int .i64 z, .int .i64 u, .int .i64 v]) w := by kernel_rfl
theorem btO (o : Ofr) (w : World) : (Instr.build 33 #[(0, dv o.who), (1, dv o.rules), (2, .int .i64 o.seats), (3, .int .i64 o.least), (4, .int .i64 o.most), (5, .int .i64 o.window), (6, .int .i64 o.till)]).run Tryz.prog w = .ok (ov o) w := by
  obtain ⟨⟨l, hl⟩, ⟨l2, hl2⟩, x, y, z, u, v⟩ := o
  match l, hl, l2, hl2 with
  | [a0, a1, a2, a3, a4, a5, a6, a7], _, [b0, b1, b2, b3, b4, b5, b6, b7], _ => exact btO' a0 a1 a2 a3 a4 a5 a6 a7 b0 b1 b2 b3 b4 b5 b6 b7 x y z u v w
theorem oc31 : Tryz.prog.cellsOf 31 = 8 := by kernel_rfl
theorem oc33 : Tryz.prog.cellsOf 33 = 21 := by kernel_rfl
set_option maxHeartbeats 4000000 in
theorem rofr_lits' (n : Nat) (a0 a1 a2 a3 a4 a5 a6 a7 b0 b1 b2 b3 b4 b5 b6 b7 : UInt8) (x y z u v : Int) (hx : (Lit.int .i64 x).wf = true) (hy : (Lit.int .i64 y).wf = true) (hz : (Lit.int .i64 z).wf = true) (hu : (Lit.int .i64 u).wf = true) (hv : (Lit.int .i64 v).wf = true) :
    (Tryz.prog.keyLits (n + 3 + 1) 33 [bv a0, bv a1, bv a2, bv a3, bv a4, bv a5, bv a6, bv a7, bv b0, bv b1, bv b2, bv b3, bv b4, bv b5, bv b6, bv b7, .int .i64 x, .int .i64 y, .int .i64 z, .int .i64 u, .int .i64 v]).isSome = true := by
  simp [Program.keyLits, Tryz.underlying33, Tryz.underlying31, Tryz.underlying5, Tryz.underlying3, oc5, oc31, oc3, oc33, owb, hx, hy, hz, hu, hv, List.range, List.range.loop]
theorem rofr_lits (o : Ofr) (h : o.Fit) : (Tryz.prog.keyLits (Tryz.prog.types.size + 1) 33 (ec o)).isSome = true := by
  obtain ⟨m, hm⟩ := osz
  rw [hm]
  obtain ⟨⟨l, hl⟩, ⟨l2, hl2⟩, x, y, z, u, v⟩ := o
  obtain ⟨h1, h2, h3, h4, h5⟩ := h
  match l, hl, l2, hl2 with
  | [a0, a1, a2, a3, a4, a5, a6, a7], _, [b0, b1, b2, b3, b4, b5, b6, b7], _ => exact rofr_lits' m a0 a1 a2 a3 a4 a5 a6 a7 b0 b1 b2 b3 b4 b5 b6 b7 x y z u v (owf x h1.1 h1.2) (owf y h2.1 h2.2) (owf z h3.1 h3.2) (owf u h4.1 h4.2) (owf v h5.1 h5.2)
theorem rofr_formed (o : Ofr) : (ov o).formed Tryz.prog 33 = true := by
  simp [ov, Value.formed, Tryz.underlying33, oc33, ec_length]
theorem requal_ofr {a b : Ofr} (ha : a.Fit) (hb : b.Fit) (w : World) : (Op.equal 33 (ov a) (ov b)).run Tryz.prog w = .ok (decide (a = b)) w := by
  obtain ⟨r, h1, h2⟩ := equal_agg (P := Tryz.prog) (T := 33) 3 (by omega) (by kernel_rfl) (by kernel_rfl) (by rw [Tryz.underlying33]) (by kernel_rfl) (rofr_formed a) (rofr_formed b) (rofr_lits a ha) (rofr_lits b hb) w
  have h3 : r = decide (a = b) := by
    by_cases e : a = b
    · rw [decide_eq_true e]
      exact h2.2 (by rw [e])
    · rw [decide_eq_false e]
      cases r with
      | false => rfl
      | true => exact absurd (ec_inj (h2.1 rfl)) e
  rw [h3] at h1
  exact h1
theorem qnO {S : List Nat} {w0 : World} {F : World → Prop} {L : Env} {d : Option Nat} {ty : TypeId} {pos : String} {af : Array Edge} {g : Option (Nat × Bool)} {x y : Operand} {T' : TypeId} {a b : Ofr} {c : Bool} (hx : ro L x = some (ov a)) (hy : ro L y = some (ov b)) (ha : a.Fit) (hb : b.Fit) (h : Dc (a = b) c) :
    Vals Tryz.prog S w0 F L ⟨d, .binOp .neq 33 x y T', ty, pos, af, g⟩ (.bool (!c)) := fun w _ _ => by
  rw [← h.eq]
  have hx' : rho L x = .agg (ec a).toArray := rho_of hx
  have hy' : rho L y = .agg (ec b).toArray := rho_of hy
  have he : ∀ w, (Op.equal 33 (.agg (ec a).toArray) (.agg (ec b).toArray)).run Tryz.prog w = .ok (decide (a = b)) w := fun w => requal_ofr ha hb w
  simp [execOp, hx', hy', eqGuard, binOp, he]
attribute [local irreducible] CG NG SG Vals Der Row Blk MapIs IterAt addI xorI orI andI shlI shrI mulI twoI cmpD cmpW kW digO manyI mixD sortK maxs dealOf DerR
set_option maxHeartbeats 16000000 in
theorem lawof_spec (o : Ofr) (w : World) : Ret Tryz.prog 33 #[ov o] w (ov o) := by
  refine enter1 Tryz.func33 rfl Tryz.ntmps33 rfl ?_
  repeat (first|apply cA|apply cB|apply cD|apply cE|apply cF|apply cG|apply cH|apply cJ|apply cM|apply cU|refine cV rfl ?_|apply cY|refine cZ rfl rfl rfl rfl (by first|((first|apply qep|apply qno|apply qnO|apply qmv|apply qas|apply qlc|apply qla|apply qfa|apply qnc|apply qix|apply qpk|apply qls|apply qei|apply qni|apply qad|apply qln|apply qgt|apply qnt|apply qep)<;>(first|exact rfl|assumption|exact Ar.mk (by omega)|exact dct (by first|assumption|omega)|exact dcf (by first|assumption|omega)|exact List.not_mem_nil|apply dc_length|apply ec_length|fail))|fail) ?_)
  refine SG.box rfl rfl rfl (by exact rho_of rfl) (fun b1 w1 hk1 hb1 hB1 => ?_)
  have hB1 : Blk w1 b1 (.cells (ec o).toArray 41) := hB1
  have l1 := hB1.lt
  repeat (first|apply cA|apply cB|apply cD|apply cE|apply cF|apply cG|apply cH|apply cJ|apply cM|apply cU|refine cV rfl ?_|apply cY|refine cZ rfl rfl rfl rfl (by first|((first|apply qep|apply qno|apply qnO|apply qmv|apply qas|apply qlc|apply qla|apply qfa|apply qnc|apply qix|apply qpk|apply qls|apply qei|apply qni|apply qad|apply qln|apply qgt|apply qnt|apply qep)<;>(first|exact rfl|assumption|exact Ar.mk (by omega)|exact dct (by first|assumption|omega)|exact dcf (by first|assumption|omega)|exact List.not_mem_nil|apply dc_length|apply ec_length|fail))|fail) ?_)
  refine SG.alloc rfl rfl rfl (fun b2 w2 hk2 hb2 hB2 => ?_)
  obtain ⟨q0, q1, q2, q3, q4, q5, q6, -⟩ := ec_rows (hB1.kp0 hk2)
  have s1 := hk1.size
  repeat (first|apply cA|apply cB|apply cD|apply cE|apply cF|apply cG|apply cH|apply cJ|apply cM|apply cU|refine cV rfl ?_|apply cY|refine cZ rfl rfl rfl rfl (by first|((first|apply qep|apply qno|apply qnO|apply qmv|apply qas|apply qlc|apply qla|apply qfa|apply qnc|apply qix|apply qpk|apply qls|apply qei|apply qni|apply qad|apply qln|apply qgt|apply qnt|apply qep)<;>(first|exact rfl|assumption|exact Ar.mk (by omega)|exact dct (by first|assumption|omega)|exact dcf (by first|assumption|omega)|exact List.not_mem_nil|apply dc_length|apply ec_length|fail))|fail) ?_)
  refine cZ rfl rfl rfl rfl (vals_build rfl (btO o)) ?_
  refine SG.setAll (l := ec o) rfl rfl (by exact rho_of rfl) (by exact rho_of rfl) hB2 (ec_length _) rfl (ec_one _) (fun w3 hk3 hB3 => ?_)
  have hr : Row w3 b2 0 (ec o) := Row.all hB3 rfl
  repeat (first|apply cA|apply cB|apply cD|apply cE|apply cF|apply cG|apply cH|apply cJ|apply cM|apply cU|refine cV rfl ?_|apply cY|refine cZ rfl rfl rfl rfl (by first|((first|apply qep|apply qno|apply qnO|apply qmv|apply qas|apply qlc|apply qla|apply qfa|apply qnc|apply qix|apply qpk|apply qls|apply qei|apply qni|apply qad|apply qln|apply qgt|apply qnt|apply qep)<;>(first|exact rfl|assumption|exact Ar.mk (by omega)|exact dct (by first|assumption|omega)|exact dcf (by first|assumption|omega)|exact List.not_mem_nil|apply dc_length|apply ec_length|fail))|fail) ?_)
  refine ret1 (Or.inl rfl) Tryz.results33 (by first | exact ResV.tmp rfl | exact ResV.agg rfl rfl (by assumption) (by first | exact dc_length _ | exact nc_length _ | exact rc_length _ _ _ | exact ec_length _ | exact dl_length _ _ _ _ | rfl) | exact ResV.cell rfl rfl (by assumption)) ?_
  exact ⟨rfl, (hk1.trans hk2).trans_new hk3 (new1 (by omega))⟩
set_option maxHeartbeats 16000000 in
/-- Offers that are the document's. -/
theorem lsame_spec {w : World} {m : List Ofr} {a a' : Option Addr} {c c' : Nat} (hS : Sl ec 21 w a m) (hT : Sl ec 21 w a' m) (hl : m.length ≤ 1000000) (hf : ∀ x ∈ m, x.Fit) : Ret Tryz.prog 15 #[.slice a m.length c, .slice a' m.length c'] w (.bool true) := by
  refine enter2 Tryz.func15 rfl Tryz.ntmps15 rfl ?_
  have g0 : (m.length : Int) = (m.length : Int) := rfl
  repeat (first|apply cA|apply cB|apply cD|apply cE|apply cF|apply cG|apply cH|apply cJ|apply cM|apply cU|refine cV rfl ?_|apply cY|refine cZ rfl rfl rfl rfl (by first|((first|apply qep|apply qno|apply qnO|apply qmv|apply qas|apply qlc|apply qla|apply qfa|apply qnc|apply qix|apply qpk|apply qls|apply qei|apply qni|apply qad|apply qln|apply qgt|apply qnt|apply qep)<;>(first|exact rfl|assumption|exact Ar.mk (by omega)|exact dct (by first|assumption|omega)|exact dcf (by first|assumption|omega)|exact List.not_mem_nil|apply dc_length|apply ec_length|fail))|fail) ?_)
  refine dE rfl (by exact rho_of rfl) rfl ?_
  repeat (first|apply cA|apply cB|apply cD|apply cE|apply cF|apply cG|apply cH|apply cJ|apply cM|apply cU|refine cV rfl ?_|apply cY|refine cZ rfl rfl rfl rfl (by first|((first|apply qep|apply qno|apply qnO|apply qmv|apply qas|apply qlc|apply qla|apply qfa|apply qnc|apply qix|apply qpk|apply qls|apply qei|apply qni|apply qad|apply qln|apply qgt|apply qnt|apply qep)<;>(first|exact rfl|assumption|exact Ar.mk (by omega)|exact dct (by first|assumption|omega)|exact dcf (by first|assumption|omega)|exact List.not_mem_nil|apply dc_length|apply ec_length|fail))|fail) ?_)
  refine CG.loop (X := Nat) (fun i => [(0, .slice a m.length c), (1, .slice a' m.length c'), (5, .int .i64 (i : Int))]) (fun i w' => i ≤ m.length ∧ Kp [] w w') (fun i => m.length - i) 0 ⟨Nat.zero_le _, Kp.refl _ _⟩ (by (repeat' (first | exact True.intro | exact rfl | refine And.intro ?_ ?_))) ?_
  rintro i w1 ⟨hi, hk1⟩
  by_cases hlt : i < m.length
  · have g1 : (i : Int) < (m.length : Int) := by omega
    obtain ⟨ba, oa, rfl, hra⟩ := (hS.kp0 hk1).at hlt
    obtain ⟨bb, ob, rfl, hrb⟩ := (hT.kp0 hk1).at hlt
    have hfi := hf _ (List.getElem_mem hlt)
    generalize m[i] = x at hra hrb hfi
    have e1 : x = x := rfl
    repeat (first|apply cA|apply cB|apply cD|apply cE|apply cF|apply cG|apply cH|apply cJ|apply cM|apply cU|refine cV rfl ?_|apply cY|refine cZ rfl rfl rfl rfl (by first|((first|apply qep|apply qno|apply qnO|apply qmv|apply qas|apply qlc|apply qla|apply qfa|apply qnc|apply qix|apply qpk|apply qls|apply qei|apply qni|apply qad|apply qln|apply qgt|apply qnt|apply qep)<;>(first|exact rfl|assumption|exact Ar.mk (by omega)|exact dct (by first|assumption|omega)|exact dcf (by first|assumption|omega)|exact List.not_mem_nil|apply dc_length|apply ec_length|fail))|fail) ?_)
    refine dD rfl (by exact rho_of rfl) rfl ?_
    repeat (first|apply cA|apply cB|apply cD|apply cE|apply cF|apply cG|apply cH|apply cJ|apply cM|apply cU|refine cV rfl ?_|apply cY|refine cZ rfl rfl rfl rfl (by first|((first|apply qep|apply qno|apply qnO|apply qmv|apply qas|apply qlc|apply qla|apply qfa|apply qnc|apply qix|apply qpk|apply qls|apply qei|apply qni|apply qad|apply qln|apply qgt|apply qnt|apply qep)<;>(first|exact rfl|assumption|exact Ar.mk (by omega)|exact dct (by first|assumption|omega)|exact dcf (by first|assumption|omega)|exact List.not_mem_nil|apply dc_length|apply ec_length|fail))|fail) ?_)
    refine CG.draw0 mixed [0, 1, 2, 3, 4, 5, 6, 7, 8, 9] [] (by kernel_rfl) ?_
    repeat (refine dB rfl rfl rfl (by first|((first|apply qep|apply qno|apply qnO|apply qmv|apply qas|apply qlc|apply qla|apply qfa|apply qnc|apply qix|apply qpk|apply qls|apply qei|apply qni|apply qad|apply qln|apply qgt|apply qnt|apply qep)<;>(first|exact rfl|assumption|exact Ar.mk (by omega)|exact dct (by first|assumption|omega)|exact dcf (by first|assumption|omega)|exact List.not_mem_nil|apply dc_length|apply ec_length|fail))|fail) ?_)
    refine Der.call rfl rfl rfl (vs := [ov x]) (by repeat' (first | exact True.intro | exact rho_of rfl | refine And.intro ?_ ?_)) (fun W hk _ => lawof_spec x W) ?_
    repeat (refine dB rfl rfl rfl (by first|((first|apply qep|apply qno|apply qnO|apply qmv|apply qas|apply qlc|apply qla|apply qfa|apply qnc|apply qix|apply qpk|apply qls|apply qei|apply qni|apply qad|apply qln|apply qgt|apply qnt|apply qep)<;>(first|exact rfl|assumption|exact Ar.mk (by omega)|exact dct (by first|assumption|omega)|exact dcf (by first|assumption|omega)|exact List.not_mem_nil|apply dc_length|apply ec_length|fail))|fail) ?_)
    refine Der.fin (fun w2 hk2 _ _ => ?_)
    repeat (first|apply cA|apply cB|apply cD|apply cE|apply cF|apply cG|apply cH|apply cJ|apply cM|apply cU|refine cV rfl ?_|apply cY|refine cZ rfl rfl rfl rfl (by first|((first|apply qep|apply qno|apply qnO|apply qmv|apply qas|apply qlc|apply qla|apply qfa|apply qnc|apply qix|apply qpk|apply qls|apply qei|apply qni|apply qad|apply qln|apply qgt|apply qnt|apply qep)<;>(first|exact rfl|assumption|exact Ar.mk (by omega)|exact dct (by first|assumption|omega)|exact dcf (by first|assumption|omega)|exact List.not_mem_nil|apply dc_length|apply ec_length|fail))|fail) ?_)
    refine dE rfl (by exact rho_of rfl) rfl ?_
    repeat (first|apply cA|apply cB|apply cD|apply cE|apply cF|apply cG|apply cH|apply cJ|apply cM|apply cU|refine cV rfl ?_|apply cY|refine cZ rfl rfl rfl rfl (by first|((first|apply qep|apply qno|apply qnO|apply qmv|apply qas|apply qlc|apply qla|apply qfa|apply qnc|apply qix|apply qpk|apply qls|apply qei|apply qni|apply qad|apply qln|apply qgt|apply qnt|apply qep)<;>(first|exact rfl|assumption|exact Ar.mk (by omega)|exact dct (by first|assumption|omega)|exact dcf (by first|assumption|omega)|exact List.not_mem_nil|apply dc_length|apply ec_length|fail))|fail) ?_)
    refine NG.round (i + 1) (by (repeat' (first | exact True.intro | exact rfl | refine And.intro ?_ ?_))) ⟨by omega, hk1.trans hk2⟩ (by omega)
  · have g1 : ¬ (i : Int) < (m.length : Int) := by omega
    repeat (first|apply cA|apply cB|apply cD|apply cE|apply cF|apply cG|apply cH|apply cJ|apply cM|apply cU|refine cV rfl ?_|apply cY|refine cZ rfl rfl rfl rfl (by first|((first|apply qep|apply qno|apply qnO|apply qmv|apply qas|apply qlc|apply qla|apply qfa|apply qnc|apply qix|apply qpk|apply qls|apply qei|apply qni|apply qad|apply qln|apply qgt|apply qnt|apply qep)<;>(first|exact rfl|assumption|exact Ar.mk (by omega)|exact dct (by first|assumption|omega)|exact dcf (by first|assumption|omega)|exact List.not_mem_nil|apply dc_length|apply ec_length|fail))|fail) ?_)
    refine dE rfl (by exact rho_of rfl) rfl ?_
    repeat (first|apply cA|apply cB|apply cD|apply cE|apply cF|apply cG|apply cH|apply cJ|apply cM|apply cU|refine cV rfl ?_|apply cY|refine cZ rfl rfl rfl rfl (by first|((first|apply qep|apply qno|apply qnO|apply qmv|apply qas|apply qlc|apply qla|apply qfa|apply qnc|apply qix|apply qpk|apply qls|apply qei|apply qni|apply qad|apply qln|apply qgt|apply qnt|apply qep)<;>(first|exact rfl|assumption|exact Ar.mk (by omega)|exact dct (by first|assumption|omega)|exact dcf (by first|assumption|omega)|exact List.not_mem_nil|apply dc_length|apply ec_length|fail))|fail) ?_)
    refine ret1 (Or.inl rfl) Tryz.results15 (by first | exact ResV.tmp rfl | exact ResV.agg rfl rfl (by assumption) (by first | exact dc_length _ | exact nc_length _ | exact rc_length _ _ _ | exact ec_length _ | exact dl_length _ _ _ _ | rfl) | exact ResV.cell rfl rfl (by assumption)) ?_
    exact ⟨rfl, hk1⟩
set_option maxHeartbeats 16000000 in
theorem oequal_spec {w : World} {m : List Ofr} {a a' : Option Addr} {c c' : Nat} (hS : Sl ec 21 w a m) (hT : Sl ec 21 w a' m) (hl : m.length ≤ 1000000) (hf : ∀ x ∈ m, x.Fit) : Ret Tryz.prog 35 #[.slice a m.length c, .slice a' m.length c'] w (.bool true) := by
  refine enter2 Tryz.func35 rfl Tryz.ntmps35 rfl ?_
  have g0 : (m.length : Int) = (m.length : Int) := rfl
  repeat (first|apply cA|apply cB|apply cD|apply cE|apply cF|apply cG|apply cH|apply cJ|apply cM|apply cU|refine cV rfl ?_|apply cY|refine cZ rfl rfl rfl rfl (by first|((first|apply qep|apply qno|apply qnO|apply qmv|apply qas|apply qlc|apply qla|apply qfa|apply qnc|apply qix|apply qpk|apply qls|apply qei|apply qni|apply qad|apply qln|apply qgt|apply qnt|apply qep)<;>(first|exact rfl|assumption|exact Ar.mk (by omega)|exact dct (by first|assumption|omega)|exact dcf (by first|assumption|omega)|exact List.not_mem_nil|apply dc_length|apply ec_length|fail))|fail) ?_)
  refine dE rfl (by exact rho_of rfl) rfl ?_
  repeat (first|apply cA|apply cB|apply cD|apply cE|apply cF|apply cG|apply cH|apply cJ|apply cM|apply cU|refine cV rfl ?_|apply cY|refine cZ rfl rfl rfl rfl (by first|((first|apply qep|apply qno|apply qnO|apply qmv|apply qas|apply qlc|apply qla|apply qfa|apply qnc|apply qix|apply qpk|apply qls|apply qei|apply qni|apply qad|apply qln|apply qgt|apply qnt|apply qep)<;>(first|exact rfl|assumption|exact Ar.mk (by omega)|exact dct (by first|assumption|omega)|exact dcf (by first|assumption|omega)|exact List.not_mem_nil|apply dc_length|apply ec_length|fail))|fail) ?_)
  refine CG.loop (X := Nat) (fun i => [(0, .slice a m.length c), (1, .slice a' m.length c'), (12, .int .i64 (m.length : Int)), (13, .int .i64 (i : Int))]) (fun i w' => i ≤ m.length ∧ Kp [] w w') (fun i => m.length - i) 0 ⟨Nat.zero_le _, Kp.refl _ _⟩ (by (repeat' (first | exact True.intro | exact rfl | refine And.intro ?_ ?_))) ?_
  rintro i w1 ⟨hi, hk1⟩
  by_cases hlt : i < m.length
  · have g1 : (i : Int) < (m.length : Int) := by omega
    obtain ⟨ba, oa, rfl, hra⟩ := (hS.kp0 hk1).at hlt
    obtain ⟨bb, ob, rfl, hrb⟩ := (hT.kp0 hk1).at hlt
    have hfi := hf _ (List.getElem_mem hlt)
    generalize m[i] = x at hra hrb hfi
    have e1 : x = x := rfl
    repeat (first|apply cA|apply cB|apply cD|apply cE|apply cF|apply cG|apply cH|apply cJ|apply cM|apply cU|refine cV rfl ?_|apply cY|refine cZ rfl rfl rfl rfl (by first|((first|apply qep|apply qno|apply qnO|apply qmv|apply qas|apply qlc|apply qla|apply qfa|apply qnc|apply qix|apply qpk|apply qls|apply qei|apply qni|apply qad|apply qln|apply qgt|apply qnt|apply qep)<;>(first|exact rfl|assumption|exact Ar.mk (by omega)|exact dct (by first|assumption|omega)|exact dcf (by first|assumption|omega)|exact List.not_mem_nil|apply dc_length|apply ec_length|fail))|fail) ?_)
    refine dD rfl (by exact rho_of rfl) rfl ?_
    repeat (first|apply cA|apply cB|apply cD|apply cE|apply cF|apply cG|apply cH|apply cJ|apply cM|apply cU|refine cV rfl ?_|apply cY|refine cZ rfl rfl rfl rfl (by first|((first|apply qep|apply qno|apply qnO|apply qmv|apply qas|apply qlc|apply qla|apply qfa|apply qnc|apply qix|apply qpk|apply qls|apply qei|apply qni|apply qad|apply qln|apply qgt|apply qnt|apply qep)<;>(first|exact rfl|assumption|exact Ar.mk (by omega)|exact dct (by first|assumption|omega)|exact dcf (by first|assumption|omega)|exact List.not_mem_nil|apply dc_length|apply ec_length|fail))|fail) ?_)
    refine CG.draw0 mixed [0, 1, 2, 3, 4, 5, 6, 7, 8] [] (by kernel_rfl) ?_
    repeat (refine dB rfl rfl rfl (by first|((first|apply qep|apply qno|apply qnO|apply qmv|apply qas|apply qlc|apply qla|apply qfa|apply qnc|apply qix|apply qpk|apply qls|apply qei|apply qni|apply qad|apply qln|apply qgt|apply qnt|apply qep)<;>(first|exact rfl|assumption|exact Ar.mk (by omega)|exact dct (by first|assumption|omega)|exact dcf (by first|assumption|omega)|exact List.not_mem_nil|apply dc_length|apply ec_length|fail))|fail) ?_)
    refine Der.fin (fun w2 hk2 _ _ => ?_)
    repeat (first|apply cA|apply cB|apply cD|apply cE|apply cF|apply cG|apply cH|apply cJ|apply cM|apply cU|refine cV rfl ?_|apply cY|refine cZ rfl rfl rfl rfl (by first|((first|apply qep|apply qno|apply qnO|apply qmv|apply qas|apply qlc|apply qla|apply qfa|apply qnc|apply qix|apply qpk|apply qls|apply qei|apply qni|apply qad|apply qln|apply qgt|apply qnt|apply qep)<;>(first|exact rfl|assumption|exact Ar.mk (by omega)|exact dct (by first|assumption|omega)|exact dcf (by first|assumption|omega)|exact List.not_mem_nil|apply dc_length|apply ec_length|fail))|fail) ?_)
    refine dE rfl (by exact rho_of rfl) rfl ?_
    repeat (first|apply cA|apply cB|apply cD|apply cE|apply cF|apply cG|apply cH|apply cJ|apply cM|apply cU|refine cV rfl ?_|apply cY|refine cZ rfl rfl rfl rfl (by first|((first|apply qep|apply qno|apply qnO|apply qmv|apply qas|apply qlc|apply qla|apply qfa|apply qnc|apply qix|apply qpk|apply qls|apply qei|apply qni|apply qad|apply qln|apply qgt|apply qnt|apply qep)<;>(first|exact rfl|assumption|exact Ar.mk (by omega)|exact dct (by first|assumption|omega)|exact dcf (by first|assumption|omega)|exact List.not_mem_nil|apply dc_length|apply ec_length|fail))|fail) ?_)
    refine NG.round (i + 1) (by (repeat' (first | exact True.intro | exact rfl | refine And.intro ?_ ?_))) ⟨by omega, hk1.trans hk2⟩ (by omega)
  · have g1 : ¬ (i : Int) < (m.length : Int) := by omega
    repeat (first|apply cA|apply cB|apply cD|apply cE|apply cF|apply cG|apply cH|apply cJ|apply cM|apply cU|refine cV rfl ?_|apply cY|refine cZ rfl rfl rfl rfl (by first|((first|apply qep|apply qno|apply qnO|apply qmv|apply qas|apply qlc|apply qla|apply qfa|apply qnc|apply qix|apply qpk|apply qls|apply qei|apply qni|apply qad|apply qln|apply qgt|apply qnt|apply qep)<;>(first|exact rfl|assumption|exact Ar.mk (by omega)|exact dct (by first|assumption|omega)|exact dcf (by first|assumption|omega)|exact List.not_mem_nil|apply dc_length|apply ec_length|fail))|fail) ?_)
    refine dE rfl (by exact rho_of rfl) rfl ?_
    repeat (first|apply cA|apply cB|apply cD|apply cE|apply cF|apply cG|apply cH|apply cJ|apply cM|apply cU|refine cV rfl ?_|apply cY|refine cZ rfl rfl rfl rfl (by first|((first|apply qep|apply qno|apply qnO|apply qmv|apply qas|apply qlc|apply qla|apply qfa|apply qnc|apply qix|apply qpk|apply qls|apply qei|apply qni|apply qad|apply qln|apply qgt|apply qnt|apply qep)<;>(first|exact rfl|assumption|exact Ar.mk (by omega)|exact dct (by first|assumption|omega)|exact dcf (by first|assumption|omega)|exact List.not_mem_nil|apply dc_length|apply ec_length|fail))|fail) ?_)
    refine ret1 (Or.inl rfl) Tryz.results35 (by first | exact ResV.tmp rfl | exact ResV.agg rfl rfl (by assumption) (by first | exact dc_length _ | exact nc_length _ | exact rc_length _ _ _ | exact ec_length _ | exact dl_length _ _ _ _ | rfl) | exact ResV.cell rfl rfl (by assumption)) ?_
    exact ⟨rfl, hk1⟩
set_option maxHeartbeats 16000000 in
theorem psame_spec {w : World} {base base' bt bt' : Nat} {room : Int} {v v' : Value} {m : List Ofr} (hL : Lob base w bt room v m) (hM : Lob base' w bt' room v' m) (hl : m.length ≤ 1000000) (hf : ∀ x ∈ m, x.Fit) : Ret Tryz.prog 17 #[.pointer (some ⟨bt, 0, none⟩), .pointer (some ⟨bt', 0, none⟩)] w (.bool true) := by
  refine enter2 Tryz.func17 rfl Tryz.ntmps17 rfl ?_
  obtain ⟨a, c, rfl, hc, hS⟩ := Sl.own ec_length hL.own rfl
  obtain ⟨a', c', rfl, hc', hS'⟩ := Sl.own ec_length hM.own rfl
  obtain ⟨r0, r1⟩ := hL.rows
  obtain ⟨p0, p1⟩ := hM.rows
  have e1 : room = room := rfl
  repeat (first | first|apply cA|apply cB|apply cD|apply cE|apply cF|apply cG|apply cH|apply cJ|apply cM|apply cU|refine cV rfl ?_|apply cY|refine cZ rfl rfl rfl rfl (by first|((first|apply qep|apply qno|apply qnO|apply qmv|apply qas|apply qlc|apply qla|apply qfa|apply qnc|apply qix|apply qpk|apply qls|apply qei|apply qni|apply qad|apply qln|apply qgt|apply qnt|apply qep)<;>(first|exact rfl|assumption|exact Ar.mk (by omega)|exact dct (by first|assumption|omega)|exact dcf (by first|assumption|omega)|exact List.not_mem_nil|apply dc_length|apply ec_length|fail))|fail) ?_ | refine dA rfl rfl ?_)
  refine dE rfl (by exact rho_of rfl) rfl ?_
  repeat (first|apply cA|apply cB|apply cD|apply cE|apply cF|apply cG|apply cH|apply cJ|apply cM|apply cU|refine cV rfl ?_|apply cY|refine cZ rfl rfl rfl rfl (by first|((first|apply qep|apply qno|apply qnO|apply qmv|apply qas|apply qlc|apply qla|apply qfa|apply qnc|apply qix|apply qpk|apply qls|apply qei|apply qni|apply qad|apply qln|apply qgt|apply qnt|apply qep)<;>(first|exact rfl|assumption|exact Ar.mk (by omega)|exact dct (by first|assumption|omega)|exact dcf (by first|assumption|omega)|exact List.not_mem_nil|apply dc_length|apply ec_length|fail))|fail) ?_)
  refine CG.draw0 mixed [0, 1, 2, 3, 4, 5, 6, 7, 8, 9, 10, 11, 12, 13, 14, 15, 16, 17, 18, 19, 20] [] (by kernel_rfl) ?_
  repeat (first | refine dB rfl rfl rfl (by first|((first|apply qep|apply qno|apply qnO|apply qmv|apply qas|apply qlc|apply qla|apply qfa|apply qnc|apply qix|apply qpk|apply qls|apply qei|apply qni|apply qad|apply qln|apply qgt|apply qnt|apply qep)<;>(first|exact rfl|assumption|exact Ar.mk (by omega)|exact dct (by first|assumption|omega)|exact dcf (by first|assumption|omega)|exact List.not_mem_nil|apply dc_length|apply ec_length|fail))|fail) ?_ | refine Der.skip rfl rfl ?_)
  refine Der.call rfl rfl rfl (vs := [.slice a m.length c, .slice a' m.length c']) (by repeat' (first | exact True.intro | exact rho_of rfl | refine And.intro ?_ ?_)) (fun W hk _ => oequal_spec (hS.kp0 hk) (hS'.kp0 hk) hl hf) ?_
  repeat (first | refine dB rfl rfl rfl (by first|((first|apply qep|apply qno|apply qnO|apply qmv|apply qas|apply qlc|apply qla|apply qfa|apply qnc|apply qix|apply qpk|apply qls|apply qei|apply qni|apply qad|apply qln|apply qgt|apply qnt|apply qep)<;>(first|exact rfl|assumption|exact Ar.mk (by omega)|exact dct (by first|assumption|omega)|exact dcf (by first|assumption|omega)|exact List.not_mem_nil|apply dc_length|apply ec_length|fail))|fail) ?_ | refine Der.skip rfl rfl ?_)
  refine Der.fin (fun w2 hk2 _ _ => ?_)
  repeat (first|apply cA|apply cB|apply cD|apply cE|apply cF|apply cG|apply cH|apply cJ|apply cM|apply cU|refine cV rfl ?_|apply cY|refine cZ rfl rfl rfl rfl (by first|((first|apply qep|apply qno|apply qnO|apply qmv|apply qas|apply qlc|apply qla|apply qfa|apply qnc|apply qix|apply qpk|apply qls|apply qei|apply qni|apply qad|apply qln|apply qgt|apply qnt|apply qep)<;>(first|exact rfl|assumption|exact Ar.mk (by omega)|exact dct (by first|assumption|omega)|exact dcf (by first|assumption|omega)|exact List.not_mem_nil|apply dc_length|apply ec_length|fail))|fail) ?_)
  refine ret1 (Or.inl rfl) Tryz.results17 (by first | exact ResV.tmp rfl | exact ResV.agg rfl rfl (by assumption) (by first | exact dc_length _ | exact nc_length _ | exact rc_length _ _ _ | exact ec_length _ | exact dl_length _ _ _ _ | rfl) | exact ResV.cell rfl rfl (by assumption)) ?_
  exact ⟨rfl, hk2⟩
set_option maxHeartbeats 16000000 in
theorem pclone_spec {w : World} {base bt : Nat} {room : Int} {v : Value} {m : List Ofr} (hL : Lob base w bt room v m) (hl : m.length ≤ 100000) : Calls Tryz.prog 16 #[.pointer (some ⟨bt, 0, none⟩)] w (fun e w' => ∃ b' v', e = .returned (.pointer (some ⟨b', 0, none⟩)) ∧ w.heap.size ≤ b' ∧ Kp [] w w' ∧ Lob w.heap.size w' b' room v' m) := by
  refine enter1 Tryz.func16 rfl Tryz.ntmps16 rfl ?_
  obtain ⟨a, c, rfl, hc, hS⟩ := Sl.own ec_length hL.own rfl
  obtain ⟨r0, r1⟩ := hL.rows
  repeat (first|apply cA|apply cB|apply cD|apply cE|apply cF|apply cG|apply cH|apply cJ|apply cM|apply cU|refine cV rfl ?_|apply cY|refine cZ rfl rfl rfl rfl (by first|((first|apply qep|apply qno|apply qnO|apply qmv|apply qas|apply qlc|apply qla|apply qfa|apply qnc|apply qix|apply qpk|apply qls|apply qei|apply qni|apply qad|apply qln|apply qgt|apply qnt|apply qep)<;>(first|exact rfl|assumption|exact Ar.mk (by omega)|exact dct (by first|assumption|omega)|exact dcf (by first|assumption|omega)|exact List.not_mem_nil|apply dc_length|apply ec_length|fail))|fail) ?_)
  refine dE rfl (by exact rho_of rfl) rfl ?_
  repeat (first|apply cA|apply cB|apply cD|apply cE|apply cF|apply cG|apply cH|apply cJ|apply cM|apply cU|refine cV rfl ?_|apply cY|refine cZ rfl rfl rfl rfl (by first|((first|apply qep|apply qno|apply qnO|apply qmv|apply qas|apply qlc|apply qla|apply qfa|apply qnc|apply qix|apply qpk|apply qls|apply qei|apply qni|apply qad|apply qln|apply qgt|apply qnt|apply qep)<;>(first|exact rfl|assumption|exact Ar.mk (by omega)|exact dct (by first|assumption|omega)|exact dcf (by first|assumption|omega)|exact List.not_mem_nil|apply dc_length|apply ec_length|fail))|fail) ?_)
  refine CG.tailg mixed 9 [0, 1, 2, 3, 4, 5, 6, 7, 8] [8] [] (fun _ => True) (by kernel_rfl) trivial (fun _ _ _ h => h) ?_
  repeat (refine dB rfl rfl rfl (by first|((first|apply qep|apply qno|apply qnO|apply qmv|apply qas|apply qlc|apply qla|apply qfa|apply qnc|apply qix|apply qpk|apply qls|apply qei|apply qni|apply qad|apply qln|apply qgt|apply qnt|apply qep)<;>(first|exact rfl|assumption|exact Ar.mk (by omega)|exact dct (by first|assumption|omega)|exact dcf (by first|assumption|omega)|exact List.not_mem_nil|apply dc_length|apply ec_length|fail))|fail) ?_)
  refine Der.callG (X := Value) (vs := [.slice a m.length c]) (fun q => q) (fun q w' => w'.ownsRow w.heap.size 41 21 q m.length (flt ec m)) rfl rfl rfl rfl (by repeat' (first | exact True.intro | exact rho_of rfl | refine And.intro ?_ ?_)) (fun q w w' hk h => own_kp0 h hk) (fun _ _ _ h => h) (fun W hk _ => (oclone_spec c (hS.kp0 hk) hl).mono (fun e w' hh => ?_)) (fun q => ?_)
  · obtain ⟨v', he, ho, hk'⟩ := hh
    exact ⟨v', he, own_mono ho hk.size, hk'⟩
  refine Der.tl (fun w1 hk1 hF _ => ?_)
  have hoq : w1.ownsRow w.heap.size 41 21 q m.length (flt ec m) := hF.2
  obtain ⟨aq, cq, rfl, _, _⟩ := Sl.own ec_length hoq rfl
  refine cZ rfl rfl rfl rfl (vals_build rfl (bl2 room aq m.length cq)) ?_
  refine SG.box rfl rfl rfl (by exact rho_of rfl) (fun b w2 hk2 hb hB => ?_)
  repeat (first|apply cA|apply cB|apply cD|apply cE|apply cF|apply cG|apply cH|apply cJ|apply cM|apply cU|refine cV rfl ?_|apply cY|refine cZ rfl rfl rfl rfl (by first|((first|apply qep|apply qno|apply qnO|apply qmv|apply qas|apply qlc|apply qla|apply qfa|apply qnc|apply qix|apply qpk|apply qls|apply qei|apply qni|apply qad|apply qln|apply qgt|apply qnt|apply qep)<;>(first|exact rfl|assumption|exact Ar.mk (by omega)|exact dct (by first|assumption|omega)|exact dcf (by first|assumption|omega)|exact List.not_mem_nil|apply dc_length|apply ec_length|fail))|fail) ?_)
  refine ret1 (Or.inl rfl) Tryz.results16 (by first | exact ResV.tmp rfl | exact ResV.agg rfl rfl (by assumption) (by first | exact dc_length _ | exact nc_length _ | exact rc_length _ _ _ | exact ec_length _ | exact dl_length _ _ _ _ | rfl) | exact ResV.cell rfl rfl (by assumption)) ?_
  exact ⟨b, _, rfl, Nat.le_trans hk1.size hb, hk1.trans hk2, hB, own_kp0 hoq hk2⟩
set_option maxHeartbeats 16000000 in
theorem pdrop_spec {w : World} {base bt : Nat} {room : Int} {v : Value} {m : List Ofr} (d : Dg) (hL : Lob base w bt room v m) (hl : m.length ≤ 100000) : Calls Tryz.prog 10 #[.pointer (some ⟨bt, 0, none⟩), dv d] w (fun e w' => e = .returned (.bool (decide ((whoL d m).length < m.length))) ∧ Kp (bt :: ownB v) w w' ∧ ∃ v', Lob base w' bt room v' (whoL d m)) := by
  refine enter2 Tryz.func10 rfl Tryz.ntmps10 rfl ?_
  have hv := hL.own
  obtain ⟨a, c, e, hc, hS⟩ := Sl.own ec_length hL.own rfl
  rw [← any_who]
  repeat (first|apply cA|apply cB|apply cD|apply cE|apply cF|apply cG|apply cH|apply cJ|apply cM|apply cU|refine cV rfl ?_|apply cY|refine cZ rfl rfl rfl rfl (by first|((first|apply qep|apply qno|apply qnO|apply qmv|apply qas|apply qlc|apply qla|apply qfa|apply qnc|apply qix|apply qpk|apply qls|apply qei|apply qni|apply qad|apply qln|apply qgt|apply qnt|apply qep)<;>(first|exact rfl|assumption|exact Ar.mk (by omega)|exact dct (by first|assumption|omega)|exact dcf (by first|assumption|omega)|exact List.not_mem_nil|apply dc_length|apply ec_length|fail))|fail) ?_)
  refine SG.box rfl rfl rfl (by exact rho_of rfl) (fun b3 w1 hk1 hb3 hB3 => ?_)
  have hB3 : Blk w1 b3 (.cells (dc d).toArray 39) := hB3
  have hR3 : Row w1 b3 0 (dc d) := Row.all hB3 rfl
  have hL1 := hL.kp0 hk1
  have hS1 := hS.kp0 hk1
  obtain ⟨r0, r1⟩ := hL1.rows
  rw [e] at r1
  repeat (first|apply cA|apply cB|apply cD|apply cE|apply cF|apply cG|apply cH|apply cJ|apply cM|apply cU|refine cV rfl ?_|apply cY|refine cZ rfl rfl rfl rfl (by first|((first|apply qep|apply qno|apply qnO|apply qmv|apply qas|apply qlc|apply qla|apply qfa|apply qnc|apply qix|apply qpk|apply qls|apply qei|apply qni|apply qad|apply qln|apply qgt|apply qnt|apply qep)<;>(first|exact rfl|assumption|exact Ar.mk (by omega)|exact dct (by first|assumption|omega)|exact dcf (by first|assumption|omega)|exact List.not_mem_nil|apply dc_length|apply ec_length|fail))|fail) ?_)
  refine CG.draw0 mixed [0, 1, 2, 3, 4, 5, 6, 7, 8, 9, 10, 11] [8] (by kernel_rfl) ?_
  repeat (first | refine dB rfl rfl rfl (by first|((first|apply qep|apply qno|apply qnO|apply qmv|apply qas|apply qlc|apply qla|apply qfa|apply qnc|apply qix|apply qpk|apply qls|apply qei|apply qni|apply qad|apply qln|apply qgt|apply qnt|apply qep)<;>(first|exact rfl|assumption|exact Ar.mk (by omega)|exact dct (by first|assumption|omega)|exact dcf (by first|assumption|omega)|exact List.not_mem_nil|apply dc_length|apply ec_length|fail))|fail) ?_ | refine Der.skip rfl rfl ?_)
  refine Der.callG (X := Nat) (vs := [dv d]) (fun b => fnv 44 [.pointer (some ⟨b, 0, none⟩)]) (fun b w' => Row w' b 0 (dc d)) rfl rfl rfl rfl (by repeat' (first | exact True.intro | exact rho_of rfl | refine And.intro ?_ ?_)) (fun q w w' hk h => h.kp0 hk) (fun _ _ _ h => h) (fun W hk _ => (of0_spec d W).mono (fun e w' hh => ?_)) (fun b => ?_)
  · obtain ⟨b, he, hk', hb, hr⟩ := hh
    exact ⟨b, he, hr, hk'⟩
  refine Der.call rfl rfl rfl (vs := [.slice a m.length c, fnv 44 [.pointer (some ⟨b, 0, none⟩)]]) (by repeat' (first | exact True.intro | exact rho_of rfl | refine And.intro ?_ ?_)) (fun W hk hF => contf_spec (f := 44) (caps := [.pointer (some ⟨b, 0, none⟩)]) (p := fun x => decide (x.who = d)) (hS1.kp0 hk) (by omega) (fun x _ W' hk' => of1_spec (hF.2.kp0 hk') x)) ?_
  cases hq : m.any (fun x => decide (x.who = d)) with
  | false =>
    have hw : whoL d m = m := by
      unfold whoL
      rw [List.filter_eq_self]
      intro x hx
      have := List.any_eq_false.1 hq x hx
      simpa using this
    rw [hw]
    repeat (first | refine dB rfl rfl rfl (by first|((first|apply qep|apply qno|apply qnO|apply qmv|apply qas|apply qlc|apply qla|apply qfa|apply qnc|apply qix|apply qpk|apply qls|apply qei|apply qni|apply qad|apply qln|apply qgt|apply qnt|apply qep)<;>(first|exact rfl|assumption|exact Ar.mk (by omega)|exact dct (by first|assumption|omega)|exact dcf (by first|assumption|omega)|exact List.not_mem_nil|apply dc_length|apply ec_length|fail))|fail) ?_ | refine Der.skip rfl rfl ?_)
    refine Der.fin (fun w2 hk2 _ _ => ?_)
    repeat (first|apply cA|apply cB|apply cD|apply cE|apply cF|apply cG|apply cH|apply cJ|apply cM|apply cU|refine cV rfl ?_|apply cY|refine cZ rfl rfl rfl rfl (by first|((first|apply qep|apply qno|apply qnO|apply qmv|apply qas|apply qlc|apply qla|apply qfa|apply qnc|apply qix|apply qpk|apply qls|apply qei|apply qni|apply qad|apply qln|apply qgt|apply qnt|apply qep)<;>(first|exact rfl|assumption|exact Ar.mk (by omega)|exact dct (by first|assumption|omega)|exact dcf (by first|assumption|omega)|exact List.not_mem_nil|apply dc_length|apply ec_length|fail))|fail) ?_)
    refine dD rfl (by exact rho_of rfl) rfl ?_
    repeat (first|apply cA|apply cB|apply cD|apply cE|apply cF|apply cG|apply cH|apply cJ|apply cM|apply cU|refine cV rfl ?_|apply cY|refine cZ rfl rfl rfl rfl (by first|((first|apply qep|apply qno|apply qnO|apply qmv|apply qas|apply qlc|apply qla|apply qfa|apply qnc|apply qix|apply qpk|apply qls|apply qei|apply qni|apply qad|apply qln|apply qgt|apply qnt|apply qep)<;>(first|exact rfl|assumption|exact Ar.mk (by omega)|exact dct (by first|assumption|omega)|exact dcf (by first|assumption|omega)|exact List.not_mem_nil|apply dc_length|apply ec_length|fail))|fail) ?_)
    refine ret1 (Or.inl rfl) Tryz.results10 (by first | exact ResV.tmp rfl | exact ResV.agg rfl rfl (by assumption) (by first | exact dc_length _ | exact nc_length _ | exact rc_length _ _ _ | exact ec_length _ | exact dl_length _ _ _ _ | rfl) | exact ResV.cell rfl rfl (by assumption)) ?_
    exact ⟨rfl, (hk1.trans hk2).any, v, hL1.kp0 hk2⟩
  | true =>
    repeat (first | refine dB rfl rfl rfl (by first|((first|apply qep|apply qno|apply qnO|apply qmv|apply qas|apply qlc|apply qla|apply qfa|apply qnc|apply qix|apply qpk|apply qls|apply qei|apply qni|apply qad|apply qln|apply qgt|apply qnt|apply qep)<;>(first|exact rfl|assumption|exact Ar.mk (by omega)|exact dct (by first|assumption|omega)|exact dcf (by first|assumption|omega)|exact List.not_mem_nil|apply dc_length|apply ec_length|fail))|fail) ?_ | refine Der.skip rfl rfl ?_)
    refine Der.fin (fun w2 hk2 _ _ => ?_)
    have hR2 := hR3.kp0 hk2
    have hL2 := hL1.kp0 hk2
    repeat (first|apply cA|apply cB|apply cD|apply cE|apply cF|apply cG|apply cH|apply cJ|apply cM|apply cU|refine cV rfl ?_|apply cY|refine cZ rfl rfl rfl rfl (by first|((first|apply qep|apply qno|apply qnO|apply qmv|apply qas|apply qlc|apply qla|apply qfa|apply qnc|apply qix|apply qpk|apply qls|apply qei|apply qni|apply qad|apply qln|apply qgt|apply qnt|apply qep)<;>(first|exact rfl|assumption|exact Ar.mk (by omega)|exact dct (by first|assumption|omega)|exact dcf (by first|assumption|omega)|exact List.not_mem_nil|apply dc_length|apply ec_length|fail))|fail) ?_)
    refine dE rfl (by exact rho_of rfl) rfl ?_
    repeat (first|apply cA|apply cB|apply cD|apply cE|apply cF|apply cG|apply cH|apply cJ|apply cM|apply cU|refine cV rfl ?_|apply cY|refine cZ rfl rfl rfl rfl (by first|((first|apply qep|apply qno|apply qnO|apply qmv|apply qas|apply qlc|apply qla|apply qfa|apply qnc|apply qix|apply qpk|apply qls|apply qei|apply qni|apply qad|apply qln|apply qgt|apply qnt|apply qep)<;>(first|exact rfl|assumption|exact Ar.mk (by omega)|exact dct (by first|assumption|omega)|exact dcf (by first|assumption|omega)|exact List.not_mem_nil|apply dc_length|apply ec_length|fail))|fail) ?_)
    refine SG.call rfl rfl rfl (vs := [dv d]) (by repeat' (first | exact True.intro | exact rho_of rfl | refine And.intro ?_ ?_)) ((of0_spec d w2).mono (fun e w5 hh => ?_))
    obtain ⟨b7, he, hk5, hb7, hr7⟩ := hh
    refine ⟨_, he, ?_⟩
    have hn7 := own_out (b := b7) hL2.own hb7
    refine SG.call rfl rfl rfl (vs := [.pointer (some ⟨bt, 0, none⟩), fnv 44 [.pointer (some ⟨b7, 0, none⟩)]]) (by repeat' (first | exact True.intro | exact rho_of rfl | refine And.intro ?_ ?_)) ((ldrop_spec (p := fun x => decide (x.who = d)) (hL2.kp0 hk5) (by omega) (fun x hx W hk => of1_spec (hr7.kp hk hn7) x)).mono (fun e w6 hh => ?_))
    obtain ⟨he, hk6, v6, hL6, hv6⟩ := hh
    refine ⟨_, he, ?_⟩
    repeat (first|apply cA|apply cB|apply cD|apply cE|apply cF|apply cG|apply cH|apply cJ|apply cM|apply cU|refine cV rfl ?_|apply cY|refine cZ rfl rfl rfl rfl (by first|((first|apply qep|apply qno|apply qnO|apply qmv|apply qas|apply qlc|apply qla|apply qfa|apply qnc|apply qix|apply qpk|apply qls|apply qei|apply qni|apply qad|apply qln|apply qgt|apply qnt|apply qep)<;>(first|exact rfl|assumption|exact Ar.mk (by omega)|exact dct (by first|assumption|omega)|exact dcf (by first|assumption|omega)|exact List.not_mem_nil|apply dc_length|apply ec_length|fail))|fail) ?_)
    refine ret1 (Or.inl rfl) Tryz.results10 (by first | exact ResV.tmp rfl | exact ResV.agg rfl rfl (by assumption) (by first | exact dc_length _ | exact nc_length _ | exact rc_length _ _ _ | exact ec_length _ | exact dl_length _ _ _ _ | rfl) | exact ResV.cell rfl rfl (by assumption)) ?_
    exact ⟨rfl, ((hk1.trans hk2).trans hk5).any.trans hk6, v6, hL6⟩
set_option maxHeartbeats 16000000 in
theorem post_far {w : World} {bt : Nat} {now : Int} (h : now < 0 ∨ 1099511627776 < now) (o : Ofr) : Ret Tryz.prog 7 #[.pointer (some ⟨bt, 0, none⟩), .int .i64 now, ov o] w (.int .i64 2) := by
  refine enter3 Tryz.func7 rfl Tryz.ntmps7 rfl ?_
  by_cases g1 : now < 0
  · repeat (first|apply cA|apply cB|apply cD|apply cE|apply cF|apply cG|apply cH|apply cJ|apply cM|apply cU|refine cV rfl ?_|apply cY|refine cZ rfl rfl rfl rfl (by first|((first|apply qep|apply qno|apply qnO|apply qmv|apply qas|apply qlc|apply qla|apply qfa|apply qnc|apply qix|apply qpk|apply qls|apply qei|apply qni|apply qad|apply qln|apply qgt|apply qnt|apply qep)<;>(first|exact rfl|assumption|exact Ar.mk (by omega)|exact dct (by first|assumption|omega)|exact dcf (by first|assumption|omega)|exact List.not_mem_nil|apply dc_length|apply ec_length|fail))|fail) ?_)
    refine SG.box rfl rfl rfl (by exact rho_of rfl) (fun b5 w1 hk1 hb5 hB5 => ?_)
    repeat (first|apply cA|apply cB|apply cD|apply cE|apply cF|apply cG|apply cH|apply cJ|apply cM|apply cU|refine cV rfl ?_|apply cY|refine cZ rfl rfl rfl rfl (by first|((first|apply qep|apply qno|apply qnO|apply qmv|apply qas|apply qlc|apply qla|apply qfa|apply qnc|apply qix|apply qpk|apply qls|apply qei|apply qni|apply qad|apply qln|apply qgt|apply qnt|apply qep)<;>(first|exact rfl|assumption|exact Ar.mk (by omega)|exact dct (by first|assumption|omega)|exact dcf (by first|assumption|omega)|exact List.not_mem_nil|apply dc_length|apply ec_length|fail))|fail) ?_)
    refine dE rfl (by exact rho_of rfl) rfl ?_
    repeat (first | first|apply cA|apply cB|apply cD|apply cE|apply cF|apply cG|apply cH|apply cJ|apply cM|apply cU|refine cV rfl ?_|apply cY|refine cZ rfl rfl rfl rfl (by first|((first|apply qep|apply qno|apply qnO|apply qmv|apply qas|apply qlc|apply qla|apply qfa|apply qnc|apply qix|apply qpk|apply qls|apply qei|apply qni|apply qad|apply qln|apply qgt|apply qnt|apply qep)<;>(first|exact rfl|assumption|exact Ar.mk (by omega)|exact dct (by first|assumption|omega)|exact dcf (by first|assumption|omega)|exact List.not_mem_nil|apply dc_length|apply ec_length|fail))|fail) ?_ | refine dA rfl rfl ?_)
    refine dD rfl (by exact rho_of rfl) rfl ?_
    repeat (first|apply cA|apply cB|apply cD|apply cE|apply cF|apply cG|apply cH|apply cJ|apply cM|apply cU|refine cV rfl ?_|apply cY|refine cZ rfl rfl rfl rfl (by first|((first|apply qep|apply qno|apply qnO|apply qmv|apply qas|apply qlc|apply qla|apply qfa|apply qnc|apply qix|apply qpk|apply qls|apply qei|apply qni|apply qad|apply qln|apply qgt|apply qnt|apply qep)<;>(first|exact rfl|assumption|exact Ar.mk (by omega)|exact dct (by first|assumption|omega)|exact dcf (by first|assumption|omega)|exact List.not_mem_nil|apply dc_length|apply ec_length|fail))|fail) ?_)
    refine ret1 (Or.inl rfl) Tryz.results7 (by first | exact ResV.tmp rfl | exact ResV.agg rfl rfl (by assumption) (by first | exact dc_length _ | exact nc_length _ | exact rc_length _ _ _ | exact ec_length _ | exact dl_length _ _ _ _ | rfl) | exact ResV.cell rfl rfl (by assumption)) ?_
    exact ⟨rfl, hk1⟩
  · have g2 : 1099511627776 < now := h.resolve_left g1
    repeat (first|apply cA|apply cB|apply cD|apply cE|apply cF|apply cG|apply cH|apply cJ|apply cM|apply cU|refine cV rfl ?_|apply cY|refine cZ rfl rfl rfl rfl (by first|((first|apply qep|apply qno|apply qnO|apply qmv|apply qas|apply qlc|apply qla|apply qfa|apply qnc|apply qix|apply qpk|apply qls|apply qei|apply qni|apply qad|apply qln|apply qgt|apply qnt|apply qep)<;>(first|exact rfl|assumption|exact Ar.mk (by omega)|exact dct (by first|assumption|omega)|exact dcf (by first|assumption|omega)|exact List.not_mem_nil|apply dc_length|apply ec_length|fail))|fail) ?_)
    refine SG.box rfl rfl rfl (by exact rho_of rfl) (fun b5 w1 hk1 hb5 hB5 => ?_)
    repeat (first|apply cA|apply cB|apply cD|apply cE|apply cF|apply cG|apply cH|apply cJ|apply cM|apply cU|refine cV rfl ?_|apply cY|refine cZ rfl rfl rfl rfl (by first|((first|apply qep|apply qno|apply qnO|apply qmv|apply qas|apply qlc|apply qla|apply qfa|apply qnc|apply qix|apply qpk|apply qls|apply qei|apply qni|apply qad|apply qln|apply qgt|apply qnt|apply qep)<;>(first|exact rfl|assumption|exact Ar.mk (by omega)|exact dct (by first|assumption|omega)|exact dcf (by first|assumption|omega)|exact List.not_mem_nil|apply dc_length|apply ec_length|fail))|fail) ?_)
    refine dE rfl (by exact rho_of rfl) rfl ?_
    repeat (first | first|apply cA|apply cB|apply cD|apply cE|apply cF|apply cG|apply cH|apply cJ|apply cM|apply cU|refine cV rfl ?_|apply cY|refine cZ rfl rfl rfl rfl (by first|((first|apply qep|apply qno|apply qnO|apply qmv|apply qas|apply qlc|apply qla|apply qfa|apply qnc|apply qix|apply qpk|apply qls|apply qei|apply qni|apply qad|apply qln|apply qgt|apply qnt|apply qep)<;>(first|exact rfl|assumption|exact Ar.mk (by omega)|exact dct (by first|assumption|omega)|exact dcf (by first|assumption|omega)|exact List.not_mem_nil|apply dc_length|apply ec_length|fail))|fail) ?_ | refine dA rfl rfl ?_)
    refine dD rfl (by exact rho_of rfl) rfl ?_
    repeat (first|apply cA|apply cB|apply cD|apply cE|apply cF|apply cG|apply cH|apply cJ|apply cM|apply cU|refine cV rfl ?_|apply cY|refine cZ rfl rfl rfl rfl (by first|((first|apply qep|apply qno|apply qnO|apply qmv|apply qas|apply qlc|apply qla|apply qfa|apply qnc|apply qix|apply qpk|apply qls|apply qei|apply qni|apply qad|apply qln|apply qgt|apply qnt|apply qep)<;>(first|exact rfl|assumption|exact Ar.mk (by omega)|exact dct (by first|assumption|omega)|exact dcf (by first|assumption|omega)|exact List.not_mem_nil|apply dc_length|apply ec_length|fail))|fail) ?_)
    refine ret1 (Or.inl rfl) Tryz.results7 (by first | exact ResV.tmp rfl | exact ResV.agg rfl rfl (by assumption) (by first | exact dc_length _ | exact nc_length _ | exact rc_length _ _ _ | exact ec_length _ | exact dl_length _ _ _ _ | rfl) | exact ResV.cell rfl rfl (by assumption)) ?_
    exact ⟨rfl, hk1⟩
theorem post_all {w : World} {base bt : Nat} {room : Int} {v : Value} {m : List Ofr} (now : Int) (o : Ofr) (hL : Lob base w bt room v m) (hl : m.length ≤ 1000) (hbase : base ≤ w.heap.size) : Calls Tryz.prog 7 #[.pointer (some ⟨bt, 0, none⟩), .int .i64 now, ov o] w (fun e w' => e = .returned (.int .i64 (postF room now o m)) ∧ Kp (bt :: ownB v) w w' ∧ ∃ v', Lob base w' bt room v' (postG room now o m) ∧ ∀ g, v'.ownBlock = some g → g ∈ ownB v ∨ w.heap.size ≤ g) := by
  by_cases hbad : now < 0 ∨ 1099511627776 < now ∨ ¬ o.Ok
  · have e1 : postG room now o m = m := if_pos (Or.inl hbad)
    have e2 : postF room now o m = 2 := if_pos hbad
    rw [e1, e2]
    by_cases hfar : now < 0 ∨ 1099511627776 < now
    · refine (post_far hfar o).mono (fun e w' hh => ?_)
      exact ⟨hh.1, hh.2.any, v, hL.kp0 hh.2, fun g hg => Or.inl (ownB_of hg)⟩
    · have ho : ¬ o.Ok := by
        rcases hbad with h | h | h
        · exact absurd (Or.inl h) hfar
        · exact absurd (Or.inr h) hfar
        · exact h
      have h0 : 0 ≤ now := by
        have : ¬ now < 0 := fun h => hfar (Or.inl h)
        omega
      have h1 : now ≤ 1099511627776 := by
        have : ¬ 1099511627776 < now := fun h => hfar (Or.inr h)
        omega
      refine (post_no h0 h1 o (Or.inl ho)).mono (fun e w' hh => ?_)
      rw [if_neg ho] at hh
      exact ⟨hh.1, hh.2.any, v, hL.kp0 hh.2, fun g hg => Or.inl (ownB_of hg)⟩
  · have g1 : ¬ now < 0 := fun h => hbad (Or.inl h)
    have g2 : ¬ 1099511627776 < now := fun h => hbad (Or.inr (Or.inl h))
    have ho : o.Ok := Classical.byContradiction (fun h => hbad (Or.inr (Or.inr h)))
    by_cases ht : o.till < now
    · have e1 : postG room now o m = m := if_pos (Or.inr ht)
      have e2 : postF room now o m = 19 := by
        unfold postF
        rw [if_neg hbad, if_pos ht]
      rw [e1, e2]
      refine (post_no (by omega) (by omega) o (Or.inr ht)).mono (fun e w' hh => ?_)
      rw [if_pos ho] at hh
      exact ⟨hh.1, hh.2.any, v, hL.kp0 hh.2, fun g hg => Or.inl (ownB_of hg)⟩
    · have e1 : postG room now o m = postL room now o m := if_neg (fun h => h.elim hbad ht)
      have e2 : postF room now o m = postE room now o m := by
        unfold postF
        rw [if_neg hbad, if_neg ht]
      rw [e1, e2]
      exact post_yes (by omega) (by omega) o ho ht hL (by omega) hbase
theorem Wait.postG {m : List Ofr} (h : Wait m) (room now : Int) (o : Ofr) : Wait (postG room now o m) := by
  unfold Go.Proofs.YtnoipmimddoioaaGreat.postG
  split
  · exact h
  · rename_i hn
    exact h.post (Classical.byContradiction (fun h => hn (Or.inl (Or.inr (Or.inr h)))))
theorem postG_len {m : List Ofr} {room : Int} (h : (m.length : Int) ≤ room) (now : Int) (o : Ofr) : ((postG room now o m).length : Int) ≤ room := by
  have := keepL_le now o m
  unfold postG
  split
  · exact h
  · unfold postL
    split
    · omega
    · rw [List.length_append, List.length_singleton]
      omega
end Go.Proofs.YtnoipmimddoioaaGreat
namespace Go.Proofs.YtnoipmimddoioaaGreat
open Go.Proofs Go.Shelf Go.Sort
set_option linter.unusedVariables false
structure Acn where
  kind : Int
  now : Int
  o : Ofr
def acc (x : Acn) : List Value := [.int .i64 x.kind, .int .i64 x.now] ++ ec x.o
theorem acc_length (x : Acn) : (acc x).length = 23 := by simp [acc, ec_length]
theorem acc_one (x : Acn) : allOne (acc x) = true := by
  have := ec_one x.o
  simp only [acc, allOne, List.all_append, Bool.and_eq_true] at this ⊢
  exact ⟨rfl, this⟩
theorem acc_rows {w : World} {b : Nat} {x : Acn} {T : TypeId} (h : Blk w b (.cells (acc x).toArray T)) : Row w b 0 [.int .i64 x.kind] ∧ Row w b 1 [.int .i64 x.now] ∧ Row w b 2 (ec x.o) ∧ Row w b 2 (dc x.o.who) :=
  ⟨Row.of h [] (.int .i64 x.now :: ec x.o) rfl rfl, Row.of h [.int .i64 x.kind] (ec x.o) rfl rfl, Row.of h [.int .i64 x.kind, .int .i64 x.now] [] (by simp [acc]) rfl, Row.of h [.int .i64 x.kind, .int .i64 x.now] (dc x.o.rules ++ [.int .i64 x.o.seats, .int .i64 x.o.least, .int .i64 x.o.most, .int .i64 x.o.window, .int .i64 x.o.till]) (by simp [acc, ec]) rfl⟩
theorem bL1 (z : Int) (w : World) : (Instr.build 30 #[(0, .int .i64 z)]).run Tryz.prog w = .ok (.agg #[.int .i64 z, .slice none 0 0]) w := by kernel_rfl
/-- Both lobbies. -/
structure Pl (w0 w : World) (room : Int) (bt b7 : Nat) (v : Value) (m : List Ofr) (a : Option Addr) (c : Nat) : Prop where
  lob : Lob w0.heap.size w bt room v m
  hbt : w0.heap.size ≤ bt
  blk : Blk w b7 (.cells #[.int .i64 room, .slice a m.length c] 30)
  h7 : w0.heap.size ≤ b7
  sl : Sl ec 21 w a m
  cap : m.length ≤ c
  ty : Ty 33 w a m
  wait : Wait m
  most : (m.length : Int) ≤ room
theorem Pl.kp0 {w0 w w' : World} {room : Int} {bt b7 : Nat} {v : Value} {m : List Ofr} {a : Option Addr} {c : Nat} (h : Pl w0 w room bt b7 v m a c) (hk : Kp [] w w') : Pl w0 w' room bt b7 v m a c :=
  ⟨h.lob.kp0 hk, h.hbt, h.blk.kp0 hk, h.h7, h.sl.kp0 hk, h.cap, h.ty.kp0 hk, h.wait, h.most⟩
theorem Blk.raw {w : World} {b : Nat} {cs : Array Value} {T : TypeId} (h : Blk w b (.cells cs T)) : w.heap[b]? = some (.cells cs T) := h
theorem Lob.ni {w : World} {base bt b : Nat} {room : Int} {v : Value} {l : List Ofr} {cs : Array Value} {T : TypeId} {f : Nat × Nat} (h : Lob base w bt room v l) (hz : w.heap[b]? = some (.cells cs T f)) (h1 : T ≠ 66) (h2 : T ≠ 41) : b ∉ bt :: ownB v := fun hm => by
  rcases List.mem_cons.1 hm with e | e
  · subst e
    have hb : w.heap[b]? = _ := h.blk
    rw [hz] at hb
    cases hb
    exact h1 rfl
  · have he := ownB_mem e
    rcases h.own.2 with ⟨rfl, _⟩ | ⟨g, cap, cur, rfl, _, hg, _⟩
    · cases he
    · cases he
      rw [hz] at hg
      cases hg
      exact h2 rfl
theorem Lob.niT {w : World} {base bt : Nat} {room : Int} {v : Value} {l m : List Ofr} {a : Option Addr} (h : Lob base w bt room v l) (hT : Ty 33 w a m) : m ≠ [] → ∀ b off, a = some ⟨b, off, none⟩ → b ∉ bt :: ownB v := fun hn b off e => by
  obtain ⟨cs, f, hh⟩ := hT hn b off e
  exact h.ni hh (by decide) (by decide)
theorem Lob.niD {α : Type} {T : TypeId} {w : World} {base bt : Nat} {room : Int} {v : Value} {l : List Ofr} {m : List α} {a : Option Addr} (h : Lob base w bt room v l) (hT : Ty T w a m) (h1 : T ≠ 66) (h2 : T ≠ 41) : m ≠ [] → ∀ b off, a = some ⟨b, off, none⟩ → b ∉ bt :: ownB v := fun hn b off e => by
  obtain ⟨cs, f, hh⟩ := hT hn b off e
  exact h.ni hh h1 h2
theorem Pl.put {w0 w w' : World} {room : Int} {bt b7 : Nat} {v : Value} {m : List Ofr} {a : Option Addr} {c : Nat} {cs : Array Value} (lob : Lob w0.heap.size w bt room v m) (hbt : w0.heap.size ≤ bt) (hB : Blk w b7 (.cells cs 30)) (h7 : w0.heap.size ≤ b7) (hS : Sl ec 21 w a m) (hc : m.length ≤ c) (hT : Ty 33 w a m) (hW : Wait m) (hr : (m.length : Int) ≤ room) (hk : Kp [b7] w w')
    (hB' : Blk w' b7 (.cells #[.int .i64 room, .slice a m.length c] 30)) : Pl w0 w' room bt b7 v m a c := by
  have hn : m ≠ [] → ∀ b off, a = some ⟨b, off, none⟩ → b ∉ [b7] := fun hn b off e => nm1 (hT.ne hn hB (by decide) b off e)
  refine ⟨⟨lob.blk.kp hk (nm1 (fun e => ?_)), own_kp lob.own hk (own_neb lob.own (by decide) hB)⟩, hbt, hB', h7, hS.kpN hk hn, hc, hT.kp hk hn, hW, hr⟩
  subst e
  have := lob.blk.uniq hB
  cases this
def mD (F : Option (List Ofr)) : Del := match F with
  | none => zDel
  | some t => (dealOf t).1
def mT (F : Option (List Ofr)) : List Ofr := match F with
  | none => []
  | some t => t
def mM (F : Option (List Ofr)) (m : List Ofr) : List Ofr := match F with
  | none => m
  | some t => m.filter (fun x => !decide (x ∈ t))
theorem mM_wait {F : Option (List Ofr)} {m : List Ofr} (h : Wait m) : Wait (mM F m) := by
  cases F with
  | none => exact h
  | some t => exact h.filter _
theorem mM_len {F : Option (List Ofr)} {m : List Ofr} : (mM F m).length ≤ m.length := by
  cases F with
  | none => exact Nat.le_refl _
  | some t => exact List.length_filter_le _ _
theorem mT_ok {now : Int} {m : List Ofr} (h : Wait m) : ∀ x ∈ mT (findD (lateL now m)), x.Ok := by
  intro x hx
  cases hF : findD (lateL now m) with
  | none => rw [hF] at hx; cases hx
  | some t =>
    rw [hF] at hx
    exact h.ok x ((lateL_sub now m).subset ((findD_some hF).1.subset hx))
theorem mT_len {now : Int} {m : List Ofr} (h : Wait m) : (mT (findD (lateL now m))).length ≤ 8 ∧ (mD (findD (lateL now m))).who.length ≤ 8 := by
  cases hF : findD (lateL now m) with
  | none => exact ⟨by simp [mT], by simp [mD, zDel]⟩
  | some t =>
    have hd := deal_len0 (deal_found hF (fun x hx => h.ok x ((lateL_sub now m).subset hx)))
    obtain ⟨h1, h2, o, v, rfl, h3⟩ := findD_some hF
    have h4 := (h.ok o ((lateL_sub now m).subset (h1.subset List.mem_cons_self))).s2
    simp only [mT, mD]
    omega
theorem lob_lt {w : World} {base bt : Nat} {room : Int} {v : Value} {l : List Ofr} (h : Lob base w bt room v l) : ∀ x ∈ bt :: ownB v, x < w.heap.size := fun x hx => by
  rcases List.mem_cons.1 hx with e | e
  · exact e ▸ h.blk.lt
  · exact own_lt h.own x (ownB_mem e)
attribute [local irreducible] CG NG SG Vals Der Row Blk MapIs IterAt addI xorI orI andI shlI shrI mulI twoI cmpD cmpW kW digO manyI mixD sortK maxs dealOf DerR
/-- The program's All, as a slice that came. -/
theorem pall_S {w : World} {base bt : Nat} {room : Int} {v : Value} {l : List Ofr} (now : Int) (hL : Lob base w bt room v l) (hl : l.length ≤ 100000) : RetS Tryz.prog ec 21 18 #[.pointer (some ⟨bt, 0, none⟩), .int .i64 now] w (lateL now l) := by
  refine (all2_spec now hL hl).mono (fun e w' hh => ?_)
  obtain ⟨v', he, ho, hk⟩ := hh
  obtain ⟨a, c, rfl, hS⟩ := SlF.own ec_length ho rfl
  exact ⟨a, c, he, hS, hk⟩
theorem rall_S {w : World} {l : List Ofr} {a : Option Addr} {c : Nat} (room now : Int) (hS : Sl ec 21 w a l) (hl : l.length ≤ 100000) : RetS Tryz.prog ec 21 19 #[lv room (.slice a l.length c), .int .i64 now] w (lateL now l) := by
  refine (rall_spec room now hS hl).mono (fun e w' hh => ?_)
  obtain ⟨v', he, ho, hk⟩ := hh
  obtain ⟨a, c, rfl, hS⟩ := SlF.own ec_length ho rfl
  exact ⟨a, c, he, hS, hk⟩
theorem rmatch2 {w : World} {l : List Ofr} {a : Option Addr} {c : Nat} (room now : Int) (hS : Sl ec 21 w a l) (hl : l.length ≤ 1000) (hlc : l.length ≤ c) (hT : Ty 33 w a l) (hW : Wait l) : Calls Tryz.prog 11 #[lv room (.slice a l.length c), .int .i64 now] w (fun e w' => ∃ ad cd at' ct a' c', e = .returned (.tuple #[lv room (.slice a' (mM (findD (lateL now l)) l).length c'), dealV (mD (findD (lateL now l))).rules (.slice ad (mD (findD (lateL now l))).who.length cd) (mD (findD (lateL now l))).stake (mD (findD (lateL now l))).window, .slice at' (mT (findD (lateL now l))).length ct, .bool (findD (lateL now l)).isSome]) ∧ Kp [] w w' ∧
    Sl dc 8 w' ad (mD (findD (lateL now l))).who ∧ Ty 31 w' ad (mD (findD (lateL now l))).who ∧ Sl ec 21 w' at' (mT (findD (lateL now l))) ∧ Ty 33 w' at' (mT (findD (lateL now l))) ∧ Sl ec 21 w' a' (mM (findD (lateL now l)) l) ∧ (mM (findD (lateL now l)) l).length ≤ c' ∧ Ty 33 w' a' (mM (findD (lateL now l)) l)) := by
  refine (rmatch_spec room now hS hl hlc hT hW).mono (fun e w' hh => ?_)
  obtain ⟨hk, ⟨hF, he⟩ | ⟨t, vd, at', ct, a', c', hF, he, ⟨s, rfl, ho⟩, h1, h2, h3, h4, h5⟩⟩ := hh
  · rw [hF]
    exact ⟨none, 0, none, 0, a, c, he, hk, Sl.nil, fun h => absurd rfl h, Sl.nil, fun h => absurd rfl h, hS.kp0 hk, hlc, hT.kp0 hk⟩
  · rw [hF]
    obtain ⟨ad, cd, rfl, _, hSd⟩ := Sl.own dc_length ho rfl
    exact ⟨ad, cd, at', ct, a', c', he, hk, hSd, Ty.own ho, h1, h4, h2, h3, h5⟩
theorem pmatch2 {w : World} {base bt : Nat} {room : Int} {v : Value} {l : List Ofr} (now : Int) (hL : Lob base w bt room v l) (hl : l.length ≤ 1000) (hW : Wait l) : Calls Tryz.prog 12 #[.pointer (some ⟨bt, 0, none⟩), .int .i64 now] w (fun e w' => ∃ ad cd at' ct v', e = .returned (.tuple #[dealV (mD (findD (lateL now l))).rules (.slice ad (mD (findD (lateL now l))).who.length cd) (mD (findD (lateL now l))).stake (mD (findD (lateL now l))).window, .slice at' (mT (findD (lateL now l))).length ct, .bool (findD (lateL now l)).isSome]) ∧ Kp (bt :: ownB v) w w' ∧
    Sl dc 8 w' ad (mD (findD (lateL now l))).who ∧ Sl ec 21 w' at' (mT (findD (lateL now l))) ∧ Lob base w' bt room v' (mM (findD (lateL now l)) l)) := by
  refine (match_spec now hL hl hW.ok).mono (fun e w' hh => ?_)
  rcases hh with ⟨hF, he, hk⟩ | ⟨t, vd, vt, v', hF, he, ⟨s, rfl, ho⟩, ht, hk, hL', _⟩
  · rw [hF]
    exact ⟨none, 0, none, 0, v, he, hk.any, Sl.nil, Sl.nil, hL.kp0 hk⟩
  · rw [hF]
    obtain ⟨ad, cd, rfl, _, hSd⟩ := Sl.own dc_length ho rfl
    obtain ⟨at', ct, rfl, _, hSt⟩ := Sl.own ec_length ht rfl
    exact ⟨ad, cd, at', ct, v', he, hk, hSd, hSt, hL'⟩
set_option maxHeartbeats 32000000 in
theorem plays_walk (w : World) (room : Int) (a : Option Addr) (n c : Nat) (l : List Acn) (hL : l.length = n ∧ Sl acc 23 w a l) (hnc : n ≤ c) (hc : c ≤ maxLen) : Ret Tryz.prog 3 #[.int .i64 room, .slice a n c] w (.bool true) := by
  obtain ⟨rfl, hS⟩ := hL
  refine enter2 Tryz.func3 rfl Tryz.ntmps3 rfl ?_
  have h00 : (0 : Int) = 0 := rfl
  by_cases hr : room < 1 ∨ 256 < room
  · have h22 : (2 : Int) = 2 := rfl
    repeat (first|apply cA|apply cB|apply cD|apply cE|apply cF|apply cG|apply cH|apply cJ|apply cM|apply cU|refine cV rfl ?_|apply cY|refine cZ rfl rfl rfl rfl (by first|((first|apply qep|apply qmv|apply qas|apply qlc|apply qla|apply qfa|apply qix|apply qpk|apply qls|apply qei|apply qni|apply qad|apply qln|apply qgt|apply qxt|apply qnt|apply qep|apply qnb)<;>(first|exact rfl|assumption|exact Ar.mk (by omega)|exact dct (by first|assumption|omega)|exact dcf (by first|assumption|omega)|exact List.not_mem_nil|apply dc_length|apply ec_length|apply dl_length|apply acc_length|exact nm1 (by omega)|fail))|fail) ?_)
    refine SG.ret rfl rfl rfl (vs := [.int .i64 room]) (by repeat' (first | exact True.intro | exact rho_of rfl | refine And.intro ?_ ?_)) (new_bad room hr w) (fun w1 hk1 => ?_)
    repeat (refine cZ rfl rfl rfl rfl (by first|((first|apply qep|apply qmv|apply qas|apply qlc|apply qla|apply qfa|apply qix|apply qpk|apply qls|apply qei|apply qni|apply qad|apply qln|apply qgt|apply qxt|apply qnt|apply qep|apply qnb)<;>(first|exact rfl|assumption|exact Ar.mk (by omega)|exact dct (by first|assumption|omega)|exact dcf (by first|assumption|omega)|exact List.not_mem_nil|apply dc_length|apply ec_length|apply dl_length|apply acc_length|exact nm1 (by omega)|fail))|fail) ?_)
    refine cD ?_
    refine cE ?_
    repeat (first | refine cK ?_ | refine cA ?_)
    refine CG.cut_then (fun L w' => SubE [(5, np), (6, .int .i64 2), (32, .bool true)] L ∧ w' = w1) ?_ ?_
    · by_cases g1 : room < 1
      · repeat (first | first|apply cA|apply cB|apply cD|apply cE|apply cF|apply cG|apply cH|apply cJ|apply cM|apply cU|refine cV rfl ?_|apply cY|refine cZ rfl rfl rfl rfl (by first|((first|apply qep|apply qmv|apply qas|apply qlc|apply qla|apply qfa|apply qix|apply qpk|apply qls|apply qei|apply qni|apply qad|apply qln|apply qgt|apply qxt|apply qnt|apply qep|apply qnb)<;>(first|exact rfl|assumption|exact Ar.mk (by omega)|exact dct (by first|assumption|omega)|exact dcf (by first|assumption|omega)|exact List.not_mem_nil|apply dc_length|apply ec_length|apply dl_length|apply acc_length|exact nm1 (by omega)|fail))|fail) ?_ | refine dA rfl rfl ?_)
        exact NG.cut ⟨by (repeat' (first | exact True.intro | exact rfl | refine And.intro ?_ ?_)), rfl⟩
      · have g2 : 256 < room := hr.resolve_left g1
        repeat (first | first|apply cA|apply cB|apply cD|apply cE|apply cF|apply cG|apply cH|apply cJ|apply cM|apply cU|refine cV rfl ?_|apply cY|refine cZ rfl rfl rfl rfl (by first|((first|apply qep|apply qmv|apply qas|apply qlc|apply qla|apply qfa|apply qix|apply qpk|apply qls|apply qei|apply qni|apply qad|apply qln|apply qgt|apply qxt|apply qnt|apply qep|apply qnb)<;>(first|exact rfl|assumption|exact Ar.mk (by omega)|exact dct (by first|assumption|omega)|exact dcf (by first|assumption|omega)|exact List.not_mem_nil|apply dc_length|apply ec_length|apply dl_length|apply acc_length|exact nm1 (by omega)|fail))|fail) ?_ | refine dA rfl rfl ?_)
        exact NG.cut ⟨by (repeat' (first | exact True.intro | exact rfl | refine And.intro ?_ ?_)), rfl⟩
    rintro L wz ⟨hLL, rfl⟩
    refine CG.to _ hLL ?_
    refine dD rfl (by exact rho_of rfl) rfl ?_
    repeat (first|apply cA|apply cB|apply cD|apply cE|apply cF|apply cG|apply cH|apply cJ|apply cM|apply cU|refine cV rfl ?_|apply cY|refine cZ rfl rfl rfl rfl (by first|((first|apply qep|apply qmv|apply qas|apply qlc|apply qla|apply qfa|apply qix|apply qpk|apply qls|apply qei|apply qni|apply qad|apply qln|apply qgt|apply qxt|apply qnt|apply qep|apply qnb)<;>(first|exact rfl|assumption|exact Ar.mk (by omega)|exact dct (by first|assumption|omega)|exact dcf (by first|assumption|omega)|exact List.not_mem_nil|apply dc_length|apply ec_length|apply dl_length|apply acc_length|exact nm1 (by omega)|fail))|fail) ?_)
    refine SG.ret rfl rfl rfl (vs := []) (by repeat' (first | exact True.intro | exact rho_of rfl | refine And.intro ?_ ?_)) (known_spec wz) (fun w2 hk2 => ?_)
    repeat (first | first|apply cA|apply cB|apply cD|apply cE|apply cF|apply cG|apply cH|apply cJ|apply cM|apply cU|refine cV rfl ?_|apply cY|refine cZ rfl rfl rfl rfl (by first|((first|apply qep|apply qmv|apply qas|apply qlc|apply qla|apply qfa|apply qix|apply qpk|apply qls|apply qei|apply qni|apply qad|apply qln|apply qgt|apply qxt|apply qnt|apply qep|apply qnb)<;>(first|exact rfl|assumption|exact Ar.mk (by omega)|exact dct (by first|assumption|omega)|exact dcf (by first|assumption|omega)|exact List.not_mem_nil|apply dc_length|apply ec_length|apply dl_length|apply acc_length|exact nm1 (by omega)|fail))|fail) ?_ | refine dA rfl rfl ?_)
    refine ret1 (Or.inl rfl) Tryz.results3 (by first | exact ResV.tmp rfl | exact ResV.agg rfl rfl (by assumption) (by first | exact dc_length _ | exact nc_length _ | exact rc_length _ _ _ | exact ec_length _ | exact dl_length _ _ _ _ | rfl) | exact ResV.cell rfl rfl (by assumption)) ?_
    exact ⟨rfl, hk1.trans hk2⟩
  have g1 : ¬ room < 1 := fun h => hr (Or.inl h)
  have g2 : ¬ 256 < room := fun h => hr (Or.inr h)
  repeat (first|apply cA|apply cB|apply cD|apply cE|apply cF|apply cG|apply cH|apply cJ|apply cM|apply cU|refine cV rfl ?_|apply cY|refine cZ rfl rfl rfl rfl (by first|((first|apply qep|apply qmv|apply qas|apply qlc|apply qla|apply qfa|apply qix|apply qpk|apply qls|apply qei|apply qni|apply qad|apply qln|apply qgt|apply qxt|apply qnt|apply qep|apply qnb)<;>(first|exact rfl|assumption|exact Ar.mk (by omega)|exact dct (by first|assumption|omega)|exact dcf (by first|assumption|omega)|exact List.not_mem_nil|apply dc_length|apply ec_length|apply dl_length|apply acc_length|exact nm1 (by omega)|fail))|fail) ?_)
  refine SG.call rfl rfl rfl (vs := [.int .i64 room]) (by repeat' (first | exact True.intro | exact rho_of rfl | refine And.intro ?_ ?_)) ((new_spec room (by omega) (by omega) w).mono (fun e w1 hh => ?_))
  obtain ⟨b, he, hk1, hb, hB⟩ := hh
  refine ⟨_, he, ?_⟩
  have hL1 : Lob w.heap.size w1 b room (.slice none 0 0) [] := ⟨hB, own_nil⟩
  repeat (first | first|apply cA|apply cB|apply cD|apply cE|apply cF|apply cG|apply cH|apply cJ|apply cM|apply cU|refine cV rfl ?_|apply cY|refine cZ rfl rfl rfl rfl (by first|((first|apply qep|apply qmv|apply qas|apply qlc|apply qla|apply qfa|apply qix|apply qpk|apply qls|apply qei|apply qni|apply qad|apply qln|apply qgt|apply qxt|apply qnt|apply qep|apply qnb)<;>(first|exact rfl|assumption|exact Ar.mk (by omega)|exact dct (by first|assumption|omega)|exact dcf (by first|assumption|omega)|exact List.not_mem_nil|apply dc_length|apply ec_length|apply dl_length|apply acc_length|exact nm1 (by omega)|fail))|fail) ?_ | refine dA rfl rfl ?_)
  refine dE rfl (by exact rho_of rfl) rfl ?_
  repeat (first | first|apply cA|apply cB|apply cD|apply cE|apply cF|apply cG|apply cH|apply cJ|apply cM|apply cU|refine cV rfl ?_|apply cY|refine cZ rfl rfl rfl rfl (by first|((first|apply qep|apply qmv|apply qas|apply qlc|apply qla|apply qfa|apply qix|apply qpk|apply qls|apply qei|apply qni|apply qad|apply qln|apply qgt|apply qxt|apply qnt|apply qep|apply qnb)<;>(first|exact rfl|assumption|exact Ar.mk (by omega)|exact dct (by first|assumption|omega)|exact dcf (by first|assumption|omega)|exact List.not_mem_nil|apply dc_length|apply ec_length|apply dl_length|apply acc_length|exact nm1 (by omega)|fail))|fail) ?_ | refine dA rfl rfl ?_)
  refine dE rfl (by exact rho_of rfl) rfl ?_
  repeat (first|apply cA|apply cB|apply cD|apply cE|apply cF|apply cG|apply cH|apply cJ|apply cM|apply cU|refine cV rfl ?_|apply cY|refine cZ rfl rfl rfl rfl (by first|((first|apply qep|apply qmv|apply qas|apply qlc|apply qla|apply qfa|apply qix|apply qpk|apply qls|apply qei|apply qni|apply qad|apply qln|apply qgt|apply qxt|apply qnt|apply qep|apply qnb)<;>(first|exact rfl|assumption|exact Ar.mk (by omega)|exact dct (by first|assumption|omega)|exact dcf (by first|assumption|omega)|exact List.not_mem_nil|apply dc_length|apply ec_length|apply dl_length|apply acc_length|exact nm1 (by omega)|fail))|fail) ?_)
  refine cZ rfl rfl rfl rfl (vals_build rfl (bL1 room)) ?_
  refine SG.alloc rfl rfl rfl (fun b7 w2 hk2 hb7 hB7 => ?_)
  refine SG.setAll (l := [.int .i64 room, .slice none 0 0]) rfl rfl (by exact rho_of rfl) (by exact rho_of rfl) hB7 rfl rfl rfl (fun w3 hk3 hB7 => ?_)
  have hB7 : Blk w3 b7 (.cells #[.int .i64 room, .slice none (([] : List Ofr).length) 0] 30) := hB7
  have k13 : Kp [] w1 w3 := hk2.trans_new hk3 (new1 (by omega))
  have k3 := hk1.trans k13
  have s1 := hk1.size
  have hP0 : Pl w w3 room b b7 (.slice none 0 0) [] none 0 := ⟨hL1.kp0 k13, hb, hB7, by omega, Sl.nil, Nat.le_refl _, fun h => absurd rfl h, Wait.nil, by simp; omega⟩
  clear hB7 hL1 hB
  repeat (first|apply cA|apply cB|apply cD|apply cE|apply cF|apply cG|apply cH|apply cJ|apply cM|apply cU|refine cV rfl ?_|apply cY|refine cZ rfl rfl rfl rfl (by first|((first|apply qep|apply qmv|apply qas|apply qlc|apply qla|apply qfa|apply qix|apply qpk|apply qls|apply qei|apply qni|apply qad|apply qln|apply qgt|apply qxt|apply qnt|apply qep|apply qnb)<;>(first|exact rfl|assumption|exact Ar.mk (by omega)|exact dct (by first|assumption|omega)|exact dcf (by first|assumption|omega)|exact List.not_mem_nil|apply dc_length|apply ec_length|apply dl_length|apply acc_length|exact nm1 (by omega)|fail))|fail) ?_)
  refine CG.loop (X := ((Nat × Value) × (List Ofr × Option Addr × Nat)) × Nat) (fun x => [(1, .slice a l.length c), (5, .pointer (some ⟨x.1.1.1, 0, none⟩)), (7, .pointer (some ⟨b7, 0, none⟩)), (8, .int .i64 (x.2 : Int))])
    (fun x w' => x.2 ≤ l.length ∧ x.2 ≤ 24 ∧ Kp [] w w' ∧ Pl w w' room x.1.1.1 b7 x.1.1.2 x.1.2.1 x.1.2.2.1 x.1.2.2.2) (fun x => 24 - x.2) (((b, .slice none 0 0), ([], none, 0)), 0) ⟨Nat.zero_le _, Nat.zero_le _, k3, hP0⟩ (by (repeat' (first | exact True.intro | exact rfl | refine And.intro ?_ ?_))) ?_
  clear hP0 hb he b
  rintro ⟨⟨⟨bt, v⟩, ⟨m, aR, cR⟩⟩, i⟩ w4 ⟨hi, hi24, hk4, hP⟩
  simp only at hi hi24 hP
  refine CG.to [(1, .slice a l.length c), (5, .pointer (some ⟨bt, 0, none⟩)), (7, .pointer (some ⟨b7, 0, none⟩)), (8, .int .i64 (i : Int))] (by (repeat' (first | exact True.intro | exact rfl | refine And.intro ?_ ?_))) ?_
  by_cases hlt : i < l.length ∧ i < 24
  rotate_left
  · repeat (first | refine cK ?_ | refine cA ?_)
    refine CG.cut_then (fun L w' => SubE [(57, .bool false)] L ∧ w' = w4) ?_ ?_
    · by_cases h1 : i < l.length
      · have g1 : (i : Int) < (l.length : Int) := by omega
        have g2 : ¬ (i : Int) < 24 := by omega
        repeat (first | first|apply cA|apply cB|apply cD|apply cE|apply cF|apply cG|apply cH|apply cJ|apply cM|apply cU|refine cV rfl ?_|apply cY|refine cZ rfl rfl rfl rfl (by first|((first|apply qep|apply qmv|apply qas|apply qlc|apply qla|apply qfa|apply qix|apply qpk|apply qls|apply qei|apply qni|apply qad|apply qln|apply qgt|apply qxt|apply qnt|apply qep|apply qnb)<;>(first|exact rfl|assumption|exact Ar.mk (by omega)|exact dct (by first|assumption|omega)|exact dcf (by first|assumption|omega)|exact List.not_mem_nil|apply dc_length|apply ec_length|apply dl_length|apply acc_length|exact nm1 (by omega)|fail))|fail) ?_ | refine dA rfl rfl ?_)
        exact NG.cut ⟨by (repeat' (first | exact True.intro | exact rfl | refine And.intro ?_ ?_)), rfl⟩
      · have g1 : ¬ (i : Int) < (l.length : Int) := by omega
        repeat (first | first|apply cA|apply cB|apply cD|apply cE|apply cF|apply cG|apply cH|apply cJ|apply cM|apply cU|refine cV rfl ?_|apply cY|refine cZ rfl rfl rfl rfl (by first|((first|apply qep|apply qmv|apply qas|apply qlc|apply qla|apply qfa|apply qix|apply qpk|apply qls|apply qei|apply qni|apply qad|apply qln|apply qgt|apply qxt|apply qnt|apply qep|apply qnb)<;>(first|exact rfl|assumption|exact Ar.mk (by omega)|exact dct (by first|assumption|omega)|exact dcf (by first|assumption|omega)|exact List.not_mem_nil|apply dc_length|apply ec_length|apply dl_length|apply acc_length|exact nm1 (by omega)|fail))|fail) ?_ | refine dA rfl rfl ?_)
        exact NG.cut ⟨by (repeat' (first | exact True.intro | exact rfl | refine And.intro ?_ ?_)), rfl⟩
    rintro L wz ⟨hLL, rfl⟩
    refine CG.to _ hLL ?_
    repeat (first|apply cA|apply cB|apply cD|apply cE|apply cF|apply cG|apply cH|apply cJ|apply cM|apply cU|refine cV rfl ?_|apply cY|refine cZ rfl rfl rfl rfl (by first|((first|apply qep|apply qmv|apply qas|apply qlc|apply qla|apply qfa|apply qix|apply qpk|apply qls|apply qei|apply qni|apply qad|apply qln|apply qgt|apply qxt|apply qnt|apply qep|apply qnb)<;>(first|exact rfl|assumption|exact Ar.mk (by omega)|exact dct (by first|assumption|omega)|exact dcf (by first|assumption|omega)|exact List.not_mem_nil|apply dc_length|apply ec_length|apply dl_length|apply acc_length|exact nm1 (by omega)|fail))|fail) ?_)
    refine dE rfl (by exact rho_of rfl) rfl ?_
    repeat (first|apply cA|apply cB|apply cD|apply cE|apply cF|apply cG|apply cH|apply cJ|apply cM|apply cU|refine cV rfl ?_|apply cY|refine cZ rfl rfl rfl rfl (by first|((first|apply qep|apply qmv|apply qas|apply qlc|apply qla|apply qfa|apply qix|apply qpk|apply qls|apply qei|apply qni|apply qad|apply qln|apply qgt|apply qxt|apply qnt|apply qep|apply qnb)<;>(first|exact rfl|assumption|exact Ar.mk (by omega)|exact dct (by first|assumption|omega)|exact dcf (by first|assumption|omega)|exact List.not_mem_nil|apply dc_length|apply ec_length|apply dl_length|apply acc_length|exact nm1 (by omega)|fail))|fail) ?_)
    refine SG.ret rfl rfl rfl (vs := []) (by repeat' (first | exact True.intro | exact rho_of rfl | refine And.intro ?_ ?_)) (known_spec wz) (fun w5 hk5 => ?_)
    repeat (first|apply cA|apply cB|apply cD|apply cE|apply cF|apply cG|apply cH|apply cJ|apply cM|apply cU|refine cV rfl ?_|apply cY|refine cZ rfl rfl rfl rfl (by first|((first|apply qep|apply qmv|apply qas|apply qlc|apply qla|apply qfa|apply qix|apply qpk|apply qls|apply qei|apply qni|apply qad|apply qln|apply qgt|apply qxt|apply qnt|apply qep|apply qnb)<;>(first|exact rfl|assumption|exact Ar.mk (by omega)|exact dct (by first|assumption|omega)|exact dcf (by first|assumption|omega)|exact List.not_mem_nil|apply dc_length|apply ec_length|apply dl_length|apply acc_length|exact nm1 (by omega)|fail))|fail) ?_)
    refine ret1 (Or.inl rfl) Tryz.results3 (by first | exact ResV.tmp rfl | exact ResV.agg rfl rfl (by assumption) (by first | exact dc_length _ | exact nc_length _ | exact rc_length _ _ _ | exact ec_length _ | exact dl_length _ _ _ _ | rfl) | exact ResV.cell rfl rfl (by assumption)) ?_
    exact ⟨rfl, hk4.trans hk5⟩
  have g3 : (i : Int) < (l.length : Int) := by omega
  have g4 : (i : Int) < 24 := by omega
  obtain ⟨ba, oa, rfl, hri⟩ := (hS.kp0 hk4).at hlt.1
  generalize l[i] = x at hri
  repeat (first | first|apply cA|apply cB|apply cD|apply cE|apply cF|apply cG|apply cH|apply cJ|apply cM|apply cU|refine cV rfl ?_|apply cY|refine cZ rfl rfl rfl rfl (by first|((first|apply qep|apply qmv|apply qas|apply qlc|apply qla|apply qfa|apply qix|apply qpk|apply qls|apply qei|apply qni|apply qad|apply qln|apply qgt|apply qxt|apply qnt|apply qep|apply qnb)<;>(first|exact rfl|assumption|exact Ar.mk (by omega)|exact dct (by first|assumption|omega)|exact dcf (by first|assumption|omega)|exact List.not_mem_nil|apply dc_length|apply ec_length|apply dl_length|apply acc_length|exact nm1 (by omega)|fail))|fail) ?_ | refine dA rfl rfl ?_)
  refine dD rfl (by exact rho_of rfl) rfl ?_
  repeat (first|apply cA|apply cB|apply cD|apply cE|apply cF|apply cG|apply cH|apply cJ|apply cM|apply cU|refine cV rfl ?_|apply cY|refine cZ rfl rfl rfl rfl (by first|((first|apply qep|apply qmv|apply qas|apply qlc|apply qla|apply qfa|apply qix|apply qpk|apply qls|apply qei|apply qni|apply qad|apply qln|apply qgt|apply qxt|apply qnt|apply qep|apply qnb)<;>(first|exact rfl|assumption|exact Ar.mk (by omega)|exact dct (by first|assumption|omega)|exact dcf (by first|assumption|omega)|exact List.not_mem_nil|apply dc_length|apply ec_length|apply dl_length|apply acc_length|exact nm1 (by omega)|fail))|fail) ?_)
  refine SG.alloc rfl rfl rfl (fun b9 w5 hk5 hb9 hB9 => ?_)
  refine SG.setAll (l := acc x) rfl rfl (by exact rho_of rfl) (by exact rho_of rfl) hB9 (acc_length _) rfl (acc_one _) (fun w6 hk6 hB9 => ?_)
  have hB9 : Blk w6 b9 (.cells (acc x).toArray 35) := hB9
  have k46 : Kp [] w4 w6 := hk5.trans_new hk6 (new1 (by omega))
  have hP6 := hP.kp0 k46
  have k6 := hk4.trans k46
  have hml : m.length ≤ 256 := by have := hP6.most; omega
  clear hP hri hk5 hk6
  obtain ⟨rk, rn, ro2, rw2⟩ := acc_rows hB9
  have hn9 : b9 ∉ bt :: ownB v := hP6.lob.ni hB9.raw (by decide) (by decide)
  have h79 : b9 ≠ b7 := fun e => by
    subst e
    have := hB9.uniq hP6.blk
    cases this
  refine cD ?_
  refine cE ?_
  repeat (first | refine cK ?_ | refine cA ?_)
  refine cB ?_
  refine cZ rfl rfl rfl rfl (by first|((first|apply qep|apply qmv|apply qas|apply qlc|apply qla|apply qfa|apply qix|apply qpk|apply qls|apply qei|apply qni|apply qad|apply qln|apply qgt|apply qxt|apply qnt|apply qep|apply qnb)<;>(first|exact rfl|assumption|exact Ar.mk (by omega)|exact dct (by first|assumption|omega)|exact dcf (by first|assumption|omega)|exact List.not_mem_nil|apply dc_length|apply ec_length|apply dl_length|apply acc_length|exact nm1 (by omega)|fail))|fail) ?_
  refine cZ rfl rfl rfl rfl (by first|((first|apply qep|apply qmv|apply qas|apply qlc|apply qla|apply qfa|apply qix|apply qpk|apply qls|apply qei|apply qni|apply qad|apply qln|apply qgt|apply qxt|apply qnt|apply qep|apply qnb)<;>(first|exact rfl|assumption|exact Ar.mk (by omega)|exact dct (by first|assumption|omega)|exact dcf (by first|assumption|omega)|exact List.not_mem_nil|apply dc_length|apply ec_length|apply dl_length|apply acc_length|exact nm1 (by omega)|fail))|fail) ?_
  refine cD ?_
  refine cE ?_
  refine CG.cut_then (fun L w' => ∃ (bt : Nat) (v : Value) (m : List Ofr) (aR : Option Addr) (cR : Nat), SubE [(1, .slice (some ⟨ba, oa, none⟩) l.length c), (5, .pointer (some ⟨bt, 0, none⟩)), (7, .pointer (some ⟨b7, 0, none⟩)), (8, .int .i64 (i : Int)), (9, .pointer (some ⟨b9, 0, none⟩))] L ∧ Kp [] w w' ∧ Pl w w' room bt b7 v m aR cR ∧ Blk w' b9 (.cells (acc x).toArray 35)) ?_ ?_
  · have h222 : (2 : Int) = 2 := rfl
    by_cases k0 : x.kind = 0
    · obtain ⟨-, -, r2⟩ := lv_rows hP6.blk
      clear rw2
      have hpost := fun W (h : Lob w.heap.size W bt room v m) (hb : w.heap.size ≤ W.heap.size) => post_all x.now x.o h (by omega) hb
      have hrp := rpost_spec (c := cR) room x.now x.o hP6.sl (by omega) hP6.most hP6.cap hP6.ty
      have hWM := hP6.wait.postG room x.now x.o
      have hMl := postG_len hP6.most x.now x.o
      generalize postG room x.now x.o m = M at hpost hrp hWM hMl
      generalize postF room x.now x.o m = z at hpost hrp
      have hzz : z = z := rfl
      repeat (first|apply cA|apply cB|apply cD|apply cE|apply cF|apply cG|apply cH|apply cJ|apply cM|apply cU|refine cV rfl ?_|apply cY|refine cZ rfl rfl rfl rfl (by first|((first|apply qep|apply qmv|apply qas|apply qlc|apply qla|apply qfa|apply qix|apply qpk|apply qls|apply qei|apply qni|apply qad|apply qln|apply qgt|apply qxt|apply qnt|apply qep|apply qnb)<;>(first|exact rfl|assumption|exact Ar.mk (by omega)|exact dct (by first|assumption|omega)|exact dcf (by first|assumption|omega)|exact List.not_mem_nil|apply dc_length|apply ec_length|apply dl_length|apply acc_length|exact nm1 (by omega)|fail))|fail) ?_)
      refine dD rfl (by exact rho_of rfl) rfl ?_
      repeat (first|apply cA|apply cB|apply cD|apply cE|apply cF|apply cG|apply cH|apply cJ|apply cM|apply cU|refine cV rfl ?_|apply cY|refine cZ rfl rfl rfl rfl (by first|((first|apply qep|apply qmv|apply qas|apply qlc|apply qla|apply qfa|apply qix|apply qpk|apply qls|apply qei|apply qni|apply qad|apply qln|apply qgt|apply qxt|apply qnt|apply qep|apply qnb)<;>(first|exact rfl|assumption|exact Ar.mk (by omega)|exact dct (by first|assumption|omega)|exact dcf (by first|assumption|omega)|exact List.not_mem_nil|apply dc_length|apply ec_length|apply dl_length|apply acc_length|exact nm1 (by omega)|fail))|fail) ?_)
      refine SG.call rfl rfl rfl (vs := [lv room (.slice aR m.length cR), .int .i64 x.now, ov x.o]) (by repeat' (first | exact True.intro | exact rho_of rfl | refine And.intro ?_ ?_)) (hrp.mono (fun e w7 hh => ?_))
      obtain ⟨a', c', he, hS7, hc7, hT7, hk7⟩ := hh
      refine ⟨_, he, ?_⟩
      repeat (first|apply cA|apply cB|apply cD|apply cE|apply cF|apply cG|apply cH|apply cJ|apply cM|apply cU|refine cV rfl ?_|apply cY|refine cZ rfl rfl rfl rfl (by first|((first|apply qep|apply qmv|apply qas|apply qlc|apply qla|apply qfa|apply qix|apply qpk|apply qls|apply qei|apply qni|apply qad|apply qln|apply qgt|apply qxt|apply qnt|apply qep|apply qnb)<;>(first|exact rfl|assumption|exact Ar.mk (by omega)|exact dct (by first|assumption|omega)|exact dcf (by first|assumption|omega)|exact List.not_mem_nil|apply dc_length|apply ec_length|apply dl_length|apply acc_length|exact nm1 (by omega)|fail))|fail) ?_)
      refine SG.alloc rfl rfl rfl (fun b10 w8 hk8 hb10 hB10 => ?_)
      refine SG.setAll (l := [.int .i64 room, .slice a' M.length c']) rfl rfl (by exact rho_of rfl) (by exact rho_of rfl) hB10 rfl rfl rfl (fun w9 hk9 hB10 => ?_)
      have hB10 : Blk w9 b10 (.cells #[.int .i64 room, .slice a' M.length c'] 30) := hB10
      have k79 : Kp [] w7 w9 := hk8.trans_new hk9 (new1 (by omega))
      have k69 := hk7.trans k79
      have hP9 := hP6.kp0 k69
      have hB9 := hB9.kp0 k69
      have hS9 := hS7.kp0 k79
      have hT9 := hT7.kp0 k79
      have k9 := k6.trans k69
      clear hrp hP6 rk rn ro2 r2
      obtain ⟨-, rn, ro2, -⟩ := acc_rows hB9
      have s9 := k9.size
      repeat (first|apply cA|apply cB|apply cD|apply cE|apply cF|apply cG|apply cH|apply cJ|apply cM|apply cU|refine cV rfl ?_|apply cY|refine cZ rfl rfl rfl rfl (by first|((first|apply qep|apply qmv|apply qas|apply qlc|apply qla|apply qfa|apply qix|apply qpk|apply qls|apply qei|apply qni|apply qad|apply qln|apply qgt|apply qxt|apply qnt|apply qep|apply qnb)<;>(first|exact rfl|assumption|exact Ar.mk (by omega)|exact dct (by first|assumption|omega)|exact dcf (by first|assumption|omega)|exact List.not_mem_nil|apply dc_length|apply ec_length|apply dl_length|apply acc_length|exact nm1 (by omega)|fail))|fail) ?_)
      refine CG.draw mixed [0, 1, 2, 3, 4, 5, 7, 6, 8] [6] [] (bt :: ownB v) (fun w' => Lob w.heap.size w' bt room v m) (by kernel_rfl) (lob_lt hP9.lob) (by simp) hP9.lob (fun w w' hk h => h.kp0 hk) (Or.inl rfl) ?_
      repeat (refine dB rfl rfl rfl (by first|((first|apply qep|apply qmv|apply qas|apply qlc|apply qla|apply qfa|apply qix|apply qpk|apply qls|apply qei|apply qni|apply qad|apply qln|apply qgt|apply qxt|apply qnt|apply qep|apply qnb)<;>(first|exact rfl|assumption|exact Ar.mk (by omega)|exact dct (by first|assumption|omega)|exact dcf (by first|assumption|omega)|exact List.not_mem_nil|apply dc_length|apply ec_length|apply dl_length|apply acc_length|exact nm1 (by omega)|fail))|fail) ?_)
      refine Der.call rfl rfl rfl (vs := [ov x.o]) (by repeat' (first | exact True.intro | exact rho_of rfl | refine And.intro ?_ ?_)) (fun W hk _ => to_spec x.o W) ?_
      repeat (refine dB rfl rfl rfl (by first|((first|apply qep|apply qmv|apply qas|apply qlc|apply qla|apply qfa|apply qix|apply qpk|apply qls|apply qei|apply qni|apply qad|apply qln|apply qgt|apply qxt|apply qnt|apply qep|apply qnb)<;>(first|exact rfl|assumption|exact Ar.mk (by omega)|exact dct (by first|assumption|omega)|exact dcf (by first|assumption|omega)|exact List.not_mem_nil|apply dc_length|apply ec_length|apply dl_length|apply acc_length|exact nm1 (by omega)|fail))|fail) ?_)
      refine Der.callGR (X := Value) (vs := [.pointer (some ⟨bt, 0, none⟩), .int .i64 x.now, ov x.o]) (fun _ => .int .i64 z) (fun _ _ => True) (fun q w' => Lob w.heap.size w' bt room q M) rfl rfl rfl rfl (by repeat' (first | exact True.intro | exact rho_of rfl | refine And.intro ?_ ?_)) (fun _ _ _ _ _ => trivial) (fun q w w' hk h => h.kp0 hk) (fun _ _ _ h => h) (fun W hk _ hR => (hpost W hR (Nat.le_trans s9 hk.size)).mono (fun e w' hh => ?_)) (fun q => ?_)
      · obtain ⟨he, hk', v', hL', -⟩ := hh
        exact ⟨v', he, trivial, hL', hk'⟩
      repeat (refine dB rfl rfl rfl (by first|((first|apply qep|apply qmv|apply qas|apply qlc|apply qla|apply qfa|apply qix|apply qpk|apply qls|apply qei|apply qni|apply qad|apply qln|apply qgt|apply qxt|apply qnt|apply qep|apply qnb)<;>(first|exact rfl|assumption|exact Ar.mk (by omega)|exact dct (by first|assumption|omega)|exact dcf (by first|assumption|omega)|exact List.not_mem_nil|apply dc_length|apply ec_length|apply dl_length|apply acc_length|exact nm1 (by omega)|fail))|fail) ?_)
      refine Der.fin (fun w10 hk10 _ hL10 => ?_)
      have hB9 := hB9.kp hk10 hn9
      have hB7 := hP9.blk.kp hk10 (hP9.lob.ni hP9.blk.raw (by decide) (by decide))
      have hB10 := hB10.kp hk10 (hP9.lob.ni hB10.raw (by decide) (by decide))
      have hS10 := hS9.kpN hk10 (hP9.lob.niT hT9)
      have hT10 := hT9.kp hk10 (hP9.lob.niT hT9)
      have k10 := hP9.lob.kp2 hP9.hbt k9 hk10
      clear rn ro2
      obtain ⟨-, -, r2⟩ := lv_rows hB10
      repeat (first|apply cA|apply cB|apply cD|apply cE|apply cF|apply cG|apply cH|apply cJ|apply cM|apply cU|refine cV rfl ?_|apply cY|refine cZ rfl rfl rfl rfl (by first|((first|apply qep|apply qmv|apply qas|apply qlc|apply qla|apply qfa|apply qix|apply qpk|apply qls|apply qei|apply qni|apply qad|apply qln|apply qgt|apply qxt|apply qnt|apply qep|apply qnb)<;>(first|exact rfl|assumption|exact Ar.mk (by omega)|exact dct (by first|assumption|omega)|exact dcf (by first|assumption|omega)|exact List.not_mem_nil|apply dc_length|apply ec_length|apply dl_length|apply acc_length|exact nm1 (by omega)|fail))|fail) ?_)
      refine dE rfl (by exact rho_of rfl) rfl ?_
      repeat (first|apply cA|apply cB|apply cD|apply cE|apply cF|apply cG|apply cH|apply cJ|apply cM|apply cU|refine cV rfl ?_|apply cY|refine cZ rfl rfl rfl rfl (by first|((first|apply qep|apply qmv|apply qas|apply qlc|apply qla|apply qfa|apply qix|apply qpk|apply qls|apply qei|apply qni|apply qad|apply qln|apply qgt|apply qxt|apply qnt|apply qep|apply qnb)<;>(first|exact rfl|assumption|exact Ar.mk (by omega)|exact dct (by first|assumption|omega)|exact dcf (by first|assumption|omega)|exact List.not_mem_nil|apply dc_length|apply ec_length|apply dl_length|apply acc_length|exact nm1 (by omega)|fail))|fail) ?_)
      refine SG.setAll (l := [.int .i64 room, .slice a' M.length c']) rfl rfl (by exact rho_of rfl) (by exact rho_of rfl) hB7 rfl rfl rfl (fun w11 hk11 hC7 => ?_)
      repeat (first|apply cA|apply cB|apply cD|apply cE|apply cF|apply cG|apply cH|apply cJ|apply cM|apply cU|refine cV rfl ?_|apply cY|refine cZ rfl rfl rfl rfl (by first|((first|apply qep|apply qmv|apply qas|apply qlc|apply qla|apply qfa|apply qix|apply qpk|apply qls|apply qei|apply qni|apply qad|apply qln|apply qgt|apply qxt|apply qnt|apply qep|apply qnb)<;>(first|exact rfl|assumption|exact Ar.mk (by omega)|exact dct (by first|assumption|omega)|exact dcf (by first|assumption|omega)|exact List.not_mem_nil|apply dc_length|apply ec_length|apply dl_length|apply acc_length|exact nm1 (by omega)|fail))|fail) ?_)
      exact NG.cut ⟨bt, q, M, a', c', by (repeat' (first | exact True.intro | exact rfl | refine And.intro ?_ ?_)), k10.trans_new hk11 (new1 hP9.h7), Pl.put hL10 hP9.hbt hB7 hP9.h7 hS10 hc7 hT10 hWM hMl hk11 hC7, hB9.kp hk11 (nm1 h79)⟩
    by_cases k1 : x.kind = 1
    · obtain ⟨-, -, r2⟩ := lv_rows hP6.blk
      clear ro2
      have hrd := rdrop_spec (c := cR) room x.o.who hP6.sl (by omega)
      have hpd := fun W (h : Lob w.heap.size W bt room v m) => pdrop_spec x.o.who h (by omega)
      have hWM : Wait (whoL x.o.who m) := hP6.wait.filter _
      have hMl : (whoL x.o.who m).length ≤ m.length := List.length_filter_le _ _
      have hmr := hP6.most
      generalize whoL x.o.who m = M at hrd hpd hWM hMl
      generalize decide (M.length < m.length) = q at hrd hpd
      have hq : (!(q == q)) = false := by cases q <;> rfl
      repeat (first|apply cA|apply cB|apply cD|apply cE|apply cF|apply cG|apply cH|apply cJ|apply cM|apply cU|refine cV rfl ?_|apply cY|refine cZ rfl rfl rfl rfl (by first|((first|apply qep|apply qmv|apply qas|apply qlc|apply qla|apply qfa|apply qix|apply qpk|apply qls|apply qei|apply qni|apply qad|apply qln|apply qgt|apply qxt|apply qnt|apply qep|apply qnb)<;>(first|exact rfl|assumption|exact Ar.mk (by omega)|exact dct (by first|assumption|omega)|exact dcf (by first|assumption|omega)|exact List.not_mem_nil|apply dc_length|apply ec_length|apply dl_length|apply acc_length|exact nm1 (by omega)|fail))|fail) ?_)
      refine dE rfl (by exact rho_of rfl) rfl ?_
      repeat (first|apply cA|apply cB|apply cD|apply cE|apply cF|apply cG|apply cH|apply cJ|apply cM|apply cU|refine cV rfl ?_|apply cY|refine cZ rfl rfl rfl rfl (by first|((first|apply qep|apply qmv|apply qas|apply qlc|apply qla|apply qfa|apply qix|apply qpk|apply qls|apply qei|apply qni|apply qad|apply qln|apply qgt|apply qxt|apply qnt|apply qep|apply qnb)<;>(first|exact rfl|assumption|exact Ar.mk (by omega)|exact dct (by first|assumption|omega)|exact dcf (by first|assumption|omega)|exact List.not_mem_nil|apply dc_length|apply ec_length|apply dl_length|apply acc_length|exact nm1 (by omega)|fail))|fail) ?_)
      refine dD rfl (by exact rho_of rfl) rfl ?_
      repeat (first|apply cA|apply cB|apply cD|apply cE|apply cF|apply cG|apply cH|apply cJ|apply cM|apply cU|refine cV rfl ?_|apply cY|refine cZ rfl rfl rfl rfl (by first|((first|apply qep|apply qmv|apply qas|apply qlc|apply qla|apply qfa|apply qix|apply qpk|apply qls|apply qei|apply qni|apply qad|apply qln|apply qgt|apply qxt|apply qnt|apply qep|apply qnb)<;>(first|exact rfl|assumption|exact Ar.mk (by omega)|exact dct (by first|assumption|omega)|exact dcf (by first|assumption|omega)|exact List.not_mem_nil|apply dc_length|apply ec_length|apply dl_length|apply acc_length|exact nm1 (by omega)|fail))|fail) ?_)
      refine SG.call rfl rfl rfl (vs := [lv room (.slice aR m.length cR), dv x.o.who]) (by repeat' (first | exact True.intro | exact rho_of rfl | refine And.intro ?_ ?_)) (hrd.mono (fun e w7 hh => ?_))
      obtain ⟨v', he, ho7, hk7⟩ := hh
      refine ⟨_, he, ?_⟩
      obtain ⟨a', c', rfl, hc7, hS7⟩ := Sl.own ec_length ho7 rfl
      have hT7 : Ty 33 w7 a' M := Ty.own ho7
      repeat (first|apply cA|apply cB|apply cD|apply cE|apply cF|apply cG|apply cH|apply cJ|apply cM|apply cU|refine cV rfl ?_|apply cY|refine cZ rfl rfl rfl rfl (by first|((first|apply qep|apply qmv|apply qas|apply qlc|apply qla|apply qfa|apply qix|apply qpk|apply qls|apply qei|apply qni|apply qad|apply qln|apply qgt|apply qxt|apply qnt|apply qep|apply qnb)<;>(first|exact rfl|assumption|exact Ar.mk (by omega)|exact dct (by first|assumption|omega)|exact dcf (by first|assumption|omega)|exact List.not_mem_nil|apply dc_length|apply ec_length|apply dl_length|apply acc_length|exact nm1 (by omega)|fail))|fail) ?_)
      refine SG.alloc rfl rfl rfl (fun b12 w8 hk8 hb12 hB12 => ?_)
      refine SG.setAll (l := [.int .i64 room, .slice a' M.length c']) rfl rfl (by exact rho_of rfl) (by exact rho_of rfl) hB12 rfl rfl rfl (fun w9 hk9 hB12 => ?_)
      have hB12 : Blk w9 b12 (.cells #[.int .i64 room, .slice a' M.length c'] 30) := hB12
      have k79 : Kp [] w7 w9 := hk8.trans_new hk9 (new1 (by omega))
      have k69 := hk7.trans k79
      have hP9 := hP6.kp0 k69
      have hB9 := hB9.kp0 k69
      have hS9 := hS7.kp0 k79
      have hT9 := hT7.kp0 k79
      have k9 := k6.trans k69
      clear hrd hP6 rk rn rw2 r2 ho7
      obtain ⟨-, -, -, rw2⟩ := acc_rows hB9
      repeat (first|apply cA|apply cB|apply cD|apply cE|apply cF|apply cG|apply cH|apply cJ|apply cM|apply cU|refine cV rfl ?_|apply cY|refine cZ rfl rfl rfl rfl (by first|((first|apply qep|apply qmv|apply qas|apply qlc|apply qla|apply qfa|apply qix|apply qpk|apply qls|apply qei|apply qni|apply qad|apply qln|apply qgt|apply qxt|apply qnt|apply qep|apply qnb)<;>(first|exact rfl|assumption|exact Ar.mk (by omega)|exact dct (by first|assumption|omega)|exact dcf (by first|assumption|omega)|exact List.not_mem_nil|apply dc_length|apply ec_length|apply dl_length|apply acc_length|exact nm1 (by omega)|fail))|fail) ?_)
      refine SG.call rfl rfl rfl (vs := [.pointer (some ⟨bt, 0, none⟩), dv x.o.who]) (by repeat' (first | exact True.intro | exact rho_of rfl | refine And.intro ?_ ?_)) ((hpd w9 hP9.lob).mono (fun e w10 hh => ?_))
      obtain ⟨he, hk10, v10, hL10⟩ := hh
      refine ⟨_, he, ?_⟩
      have hB9 := hB9.kp hk10 hn9
      have hB7 := hP9.blk.kp hk10 (hP9.lob.ni hP9.blk.raw (by decide) (by decide))
      have hB12 := hB12.kp hk10 (hP9.lob.ni hB12.raw (by decide) (by decide))
      have hS10 := hS9.kpN hk10 (hP9.lob.niT hT9)
      have hT10 := hT9.kp hk10 (hP9.lob.niT hT9)
      have k10 := hP9.lob.kp2 hP9.hbt k9 hk10
      clear rw2
      obtain ⟨-, -, r2⟩ := lv_rows hB12
      repeat (first|apply cA|apply cB|apply cD|apply cE|apply cF|apply cG|apply cH|apply cJ|apply cM|apply cU|refine cV rfl ?_|apply cY|refine cZ rfl rfl rfl rfl (by first|((first|apply qep|apply qmv|apply qas|apply qlc|apply qla|apply qfa|apply qix|apply qpk|apply qls|apply qei|apply qni|apply qad|apply qln|apply qgt|apply qxt|apply qnt|apply qep|apply qnb)<;>(first|exact rfl|assumption|exact Ar.mk (by omega)|exact dct (by first|assumption|omega)|exact dcf (by first|assumption|omega)|exact List.not_mem_nil|apply dc_length|apply ec_length|apply dl_length|apply acc_length|exact nm1 (by omega)|fail))|fail) ?_)
      refine dE rfl (by exact rho_of rfl) hq ?_
      repeat (first|apply cA|apply cB|apply cD|apply cE|apply cF|apply cG|apply cH|apply cJ|apply cM|apply cU|refine cV rfl ?_|apply cY|refine cZ rfl rfl rfl rfl (by first|((first|apply qep|apply qmv|apply qas|apply qlc|apply qla|apply qfa|apply qix|apply qpk|apply qls|apply qei|apply qni|apply qad|apply qln|apply qgt|apply qxt|apply qnt|apply qep|apply qnb)<;>(first|exact rfl|assumption|exact Ar.mk (by omega)|exact dct (by first|assumption|omega)|exact dcf (by first|assumption|omega)|exact List.not_mem_nil|apply dc_length|apply ec_length|apply dl_length|apply acc_length|exact nm1 (by omega)|fail))|fail) ?_)
      refine SG.setAll (l := [.int .i64 room, .slice a' M.length c']) rfl rfl (by exact rho_of rfl) (by exact rho_of rfl) hB7 rfl rfl rfl (fun w11 hk11 hC7 => ?_)
      repeat (first|apply cA|apply cB|apply cD|apply cE|apply cF|apply cG|apply cH|apply cJ|apply cM|apply cU|refine cV rfl ?_|apply cY|refine cZ rfl rfl rfl rfl (by first|((first|apply qep|apply qmv|apply qas|apply qlc|apply qla|apply qfa|apply qix|apply qpk|apply qls|apply qei|apply qni|apply qad|apply qln|apply qgt|apply qxt|apply qnt|apply qep|apply qnb)<;>(first|exact rfl|assumption|exact Ar.mk (by omega)|exact dct (by first|assumption|omega)|exact dcf (by first|assumption|omega)|exact List.not_mem_nil|apply dc_length|apply ec_length|apply dl_length|apply acc_length|exact nm1 (by omega)|fail))|fail) ?_)
      exact NG.cut ⟨bt, v10, M, a', c', by (repeat' (first | exact True.intro | exact rfl | refine And.intro ?_ ?_)), k10.trans_new hk11 (new1 hP9.h7), Pl.put hL10 hP9.hbt hB7 hP9.h7 hS10 hc7 hT10 hWM (by omega) hk11 hC7, hB9.kp hk11 (nm1 h79)⟩
    by_cases k2 : x.kind = 2
    · obtain ⟨-, -, r2⟩ := lv_rows hP6.blk
      clear rw2 ro2
      have hrm := rmatch2 (c := cR) room x.now hP6.sl (by omega) hP6.cap hP6.ty hP6.wait
      have hpm := fun W (h : Lob w.heap.size W bt room v m) => pmatch2 x.now h (by omega) hP6.wait
      have hWM : Wait (mM (findD (lateL x.now m)) m) := mM_wait hP6.wait
      have hMl : (mM (findD (lateL x.now m)) m).length ≤ m.length := mM_len
      have hTok := mT_ok (now := x.now) hP6.wait
      have hTl := mT_len (now := x.now) hP6.wait
      have hmr := hP6.most
      generalize findD (lateL x.now m) = F at hrm hpm hWM hMl hTok hTl
      generalize F.isSome = q at hrm hpm
      generalize mT F = T at hrm hpm hTok hTl
      generalize mD F = D at hrm hpm hTl
      generalize mM F m = M at hrm hpm hWM hMl
      have hq : (!(q == q)) = false := by cases q <;> rfl
      repeat (first|apply cA|apply cB|apply cD|apply cE|apply cF|apply cG|apply cH|apply cJ|apply cM|apply cU|refine cV rfl ?_|apply cY|refine cZ rfl rfl rfl rfl (by first|((first|apply qep|apply qmv|apply qas|apply qlc|apply qla|apply qfa|apply qix|apply qpk|apply qls|apply qei|apply qni|apply qad|apply qln|apply qgt|apply qxt|apply qnt|apply qep|apply qnb)<;>(first|exact rfl|assumption|exact Ar.mk (by omega)|exact dct (by first|assumption|omega)|exact dcf (by first|assumption|omega)|exact List.not_mem_nil|apply dc_length|apply ec_length|apply dl_length|apply acc_length|exact nm1 (by omega)|fail))|fail) ?_)
      refine dE rfl (by exact rho_of rfl) rfl ?_
      repeat (first|apply cA|apply cB|apply cD|apply cE|apply cF|apply cG|apply cH|apply cJ|apply cM|apply cU|refine cV rfl ?_|apply cY|refine cZ rfl rfl rfl rfl (by first|((first|apply qep|apply qmv|apply qas|apply qlc|apply qla|apply qfa|apply qix|apply qpk|apply qls|apply qei|apply qni|apply qad|apply qln|apply qgt|apply qxt|apply qnt|apply qep|apply qnb)<;>(first|exact rfl|assumption|exact Ar.mk (by omega)|exact dct (by first|assumption|omega)|exact dcf (by first|assumption|omega)|exact List.not_mem_nil|apply dc_length|apply ec_length|apply dl_length|apply acc_length|exact nm1 (by omega)|fail))|fail) ?_)
      refine dE rfl (by exact rho_of rfl) rfl ?_
      repeat (first|apply cA|apply cB|apply cD|apply cE|apply cF|apply cG|apply cH|apply cJ|apply cM|apply cU|refine cV rfl ?_|apply cY|refine cZ rfl rfl rfl rfl (by first|((first|apply qep|apply qmv|apply qas|apply qlc|apply qla|apply qfa|apply qix|apply qpk|apply qls|apply qei|apply qni|apply qad|apply qln|apply qgt|apply qxt|apply qnt|apply qep|apply qnb)<;>(first|exact rfl|assumption|exact Ar.mk (by omega)|exact dct (by first|assumption|omega)|exact dcf (by first|assumption|omega)|exact List.not_mem_nil|apply dc_length|apply ec_length|apply dl_length|apply acc_length|exact nm1 (by omega)|fail))|fail) ?_)
      refine dD rfl (by exact rho_of rfl) rfl ?_
      repeat (first|apply cA|apply cB|apply cD|apply cE|apply cF|apply cG|apply cH|apply cJ|apply cM|apply cU|refine cV rfl ?_|apply cY|refine cZ rfl rfl rfl rfl (by first|((first|apply qep|apply qmv|apply qas|apply qlc|apply qla|apply qfa|apply qix|apply qpk|apply qls|apply qei|apply qni|apply qad|apply qln|apply qgt|apply qxt|apply qnt|apply qep|apply qnb)<;>(first|exact rfl|assumption|exact Ar.mk (by omega)|exact dct (by first|assumption|omega)|exact dcf (by first|assumption|omega)|exact List.not_mem_nil|apply dc_length|apply ec_length|apply dl_length|apply acc_length|exact nm1 (by omega)|fail))|fail) ?_)
      refine SG.call rfl rfl rfl (vs := [lv room (.slice aR m.length cR), .int .i64 x.now]) (by repeat' (first | exact True.intro | exact rho_of rfl | refine And.intro ?_ ?_)) (hrm.mono (fun e w7 hh => ?_))
      obtain ⟨ad, cd, at', ct, a', c', he, hk7, hSd, hTd, hSt, hTt, hSm, hcm, hTm⟩ := hh
      refine ⟨_, he, ?_⟩
      repeat (first|apply cA|apply cB|apply cD|apply cE|apply cF|apply cG|apply cH|apply cJ|apply cM|apply cU|refine cV rfl ?_|apply cY|refine cZ rfl rfl rfl rfl (by first|((first|apply qep|apply qmv|apply qas|apply qlc|apply qla|apply qfa|apply qix|apply qpk|apply qls|apply qei|apply qni|apply qad|apply qln|apply qgt|apply qxt|apply qnt|apply qep|apply qnb)<;>(first|exact rfl|assumption|exact Ar.mk (by omega)|exact dct (by first|assumption|omega)|exact dcf (by first|assumption|omega)|exact List.not_mem_nil|apply dc_length|apply ec_length|apply dl_length|apply acc_length|exact nm1 (by omega)|fail))|fail) ?_)
      refine SG.alloc rfl rfl rfl (fun b14 w8 hk8 hb14 hB14 => ?_)
      have l14 := hB14.lt
      refine SG.alloc rfl rfl rfl (fun b15 w9 hk9 hb15 hB15 => ?_)
      have hB14 := hB14.kp0 hk9
      refine SG.setAll (l := [.int .i64 room, .slice a' M.length c']) rfl rfl (by exact rho_of rfl) (by exact rho_of rfl) hB14 rfl rfl rfl (fun w10 hk10 hC14 => ?_)
      have hC14 : Blk w10 b14 (.cells #[.int .i64 room, .slice a' M.length c'] 30) := hC14
      have hB15 := hB15.kp hk10 (nm1 (by omega))
      refine SG.setAll (l := dl D.rules (.slice ad D.who.length cd) D.stake D.window) rfl rfl (by exact rho_of rfl) (by exact rho_of rfl) hB15 (dl_length _ _ _ _) rfl (dl_one _ _ _ _ _ _) (fun w11 hk11 hC15 => ?_)
      have hC15 : Blk w11 b15 (.cells (dl D.rules (.slice ad D.who.length cd) D.stake D.window).toArray 48) := hC15
      have hC14 := hC14.kp hk11 (nm1 (by omega))
      have s8 := hk8.size
      have k711 : Kp [] w7 w11 := ((hk8.trans hk9).trans_new hk10 (new1 (by omega))).trans_new hk11 (new1 (by omega))
      have k611 := hk7.trans k711
      have hP11 := hP6.kp0 k611
      have hB9 := hB9.kp0 k611
      have k11 := k6.trans k611
      clear hrm hP6 rk rn r2 hB14 hB15
      obtain ⟨-, rn, -, -⟩ := acc_rows hB9
      repeat (first|apply cA|apply cB|apply cD|apply cE|apply cF|apply cG|apply cH|apply cJ|apply cM|apply cU|refine cV rfl ?_|apply cY|refine cZ rfl rfl rfl rfl (by first|((first|apply qep|apply qmv|apply qas|apply qlc|apply qla|apply qfa|apply qix|apply qpk|apply qls|apply qei|apply qni|apply qad|apply qln|apply qgt|apply qxt|apply qnt|apply qep|apply qnb)<;>(first|exact rfl|assumption|exact Ar.mk (by omega)|exact dct (by first|assumption|omega)|exact dcf (by first|assumption|omega)|exact List.not_mem_nil|apply dc_length|apply ec_length|apply dl_length|apply acc_length|exact nm1 (by omega)|fail))|fail) ?_)
      refine SG.call rfl rfl rfl (vs := [.pointer (some ⟨bt, 0, none⟩), .int .i64 x.now]) (by repeat' (first | exact True.intro | exact rho_of rfl | refine And.intro ?_ ?_)) ((hpm w11 hP11.lob).mono (fun e w12 hh => ?_))
      obtain ⟨ae, ce, au, cu, v12, he, hk12, hSe, hSu, hL12⟩ := hh
      refine ⟨_, he, ?_⟩
      have hB9 := hB9.kp hk12 hn9
      have hB7 := hP11.blk.kp hk12 (hP11.lob.ni hP11.blk.raw (by decide) (by decide))
      have hC14 := hC14.kp hk12 (hP11.lob.ni hC14.raw (by decide) (by decide))
      have hC15 := hC15.kp hk12 (hP11.lob.ni hC15.raw (by decide) (by decide))
      have hSm := (hSm.kp0 k711).kpN hk12 (hP11.lob.niT (hTm.kp0 k711))
      have hSt := (hSt.kp0 k711).kpN hk12 (hP11.lob.niT (hTt.kp0 k711))
      have hSd := (hSd.kp0 k711).kpN hk12 (hP11.lob.niD (hTd.kp0 k711) (by decide) (by decide))
      have hTm := (hTm.kp0 k711).kp hk12 (hP11.lob.niT (hTm.kp0 k711))
      have k12 := hP11.lob.kp2 hP11.hbt k11 hk12
      clear rn hTt hTd
      repeat (first|apply cA|apply cB|apply cD|apply cE|apply cF|apply cG|apply cH|apply cJ|apply cM|apply cU|refine cV rfl ?_|apply cY|refine cZ rfl rfl rfl rfl (by first|((first|apply qep|apply qmv|apply qas|apply qlc|apply qla|apply qfa|apply qix|apply qpk|apply qls|apply qei|apply qni|apply qad|apply qln|apply qgt|apply qxt|apply qnt|apply qep|apply qnb)<;>(first|exact rfl|assumption|exact Ar.mk (by omega)|exact dct (by first|assumption|omega)|exact dcf (by first|assumption|omega)|exact List.not_mem_nil|apply dc_length|apply ec_length|apply dl_length|apply acc_length|exact nm1 (by omega)|fail))|fail) ?_)
      refine SG.alloc rfl rfl rfl (fun b18 w13 hk13 hb18 hB18 => ?_)
      refine SG.setAll (l := dl D.rules (.slice ae D.who.length ce) D.stake D.window) rfl rfl (by exact rho_of rfl) (by exact rho_of rfl) hB18 (dl_length _ _ _ _) rfl (dl_one _ _ _ _ _ _) (fun w14 hk14 hB18 => ?_)
      have hB18 : Blk w14 b18 (.cells (dl D.rules (.slice ae D.who.length ce) D.stake D.window).toArray 53) := hB18
      have k124 : Kp [] w12 w14 := hk13.trans_new hk14 (new1 (by omega))
      have hC15 := hC15.kp0 k124
      have rd15 : Row w14 b15 0 (dl D.rules (.slice ad D.who.length cd) D.stake D.window) := Row.all hC15 rfl
      have rd18 : Row w14 b18 0 (dl D.rules (.slice ae D.who.length ce) D.stake D.window) := Row.all hB18 rfl
      have hdp := fun w (h : Sl dc 8 w ae D.who) => deal_spec (c := ce) D h (by omega)
      have hsd := fun w (a' : Option Addr) (c' : Nat) (h1 : Sl dc 8 w a' D.who) (h2 : Sl dc 8 w ad D.who) => samedeal_spec (c := c') (c' := cd) D D h1 h2 (by omega)
      rw [show decide (D = D) = true from decide_eq_true rfl] at hsd
      have hls := fun w (h1 : Sl ec 21 w au T) (h2 : Sl ec 21 w at' T) => lsame_spec (c := cu) (c' := ct) h1 h2 (by omega) (fun x hx => (hTok x hx).fit)
      have hSd := hSd.kp0 k124
      have hSe := hSe.kp0 k124
      have hSt := hSt.kp0 k124
      have hSu := hSu.kp0 k124
      repeat (first|apply cA|apply cB|apply cD|apply cE|apply cF|apply cG|apply cH|apply cJ|apply cM|apply cU|refine cV rfl ?_|apply cY|refine cZ rfl rfl rfl rfl (by first|((first|apply qep|apply qmv|apply qas|apply qlc|apply qla|apply qfa|apply qix|apply qpk|apply qls|apply qei|apply qni|apply qad|apply qln|apply qgt|apply qxt|apply qnt|apply qep|apply qnb)<;>(first|exact rfl|assumption|exact Ar.mk (by omega)|exact dct (by first|assumption|omega)|exact dcf (by first|assumption|omega)|exact List.not_mem_nil|apply dc_length|apply ec_length|apply dl_length|apply acc_length|exact nm1 (by omega)|fail))|fail) ?_)
      refine CG.draw0 mixed [0, 1, 2, 3, 4, 6, 5, 7, 8, 9, 10, 11, 12, 13, 14, 15] [5] (by kernel_rfl) ?_
      refine dB rfl rfl rfl (by first|((first|apply qep|apply qmv|apply qas|apply qlc|apply qla|apply qfa|apply qix|apply qpk|apply qls|apply qei|apply qni|apply qad|apply qln|apply qgt|apply qxt|apply qnt|apply qep|apply qnb)<;>(first|exact rfl|assumption|exact Ar.mk (by omega)|exact dct (by first|assumption|omega)|exact dcf (by first|assumption|omega)|exact List.not_mem_nil|apply dc_length|apply ec_length|apply dl_length|apply acc_length|exact nm1 (by omega)|fail))|fail) ?_
      refine dB rfl rfl rfl (by first|((first|apply qep|apply qmv|apply qas|apply qlc|apply qla|apply qfa|apply qix|apply qpk|apply qls|apply qei|apply qni|apply qad|apply qln|apply qgt|apply qxt|apply qnt|apply qep|apply qnb)<;>(first|exact rfl|assumption|exact Ar.mk (by omega)|exact dct (by first|assumption|omega)|exact dcf (by first|assumption|omega)|exact List.not_mem_nil|apply dc_length|apply ec_length|apply dl_length|apply acc_length|exact nm1 (by omega)|fail))|fail) ?_
      refine dB rfl rfl rfl (by first|((first|apply qep|apply qmv|apply qas|apply qlc|apply qla|apply qfa|apply qix|apply qpk|apply qls|apply qei|apply qni|apply qad|apply qln|apply qgt|apply qxt|apply qnt|apply qep|apply qnb)<;>(first|exact rfl|assumption|exact Ar.mk (by omega)|exact dct (by first|assumption|omega)|exact dcf (by first|assumption|omega)|exact List.not_mem_nil|apply dc_length|apply ec_length|apply dl_length|apply acc_length|exact nm1 (by omega)|fail))|fail) ?_
      rw [hq]
      repeat (first | refine dB rfl rfl rfl (by first|((first|apply qep|apply qmv|apply qas|apply qlc|apply qla|apply qfa|apply qix|apply qpk|apply qls|apply qei|apply qni|apply qad|apply qln|apply qgt|apply qxt|apply qnt|apply qep|apply qnb)<;>(first|exact rfl|assumption|exact Ar.mk (by omega)|exact dct (by first|assumption|omega)|exact dcf (by first|assumption|omega)|exact List.not_mem_nil|apply dc_length|apply ec_length|apply dl_length|apply acc_length|exact nm1 (by omega)|fail))|fail) ?_ | refine Der.skip rfl rfl ?_)
      refine Der.callG (X := Option Addr × Nat) (vs := [dealV D.rules (.slice ae D.who.length ce) D.stake D.window]) (fun q => dealV D.rules (.slice q.1 D.who.length q.2) D.stake D.window) (fun q w => Sl dc 8 w q.1 D.who) rfl rfl rfl rfl (by repeat' (first | exact True.intro | exact rho_of rfl | refine And.intro ?_ ?_)) (fun q w w' hk hq => hq.kp0 hk) (fun _ _ _ h => h) (fun w hk _ => (hdp w (hSe.kp0 hk)).mono (fun z w' ⟨v, he, ⟨s, hv, ho⟩, hk'⟩ => ?_)) (fun q' => ?_)
      · subst hv
        obtain ⟨a9, c9, rfl, _, hS9⟩ := Sl.own dc_length ho rfl
        exact ⟨(a9, c9), he, hS9, hk'⟩
      repeat (first | refine dB rfl rfl rfl (by first|((first|apply qep|apply qmv|apply qas|apply qlc|apply qla|apply qfa|apply qix|apply qpk|apply qls|apply qei|apply qni|apply qad|apply qln|apply qgt|apply qxt|apply qnt|apply qep|apply qnb)<;>(first|exact rfl|assumption|exact Ar.mk (by omega)|exact dct (by first|assumption|omega)|exact dcf (by first|assumption|omega)|exact List.not_mem_nil|apply dc_length|apply ec_length|apply dl_length|apply acc_length|exact nm1 (by omega)|fail))|fail) ?_ | refine Der.skip rfl rfl ?_)
      refine Der.call (vs := [dealV D.rules (.slice q'.1 D.who.length q'.2) D.stake D.window, dealV D.rules (.slice ad D.who.length cd) D.stake D.window]) rfl rfl rfl (by repeat' (first | exact True.intro | exact rho_of rfl | refine And.intro ?_ ?_)) (fun w hk hF => hsd w _ _ hF.2 (hSd.kp0 hk)) ?_
      repeat (first | refine dB rfl rfl rfl (by first|((first|apply qep|apply qmv|apply qas|apply qlc|apply qla|apply qfa|apply qix|apply qpk|apply qls|apply qei|apply qni|apply qad|apply qln|apply qgt|apply qxt|apply qnt|apply qep|apply qnb)<;>(first|exact rfl|assumption|exact Ar.mk (by omega)|exact dct (by first|assumption|omega)|exact dcf (by first|assumption|omega)|exact List.not_mem_nil|apply dc_length|apply ec_length|apply dl_length|apply acc_length|exact nm1 (by omega)|fail))|fail) ?_ | refine Der.skip rfl rfl ?_)
      refine Der.call (vs := [.slice au T.length cu, .slice at' T.length ct]) rfl rfl rfl (by repeat' (first | exact True.intro | exact rho_of rfl | refine And.intro ?_ ?_)) (fun w hk hF => hls w (hSu.kp0 hk) (hSt.kp0 hk)) ?_
      repeat (first | refine dB rfl rfl rfl (by first|((first|apply qep|apply qmv|apply qas|apply qlc|apply qla|apply qfa|apply qix|apply qpk|apply qls|apply qei|apply qni|apply qad|apply qln|apply qgt|apply qxt|apply qnt|apply qep|apply qnb)<;>(first|exact rfl|assumption|exact Ar.mk (by omega)|exact dct (by first|assumption|omega)|exact dcf (by first|assumption|omega)|exact List.not_mem_nil|apply dc_length|apply ec_length|apply dl_length|apply acc_length|exact nm1 (by omega)|fail))|fail) ?_ | refine Der.skip rfl rfl ?_)
      refine Der.fin (fun w15 hk15 _ _ => ?_)
      have k125 := k124.trans hk15
      clear rd15 rd18 hdp hsd hls
      obtain ⟨-, -, r2⟩ := lv_rows (hC14.kp0 k125)
      have hB7 := hB7.kp0 k125
      repeat (first|apply cA|apply cB|apply cD|apply cE|apply cF|apply cG|apply cH|apply cJ|apply cM|apply cU|refine cV rfl ?_|apply cY|refine cZ rfl rfl rfl rfl (by first|((first|apply qep|apply qmv|apply qas|apply qlc|apply qla|apply qfa|apply qix|apply qpk|apply qls|apply qei|apply qni|apply qad|apply qln|apply qgt|apply qxt|apply qnt|apply qep|apply qnb)<;>(first|exact rfl|assumption|exact Ar.mk (by omega)|exact dct (by first|assumption|omega)|exact dcf (by first|assumption|omega)|exact List.not_mem_nil|apply dc_length|apply ec_length|apply dl_length|apply acc_length|exact nm1 (by omega)|fail))|fail) ?_)
      refine dE rfl (by exact rho_of rfl) rfl ?_
      repeat (first|apply cA|apply cB|apply cD|apply cE|apply cF|apply cG|apply cH|apply cJ|apply cM|apply cU|refine cV rfl ?_|apply cY|refine cZ rfl rfl rfl rfl (by first|((first|apply qep|apply qmv|apply qas|apply qlc|apply qla|apply qfa|apply qix|apply qpk|apply qls|apply qei|apply qni|apply qad|apply qln|apply qgt|apply qxt|apply qnt|apply qep|apply qnb)<;>(first|exact rfl|assumption|exact Ar.mk (by omega)|exact dct (by first|assumption|omega)|exact dcf (by first|assumption|omega)|exact List.not_mem_nil|apply dc_length|apply ec_length|apply dl_length|apply acc_length|exact nm1 (by omega)|fail))|fail) ?_)
      refine SG.setAll (l := [.int .i64 room, .slice a' M.length c']) rfl rfl (by exact rho_of rfl) (by exact rho_of rfl) hB7 rfl rfl rfl (fun w16 hk16 hC7 => ?_)
      repeat (first|apply cA|apply cB|apply cD|apply cE|apply cF|apply cG|apply cH|apply cJ|apply cM|apply cU|refine cV rfl ?_|apply cY|refine cZ rfl rfl rfl rfl (by first|((first|apply qep|apply qmv|apply qas|apply qlc|apply qla|apply qfa|apply qix|apply qpk|apply qls|apply qei|apply qni|apply qad|apply qln|apply qgt|apply qxt|apply qnt|apply qep|apply qnb)<;>(first|exact rfl|assumption|exact Ar.mk (by omega)|exact dct (by first|assumption|omega)|exact dcf (by first|assumption|omega)|exact List.not_mem_nil|apply dc_length|apply ec_length|apply dl_length|apply acc_length|exact nm1 (by omega)|fail))|fail) ?_)
      exact NG.cut ⟨bt, v12, M, a', c', by (repeat' (first | exact True.intro | exact rfl | refine And.intro ?_ ?_)), (k12.trans k125).trans_new hk16 (new1 hP11.h7), Pl.put (hL12.kp0 k125) hP11.hbt hB7 hP11.h7 (hSm.kp0 k125) hcm (hTm.kp0 k125) hWM (by omega) hk16 hC7, (hB9.kp0 k125).kp hk16 (nm1 h79)⟩
    by_cases k3 : x.kind = 3
    · clear rw2
      have hfit : ∀ y ∈ m, y.Fit := fun y hy => (hP6.wait.ok y hy).fit
      repeat (first|apply cA|apply cB|apply cD|apply cE|apply cF|apply cG|apply cH|apply cJ|apply cM|apply cU|refine cV rfl ?_|apply cY|refine cZ rfl rfl rfl rfl (by first|((first|apply qep|apply qmv|apply qas|apply qlc|apply qla|apply qfa|apply qix|apply qpk|apply qls|apply qei|apply qni|apply qad|apply qln|apply qgt|apply qxt|apply qnt|apply qep|apply qnb)<;>(first|exact rfl|assumption|exact Ar.mk (by omega)|exact dct (by first|assumption|omega)|exact dcf (by first|assumption|omega)|exact List.not_mem_nil|apply dc_length|apply ec_length|apply dl_length|apply acc_length|exact nm1 (by omega)|fail))|fail) ?_)
      refine dE rfl (by exact rho_of rfl) rfl ?_
      repeat (first|apply cA|apply cB|apply cD|apply cE|apply cF|apply cG|apply cH|apply cJ|apply cM|apply cU|refine cV rfl ?_|apply cY|refine cZ rfl rfl rfl rfl (by first|((first|apply qep|apply qmv|apply qas|apply qlc|apply qla|apply qfa|apply qix|apply qpk|apply qls|apply qei|apply qni|apply qad|apply qln|apply qgt|apply qxt|apply qnt|apply qep|apply qnb)<;>(first|exact rfl|assumption|exact Ar.mk (by omega)|exact dct (by first|assumption|omega)|exact dcf (by first|assumption|omega)|exact List.not_mem_nil|apply dc_length|apply ec_length|apply dl_length|apply acc_length|exact nm1 (by omega)|fail))|fail) ?_)
      refine dE rfl (by exact rho_of rfl) rfl ?_
      repeat (first|apply cA|apply cB|apply cD|apply cE|apply cF|apply cG|apply cH|apply cJ|apply cM|apply cU|refine cV rfl ?_|apply cY|refine cZ rfl rfl rfl rfl (by first|((first|apply qep|apply qmv|apply qas|apply qlc|apply qla|apply qfa|apply qix|apply qpk|apply qls|apply qei|apply qni|apply qad|apply qln|apply qgt|apply qxt|apply qnt|apply qep|apply qnb)<;>(first|exact rfl|assumption|exact Ar.mk (by omega)|exact dct (by first|assumption|omega)|exact dcf (by first|assumption|omega)|exact List.not_mem_nil|apply dc_length|apply ec_length|apply dl_length|apply acc_length|exact nm1 (by omega)|fail))|fail) ?_)
      refine dE rfl (by exact rho_of rfl) rfl ?_
      repeat (first|apply cA|apply cB|apply cD|apply cE|apply cF|apply cG|apply cH|apply cJ|apply cM|apply cU|refine cV rfl ?_|apply cY|refine cZ rfl rfl rfl rfl (by first|((first|apply qep|apply qmv|apply qas|apply qlc|apply qla|apply qfa|apply qix|apply qpk|apply qls|apply qei|apply qni|apply qad|apply qln|apply qgt|apply qxt|apply qnt|apply qep|apply qnb)<;>(first|exact rfl|assumption|exact Ar.mk (by omega)|exact dct (by first|assumption|omega)|exact dcf (by first|assumption|omega)|exact List.not_mem_nil|apply dc_length|apply ec_length|apply dl_length|apply acc_length|exact nm1 (by omega)|fail))|fail) ?_)
      refine dD rfl (by exact rho_of rfl) rfl ?_
      repeat (first|apply cA|apply cB|apply cD|apply cE|apply cF|apply cG|apply cH|apply cJ|apply cM|apply cU|refine cV rfl ?_|apply cY|refine cZ rfl rfl rfl rfl (by first|((first|apply qep|apply qmv|apply qas|apply qlc|apply qla|apply qfa|apply qix|apply qpk|apply qls|apply qei|apply qni|apply qad|apply qln|apply qgt|apply qxt|apply qnt|apply qep|apply qnb)<;>(first|exact rfl|assumption|exact Ar.mk (by omega)|exact dct (by first|assumption|omega)|exact dcf (by first|assumption|omega)|exact List.not_mem_nil|apply dc_length|apply ec_length|apply dl_length|apply acc_length|exact nm1 (by omega)|fail))|fail) ?_)
      refine SG.call rfl rfl rfl (vs := [.pointer (some ⟨bt, 0, none⟩)]) (by repeat' (first | exact True.intro | exact rho_of rfl | refine And.intro ?_ ?_)) ((pclone_spec hP6.lob (by omega)).mono (fun e w7 hh => ?_))
      obtain ⟨bc, vc, he, hbc, hk7, hLc⟩ := hh
      refine ⟨_, he, ?_⟩
      have hP7 := hP6.kp0 hk7
      repeat (first | first|apply cA|apply cB|apply cD|apply cE|apply cF|apply cG|apply cH|apply cJ|apply cM|apply cU|refine cV rfl ?_|apply cY|refine cZ rfl rfl rfl rfl (by first|((first|apply qep|apply qmv|apply qas|apply qlc|apply qla|apply qfa|apply qix|apply qpk|apply qls|apply qei|apply qni|apply qad|apply qln|apply qgt|apply qxt|apply qnt|apply qep|apply qnb)<;>(first|exact rfl|assumption|exact Ar.mk (by omega)|exact dct (by first|assumption|omega)|exact dcf (by first|assumption|omega)|exact List.not_mem_nil|apply dc_length|apply ec_length|apply dl_length|apply acc_length|exact nm1 (by omega)|fail))|fail) ?_ | refine dA rfl rfl ?_)
      refine SG.ret rfl rfl rfl (vs := [.pointer (some ⟨bc, 0, none⟩), .pointer (some ⟨bt, 0, none⟩)]) (by repeat' (first | exact True.intro | exact rho_of rfl | refine And.intro ?_ ?_)) (psame_spec hLc hP7.lob (by omega) hfit) (fun w8 hk8 => ?_)
      repeat (first | first|apply cA|apply cB|apply cD|apply cE|apply cF|apply cG|apply cH|apply cJ|apply cM|apply cU|refine cV rfl ?_|apply cY|refine cZ rfl rfl rfl rfl (by first|((first|apply qep|apply qmv|apply qas|apply qlc|apply qla|apply qfa|apply qix|apply qpk|apply qls|apply qei|apply qni|apply qad|apply qln|apply qgt|apply qxt|apply qnt|apply qep|apply qnb)<;>(first|exact rfl|assumption|exact Ar.mk (by omega)|exact dct (by first|assumption|omega)|exact dcf (by first|assumption|omega)|exact List.not_mem_nil|apply dc_length|apply ec_length|apply dl_length|apply acc_length|exact nm1 (by omega)|fail))|fail) ?_ | refine dA rfl rfl ?_)
      refine SG.ret rfl rfl rfl (vs := [.pointer (some ⟨bt, 0, none⟩), .pointer (some ⟨bc, 0, none⟩)]) (by repeat' (first | exact True.intro | exact rho_of rfl | refine And.intro ?_ ?_)) (psame_spec (hP7.lob.kp0 hk8) (hLc.kp0 hk8) (by omega) hfit) (fun w9 hk9 => ?_)
      repeat (first | first|apply cA|apply cB|apply cD|apply cE|apply cF|apply cG|apply cH|apply cJ|apply cM|apply cU|refine cV rfl ?_|apply cY|refine cZ rfl rfl rfl rfl (by first|((first|apply qep|apply qmv|apply qas|apply qlc|apply qla|apply qfa|apply qix|apply qpk|apply qls|apply qei|apply qni|apply qad|apply qln|apply qgt|apply qxt|apply qnt|apply qep|apply qnb)<;>(first|exact rfl|assumption|exact Ar.mk (by omega)|exact dct (by first|assumption|omega)|exact dcf (by first|assumption|omega)|exact List.not_mem_nil|apply dc_length|apply ec_length|apply dl_length|apply acc_length|exact nm1 (by omega)|fail))|fail) ?_ | refine dA rfl rfl ?_)
      refine dE rfl (by exact rho_of rfl) rfl ?_
      have k79 := hk8.trans hk9
      have k69 := hk7.trans k79
      have hP9 := hP6.kp0 k69
      have hLc := hLc.kp0 k79
      have hB9 := hB9.kp0 k69
      have k9 := k6.trans k69
      clear rk rn ro2
      obtain ⟨-, rn, ro2, -⟩ := acc_rows hB9
      repeat (first|apply cA|apply cB|apply cD|apply cE|apply cF|apply cG|apply cH|apply cJ|apply cM|apply cU|refine cV rfl ?_|apply cY|refine cZ rfl rfl rfl rfl (by first|((first|apply qep|apply qmv|apply qas|apply qlc|apply qla|apply qfa|apply qix|apply qpk|apply qls|apply qei|apply qni|apply qad|apply qln|apply qgt|apply qxt|apply qnt|apply qep|apply qnb)<;>(first|exact rfl|assumption|exact Ar.mk (by omega)|exact dct (by first|assumption|omega)|exact dcf (by first|assumption|omega)|exact List.not_mem_nil|apply dc_length|apply ec_length|apply dl_length|apply acc_length|exact nm1 (by omega)|fail))|fail) ?_)
      refine CG.tail mixed 6 [0, 1, 2, 3, 4, 5] (by kernel_rfl) ?_
      repeat (refine dB rfl rfl rfl (by first|((first|apply qep|apply qmv|apply qas|apply qlc|apply qla|apply qfa|apply qix|apply qpk|apply qls|apply qei|apply qni|apply qad|apply qln|apply qgt|apply qxt|apply qnt|apply qep|apply qnb)<;>(first|exact rfl|assumption|exact Ar.mk (by omega)|exact dct (by first|assumption|omega)|exact dcf (by first|assumption|omega)|exact List.not_mem_nil|apply dc_length|apply ec_length|apply dl_length|apply acc_length|exact nm1 (by omega)|fail))|fail) ?_)
      refine Der.call rfl rfl rfl (vs := [ov x.o]) (by repeat' (first | exact True.intro | exact rho_of rfl | refine And.intro ?_ ?_)) (fun W hk _ => to_spec x.o W) ?_
      refine Der.tl (fun w10 hk10 _ _ => ?_)
      have hP10 := hP9.kp0 hk10
      have hLc := hLc.kp0 hk10
      have hB9 := hB9.kp0 hk10
      have k10 := k9.trans hk10
      refine SG.call rfl rfl rfl (vs := [.pointer (some ⟨bt, 0, none⟩), .int .i64 x.now, ov x.o]) (by repeat' (first | exact True.intro | exact rho_of rfl | refine And.intro ?_ ?_)) ((post_all x.now x.o hP10.lob (by omega) k10.size).mono (fun e w11 hh => ?_))
      obtain ⟨he, hk11, v11, hL11, hv11⟩ := hh
      refine ⟨_, he, ?_⟩
      have hnc : bc ∉ bt :: ownB v := hP6.lob.new hbc
      have hnv : ∀ b, vc.ownBlock = some b → b ∉ bt :: ownB v := fun b hb => hP6.lob.new (own_geB hLc.own b hb)
      have hvl := own_lt hLc.own
      have hbcl := hLc.blk.lt
      have hLc11 : Lob w6.heap.size w11 bc room vc m := ⟨hLc.blk.kp hk11 hnc, own_kp hLc.own hk11 hnv⟩
      have hB7 := hP10.blk.kp hk11 (hP10.lob.ni hP10.blk.raw (by decide) (by decide))
      have hS11 := hP10.sl.kpN hk11 (hP10.lob.niT hP10.ty)
      have hT11 := hP10.ty.kp hk11 (hP10.lob.niT hP10.ty)
      have hB9 := hB9.kp hk11 hn9
      have k11 := hP10.lob.kp2 hP10.hbt k10 hk11
      have hW11 := hP6.wait.postG room x.now x.o
      have hM11 := postG_len hP6.most x.now x.o
      generalize postG room x.now x.o m = M at hL11 hW11 hM11
      clear rn ro2
      obtain ⟨-, rn, -, -⟩ := acc_rows hB9
      have hn9' : b9 ∉ bt :: ownB v11 := hL11.ni hB9.raw (by decide) (by decide)
      have hni : ∀ b, b ∉ bt :: ownB v → b < w10.heap.size → b ∉ bt :: ownB v11 := fun b h1 h2 hm => by
        rcases List.mem_cons.1 hm with e | e
        · exact h1 (e ▸ List.mem_cons_self)
        · rcases hv11 b (ownB_mem e) with h | h
          · exact h1 (List.mem_cons_of_mem _ h)
          · omega
      repeat (first|apply cA|apply cB|apply cD|apply cE|apply cF|apply cG|apply cH|apply cJ|apply cM|apply cU|refine cV rfl ?_|apply cY|refine cZ rfl rfl rfl rfl (by first|((first|apply qep|apply qmv|apply qas|apply qlc|apply qla|apply qfa|apply qix|apply qpk|apply qls|apply qei|apply qni|apply qad|apply qln|apply qgt|apply qxt|apply qnt|apply qep|apply qnb)<;>(first|exact rfl|assumption|exact Ar.mk (by omega)|exact dct (by first|assumption|omega)|exact dcf (by first|assumption|omega)|exact List.not_mem_nil|apply dc_length|apply ec_length|apply dl_length|apply acc_length|exact nm1 (by omega)|fail))|fail) ?_)
      refine SG.call rfl rfl rfl (vs := [.pointer (some ⟨bt, 0, none⟩), .int .i64 x.now]) (by repeat' (first | exact True.intro | exact rho_of rfl | refine And.intro ?_ ?_)) ((pmatch2 x.now hL11 (by omega) hW11).mono (fun e w12 hh => ?_))
      obtain ⟨ae, ce, au, cu, v12, he, hk12, -, -, -⟩ := hh
      refine ⟨_, he, ?_⟩
      have hLc12 : Lob w6.heap.size w12 bc room vc m := ⟨hLc11.blk.kp hk12 (hni bc hnc hbcl), own_kp hLc11.own hk12 (fun b hb => hni b (hnv b hb) (hvl b hb))⟩
      have hB7 := hB7.kp hk12 (hL11.ni hB7.raw (by decide) (by decide))
      have hS12 := hS11.kpN hk12 (hL11.niT hT11)
      have hT12 := hT11.kp hk12 (hL11.niT hT11)
      have hB9 := hB9.kp hk12 hn9'
      have k12 := hL11.kp2 hP10.hbt k11 hk12
      repeat (first|apply cA|apply cB|apply cD|apply cE|apply cF|apply cG|apply cH|apply cJ|apply cM|apply cU|refine cV rfl ?_|apply cY|refine cZ rfl rfl rfl rfl (by first|((first|apply qep|apply qmv|apply qas|apply qlc|apply qla|apply qfa|apply qix|apply qpk|apply qls|apply qei|apply qni|apply qad|apply qln|apply qgt|apply qxt|apply qnt|apply qep|apply qnb)<;>(first|exact rfl|assumption|exact Ar.mk (by omega)|exact dct (by first|assumption|omega)|exact dcf (by first|assumption|omega)|exact List.not_mem_nil|apply dc_length|apply ec_length|apply dl_length|apply acc_length|exact nm1 (by omega)|fail))|fail) ?_)
      exact NG.cut ⟨bc, vc, m, aR, cR, by (repeat' (first | exact True.intro | exact rfl | refine And.intro ?_ ?_)), k12, ⟨⟨hLc12.blk, own_mono hLc12.own k6.size⟩, Nat.le_trans k6.size hbc, hB7, hP6.h7, hS12, hP6.cap, hT12, hP6.wait, hP6.most⟩, hB9⟩
    · repeat (first|apply cA|apply cB|apply cD|apply cE|apply cF|apply cG|apply cH|apply cJ|apply cM|apply cU|refine cV rfl ?_|apply cY|refine cZ rfl rfl rfl rfl (by first|((first|apply qep|apply qmv|apply qas|apply qlc|apply qla|apply qfa|apply qix|apply qpk|apply qls|apply qei|apply qni|apply qad|apply qln|apply qgt|apply qxt|apply qnt|apply qep|apply qnb)<;>(first|exact rfl|assumption|exact Ar.mk (by omega)|exact dct (by first|assumption|omega)|exact dcf (by first|assumption|omega)|exact List.not_mem_nil|apply dc_length|apply ec_length|apply dl_length|apply acc_length|exact nm1 (by omega)|fail))|fail) ?_)
      refine dE rfl (by exact rho_of rfl) rfl ?_
      repeat (first|apply cA|apply cB|apply cD|apply cE|apply cF|apply cG|apply cH|apply cJ|apply cM|apply cU|refine cV rfl ?_|apply cY|refine cZ rfl rfl rfl rfl (by first|((first|apply qep|apply qmv|apply qas|apply qlc|apply qla|apply qfa|apply qix|apply qpk|apply qls|apply qei|apply qni|apply qad|apply qln|apply qgt|apply qxt|apply qnt|apply qep|apply qnb)<;>(first|exact rfl|assumption|exact Ar.mk (by omega)|exact dct (by first|assumption|omega)|exact dcf (by first|assumption|omega)|exact List.not_mem_nil|apply dc_length|apply ec_length|apply dl_length|apply acc_length|exact nm1 (by omega)|fail))|fail) ?_)
      refine dE rfl (by exact rho_of rfl) rfl ?_
      repeat (first|apply cA|apply cB|apply cD|apply cE|apply cF|apply cG|apply cH|apply cJ|apply cM|apply cU|refine cV rfl ?_|apply cY|refine cZ rfl rfl rfl rfl (by first|((first|apply qep|apply qmv|apply qas|apply qlc|apply qla|apply qfa|apply qix|apply qpk|apply qls|apply qei|apply qni|apply qad|apply qln|apply qgt|apply qxt|apply qnt|apply qep|apply qnb)<;>(first|exact rfl|assumption|exact Ar.mk (by omega)|exact dct (by first|assumption|omega)|exact dcf (by first|assumption|omega)|exact List.not_mem_nil|apply dc_length|apply ec_length|apply dl_length|apply acc_length|exact nm1 (by omega)|fail))|fail) ?_)
      refine dE rfl (by exact rho_of rfl) rfl ?_
      repeat (first|apply cA|apply cB|apply cD|apply cE|apply cF|apply cG|apply cH|apply cJ|apply cM|apply cU|refine cV rfl ?_|apply cY|refine cZ rfl rfl rfl rfl (by first|((first|apply qep|apply qmv|apply qas|apply qlc|apply qla|apply qfa|apply qix|apply qpk|apply qls|apply qei|apply qni|apply qad|apply qln|apply qgt|apply qxt|apply qnt|apply qep|apply qnb)<;>(first|exact rfl|assumption|exact Ar.mk (by omega)|exact dct (by first|assumption|omega)|exact dcf (by first|assumption|omega)|exact List.not_mem_nil|apply dc_length|apply ec_length|apply dl_length|apply acc_length|exact nm1 (by omega)|fail))|fail) ?_)
      refine dE rfl (by exact rho_of rfl) rfl ?_
      repeat (first|apply cA|apply cB|apply cD|apply cE|apply cF|apply cG|apply cH|apply cJ|apply cM|apply cU|refine cV rfl ?_|apply cY|refine cZ rfl rfl rfl rfl (by first|((first|apply qep|apply qmv|apply qas|apply qlc|apply qla|apply qfa|apply qix|apply qpk|apply qls|apply qei|apply qni|apply qad|apply qln|apply qgt|apply qxt|apply qnt|apply qep|apply qnb)<;>(first|exact rfl|assumption|exact Ar.mk (by omega)|exact dct (by first|assumption|omega)|exact dcf (by first|assumption|omega)|exact List.not_mem_nil|apply dc_length|apply ec_length|apply dl_length|apply acc_length|exact nm1 (by omega)|fail))|fail) ?_)
      exact NG.cut ⟨bt, v, m, aR, cR, by (repeat' (first | exact True.intro | exact rfl | refine And.intro ?_ ?_)), k6, hP6, hB9⟩
  clear hP6 hB9 hml rk rn ro2 rw2 hn9 k6 k46 hk4
  rintro L w7 ⟨bt, v, m, aR, cR, hLL, hk7, hP7, hB9⟩
  refine CG.to _ hLL ?_
  have hml : m.length ≤ 256 := by have := hP7.most; omega
  obtain ⟨-, rn, -, -⟩ := acc_rows hB9
  obtain ⟨-, -, r2⟩ := lv_rows hP7.blk
  have hpa := fun now W (h : Kp [] w7 W) => pall_S now (hP7.lob.kp0 h) (by omega)
  have hra := fun now W (h : Kp [] w7 W) => rall_S (c := cR) room now (hP7.sl.kp0 h) (by omega)
  have hlf : ∀ now, ∀ y ∈ lateL now m, y.Fit := fun now y hy => (hP7.wait.ok y ((lateL_sub now m).subset hy)).fit
  have hll := fun now => lateL_le now m
  have hls := fun now w (a a' : Option Addr) (c c' : Nat) (h1 : Sl ec 21 w a (lateL now m)) (h2 : Sl ec 21 w a' (lateL now m)) => lsame_spec (c := c) (c' := c') h1 h2 (by have := hll now; omega) (hlf now)
  repeat (first|apply cA|apply cB|apply cD|apply cE|apply cF|apply cG|apply cH|apply cJ|apply cM|apply cU|refine cV rfl ?_|apply cY|refine cZ rfl rfl rfl rfl (by first|((first|apply qep|apply qmv|apply qas|apply qlc|apply qla|apply qfa|apply qix|apply qpk|apply qls|apply qei|apply qni|apply qad|apply qln|apply qgt|apply qxt|apply qnt|apply qep|apply qnb)<;>(first|exact rfl|assumption|exact Ar.mk (by omega)|exact dct (by first|assumption|omega)|exact dcf (by first|assumption|omega)|exact List.not_mem_nil|apply dc_length|apply ec_length|apply dl_length|apply acc_length|exact nm1 (by omega)|fail))|fail) ?_)
  refine CG.draw0 mixed [0, 1, 2, 4, 5, 6, 3, 7, 8, 9, 10, 11, 13, 12, 14, 15, 16, 17] [3, 7, 12, 14] (by kernel_rfl) ?_
  repeat (first | refine dB rfl rfl rfl (by first|((first|apply qep|apply qmv|apply qas|apply qlc|apply qla|apply qfa|apply qix|apply qpk|apply qls|apply qei|apply qni|apply qad|apply qln|apply qgt|apply qxt|apply qnt|apply qep|apply qnb)<;>(first|exact rfl|assumption|exact Ar.mk (by omega)|exact dct (by first|assumption|omega)|exact dcf (by first|assumption|omega)|exact List.not_mem_nil|apply dc_length|apply ec_length|apply dl_length|apply acc_length|exact nm1 (by omega)|fail))|fail) ?_ | refine Der.skip rfl rfl ?_)
  refine Der.callS (lateL x.now m) rfl rfl rfl rfl (vs := [.pointer (some ⟨bt, 0, none⟩), .int .i64 x.now]) (by repeat' (first | exact True.intro | exact rho_of rfl | refine And.intro ?_ ?_)) stabT (fun W hk _ => hpa x.now W hk) (fun a1 c1 => ?_)
  refine Der.callS (lateL x.now m) rfl rfl rfl rfl (vs := [lv room (.slice aR m.length cR), .int .i64 x.now]) (by repeat' (first | exact True.intro | exact rho_of rfl | refine And.intro ?_ ?_)) (stabS stabT) (fun W hk _ => hra x.now W hk) (fun a2 c2 => ?_)
  refine Der.call (vs := [.slice a1 (lateL x.now m).length c1, .slice a2 (lateL x.now m).length c2]) rfl rfl rfl (by repeat' (first | exact True.intro | exact rho_of rfl | refine And.intro ?_ ?_)) (fun W hk hF => hls x.now W a1 a2 c1 c2 hF.1.2.sl hF.2.sl) ?_
  repeat (first | refine dB rfl rfl rfl (by first|((first|apply qep|apply qmv|apply qas|apply qlc|apply qla|apply qfa|apply qix|apply qpk|apply qls|apply qei|apply qni|apply qad|apply qln|apply qgt|apply qxt|apply qnt|apply qep|apply qnb)<;>(first|exact rfl|assumption|exact Ar.mk (by omega)|exact dct (by first|assumption|omega)|exact dcf (by first|assumption|omega)|exact List.not_mem_nil|apply dc_length|apply ec_length|apply dl_length|apply acc_length|exact nm1 (by omega)|fail))|fail) ?_ | refine Der.skip rfl rfl ?_)
  refine Der.callS (lateL 0 m) rfl rfl rfl rfl (vs := [.pointer (some ⟨bt, 0, none⟩), .int .i64 0]) (by repeat' (first | exact True.intro | exact rho_of rfl | refine And.intro ?_ ?_)) (stabS (stabS stabT)) (fun W hk _ => hpa 0 W hk) (fun a3 c3 => ?_)
  refine Der.callS (lateL 0 m) rfl rfl rfl rfl (vs := [lv room (.slice aR m.length cR), .int .i64 0]) (by repeat' (first | exact True.intro | exact rho_of rfl | refine And.intro ?_ ?_)) (stabS (stabS (stabS stabT))) (fun W hk _ => hra 0 W hk) (fun a4 c4 => ?_)
  refine Der.call (vs := [.slice a3 (lateL 0 m).length c3, .slice a4 (lateL 0 m).length c4]) rfl rfl rfl (by repeat' (first | exact True.intro | exact rho_of rfl | refine And.intro ?_ ?_)) (fun W hk hF => hls 0 W a3 a4 c3 c4 hF.1.2.sl hF.2.sl) ?_
  repeat (first | refine dB rfl rfl rfl (by first|((first|apply qep|apply qmv|apply qas|apply qlc|apply qla|apply qfa|apply qix|apply qpk|apply qls|apply qei|apply qni|apply qad|apply qln|apply qgt|apply qxt|apply qnt|apply qep|apply qnb)<;>(first|exact rfl|assumption|exact Ar.mk (by omega)|exact dct (by first|assumption|omega)|exact dcf (by first|assumption|omega)|exact List.not_mem_nil|apply dc_length|apply ec_length|apply dl_length|apply acc_length|exact nm1 (by omega)|fail))|fail) ?_ | refine Der.skip rfl rfl ?_)
  refine Der.fin (fun w8 hk8 _ _ => ?_)
  have hP8 := hP7.kp0 hk8
  repeat (first|apply cA|apply cB|apply cD|apply cE|apply cF|apply cG|apply cH|apply cJ|apply cM|apply cU|refine cV rfl ?_|apply cY|refine cZ rfl rfl rfl rfl (by first|((first|apply qep|apply qmv|apply qas|apply qlc|apply qla|apply qfa|apply qix|apply qpk|apply qls|apply qei|apply qni|apply qad|apply qln|apply qgt|apply qxt|apply qnt|apply qep|apply qnb)<;>(first|exact rfl|assumption|exact Ar.mk (by omega)|exact dct (by first|assumption|omega)|exact dcf (by first|assumption|omega)|exact List.not_mem_nil|apply dc_length|apply ec_length|apply dl_length|apply acc_length|exact nm1 (by omega)|fail))|fail) ?_)
  refine dE rfl (by exact rho_of rfl) rfl ?_
  repeat (first|apply cA|apply cB|apply cD|apply cE|apply cF|apply cG|apply cH|apply cJ|apply cM|apply cU|refine cV rfl ?_|apply cY|refine cZ rfl rfl rfl rfl (by first|((first|apply qep|apply qmv|apply qas|apply qlc|apply qla|apply qfa|apply qix|apply qpk|apply qls|apply qei|apply qni|apply qad|apply qln|apply qgt|apply qxt|apply qnt|apply qep|apply qnb)<;>(first|exact rfl|assumption|exact Ar.mk (by omega)|exact dct (by first|assumption|omega)|exact dcf (by first|assumption|omega)|exact List.not_mem_nil|apply dc_length|apply ec_length|apply dl_length|apply acc_length|exact nm1 (by omega)|fail))|fail) ?_)
  refine NG.round (((bt, v), (m, aR, cR)), i + 1) (by (repeat' (first | exact True.intro | exact rfl | refine And.intro ?_ ?_))) ⟨by simp only; omega, by simp only; omega, hk7.trans hk8, hP8⟩ (by simp only; omega)
end Go.Proofs.YtnoipmimddoioaaGreat
namespace Go.Proofs.YtnoipmimddoioaaGreat
open Go.ChangeShapes Go.WideShapes Go.ChangeAt Go.RowKit
set_option linter.unusedVariables false
theorem cellsA : Tryz.prog.cellsOf 35 = 23 := by kernel_rfl
set_option maxRecDepth 100000 in
theorem acn_of {H : Type} {enc : TypeId × Value → H} {w : World} {cs : List Value} {fuel : Nat} {y : DataW H × List MemPlace} (h : DataW.trod enc Tryz.prog w 0 (fun _ => true) true fuel 35 cs = some y) : ∃ x : Acn, cs = acc x := by
  obtain ⟨xs, m, _, _, hl, hlen, hf⟩ := DataW.trod_struct Tryz.underlying35 h
  rw [cellsA] at hl
  match xs, hlen with
  | [y0, y1, y2], _ =>
    have h0 : DataW.trod enc Tryz.prog w 0 (fun _ => true) true m 3 ((cs.drop 0).take (Tryz.prog.cellsOf 3)) = some y0 := hf 0 _ rfl
    have h1 : DataW.trod enc Tryz.prog w 0 (fun _ => true) true m 3 ((cs.drop 1).take (Tryz.prog.cellsOf 3)) = some y1 := hf 1 _ rfl
    have h2 : DataW.trod enc Tryz.prog w 0 (fun _ => true) true m 33 ((cs.drop 2).take (Tryz.prog.cellsOf 33)) = some y2 := hf 2 _ rfl
    rw [cells3] at h0 h1
    rw [cellsO] at h2
    obtain ⟨n0, e0, _, _⟩ := DataW.trod_int Tryz.underlying3 h0
    obtain ⟨n1, e1, _, _⟩ := DataW.trod_int Tryz.underlying3 h1
    obtain ⟨o, e2⟩ := ofc_of h2
    refine ⟨⟨n0, n1, o⟩, ?_⟩
    have hd : cs.drop (2 + 21) = [] := List.drop_of_length_le (by omega)
    have e : cs = cs.drop 0 := rfl
    rw [e, cut_drop cs 0 1, e0, cut_drop cs (0 + 1) 1, e1, cut_drop cs (0 + 1 + 1) 21, e2, hd]
    simp [acc]
theorem acns_of {H : Type} {enc : TypeId × Value → H} {w : World} {a : Option Addr} {n : Nat} (h : SlOf enc Tryz.prog w 35 a n) : ∃ l : List Acn, l.length = n ∧ Sl acc 23 w a l := by
  obtain ⟨l, h1, h2, h3⟩ := elems_of acc (fun _ => True) h (fun cs fuel y hy => by
    obtain ⟨o, e⟩ := acn_of hy
    exact ⟨o, e, trivial⟩)
  rw [cellsA] at h2
  exact ⟨l, h1, h2⟩
end Go.Proofs.YtnoipmimddoioaaGreat

namespace Go.Proofs.YtnoipmimddoioaaGreat
open Go.ChangeShapes Go.WideShapes Go.ChangeAt Go.RowKit
set_option linter.unusedVariables false
set_option maxRecDepth 100000 in
theorem lobbyPlays_lifted (os : Os) (started : os.Started) (H : Type) (enc : TypeId × Value → H) :
    ReturnsInHanded {} Tryz.checked os 3 .any (Rows.lobbyPlaysSpec.pre6 enc Tryz.prog Tryz.f3 Rows.lobbyPlaysRow.domain false) (Rows.lobbyPlaysSpec.post enc Tryz.prog Tryz.f3 false true false false) := by
  refine returnsInHanded_of_change (C := Tryz.checked) own started (by kernel_rfl) Tryz.func3
    (ChangeSpec.witness6 (enc := enc) (C := Tryz.checked) false ⟨#[], #[.int .i64 0, .slice none 0 0], []⟩ 8 (by kernel_rfl) (by kernel_rfl) (by kernel_rfl) (by kernel_rfl)) ?_
  intro W base args ds gs before hval0 hW hcnd _
  have hval : ∀ (j : Nat) t v, Tryz.f3.params[j]? = some t → args[j]? = some v → Value.okWide Tryz.prog W .any base t v := hval0
  have hW' : DataW.Whole enc Tryz.prog Tryz.f3.params.toList Rows.lobbyPlaysSpec.vars false W args.toList ds gs before := hW
  obtain ⟨p, q, hA0, hV, rfl, hfz, hnd⟩ := hW
  have hA : DataW.TrodAll enc Tryz.prog W 0 (fun _ => true) true Tryz.f3.params.toList args.toList ds p := hA0
  rw [Tryz.params3] at hA hval
  obtain ⟨v0, v1, d0, d1, p0, p1, rfl, rfl, rfl, h0, h1⟩ := trodAll_two hA
  obtain ⟨x0, rfl, hd0, _, wf0⟩ := open_int Tryz.underlying3 (hval 0 3 v0 rfl rfl) h0
  obtain ⟨a1, n1, c1, rfl, hn1, hc1, hs1⟩ := open_sl Tryz.underlying22 (by rw [cellsA]; omega) (hval 1 22 v1 rfl rfl) h1
  obtain ⟨l1, hl1⟩ := acns_of hs1
  refine (plays_walk W x0 a1 n1 c1 l1 hl1 hn1 hc1).mono fun e W' ⟨he, hk⟩ => ⟨_, he, ?_⟩
  exact law_post laidOut (by rw [Tryz.params3]; exact of_decide_eq_true (by kernel_rfl)) rfl hW' rfl (by kernel_rfl) Tryz.underlying4 hk
theorem lobbyPlays_holds : Rows.LobbyPlaysSaid :=
  OpenClaim.holds_of_wide 3 Tryz.f3 rfl rfl rfl rfl rfl rfl rfl ⟨rfl, rfl, rfl, rfl, rfl⟩ rfl rfl rfl rfl rfl (by kernel_rfl) Tryz.func3 (by kernel_rfl)
    (of_decide_eq_true (by kernel_rfl)) (by unfold Func.isWrapper; first | (rw [if_pos (by decide +kernel)]; kernel_rfl) | (rw [if_neg (by decide +kernel)]; exact ⟨rfl, rfl⟩))
    (fun os started H enc _ => lobbyPlays_lifted os started H enc)
end Go.Proofs.YtnoipmimddoioaaGreat
