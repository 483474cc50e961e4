import Derived.Test.YtajllbdeoopimaaGreatQp4
namespace Go.Proofs.YtajllbdeoopimaaGreat
set_option linter.unusedVariables false
/-- A purse with a neighbour, as the document has it. -/
structure Wi where
  peer : Dg
  p : Pu
  a : Option Addr
  c : Nat
  side : Int
def Wi.s (x : Wi) : Value := .slice x.a x.p.held.length x.c
def Wi.ps (x : Wi) : Ps := (x.p, x.side)
def Wi.kv (x : Wi) : Dg × Ps := (x.peer, x.ps)
def wic (x : Wi) : List Value := dc x.peer ++ (pc x.p x.s ++ [.int .i64 x.side])
theorem wic_length (x : Wi) : (wic x).length = 21 := by simp [wic, pc_length, dc_length]
theorem wic_one (x : Wi) : allOne (wic x) = true := by simp [wic, allOne, pc, dc, oneB, Wi.s]
structure Wi.In (x : Wi) (w : World) : Prop where
  sl : Sl hc 11 w x.a x.p.held
  cap : x.p.held.length ≤ x.c
  ty : Ty 84 w x.a x.p.held
theorem Wi.In.kp0 {x : Wi} {w w' : World} (h : x.In w) (hk : Kp [] w w') : x.In w' := ⟨h.sl.kp0 hk, h.cap, h.ty.kp0 hk⟩
/-- What is written stands in a block of another kind. -/
theorem Wi.In.kp {x : Wi} {w w' : World} {z : Nat} {cs : Array Value} {T : TypeId} (h : x.In w) (hk : Kp [z] w w') (hz : Blk w z (.cells cs T)) (hT : T ≠ 84) : x.In w' :=
  ⟨h.sl.kpN hk (fun hn b off e => nm1 (h.ty.ne hn hz hT b off e)), h.cap, h.ty.kp hk (fun hn b off e => nm1 (h.ty.ne hn hz hT b off e))⟩
def dhc (win : Int) (sL sP : Value) : List Value := [.int .i64 win, sL, sP]
theorem dhc_length (win : Int) (sL sP : Value) : (dhc win sL sP).length = 3 := rfl
def dhv (win : Int) (sL sP : Value) : Value := .agg (dhc win sL sP).toArray
theorem dhc_rows {w : World} {b : Nat} {T : TypeId} {win : Int} {sL sP : Value} (h : Blk w b (.cells (dhc win sL sP).toArray T)) : Row w b 0 [.int .i64 win] ∧ Row w b 1 [sL] ∧ Row w b 2 [sP] ∧ Row w b 0 (dhc win sL sP) :=
  ⟨Row.of h [] [sL, sP] rfl rfl, Row.of h [.int .i64 win] [sP] rfl rfl, Row.of h [.int .i64 win, sL] [] rfl rfl, Row.all h rfl⟩
theorem wic_rowsO {w : World} {b off : Nat} {x : Wi} (h : Row w b off (wic x)) : Row w b off (dc x.peer) ∧ Row w b (off + 8) (pc x.p x.s) ∧ Row w b (off + 20) [.int .i64 x.side] := by
  have l1 : (dc x.peer).length = 8 := dc_length _
  have h1 := h.part [] (dc x.peer) (pc x.p x.s ++ [.int .i64 x.side]) (by simp [wic])
  have h2 := h.part (dc x.peer) (pc x.p x.s) [.int .i64 x.side] (by simp [wic])
  have h3 := h.part (dc x.peer ++ pc x.p x.s) [.int .i64 x.side] [] (by simp [wic])
  rw [l1] at h2
  have e3 : (dc x.peer ++ pc x.p x.s).length = 20 := by simp [pc_length, l1]
  rw [e3] at h3
  exact ⟨h1, h2, h3⟩
def idxZ {α : Type} (f : α → Bool) (l : List α) : Int := if l.findIdx f < l.length then (l.findIdx f : Int) else -1
theorem Row.at1 {w : World} {b off i : Nat} {l : List Value} {v : Value} (h : Row w b off l) (hv : l[i]? = some v) : Row w b (off + i * 1) [v] := by
  obtain ⟨cs, T, f, h1, h2⟩ := h
  refine ⟨cs, T, f, h1, fun j u hu => ?_⟩
  cases j with
  | zero =>
    simp at hu
    subst hu
    rw [Nat.mul_one]
    exact h2 i v hv
  | succ j => simp at hu
theorem dc_get {a : Dg} {i : Nat} (hi : i < 8) : (dc a)[i]? = some (bv (a.1[i]'(by rw [a.2]; exact hi))) := by
  unfold dc
  rw [List.getElem?_map, List.getElem?_eq_getElem (by rw [a.2]; exact hi)]
  rfl
theorem vl_app (p q : List UInt8) : vl (p ++ q) = vl p * 256 ^ q.length + vl q := by
  show (p ++ q).foldl _ 0 = _
  rw [List.foldl_append, vl_go]
  rfl
theorem dkey_first {a b : Dg} {i : Nat} (hi : i < 8) (ht : a.1.take i = b.1.take i) (hne : a.1[i]'(by rw [a.2]; exact hi) ≠ b.1[i]'(by rw [b.2]; exact hi)) : dkey a < dkey b ↔ (a.1[i]'(by rw [a.2]; exact hi)).toNat < (b.1[i]'(by rw [b.2]; exact hi)).toNat := by
  have ha : i < a.1.length := by rw [a.2]; exact hi
  have hb : i < b.1.length := by rw [b.2]; exact hi
  have e1 : a.1 = a.1.take i ++ a.1[i] :: a.1.drop (i + 1) := by rw [← List.drop_eq_getElem_cons ha, List.take_append_drop]
  have e2 : b.1 = a.1.take i ++ b.1[i] :: b.1.drop (i + 1) := by rw [ht, ← List.drop_eq_getElem_cons hb, List.take_append_drop]
  have k1 : dkey a = vl (a.1.take i ++ a.1[i] :: a.1.drop (i + 1)) := congrArg vl e1
  have k2 : dkey b = vl (a.1.take i ++ b.1[i] :: b.1.drop (i + 1)) := congrArg vl e2
  have hl : (a.1.drop (i + 1)).length = (b.1.drop (i + 1)).length := by rw [List.length_drop, List.length_drop, a.2, b.2]
  have l1 := vl_lt (a.1.drop (i + 1))
  have l2 := vl_lt (b.1.drop (i + 1))
  rw [k1, k2, vl_app, vl_app, vl_cons, vl_cons, List.length_cons, List.length_cons, hl]
  rw [hl] at l1
  have hne2 : a.1[i].toNat ≠ b.1[i].toNat := fun e => hne (UInt8.toNat_inj.1 e)
  constructor
  · intro h
    refine Nat.lt_of_not_le (fun h2 => ?_)
    have := mul_gap (y := vl (a.1.drop (i + 1))) (show b.1[i].toNat < a.1[i].toNat by omega) l2
    omega
  · intro h
    have := mul_gap (y := vl (b.1.drop (i + 1))) h l1
    omega
theorem bytes_ne {x y : UInt8} : (x.toNat : Int) = (y.toNat : Int) ↔ x = y := ⟨fun h => UInt8.toNat_inj.1 (by omega), fun h => by rw [h]⟩
attribute [local irreducible] CG NG SG Vals Der Row Blk MapIs IterAt chkL DerX
set_option maxHeartbeats 8000000 in
theorem rless_spec (a b : Dg) (w : World) : Ret Tryz.prog 58 #[dv a, dv b] w (.bool (decide (dkey a < dkey b))) := by
  refine enter2 Tryz.func58 rfl Tryz.ntmps58 rfl ?_
  repeat (first|apply cA|apply cB)
  refine SG.box rfl rfl rfl (by exact rho_of rfl) (fun b2 w1 hk1 hb2 hB2 => ?_)
  refine SG.box rfl rfl rfl (by exact rho_of rfl) (fun b3 w2 hk2 hb3 hB3 => ?_)
  have hB2 : Blk w2 b2 (.cells (dc a).toArray 32) := hB2.kp0 hk2
  have hB3 : Blk w2 b3 (.cells (dc b).toArray 32) := hB3
  have k2 := hk1.trans hk2
  repeat (first|apply cA|apply cB|apply cD|apply cE|apply cG|refine cV rfl rfl rfl rfl (by first|(apply qas<;>(exact rfl))|fail) ?_)
  refine CG.loop (X := Nat) (fun i => [(2, .pointer (some ⟨b2, 0, none⟩)), (3, .pointer (some ⟨b3, 0, none⟩)), (5, .int .i64 (i : Int))]) (fun i w' => i ≤ 8 ∧ Kp [] w2 w' ∧ a.1.take i = b.1.take i) (fun i => 8 - i) 0 ⟨Nat.zero_le _, Kp.refl _ _, rfl⟩ (by (repeat' (first | exact True.intro | exact rfl | refine And.intro ?_ ?_))) ?_
  rintro i w3 ⟨hi, hk3, ht⟩
  by_cases hlt : i < 8
  · have g1 : (i : Int) < 8 := by omega
    have ha : i < a.1.length := by rw [a.2]; exact hlt
    have hb : i < b.1.length := by rw [b.2]; exact hlt
    have q2 := ((Row.all hB2 rfl).kp0 hk3).at1 (dc_get (a := a) hlt)
    have q3 := ((Row.all hB3 rfl).kp0 hk3).at1 (dc_get (a := b) hlt)
    have hfirst := dkey_first (a := a) (b := b) hlt ht
    repeat (first|apply cA|apply cB|apply cD|apply cE|refine cV rfl rfl rfl rfl (by first|((first|apply qmv|apply qls)<;>(first|exact rfl|exact dct (by first|assumption|omega)|fail))|fail) ?_)
    refine dA rfl (by exact rho_of rfl) rfl ?_
    by_cases he : a.1[i] = b.1[i]
    · have he2 : ((a.1[i].toNat : Nat) : Int) = (b.1[i].toNat : Int) := by rw [he]
      repeat (first|apply cA|apply cE|apply cF|apply cG)
      refine CG.draw0 mixed [0, 1, 2, 3, 4, 5, 6] [] (by kernel_rfl) ?_
      repeat (refine cY rfl rfl rfl (by first|((first|apply qni|apply qia|apply qmv|apply qlc|apply qni)<;>(first|exact rfl|assumption|exact Ar.mk (by omega)|exact dct (by first|assumption|omega)|exact List.not_mem_nil|fail))|fail) ?_)
      refine Der.fin (fun w4 hk4 _ _ => ?_)
      repeat (first|apply cE)
      refine dB rfl (by exact rho_of rfl) rfl ?_
      repeat (first|apply cB|apply cD|apply cE|apply cF|apply cU|refine cV rfl rfl rfl rfl (by first|((first|apply qmv|apply qas|apply qad)<;>(first|exact rfl|exact Ar.mk (by omega)|fail))|fail) ?_)
      refine NG.round (i + 1) (by (repeat' (first | exact True.intro | exact rfl | refine And.intro ?_ ?_))) ⟨by omega, hk3.trans hk4, ?_⟩ (by omega)
      rw [List.take_succ_eq_append_getElem ha, List.take_succ_eq_append_getElem hb, ht, he]
    · have he2 : ¬ ((a.1[i].toNat : Nat) : Int) = (b.1[i].toNat : Int) := fun h => he (bytes_ne.1 h)
      repeat (first|apply cA|apply cE|apply cF|apply cG)
      refine CG.draw0 mixed [0, 1, 2, 3, 4, 5, 6] [] (by kernel_rfl) ?_
      repeat (refine cY rfl rfl rfl (by first|((first|apply qni|apply qia|apply qmv|apply qlc|apply qni)<;>(first|exact rfl|assumption|exact Ar.mk (by omega)|exact dcf (by first|assumption|omega)|exact List.not_mem_nil|fail))|fail) ?_)
      refine Der.fin (fun w4 hk4 _ _ => ?_)
      have q2 := q2.kp0 hk4
      have q3 := q3.kp0 hk4
      by_cases hl : a.1[i].toNat < b.1[i].toNat
      · have hl2 : ((a.1[i].toNat : Nat) : Int) < (b.1[i].toNat : Int) := by omega
        rw [decide_eq_true ((hfirst he).2 hl)]
        repeat (first|apply cE)
        refine dA rfl (by exact rho_of rfl) rfl ?_
        repeat (first|apply cA)
        refine CG.draw0 mixed [0, 1, 2, 3, 4, 5, 6, 7] [] (by kernel_rfl) ?_
        repeat (refine cY rfl rfl rfl (by first|((first|apply qia|apply qmv|apply qas|apply qlc|apply qls)<;>(first|exact rfl|assumption|exact Ar.mk (by omega)|exact dct (by first|assumption|omega)|exact List.not_mem_nil|fail))|fail) ?_)
        refine Der.fin (fun w5 hk5 _ _ => ?_)
        repeat (first|apply cE|apply cH|apply cK|apply NG.ret_block)
        refine ret1 (Or.inl rfl) Tryz.results58 (by first | exact ResV.tmp rfl | exact ResV.agg rfl rfl (by assumption) (by first | exact dc_length _ | exact nc_length _ | exact rc_length _ _ _ | exact ec_length _ | exact dl_length _ _ _ _ | rfl) | exact ResV.cell rfl rfl (by assumption)) ?_
        exact ⟨rfl, ((k2.trans hk3).trans hk4).trans hk5⟩
      · have hl2 : ¬ ((a.1[i].toNat : Nat) : Int) < (b.1[i].toNat : Int) := by omega
        rw [decide_eq_false (fun h => hl ((hfirst he).1 h))]
        repeat (first|apply cE)
        refine dA rfl (by exact rho_of rfl) rfl ?_
        repeat (first|apply cA)
        refine CG.draw0 mixed [0, 1, 2, 3, 4, 5, 6, 7] [] (by kernel_rfl) ?_
        repeat (refine cY rfl rfl rfl (by first|((first|apply qia|apply qmv|apply qas|apply qlc|apply qls)<;>(first|exact rfl|assumption|exact Ar.mk (by omega)|exact dcf (by first|assumption|omega)|exact List.not_mem_nil|fail))|fail) ?_)
        refine Der.fin (fun w5 hk5 _ _ => ?_)
        repeat (first|apply cE|apply cH|apply cK|apply NG.ret_block)
        refine ret1 (Or.inl rfl) Tryz.results58 (by first | exact ResV.tmp rfl | exact ResV.agg rfl rfl (by assumption) (by first | exact dc_length _ | exact nc_length _ | exact rc_length _ _ _ | exact ec_length _ | exact dl_length _ _ _ _ | rfl) | exact ResV.cell rfl rfl (by assumption)) ?_
        exact ⟨rfl, ((k2.trans hk3).trans hk4).trans hk5⟩
  · have g1 : ¬ (i : Int) < 8 := by omega
    have e : a = b := Subtype.ext (by rw [List.take_of_length_le (by rw [a.2]; omega), List.take_of_length_le (by rw [b.2]; omega)] at ht; exact ht)
    rw [decide_eq_false (by rw [e]; exact Nat.lt_irrefl _)]
    repeat (first|apply cA|apply cB|apply cD|apply cE|refine cV rfl rfl rfl rfl (by first|((first|apply qmv|apply qls)<;>(first|exact rfl|exact dcf (by first|assumption|omega)|fail))|fail) ?_)
    refine dB rfl (by exact rho_of rfl) rfl ?_
    repeat (first|apply cA|apply cB|apply cD|apply cE|apply cH|apply cJ|apply cM|refine cN rfl ?_|refine cV rfl rfl rfl rfl (by first|(apply qas<;>(exact rfl))|fail) ?_)
    refine ret1 (Or.inl rfl) Tryz.results58 (by first | exact ResV.tmp rfl | exact ResV.agg rfl rfl (by assumption) (by first | exact dc_length _ | exact nc_length _ | exact rc_length _ _ _ | exact ec_length _ | exact dl_length _ _ _ _ | rfl) | exact ResV.cell rfl rfl (by assumption)) ?_
    exact ⟨rfl, k2.trans hk3⟩
set_option maxHeartbeats 8000000 in
theorem rfind_spec {w : World} {win : Int} {aL aP : Option Addr} {cL cP : Nat} {L : List Wi} {P : List Pr} (n : Dg) (hS : Sl wic 21 w aL L) (hl : L.length ≤ 100000) : Ret Tryz.prog 15 #[dhv win (.slice aL L.length cL) (.slice aP P.length cP), dv n] w (.int .i64 (idxZ (fun x => decide (x.peer = n)) L)) := by
  refine enter2 Tryz.func15 rfl Tryz.ntmps15 rfl ?_
  repeat (first|apply cA|apply cB)
  refine SG.box rfl rfl rfl (by exact rho_of rfl) (fun b2 w1 hk1 hb2 hB2 => ?_)
  refine SG.box rfl rfl rfl (by exact rho_of rfl) (fun b3 w2 hk2 hb3 hB3 => ?_)
  have hB2 : Blk w2 b2 (.cells (dhc win (.slice aL L.length cL) (.slice aP P.length cP)).toArray 31) := hB2.kp0 hk2
  have hB3 : Blk w2 b3 (.cells (dc n).toArray 32) := hB3
  have hR3 : Row w2 b3 0 (dc n) := Row.all hB3 rfl
  obtain ⟨-, r1, r2, -⟩ := dhc_rows hB2
  repeat (first|apply cA|apply cB|apply cD|apply cE|apply cG|refine cV rfl rfl rfl rfl (by first|(apply qas<;>(exact rfl))|fail) ?_)
  refine CG.loop (X := Nat) (fun i => [(2, .pointer (some ⟨b2, 0, none⟩)), (3, .pointer (some ⟨b3, 0, none⟩)), (5, .int .i64 (i : Int))]) (fun i w' => i ≤ L.length ∧ Kp [] w2 w' ∧ i ≤ L.findIdx (fun x => decide (x.peer = n))) (fun i => L.length - i) 0 ⟨Nat.zero_le _, Kp.refl _ _, Nat.zero_le _⟩ (by (repeat' (first | exact True.intro | exact rfl | refine And.intro ?_ ?_))) ?_
  rintro i w3 ⟨hi, hk3, hpl⟩
  have hR3 := hR3.kp0 hk3
  have r1 := r1.kp0 hk3
  have r2 := r2.kp0 hk3
  by_cases hlt : i < L.length
  · have g1 : (i : Int) < (L.length : Int) := by omega
    obtain ⟨ba, oa, rfl, hri⟩ := (hS.kp0 ((hk1.trans hk2).trans hk3)).at hlt
    have hr0 : Row w3 ba (oa + i * 21) (dc L[i].peer) := hri.part [] (dc L[i].peer) (pc L[i].p L[i].s ++ [.int .i64 L[i].side]) (by simp [wic])
    clear hri
    repeat (first|apply cA|apply cB|apply cD|apply cE|refine cV rfl rfl rfl rfl (by first|((first|apply qmv|apply qlc|apply qfa|apply qls|apply qln)<;>(first|exact rfl|assumption|exact dct (by first|assumption|omega)|exact List.not_mem_nil|fail))|fail) ?_)
    refine dA rfl (by exact rho_of rfl) rfl ?_
    by_cases he : L[i].peer = n
    · have hpi : L.findIdx (fun x => decide (x.peer = n)) = i := by
        refine Nat.le_antisymm ?_ hpl
        refine Nat.not_lt.1 (fun h => ?_)
        have := List.not_of_lt_findIdx (p := fun x => decide (x.peer = n)) (xs := L) (i := i) h
        simp [he] at this
      have e : idxZ (fun x => decide (x.peer = n)) L = (i : Int) := by
        unfold idxZ
        rw [if_pos (by omega), hpi]
      rw [e]
      repeat (first|apply cA|apply cE|apply cF|apply cG)
      refine CG.draw0 mixed [0, 1, 2, 3, 4, 5, 6, 7] [] (by kernel_rfl) ?_
      repeat (refine cY rfl rfl rfl (by first|((first|apply qmv|apply qlc|apply qla|apply qfa|apply qix|apply qed)<;>(first|exact rfl|assumption|exact Ar.mk (by omega)|exact dct (by first|assumption|omega)|exact List.not_mem_nil|apply dc_length|fail))|fail) ?_)
      refine Der.fin (fun w4 hk4 _ _ => ?_)
      repeat (first|apply cE)
      refine dA rfl (by exact rho_of rfl) rfl ?_
      repeat (first|apply cA|apply cB|apply cD|apply cE|apply cH|apply cK|apply NG.ret_block|refine cV rfl rfl rfl rfl (by first|((first|apply qmv|apply qas)<;>(exact rfl))|fail) ?_)
      refine ret1 (Or.inl rfl) Tryz.results15 (by first | exact ResV.tmp rfl | exact ResV.agg rfl rfl (by assumption) (by first | exact dc_length _ | exact nc_length _ | exact rc_length _ _ _ | exact ec_length _ | exact dl_length _ _ _ _ | rfl) | exact ResV.cell rfl rfl (by assumption)) ?_
      exact ⟨rfl, ((hk1.trans hk2).trans hk3).trans hk4⟩
    · repeat (first|apply cA|apply cE|apply cF|apply cG)
      refine CG.draw0 mixed [0, 1, 2, 3, 4, 5, 6, 7] [] (by kernel_rfl) ?_
      repeat (refine cY rfl rfl rfl (by first|((first|apply qmv|apply qlc|apply qla|apply qfa|apply qix|apply qed)<;>(first|exact rfl|assumption|exact Ar.mk (by omega)|exact dcf (by first|assumption|omega)|exact List.not_mem_nil|apply dc_length|fail))|fail) ?_)
      refine Der.fin (fun w4 hk4 _ _ => ?_)
      repeat (first|apply cE)
      refine dB rfl (by exact rho_of rfl) rfl ?_
      repeat (first|apply cB|apply cD|apply cE|apply cF|apply cU|refine cV rfl rfl rfl rfl (by first|((first|apply qmv|apply qas|apply qad)<;>(first|exact rfl|exact Ar.mk (by omega)|fail))|fail) ?_)
      refine NG.round (i + 1) (by (repeat' (first | exact True.intro | exact rfl | refine And.intro ?_ ?_))) ⟨by omega, hk3.trans hk4, ?_⟩ (by omega)
      refine Nat.lt_of_le_of_ne hpl (fun h => he ?_)
      have hlt2 : L.findIdx (fun x => decide (x.peer = n)) < L.length := by omega
      have h3 := of_decide_eq_true (List.findIdx_getElem (p := fun x => decide (x.peer = n)) (xs := L) (w := hlt2))
      have h4 : L[L.findIdx (fun x => decide (x.peer = n))]'hlt2 = L[i] := by congr 1; exact h.symm
      rw [← h4]
      exact h3
  · have g1 : ¬ (i : Int) < (L.length : Int) := by omega
    have e : idxZ (fun x => decide (x.peer = n)) L = -1 := if_neg (by omega)
    rw [e]
    repeat (first|apply cA|apply cB|apply cD|apply cE|refine cV rfl rfl rfl rfl (by first|((first|apply qmv|apply qlc|apply qfa|apply qls|apply qln)<;>(first|exact rfl|assumption|exact dcf (by first|assumption|omega)|exact List.not_mem_nil|fail))|fail) ?_)
    refine dB rfl (by exact rho_of rfl) rfl ?_
    repeat (first|apply cA|apply cB|apply cD|apply cE|apply cH|apply cJ|apply cM|refine cN rfl ?_|refine cV rfl rfl rfl rfl (by first|(apply qas<;>(exact rfl))|fail) ?_)
    refine ret1 (Or.inl rfl) Tryz.results15 (by first | exact ResV.tmp rfl | exact ResV.agg rfl rfl (by assumption) (by first | exact dc_length _ | exact nc_length _ | exact rc_length _ _ _ | exact ec_length _ | exact dl_length _ _ _ _ | rfl) | exact ResV.cell rfl rfl (by assumption)) ?_
    exact ⟨rfl, (hk1.trans hk2).trans hk3⟩
set_option maxHeartbeats 8000000 in
theorem rnamed_spec {w : World} {win : Int} {aL aP : Option Addr} {cL cP : Nat} {L : List Wi} {P : List Pr} (n : Dg) (hS : Sl prc 27 w aP P) (hl : P.length ≤ 100000) : Ret Tryz.prog 55 #[dhv win (.slice aL L.length cL) (.slice aP P.length cP), dv n] w (.int .i64 (idxZ (fun x => decide (x.name = n)) P)) := by
  refine enter2 Tryz.func55 rfl Tryz.ntmps55 rfl ?_
  repeat (first|apply cA|apply cB)
  refine SG.box rfl rfl rfl (by exact rho_of rfl) (fun b2 w1 hk1 hb2 hB2 => ?_)
  refine SG.box rfl rfl rfl (by exact rho_of rfl) (fun b3 w2 hk2 hb3 hB3 => ?_)
  have hB2 : Blk w2 b2 (.cells (dhc win (.slice aL L.length cL) (.slice aP P.length cP)).toArray 31) := hB2.kp0 hk2
  have hB3 : Blk w2 b3 (.cells (dc n).toArray 32) := hB3
  have hR3 : Row w2 b3 0 (dc n) := Row.all hB3 rfl
  obtain ⟨-, r1, r2, -⟩ := dhc_rows hB2
  repeat (first|apply cA|apply cB|apply cD|apply cE|apply cG|refine cV rfl rfl rfl rfl (by first|(apply qas<;>(exact rfl))|fail) ?_)
  refine CG.loop (X := Nat) (fun i => [(2, .pointer (some ⟨b2, 0, none⟩)), (3, .pointer (some ⟨b3, 0, none⟩)), (5, .int .i64 (i : Int))]) (fun i w' => i ≤ P.length ∧ Kp [] w2 w' ∧ i ≤ P.findIdx (fun x => decide (x.name = n))) (fun i => P.length - i) 0 ⟨Nat.zero_le _, Kp.refl _ _, Nat.zero_le _⟩ (by (repeat' (first | exact True.intro | exact rfl | refine And.intro ?_ ?_))) ?_
  rintro i w3 ⟨hi, hk3, hpl⟩
  have hR3 := hR3.kp0 hk3
  have r1 := r1.kp0 hk3
  have r2 := r2.kp0 hk3
  by_cases hlt : i < P.length
  · have g1 : (i : Int) < (P.length : Int) := by omega
    obtain ⟨ba, oa, rfl, hri⟩ := (hS.kp0 ((hk1.trans hk2).trans hk3)).at hlt
    have hr0 : Row w3 ba (oa + i * 27) (dc P[i].name) := hri.part [] (dc P[i].name) (dc P[i].frm ++ (dc P[i].to ++ [.int .i64 P[i].amt, .int .i64 P[i].inn, .int .i64 P[i].out])) (by simp [prc])
    clear hri
    repeat (first|apply cA|apply cB|apply cD|apply cE|refine cV rfl rfl rfl rfl (by first|((first|apply qmv|apply qlc|apply qfa|apply qls|apply qln)<;>(first|exact rfl|assumption|exact dct (by first|assumption|omega)|exact List.not_mem_nil|fail))|fail) ?_)
    refine dA rfl (by exact rho_of rfl) rfl ?_
    by_cases he : P[i].name = n
    · have hpi : P.findIdx (fun x => decide (x.name = n)) = i := by
        refine Nat.le_antisymm ?_ hpl
        refine Nat.not_lt.1 (fun h => ?_)
        have := List.not_of_lt_findIdx (p := fun x => decide (x.name = n)) (xs := P) (i := i) h
        simp [he] at this
      have e : idxZ (fun x => decide (x.name = n)) P = (i : Int) := by
        unfold idxZ
        rw [if_pos (by omega), hpi]
      rw [e]
      repeat (first|apply cA|apply cE|apply cF|apply cG)
      refine CG.draw0 mixed [0, 1, 2, 3, 4, 5, 6, 7] [] (by kernel_rfl) ?_
      repeat (refine cY rfl rfl rfl (by first|((first|apply qmv|apply qlc|apply qla|apply qfa|apply qix|apply qed)<;>(first|exact rfl|assumption|exact Ar.mk (by omega)|exact dct (by first|assumption|omega)|exact List.not_mem_nil|apply dc_length|fail))|fail) ?_)
      refine Der.fin (fun w4 hk4 _ _ => ?_)
      repeat (first|apply cE)
      refine dA rfl (by exact rho_of rfl) rfl ?_
      repeat (first|apply cA|apply cB|apply cD|apply cE|apply cH|apply cK|apply NG.ret_block|refine cV rfl rfl rfl rfl (by first|((first|apply qmv|apply qas)<;>(exact rfl))|fail) ?_)
      refine ret1 (Or.inl rfl) Tryz.results55 (by first | exact ResV.tmp rfl | exact ResV.agg rfl rfl (by assumption) (by first | exact dc_length _ | exact nc_length _ | exact rc_length _ _ _ | exact ec_length _ | exact dl_length _ _ _ _ | rfl) | exact ResV.cell rfl rfl (by assumption)) ?_
      exact ⟨rfl, ((hk1.trans hk2).trans hk3).trans hk4⟩
    · repeat (first|apply cA|apply cE|apply cF|apply cG)
      refine CG.draw0 mixed [0, 1, 2, 3, 4, 5, 6, 7] [] (by kernel_rfl) ?_
      repeat (refine cY rfl rfl rfl (by first|((first|apply qmv|apply qlc|apply qla|apply qfa|apply qix|apply qed)<;>(first|exact rfl|assumption|exact Ar.mk (by omega)|exact dcf (by first|assumption|omega)|exact List.not_mem_nil|apply dc_length|fail))|fail) ?_)
      refine Der.fin (fun w4 hk4 _ _ => ?_)
      repeat (first|apply cE)
      refine dB rfl (by exact rho_of rfl) rfl ?_
      repeat (first|apply cB|apply cD|apply cE|apply cF|apply cU|refine cV rfl rfl rfl rfl (by first|((first|apply qmv|apply qas|apply qad)<;>(first|exact rfl|exact Ar.mk (by omega)|fail))|fail) ?_)
      refine NG.round (i + 1) (by (repeat' (first | exact True.intro | exact rfl | refine And.intro ?_ ?_))) ⟨by omega, hk3.trans hk4, ?_⟩ (by omega)
      refine Nat.lt_of_le_of_ne hpl (fun h => he ?_)
      have hlt2 : P.findIdx (fun x => decide (x.name = n)) < P.length := by omega
      have h3 := of_decide_eq_true (List.findIdx_getElem (p := fun x => decide (x.name = n)) (xs := P) (w := hlt2))
      have h4 : P[P.findIdx (fun x => decide (x.name = n))]'hlt2 = P[i] := by congr 1; exact h.symm
      rw [← h4]
      exact h3
  · have g1 : ¬ (i : Int) < (P.length : Int) := by omega
    have e : idxZ (fun x => decide (x.name = n)) P = -1 := if_neg (by omega)
    rw [e]
    repeat (first|apply cA|apply cB|apply cD|apply cE|refine cV rfl rfl rfl rfl (by first|((first|apply qmv|apply qlc|apply qfa|apply qls|apply qln)<;>(first|exact rfl|assumption|exact dcf (by first|assumption|omega)|exact List.not_mem_nil|fail))|fail) ?_)
    refine dB rfl (by exact rho_of rfl) rfl ?_
    repeat (first|apply cA|apply cB|apply cD|apply cE|apply cH|apply cJ|apply cM|refine cN rfl ?_|refine cV rfl rfl rfl rfl (by first|(apply qas<;>(exact rfl))|fail) ?_)
    refine ret1 (Or.inl rfl) Tryz.results55 (by first | exact ResV.tmp rfl | exact ResV.agg rfl rfl (by assumption) (by first | exact dc_length _ | exact nc_length _ | exact rc_length _ _ _ | exact ec_length _ | exact dl_length _ _ _ _ | rfl) | exact ResV.cell rfl rfl (by assumption)) ?_
    exact ⟨rfl, (hk1.trans hk2).trans hk3⟩
theorem bs0L (w : World) : (Instr.buildSlice 28 0 #[]).run Tryz.prog w = .ok (.slice (some ⟨w.heap.size, 0, none⟩) 0 0) { w with heap := w.heap.push (.cells #[] 98) } := by kernel_rfl
theorem bs0P (w : World) : (Instr.buildSlice 29 0 #[]).run Tryz.prog w = .ok (.slice (some ⟨w.heap.size, 0, none⟩) 0 0) { w with heap := w.heap.push (.cells #[] 102) } := by kernel_rfl
theorem dhc_set1 (win : Int) (s t v : Value) : spl (dhc win s t) 1 [v] = dhc win v t := rfl
theorem dhc_set2 (win : Int) (s t v : Value) : spl (dhc win s t) 2 [v] = dhc win s v := rfl
set_option maxHeartbeats 16000000 in
theorem rcopies_spec {w : World} {win : Int} {aL aP : Option Addr} {cL cP : Nat} {L : List Wi} {P : List Pr} (hS : Sl wic 21 w aL L) (hT : Sl prc 27 w aP P) (hl : L.length ≤ 1000) (hp : P.length ≤ 1000) : Calls Tryz.prog 57 #[dhv win (.slice aL L.length cL) (.slice aP P.length cP)] w (fun e w' => ∃ vL vP, e = .returned (dhv win vL vP) ∧ w'.ownsRow w.heap.size 98 21 vL L.length (flt wic L) ∧ w'.ownsRow w.heap.size 102 27 vP P.length (flt prc P) ∧ Kp [] w w') := by
  refine enter1 Tryz.func57 rfl Tryz.ntmps57 rfl ?_
  repeat (first|apply cA|apply cB)
  refine SG.box rfl rfl rfl (by exact rho_of rfl) (fun b1 w1 hk1 hb1 hB1 => ?_)
  have hB1 : Blk w1 b1 (.cells (dhc win (.slice aL L.length cL) (.slice aP P.length cP)).toArray 31) := hB1
  refine SG.alloc rfl rfl rfl (fun b2 w2 hk2 hb2 hB2 => ?_)
  have l1 := hB1.lt
  have hB1 := hB1.kp0 hk2
  have k2 := hk1.trans hk2
  have s1 := hk1.size
  have s2 := hk2.size
  have l2 := hB2.lt
  obtain ⟨-, r1, -, -⟩ := dhc_rows hB1
  repeat (first|apply cA|apply cB|apply cD|apply cE)
  refine SG.buildSlice rfl rfl rfl rfl bs0L (fun b0 w3 hk3 hb0 hB0 => ?_)
  have r1 := r1.kp0 hk3
  repeat (first|refine cV rfl rfl rfl rfl (by first|((first|apply qlc|apply qfa)<;>(first|exact rfl|assumption|exact List.not_mem_nil))|fail) ?_)
  refine SG.cloneO (enc := wic) (l := L) (m := w1.heap.size) rfl rfl rfl wic_length wic_one (by exact rho_of rfl) (by exact rho_of rfl) rfl rfl rfl (by simp only [maxLen]; omega) (by show L.length * 72 ≤ _; omega) (by omega) ((hS.kp0 k2).kp0 hk3) hB0 (fun vL w4 hk4 hoL => ?_)
  obtain ⟨a4, c4, rfl, _, _⟩ := Sl.own wic_length hoL rfl
  have k24 := hk3.trans hk4
  have hB14 := hB1.kp0 k24
  clear r1
  repeat (first|refine cV rfl rfl rfl rfl (by first|(apply qfa<;>(exact rfl))|fail) ?_)
  refine SG.store rfl rfl (by exact rho_of rfl) (by exact rho_of rfl) hB14 rfl (by show 0 + 1 + 1 ≤ _; simp [dhc_length]) rfl (fun w5 hk5 hB15 => ?_)
  have hB15 : Blk w5 b1 (.cells (spl (dhc win (.slice aL L.length cL) (.slice aP P.length cP)) 1 [.slice a4 L.length c4]).toArray 31) := hB15
  rw [dhc_set1] at hB15
  have hoL5 := own_kp hoL hk5 (own_neb hoL (by decide) hB14)
  have k5 : Kp [] w w5 := (k2.trans k24).trans_new hk5 (new1 (by omega))
  obtain ⟨-, -, r2, -⟩ := dhc_rows hB15
  have s5 := (k24.any.trans hk5).size
  repeat (first|apply cA|apply cB|apply cD|apply cE)
  refine SG.buildSlice rfl rfl rfl rfl bs0P (fun b6 w6 hk6 hb6 hB6 => ?_)
  have r2 := r2.kp0 hk6
  repeat (first|refine cV rfl rfl rfl rfl (by first|((first|apply qlc|apply qfa)<;>(first|exact rfl|assumption|exact List.not_mem_nil))|fail) ?_)
  refine SG.cloneO (enc := prc) (l := P) (m := w1.heap.size) rfl rfl rfl prc_length prc_one (by exact rho_of rfl) (by exact rho_of rfl) rfl rfl rfl (by simp only [maxLen]; omega) (by show P.length * 48 ≤ _; omega) (by omega) ((hT.kp0 k5).kp0 hk6) hB6 (fun vP w7 hk7 hoP => ?_)
  obtain ⟨a7, c7, rfl, _, _⟩ := Sl.own prc_length hoP rfl
  have k57 := hk6.trans hk7
  have hB17 := hB15.kp0 k57
  have hoL7 := own_kp0 hoL5 k57
  clear r2
  repeat (first|refine cV rfl rfl rfl rfl (by first|(apply qfa<;>(exact rfl))|fail) ?_)
  refine SG.store rfl rfl (by exact rho_of rfl) (by exact rho_of rfl) hB17 rfl (by show 0 + 2 + 1 ≤ _; simp [dhc_length]) rfl (fun w8 hk8 hB18 => ?_)
  have hB18 : Blk w8 b1 (.cells (spl (dhc win (.slice a4 L.length c4) (.slice aP P.length cP)) 2 [.slice a7 P.length c7]).toArray 31) := hB18
  rw [dhc_set2] at hB18
  have hoL8 := own_kp hoL7 hk8 (own_neb hoL7 (by decide) hB17)
  have hoP8 := own_kp hoP hk8 (own_neb hoP (by decide) hB17)
  have k8 : Kp [] w w8 := (k5.trans k57).trans_new hk8 (new1 (by omega))
  obtain ⟨-, -, -, r3⟩ := dhc_rows hB18
  have hB28 := (((hB2.kp0 k24).kp hk5 (nm1 (by omega))).kp0 k57).kp hk8 (nm1 (by omega))
  repeat (first|apply cA|apply cB|apply cD|apply cE|refine cV rfl rfl rfl rfl (by first|(apply qla<;>(first|exact rfl|assumption|exact List.not_mem_nil))|fail) ?_)
  refine SG.setAll (l := dhc win (.slice a4 L.length c4) (.slice a7 P.length c7)) rfl rfl (by exact rho_of rfl) (by exact rho_of rfl) hB28 rfl rfl rfl (fun w9 hk9 hB29 => ?_)
  have hr : Row w9 b2 0 (dhc win (.slice a4 L.length c4) (.slice a7 P.length c7)) := Row.all hB29 rfl
  have hoL9 := own_kp hoL8 hk9 (own_neb hoL8 (by decide) hB28)
  have hoP9 := own_kp hoP8 hk9 (own_neb hoP8 (by decide) hB28)
  repeat (first|apply cD|apply cE|apply cH)
  refine ret1 (Or.inl rfl) Tryz.results57 (ResV.agg rfl rfl hr rfl) ?_
  exact ⟨_, _, rfl, own_mono hoL9 s1, own_mono hoP9 s1, k8.trans_new hk9 (new1 (by omega))⟩
set_option maxHeartbeats 16000000 in
theorem rwithout_spec {w : World} {win : Int} {aL aP : Option Addr} {cL cP nL : Nat} {P : List Pr} {k : Nat} (hT : Sl prc 27 w aP P) (hp : P.length ≤ 1000) (hcap : P.length ≤ cP) (hk : k < P.length) : Calls Tryz.prog 60 #[dhv win (.slice aL nL cL) (.slice aP P.length cP), .int .i64 (k : Int)] w (fun e w' => ∃ vP, e = .returned (dhv win (.slice aL nL cL) vP) ∧ w'.ownsRow w.heap.size 102 27 vP (P.take k ++ P.drop (k + 1)).length (flt prc (P.take k ++ P.drop (k + 1))) ∧ Kp [] w w') := by
  refine enter2 Tryz.func60 rfl Tryz.ntmps60 rfl ?_
  repeat (first|apply cA|apply cB)
  refine SG.box rfl rfl rfl (by exact rho_of rfl) (fun b2 w1 hk1 hb2 hB2 => ?_)
  have hB2 : Blk w1 b2 (.cells (dhc win (.slice aL nL cL) (.slice aP P.length cP)).toArray 31) := hB2
  refine SG.alloc rfl rfl rfl (fun b4 w2 hk2 hb4 hB4 => ?_)
  have l2 := hB2.lt
  have hB2 := hB2.kp0 hk2
  have k2 := hk1.trans hk2
  have s1 := hk1.size
  have s2 := hk2.size
  have l4 := hB4.lt
  obtain ⟨-, -, r2, -⟩ := dhc_rows hB2
  have hT2 := hT.kp0 k2
  obtain ⟨ba, oa, rfl, -⟩ := hT2.at hk
  have hSt := hT2.take k
  have hSf := hT2.fromJ (j := k + 1) hcap
  have hlt : (P.take k).length = k := by rw [List.length_take]; omega
  have hld : (P.drop (k + 1)).length = P.length - (k + 1) := List.length_drop
  have g7 : (k : Int) < (P.length : Int) := by omega
  repeat (first|apply cA|apply cD|apply cE)
  refine CG.free mixed 11 [1, 2, 3, 4, 6, 7, 8, 9, 10, 0, 5] [(0, gE w2.heap.size 102), (5, gO w2.heap.size 102 prc 27 (P.take k))] (by kernel_rfl) (by intro q hq y; simp at hq; rcases hq with rfl | rfl; exact gE_stab y; exact gO_stab y) ?_
  repeat (refine cZ rfl rfl rfl rfl (by first|((first|apply qto|apply qmv|apply qlc|apply qfa|apply qad|apply qto)<;>(first|exact rfl|assumption|exact Ar.mk (by omega)|exact List.not_mem_nil|fail))|fail) ?_)
  refine cZ rfl rfl rfl rfl (qfr (j := k + 1) rfl rfl rfl ⟨by omega⟩) ?_
  refine DerX.empty rfl rfl rfl (Nat.le_refl _) (fun b0 => ?_)
  refine DerX.cloneO (a := some ⟨ba, oa, none⟩) (c := cP) (P.take k) prc_length prc_one rfl rfl rfl rfl (by exact rho_of rfl) (by rw [hlt]; exact rho_of rfl) rfl rfl rfl (by simp only [maxLen]; omega) (by show (P.take k).length * 48 ≤ _; omega) (fun W hk hF => ⟨hSt.kp0 hk, hF _ (.head _) (by kernel_rfl)⟩) (fun v => ?_)
  refine DerX.tl (fun w3 hk3 hF => ?_)
  have ho : w3.ownsRow w2.heap.size 102 27 v (P.take k).length (flt prc (P.take k)) := hF _ (.head _)
  have hB23 := hB2.kp0 hk3
  have hB43 := hB4.kp0 hk3
  clear hF r2
  refine SG.appO (enc := prc) (xs := P.take k) (ys := P.drop (k + 1)) (base := w2.heap.size) rfl rfl rfl (by exact rho_of rfl) (by exact rho_of rfl) (by rw [hld]) rfl rfl rfl prc_length prc_one ho (hSf.kp0 hk3) (by rw [hld]; simp only [maxLen]; omega) (by rw [hlt, hld]; show (k + (P.length - (k + 1))) * 48 ≤ _; omega) hk3.size (fun v9 w4 hk4 ho4 _ => ?_)
  have hB24 := hB23.kp hk4 (fun hm => own_neb ho (by decide) hB23 b2 (ownB_mem hm) (by simp))
  have hB44 := hB43.kp hk4 (fun hm => by have := own_geB ho _ (ownB_mem hm); omega)
  obtain ⟨a9, c9, rfl, _, _⟩ := Sl.own prc_length ho4 rfl
  repeat (first|refine cV rfl rfl rfl rfl (by first|(apply qfa<;>(exact rfl))|fail) ?_)
  refine SG.store rfl rfl (by exact rho_of rfl) (by exact rho_of rfl) hB24 rfl (by show 0 + 2 + 1 ≤ _; simp [dhc_length]) rfl (fun w5 hk5 hB25 => ?_)
  have hB25 : Blk w5 b2 (.cells (spl (dhc win (.slice aL nL cL) (.slice (some ⟨ba, oa, none⟩) P.length cP)) 2 [.slice a9 (P.take k ++ P.drop (k + 1)).length c9]).toArray 31) := hB25
  rw [dhc_set2] at hB25
  have ho5 := own_kp ho4 hk5 (own_neb ho4 (by decide) hB24)
  have hB45 := hB44.kp hk5 (nm1 (by omega))
  obtain ⟨-, -, -, r3⟩ := dhc_rows hB25
  have k5 : Kp [] w w5 := ((k2.trans hk3).trans_new hk4 (own_new ho k2.size)).trans_new hk5 (new1 (by omega))
  repeat (first|apply cA|apply cB|apply cD|apply cE|refine cV rfl rfl rfl rfl (by first|(apply qla<;>(first|exact rfl|assumption|exact List.not_mem_nil))|fail) ?_)
  refine SG.setAll (l := dhc win (.slice aL nL cL) (.slice a9 (P.take k ++ P.drop (k + 1)).length c9)) rfl rfl (by exact rho_of rfl) (by exact rho_of rfl) hB45 rfl rfl rfl (fun w6 hk6 hB46 => ?_)
  have hr : Row w6 b4 0 (dhc win (.slice aL nL cL) (.slice a9 (P.take k ++ P.drop (k + 1)).length c9)) := Row.all hB46 rfl
  have ho6 := own_kp ho5 hk6 (own_neb ho5 (by decide) hB45)
  repeat (first|apply cD|apply cE|apply cH)
  refine ret1 (Or.inl rfl) Tryz.results60 (ResV.agg rfl rfl hr rfl) ?_
  exact ⟨_, rfl, own_mono ho6 k2.size, k5.trans_new hk6 (new1 (by omega))⟩
end Go.Proofs.YtajllbdeoopimaaGreat
namespace Go.Proofs.YtajllbdeoopimaaGreat
set_option linter.unusedVariables false
section
variable {ν : Type}
/-- S is l, sorted by the keys; no key twice. -/
structure Srt (S l : List (Dg × ν)) : Prop where
  perm : S.Perm l
  lt : S.Pairwise (fun a b => dkey a.1 < dkey b.1)
theorem Srt.nil : Srt ([] : List (Dg × ν)) [] := ⟨List.Perm.refl _, List.Pairwise.nil⟩
theorem Srt.nd {S l : List (Dg × ν)} (h : Srt S l) : (l.map (·.1)).Nodup := by
  have h1 : (S.map (·.1)).Nodup := by
    rw [List.nodup_iff_pairwise_ne, List.pairwise_map]
    exact h.lt.imp (fun h e => by rw [e] at h; omega)
  exact (h.perm.map (·.1)).nodup_iff.1 h1
theorem Srt.ndS {S l : List (Dg × ν)} (h : Srt S l) : (S.map (·.1)).Nodup := (h.perm.map (·.1)).nodup_iff.2 h.nd
theorem Srt.look {S l : List (Dg × ν)} (h : Srt S l) (k : Dg) : alook l k = alook S k := by
  cases e : alook S k with
  | none => exact alook_none.2 (fun p hp => alook_none.1 e p (h.perm.mem_iff.2 hp))
  | some v => exact alook_of_mem (p := (k, v)) h.nd (h.perm.mem_iff.1 (alook_mem e))
/-- Where a key stands. -/
theorem look_split {k : Dg} {v : ν} : ∀ {l : List (Dg × ν)}, alook l k = some v → ∃ X Y, l = X ++ (k, v) :: Y ∧ (∀ p ∈ X, p.1 ≠ k) ∧ ∀ v', aput l k v' = X ++ (k, v') :: Y
  | [], h => by cases h
  | (k', u) :: l, h => by
    simp only [alook] at h
    by_cases e : k' = k
    · rw [if_pos e] at h
      cases h
      subst e
      exact ⟨[], l, rfl, fun p hp => (by cases hp), fun v' => (by simp [aput])⟩
    · rw [if_neg e] at h
      obtain ⟨X, Y, h1, h2, h3⟩ := look_split h
      refine ⟨(k', u) :: X, Y, by rw [h1]; rfl, fun p hp => ?_, fun v' => ?_⟩
      · rcases List.mem_cons.1 hp with rfl | hp
        · exact e
        · exact h2 p hp
      · simp only [aput]
        rw [if_neg e, h3]
        rfl
theorem perm_mid {α : Type} {A B X Y : List α} {x : α} (h : (A ++ x :: B).Perm (X ++ x :: Y)) : (A ++ B).Perm (X ++ Y) :=
  (List.perm_middle.symm.trans (h.trans List.perm_middle)).cons_inv
theorem Srt.put {A B l : List (Dg × ν)} {k : Dg} {v : ν} (h : Srt (A ++ (k, v) :: B) l) (v' : ν) : Srt (A ++ (k, v') :: B) (aput l k v') := by
  have hl : alook l k = some v := by
    rw [h.look]
    exact alook_of_mem (p := (k, v)) h.ndS (by simp)
  obtain ⟨X, Y, h1, h2, h3⟩ := look_split hl
  refine ⟨?_, ?_⟩
  · rw [h3]
    have hp := h.perm
    rw [h1] at hp
    exact List.perm_middle.trans (((perm_mid hp).cons _).trans List.perm_middle.symm)
  · have := h.lt
    rw [List.pairwise_append, List.pairwise_cons] at this ⊢
    exact ⟨this.1, this.2.1, fun a ha b hb => by
      rcases List.mem_cons.1 hb with rfl | hb
      · exact this.2.2 a ha (k, v) List.mem_cons_self
      · exact this.2.2 a ha b (List.mem_cons_of_mem _ hb)⟩
theorem Srt.del {A B l : List (Dg × ν)} {k : Dg} {v : ν} (h : Srt (A ++ (k, v) :: B) l) : Srt (A ++ B) (l.filter (fun q => decide (q.1 ≠ k))) := by
  refine ⟨?_, ?_⟩
  · have hp := h.perm.filter (fun q => decide (q.1 ≠ k))
    rw [List.filter_append, List.filter_cons_of_neg (by simp)] at hp
    have hlt := h.lt
    rw [List.pairwise_append, List.pairwise_cons] at hlt
    have e1 : A.filter (fun q => decide (q.1 ≠ k)) = A := List.filter_eq_self.2 (fun x hx => decide_eq_true (fun e => by
      have := hlt.2.2 x hx (k, v) List.mem_cons_self
      rw [e] at this
      exact absurd this (Nat.lt_irrefl _)))
    have e2 : B.filter (fun q => decide (q.1 ≠ k)) = B := List.filter_eq_self.2 (fun x hx => decide_eq_true (fun e => by
      have := hlt.2.1.1 x hx
      rw [e] at this
      exact absurd this (Nat.lt_irrefl _)))
    rw [e1, e2] at hp
    exact hp
  · have := h.lt
    rw [List.pairwise_append, List.pairwise_cons] at this
    rw [List.pairwise_append]
    exact ⟨this.1, this.2.1.2, fun a ha b hb => this.2.2 a ha b (List.mem_cons_of_mem _ hb)⟩
theorem Srt.ins {A B l : List (Dg × ν)} {k : Dg} (h : Srt (A ++ B) l) (hk : alook l k = none) (hA : ∀ a ∈ A, dkey a.1 < dkey k) (hB : ∀ b ∈ B, ¬ dkey b.1 < dkey k) (v : ν) : Srt (A ++ (k, v) :: B) (aput l k v) := by
  refine ⟨?_, ?_⟩
  · rw [aput_new v hk]
    exact List.perm_middle.trans ((h.perm.cons _).trans (List.perm_append_singleton _ _).symm)
  · have := h.lt
    rw [List.pairwise_append] at this
    rw [List.pairwise_append, List.pairwise_cons]
    have hB2 : ∀ b ∈ B, dkey k < dkey b.1 := fun b hb => by
      have h1 := hB b hb
      have h2 : dkey b.1 ≠ dkey k := fun e => alook_none.1 hk b (h.perm.mem_iff.1 (by simp [hb])) (dkey_inj _ _ e)
      omega
    exact ⟨this.1, ⟨hB2, this.2.1⟩, fun a ha b hb => by
      rcases List.mem_cons.1 hb with rfl | hb
      · exact hA a ha
      · exact this.2.2 a ha b hb⟩
end
/-- A place in a list whose keys are sorted. -/
theorem idx_of {α ν : Type} {f : α → Dg × ν} {L : List α} {l : List (Dg × ν)} (h : Srt (L.map f) l) (k : Dg) : (alook l k = none → idxZ (fun x => decide ((f x).1 = k)) L = -1) ∧ (∀ v, alook l k = some v → ∃ i, ∃ hi : i < L.length, idxZ (fun x => decide ((f x).1 = k)) L = (i : Int) ∧ f L[i] = (k, v)) := by
  constructor
  · intro hn
    refine if_neg (fun hlt => ?_)
    have h1 := List.findIdx_getElem (w := hlt)
    refine alook_none.1 hn (f (L[List.findIdx (fun x => decide ((f x).1 = k)) L]'hlt)) (h.perm.mem_iff.1 (List.mem_map_of_mem (List.getElem_mem hlt))) ?_
    exact of_decide_eq_true h1
  · intro v hv
    have hm : (k, v) ∈ L.map f := h.perm.mem_iff.2 (alook_mem hv)
    obtain ⟨x, hx, ex⟩ := List.mem_map.1 hm
    have hlt : L.findIdx (fun x => decide ((f x).1 = k)) < L.length := List.findIdx_lt_length.2 ⟨x, hx, decide_eq_true (by rw [ex])⟩
    refine ⟨_, hlt, if_pos hlt, ?_⟩
    have h1 := of_decide_eq_true (List.findIdx_getElem (w := hlt))
    have h2 : alook l k = some (f (L[List.findIdx (fun x => decide ((f x).1 = k)) L]'hlt)).2 := by
      have := alook_of_mem (p := f (L[List.findIdx (fun x => decide ((f x).1 = k)) L]'hlt)) h.nd (h.perm.mem_iff.1 (List.mem_map_of_mem (List.getElem_mem hlt)))
      rwa [h1] at this
    rw [hv] at h2
    have h3 := Option.some.inj h2
    exact Prod.ext h1 h3.symm
theorem split_at {α : Type} {L : List α} {i : Nat} (h : i < L.length) : L = L.take i ++ L[i] :: L.drop (i + 1) := by
  rw [← List.drop_eq_getElem_cons h, List.take_append_drop]
theorem srt_set {α ν : Type} {f : α → Dg × ν} {L : List α} {l : List (Dg × ν)} (h : Srt (L.map f) l) {i : Nat} (hi : i < L.length) {k : Dg} {v v' : ν} (he : f L[i] = (k, v)) {x : α} (hx : f x = (k, v')) : Srt ((L.set i x).map f) (aput l k v') := by
  rw [split_at hi, List.map_append, List.map_cons, he] at h
  rw [List.set_eq_take_append_cons_drop, if_pos hi, List.map_append, List.map_cons, hx]
  exact h.put v'
theorem srt_cut {α ν : Type} {f : α → Dg × ν} {L : List α} {l : List (Dg × ν)} (h : Srt (L.map f) l) {i : Nat} (hi : i < L.length) {k : Dg} {v : ν} (he : f L[i] = (k, v)) : Srt ((L.take i ++ L.drop (i + 1)).map f) (l.filter (fun q => decide (q.1 ≠ k))) := by
  rw [split_at hi, List.map_append, List.map_cons, he] at h
  rw [List.map_append]
  exact h.del
theorem srt_ins {α ν : Type} {f : α → Dg × ν} {L : List α} {l : List (Dg × ν)} (h : Srt (L.map f) l) {k : Dg} {v : ν} (hk : alook l k = none) {at' : Nat} (hA : ∀ j (hj : j < L.length), j < at' → dkey (f L[j]).1 < dkey k) (hB : at' < L.length → ∃ hj : at' < L.length, ¬ dkey (f L[at']).1 < dkey k) {x : α} (hx : f x = (k, v)) : Srt ((L.take at' ++ x :: L.drop at').map f) (aput l k v) := by
  rw [List.map_append, List.map_cons, hx]
  have h' := h
  rw [← List.take_append_drop at' L, List.map_append] at h'
  refine h'.ins hk (fun a ha => ?_) (fun b hb => ?_) v
  · obtain ⟨y, hy, rfl⟩ := List.mem_map.1 ha
    obtain ⟨j, hj, rfl⟩ := List.mem_iff_getElem.1 hy
    rw [List.length_take] at hj
    rw [List.getElem_take]
    exact hA j (by omega) (by omega)
  · obtain ⟨y, hy, rfl⟩ := List.mem_map.1 hb
    by_cases hlt : at' < L.length
    · obtain ⟨hj, hn⟩ := hB hlt
      rw [List.drop_eq_getElem_cons hlt] at hy
      rcases List.mem_cons.1 hy with rfl | hy
      · exact hn
      · have hp := h.lt
        rw [split_at hlt, List.map_append, List.map_cons, List.pairwise_append, List.pairwise_cons] at hp
        have := hp.2.1.1 (f y) (List.mem_map_of_mem hy)
        omega
    · rw [List.drop_of_length_le (by omega)] at hy
      cases hy
theorem srt_len {α ν : Type} {f : α → Dg × ν} {L : List α} {l : List (Dg × ν)} (h : Srt (L.map f) l) : L.length = l.length := by
  have := h.perm.length_eq
  simpa using this
end Go.Proofs.YtajllbdeoopimaaGreat
namespace Go.Proofs.YtajllbdeoopimaaGreat
set_option linter.unusedVariables false
/-- A part of an element of an owned row is written over. -/
theorem own_part {α : Type} {enc : α → List Value} {sz : Nat} {P : Program} {w : World} {base cap g n : Nat} {T T' : TypeId} {inf : TypeInfo} [f : Inf P T' inf] {l : List α} (he : ∀ x, (enc x).length = sz) (ho : w.ownsRow base T sz (.slice (some ⟨g, 0, none⟩) n cap) n (flt enc l)) (hn : l.length = n) {k : Nat} (hk : k < l.length) {y : α} {v : Value} (pre old new post : List Value) (hx : enc l[k] = pre ++ (old ++ post)) (hy : enc y = pre ++ (new ++ post)) (hlen : old.length = new.length) (hv : v.cells.toList = new) (hsz : new.length = inf.size) (hone : allOne new = true) :
    ∃ w', (Instr.storeAt T' (.pointer (some ⟨g, 0 + k * sz + pre.length, none⟩)) v).run P w = .ok () w' ∧ w'.ownsRow base T sz (.slice (some ⟨g, 0, none⟩) n cap) n (flt enc (l.set k y)) ∧ Kp [g] w w' := by
  rcases ho with ⟨h1, ⟨h2, _⟩ | ⟨g', cap', cur, h2, hb, hg, hc1, hc2, hc3, hc4⟩⟩
  · cases h2
  · cases h2
    have hB : Blk w g (.cells cur T) := hg
    have hxl := he l[k]
    rw [hx, List.length_append, List.length_append] at hxl
    have hlt : k * sz + sz ≤ n * sz := by
      have : (k + 1) * sz ≤ n * sz := Nat.mul_le_mul_right _ (by omega)
      rwa [Nat.add_mul, Nat.one_mul] at this
    have hle : n * sz ≤ cap * sz := Nat.mul_le_mul_right _ hc1
    have hrun := run_storeAt (P := P) (T := T') (off := 0 + k * sz + pre.length) (v := v) hB (by rw [hv]; exact hsz) (by rw [hv]; omega) (by rw [hv]; exact hone)
    rw [hv] at hrun
    refine ⟨_, hrun, ⟨by rw [flt_length he, List.length_set, hn], Or.inr ⟨g, cap, _, rfl, hb, hB.set _, hc1, hc2, ?_, ?_⟩⟩, Kp.set w hB rfl rfl⟩
    · have := spl_length (cs := cur.toList) (off := 0 + k * sz + pre.length) (l := new) (by simp; omega)
      rw [List.size_toArray, this]
      simpa using hc3
    · have hsplit : cur.toList = flt enc l ++ cur.toList.drop (n * sz) := by
        conv => lhs; rw [← List.take_append_drop (n * sz) cur.toList]
        rw [hc4]
      have h1 : cur.toList = (flt enc (l.take k) ++ pre) ++ (old ++ (post ++ (flt enc (l.drop (k + 1)) ++ cur.toList.drop (n * sz)))) := by
        conv => lhs; rw [hsplit, flt_split l k hk, hx]
        simp
      have h2 : (flt enc (l.take k) ++ pre).length = 0 + k * sz + pre.length := by
        rw [List.length_append, flt_length he, List.length_take, Nat.min_eq_left (by omega)]
        omega
      rw [List.toList_toArray, h1, ← h2, spl_mid hlen]
      have h3 : (flt enc (l.take k) ++ pre) ++ (new ++ (post ++ (flt enc (l.drop (k + 1)) ++ cur.toList.drop (n * sz)))) = flt enc (l.set k y) ++ cur.toList.drop (n * sz) := by
        rw [List.set_eq_take_append_cons_drop, if_pos hk, flt_append]
        have : flt enc (y :: l.drop (k + 1)) = enc y ++ flt enc (l.drop (k + 1)) := by simp [flt]
        rw [this, hy]
        simp
      rw [h3]
      refine (List.take_append_of_le_length ?_).trans (List.take_of_length_le ?_)
      · rw [flt_length he, List.length_set, hn]; exact Nat.le_refl _
      · rw [flt_length he, List.length_set, hn]; exact Nat.le_refl _
section
variable {P : Program} {α : Type} {enc : α → List Value} {sz m : Nat} {Q : Exit → Act → World → Prop} {ops rest : List Oper} {L : Env} {w : World} {ty : TypeId} {pos : String} {af : Array Edge} {q : Option (Nat × Bool)}
theorem SG.storeP {base cap g n o : Nat} {T T' : TypeId} {inf : TypeInfo} [f : Inf P T' inf] {l : List α} {a x : Operand} {y : α} {k : Nat} {v : Value} (pre old new post : List Value) (he : ∀ x, (enc x).length = sz) (hw : want ops L ⟨none, .store T' a x, ty, pos, af, q⟩ = some true) (hk : (known L a && known L x) = true)
    (ha : rho L a = .pointer (some ⟨g, o, none⟩)) (ho' : o = 0 + k * sz + pre.length) (hxv : rho L x = v) (ho : w.ownsRow base T sz (.slice (some ⟨g, 0, none⟩) n cap) n (flt enc l)) (hn : l.length = n) (hkl : k < l.length) (hx : enc l[k] = pre ++ (old ++ post)) (hy : enc y = pre ++ (new ++ post)) (hlen : old.length = new.length) (hv : v.cells.toList = new) (hsz : new.length = inf.size) (hone : allOne new = true)
    (h : ∀ w', Kp [g] w w' → w'.ownsRow base T sz (.slice (some ⟨g, 0, none⟩) n cap) n (flt enc (l.set k y)) → SG P m ops Q rest L w') : SG P m ops Q (⟨none, .store T' a x, ty, pos, af, q⟩ :: rest) L w := by
  subst ho'
  refine SG.op rfl rfl hw (by simpa [Op.operands] using hk) ?_
  obtain ⟨w', h1, h2, h3⟩ := own_part (P := P) (T' := T') (f := f) he ho hn hkl pre old new post hx hy hlen hv hsz hone
  unfold OpRun
  have : (execOp (rho L) ⟨none, .store T' a x, ty, pos, af, q⟩).run P w = .ok .skip w' := by
    simp only [execOp, hxv, ha, Sem.run_bind, h1, Result.andThen, Sem.run_pure]
  rw [this]
  exact h w' h3 h2
end
def Oka (a : Option Addr) (c : Nat) : Prop := (a = none ∧ c = 0) ∨ ∃ b o, a = some ⟨b, o, none⟩
theorem own_oka {w : World} {base n c sz : Nat} {T : TypeId} {a : Option Addr} {xs : List Value} (ho : w.ownsRow base T sz (.slice a n c) n xs) : Oka a c := by
  rcases ho.2 with ⟨h, _⟩ | ⟨g, cap, cur, h, _⟩
  · cases h
    exact Or.inl ⟨rfl, rfl⟩
  · cases h
    exact Or.inr ⟨_, _, rfl⟩
def pk (r : Pr) : Dg × Pr := (r.name, r)
/-- The document's hub in memory that is s. -/
structure DocL (w : World) (v : Value) (win : Int) (s : ST) (L : List Wi) (P : List Pr) (aL aP : Option Addr) (cL cP : Nat) : Prop where
  eq : v = dhv win (.slice aL L.length cL) (.slice aP P.length cP)
  sl : Sl wic 21 w aL L
  cl : L.length ≤ cL
  sp : Sl prc 27 w aP P
  cp : P.length ≤ cP
  inn : ∀ x ∈ L, x.In w
  nL : Oka aL cL
  nP : Oka aP cP
  srL : Srt (L.map Wi.kv) s.l
  srP : Srt (P.map pk) s.m
  tyL : Ty 98 w aL L
  tyP : Ty 102 w aP P
def DocE (w : World) (v : Value) (win : Int) (s : ST) : Prop := ∃ L P aL aP cL cP, DocL w v win s L P aL aP cL cP
theorem DocL.kp0 {w w' : World} {v : Value} {win : Int} {s : ST} {L : List Wi} {P : List Pr} {aL aP : Option Addr} {cL cP : Nat} (h : DocL w v win s L P aL aP cL cP) (hk : Kp [] w w') : DocL w' v win s L P aL aP cL cP :=
  ⟨h.eq, h.sl.kp0 hk, h.cl, h.sp.kp0 hk, h.cp, fun x hx => (h.inn x hx).kp0 hk, h.nL, h.nP, h.srL, h.srP, h.tyL.kp0 hk, h.tyP.kp0 hk⟩
theorem DocE.kp0 {w w' : World} {v : Value} {win : Int} {s : ST} (h : DocE w v win s) (hk : Kp [] w w') : DocE w' v win s := by
  obtain ⟨L, P, aL, aP, cL, cP, h⟩ := h
  exact ⟨L, P, aL, aP, cL, cP, h.kp0 hk⟩
theorem DocE.hub {w w' : World} {v : Value} {win win' : Int} {s s' : ST} {bh bs bp : Nat} (h : DocE w v win s) (hH : HubE w bh bs bp win' s') (hk : Kp [bs, bp] w w') : DocE w' v win s := by
  obtain ⟨L, P, aL, aP, cL, cP, h⟩ := h
  exact ⟨L, P, aL, aP, cL, cP, h.eq, hH.slk h.sl hk, h.cl, hH.slk h.sp hk, h.cp, fun x hx => ⟨hH.slk (h.inn x hx).sl hk, (h.inn x hx).cap, (h.inn x hx).ty.kp hk (fun hn b off e => by
    obtain ⟨cs, f, hh⟩ := (h.inn x hx).ty hn b off e
    exact hH.nb hh)⟩, h.nL, h.nP, h.srL, h.srP, h.tyL.kp hk (fun hn b off e => by
    obtain ⟨cs, f, hh⟩ := h.tyL hn b off e
    exact hH.nb hh), h.tyP.kp hk (fun hn b off e => by
    obtain ⟨cs, f, hh⟩ := h.tyP hn b off e
    exact hH.nb hh)⟩
/-- What is written stands in a block of another kind. -/
theorem DocL.kp {w w' : World} {v : Value} {win : Int} {s : ST} {L : List Wi} {P : List Pr} {aL aP : Option Addr} {cL cP z : Nat} {cs : Array Value} {T : TypeId} (h : DocL w v win s L P aL aP cL cP) (hk : Kp [z] w w') (hz : Blk w z (.cells cs T)) (h1 : T ≠ 98) (h2 : T ≠ 102) (h3 : T ≠ 84) : DocL w' v win s L P aL aP cL cP :=
  ⟨h.eq, h.sl.kpN hk (fun hn b off e => nm1 (h.tyL.ne hn hz h1 b off e)), h.cl, h.sp.kpN hk (fun hn b off e => nm1 (h.tyP.ne hn hz h2 b off e)), h.cp, fun x hx => (h.inn x hx).kp hk hz h3, h.nL, h.nP, h.srL, h.srP, h.tyL.kp hk (fun hn b off e => nm1 (h.tyL.ne hn hz h1 b off e)), h.tyP.kp hk (fun hn b off e => nm1 (h.tyP.ne hn hz h2 b off e))⟩
theorem DocL.lenL {w : World} {v : Value} {win : Int} {s : ST} {L : List Wi} {P : List Pr} {aL aP : Option Addr} {cL cP : Nat} (h : DocL w v win s L P aL aP cL cP) : L.length = s.l.length := srt_len h.srL
theorem DocL.lenP {w : World} {v : Value} {win : Int} {s : ST} {L : List Wi} {P : List Pr} {aL aP : Option Addr} {cL cP : Nat} (h : DocL w v win s L P aL aP cL cP) : P.length = s.m.length := srt_len h.srP
theorem rbw' (w : World) (a0 a1 a2 a3 a4 a5 a6 a7 b0 b1 b2 b3 b4 b5 b6 b7 : UInt8) (n h0 h1 side : Int) (s : Value) : (Instr.build 98 #[(0, .agg #[bv a0, bv a1, bv a2, bv a3, bv a4, bv a5, bv a6, bv a7]), (1, .agg #[bv b0, bv b1, bv b2, bv b3, bv b4, bv b5, bv b6, bv b7, .int .i64 n, .int .i64 h0, .int .i64 h1, s]), (2, .int .i64 side)]).run Tryz.prog w = .ok (.agg #[bv a0, bv a1, bv a2, bv a3, bv a4, bv a5, bv a6, bv a7, bv b0, bv b1, bv b2, bv b3, bv b4, bv b5, bv b6, bv b7, .int .i64 n, .int .i64 h0, .int .i64 h1, s, .int .i64 side]) w := by kernel_rfl
theorem rbw (x : Wi) (w : World) : (Instr.build 98 #[(0, dv x.peer), (1, pv x.p x.s), (2, .int .i64 x.side)]).run Tryz.prog w = .ok (.agg (wic x).toArray) w := by
  obtain ⟨⟨k, hk⟩, ⟨⟨l, hl⟩, n, h0, h1, held⟩, a, c, side⟩ := x
  match k, hk, l, hl with
  | [a0, a1, a2, a3, a4, a5, a6, a7], _, [b0, b1, b2, b3, b4, b5, b6, b7], _ => exact rbw' w a0 a1 a2 a3 a4 a5 a6 a7 b0 b1 b2 b3 b4 b5 b6 b7 n h0 h1 side (.slice a held.length c)
theorem rbwS' (w : World) (a0 a1 a2 a3 a4 a5 a6 a7 b0 b1 b2 b3 b4 b5 b6 b7 : UInt8) (n h0 h1 side : Int) (a : Option Addr) (m c : Nat) : (Instr.buildSlice 28 1 #[(0, .agg #[bv a0, bv a1, bv a2, bv a3, bv a4, bv a5, bv a6, bv a7, bv b0, bv b1, bv b2, bv b3, bv b4, bv b5, bv b6, bv b7, .int .i64 n, .int .i64 h0, .int .i64 h1, .slice a m c, .int .i64 side])]).run Tryz.prog w = .ok (.slice (some ⟨w.heap.size, 0, none⟩) 1 1) { w with heap := w.heap.push (.cells #[bv a0, bv a1, bv a2, bv a3, bv a4, bv a5, bv a6, bv a7, bv b0, bv b1, bv b2, bv b3, bv b4, bv b5, bv b6, bv b7, .int .i64 n, .int .i64 h0, .int .i64 h1, .slice a m c, .int .i64 side] 98) } := by kernel_rfl
theorem rbwS (x : Wi) (w : World) : (Instr.buildSlice 28 1 #[(0, .agg (wic x).toArray)]).run Tryz.prog w = .ok (.slice (some ⟨w.heap.size, 0, none⟩) 1 1) { w with heap := w.heap.push (.cells (flt wic [x]).toArray 98) } := by
  rw [flt_one]
  obtain ⟨⟨k, hk⟩, ⟨⟨l, hl⟩, n, h0, h1, held⟩, a, c, side⟩ := x
  match k, hk, l, hl with
  | [a0, a1, a2, a3, a4, a5, a6, a7], _, [b0, b1, b2, b3, b4, b5, b6, b7], _ => exact rbwS' w a0 a1 a2 a3 a4 a5 a6 a7 b0 b1 b2 b3 b4 b5 b6 b7 n h0 h1 side a held.length c
attribute [local irreducible] CG NG SG Vals Der Row Blk MapIs IterAt chkL DerX
set_option maxHeartbeats 32000000 in
theorem ropen_e {w : World} {v : Value} {win : Int} {s : ST} (hD : DocE w v win s) (hlen : s.l.length ≤ 16) (hm : s.m.length ≤ 1000) (k : Dg) (p : Pu) {a : Option Addr} {c : Nat} (side : Int) (hS : Sl hc 11 w a p.held) (hl : p.held.length ≤ 1000) (hcap : p.held.length ≤ c) :
    Calls Tryz.prog 33 #[v, dv k, pv p (.slice a p.held.length c), .int .i64 side] w (fun e w' => ∃ v', e = .returned (.tuple #[v', .int .i64 (openZ s.l k p side)]) ∧ Kp [] w w' ∧ DocE w' v' win (if openZ s.l k p side = 0 then ⟨aput s.l k (p, side), s.m⟩ else s)) := by
  obtain ⟨L, P, aL, aP, cL, cP, hD⟩ := hD
  have hv := hD.eq
  subst hv
  have hLl := hD.lenL
  have hPl := hD.lenP
  refine enter4 Tryz.func33 rfl Tryz.ntmps33 rfl ?_
  have old : ∀ {w' : World} {z : Int}, Kp [] w w' → openZ s.l k p side = z → z ≠ 0 → ∃ v', Ending.returned (.tuple #[dhv win (.slice aL L.length cL) (.slice aP P.length cP), .int .i64 z]) = .returned (.tuple #[v', .int .i64 (openZ s.l k p side)]) ∧ Kp [] w w' ∧ DocE w' v' win (if openZ s.l k p side = 0 then ⟨aput s.l k (p, side), s.m⟩ else s) := fun hk e hz => ⟨_, by rw [e], hk, by rw [e, if_neg hz]; exact ⟨L, P, aL, aP, cL, cP, hD.kp0 hk⟩⟩
  repeat (first|apply cA|apply cB)
  refine SG.box rfl rfl rfl (by exact rho_of rfl) (fun b4 w1 hk1 hb4 hB4 => ?_)
  refine SG.box rfl rfl rfl (by exact rho_of rfl) (fun b5 w2 hk2 hb5 hB5 => ?_)
  refine SG.box rfl rfl rfl (by exact rho_of rfl) (fun b6 w3 hk3 hb6 hB6 => ?_)
  refine SG.alloc rfl rfl rfl (fun b8 w4 hk4 hb8 hB8 => ?_)
  have l4 := hB4.lt
  have l5 := hB5.lt
  have l6 := hB6.lt
  have s1 := hk1.size
  have s2 := hk2.size
  have s3 := hk3.size
  have hB4 : Blk w4 b4 (.cells (dhc win (.slice aL L.length cL) (.slice aP P.length cP)).toArray 31) := ((hB4.kp0 hk2).kp0 hk3).kp0 hk4
  have hB5 : Blk w4 b5 (.cells (dc k).toArray 32) := (hB5.kp0 hk3).kp0 hk4
  have hB6 : Blk w4 b6 (.cells (pc p (.slice a p.held.length c)).toArray 36) := hB6.kp0 hk4
  have k4 := ((hk1.trans hk2).trans hk3).trans hk4
  have hR6 : Row w4 b6 0 (pc p (.slice a p.held.length c)) := Row.all hB6 rfl
  repeat (first|apply cA|apply cB|apply cD|apply cE|refine cV rfl rfl rfl rfl (by first|((first|apply qas|apply qla)<;>(first|exact rfl|assumption|exact List.not_mem_nil|apply pc_length))|fail) ?_)
  refine SG.ret rfl rfl rfl (vs := [pv p (.slice a p.held.length c)]) (by repeat' (first | exact True.intro | exact rho_of rfl | refine And.intro ?_ ?_)) (rcheck_spec p (hS.kp0 k4) hl hcap) (fun w5 hk5 => ?_)
  have k5 := k4.trans hk5
  have hB4 := hB4.kp0 hk5
  have hB5 := hB5.kp0 hk5
  have hB6 := hB6.kp0 hk5
  have hB8 := hB8.kp0 hk5
  clear hR6
  obtain ⟨-, r1, r2, r0⟩ := dhc_rows hB4
  by_cases hc0 : checkZ p = 0
  rotate_left
  · have e : openZ s.l k p side = checkZ p := by simp [openZ, hc0]
    generalize checkZ p = z at hc0 e
    clear r1 r2
    repeat (first|apply cA|apply cB|apply cD|apply cE|refine cV rfl rfl rfl rfl (by first|((first|apply qni|apply qmv|apply qas|apply qni)<;>(first|exact rfl|exact dcf (by first|assumption|omega)|fail))|fail) ?_)
    refine dA rfl (by exact rho_of rfl) rfl ?_
    repeat (first|apply cA|apply cB|refine cV rfl rfl rfl rfl (by first|((first|apply qmv|apply qla)<;>(first|exact rfl|assumption|exact List.not_mem_nil))|fail) ?_)
    refine SG.setAll (l := dhc win (.slice aL L.length cL) (.slice aP P.length cP)) rfl rfl (by exact rho_of rfl) (by exact rho_of rfl) hB8 rfl rfl rfl (fun wz hkz hBz => ?_)
    have hr : Row wz b8 0 (dhc win (.slice aL L.length cL) (.slice aP P.length cP)) := Row.all hBz rfl
    repeat (first|apply cD|apply cE|apply cH|apply cK|refine cV rfl rfl rfl rfl (by first|(apply qas<;>(exact rfl))|fail) ?_)
    refine ret2 (Or.inl rfl) Tryz.results33 (ResV.agg rfl rfl hr rfl) (by first | exact ResV.tmp rfl | exact ResV.agg rfl rfl (by assumption) (by first | exact dc_length _ | exact nc_length _ | exact rc_length _ _ _ | exact ec_length _ | exact dl_length _ _ _ _ | rfl) | exact ResV.cell rfl rfl (by assumption)) ?_
    exact old (k5.trans_new hkz (new1 (by omega))) e hc0
  rw [hc0]
  have h00 : (0 : Int) = 0 := rfl
  repeat (first|apply cA|apply cB|apply cD|apply cE|refine cV rfl rfl rfl rfl (by first|((first|apply qni|apply qmv|apply qas|apply qni)<;>(first|exact rfl|exact dct (by first|assumption|omega)|fail))|fail) ?_)
  refine dB rfl (by exact rho_of rfl) rfl ?_
  by_cases hsd : side ≠ 0 ∧ side ≠ 1
  · obtain ⟨g1, g2⟩ := hsd
    have e : openZ s.l k p side = 28 := by simp [openZ, hc0, g1, g2]
    clear r1 r2
    repeat (first|apply cA|apply cB|apply cD|apply cE|apply cF|refine cV rfl rfl rfl rfl (by first|((first|apply qni|apply qmv|apply qpk|apply qni)<;>(first|exact rfl|exact dcf (by first|assumption|omega)|fail))|fail) ?_)
    refine dA rfl (by exact rho_of rfl) rfl ?_
    repeat (first|apply cA|apply cB|refine cV rfl rfl rfl rfl (by first|(apply qla<;>(first|exact rfl|assumption|exact List.not_mem_nil))|fail) ?_)
    refine SG.setAll (l := dhc win (.slice aL L.length cL) (.slice aP P.length cP)) rfl rfl (by exact rho_of rfl) (by exact rho_of rfl) hB8 rfl rfl rfl (fun wz hkz hBz => ?_)
    have hr : Row wz b8 0 (dhc win (.slice aL L.length cL) (.slice aP P.length cP)) := Row.all hBz rfl
    repeat (first|apply cD|apply cE|apply cH|apply cK|refine cV rfl rfl rfl rfl (by first|(apply qas<;>(exact rfl))|fail) ?_)
    refine ret2 (Or.inl rfl) Tryz.results33 (ResV.agg rfl rfl hr rfl) (by first | exact ResV.tmp rfl | exact ResV.agg rfl rfl (by assumption) (by first | exact dc_length _ | exact nc_length _ | exact rc_length _ _ _ | exact ec_length _ | exact dl_length _ _ _ _ | rfl) | exact ResV.cell rfl rfl (by assumption)) ?_
    exact old (k5.trans_new hkz (new1 (by omega))) e (by decide)
  refine cF ?_
  refine cE ?_
  refine cA ?_
  refine CG.cut_then (fun L' w' => SubE [(3, .int .i64 side), (4, .pointer (some ⟨b4, 0, none⟩)), (5, .pointer (some ⟨b5, 0, none⟩)), (6, .pointer (some ⟨b6, 0, none⟩)), (8, .pointer (some ⟨b8, 0, none⟩))] L' ∧ w' = w5) ?_ ?_
  · by_cases g1 : side = 0
    · repeat (first | first|apply cA|apply cB|apply cD|apply cE|refine cV rfl rfl rfl rfl (by first|((first|apply qni|apply qmv|apply qpk|apply qni)<;>(first|exact rfl|exact dct (by first|assumption|omega)|fail))|fail) ?_ | refine cX rfl rfl ?_)
      refine dB rfl (by exact rho_of rfl) rfl ?_
      repeat (first|apply cF)
      exact NG.cut ⟨by (repeat' (first | exact True.intro | exact rfl | refine And.intro ?_ ?_)), rfl⟩
    · have g2 : side = 1 := Classical.byContradiction (fun h => hsd ⟨g1, h⟩)
      repeat (first|apply cA|apply cB|apply cD|apply cE|refine cV rfl rfl rfl rfl (by first|((first|apply qni|apply qmv|apply qpk|apply qni)<;>(first|exact rfl|exact dct (by first|assumption|omega)|exact dcf (by first|assumption|omega)|fail))|fail) ?_)
      refine dB rfl (by exact rho_of rfl) rfl ?_
      repeat (first|apply cF)
      exact NG.cut ⟨by (repeat' (first | exact True.intro | exact rfl | refine And.intro ?_ ?_)), rfl⟩
  rintro L' wz ⟨hLL, rfl⟩
  refine CG.to _ hLL ?_
  clear hLL L'
  obtain ⟨q0, -, -, -, q4, -⟩ := pc_rows hB6
  by_cases hh0 : p.held.length = 0
  rotate_left
  · have e : openZ s.l k p side = 10 := by
      unfold openZ
      rw [if_neg (fun h => h hc0), if_neg hsd, if_pos hh0]
    have g1 : (0 : Int) < (p.held.length : Int) := by omega
    clear r1 r2
    repeat (first|apply cA|apply cB|apply cD|apply cE|refine cV rfl rfl rfl rfl (by first|((first|apply qlc|apply qfa|apply qln|apply qgt)<;>(first|exact rfl|assumption|exact dct (by first|assumption|omega)|exact List.not_mem_nil|fail))|fail) ?_)
    refine dA rfl (by exact rho_of rfl) rfl ?_
    repeat (first|apply cA|apply cB|refine cV rfl rfl rfl rfl (by first|(apply qla<;>(first|exact rfl|assumption|exact List.not_mem_nil))|fail) ?_)
    refine SG.setAll (l := dhc win (.slice aL L.length cL) (.slice aP P.length cP)) rfl rfl (by exact rho_of rfl) (by exact rho_of rfl) hB8 rfl rfl rfl (fun wz hkz hBz => ?_)
    have hr : Row wz b8 0 (dhc win (.slice aL L.length cL) (.slice aP P.length cP)) := Row.all hBz rfl
    repeat (first|apply cD|apply cE|apply cH|apply cK|refine cV rfl rfl rfl rfl (by first|(apply qas<;>(exact rfl))|fail) ?_)
    refine ret2 (Or.inl rfl) Tryz.results33 (ResV.agg rfl rfl hr rfl) (by first | exact ResV.tmp rfl | exact ResV.agg rfl rfl (by assumption) (by first | exact dc_length _ | exact nc_length _ | exact rc_length _ _ _ | exact ec_length _ | exact dl_length _ _ _ _ | rfl) | exact ResV.cell rfl rfl (by assumption)) ?_
    exact old (k5.trans_new hkz (new1 (by omega))) e (by decide)
  have g1 : ¬ (0 : Int) < (p.held.length : Int) := by omega
  have hoe : openZ s.l k p side = if (alook s.l k).isSome ∨ namedL s.l p.name = true then 7 else if 16 ≤ s.l.length then 8 else 0 := by
    unfold openZ
    rw [if_neg (fun h => h hc0), if_neg hsd, if_neg (fun h => h hh0)]
  repeat (first|apply cA|apply cB|apply cD|apply cE|refine cV rfl rfl rfl rfl (by first|((first|apply qlc|apply qfa|apply qln|apply qgt)<;>(first|exact rfl|assumption|exact dcf (by first|assumption|omega)|exact List.not_mem_nil|fail))|fail) ?_)
  refine dB rfl (by exact rho_of rfl) rfl ?_
  clear r0 q4
  have hq5 : Row wz b5 0 (dc k) := Row.all hB5 rfl
  repeat (first|apply cA|apply cB|apply cD|apply cE|apply cF|apply cG|refine cV rfl rfl rfl rfl (by first|(apply qas<;>(exact rfl))|fail) ?_)
  refine CG.loop (X := Nat) (fun i => [(3, .int .i64 side), (4, .pointer (some ⟨b4, 0, none⟩)), (5, .pointer (some ⟨b5, 0, none⟩)), (6, .pointer (some ⟨b6, 0, none⟩)), (8, .pointer (some ⟨b8, 0, none⟩)), (11, .int .i64 (i : Int))])
    (fun i w' => i ≤ L.length ∧ Kp [] wz w' ∧ ∀ j (hj : j < L.length), j < i → L[j].peer ≠ k ∧ L[j].p.name ≠ p.name) (fun i => L.length - i) 0 ⟨Nat.zero_le _, Kp.refl _ _, fun j hj h => absurd h (by omega)⟩ (by (repeat' (first | exact True.intro | exact rfl | refine And.intro ?_ ?_))) ?_
  rintro i w6 ⟨hi, hk6, hup⟩
  have r1 := r1.kp0 hk6
  have q5 := hq5.kp0 hk6
  have q0 := q0.kp0 hk6
  have k6 := k5.trans hk6
  by_cases hlt : i < L.length
  · have g2 : (i : Int) < (L.length : Int) := by omega
    obtain ⟨ba, oa, rfl, hri⟩ := (hD.sl.kp0 k6).at hlt
    obtain ⟨t0, t8, -⟩ := wic_rowsO hri
    have t8' : Row w6 ba (oa + i * 21 + 8 + 0) (dc L[i].p.name) := t8.part [] (dc L[i].p.name) _ rfl
    have hmem : (L[i].peer, L[i].ps) ∈ s.l := hD.srL.perm.mem_iff.1 (List.mem_map_of_mem (f := Wi.kv) (List.getElem_mem hlt))
    clear hri t8
    repeat (first|apply cA|apply cB|apply cD|apply cE|refine cV rfl rfl rfl rfl (by first|((first|apply qmv|apply qlc|apply qfa|apply qls|apply qln)<;>(first|exact rfl|assumption|exact dct (by first|assumption|omega)|exact List.not_mem_nil|fail))|fail) ?_)
    refine dA rfl (by exact rho_of rfl) rfl ?_
    by_cases e1 : L[i].peer = k
    · have e : openZ s.l k p side = 7 := by
        have h2 : alook s.l L[i].peer = some L[i].ps := alook_of_mem hD.srL.nd hmem
        rw [e1] at h2
        rw [hoe, if_pos (Or.inl (by rw [h2]; rfl))]
      repeat (first|apply cA|apply cE|apply cF|apply cG)
      refine CG.draw0 mixed [0, 1, 2, 3, 4, 5, 6, 7, 8, 9, 10, 11, 12, 13, 14, 15, 16, 17, 18, 19] [] (by kernel_rfl) ?_
      repeat (first | refine cY rfl rfl rfl (by first|((first|apply qmv|apply qlc|apply qla|apply qfa|apply qix|apply qpk|apply qed)<;>(first|exact rfl|assumption|exact Ar.mk (by omega)|exact dct (by first|assumption|omega)|exact List.not_mem_nil|apply dc_length|fail))|fail) ?_ | refine Der.skip rfl rfl ?_)
      refine Der.fin (fun w7 hk7 _ _ => ?_)
      have hB47 := (hB4.kp0 hk6).kp0 hk7
      have hB87 := (hB8.kp0 hk6).kp0 hk7
      obtain ⟨-, -, -, r0⟩ := dhc_rows hB47
      clear r1 r2
      repeat (first|apply cE)
      refine dA rfl (by exact rho_of rfl) rfl ?_
      repeat (first|apply cA|apply cB|refine cV rfl rfl rfl rfl (by first|(apply qla<;>(first|exact rfl|assumption|exact List.not_mem_nil))|fail) ?_)
      refine SG.setAll (l := dhc win (.slice (some ⟨ba, oa, none⟩) L.length cL) (.slice aP P.length cP)) rfl rfl (by exact rho_of rfl) (by exact rho_of rfl) hB87 rfl rfl rfl (fun wy hky hBz => ?_)
      have hr : Row wy b8 0 (dhc win (.slice (some ⟨ba, oa, none⟩) L.length cL) (.slice aP P.length cP)) := Row.all hBz rfl
      repeat (first|apply cD|apply cE|apply cH|apply cK|apply NG.ret_block|refine cV rfl rfl rfl rfl (by first|(apply qas<;>(exact rfl))|fail) ?_)
      refine ret2 (Or.inl rfl) Tryz.results33 (ResV.agg rfl rfl hr rfl) (by first | exact ResV.tmp rfl | exact ResV.agg rfl rfl (by assumption) (by first | exact dc_length _ | exact nc_length _ | exact rc_length _ _ _ | exact ec_length _ | exact dl_length _ _ _ _ | rfl) | exact ResV.cell rfl rfl (by assumption)) ?_
      exact old ((k6.trans hk7).trans_new hky (new1 (by omega))) e (by decide)
    by_cases e2 : L[i].p.name = p.name
    · have e : openZ s.l k p side = 7 := by
        have hn : namedL s.l p.name = true := List.any_eq_true.2 ⟨(L[i].peer, L[i].ps), hmem, decide_eq_true e2⟩
        rw [hoe, if_pos (Or.inr hn)]
      repeat (first|apply cA|apply cE|apply cF|apply cG)
      refine CG.draw0 mixed [0, 1, 2, 3, 4, 5, 6, 7, 8, 9, 10, 11, 12, 13, 14, 15, 16, 17, 18, 19] [] (by kernel_rfl) ?_
      repeat (refine cY rfl rfl rfl (by first|((first|apply qmv|apply qlc|apply qla|apply qfa|apply qix|apply qpk|apply qed)<;>(first|exact rfl|assumption|exact Ar.mk (by omega)|exact dct (by first|assumption|omega)|exact dcf (by first|assumption|omega)|exact List.not_mem_nil|apply dc_length|fail))|fail) ?_)
      refine Der.fin (fun w7 hk7 _ _ => ?_)
      have hB47 := (hB4.kp0 hk6).kp0 hk7
      have hB87 := (hB8.kp0 hk6).kp0 hk7
      obtain ⟨-, -, -, r0⟩ := dhc_rows hB47
      clear r1 r2
      repeat (first|apply cE)
      refine dA rfl (by exact rho_of rfl) rfl ?_
      repeat (first|apply cA|apply cB|refine cV rfl rfl rfl rfl (by first|(apply qla<;>(first|exact rfl|assumption|exact List.not_mem_nil))|fail) ?_)
      refine SG.setAll (l := dhc win (.slice (some ⟨ba, oa, none⟩) L.length cL) (.slice aP P.length cP)) rfl rfl (by exact rho_of rfl) (by exact rho_of rfl) hB87 rfl rfl rfl (fun wy hky hBz => ?_)
      have hr : Row wy b8 0 (dhc win (.slice (some ⟨ba, oa, none⟩) L.length cL) (.slice aP P.length cP)) := Row.all hBz rfl
      repeat (first|apply cD|apply cE|apply cH|apply cK|apply NG.ret_block|refine cV rfl rfl rfl rfl (by first|(apply qas<;>(exact rfl))|fail) ?_)
      refine ret2 (Or.inl rfl) Tryz.results33 (ResV.agg rfl rfl hr rfl) (by first | exact ResV.tmp rfl | exact ResV.agg rfl rfl (by assumption) (by first | exact dc_length _ | exact nc_length _ | exact rc_length _ _ _ | exact ec_length _ | exact dl_length _ _ _ _ | rfl) | exact ResV.cell rfl rfl (by assumption)) ?_
      exact old ((k6.trans hk7).trans_new hky (new1 (by omega))) e (by decide)
    · repeat (first|apply cA|apply cE|apply cF|apply cG)
      refine CG.draw0 mixed [0, 1, 2, 3, 4, 5, 6, 7, 8, 9, 10, 11, 12, 13, 14, 15, 16, 17, 18, 19] [] (by kernel_rfl) ?_
      repeat (refine cY rfl rfl rfl (by first|((first|apply qmv|apply qlc|apply qla|apply qfa|apply qix|apply qpk|apply qed)<;>(first|exact rfl|assumption|exact Ar.mk (by omega)|exact dcf (by first|assumption|omega)|exact List.not_mem_nil|apply dc_length|fail))|fail) ?_)
      refine Der.fin (fun w7 hk7 _ _ => ?_)
      repeat (first|apply cE)
      refine dB rfl (by exact rho_of rfl) rfl ?_
      repeat (first|apply cB|apply cD|apply cE|apply cF|apply cU|refine cV rfl rfl rfl rfl (by first|((first|apply qmv|apply qas|apply qad)<;>(first|exact rfl|exact Ar.mk (by omega)|fail))|fail) ?_)
      refine NG.round (i + 1) (by (repeat' (first | exact True.intro | exact rfl | refine And.intro ?_ ?_))) ⟨by omega, hk6.trans hk7, fun j hj hji => ?_⟩ (by omega)
      by_cases ej : j = i
      · subst ej
        exact ⟨e1, e2⟩
      · exact hup j hj (by omega)
  have hiL : i = L.length := by omega
  subst hiL
  have g2 : ¬ (L.length : Int) < (L.length : Int) := by omega
  have hkn : alook s.l k = none := alook_none.2 (fun q hq e => by
    obtain ⟨x, hx, rfl⟩ := List.mem_map.1 (hD.srL.perm.mem_iff.2 hq)
    obtain ⟨j, hj, rfl⟩ := List.mem_iff_getElem.1 hx
    exact (hup j hj hj).1 e)
  have hnn : ¬ namedL s.l p.name = true := fun h => by
    obtain ⟨q, hq, e⟩ := List.any_eq_true.1 h
    obtain ⟨x, hx, rfl⟩ := List.mem_map.1 (hD.srL.perm.mem_iff.2 hq)
    obtain ⟨j, hj, rfl⟩ := List.mem_iff_getElem.1 hx
    exact (hup j hj hj).2 (of_decide_eq_true e)
  rw [if_neg (fun h => h.elim (fun h => by rw [hkn] at h; cases h) hnn)] at hoe
  have hB46 := hB4.kp0 hk6
  have hB86 := hB8.kp0 hk6
  have hB56 := hB5.kp0 hk6
  have hB66 := hB6.kp0 hk6
  clear q0 q5 hq5
  repeat (first|apply cA|apply cB|apply cD|apply cE|refine cV rfl rfl rfl rfl (by first|((first|apply qmv|apply qlc|apply qfa|apply qls|apply qln)<;>(first|exact rfl|assumption|exact dcf (by first|assumption|omega)|exact List.not_mem_nil|fail))|fail) ?_)
  refine dB rfl (by exact rho_of rfl) rfl ?_
  by_cases h16 : 16 ≤ s.l.length
  · have e : openZ s.l k p side = 8 := by rw [hoe, if_pos h16]
    have g3 : (L.length : Int) = 16 := by omega
    obtain ⟨-, -, -, r0⟩ := dhc_rows hB46
    repeat (first|apply cA|apply cB|apply cD|apply cE|apply cJ|apply cM|refine cN rfl ?_|refine cV rfl rfl rfl rfl (by first|((first|apply qei|apply qlc|apply qfa|apply qei|apply qln)<;>(first|exact rfl|assumption|exact dct (by first|assumption|omega)|exact List.not_mem_nil|fail))|fail) ?_)
    refine dA rfl (by exact rho_of rfl) rfl ?_
    clear r1 r2
    repeat (first|apply cA|apply cB|refine cV rfl rfl rfl rfl (by first|(apply qla<;>(first|exact rfl|assumption|exact List.not_mem_nil))|fail) ?_)
    refine SG.setAll (l := dhc win (.slice aL L.length cL) (.slice aP P.length cP)) rfl rfl (by exact rho_of rfl) (by exact rho_of rfl) hB86 rfl rfl rfl (fun wy hky hBz => ?_)
    have hr : Row wy b8 0 (dhc win (.slice aL L.length cL) (.slice aP P.length cP)) := Row.all hBz rfl
    repeat (first|apply cD|apply cE|apply cH|apply cK|refine cV rfl rfl rfl rfl (by first|(apply qas<;>(exact rfl))|fail) ?_)
    refine ret2 (Or.inl rfl) Tryz.results33 (ResV.agg rfl rfl hr rfl) (by first | exact ResV.tmp rfl | exact ResV.agg rfl rfl (by assumption) (by first | exact dc_length _ | exact nc_length _ | exact rc_length _ _ _ | exact ec_length _ | exact dl_length _ _ _ _ | rfl) | exact ResV.cell rfl rfl (by assumption)) ?_
    exact old (k6.trans_new hky (new1 (by omega))) e (by decide)
  have e : openZ s.l k p side = 0 := by rw [hoe, if_neg h16]
  have g3 : ¬ (L.length : Int) = 16 := by omega
  clear old hup
  repeat (first|apply cA|apply cB|apply cD|apply cE|apply cJ|apply cM|refine cN rfl ?_|refine cV rfl rfl rfl rfl (by first|((first|apply qei|apply qlc|apply qfa|apply qei|apply qln)<;>(first|exact rfl|assumption|exact dcf (by first|assumption|omega)|exact List.not_mem_nil|fail))|fail) ?_)
  refine dB rfl (by exact rho_of rfl) rfl ?_
  have hq5 : Row w6 b5 0 (dc k) := Row.all hB56 rfl
  have r1w := r1
  repeat (first|apply cA|apply cB|apply cD|apply cE|apply cF|apply cG|refine cV rfl rfl rfl rfl (by first|(apply qas<;>(exact rfl))|fail) ?_)
  refine CG.loop (X := Nat) (fun i => [(3, .int .i64 side), (4, .pointer (some ⟨b4, 0, none⟩)), (5, .pointer (some ⟨b5, 0, none⟩)), (6, .pointer (some ⟨b6, 0, none⟩)), (8, .pointer (some ⟨b8, 0, none⟩)), (12, .int .i64 (i : Int))])
    (fun i w' => i ≤ L.length ∧ Kp [] w6 w' ∧ ∀ j (hj : j < L.length), j < i → dkey L[j].peer < dkey k) (fun i => L.length - i) 0 ⟨Nat.zero_le _, Kp.refl _ _, fun j hj h => absurd h (by omega)⟩ (by (repeat' (first | exact True.intro | exact rfl | refine And.intro ?_ ?_))) ?_
  clear r1
  rintro i w7 ⟨hi7, hk7, hup⟩
  have r1 := r1w.kp0 hk7
  have q5 := hq5.kp0 hk7
  have k7 := k6.trans hk7
  refine cA ?_
  refine cA ?_
  refine CG.cut_then (fun L' w' => ∃ b : Bool, SubE [(3, .int .i64 side), (4, .pointer (some ⟨b4, 0, none⟩)), (5, .pointer (some ⟨b5, 0, none⟩)), (6, .pointer (some ⟨b6, 0, none⟩)), (8, .pointer (some ⟨b8, 0, none⟩)), (12, .int .i64 (i : Int)), (79, .bool b)] L' ∧ Kp [] w7 w' ∧ (b = true ↔ ∃ h : i < L.length, dkey L[i].peer < dkey k)) ?_ ?_
  · by_cases hlt : i < L.length
    · have g4 : (i : Int) < (L.length : Int) := by omega
      obtain ⟨ba, oa, rfl, hri⟩ := (hD.sl.kp0 k7).at hlt
      obtain ⟨t0, -, -⟩ := wic_rowsO hri
      clear hri
      skip
      refine CG.draw0 mixed [0, 1, 2, 3, 4, 5, 6, 7, 8, 9, 10, 11, 12, 13, 14] [] (by kernel_rfl) ?_
      repeat (refine cY rfl rfl rfl (by first|((first|apply qmv|apply qlc|apply qla|apply qfa|apply qix|apply qls|apply qln)<;>(first|exact rfl|assumption|exact Ar.mk (by omega)|exact dct (by first|assumption|omega)|exact List.not_mem_nil|apply dc_length|fail))|fail) ?_)
      refine Der.call rfl rfl rfl (vs := [dv L[i].peer, dv k]) (by repeat' (first | exact True.intro | exact rho_of rfl | refine And.intro ?_ ?_)) (fun W hk _ => rless_spec L[i].peer k W) ?_
      repeat (refine cY rfl rfl rfl (by first|(apply qpk<;>(exact rfl))|fail) ?_)
      refine Der.fin (fun w8 hk8 _ _ => ?_)
      exact NG.cut ⟨decide (dkey L[i].peer < dkey k), by (repeat' (first | exact True.intro | exact rfl | refine And.intro ?_ ?_)), hk8, ⟨fun h => ⟨hlt, of_decide_eq_true h⟩, fun ⟨_, h⟩ => decide_eq_true h⟩⟩
    · have g4 : ¬ (i : Int) < (L.length : Int) := by omega
      skip
      refine CG.draw0 mixed [0, 1, 2, 3, 4, 5, 6, 7, 8, 9, 10, 11, 12, 13, 14] [] (by kernel_rfl) ?_
      repeat (first | refine cY rfl rfl rfl (by first|((first|apply qmv|apply qlc|apply qfa|apply qpk|apply qls|apply qln)<;>(first|exact rfl|assumption|exact dcf (by first|assumption|omega)|exact List.not_mem_nil|fail))|fail) ?_ | refine Der.skip rfl rfl ?_)
      refine Der.fin (fun w8 hk8 _ _ => ?_)
      exact NG.cut ⟨false, by (repeat' (first | exact True.intro | exact rfl | refine And.intro ?_ ?_)), hk8, ⟨fun h => (by cases h), fun ⟨h, _⟩ => absurd h hlt⟩⟩
  rintro L' w8 ⟨b, hLL, hk8, hbb⟩
  refine CG.to _ hLL ?_
  clear hLL L' r1 q5
  cases b with
  | true =>
    obtain ⟨hlt, hless⟩ := hbb.1 rfl
    refine dA rfl (by exact rho_of rfl) rfl ?_
    repeat (first|apply cB|apply cD|apply cE|apply cF|apply cG|apply cU|refine cV rfl rfl rfl rfl (by first|((first|apply qmv|apply qas|apply qad)<;>(first|exact rfl|exact Ar.mk (by omega)|fail))|fail) ?_)
    refine NG.round (i + 1) (by (repeat' (first | exact True.intro | exact rfl | refine And.intro ?_ ?_))) ⟨by omega, hk7.trans hk8, fun j hj hji => ?_⟩ (by omega)
    by_cases ej : j = i
    · subst ej
      exact hless
    · exact hup j hj (by omega)
  | false =>
    have hstop : ∀ h : i < L.length, ¬ dkey L[i].peer < dkey k := fun h h2 => by cases hbb.2 ⟨h, h2⟩
    have k8 := k7.trans hk8
    have hB48 := (hB46.kp0 hk7).kp0 hk8
    have hB58 := (hB56.kp0 hk7).kp0 hk8
    have hB68 := (hB66.kp0 hk7).kp0 hk8
    have hB88 := (hB86.kp0 hk7).kp0 hk8
    obtain ⟨-, r1, -, -⟩ := dhc_rows hB48
    have q5 : Row w8 b5 0 (dc k) := Row.all hB58 rfl
    have q6 : Row w8 b6 0 (pc p (.slice a p.held.length c)) := Row.all hB68 rfl
    have hpn : p.held = [] := List.length_eq_zero_iff.1 hh0
    have hSL := hD.sl.kp0 k8
    have hlt16 : L.length ≤ 15 := by omega
    have hlt : (L.take i).length = i := by rw [List.length_take]; omega
    have hld : (L.drop i).length = L.length - i := List.length_drop
    have g5 : (i : Int) ≤ (L.length : Int) := by omega
    have hcl := hD.cl
    have hicl : i ≤ cL := by omega
    obtain ⟨x, hx⟩ : ∃ x : Wi, x = ⟨k, p, a, c, side⟩ := ⟨_, rfl⟩
    have hbx : ∀ w : World, (Instr.build 98 #[(0, dv k), (1, pv p (.slice a p.held.length c)), (2, .int .i64 side)]).run Tryz.prog w = .ok (.agg (wic x).toArray) w := fun w => by rw [hx]; exact rbw ⟨k, p, a, c, side⟩ w
    refine dB rfl (by exact rho_of rfl) rfl ?_
    repeat (first|apply cA|apply cE|apply cJ|apply cM|refine cN rfl ?_)
    refine CG.free mixed 11 [1, 2, 3, 4, 6, 7, 8, 9, 0, 5, 10] [(0, gE w8.heap.size 98), (5, gO w8.heap.size 98 wic 21 (L.take i)), (10, gS w8.heap.size wic 21 [x])] (by kernel_rfl) (by intro q hq y; simp at hq; rcases hq with rfl | rfl | rfl; exact gE_stab y; exact gO_stab y; exact gS_stab y) ?_
    repeat (refine cZ rfl rfl rfl rfl (by first|((first|apply qto|apply qmv|apply qlc|apply qla|apply qfa|apply qto)<;>(first|exact rfl|assumption|exact Ar.mk (by omega)|exact List.not_mem_nil|apply dc_length|apply pc_length|fail))|fail) ?_)
    refine cZ rfl rfl rfl rfl (vals_build rfl hbx) ?_
    refine DerX.empty rfl rfl rfl (Nat.le_refl _) (fun b0 => ?_)
    refine DerX.cloneO (a := aL) (c := cL) (L.take i) wic_length wic_one rfl rfl rfl rfl (by exact rho_of rfl) (by rw [hlt]; exact rho_of rfl) rfl rfl rfl (by simp only [maxLen]; omega) (by show (L.take i).length * 72 ≤ _; omega) (fun W hk hF => ⟨(hSL.take i).kp0 hk, hF _ (.head _) (by kernel_rfl)⟩) (fun v => ?_)
    refine DerX.buildSlice [x] wic_length rfl rfl rfl rfl rfl rfl (Nat.le_refl _) (rbwS x) (fun a10 c10 => ?_)
    refine DerX.tl (fun w9 hk9 hF => ?_)
    have hS10 : SlF w8.heap.size wic 21 w9 a10 c10 [x] := hF _ (.head _)
    have ho9 : w9.ownsRow w8.heap.size 98 21 v (L.take i).length (flt wic (L.take i)) := hF _ (.tail _ (.head _))
    clear hF r1 q5 q6
    refine SG.appO (enc := wic) (xs := L.take i) (ys := [x]) (base := w8.heap.size) rfl rfl rfl (by exact rho_of rfl) (by exact rho_of rfl) rfl rfl rfl rfl wic_length wic_one ho9 hS10.sl (by simp only [maxLen, List.length_cons, List.length_nil]; omega) (by show ((L.take i).length + 1) * 72 ≤ _; omega) hk9.size (fun v10 w10 hk10 ho10 _ => ?_)
    have hB49 := hB48.kp0 hk9
    have hB410 := hB49.kp hk10 (fun hm => own_neb ho9 (by decide) hB49 b4 (ownB_mem hm) (by simp))
    have hB89 := hB88.kp0 hk9
    have l8' := hB88.lt
    have hB810 := hB89.kp hk10 (fun hm => by have := own_geB ho9 _ (ownB_mem hm); omega)
    have k810 : Kp [] w8 w10 := hk9.trans_new hk10 (own_new ho9 (Nat.le_refl _))
    obtain ⟨-, r1, -, -⟩ := dhc_rows hB410
    have hSL10 := hSL.kp0 k810
    rcases hD.nL with ⟨rfl, hc0⟩ | ⟨ba, oa, rfl⟩
    · skip
      have hL0 : L = [] := by
        cases hLe : L with
        | nil => rfl
        | cons y L' =>
          rw [hLe] at hSL
          obtain ⟨b, o, h, -⟩ := hSL.at (i := 0) (by simp)
          cases h
      subst hL0
      subst hc0
      obtain rfl : i = 0 := by simpa using hi7
      repeat (first|apply cA|apply cB|apply cD|apply cE|refine cV rfl rfl rfl rfl (by first|((first|apply qmv|apply qas|apply qlc|apply qfa)<;>(first|exact rfl|assumption|exact List.not_mem_nil))|fail) ?_)
      refine cV rfl rfl rfl rfl (vals_fromnil rfl rfl) ?_
      refine SG.appO (enc := wic) (xs := ([] : List Wi).take 0 ++ [x]) (ys := ([] : List Wi).drop 0) (base := w8.heap.size) rfl rfl rfl (by exact rho_of rfl) (by exact rho_of rfl) rfl rfl rfl rfl wic_length wic_one ho10 Sl.nil (by rw [List.length_append, hlt, hld]; simp only [maxLen, List.length_cons, List.length_nil]; omega) (by rw [List.length_append, hlt, hld]; show (0 + 1 + (([] : List Wi).length - 0)) * 72 ≤ _; omega) k810.size (fun v12 w12 hk12 ho12 _ => ?_)
      have hB412 := hB410.kp hk12 (fun hm => own_neb ho10 (by decide) hB410 b4 (ownB_mem hm) (by simp))
      have hB812 := hB810.kp hk12 (fun hm => by have := own_geB ho10 _ (ownB_mem hm); omega)
      have k812 : Kp [] w8 w12 := k810.trans_new hk12 (own_new ho10 (Nat.le_refl _))
      obtain ⟨a12, c12, rfl, _, _⟩ := Sl.own wic_length ho12 rfl
      clear r1
      repeat (first|refine cV rfl rfl rfl rfl (by first|(apply qfa<;>(exact rfl))|fail) ?_)
      refine SG.store rfl rfl (by exact rho_of rfl) (by exact rho_of rfl) hB412 rfl (by show 0 + 1 + 1 ≤ _; simp [dhc_length]) rfl (fun w13 hk13 hB413 => ?_)
      have hB413 : Blk w13 b4 (.cells (spl (dhc win (.slice none ([] : List Wi).length 0) (.slice aP P.length cP)) 1 [.slice a12 ((([] : List Wi).take 0 ++ [x]) ++ ([] : List Wi).drop 0).length c12]).toArray 31) := hB413
      rw [dhc_set1] at hB413
      have ho13 := own_kp ho12 hk13 (own_neb ho12 (by decide) hB412)
      have hB813 := hB812.kp hk13 (nm1 (by omega))
      obtain ⟨-, -, -, r3⟩ := dhc_rows hB413
      repeat (first|apply cA|apply cB|apply cD|apply cE|refine cV rfl rfl rfl rfl (by first|(apply qla<;>(first|exact rfl|assumption|exact List.not_mem_nil))|fail) ?_)
      refine SG.setAll (l := dhc win (.slice a12 ((([] : List Wi).take 0 ++ [x]) ++ ([] : List Wi).drop 0).length c12) (.slice aP P.length cP)) rfl rfl (by exact rho_of rfl) (by exact rho_of rfl) hB813 rfl rfl rfl (fun w14 hk14 hB814 => ?_)
      have hr : Row w14 b8 0 (dhc win (.slice a12 ((([] : List Wi).take 0 ++ [x]) ++ ([] : List Wi).drop 0).length c12) (.slice aP P.length cP)) := Row.all hB814 rfl
      have ho14 := own_kp ho13 hk14 (own_neb ho13 (by decide) hB813)
      repeat (first|apply cD|apply cE|apply cH|refine cV rfl rfl rfl rfl (by first|(apply qas<;>(exact rfl))|fail) ?_)
      refine ret2 (Or.inl rfl) Tryz.results33 (ResV.agg rfl rfl hr rfl) (by first | exact ResV.tmp rfl | exact ResV.agg rfl rfl (by assumption) (by first | exact dc_length _ | exact nc_length _ | exact rc_length _ _ _ | exact ec_length _ | exact dl_length _ _ _ _ | rfl) | exact ResV.cell rfl rfl (by assumption)) ?_
      have kz : Kp [] w w14 := ((k8.trans k812).trans_new hk13 (new1 (by omega))).trans_new hk14 (new1 (by omega))
      refine ⟨_, by rw [e], kz, ?_⟩
      rw [e, if_pos rfl]
      have hLe : (([] : List Wi).take 0 ++ [x]) ++ ([] : List Wi).drop 0 = ([] : List Wi).take 0 ++ x :: ([] : List Wi).drop 0 := by simp
      rw [hLe] at ho14
      rw [hLe]
      obtain ⟨a', c', he, hc', hS'⟩ := Sl.own wic_length ho14 rfl
      cases he
      refine ⟨([] : List Wi).take 0 ++ x :: ([] : List Wi).drop 0, P, a12, aP, c12, cP, rfl, hS', hc', hD.sp.kp0 kz, hD.cp, fun y hy => ?_, own_oka ho14, hD.nP, ?_, hD.srP, Ty.own ho14, hD.tyP.kp0 kz⟩
      · rcases List.mem_append.1 hy with hy | hy
        · exact (hD.inn y (List.mem_of_mem_take hy)).kp0 kz
        · rcases List.mem_cons.1 hy with rfl | hy
          · rw [hx]
            exact ⟨hS.kp0 kz, hcap, fun hn => absurd hpn hn⟩
          · exact (hD.inn y (List.mem_of_mem_drop hy)).kp0 kz
      · refine srt_ins hD.srL hkn (fun j hj hji => hup j hj hji) (fun h => ⟨h, hstop h⟩) (by rw [hx]; rfl)
    · skip
      repeat (first|apply cA|apply cB|apply cD|apply cE|refine cV rfl rfl rfl rfl (by first|((first|apply qfr|apply qmv|apply qas|apply qlc|apply qfa|apply qfr)<;>(first|exact rfl|assumption|exact Ar.mk (by omega)|exact List.not_mem_nil|fail))|fail) ?_)
      refine SG.appO (enc := wic) (xs := L.take i ++ [x]) (ys := L.drop i) (base := w8.heap.size) rfl rfl rfl (by exact rho_of rfl) (by exact rho_of rfl) hld.symm rfl rfl rfl wic_length wic_one ho10 (hSL10.fromJ hcl) (by rw [List.length_append, hlt, hld]; simp only [maxLen, List.length_cons, List.length_nil]; omega) (by rw [List.length_append, hlt, hld]; show (i + 1 + (L.length - i)) * 72 ≤ _; omega) k810.size (fun v12 w12 hk12 ho12 _ => ?_)
      have hB412 := hB410.kp hk12 (fun hm => own_neb ho10 (by decide) hB410 b4 (ownB_mem hm) (by simp))
      have hB812 := hB810.kp hk12 (fun hm => by have := own_geB ho10 _ (ownB_mem hm); omega)
      have k812 : Kp [] w8 w12 := k810.trans_new hk12 (own_new ho10 (Nat.le_refl _))
      obtain ⟨a12, c12, rfl, _, _⟩ := Sl.own wic_length ho12 rfl
      clear r1
      repeat (first|refine cV rfl rfl rfl rfl (by first|(apply qfa<;>(exact rfl))|fail) ?_)
      refine SG.store rfl rfl (by exact rho_of rfl) (by exact rho_of rfl) hB412 rfl (by show 0 + 1 + 1 ≤ _; simp [dhc_length]) rfl (fun w13 hk13 hB413 => ?_)
      have hB413 : Blk w13 b4 (.cells (spl (dhc win (.slice (some ⟨ba, oa, none⟩) L.length cL) (.slice aP P.length cP)) 1 [.slice a12 ((L.take i ++ [x]) ++ L.drop i).length c12]).toArray 31) := hB413
      rw [dhc_set1] at hB413
      have ho13 := own_kp ho12 hk13 (own_neb ho12 (by decide) hB412)
      have hB813 := hB812.kp hk13 (nm1 (by omega))
      obtain ⟨-, -, -, r3⟩ := dhc_rows hB413
      repeat (first|apply cA|apply cB|apply cD|apply cE|refine cV rfl rfl rfl rfl (by first|(apply qla<;>(first|exact rfl|assumption|exact List.not_mem_nil))|fail) ?_)
      refine SG.setAll (l := dhc win (.slice a12 ((L.take i ++ [x]) ++ L.drop i).length c12) (.slice aP P.length cP)) rfl rfl (by exact rho_of rfl) (by exact rho_of rfl) hB813 rfl rfl rfl (fun w14 hk14 hB814 => ?_)
      have hr : Row w14 b8 0 (dhc win (.slice a12 ((L.take i ++ [x]) ++ L.drop i).length c12) (.slice aP P.length cP)) := Row.all hB814 rfl
      have ho14 := own_kp ho13 hk14 (own_neb ho13 (by decide) hB813)
      repeat (first|apply cD|apply cE|apply cH|refine cV rfl rfl rfl rfl (by first|(apply qas<;>(exact rfl))|fail) ?_)
      refine ret2 (Or.inl rfl) Tryz.results33 (ResV.agg rfl rfl hr rfl) (by first | exact ResV.tmp rfl | exact ResV.agg rfl rfl (by assumption) (by first | exact dc_length _ | exact nc_length _ | exact rc_length _ _ _ | exact ec_length _ | exact dl_length _ _ _ _ | rfl) | exact ResV.cell rfl rfl (by assumption)) ?_
      have kz : Kp [] w w14 := ((k8.trans k812).trans_new hk13 (new1 (by omega))).trans_new hk14 (new1 (by omega))
      refine ⟨_, by rw [e], kz, ?_⟩
      rw [e, if_pos rfl]
      have hLe : (L.take i ++ [x]) ++ L.drop i = L.take i ++ x :: L.drop i := by simp
      rw [hLe] at ho14
      rw [hLe]
      obtain ⟨a', c', he, hc', hS'⟩ := Sl.own wic_length ho14 rfl
      cases he
      refine ⟨L.take i ++ x :: L.drop i, P, a12, aP, c12, cP, rfl, hS', hc', hD.sp.kp0 kz, hD.cp, fun y hy => ?_, own_oka ho14, hD.nP, ?_, hD.srP, Ty.own ho14, hD.tyP.kp0 kz⟩
      · rcases List.mem_append.1 hy with hy | hy
        · exact (hD.inn y (List.mem_of_mem_take hy)).kp0 kz
        · rcases List.mem_cons.1 hy with rfl | hy
          · rw [hx]
            exact ⟨hS.kp0 kz, hcap, fun hn => absurd hpn hn⟩
          · exact (hD.inn y (List.mem_of_mem_drop hy)).kp0 kz
      · refine srt_ins hD.srL hkn (fun j hj hji => hup j hj hji) (fun h => ⟨h, hstop h⟩) (by rw [hx]; rfl)
end Go.Proofs.YtajllbdeoopimaaGreat
namespace Go.Proofs.YtajllbdeoopimaaGreat
set_option linter.unusedVariables false
/-- A call of the document's that answers a purse, or a number that says why not. -/
def gR (m : Nat) (p : Pu) (z : Int) : GD := ⟨Cl12, zC, fun l => .tuple #[.agg l.1.toArray, .int .i64 z], fun l w => (z = 0 → ∃ s, l.1 = pc p s ∧ w.ownsRow m 84 11 s p.held.length (flt hc p.held)) ∧ (z ≠ 0 → l.1 = pc zPu (.slice none 0 0))⟩
theorem gR_stab {m : Nat} {p : Pu} {z : Int} (x : (gR m p z).X) : Stab [] ((gR m p z).phi x) := fun w w' hk h => ⟨fun e => by
  obtain ⟨s, h1, h2⟩ := h.1 e
  exact ⟨s, h1, own_kp0 h2 hk⟩, h.2⟩
theorem gR_of {m m' : Nat} {p : Pu} {z : Int} {w : World} {v : Value} (h : RPu w m' v z p) (hm : m ≤ m') : ∃ x : Cl12, v = .agg x.1.toArray ∧ (gR m p z).phi x w := by
  by_cases e : z = 0
  · obtain ⟨s, h3, h4⟩ := h.1 e
    exact ⟨⟨pc p s, pc_length _ _⟩, h3, fun _ => ⟨s, rfl, own_mono h4 hm⟩, fun h => absurd e h⟩
  · exact ⟨zC, h.2 e, fun h => absurd h e, fun _ => rfl⟩
theorem gR_one {m : Nat} {p : Pu} {z : Int} {w : World} {x : Cl12} (h : (gR m p z).phi x w) : allOne x.1 = true := by
  by_cases e : z = 0
  · obtain ⟨s, h3, h4⟩ := h.1 e
    obtain ⟨a, c, rfl, _, _⟩ := Sl.own hc_length h4 rfl
    rw [h3]
    exact pc_one _ _ _ _
  · rw [h.2 e]
    exact pc_one _ _ _ _
theorem gR_keep {m b : Nat} {p : Pu} {z : Int} {x : Cl12} {w w' : World} {cs : Array Value} (hb : Blk w b (.cells cs 36)) (hk : Kp [b] w w') (h : (gR m p z).phi x w) : (gR m p z).phi x w' := ⟨fun e => by
  obtain ⟨s, h1, h2⟩ := h.1 e
  exact ⟨s, h1, own_kp h2 hk (own_neb h2 (by decide) hb)⟩, h.2⟩
theorem rbp' (w : World) (a0 a1 a2 a3 a4 a5 a6 a7 b0 b1 b2 b3 b4 b5 b6 b7 c0 c1 c2 c3 c4 c5 c6 c7 : UInt8) (x y z : Int) : (Instr.build 102 #[(0, .agg #[bv a0, bv a1, bv a2, bv a3, bv a4, bv a5, bv a6, bv a7]), (1, .agg #[bv b0, bv b1, bv b2, bv b3, bv b4, bv b5, bv b6, bv b7]), (2, .agg #[bv c0, bv c1, bv c2, bv c3, bv c4, bv c5, bv c6, bv c7]), (3, .int .i64 x), (4, .int .i64 y), (5, .int .i64 z)]).run Tryz.prog w = .ok (.agg #[bv a0, bv a1, bv a2, bv a3, bv a4, bv a5, bv a6, bv a7, bv b0, bv b1, bv b2, bv b3, bv b4, bv b5, bv b6, bv b7, bv c0, bv c1, bv c2, bv c3, bv c4, bv c5, bv c6, bv c7, .int .i64 x, .int .i64 y, .int .i64 z]) w := by kernel_rfl
theorem rbp (r : Pr) (w : World) : (Instr.build 102 #[(0, dv r.name), (1, dv r.frm), (2, dv r.to), (3, .int .i64 r.amt), (4, .int .i64 r.inn), (5, .int .i64 r.out)]).run Tryz.prog w = .ok (.agg (prc r).toArray) w := by
  obtain ⟨⟨l, hl⟩, ⟨m, hm⟩, ⟨n, hn⟩, x, y, z⟩ := r
  match l, hl, m, hm, n, hn with
  | [a0, a1, a2, a3, a4, a5, a6, a7], _, [b0, b1, b2, b3, b4, b5, b6, b7], _, [c0, c1, c2, c3, c4, c5, c6, c7], _ => exact rbp' w a0 a1 a2 a3 a4 a5 a6 a7 b0 b1 b2 b3 b4 b5 b6 b7 c0 c1 c2 c3 c4 c5 c6 c7 x y z
theorem rbpS' (w : World) (a0 a1 a2 a3 a4 a5 a6 a7 b0 b1 b2 b3 b4 b5 b6 b7 c0 c1 c2 c3 c4 c5 c6 c7 : UInt8) (x y z : Int) : (Instr.buildSlice 29 1 #[(0, .agg #[bv a0, bv a1, bv a2, bv a3, bv a4, bv a5, bv a6, bv a7, bv b0, bv b1, bv b2, bv b3, bv b4, bv b5, bv b6, bv b7, bv c0, bv c1, bv c2, bv c3, bv c4, bv c5, bv c6, bv c7, .int .i64 x, .int .i64 y, .int .i64 z])]).run Tryz.prog w = .ok (.slice (some ⟨w.heap.size, 0, none⟩) 1 1) { w with heap := w.heap.push (.cells #[bv a0, bv a1, bv a2, bv a3, bv a4, bv a5, bv a6, bv a7, bv b0, bv b1, bv b2, bv b3, bv b4, bv b5, bv b6, bv b7, bv c0, bv c1, bv c2, bv c3, bv c4, bv c5, bv c6, bv c7, .int .i64 x, .int .i64 y, .int .i64 z] 102) } := by kernel_rfl
theorem rbpS (r : Pr) (w : World) : (Instr.buildSlice 29 1 #[(0, .agg (prc r).toArray)]).run Tryz.prog w = .ok (.slice (some ⟨w.heap.size, 0, none⟩) 1 1) { w with heap := w.heap.push (.cells (flt prc [r]).toArray 102) } := by
  rw [flt_one]
  obtain ⟨⟨l, hl⟩, ⟨m, hm⟩, ⟨n, hn⟩, x, y, z⟩ := r
  match l, hl, m, hm, n, hn with
  | [a0, a1, a2, a3, a4, a5, a6, a7], _, [b0, b1, b2, b3, b4, b5, b6, b7], _, [c0, c1, c2, c3, c4, c5, c6, c7], _ => exact rbpS' w a0 a1 a2 a3 a4 a5 a6 a7 b0 b1 b2 b3 b4 b5 b6 b7 c0 c1 c2 c3 c4 c5 c6 c7 x y z
/-- Where a neighbour stands. -/
theorem DocL.at {w : World} {v : Value} {win : Int} {s : ST} {L : List Wi} {P : List Pr} {aL aP : Option Addr} {cL cP : Nat} (h : DocL w v win s L P aL aP cL cP) {k : Dg} {p : Pu} {side : Int} (hk : alook s.l k = some (p, side)) : ∃ i, ∃ hi : i < L.length, idxZ (fun y : Wi => decide (y.peer = k)) L = (i : Int) ∧ ∃ a c, L[i] = ⟨k, p, a, c, side⟩ ∧ Sl hc 11 w a p.held ∧ p.held.length ≤ c := by
  obtain ⟨i, hi, e1, e2⟩ := (idx_of h.srL k).2 _ hk
  refine ⟨i, hi, e1, L[i].a, L[i].c, ?_, ?_, ?_⟩
  · have h1 : L[i].peer = k := congrArg (·.1) e2
    have h2 : L[i].p = p := congrArg (·.2.1) e2
    have h3 : L[i].side = side := congrArg (·.2.2) e2
    rw [← h1, ← h2, ← h3]
  · have h2 : L[i].p = p := congrArg (·.2.1) e2
    rw [← h2]
    exact (h.inn _ (List.getElem_mem hi)).sl
  · have h2 : L[i].p = p := congrArg (·.2.1) e2
    rw [← h2]
    exact (h.inn _ (List.getElem_mem hi)).cap
theorem DocL.row {w : World} {v : Value} {win : Int} {s : ST} {L : List Wi} {P : List Pr} {aL aP : Option Addr} {cL cP : Nat} (h : DocL w v win s L P aL aP cL cP) {i : Nat} (hi : i < L.length) {k : Dg} {p : Pu} {side : Int} {a : Option Addr} {c : Nat} (e : L[i] = ⟨k, p, a, c, side⟩) : ∃ b o, aL = some ⟨b, o, none⟩ ∧ Row w b (o + i * 21 + 8) (pc p (.slice a p.held.length c)) ∧ Row w b (o + i * 21 + 20) [.int .i64 side] := by
  obtain ⟨b, o, h1, h2⟩ := h.sl.at hi
  rw [e] at h2
  obtain ⟨-, h3, h4⟩ := wic_rowsO h2
  exact ⟨b, o, h1, h3, h4⟩
theorem own_blk {w : World} {base n cap sz g : Nat} {T : TypeId} {xs : List Value} (ho : w.ownsRow base T sz (.slice (some ⟨g, 0, none⟩) n cap) n xs) : base ≤ g ∧ ∃ cs, Blk w g (.cells cs T) := by
  rcases ho.2 with ⟨h, _⟩ | ⟨g', cap', cur, h, hb, hg, _⟩
  · cases h
  · cases h
    exact ⟨hb, cur, hg⟩
attribute [local irreducible] CG NG SG Vals Der Row Blk MapIs IterAt chkL DerX
set_option maxHeartbeats 64000000 in
theorem rfwd_e {w : World} {v : Value} {win : Int} {s : ST} (hD : DocE w v win s) (hi : Inv win s) (hm : s.m.length ≤ 1000) (now : Int) (f t n : Dg) (amt til : Int) (hwin : 0 ≤ win ∧ win ≤ 1048576) (htil : til ≤ 9223372036854775807) :
    Calls Tryz.prog 30 #[v, .int .i64 now, dv f, dv t, dv n, .int .i64 amt, .int .i64 til] w (fun e w' => ∃ v', e = .returned (.tuple #[v', .int .i64 (fwdZ win s now f t n amt til)]) ∧ Kp [] w w' ∧ DocE w' v' win (if fwdZ win s now f t n amt til = 0 then fwdS win s f t n amt til else s)) := by
  obtain ⟨L, P, aL, aP, cL, cP, hD⟩ := hD
  have hv := hD.eq
  subst hv
  have hLl := hD.lenL
  have hPl := hD.lenP
  have hl16 := hi.len
  obtain ⟨hw0, hw1⟩ := hwin
  refine enterL (args := [dhv win (.slice aL L.length cL) (.slice aP P.length cP), .int .i64 now, dv f, dv t, dv n, .int .i64 amt, .int .i64 til]) Tryz.func30 rfl Tryz.ntmps30 rfl ?_
  have old : ∀ {w' : World} {z : Int}, Kp [] w w' → fwdZ win s now f t n amt til = z → z ≠ 0 → ∃ v', Ending.returned (.tuple #[dhv win (.slice aL L.length cL) (.slice aP P.length cP), .int .i64 z]) = .returned (.tuple #[v', .int .i64 (fwdZ win s now f t n amt til)]) ∧ Kp [] w w' ∧ DocE w' v' win (if fwdZ win s now f t n amt til = 0 then fwdS win s f t n amt til else s) := fun hk e hz => ⟨_, by rw [e], hk, by rw [e, if_neg hz]; exact ⟨L, P, aL, aP, cL, cP, hD.kp0 hk⟩⟩
  repeat (first|apply cA|apply cB)
  refine SG.box rfl rfl rfl (by exact rho_of rfl) (fun b7 w1 hk1 hb7 hB7 => ?_)
  refine SG.box rfl rfl rfl (by exact rho_of rfl) (fun b9 w2 hk2 hb9 hB9 => ?_)
  refine SG.box rfl rfl rfl (by exact rho_of rfl) (fun b10 w3 hk3 hb10 hB10 => ?_)
  refine SG.box rfl rfl rfl (by exact rho_of rfl) (fun b11 w4 hk4 hb11 hB11 => ?_)
  refine SG.alloc rfl rfl rfl (fun b14 w5 hk5 hb14 hB14 => ?_)
  have l7 := hB7.lt
  have l9 := hB9.lt
  have l10 := hB10.lt
  have l11 := hB11.lt
  have l14 := hB14.lt
  have s1 := hk1.size
  have s2 := hk2.size
  have s3 := hk3.size
  have s4 := hk4.size
  have s5 := hk5.size
  have hB7 : Blk w5 b7 (.cells (dhc win (.slice aL L.length cL) (.slice aP P.length cP)).toArray 31) := (((hB7.kp0 hk2).kp0 hk3).kp0 hk4).kp0 hk5
  have hB9 : Blk w5 b9 (.cells (dc f).toArray 32) := ((hB9.kp0 hk3).kp0 hk4).kp0 hk5
  have hB10 : Blk w5 b10 (.cells (dc t).toArray 32) := (hB10.kp0 hk4).kp0 hk5
  have hB11 : Blk w5 b11 (.cells (dc n).toArray 32) := hB11.kp0 hk5
  have k5 := (((hk1.trans hk2).trans hk3).trans hk4).trans hk5
  clear hk1 hk2 hk3 hk4 hk5
  repeat (first|apply cA|apply cB|apply cD|apply cE|refine cV rfl rfl rfl rfl (by first|((first|apply qmv|apply qas)<;>(exact rfl))|fail) ?_)
  refine SG.ret rfl rfl rfl (vs := [.int .i64 now]) (by repeat' (first | exact True.intro | exact rho_of rfl | refine And.intro ?_ ?_)) (rtime_spec now w5) (fun w6 hk6 => ?_)
  have hB7 := hB7.kp0 hk6
  have hB9 := hB9.kp0 hk6
  have hB10 := hB10.kp0 hk6
  have hB11 := hB11.kp0 hk6
  have hB14 := hB14.kp0 hk6
  have k6 := k5.trans hk6
  have s6 := hk6.size
  obtain ⟨rw0, rw1, rw2, rwa⟩ := dhc_rows hB7
  by_cases hfar : farP now
  rotate_left
  · have e : fwdZ win s now f t n amt til = 2 := by
      unfold fwdZ
      rw [if_pos]
      unfold farP at hfar
      omega
    rw [decide_eq_false hfar]
    repeat (first|apply cD|apply cE|refine cV rfl rfl rfl rfl (by first|(apply qnt<;>(exact rfl))|fail) ?_)
    refine dA rfl (by exact rho_of rfl) rfl ?_
    repeat (first|apply cA|apply cB|refine cV rfl rfl rfl rfl (by first|(apply qla<;>(first|exact rfl|assumption|exact List.not_mem_nil))|fail) ?_)
    refine SG.setAll (l := dhc win (.slice aL L.length cL) (.slice aP P.length cP)) rfl rfl (by exact rho_of rfl) (by exact rho_of rfl) hB14 rfl rfl rfl (fun wz hkz hBz => ?_)
    have hr : Row wz b14 0 (dhc win (.slice aL L.length cL) (.slice aP P.length cP)) := Row.all hBz rfl
    repeat (first|apply cD|apply cE|apply cH|apply cK|refine cV rfl rfl rfl rfl (by first|(apply qas<;>(exact rfl))|fail) ?_)
    refine ret2 (Or.inl rfl) Tryz.results30 (ResV.agg rfl rfl hr rfl) (by first | exact ResV.tmp rfl | exact ResV.agg rfl rfl (by assumption) (by first | exact dc_length _ | exact nc_length _ | exact rc_length _ _ _ | exact ec_length _ | exact dl_length _ _ _ _ | rfl) | exact ResV.cell rfl rfl (by assumption)) ?_
    exact old (k6.trans_new hkz (new1 (by omega))) e (by decide)
  have hfar' : 0 ≤ now ∧ now ≤ 1099511627776 := hfar
  rw [decide_eq_true hfar]
  have e0 : fwdZ win s now f t n amt til = (match alook s.l f, alook s.l t with
  | some x, some y => if f = t then 1 else if (alook s.m n).isSome then 7 else if til < now + win then 20
      else if chgZ x.1 (holdE x.1 (nearQ x n amt til)) ≠ 0 then chgZ x.1 (holdE x.1 (nearQ x n amt til)) else chgZ y.1 (holdE y.1 (farQ win y n amt til))
  | _, _ => 9) := if_neg (by omega)
  have hR9 : Row w6 b9 0 (dc f) := Row.all hB9 rfl
  have hR10 : Row w6 b10 0 (dc t) := Row.all hB10 rfl
  repeat (first|apply cD|apply cE|refine cV rfl rfl rfl rfl (by first|(apply qnt<;>(exact rfl))|fail) ?_)
  refine dB rfl (by exact rho_of rfl) rfl ?_
  have hD6 := hD.kp0 k6
  obtain ⟨zi, ezi⟩ : ∃ z, z = idxZ (fun y : Wi => decide (y.peer = f)) L := ⟨_, rfl⟩
  obtain ⟨zk, ezk⟩ : ∃ z, z = idxZ (fun y : Wi => decide (y.peer = t)) L := ⟨_, rfl⟩
  repeat (first|apply cA|apply cE|apply cF)
  refine CG.draw0 mixed [0, 1, 2, 3, 4, 5, 6, 7] [] (by kernel_rfl) ?_
  repeat (refine cY rfl rfl rfl (by first|(apply qla<;>(first|exact rfl|assumption|exact List.not_mem_nil|apply dc_length))|fail) ?_)
  refine Der.call rfl rfl rfl (vs := [dhv win (.slice aL L.length cL) (.slice aP P.length cP), dv f]) (by repeat' (first | exact True.intro | exact rho_of rfl | refine And.intro ?_ ?_)) (fun W hk _ => (rfind_spec f (hD6.sl.kp0 hk) (by omega) : Ret Tryz.prog 15 #[dhv win (.slice aL L.length cL) (.slice aP P.length cP), dv f] W (.int .i64 (idxZ (fun y : Wi => decide (y.peer = f)) L)))) ?_
  rw [← ezi]
  repeat (refine cY rfl rfl rfl (by first|(apply qla<;>(first|exact rfl|assumption|exact List.not_mem_nil|apply dc_length))|fail) ?_)
  refine Der.call rfl rfl rfl (vs := [dhv win (.slice aL L.length cL) (.slice aP P.length cP), dv t]) (by repeat' (first | exact True.intro | exact rho_of rfl | refine And.intro ?_ ?_)) (fun W hk _ => (rfind_spec t (hD6.sl.kp0 hk) (by omega) : Ret Tryz.prog 15 #[dhv win (.slice aL L.length cL) (.slice aP P.length cP), dv t] W (.int .i64 (idxZ (fun y : Wi => decide (y.peer = t)) L)))) ?_
  rw [← ezk]
  repeat (refine cY rfl rfl rfl (by first|(apply qas<;>(exact rfl))|fail) ?_)
  refine Der.fin (fun w7 hk7 _ _ => ?_)
  have hB7 := hB7.kp0 hk7
  have hB9 := hB9.kp0 hk7
  have hB10 := hB10.kp0 hk7
  have hB11 := hB11.kp0 hk7
  have hB14 := hB14.kp0 hk7
  have k7 := k6.trans hk7
  have s7 := hk7.size
  clear rw0 rw1 rw2 rwa hR9 hR10 hD6
  obtain ⟨rw0, rw1, rw2, rwa⟩ := dhc_rows hB7
  cases hf : alook s.l f with
  | none =>
    have e : fwdZ win s now f t n amt til = 9 := by rw [e0, hf]
    have g : zi = -1 := ezi.trans ((idx_of hD.srL f).1 hf)
    have g' : zi < 0 := by omega
    repeat (first | first|apply cA|apply cB|apply cD|apply cE|refine cV rfl rfl rfl rfl (by first|((first|apply qmv|apply qpk|apply qls)<;>(first|exact rfl|exact dct (by first|assumption|omega)|fail))|fail) ?_ | refine cX rfl rfl ?_)
    refine dA rfl (by exact rho_of rfl) rfl ?_
    repeat (first|apply cA|apply cB|refine cV rfl rfl rfl rfl (by first|(apply qla<;>(first|exact rfl|assumption|exact List.not_mem_nil))|fail) ?_)
    refine SG.setAll (l := dhc win (.slice aL L.length cL) (.slice aP P.length cP)) rfl rfl (by exact rho_of rfl) (by exact rho_of rfl) hB14 rfl rfl rfl (fun wz hkz hBz => ?_)
    have hr : Row wz b14 0 (dhc win (.slice aL L.length cL) (.slice aP P.length cP)) := Row.all hBz rfl
    repeat (first|apply cD|apply cE|apply cH|apply cK|refine cV rfl rfl rfl rfl (by first|(apply qas<;>(exact rfl))|fail) ?_)
    refine ret2 (Or.inl rfl) Tryz.results30 (ResV.agg rfl rfl hr rfl) (by first | exact ResV.tmp rfl | exact ResV.agg rfl rfl (by assumption) (by first | exact dc_length _ | exact nc_length _ | exact rc_length _ _ _ | exact ec_length _ | exact dl_length _ _ _ _ | rfl) | exact ResV.cell rfl rfl (by assumption)) ?_
    exact old (k7.trans_new hkz (new1 (by omega))) e (by decide)
  | some x =>
  obtain ⟨xp, xs⟩ := x
  obtain ⟨i, hi', ei, xa, xc, eLi, hSx, hcx⟩ := hD.at hf
  rw [ei] at ezi
  subst ezi
  have gi : ¬ (i : Int) < 0 := by omega
  cases ht : alook s.l t with
  | none =>
    have e : fwdZ win s now f t n amt til = 9 := by rw [e0, hf, ht]
    have g : zk = -1 := ezk.trans ((idx_of hD.srL t).1 ht)
    have g' : zk < 0 := by omega
    repeat (first|apply cA|apply cB|apply cD|apply cE|refine cV rfl rfl rfl rfl (by first|((first|apply qmv|apply qpk|apply qls)<;>(first|exact rfl|exact dct (by first|assumption|omega)|exact dcf (by first|assumption|omega)|fail))|fail) ?_)
    refine dA rfl (by exact rho_of rfl) rfl ?_
    repeat (first|apply cA|apply cB|refine cV rfl rfl rfl rfl (by first|(apply qla<;>(first|exact rfl|assumption|exact List.not_mem_nil))|fail) ?_)
    refine SG.setAll (l := dhc win (.slice aL L.length cL) (.slice aP P.length cP)) rfl rfl (by exact rho_of rfl) (by exact rho_of rfl) hB14 rfl rfl rfl (fun wz hkz hBz => ?_)
    have hr : Row wz b14 0 (dhc win (.slice aL L.length cL) (.slice aP P.length cP)) := Row.all hBz rfl
    repeat (first|apply cD|apply cE|apply cH|apply cK|refine cV rfl rfl rfl rfl (by first|(apply qas<;>(exact rfl))|fail) ?_)
    refine ret2 (Or.inl rfl) Tryz.results30 (ResV.agg rfl rfl hr rfl) (by first | exact ResV.tmp rfl | exact ResV.agg rfl rfl (by assumption) (by first | exact dc_length _ | exact nc_length _ | exact rc_length _ _ _ | exact ec_length _ | exact dl_length _ _ _ _ | rfl) | exact ResV.cell rfl rfl (by assumption)) ?_
    exact old (k7.trans_new hkz (new1 (by omega))) e (by decide)
  | some y =>
  obtain ⟨yp, ys⟩ := y
  obtain ⟨k, hk', ek, ya, yc, eLk, hSy, hcy⟩ := hD.at ht
  rw [ek] at ezk
  subst ezk
  have gk : ¬ (k : Int) < 0 := by omega
  have e1 : fwdZ win s now f t n amt til = (if f = t then 1 else if (alook s.m n).isSome then 7 else if til < now + win then 20
      else if chgZ xp (holdE xp (nearQ (xp, xs) n amt til)) ≠ 0 then chgZ xp (holdE xp (nearQ (xp, xs) n amt til)) else chgZ yp (holdE yp (farQ win (yp, ys) n amt til))) := by rw [e0, hf, ht]
  clear e0
  repeat (first|apply cA|apply cB|apply cD|apply cE|refine cV rfl rfl rfl rfl (by first|((first|apply qmv|apply qpk|apply qls)<;>(first|exact rfl|exact dcf (by first|assumption|omega)|fail))|fail) ?_)
  refine dB rfl (by exact rho_of rfl) rfl ?_
  by_cases gft : f = t
  · have e : fwdZ win s now f t n amt til = 1 := by rw [e1, if_pos gft]
    have g : (i : Int) = (k : Int) := by rw [← ei, ← ek, gft]
    repeat (first|apply cA|apply cB|apply cD|apply cE|apply cF|refine cV rfl rfl rfl rfl (by first|((first|apply qei|apply qmv|apply qei)<;>(first|exact rfl|exact dct (by first|assumption|omega)|fail))|fail) ?_)
    refine dA rfl (by exact rho_of rfl) rfl ?_
    repeat (first|apply cA|apply cB|refine cV rfl rfl rfl rfl (by first|(apply qla<;>(first|exact rfl|assumption|exact List.not_mem_nil))|fail) ?_)
    refine SG.setAll (l := dhc win (.slice aL L.length cL) (.slice aP P.length cP)) rfl rfl (by exact rho_of rfl) (by exact rho_of rfl) hB14 rfl rfl rfl (fun wz hkz hBz => ?_)
    have hr : Row wz b14 0 (dhc win (.slice aL L.length cL) (.slice aP P.length cP)) := Row.all hBz rfl
    repeat (first|apply cD|apply cE|apply cH|apply cK|refine cV rfl rfl rfl rfl (by first|(apply qas<;>(exact rfl))|fail) ?_)
    refine ret2 (Or.inl rfl) Tryz.results30 (ResV.agg rfl rfl hr rfl) (by first | exact ResV.tmp rfl | exact ResV.agg rfl rfl (by assumption) (by first | exact dc_length _ | exact nc_length _ | exact rc_length _ _ _ | exact ec_length _ | exact dl_length _ _ _ _ | rfl) | exact ResV.cell rfl rfl (by assumption)) ?_
    exact old (k7.trans_new hkz (new1 (by omega))) e (by decide)
  rw [if_neg gft] at e1
  have gik : i ≠ k := by
    rintro rfl
    rw [eLi] at eLk
    injection eLk with h1
    exact gft h1
  have g : ¬ (i : Int) = (k : Int) := by omega
  have hR11 : Row w7 b11 0 (dc n) := Row.all hB11 rfl
  repeat (first|apply cA|apply cB|apply cD|apply cE|apply cF|refine cV rfl rfl rfl rfl (by first|((first|apply qei|apply qmv|apply qei)<;>(first|exact rfl|exact dcf (by first|assumption|omega)|fail))|fail) ?_)
  refine dB rfl (by exact rho_of rfl) rfl ?_
  repeat (first|apply cA|apply cB|apply cE|apply cF|refine cV rfl rfl rfl rfl (by first|(apply qla<;>(first|exact rfl|assumption|exact List.not_mem_nil|apply dc_length))|fail) ?_)
  obtain ⟨zn, ezn⟩ : ∃ z, z = idxZ (fun y : Pr => decide (y.name = n)) P := ⟨_, rfl⟩
  refine SG.ret rfl rfl rfl (vs := [dhv win (.slice aL L.length cL) (.slice aP P.length cP), dv n]) (by repeat' (first | exact True.intro | exact rho_of rfl | refine And.intro ?_ ?_)) (rnamed_spec (L := L) n (hD.sp.kp0 k7) (by omega)) (fun w8 hk8 => ?_)
  rw [← ezn]
  have hB7 := hB7.kp0 hk8
  have hB9 := hB9.kp0 hk8
  have hB10 := hB10.kp0 hk8
  have hB11 := hB11.kp0 hk8
  have hB14 := hB14.kp0 hk8
  have k8 := k7.trans hk8
  have s8 := hk8.size
  clear rw0 rw1 rw2 rwa hR11
  obtain ⟨rw0, rw1, rw2, rwa⟩ := dhc_rows hB7
  cases hn : alook s.m n with
  | some r =>
    have e : fwdZ win s now f t n amt til = 7 := by rw [e1, hn]; rfl
    obtain ⟨j, hj, ej, -⟩ := (idx_of hD.srP n).2 r hn
    have g2 : zn = (j : Int) := ezn.trans ej
    subst g2
    have g3 : (0 : Int) ≤ (j : Int) := by omega
    repeat (first|apply cD|apply cE|refine cV rfl rfl rfl rfl (by first|(apply qge<;>(first|exact rfl|exact dct (by first|assumption|omega)|fail))|fail) ?_)
    refine dA rfl (by exact rho_of rfl) rfl ?_
    repeat (first|apply cA|apply cB|refine cV rfl rfl rfl rfl (by first|(apply qla<;>(first|exact rfl|assumption|exact List.not_mem_nil))|fail) ?_)
    refine SG.setAll (l := dhc win (.slice aL L.length cL) (.slice aP P.length cP)) rfl rfl (by exact rho_of rfl) (by exact rho_of rfl) hB14 rfl rfl rfl (fun wz hkz hBz => ?_)
    have hr : Row wz b14 0 (dhc win (.slice aL L.length cL) (.slice aP P.length cP)) := Row.all hBz rfl
    repeat (first|apply cD|apply cE|apply cH|apply cK|refine cV rfl rfl rfl rfl (by first|(apply qas<;>(exact rfl))|fail) ?_)
    refine ret2 (Or.inl rfl) Tryz.results30 (ResV.agg rfl rfl hr rfl) (by first | exact ResV.tmp rfl | exact ResV.agg rfl rfl (by assumption) (by first | exact dc_length _ | exact nc_length _ | exact rc_length _ _ _ | exact ec_length _ | exact dl_length _ _ _ _ | rfl) | exact ResV.cell rfl rfl (by assumption)) ?_
    exact old (k8.trans_new hkz (new1 (by omega))) e (by decide)
  | none =>
  have g2 : zn = -1 := ezn.trans ((idx_of hD.srP n).1 hn)
  have g2' : ¬ (0 : Int) ≤ zn := by omega
  rw [hn, if_neg (by decide)] at e1
  repeat (first|apply cD|apply cE|refine cV rfl rfl rfl rfl (by first|(apply qge<;>(first|exact rfl|exact dcf (by first|assumption|omega)|fail))|fail) ?_)
  refine dB rfl (by exact rho_of rfl) rfl ?_
  by_cases g4 : til < now
  · have e : fwdZ win s now f t n amt til = 20 := by rw [e1, if_pos (by omega)]
    repeat (first | first|apply cA|apply cB|apply cD|apply cE|apply cF|refine cV rfl rfl rfl rfl (by first|((first|apply qmv|apply qpk|apply qls)<;>(first|exact rfl|exact dct (by first|assumption|omega)|fail))|fail) ?_ | refine cX rfl rfl ?_)
    refine dA rfl (by exact rho_of rfl) rfl ?_
    repeat (first|apply cA|apply cB|refine cV rfl rfl rfl rfl (by first|(apply qla<;>(first|exact rfl|assumption|exact List.not_mem_nil))|fail) ?_)
    refine SG.setAll (l := dhc win (.slice aL L.length cL) (.slice aP P.length cP)) rfl rfl (by exact rho_of rfl) (by exact rho_of rfl) hB14 rfl rfl rfl (fun wz hkz hBz => ?_)
    have hr : Row wz b14 0 (dhc win (.slice aL L.length cL) (.slice aP P.length cP)) := Row.all hBz rfl
    repeat (first|apply cD|apply cE|apply cH|apply cK|refine cV rfl rfl rfl rfl (by first|(apply qas<;>(exact rfl))|fail) ?_)
    refine ret2 (Or.inl rfl) Tryz.results30 (ResV.agg rfl rfl hr rfl) (by first | exact ResV.tmp rfl | exact ResV.agg rfl rfl (by assumption) (by first | exact dc_length _ | exact nc_length _ | exact rc_length _ _ _ | exact ec_length _ | exact dl_length _ _ _ _ | rfl) | exact ResV.cell rfl rfl (by assumption)) ?_
    exact old (k8.trans_new hkz (new1 (by omega))) e (by decide)
  by_cases g5 : til - win < now
  · have e : fwdZ win s now f t n amt til = 20 := by rw [e1, if_pos (by omega)]
    repeat (first|apply cA|apply cB|apply cD|apply cE|apply cF|refine cV rfl rfl rfl rfl (by first|((first|apply qmv|apply qlc|apply qfa|apply qpk|apply qls|apply qsb)<;>(first|exact rfl|assumption|exact Ar.mk (by omega)|exact dct (by first|assumption|omega)|exact dcf (by first|assumption|omega)|exact List.not_mem_nil|fail))|fail) ?_)
    refine dA rfl (by exact rho_of rfl) rfl ?_
    repeat (first|apply cA|apply cB|refine cV rfl rfl rfl rfl (by first|(apply qla<;>(first|exact rfl|assumption|exact List.not_mem_nil))|fail) ?_)
    refine SG.setAll (l := dhc win (.slice aL L.length cL) (.slice aP P.length cP)) rfl rfl (by exact rho_of rfl) (by exact rho_of rfl) hB14 rfl rfl rfl (fun wz hkz hBz => ?_)
    have hr : Row wz b14 0 (dhc win (.slice aL L.length cL) (.slice aP P.length cP)) := Row.all hBz rfl
    repeat (first|apply cD|apply cE|apply cH|apply cK|refine cV rfl rfl rfl rfl (by first|(apply qas<;>(exact rfl))|fail) ?_)
    refine ret2 (Or.inl rfl) Tryz.results30 (ResV.agg rfl rfl hr rfl) (by first | exact ResV.tmp rfl | exact ResV.agg rfl rfl (by assumption) (by first | exact dc_length _ | exact nc_length _ | exact rc_length _ _ _ | exact ec_length _ | exact dl_length _ _ _ _ | rfl) | exact ResV.cell rfl rfl (by assumption)) ?_
    exact old (k8.trans_new hkz (new1 (by omega))) e (by decide)
  rw [if_neg (by omega)] at e1
  repeat (first|apply cA|apply cB|apply cD|apply cE|apply cF|refine cV rfl rfl rfl rfl (by first|((first|apply qmv|apply qlc|apply qfa|apply qpk|apply qls|apply qsb)<;>(first|exact rfl|assumption|exact Ar.mk (by omega)|exact dcf (by first|assumption|omega)|exact List.not_mem_nil|fail))|fail) ?_)
  refine dB rfl (by exact rho_of rfl) rfl ?_
  have hD8 := hD.kp0 k8
  obtain ⟨ba, oa, haL, t8, t20⟩ := hD8.row hi' eLi
  subst haL
  have hR11 : Row w8 b11 0 (dc n) := Row.all hB11 rfl
  have x16 : xp.held.length ≤ 1000 := Nat.le_trans (hi.ok _ _ hf).1.l (by decide)
  have xsd : xs = 0 ∨ xs = 1 := (hi.ok _ _ hf).2
  have hbh : ∀ W : World, (Instr.build 84 #[(0, dv n), (1, .int .i64 amt), (2, .int .i64 (1 - xs)), (3, .int .i64 til)]).run Tryz.prog W = .ok (hv (nearQ (xp, xs) n amt til)) W := fun W => bbckH (nearQ (xp, xs) n amt til) W
  repeat (first|apply cA|apply cE|apply cF)
  refine CG.free mixed 23 [0, 1, 2, 3, 4, 5, 6, 7, 8, 9, 10, 11, 12, 13, 14, 15, 16, 17, 18, 19, 20, 21, 22] [(17, gR w8.heap.size (nextP (holdQ xp (nearQ (xp, xs) n amt til))) (chgZ xp (holdE xp (nearQ (xp, xs) n amt til)))), (21, gV w8.heap.size 36 12), (22, gP w8.heap.size 36)] (by kernel_rfl) (by intro p hp y; simp at hp; rcases hp with rfl | rfl | rfl; exact gR_stab y; exact gV_stab y; exact gP_stab y) ?_
  repeat (refine cZ rfl rfl rfl rfl (by first|((first|apply qmv|apply qlc|apply qla|apply qfa|apply qix|apply qsb)<;>(first|exact rfl|assumption|exact Ar.mk (by omega)|exact List.not_mem_nil|apply dc_length|apply pc_length|fail))|fail) ?_)
  refine cZ rfl rfl rfl rfl (vals_build rfl hbh) ?_
  refine DerX.callE (vs := [pv xp (.slice xa xp.held.length xc), hv (nearQ (xp, xs) n amt til)]) (gR w8.heap.size (nextP (holdQ xp (nearQ (xp, xs) n amt til))) (chgZ xp (holdE xp (nearQ (xp, xs) n amt til)))) rfl rfl rfl rfl (by repeat' (first | exact True.intro | exact rho_of rfl | refine And.intro ?_ ?_)) (fun W hk _ => (rhold_spec xp (nearQ (xp, xs) n amt til) ((hSx.kp0 k8).kp0 hk) x16 hcx).mono (fun e w' hh => ?_)) (fun v1 => ?_)
  · obtain ⟨v, he, hk', h1⟩ := hh
    obtain ⟨x', h3, h4⟩ := gR_of h1 hk.size
    exact ⟨x', by rw [he, h3]; rfl, h4, hk'⟩
  repeat (refine cZ rfl rfl rfl rfl (by first|((first|apply qmv|apply qxt)<;>(exact rfl))|fail) ?_)
  refine DerX.allocV rfl rfl rfl rfl rfl (Nat.le_refl _) (fun b18 => ?_)
  refine DerX.storeV (l := v1.1) rfl rfl rfl rfl (by kernel_rfl) (by exact rho_of rfl) (by exact rho_of rfl) v1.2 (Nat.le_refl _) (fun w hk hF => ⟨hF _ (.head _) (by kernel_rfl), gR_one (w := w) (hF _ (.tail _ (.head _)) (by kernel_rfl))⟩) ?_ ?_
  · intro p hp hne y w w' cs g1 g2 g3 g4 g5
    simp only [List.mem_cons, List.not_mem_nil, or_false] at hp
    rcases hp with rfl | rfl | rfl
    · exact gR_keep g1 g3 g5
    · exact gV_keep v1.2 g3 g4 g5
    · exact absurd rfl hne
  refine DerX.tl (fun w9 hk9 hF => ?_)
  have hb18 : w8.heap.size ≤ b18 ∧ Blk w9 b18 (.cells v1.1.toArray 36) := hF _ (.head _)
  have hg9 := hF _ (.tail _ (.tail _ (.head _)))
  clear hF t8 t20 rw0 rw1 rw2 rwa hR11 hbh
  have hB7 := hB7.kp0 hk9
  have hB9 := hB9.kp0 hk9
  have hB10 := hB10.kp0 hk9
  have hB11 := hB11.kp0 hk9
  have hB14 := hB14.kp0 hk9
  obtain ⟨rw0, rw1, rw2, rwa⟩ := dhc_rows hB7
  have k9 := k8.trans hk9
  obtain ⟨leb18, hBb18⟩ := hb18
  have ltb18 := hBb18.lt
  have s9 := hk9.size
  by_cases gx : chgZ xp (holdE xp (nearQ (xp, xs) n amt til)) = 0
  rotate_left
  · have e : fwdZ win s now f t n amt til = chgZ xp (holdE xp (nearQ (xp, xs) n amt til)) := by rw [e1, if_pos gx]
    generalize chgZ xp (holdE xp (nearQ (xp, xs) n amt til)) = z at gx e
    repeat (first|apply cA|apply cB|apply cD|apply cE|refine cV rfl rfl rfl rfl (by first|((first|apply qni|apply qmv|apply qas|apply qni)<;>(first|exact rfl|exact dcf (by first|assumption|omega)|fail))|fail) ?_)
    refine dA rfl (by exact rho_of rfl) rfl ?_
    repeat (first|apply cA|apply cB|refine cV rfl rfl rfl rfl (by first|((first|apply qmv|apply qla)<;>(first|exact rfl|assumption|exact List.not_mem_nil))|fail) ?_)
    refine SG.setAll (l := dhc win (.slice (some ⟨ba, oa, none⟩) L.length cL) (.slice aP P.length cP)) rfl rfl (by exact rho_of rfl) (by exact rho_of rfl) hB14 rfl rfl rfl (fun wz hkz hBz => ?_)
    have hr : Row wz b14 0 (dhc win (.slice (some ⟨ba, oa, none⟩) L.length cL) (.slice aP P.length cP)) := Row.all hBz rfl
    repeat (first|apply cD|apply cE|apply cH|apply cK|refine cV rfl rfl rfl rfl (by first|(apply qas<;>(exact rfl))|fail) ?_)
    refine ret2 (Or.inl rfl) Tryz.results30 (ResV.agg rfl rfl hr rfl) (by first | exact ResV.tmp rfl | exact ResV.agg rfl rfl (by assumption) (by first | exact dc_length _ | exact nc_length _ | exact rc_length _ _ _ | exact ec_length _ | exact dl_length _ _ _ _ | rfl) | exact ResV.cell rfl rfl (by assumption)) ?_
    exact old (k9.trans_new hkz (new1 (by omega))) e gx
  obtain ⟨s1', h31, ho1⟩ := hg9.1 gx
  obtain ⟨a1, c1, rfl, hc1, -⟩ := Sl.own hc_length ho1 rfl
  rw [h31] at hBb18
  rw [gx]
  rw [if_neg (fun h => h gx)] at e1
  clear hg9 h31
  repeat (first|apply cA|apply cB|apply cD|apply cE|refine cV rfl rfl rfl rfl (by first|((first|apply qni|apply qmv|apply qas|apply qni)<;>(first|exact rfl|exact dct (by first|assumption|omega)|fail))|fail) ?_)
  refine dB rfl (by exact rho_of rfl) rfl ?_
  have hD9 := hD.kp0 k9
  obtain ⟨ba2, oa2, haL, t8, t20⟩ := hD9.row hk' eLk
  injection haL with q1
  injection q1 with q2 q3 q4
  subst q2
  subst q3
  clear q4
  have hR11 : Row w9 b11 0 (dc n) := Row.all hB11 rfl
  have x16 : yp.held.length ≤ 1000 := Nat.le_trans (hi.ok _ _ ht).1.l (by decide)
  have xsd : ys = 0 ∨ ys = 1 := (hi.ok _ _ ht).2
  have hbh : ∀ W : World, (Instr.build 84 #[(0, dv n), (1, .int .i64 amt), (2, .int .i64 ys), (3, .int .i64 (til - win))]).run Tryz.prog W = .ok (hv (farQ win (yp, ys) n amt til)) W := fun W => bbckH (farQ win (yp, ys) n amt til) W
  repeat (first|apply cA|apply cE|apply cF)
  refine CG.free mixed 25 [0, 1, 2, 3, 4, 5, 6, 7, 8, 9, 10, 11, 12, 13, 14, 15, 16, 17, 18, 19, 20, 21, 22, 23, 24] [(19, gR w9.heap.size (nextP (holdQ yp (farQ win (yp, ys) n amt til))) (chgZ yp (holdE yp (farQ win (yp, ys) n amt til)))), (23, gV w9.heap.size 36 12), (24, gP w9.heap.size 36)] (by kernel_rfl) (by intro p hp y; simp at hp; rcases hp with rfl | rfl | rfl; exact gR_stab y; exact gV_stab y; exact gP_stab y) ?_
  repeat (refine cZ rfl rfl rfl rfl (by first|((first|apply qmv|apply qlc|apply qla|apply qfa|apply qix|apply qsb)<;>(first|exact rfl|assumption|exact Ar.mk (by omega)|exact List.not_mem_nil|apply dc_length|apply pc_length|fail))|fail) ?_)
  refine cZ rfl rfl rfl rfl (vals_build rfl hbh) ?_
  refine DerX.callE (vs := [pv yp (.slice ya yp.held.length yc), hv (farQ win (yp, ys) n amt til)]) (gR w9.heap.size (nextP (holdQ yp (farQ win (yp, ys) n amt til))) (chgZ yp (holdE yp (farQ win (yp, ys) n amt til)))) rfl rfl rfl rfl (by repeat' (first | exact True.intro | exact rho_of rfl | refine And.intro ?_ ?_)) (fun W hk _ => (rhold_spec yp (farQ win (yp, ys) n amt til) ((hSy.kp0 k9).kp0 hk) x16 hcy).mono (fun e w' hh => ?_)) (fun v2 => ?_)
  · obtain ⟨v, he, hk', h1⟩ := hh
    obtain ⟨x', h3, h4⟩ := gR_of h1 hk.size
    exact ⟨x', by rw [he, h3]; rfl, h4, hk'⟩
  repeat (refine cZ rfl rfl rfl rfl (by first|((first|apply qmv|apply qxt)<;>(exact rfl))|fail) ?_)
  refine DerX.allocV rfl rfl rfl rfl rfl (Nat.le_refl _) (fun b20 => ?_)
  refine DerX.storeV (l := v2.1) rfl rfl rfl rfl (by kernel_rfl) (by exact rho_of rfl) (by exact rho_of rfl) v2.2 (Nat.le_refl _) (fun w hk hF => ⟨hF _ (.head _) (by kernel_rfl), gR_one (w := w) (hF _ (.tail _ (.head _)) (by kernel_rfl))⟩) ?_ ?_
  · intro p hp hne y w w' cs g1 g2 g3 g4 g5
    simp only [List.mem_cons, List.not_mem_nil, or_false] at hp
    rcases hp with rfl | rfl | rfl
    · exact gR_keep g1 g3 g5
    · exact gV_keep v2.2 g3 g4 g5
    · exact absurd rfl hne
  refine DerX.tl (fun w10 hk10 hF => ?_)
  have hb20 : w9.heap.size ≤ b20 ∧ Blk w10 b20 (.cells v2.1.toArray 36) := hF _ (.head _)
  have hg10 := hF _ (.tail _ (.tail _ (.head _)))
  clear hF t8 t20 rw0 rw1 rw2 rwa hR11 hbh
  have hB7 := hB7.kp0 hk10
  have hB9 := hB9.kp0 hk10
  have hB10 := hB10.kp0 hk10
  have hB11 := hB11.kp0 hk10
  have hB14 := hB14.kp0 hk10
  obtain ⟨rw0, rw1, rw2, rwa⟩ := dhc_rows hB7
  have k10 := k9.trans hk10
  obtain ⟨leb20, hBb20⟩ := hb20
  have ltb20 := hBb20.lt
  have s10 := hk10.size
  have hBb18 := hBb18.kp0 hk10
  have ho1 := own_kp0 ho1 hk10
  by_cases gy : chgZ yp (holdE yp (farQ win (yp, ys) n amt til)) = 0
  rotate_left
  · have e : fwdZ win s now f t n amt til = chgZ yp (holdE yp (farQ win (yp, ys) n amt til)) := e1
    generalize chgZ yp (holdE yp (farQ win (yp, ys) n amt til)) = z at gy e
    repeat (first|apply cA|apply cB|apply cD|apply cE|refine cV rfl rfl rfl rfl (by first|((first|apply qni|apply qmv|apply qas|apply qni)<;>(first|exact rfl|exact dcf (by first|assumption|omega)|fail))|fail) ?_)
    refine dA rfl (by exact rho_of rfl) rfl ?_
    repeat (first|apply cA|apply cB|refine cV rfl rfl rfl rfl (by first|((first|apply qmv|apply qla)<;>(first|exact rfl|assumption|exact List.not_mem_nil))|fail) ?_)
    refine SG.setAll (l := dhc win (.slice (some ⟨ba, oa, none⟩) L.length cL) (.slice aP P.length cP)) rfl rfl (by exact rho_of rfl) (by exact rho_of rfl) hB14 rfl rfl rfl (fun wz hkz hBz => ?_)
    have hr : Row wz b14 0 (dhc win (.slice (some ⟨ba, oa, none⟩) L.length cL) (.slice aP P.length cP)) := Row.all hBz rfl
    repeat (first|apply cD|apply cE|apply cH|apply cK|refine cV rfl rfl rfl rfl (by first|(apply qas<;>(exact rfl))|fail) ?_)
    refine ret2 (Or.inl rfl) Tryz.results30 (ResV.agg rfl rfl hr rfl) (by first | exact ResV.tmp rfl | exact ResV.agg rfl rfl (by assumption) (by first | exact dc_length _ | exact nc_length _ | exact rc_length _ _ _ | exact ec_length _ | exact dl_length _ _ _ _ | rfl) | exact ResV.cell rfl rfl (by assumption)) ?_
    exact old (k10.trans_new hkz (new1 (by omega))) e gy
  obtain ⟨s2', h32, ho2⟩ := hg10.1 gy
  obtain ⟨a2, c2, rfl, hc2, -⟩ := Sl.own hc_length ho2 rfl
  rw [h32] at hBb20
  rw [gy]
  have e : fwdZ win s now f t n amt til = 0 := e1.trans gy
  have eS : fwdS win s f t n amt til = ⟨aput (aput s.l f (nextP (holdQ xp (nearQ (xp, xs) n amt til)), xs)) t (nextP (holdQ yp (farQ win (yp, ys) n amt til)), ys), aput s.m n (fwdR win f t n amt til)⟩ := by
    unfold fwdS
    rw [hf, ht]
  clear hg10 h32 e1 old
  obtain ⟨p1, hp1⟩ : ∃ p : Pu, p = nextP (holdQ xp (nearQ (xp, xs) n amt til)) := ⟨_, rfl⟩
  obtain ⟨p2, hp2⟩ : ∃ p : Pu, p = nextP (holdQ yp (farQ win (yp, ys) n amt til)) := ⟨_, rfl⟩
  rw [← hp1] at hBb18 ho1 hc1 eS
  rw [← hp2] at hBb20 ho2 hc2 eS
  clear hp1 hp2
  repeat (first|apply cA|apply cB|apply cD|apply cE|refine cV rfl rfl rfl rfl (by first|((first|apply qni|apply qmv|apply qas|apply qni)<;>(first|exact rfl|exact dct (by first|assumption|omega)|fail))|fail) ?_)
  refine dB rfl (by exact rho_of rfl) rfl ?_
  repeat (first|apply cA|apply cB|apply cE|apply cF|refine cV rfl rfl rfl rfl (by first|(apply qla<;>(first|exact rfl|assumption|exact List.not_mem_nil))|fail) ?_)
  refine SG.call rfl rfl rfl (vs := [dhv win (.slice (some ⟨ba, oa, none⟩) L.length cL) (.slice aP P.length cP)]) (by repeat' (first | exact True.intro | exact rho_of rfl | refine And.intro ?_ ?_)) ((rcopies_spec (hD.sl.kp0 k10) (hD.sp.kp0 k10) (by omega) (by omega)).mono (fun e' w11 hh => ?_))
  obtain ⟨vL, vP, he, hoL, hoP, hk11⟩ := hh
  refine ⟨_, he, ?_⟩
  clear he
  obtain ⟨g, cg, rfl, -⟩ := own_slice hoL (by omega)
  obtain ⟨aQ, cQ, rfl, -, -⟩ := Sl.own prc_length hoP rfl
  have l7 := hB7.lt
  have l9 := hB9.lt
  have l10 := hB10.lt
  have l11 := hB11.lt
  have l14 := hB14.lt
  have l18 := hBb18.lt
  have l20 := hBb20.lt
  have hB7 := hB7.kp0 hk11
  have hB9 := hB9.kp0 hk11
  have hB10 := hB10.kp0 hk11
  have hB11 := hB11.kp0 hk11
  have hB14 := hB14.kp0 hk11
  have hBb18 := hBb18.kp0 hk11
  have hBb20 := hBb20.kp0 hk11
  have ho1 := own_kp0 ho1 hk11
  have ho2 := own_kp0 ho2 hk11
  have k11 := k10.trans hk11
  clear rw0 rw1 rw2 rwa
  refine SG.setAll (l := dhc win (.slice (some ⟨g, 0, none⟩) L.length cg) (.slice aQ P.length cQ)) rfl rfl (by exact rho_of rfl) (by exact rho_of rfl) hB7 rfl rfl rfl (fun w12 hk12 hB712 => ?_)
  have hoL := own_kp hoL hk12 (own_neb hoL (by decide) hB7)
  have hoP := own_kp hoP hk12 (own_neb hoP (by decide) hB7)
  have ho1 := own_kp ho1 hk12 (own_neb ho1 (by decide) hB7)
  have ho2 := own_kp ho2 hk12 (own_neb ho2 (by decide) hB7)
  have k12 := k11.trans_new hk12 (new1 (by omega))
  have hB7 := hB712
  clear hB712
  have hB9 := hB9.kp hk12 (nm1 (by omega))
  have hB10 := hB10.kp hk12 (nm1 (by omega))
  have hB11 := hB11.kp hk12 (nm1 (by omega))
  have hB14 := hB14.kp hk12 (nm1 (by omega))
  have hBb18 := hBb18.kp hk12 (nm1 (by omega))
  have hBb20 := hBb20.kp hk12 (nm1 (by omega))
  obtain ⟨rw0, rw1, rw2, rwa⟩ := dhc_rows hB7
  obtain ⟨hgge, curL, hgB⟩ := own_blk hoL
  have hglt := hgB.lt
  have hR18 : Row w12 b18 0 (pc p1 (.slice a1 p1.held.length c1)) := Row.all hBb18 rfl
  have hR20 : Row w12 b20 0 (pc p2 (.slice a2 p2.held.length c2)) := Row.all hBb20 rfl
  obtain ⟨X, hX⟩ : ∃ x : Wi, x = ⟨f, p1, a1, c1, xs⟩ := ⟨_, rfl⟩
  obtain ⟨Y, hY⟩ : ∃ x : Wi, x = ⟨t, p2, a2, c2, ys⟩ := ⟨_, rfl⟩
  have gg1 : b7 ∉ [g] := nm1 (by omega)
  have gg2 : b18 ∉ [g] := nm1 (by omega)
  have gg3 : b20 ∉ [g] := nm1 (by omega)
  repeat (first|apply cA|apply cD|apply cE)
  refine CG.tailg mixed 11 [0, 1, 2, 3, 4, 5, 6, 7, 8, 9, 10] [10] [g] (fun w' => w'.ownsRow w10.heap.size 98 21 (.slice (some ⟨g, 0, none⟩) L.length cg) L.length (flt wic L)) (by kernel_rfl) hoL (fun w w' hk h => own_kp0 h hk) ?_
  repeat (refine cY rfl rfl rfl (by first|((first|apply qmv|apply qlc|apply qla|apply qfa|apply qix)<;>(first|exact rfl|assumption|exact Ar.mk (by omega)|apply pc_length|fail))|fail) ?_)
  refine Der.storeR (fun w' => w'.ownsRow w10.heap.size 98 21 (.slice (some ⟨g, 0, none⟩) L.length cg) L.length (flt wic (L.set i X))) rfl rfl rfl rfl (by exact rho_of rfl) (by exact rho_of rfl) (fun _ _ _ h => h) (fun w w' hk h => own_kp0 h hk) (fun w h => ?_) ?_
  · obtain ⟨w', q1, q2, q3⟩ := own_part (P := Tryz.prog) (T' := 36) (f := ty.i36) (y := X) (v := pv p1 (.slice a1 p1.held.length c1)) wic_length h rfl hi' (dc f) (pc xp (.slice xa xp.held.length xc)) (pc p1 (.slice a1 p1.held.length c1)) [.int .i64 xs] (by rw [eLi]; rfl) (by rw [hX]; rfl) (by rw [pc_length, pc_length]) rfl (pc_length _ _) (pc_one _ _ _ _)
    rw [dc_length] at q1
    exact ⟨w', q1, q2, q3⟩
  refine Der.tl (fun w13 hk13 _ hoL13 => ?_)
  have hk'' : k < (L.set i X).length := by rw [List.length_set]; exact hk'
  have eLk2 : (L.set i X)[k] = ⟨t, yp, ya, yc, ys⟩ := by rw [List.getElem_set_ne gik, eLk]
  clear hR18 hR20 rw0 rw1 rw2 rwa
  repeat (first|refine cV rfl rfl rfl rfl (by first|((first|apply qfa|apply qix)<;>(first|exact rfl|exact Ar.mk (by omega)|fail))|fail) ?_)
  refine SG.storeP (enc := wic) (k := k) (y := Y) (dc t) (pc yp (.slice ya yp.held.length yc)) (pc p2 (.slice a2 p2.held.length c2)) [.int .i64 ys] wic_length rfl rfl (by exact rho_of rfl) (by rw [dc_length]) (by exact rho_of rfl) hoL13 (by rw [List.length_set]) hk'' (by rw [eLk2]; rfl) (by rw [hY]; rfl) (by rw [pc_length, pc_length]) rfl (pc_length _ _) (pc_one _ _ _ _) (fun w14 hk14 hoL14 => ?_)
  have hk34 : Kp [g] w12 w14 := hk13.trans hk14
  have hoP := own_kp hoP hk34 (own_neb hoP (by decide) hgB)
  have ho1 := own_kp ho1 hk34 (own_neb ho1 (by decide) hgB)
  have ho2 := own_kp ho2 hk34 (own_neb ho2 (by decide) hgB)
  have k14 : Kp [] w w14 := k12.trans_new hk34 (new1 (by omega))
  clear hoL hoL13
  have hB7 := hB7.kp hk34 (nm1 (by omega))
  have hB9 := hB9.kp hk34 (nm1 (by omega))
  have hB10 := hB10.kp hk34 (nm1 (by omega))
  have hB11 := hB11.kp hk34 (nm1 (by omega))
  have hB14 := hB14.kp hk34 (nm1 (by omega))
  have hBb18 := hBb18.kp hk34 (nm1 (by omega))
  have hBb20 := hBb20.kp hk34 (nm1 (by omega))
  clear gg1 gg2 gg3
  obtain ⟨aQ', cQ', hq, hcQ, hSQ⟩ := Sl.own prc_length hoP rfl
  cases hq
  obtain ⟨r, hr⟩ : ∃ x : Pr, x = fwdR win f t n amt til := ⟨_, rfl⟩
  have hbr : ∀ W : World, (Instr.build 102 #[(0, dv n), (1, dv f), (2, dv t), (3, .int .i64 amt), (4, .int .i64 til), (5, .int .i64 (til - win))]).run Tryz.prog W = .ok (.agg (prc r).toArray) W := fun W => by rw [hr]; exact rbp (fwdR win f t n amt til) W
  have rw2 := (dhc_rows hB7).2.2.1
  have hR11 : Row w14 b11 0 (dc n) := Row.all hB11 rfl
  have r2w := rw2
  repeat (first|apply cA|apply cB|apply cD|apply cE|apply cG|refine cV rfl rfl rfl rfl (by first|(apply qas<;>(exact rfl))|fail) ?_)
  refine CG.loop (X := Nat) (fun j => [(5, .int .i64 amt), (6, .int .i64 til), (7, .pointer (some ⟨b7, 0, none⟩)), (9, .pointer (some ⟨b9, 0, none⟩)), (10, .pointer (some ⟨b10, 0, none⟩)), (11, .pointer (some ⟨b11, 0, none⟩)), (14, .pointer (some ⟨b14, 0, none⟩)), (21, .int .i64 (j : Int))])
    (fun j w' => j ≤ P.length ∧ Kp [] w14 w' ∧ ∀ i (hi : i < P.length), i < j → dkey P[i].name < dkey n) (fun j => P.length - j) 0 ⟨Nat.zero_le _, Kp.refl _ _, fun j hj h => absurd h (by omega)⟩ (by (repeat' (first | exact True.intro | exact rfl | refine And.intro ?_ ?_))) ?_
  clear rw2
  rintro j w15 ⟨hj15, hk15, hup⟩
  have rw2 := r2w.kp0 hk15
  have q5 := hR11.kp0 hk15
  have k15 := k14.trans hk15
  refine cA ?_
  refine cA ?_
  refine CG.cut_then (fun L' w' => ∃ b : Bool, SubE [(5, .int .i64 amt), (6, .int .i64 til), (7, .pointer (some ⟨b7, 0, none⟩)), (9, .pointer (some ⟨b9, 0, none⟩)), (10, .pointer (some ⟨b10, 0, none⟩)), (11, .pointer (some ⟨b11, 0, none⟩)), (14, .pointer (some ⟨b14, 0, none⟩)), (21, .int .i64 (j : Int)), (141, .bool b)] L' ∧ Kp [] w15 w' ∧ (b = true ↔ ∃ h : j < P.length, dkey P[j].name < dkey n)) ?_ ?_
  · by_cases hlt : j < P.length
    · have g4' : (j : Int) < (P.length : Int) := by omega
      obtain ⟨bp, op, rfl, hri⟩ := (hSQ.kp0 hk15).at hlt
      have hr0 : Row w15 bp (op + j * 27) (dc P[j].name) := hri.part [] (dc P[j].name) (dc P[j].frm ++ (dc P[j].to ++ [.int .i64 P[j].amt, .int .i64 P[j].inn, .int .i64 P[j].out])) (by simp [prc])
      clear hri
      skip
      refine CG.draw0 mixed [0, 1, 2, 3, 4, 5, 6, 7, 8, 9, 10, 11, 12, 13, 14] [] (by kernel_rfl) ?_
      repeat (refine cY rfl rfl rfl (by first|((first|apply qmv|apply qlc|apply qla|apply qfa|apply qix|apply qls|apply qln)<;>(first|exact rfl|assumption|exact Ar.mk (by omega)|exact dct (by first|assumption|omega)|exact List.not_mem_nil|apply dc_length|fail))|fail) ?_)
      refine Der.call rfl rfl rfl (vs := [dv P[j].name, dv n]) (by repeat' (first | exact True.intro | exact rho_of rfl | refine And.intro ?_ ?_)) (fun W hk _ => rless_spec P[j].name n W) ?_
      repeat (refine cY rfl rfl rfl (by first|(apply qpk<;>(exact rfl))|fail) ?_)
      refine Der.fin (fun w16 hk16 _ _ => ?_)
      exact NG.cut ⟨decide (dkey P[j].name < dkey n), by (repeat' (first | exact True.intro | exact rfl | refine And.intro ?_ ?_)), hk16, ⟨fun h => ⟨hlt, of_decide_eq_true h⟩, fun ⟨_, h⟩ => decide_eq_true h⟩⟩
    · have g4' : ¬ (j : Int) < (P.length : Int) := by omega
      skip
      refine CG.draw0 mixed [0, 1, 2, 3, 4, 5, 6, 7, 8, 9, 10, 11, 12, 13, 14] [] (by kernel_rfl) ?_
      repeat (first | refine cY rfl rfl rfl (by first|((first|apply qmv|apply qlc|apply qfa|apply qpk|apply qls|apply qln)<;>(first|exact rfl|assumption|exact dcf (by first|assumption|omega)|exact List.not_mem_nil|fail))|fail) ?_ | refine Der.skip rfl rfl ?_)
      refine Der.fin (fun w16 hk16 _ _ => ?_)
      exact NG.cut ⟨false, by (repeat' (first | exact True.intro | exact rfl | refine And.intro ?_ ?_)), hk16, ⟨fun h => (by cases h), fun ⟨h, _⟩ => absurd h hlt⟩⟩
  rintro L' w16 ⟨b, hLL, hk16, hbb⟩
  refine CG.to _ hLL ?_
  clear hLL L' rw2 q5
  cases b with
  | true =>
    obtain ⟨hlt, hless⟩ := hbb.1 rfl
    refine dA rfl (by exact rho_of rfl) rfl ?_
    repeat (first|apply cB|apply cD|apply cE|apply cF|apply cG|apply cU|refine cV rfl rfl rfl rfl (by first|((first|apply qmv|apply qas|apply qad)<;>(first|exact rfl|exact Ar.mk (by omega)|fail))|fail) ?_)
    refine NG.round (j + 1) (by (repeat' (first | exact True.intro | exact rfl | refine And.intro ?_ ?_))) ⟨by omega, hk15.trans hk16, fun i' hi2 hij => ?_⟩ (by omega)
    by_cases ej : i' = j
    · subst ej
      exact hless
    · exact hup i' hi2 (by omega)
  | false =>
    have hstop : ∀ h : j < P.length, ¬ dkey P[j].name < dkey n := fun h h2 => by cases hbb.2 ⟨h, h2⟩
    have hk146 : Kp [] w14 w16 := hk15.trans hk16
    have k16 := k14.trans hk146
    have hoP := own_kp0 hoP hk146
    have hoL16 := own_kp0 hoL14 hk146
    have ho1 := own_kp0 ho1 hk146
    have ho2 := own_kp0 ho2 hk146
    have hB7 := hB7.kp0 hk146
    have hB9 := hB9.kp0 hk146
    have hB10 := hB10.kp0 hk146
    have hB11 := hB11.kp0 hk146
    have hB14 := hB14.kp0 hk146
    obtain ⟨rw0, -, rw2, -⟩ := dhc_rows hB7
    have hR9 : Row w16 b9 0 (dc f) := Row.all hB9 rfl
    have hR10 : Row w16 b10 0 (dc t) := Row.all hB10 rfl
    have hR11 : Row w16 b11 0 (dc n) := Row.all hB11 rfl
    have hSP := hSQ.kp0 hk146
    have hPt : (P.take j).length = j := by rw [List.length_take]; omega
    have hPd : (P.drop j).length = P.length - j := List.length_drop
    have g5' : (j : Int) ≤ (P.length : Int) := by omega
    have hicl : j ≤ cQ := by omega
    refine dB rfl (by exact rho_of rfl) rfl ?_
    repeat (first|apply cA|apply cE|apply cJ|apply cM|refine cN rfl ?_)
    refine CG.free mixed 17 [1, 2, 3, 4, 6, 7, 8, 9, 10, 11, 12, 13, 14, 15, 0, 5, 16] [(0, gE w16.heap.size 102), (5, gO w16.heap.size 102 prc 27 (P.take j)), (16, gS w16.heap.size prc 27 [r])] (by kernel_rfl) (by intro q hq y; simp at hq; rcases hq with rfl | rfl | rfl; exact gE_stab y; exact gO_stab y; exact gS_stab y) ?_
    repeat (refine cZ rfl rfl rfl rfl (by first|((first|apply qto|apply qmv|apply qlc|apply qla|apply qfa|apply qsb|apply qto)<;>(first|exact rfl|assumption|exact Ar.mk (by omega)|exact List.not_mem_nil|apply dc_length|fail))|fail) ?_)
    refine cZ rfl rfl rfl rfl (vals_build rfl hbr) ?_
    refine DerX.empty rfl rfl rfl (Nat.le_refl _) (fun b0 => ?_)
    refine DerX.cloneO (a := aQ) (c := cQ) (P.take j) prc_length prc_one rfl rfl rfl rfl (by exact rho_of rfl) (by rw [hPt]; exact rho_of rfl) rfl rfl rfl (by simp only [maxLen]; omega) (by show (P.take j).length * 48 ≤ _; omega) (fun W hk hF => ⟨(hSP.take j).kp0 hk, hF _ (.head _) (by kernel_rfl)⟩) (fun v => ?_)
    refine DerX.buildSlice [r] prc_length rfl rfl rfl rfl rfl rfl (Nat.le_refl _) (rbpS r) (fun a10 c10 => ?_)
    refine DerX.tl (fun w17 hk17 hF => ?_)
    have hS10 : SlF w16.heap.size prc 27 w17 a10 c10 [r] := hF _ (.head _)
    have ho17 : w17.ownsRow w16.heap.size 102 27 v (P.take j).length (flt prc (P.take j)) := hF _ (.tail _ (.head _))
    clear hF rw0 rw2 hR9 hR10 hR11 hbr
    refine SG.appO (enc := prc) (xs := P.take j) (ys := [r]) (base := w16.heap.size) rfl rfl rfl (by exact rho_of rfl) (by exact rho_of rfl) rfl rfl rfl rfl prc_length prc_one ho17 hS10.sl (by simp only [maxLen, List.length_cons, List.length_nil]; omega) (by show ((P.take j).length + 1) * 48 ≤ _; omega) hk17.size (fun v18 w18 hk18 ho18 _ => ?_)
    have k168 : Kp [] w16 w18 := hk17.trans_new hk18 (own_new ho17 (Nat.le_refl _))
    have hB7 := hB7.kp0 k168
    have hB14 := hB14.kp0 k168
    have hoL18 := own_kp0 hoL16 k168
    have ho1' := ho1
    have ho2' := ho2
    have ho1 := own_kp0 ho1 k168
    have ho2 := own_kp0 ho2 k168
    have hSP18 := hSP.kp0 k168
    have rw2 := (dhc_rows hB7).2.2.1
    have z14 := hk14.size
    have z146 := hk146.size
    have z13 := hk13.size
    have z12 := hk12.size
    have z11 := hk11.size
    have z168 := k168.size
    rcases own_oka hoP with ⟨rfl, hc0⟩ | ⟨bq, oq, rfl⟩
    · have hP0 : P = [] := by
        cases hPe : P with
        | nil => rfl
        | cons y P' =>
          rw [hPe] at hSP
          obtain ⟨b, o, h, -⟩ := hSP.at (i := 0) (by simp)
          cases h
      subst hP0
      subst hc0
      obtain rfl : j = 0 := by simpa using hj15
      repeat (first|apply cA|apply cB|apply cD|apply cE|refine cV rfl rfl rfl rfl (by first|((first|apply qmv|apply qas|apply qlc|apply qfa)<;>(first|exact rfl|assumption|exact List.not_mem_nil))|fail) ?_)
      refine cV rfl rfl rfl rfl (vals_fromnil rfl rfl) ?_
      refine SG.appO (enc := prc) (xs := ([] : List Pr).take 0 ++ [r]) (ys := ([] : List Pr).drop 0) (base := w16.heap.size) rfl rfl rfl (by exact rho_of rfl) (by exact rho_of rfl) rfl rfl rfl rfl prc_length prc_one ho18 Sl.nil (by rw [List.length_append, hPt, hPd]; simp only [maxLen, List.length_cons, List.length_nil]; omega) (by rw [List.length_append, hPt, hPd]; show (0 + 1 + (([] : List Pr).length - 0)) * 48 ≤ _; omega) k168.size (fun v20 w20 hk20 ho20 _ => ?_)
      have k1620 : Kp [] w16 w20 := k168.trans_new hk20 (own_new ho18 (Nat.le_refl _))
      have hB720 := hB7.kp hk20 (fun hm => by have := own_geB ho18 _ (ownB_mem hm); have := hB7.lt; omega)
      have hB1420 := hB14.kp hk20 (fun hm => by have := own_geB ho18 _ (ownB_mem hm); have := hB14.lt; omega)
      have k820 : Kp (ownB v18) w18 w20 := hk20
      have hoL20 := own_kp hoL18 hk20 (fun b hb hm => by have := own_geB ho18 _ (ownB_mem hm); have := own_lt hoL16 b hb; omega)
      have ho120 := own_kp ho1 hk20 (fun b hb hm => by have := own_geB ho18 _ (ownB_mem hm); have := own_lt ho1' b hb; omega)
      have ho220 := own_kp ho2 hk20 (fun b hb hm => by have := own_geB ho18 _ (ownB_mem hm); have := own_lt ho2' b hb; omega)
      obtain ⟨a20, c20, rfl, _, _⟩ := Sl.own prc_length ho20 rfl
      clear rw2
      repeat (first|refine cV rfl rfl rfl rfl (by first|(apply qfa<;>(exact rfl))|fail) ?_)
      refine SG.store rfl rfl (by exact rho_of rfl) (by exact rho_of rfl) hB720 rfl (by show 0 + 2 + 1 ≤ _; simp [dhc_length]) rfl (fun w21 hk21 hB721 => ?_)
      have hB721 : Blk w21 b7 (.cells (spl (dhc win (.slice (some ⟨g, 0, none⟩) L.length cg) (.slice none ([] : List Pr).length 0)) 2 [.slice a20 ((([] : List Pr).take 0 ++ [r]) ++ ([] : List Pr).drop 0).length c20]).toArray 31) := hB721
      rw [dhc_set2] at hB721
      have ho21 := own_kp ho20 hk21 (own_neb ho20 (by decide) hB720)
      have hoL21 := own_kp hoL20 hk21 (own_neb hoL20 (by decide) hB720)
      have ho121 := own_kp ho120 hk21 (own_neb ho120 (by decide) hB720)
      have ho221 := own_kp ho220 hk21 (own_neb ho220 (by decide) hB720)
      have hB1421 := hB1420.kp hk21 (nm1 (by omega))
      obtain ⟨-, -, -, r3⟩ := dhc_rows hB721
      repeat (first|apply cA|apply cB|apply cD|apply cE|refine cV rfl rfl rfl rfl (by first|(apply qla<;>(first|exact rfl|assumption|exact List.not_mem_nil))|fail) ?_)
      refine SG.setAll (l := dhc win (.slice (some ⟨g, 0, none⟩) L.length cg) (.slice a20 ((([] : List Pr).take 0 ++ [r]) ++ ([] : List Pr).drop 0).length c20)) rfl rfl (by exact rho_of rfl) (by exact rho_of rfl) hB1421 rfl rfl rfl (fun w22 hk22 hB1422 => ?_)
      have hrr : Row w22 b14 0 (dhc win (.slice (some ⟨g, 0, none⟩) L.length cg) (.slice a20 ((([] : List Pr).take 0 ++ [r]) ++ ([] : List Pr).drop 0).length c20)) := Row.all hB1422 rfl
      have ho22 := own_kp ho21 hk22 (own_neb ho21 (by decide) hB1421)
      have hoL22 := own_kp hoL21 hk22 (own_neb hoL21 (by decide) hB1421)
      have ho122 := own_kp ho121 hk22 (own_neb ho121 (by decide) hB1421)
      have ho222 := own_kp ho221 hk22 (own_neb ho221 (by decide) hB1421)
      repeat (first|apply cD|apply cE|apply cH|refine cV rfl rfl rfl rfl (by first|(apply qas<;>(exact rfl))|fail) ?_)
      refine ret2 (Or.inl rfl) Tryz.results30 (ResV.agg rfl rfl hrr rfl) (by first | exact ResV.tmp rfl | exact ResV.agg rfl rfl (by assumption) (by first | exact dc_length _ | exact nc_length _ | exact rc_length _ _ _ | exact ec_length _ | exact dl_length _ _ _ _ | rfl) | exact ResV.cell rfl rfl (by assumption)) ?_
      have kz : Kp [] w w22 := ((k16.trans k1620).trans_new hk21 (new1 (by omega))).trans_new hk22 (new1 (by omega))
      refine ⟨_, by rw [e], kz, ?_⟩
      rw [e, if_pos rfl, eS]
      have hPe : (([] : List Pr).take 0 ++ [r]) ++ ([] : List Pr).drop 0 = ([] : List Pr).take 0 ++ r :: ([] : List Pr).drop 0 := by simp
      rw [hPe] at ho22
      rw [hPe]
      obtain ⟨a', c', he, hc', hS'⟩ := Sl.own prc_length ho22 rfl
      cases he
      have hll : L.length = ((L.set i X).set k Y).length := by rw [List.length_set, List.length_set]
      obtain ⟨aw, cw, he, hcw, hSw⟩ := Sl.own wic_length hoL22 hll.symm
      cases he
      obtain ⟨ax, cx, he, hcx', hSx'⟩ := Sl.own hc_length ho122 rfl
      cases he
      obtain ⟨ay, cy, he, hcy', hSy'⟩ := Sl.own hc_length ho222 rfl
      cases he
      refine ⟨(L.set i X).set k Y, ([] : List Pr).take 0 ++ r :: ([] : List Pr).drop 0, some ⟨g, 0, none⟩, a20, cg, c20, by rw [← hll]; rfl, hSw, by rw [← hll]; exact hcw, hS', hc', fun y hy => ?_, Or.inr ⟨_, _, rfl⟩, own_oka ho22, ?_, ?_, Ty.own hoL22, Ty.own ho22⟩
      · rcases List.mem_or_eq_of_mem_set hy with hy | rfl
        · rcases List.mem_or_eq_of_mem_set hy with hy | rfl
          · exact (hD.inn y hy).kp0 kz
          · rw [hX]
            exact ⟨hSx', hcx', Ty.own ho122⟩
        · rw [hY]
          exact ⟨hSy', hcy', Ty.own ho222⟩
      · exact srt_set (srt_set hD.srL hi' (by rw [eLi]; rfl) (by rw [hX]; rfl)) hk'' (by rw [eLk2]; rfl) (by rw [hY]; rfl)
      · refine srt_ins hD.srP hn (fun j' hj hji => hup j' hj hji) (fun h => ⟨h, hstop h⟩) (by rw [hr]; rfl)
    · skip
      repeat (first|apply cA|apply cB|apply cD|apply cE|refine cV rfl rfl rfl rfl (by first|((first|apply qfr|apply qmv|apply qas|apply qlc|apply qfa|apply qfr)<;>(first|exact rfl|assumption|exact Ar.mk (by omega)|exact List.not_mem_nil|fail))|fail) ?_)
      refine SG.appO (enc := prc) (xs := P.take j ++ [r]) (ys := P.drop j) (base := w16.heap.size) rfl rfl rfl (by exact rho_of rfl) (by exact rho_of rfl) hPd.symm rfl rfl rfl prc_length prc_one ho18 (hSP18.fromJ hcQ) (by rw [List.length_append, hPt, hPd]; simp only [maxLen, List.length_cons, List.length_nil]; omega) (by rw [List.length_append, hPt, hPd]; show (j + 1 + (P.length - j)) * 48 ≤ _; omega) k168.size (fun v20 w20 hk20 ho20 _ => ?_)
      have k1620 : Kp [] w16 w20 := k168.trans_new hk20 (own_new ho18 (Nat.le_refl _))
      have hB720 := hB7.kp hk20 (fun hm => by have := own_geB ho18 _ (ownB_mem hm); have := hB7.lt; omega)
      have hB1420 := hB14.kp hk20 (fun hm => by have := own_geB ho18 _ (ownB_mem hm); have := hB14.lt; omega)
      have k820 : Kp (ownB v18) w18 w20 := hk20
      have hoL20 := own_kp hoL18 hk20 (fun b hb hm => by have := own_geB ho18 _ (ownB_mem hm); have := own_lt hoL16 b hb; omega)
      have ho120 := own_kp ho1 hk20 (fun b hb hm => by have := own_geB ho18 _ (ownB_mem hm); have := own_lt ho1' b hb; omega)
      have ho220 := own_kp ho2 hk20 (fun b hb hm => by have := own_geB ho18 _ (ownB_mem hm); have := own_lt ho2' b hb; omega)
      obtain ⟨a20, c20, rfl, _, _⟩ := Sl.own prc_length ho20 rfl
      clear rw2
      repeat (first|refine cV rfl rfl rfl rfl (by first|(apply qfa<;>(exact rfl))|fail) ?_)
      refine SG.store rfl rfl (by exact rho_of rfl) (by exact rho_of rfl) hB720 rfl (by show 0 + 2 + 1 ≤ _; simp [dhc_length]) rfl (fun w21 hk21 hB721 => ?_)
      have hB721 : Blk w21 b7 (.cells (spl (dhc win (.slice (some ⟨g, 0, none⟩) L.length cg) (.slice (some ⟨bq, oq, none⟩) P.length cQ)) 2 [.slice a20 ((P.take j ++ [r]) ++ P.drop j).length c20]).toArray 31) := hB721
      rw [dhc_set2] at hB721
      have ho21 := own_kp ho20 hk21 (own_neb ho20 (by decide) hB720)
      have hoL21 := own_kp hoL20 hk21 (own_neb hoL20 (by decide) hB720)
      have ho121 := own_kp ho120 hk21 (own_neb ho120 (by decide) hB720)
      have ho221 := own_kp ho220 hk21 (own_neb ho220 (by decide) hB720)
      have hB1421 := hB1420.kp hk21 (nm1 (by omega))
      obtain ⟨-, -, -, r3⟩ := dhc_rows hB721
      repeat (first|apply cA|apply cB|apply cD|apply cE|refine cV rfl rfl rfl rfl (by first|(apply qla<;>(first|exact rfl|assumption|exact List.not_mem_nil))|fail) ?_)
      refine SG.setAll (l := dhc win (.slice (some ⟨g, 0, none⟩) L.length cg) (.slice a20 ((P.take j ++ [r]) ++ P.drop j).length c20)) rfl rfl (by exact rho_of rfl) (by exact rho_of rfl) hB1421 rfl rfl rfl (fun w22 hk22 hB1422 => ?_)
      have hrr : Row w22 b14 0 (dhc win (.slice (some ⟨g, 0, none⟩) L.length cg) (.slice a20 ((P.take j ++ [r]) ++ P.drop j).length c20)) := Row.all hB1422 rfl
      have ho22 := own_kp ho21 hk22 (own_neb ho21 (by decide) hB1421)
      have hoL22 := own_kp hoL21 hk22 (own_neb hoL21 (by decide) hB1421)
      have ho122 := own_kp ho121 hk22 (own_neb ho121 (by decide) hB1421)
      have ho222 := own_kp ho221 hk22 (own_neb ho221 (by decide) hB1421)
      repeat (first|apply cD|apply cE|apply cH|refine cV rfl rfl rfl rfl (by first|(apply qas<;>(exact rfl))|fail) ?_)
      refine ret2 (Or.inl rfl) Tryz.results30 (ResV.agg rfl rfl hrr rfl) (by first | exact ResV.tmp rfl | exact ResV.agg rfl rfl (by assumption) (by first | exact dc_length _ | exact nc_length _ | exact rc_length _ _ _ | exact ec_length _ | exact dl_length _ _ _ _ | rfl) | exact ResV.cell rfl rfl (by assumption)) ?_
      have kz : Kp [] w w22 := ((k16.trans k1620).trans_new hk21 (new1 (by omega))).trans_new hk22 (new1 (by omega))
      refine ⟨_, by rw [e], kz, ?_⟩
      rw [e, if_pos rfl, eS]
      have hPe : (P.take j ++ [r]) ++ P.drop j = P.take j ++ r :: P.drop j := by simp
      rw [hPe] at ho22
      rw [hPe]
      obtain ⟨a', c', he, hc', hS'⟩ := Sl.own prc_length ho22 rfl
      cases he
      have hll : L.length = ((L.set i X).set k Y).length := by rw [List.length_set, List.length_set]
      obtain ⟨aw, cw, he, hcw, hSw⟩ := Sl.own wic_length hoL22 hll.symm
      cases he
      obtain ⟨ax, cx, he, hcx', hSx'⟩ := Sl.own hc_length ho122 rfl
      cases he
      obtain ⟨ay, cy, he, hcy', hSy'⟩ := Sl.own hc_length ho222 rfl
      cases he
      refine ⟨(L.set i X).set k Y, P.take j ++ r :: P.drop j, some ⟨g, 0, none⟩, a20, cg, c20, by rw [← hll]; rfl, hSw, by rw [← hll]; exact hcw, hS', hc', fun y hy => ?_, Or.inr ⟨_, _, rfl⟩, own_oka ho22, ?_, ?_, Ty.own hoL22, Ty.own ho22⟩
      · rcases List.mem_or_eq_of_mem_set hy with hy | rfl
        · rcases List.mem_or_eq_of_mem_set hy with hy | rfl
          · exact (hD.inn y hy).kp0 kz
          · rw [hX]
            exact ⟨hSx', hcx', Ty.own ho122⟩
        · rw [hY]
          exact ⟨hSy', hcy', Ty.own ho222⟩
      · exact srt_set (srt_set hD.srL hi' (by rw [eLi]; rfl) (by rw [hX]; rfl)) hk'' (by rw [eLk2]; rfl) (by rw [hY]; rfl)
      · refine srt_ins hD.srP hn (fun j' hj hji => hup j' hj hji) (fun h => ⟨h, hstop h⟩) (by rw [hr]; rfl)
end Go.Proofs.YtajllbdeoopimaaGreat
namespace Go.Proofs.YtajllbdeoopimaaGreat
set_option linter.unusedVariables false
attribute [local irreducible] CG NG SG Vals Der Row Blk MapIs IterAt chkL DerX
set_option maxHeartbeats 64000000 in
theorem rsettle_e {w : World} {v : Value} {win : Int} {s : ST} (hD : DocE w v win s) (hi : Inv win s) (hm : s.m.length ≤ 1000) (now : Int) (n : Dg) (over : Int) :
    Calls Tryz.prog 31 #[v, .int .i64 now, dv n, .int .i64 over] w (fun e w' => ∃ v', e = .returned (.tuple #[v', .int .i64 (setZ s now n over)]) ∧ Kp [] w w' ∧ DocE w' v' win (if setZ s now n over = 0 then setS s n over else s)) := by
  obtain ⟨L, P, aL, aP, cL, cP, hD⟩ := hD
  have hv := hD.eq
  subst hv
  have hLl := hD.lenL
  have hPl := hD.lenP
  have hl16 := hi.len
  refine enter4 Tryz.func31 rfl Tryz.ntmps31 rfl ?_
  have old : ∀ {w' : World} {z : Int}, Kp [] w w' → setZ s now n over = z → z ≠ 0 → ∃ v', Ending.returned (.tuple #[dhv win (.slice aL L.length cL) (.slice aP P.length cP), .int .i64 z]) = .returned (.tuple #[v', .int .i64 (setZ s now n over)]) ∧ Kp [] w w' ∧ DocE w' v' win (if setZ s now n over = 0 then setS s n over else s) := fun hk e hz => ⟨_, by rw [e], hk, by rw [e, if_neg hz]; exact ⟨L, P, aL, aP, cL, cP, hD.kp0 hk⟩⟩
  repeat (first|apply cA|apply cB)
  refine SG.box rfl rfl rfl (by exact rho_of rfl) (fun b4 w1 hk1 hb4 hB4 => ?_)
  refine SG.box rfl rfl rfl (by exact rho_of rfl) (fun b6 w2 hk2 hb6 hB6 => ?_)
  refine SG.alloc rfl rfl rfl (fun b8 w3 hk3 hb8 hB8 => ?_)
  have l4 := hB4.lt
  have l6 := hB6.lt
  have l8 := hB8.lt
  have s1 := hk1.size
  have s2 := hk2.size
  have s3 := hk3.size
  have hB4 : Blk w3 b4 (.cells (dhc win (.slice aL L.length cL) (.slice aP P.length cP)).toArray 31) := (hB4.kp0 hk2).kp0 hk3
  have hB6 : Blk w3 b6 (.cells (dc n).toArray 32) := hB6.kp0 hk3
  have k3 := (hk1.trans hk2).trans hk3
  clear hk1 hk2 hk3
  repeat (first|apply cA|apply cB|apply cD|apply cE|refine cV rfl rfl rfl rfl (by first|((first|apply qmv|apply qas)<;>(exact rfl))|fail) ?_)
  refine SG.ret rfl rfl rfl (vs := [.int .i64 now]) (by repeat' (first | exact True.intro | exact rho_of rfl | refine And.intro ?_ ?_)) (rtime_spec now w3) (fun w4 hk4 => ?_)
  have hB4 := hB4.kp0 hk4
  have hB6 := hB6.kp0 hk4
  have hB8 := hB8.kp0 hk4
  have k4 := k3.trans hk4
  have s4 := hk4.size
  obtain ⟨rw0, rw1, rw2, rwa⟩ := dhc_rows hB4
  by_cases hfar : farP now
  rotate_left
  · have e : setZ s now n over = 2 := by
      unfold setZ
      rw [if_pos]
      unfold farP at hfar
      omega
    rw [decide_eq_false hfar]
    repeat (first|apply cD|apply cE|refine cV rfl rfl rfl rfl (by first|(apply qnt<;>(exact rfl))|fail) ?_)
    refine dA rfl (by exact rho_of rfl) rfl ?_
    repeat (first|apply cA|apply cB|refine cV rfl rfl rfl rfl (by first|(apply qla<;>(first|exact rfl|assumption|exact List.not_mem_nil))|fail) ?_)
    refine SG.setAll (l := dhc win (.slice aL L.length cL) (.slice aP P.length cP)) rfl rfl (by exact rho_of rfl) (by exact rho_of rfl) hB8 rfl rfl rfl (fun wz hkz hBz => ?_)
    have hr : Row wz b8 0 (dhc win (.slice aL L.length cL) (.slice aP P.length cP)) := Row.all hBz rfl
    repeat (first|apply cD|apply cE|apply cH|apply cK|refine cV rfl rfl rfl rfl (by first|(apply qas<;>(exact rfl))|fail) ?_)
    refine ret2 (Or.inl rfl) Tryz.results31 (ResV.agg rfl rfl hr rfl) (by first | exact ResV.tmp rfl | exact ResV.agg rfl rfl (by assumption) (by first | exact dc_length _ | exact nc_length _ | exact rc_length _ _ _ | exact ec_length _ | exact dl_length _ _ _ _ | rfl) | exact ResV.cell rfl rfl (by assumption)) ?_
    exact old (k4.trans_new hkz (new1 (by omega))) e (by decide)
  have hfar' : 0 ≤ now ∧ now ≤ 1099511627776 := hfar
  rw [decide_eq_true hfar]
  have e0 : setZ s now n over = (match alook s.m n with
  | none => 9
  | some r => if r.out = -1 then 10 else if r.out < now then 19 else match alook s.l r.frm, alook s.l r.to with
    | some x, some y => if chgZ y.1 (freeE y.1 n over) ≠ 0 then chgZ y.1 (freeE y.1 n over) else chgZ x.1 (freeE x.1 n over)
    | _, _ => 0) := if_neg (by omega)
  have hR6 : Row w4 b6 0 (dc n) := Row.all hB6 rfl
  repeat (first|apply cD|apply cE|refine cV rfl rfl rfl rfl (by first|(apply qnt<;>(exact rfl))|fail) ?_)
  refine dB rfl (by exact rho_of rfl) rfl ?_
  repeat (first|apply cA|apply cB|apply cE|apply cF|refine cV rfl rfl rfl rfl (by first|(apply qla<;>(first|exact rfl|assumption|exact List.not_mem_nil|apply dc_length))|fail) ?_)
  obtain ⟨zn, ezn⟩ : ∃ z, z = idxZ (fun y : Pr => decide (y.name = n)) P := ⟨_, rfl⟩
  refine SG.ret rfl rfl rfl (vs := [dhv win (.slice aL L.length cL) (.slice aP P.length cP), dv n]) (by repeat' (first | exact True.intro | exact rho_of rfl | refine And.intro ?_ ?_)) (rnamed_spec (L := L) n (hD.sp.kp0 k4) (by omega)) (fun w5 hk5 => ?_)
  rw [← ezn]
  have hB4 := hB4.kp0 hk5
  have hB6 := hB6.kp0 hk5
  have hB8 := hB8.kp0 hk5
  have k5 := k4.trans hk5
  have s5 := hk5.size
  clear rw0 rw1 rw2 rwa hR6
  obtain ⟨rw0, rw1, rw2, rwa⟩ := dhc_rows hB4
  cases hn : alook s.m n with
  | none =>
    have e : setZ s now n over = 9 := by rw [e0, hn]
    have g : zn = -1 := ezn.trans ((idx_of hD.srP n).1 hn)
    have g' : zn < 0 := by omega
    repeat (first|apply cA|apply cB|apply cD|apply cE|refine cV rfl rfl rfl rfl (by first|((first|apply qmv|apply qas|apply qls)<;>(first|exact rfl|exact dct (by first|assumption|omega)|fail))|fail) ?_)
    refine dA rfl (by exact rho_of rfl) rfl ?_
    repeat (first|apply cA|apply cB|refine cV rfl rfl rfl rfl (by first|(apply qla<;>(first|exact rfl|assumption|exact List.not_mem_nil))|fail) ?_)
    refine SG.setAll (l := dhc win (.slice aL L.length cL) (.slice aP P.length cP)) rfl rfl (by exact rho_of rfl) (by exact rho_of rfl) hB8 rfl rfl rfl (fun wz hkz hBz => ?_)
    have hr : Row wz b8 0 (dhc win (.slice aL L.length cL) (.slice aP P.length cP)) := Row.all hBz rfl
    repeat (first|apply cD|apply cE|apply cH|apply cK|refine cV rfl rfl rfl rfl (by first|(apply qas<;>(exact rfl))|fail) ?_)
    refine ret2 (Or.inl rfl) Tryz.results31 (ResV.agg rfl rfl hr rfl) (by first | exact ResV.tmp rfl | exact ResV.agg rfl rfl (by assumption) (by first | exact dc_length _ | exact nc_length _ | exact rc_length _ _ _ | exact ec_length _ | exact dl_length _ _ _ _ | rfl) | exact ResV.cell rfl rfl (by assumption)) ?_
    exact old (k5.trans_new hkz (new1 (by omega))) e (by decide)
  | some r =>
  obtain ⟨j, hj, ej, epk⟩ := (idx_of hD.srP n).2 r hn
  have hPj : P[j] = r := congrArg (·.2) epk
  have ez := ezn.trans ej
  subst ez
  have gj : ¬ (j : Int) < 0 := by omega
  obtain ⟨⟨x, hf, -⟩, ⟨y, ht, hyo⟩, hne⟩ : (∃ x, alook s.l r.frm = some x ∧ True) ∧ (∃ y, alook s.l r.to = some y ∧ (r.out = -1 ∨ 0 ≤ r.out)) ∧ r.frm ≠ r.to := by
    obtain ⟨p1, p2, p3, ⟨x, p4, -⟩, ⟨y, p5, p6⟩⟩ := hi.pr n r hn
    exact ⟨⟨x, p4, trivial⟩, ⟨y, p5, p6.elim (fun h => Or.inl h.1) (fun h => Or.inr h.1)⟩, p2⟩
  obtain ⟨xp, xs⟩ := x
  obtain ⟨yp, ys⟩ := y
  obtain ⟨i, hi', ei, xa, xc, eLi, hSx, hcx⟩ := hD.at hf
  obtain ⟨k, hk', ek, ya, yc, eLk, hSy, hcy⟩ := hD.at ht
  have gik : i ≠ k := by
    rintro rfl
    rw [eLi] at eLk
    injection eLk with h1
    exact hne h1
  have e1 : setZ s now n over = (if r.out = -1 then 10 else if r.out < now then 19 else if chgZ yp (freeE yp n over) ≠ 0 then chgZ yp (freeE yp n over) else chgZ xp (freeE xp n over)) := by rw [e0, hn]; simp only [hf, ht]
  clear e0
  repeat (first|apply cA|apply cB|apply cD|apply cE|refine cV rfl rfl rfl rfl (by first|((first|apply qmv|apply qas|apply qls)<;>(first|exact rfl|exact dcf (by first|assumption|omega)|fail))|fail) ?_)
  refine dB rfl (by exact rho_of rfl) rfl ?_
  obtain ⟨bq, oq, haP, hrj⟩ := (hD.sp.kp0 k5).at hj
  subst haP
  rw [hPj] at hrj
  have rw2 : Row w5 b4 2 [.slice (some ⟨bq, oq, none⟩) P.length cP] := rw2
  repeat (first|apply cA|apply cB|apply cE|apply cF|refine cV rfl rfl rfl rfl (by first|((first|apply qmv|apply qlc|apply qla|apply qfa|apply qix)<;>(first|exact rfl|assumption|exact Ar.mk (by omega)|exact List.not_mem_nil|apply prc_length|fail))|fail) ?_)
  refine SG.alloc rfl rfl rfl (fun b11 w6 hk6 hb11 hB11 => ?_)
  refine SG.setAll (l := prc r) rfl rfl (by exact rho_of rfl) (by exact rho_of rfl) hB11 (prc_length r) rfl (prc_one r) (fun w7 hk7 hB11 => ?_)
  have hk57 : Kp [] w5 w7 := hk6.trans_new hk7 (new1 (by omega))
  have hB11 : Blk w7 b11 (.cells (prc r).toArray 102) := hB11
  have l11 := hB11.lt
  have hB4 := hB4.kp0 hk57
  have hB6 := hB6.kp0 hk57
  have hB8 := hB8.kp0 hk57
  have k7 := k5.trans hk57
  have s57 := hk57.size
  clear rw0 rw1 rw2 rwa hrj hk6 hk7
  obtain ⟨rw0, rw1, rw2, rwa⟩ := dhc_rows hB4
  obtain ⟨q1, q2, -, -, q5⟩ := prc_rows hB11
  by_cases g3 : r.out < 0
  · have e : setZ s now n over = 10 := by rw [e1, if_pos (by omega)]
    repeat (first|apply cA|apply cB|apply cD|apply cE|refine cV rfl rfl rfl rfl (by first|((first|apply qlc|apply qfa|apply qls)<;>(first|exact rfl|assumption|exact dct (by first|assumption|omega)|exact List.not_mem_nil|fail))|fail) ?_)
    refine dA rfl (by exact rho_of rfl) rfl ?_
    repeat (first|apply cA|apply cB|refine cV rfl rfl rfl rfl (by first|(apply qla<;>(first|exact rfl|assumption|exact List.not_mem_nil))|fail) ?_)
    refine SG.setAll (l := dhc win (.slice aL L.length cL) (.slice (some ⟨bq, oq, none⟩) P.length cP)) rfl rfl (by exact rho_of rfl) (by exact rho_of rfl) hB8 rfl rfl rfl (fun wz hkz hBz => ?_)
    have hr : Row wz b8 0 (dhc win (.slice aL L.length cL) (.slice (some ⟨bq, oq, none⟩) P.length cP)) := Row.all hBz rfl
    repeat (first|apply cD|apply cE|apply cH|apply cK|refine cV rfl rfl rfl rfl (by first|(apply qas<;>(exact rfl))|fail) ?_)
    refine ret2 (Or.inl rfl) Tryz.results31 (ResV.agg rfl rfl hr rfl) (by first | exact ResV.tmp rfl | exact ResV.agg rfl rfl (by assumption) (by first | exact dc_length _ | exact nc_length _ | exact rc_length _ _ _ | exact ec_length _ | exact dl_length _ _ _ _ | rfl) | exact ResV.cell rfl rfl (by assumption)) ?_
    exact old (k7.trans_new hkz (new1 (by omega))) e (by decide)
  rw [if_neg (by omega)] at e1
  repeat (first|apply cA|apply cB|apply cD|apply cE|refine cV rfl rfl rfl rfl (by first|((first|apply qlc|apply qfa|apply qls)<;>(first|exact rfl|assumption|exact dcf (by first|assumption|omega)|exact List.not_mem_nil|fail))|fail) ?_)
  refine dB rfl (by exact rho_of rfl) rfl ?_
  by_cases g4 : r.out < now
  · have e : setZ s now n over = 19 := by rw [e1, if_pos g4]
    repeat (first|apply cA|apply cB|apply cD|apply cE|apply cF|refine cV rfl rfl rfl rfl (by first|((first|apply qmv|apply qlc|apply qfa|apply qgt)<;>(first|exact rfl|assumption|exact dct (by first|assumption|omega)|exact List.not_mem_nil|fail))|fail) ?_)
    refine dA rfl (by exact rho_of rfl) rfl ?_
    repeat (first|apply cA|apply cB|refine cV rfl rfl rfl rfl (by first|(apply qla<;>(first|exact rfl|assumption|exact List.not_mem_nil))|fail) ?_)
    refine SG.setAll (l := dhc win (.slice aL L.length cL) (.slice (some ⟨bq, oq, none⟩) P.length cP)) rfl rfl (by exact rho_of rfl) (by exact rho_of rfl) hB8 rfl rfl rfl (fun wz hkz hBz => ?_)
    have hr : Row wz b8 0 (dhc win (.slice aL L.length cL) (.slice (some ⟨bq, oq, none⟩) P.length cP)) := Row.all hBz rfl
    repeat (first|apply cD|apply cE|apply cH|apply cK|refine cV rfl rfl rfl rfl (by first|(apply qas<;>(exact rfl))|fail) ?_)
    refine ret2 (Or.inl rfl) Tryz.results31 (ResV.agg rfl rfl hr rfl) (by first | exact ResV.tmp rfl | exact ResV.agg rfl rfl (by assumption) (by first | exact dc_length _ | exact nc_length _ | exact rc_length _ _ _ | exact ec_length _ | exact dl_length _ _ _ _ | rfl) | exact ResV.cell rfl rfl (by assumption)) ?_
    exact old (k7.trans_new hkz (new1 (by omega))) e (by decide)
  rw [if_neg g4] at e1
  repeat (first|apply cA|apply cB|apply cD|apply cE|apply cF|refine cV rfl rfl rfl rfl (by first|((first|apply qmv|apply qlc|apply qfa|apply qgt)<;>(first|exact rfl|assumption|exact dcf (by first|assumption|omega)|exact List.not_mem_nil|fail))|fail) ?_)
  refine dB rfl (by exact rho_of rfl) rfl ?_
  have hD7 := hD.kp0 k7
  repeat (first|apply cA|apply cE|apply cF)
  refine CG.draw0 mixed [0, 1, 2, 3, 4, 5, 6, 7, 8, 9] [] (by kernel_rfl) ?_
  repeat (refine cY rfl rfl rfl (by first|((first|apply qla|apply qfa)<;>(first|exact rfl|assumption|exact List.not_mem_nil|apply dc_length))|fail) ?_)
  refine Der.call rfl rfl rfl (vs := [dhv win (.slice aL L.length cL) (.slice (some ⟨bq, oq, none⟩) P.length cP), dv r.frm]) (by repeat' (first | exact True.intro | exact rho_of rfl | refine And.intro ?_ ?_)) (fun W hk _ => (rfind_spec r.frm (hD7.sl.kp0 hk) (by omega) : Ret Tryz.prog 15 #[dhv win (.slice aL L.length cL) (.slice (some ⟨bq, oq, none⟩) P.length cP), dv r.frm] W (.int .i64 (idxZ (fun y : Wi => decide (y.peer = r.frm)) L)))) ?_
  rw [ei]
  repeat (refine cY rfl rfl rfl (by first|((first|apply qla|apply qfa)<;>(first|exact rfl|assumption|exact List.not_mem_nil|apply dc_length))|fail) ?_)
  refine Der.call rfl rfl rfl (vs := [dhv win (.slice aL L.length cL) (.slice (some ⟨bq, oq, none⟩) P.length cP), dv r.to]) (by repeat' (first | exact True.intro | exact rho_of rfl | refine And.intro ?_ ?_)) (fun W hk _ => (rfind_spec r.to (hD7.sl.kp0 hk) (by omega) : Ret Tryz.prog 15 #[dhv win (.slice aL L.length cL) (.slice (some ⟨bq, oq, none⟩) P.length cP), dv r.to] W (.int .i64 (idxZ (fun y : Wi => decide (y.peer = r.to)) L)))) ?_
  rw [ek]
  repeat (refine cY rfl rfl rfl (by first|(apply qas<;>(exact rfl))|fail) ?_)
  refine Der.fin (fun w8 hk8 _ _ => ?_)
  have hB4 := hB4.kp0 hk8
  have hB6 := hB6.kp0 hk8
  have hB8 := hB8.kp0 hk8
  have hB11 := hB11.kp0 hk8
  have k8 := k7.trans hk8
  have s8 := hk8.size
  clear rw0 rw1 rw2 rwa q1 q2 q5
  obtain ⟨rw0, rw1, rw2, rwa⟩ := dhc_rows hB4
  have hD8 := hD.kp0 k8
  obtain ⟨ba8, oa8, haL, t8, t20⟩ := hD8.row hk' eLk
  subst haL
  have hR6 : Row w8 b6 0 (dc n) := Row.all hB6 rfl
  have x16 : yp.held.length ≤ 1000 := Nat.le_trans (hi.ok _ _ ht).1.l (by decide)
  repeat (first|apply cA|apply cE)
  refine CG.free mixed 14 [0, 1, 2, 3, 4, 5, 6, 7, 8, 9, 10, 11, 12, 13] [(8, gR w8.heap.size (nextP (freeQ yp n over)) (chgZ yp (freeE yp n over))), (12, gV w8.heap.size 36 12), (13, gP w8.heap.size 36)] (by kernel_rfl) (by intro p hp y; simp at hp; rcases hp with rfl | rfl | rfl; exact gR_stab y; exact gV_stab y; exact gP_stab y) ?_
  repeat (refine cZ rfl rfl rfl rfl (by first|((first|apply qmv|apply qlc|apply qla|apply qfa|apply qix)<;>(first|exact rfl|assumption|exact Ar.mk (by omega)|exact List.not_mem_nil|apply dc_length|apply pc_length|fail))|fail) ?_)
  refine DerX.callE (vs := [pv yp (.slice ya yp.held.length yc), dv n, .int .i64 over]) (gR w8.heap.size (nextP (freeQ yp n over)) (chgZ yp (freeE yp n over))) rfl rfl rfl rfl (by repeat' (first | exact True.intro | exact rho_of rfl | refine And.intro ?_ ?_)) (fun W hk _ => (rfree_spec yp n over ((hSy.kp0 k8).kp0 hk) x16 hcy).mono (fun e w' hh => ?_)) (fun v1 => ?_)
  · obtain ⟨v, he, hk', h1⟩ := hh
    obtain ⟨x', h3, h4⟩ := gR_of h1 hk.size
    exact ⟨x', by rw [he, h3]; rfl, h4, hk'⟩
  repeat (refine cZ rfl rfl rfl rfl (by first|((first|apply qmv|apply qxt)<;>(exact rfl))|fail) ?_)
  refine DerX.allocV rfl rfl rfl rfl rfl (Nat.le_refl _) (fun b14 => ?_)
  refine DerX.storeV (l := v1.1) rfl rfl rfl rfl (by kernel_rfl) (by exact rho_of rfl) (by exact rho_of rfl) v1.2 (Nat.le_refl _) (fun w hk hF => ⟨hF _ (.head _) (by kernel_rfl), gR_one (w := w) (hF _ (.tail _ (.head _)) (by kernel_rfl))⟩) ?_ ?_
  · intro p hp hne y w w' cs g1 g2 g3 g4 g5
    simp only [List.mem_cons, List.not_mem_nil, or_false] at hp
    rcases hp with rfl | rfl | rfl
    · exact gR_keep g1 g3 g5
    · exact gV_keep v1.2 g3 g4 g5
    · exact absurd rfl hne
  refine DerX.tl (fun w9 hk9 hF => ?_)
  have hb14 : w8.heap.size ≤ b14 ∧ Blk w9 b14 (.cells v1.1.toArray 36) := hF _ (.head _)
  have hg9 := hF _ (.tail _ (.tail _ (.head _)))
  clear hF t8 t20 rw0 rw1 rw2 rwa hR6
  have hB4 := hB4.kp0 hk9
  have hB6 := hB6.kp0 hk9
  have hB8 := hB8.kp0 hk9
  have hB11 := hB11.kp0 hk9
  obtain ⟨rw0, rw1, rw2, rwa⟩ := dhc_rows hB4
  have k9 := k8.trans hk9
  obtain ⟨leb14, hBb14⟩ := hb14
  have ltb14 := hBb14.lt
  have s9 := hk9.size
  by_cases gy : chgZ yp (freeE yp n over) = 0
  rotate_left
  · have e : setZ s now n over = chgZ yp (freeE yp n over) := by rw [e1, if_pos gy]
    generalize chgZ yp (freeE yp n over) = z at gy e
    repeat (first|apply cA|apply cB|apply cD|apply cE|refine cV rfl rfl rfl rfl (by first|((first|apply qni|apply qmv|apply qas|apply qni)<;>(first|exact rfl|exact dcf (by first|assumption|omega)|fail))|fail) ?_)
    refine dA rfl (by exact rho_of rfl) rfl ?_
    repeat (first|apply cA|apply cB|refine cV rfl rfl rfl rfl (by first|((first|apply qmv|apply qla)<;>(first|exact rfl|assumption|exact List.not_mem_nil))|fail) ?_)
    refine SG.setAll (l := dhc win (.slice (some ⟨ba8, oa8, none⟩) L.length cL) (.slice (some ⟨bq, oq, none⟩) P.length cP)) rfl rfl (by exact rho_of rfl) (by exact rho_of rfl) hB8 rfl rfl rfl (fun wz hkz hBz => ?_)
    have hr : Row wz b8 0 (dhc win (.slice (some ⟨ba8, oa8, none⟩) L.length cL) (.slice (some ⟨bq, oq, none⟩) P.length cP)) := Row.all hBz rfl
    repeat (first|apply cD|apply cE|apply cH|apply cK|refine cV rfl rfl rfl rfl (by first|(apply qas<;>(exact rfl))|fail) ?_)
    refine ret2 (Or.inl rfl) Tryz.results31 (ResV.agg rfl rfl hr rfl) (by first | exact ResV.tmp rfl | exact ResV.agg rfl rfl (by assumption) (by first | exact dc_length _ | exact nc_length _ | exact rc_length _ _ _ | exact ec_length _ | exact dl_length _ _ _ _ | rfl) | exact ResV.cell rfl rfl (by assumption)) ?_
    exact old (k9.trans_new hkz (new1 (by omega))) e gy
  obtain ⟨s1', h31, ho1⟩ := hg9.1 gy
  obtain ⟨a1, c1, rfl, hc1, -⟩ := Sl.own hc_length ho1 rfl
  rw [h31] at hBb14
  rw [gy]
  rw [if_neg (fun h => h gy)] at e1
  clear hg9 h31
  repeat (first|apply cA|apply cB|apply cD|apply cE|refine cV rfl rfl rfl rfl (by first|((first|apply qni|apply qmv|apply qas|apply qni)<;>(first|exact rfl|exact dct (by first|assumption|omega)|fail))|fail) ?_)
  refine dB rfl (by exact rho_of rfl) rfl ?_
  have hD9 := hD.kp0 k9
  obtain ⟨ba9, oa9, haL, t8, t20⟩ := hD9.row hi' eLi
  injection haL with q1
  injection q1 with q2 q3 q4
  subst q2
  subst q3
  clear q4
  have hR6 : Row w9 b6 0 (dc n) := Row.all hB6 rfl
  have x16 : xp.held.length ≤ 1000 := Nat.le_trans (hi.ok _ _ hf).1.l (by decide)
  repeat (first|apply cA|apply cE|apply cF)
  refine CG.free mixed 14 [0, 1, 2, 3, 4, 5, 6, 7, 8, 9, 10, 11, 12, 13] [(8, gR w9.heap.size (nextP (freeQ xp n over)) (chgZ xp (freeE xp n over))), (12, gV w9.heap.size 36 12), (13, gP w9.heap.size 36)] (by kernel_rfl) (by intro p hp y; simp at hp; rcases hp with rfl | rfl | rfl; exact gR_stab y; exact gV_stab y; exact gP_stab y) ?_
  repeat (refine cZ rfl rfl rfl rfl (by first|((first|apply qmv|apply qlc|apply qla|apply qfa|apply qix)<;>(first|exact rfl|assumption|exact Ar.mk (by omega)|exact List.not_mem_nil|apply dc_length|apply pc_length|fail))|fail) ?_)
  refine DerX.callE (vs := [pv xp (.slice xa xp.held.length xc), dv n, .int .i64 over]) (gR w9.heap.size (nextP (freeQ xp n over)) (chgZ xp (freeE xp n over))) rfl rfl rfl rfl (by repeat' (first | exact True.intro | exact rho_of rfl | refine And.intro ?_ ?_)) (fun W hk _ => (rfree_spec xp n over ((hSx.kp0 k9).kp0 hk) x16 hcx).mono (fun e w' hh => ?_)) (fun v2 => ?_)
  · obtain ⟨v, he, hk', h1⟩ := hh
    obtain ⟨x', h3, h4⟩ := gR_of h1 hk.size
    exact ⟨x', by rw [he, h3]; rfl, h4, hk'⟩
  repeat (refine cZ rfl rfl rfl rfl (by first|((first|apply qmv|apply qxt)<;>(exact rfl))|fail) ?_)
  refine DerX.allocV rfl rfl rfl rfl rfl (Nat.le_refl _) (fun b16 => ?_)
  refine DerX.storeV (l := v2.1) rfl rfl rfl rfl (by kernel_rfl) (by exact rho_of rfl) (by exact rho_of rfl) v2.2 (Nat.le_refl _) (fun w hk hF => ⟨hF _ (.head _) (by kernel_rfl), gR_one (w := w) (hF _ (.tail _ (.head _)) (by kernel_rfl))⟩) ?_ ?_
  · intro p hp hne y w w' cs g1 g2 g3 g4 g5
    simp only [List.mem_cons, List.not_mem_nil, or_false] at hp
    rcases hp with rfl | rfl | rfl
    · exact gR_keep g1 g3 g5
    · exact gV_keep v2.2 g3 g4 g5
    · exact absurd rfl hne
  refine DerX.tl (fun w10 hk10 hF => ?_)
  have hb16 : w9.heap.size ≤ b16 ∧ Blk w10 b16 (.cells v2.1.toArray 36) := hF _ (.head _)
  have hg10 := hF _ (.tail _ (.tail _ (.head _)))
  clear hF t8 t20 rw0 rw1 rw2 rwa hR6
  have hB4 := hB4.kp0 hk10
  have hB6 := hB6.kp0 hk10
  have hB8 := hB8.kp0 hk10
  have hB11 := hB11.kp0 hk10
  obtain ⟨rw0, rw1, rw2, rwa⟩ := dhc_rows hB4
  have k10 := k9.trans hk10
  obtain ⟨leb16, hBb16⟩ := hb16
  have ltb16 := hBb16.lt
  have s10 := hk10.size
  have hBb14 := hBb14.kp0 hk10
  have ho1 := own_kp0 ho1 hk10
  by_cases gx : chgZ xp (freeE xp n over) = 0
  rotate_left
  · have e : setZ s now n over = chgZ xp (freeE xp n over) := e1
    generalize chgZ xp (freeE xp n over) = z at gx e
    repeat (first|apply cA|apply cB|apply cD|apply cE|refine cV rfl rfl rfl rfl (by first|((first|apply qni|apply qmv|apply qas|apply qni)<;>(first|exact rfl|exact dcf (by first|assumption|omega)|fail))|fail) ?_)
    refine dA rfl (by exact rho_of rfl) rfl ?_
    repeat (first|apply cA|apply cB|refine cV rfl rfl rfl rfl (by first|((first|apply qmv|apply qla)<;>(first|exact rfl|assumption|exact List.not_mem_nil))|fail) ?_)
    refine SG.setAll (l := dhc win (.slice (some ⟨ba8, oa8, none⟩) L.length cL) (.slice (some ⟨bq, oq, none⟩) P.length cP)) rfl rfl (by exact rho_of rfl) (by exact rho_of rfl) hB8 rfl rfl rfl (fun wz hkz hBz => ?_)
    have hr : Row wz b8 0 (dhc win (.slice (some ⟨ba8, oa8, none⟩) L.length cL) (.slice (some ⟨bq, oq, none⟩) P.length cP)) := Row.all hBz rfl
    repeat (first|apply cD|apply cE|apply cH|apply cK|refine cV rfl rfl rfl rfl (by first|(apply qas<;>(exact rfl))|fail) ?_)
    refine ret2 (Or.inl rfl) Tryz.results31 (ResV.agg rfl rfl hr rfl) (by first | exact ResV.tmp rfl | exact ResV.agg rfl rfl (by assumption) (by first | exact dc_length _ | exact nc_length _ | exact rc_length _ _ _ | exact ec_length _ | exact dl_length _ _ _ _ | rfl) | exact ResV.cell rfl rfl (by assumption)) ?_
    exact old (k10.trans_new hkz (new1 (by omega))) e gx
  obtain ⟨s2', h32, ho2⟩ := hg10.1 gx
  obtain ⟨a2, c2, rfl, hc2, -⟩ := Sl.own hc_length ho2 rfl
  rw [h32] at hBb16
  rw [gx]
  have e : setZ s now n over = 0 := e1.trans gx
  have eS : setS s n over = ⟨aput (aput s.l r.to (nextP (freeQ yp n over), ys)) r.frm (nextP (freeQ xp n over), xs), s.m.filter (fun q => decide (q.1 ≠ n))⟩ := by
    unfold setS
    rw [hn]
    simp only [hf, ht]
  clear hg10 h32 e1 old
  obtain ⟨p1, hp1⟩ : ∃ p : Pu, p = nextP (freeQ yp n over) := ⟨_, rfl⟩
  obtain ⟨p2, hp2⟩ : ∃ p : Pu, p = nextP (freeQ xp n over) := ⟨_, rfl⟩
  rw [← hp1] at hBb14 ho1 hc1 eS
  rw [← hp2] at hBb16 ho2 hc2 eS
  clear hp1 hp2
  repeat (first|apply cA|apply cB|apply cD|apply cE|refine cV rfl rfl rfl rfl (by first|((first|apply qni|apply qmv|apply qas|apply qni)<;>(first|exact rfl|exact dct (by first|assumption|omega)|fail))|fail) ?_)
  refine dB rfl (by exact rho_of rfl) rfl ?_
  repeat (first|apply cA|apply cB|apply cE|apply cF|refine cV rfl rfl rfl rfl (by first|(apply qla<;>(first|exact rfl|assumption|exact List.not_mem_nil))|fail) ?_)
  refine SG.call rfl rfl rfl (vs := [dhv win (.slice (some ⟨ba8, oa8, none⟩) L.length cL) (.slice (some ⟨bq, oq, none⟩) P.length cP)]) (by repeat' (first | exact True.intro | exact rho_of rfl | refine And.intro ?_ ?_)) ((rcopies_spec (hD.sl.kp0 k10) (hD.sp.kp0 k10) (by omega) (by omega)).mono (fun e' w11 hh => ?_))
  obtain ⟨vL, vP, he, hoL, hoP, hk11⟩ := hh
  refine ⟨_, he, ?_⟩
  clear he
  obtain ⟨g, cg, rfl, -⟩ := own_slice hoL (by omega)
  obtain ⟨aQ, cQ, rfl, hcQ, hSQ⟩ := Sl.own prc_length hoP rfl
  have l4 := hB4.lt
  have l6 := hB6.lt
  have l8 := hB8.lt
  have l14 := hBb14.lt
  have l16 := hBb16.lt
  have hB4 := hB4.kp0 hk11
  have hB8 := hB8.kp0 hk11
  have hBb14 := hBb14.kp0 hk11
  have hBb16 := hBb16.kp0 hk11
  have ho1 := own_kp0 ho1 hk11
  have ho2 := own_kp0 ho2 hk11
  have k11 := k10.trans hk11
  clear rw0 rw1 rw2 rwa
  repeat (first|refine cV rfl rfl rfl rfl (by first|(apply qmv<;>(exact rfl))|fail) ?_)
  refine SG.call rfl rfl rfl (vs := [dhv win (.slice (some ⟨g, 0, none⟩) L.length cg) (.slice aQ P.length cQ), .int .i64 (j : Int)]) (by repeat' (first | exact True.intro | exact rho_of rfl | refine And.intro ?_ ?_)) ((rwithout_spec (nL := L.length) hSQ (by omega) hcQ hj).mono (fun e' w12 hh => ?_))
  obtain ⟨vP, he, hoP', hk12⟩ := hh
  refine ⟨_, he, ?_⟩
  clear he hoP
  have hoP := hoP'
  clear hoP'
  obtain ⟨aR, cR, rfl, hcR, -⟩ := Sl.own prc_length hoP rfl
  have hB4 := hB4.kp0 hk12
  have hB8 := hB8.kp0 hk12
  have hBb14 := hBb14.kp0 hk12
  have hBb16 := hBb16.kp0 hk12
  have ho1 := own_kp0 ho1 hk12
  have ho2 := own_kp0 ho2 hk12
  have hoL := own_kp0 hoL hk12
  have k12 := k11.trans hk12
  have s11 := hk11.size
  have s12 := hk12.size
  obtain ⟨PR, hPR⟩ : ∃ l, l = P.take j ++ P.drop (j + 1) := ⟨_, rfl⟩
  rw [← hPR] at hoP hcR
  rw [← hPR]
  refine SG.setAll (l := dhc win (.slice (some ⟨g, 0, none⟩) L.length cg) (.slice aR PR.length cR)) rfl rfl (by exact rho_of rfl) (by exact rho_of rfl) hB4 rfl rfl rfl (fun w13 hk13 hB413 => ?_)
  have hoL := own_kp hoL hk13 (own_neb hoL (by decide) hB4)
  have hoP := own_kp hoP hk13 (own_neb hoP (by decide) hB4)
  have ho1 := own_kp ho1 hk13 (own_neb ho1 (by decide) hB4)
  have ho2 := own_kp ho2 hk13 (own_neb ho2 (by decide) hB4)
  have k13 := k12.trans_new hk13 (new1 (by omega))
  have hB4 := hB413
  clear hB413
  have hB8 := hB8.kp hk13 (nm1 (by omega))
  have hBb14 := hBb14.kp hk13 (nm1 (by omega))
  have hBb16 := hBb16.kp hk13 (nm1 (by omega))
  obtain ⟨rw0, rw1, rw2, rwa⟩ := dhc_rows hB4
  obtain ⟨hgge, curL, hgB⟩ := own_blk hoL
  have hglt := hgB.lt
  have hR14 : Row w13 b14 0 (pc p1 (.slice a1 p1.held.length c1)) := Row.all hBb14 rfl
  have hR16 : Row w13 b16 0 (pc p2 (.slice a2 p2.held.length c2)) := Row.all hBb16 rfl
  obtain ⟨X, hX⟩ : ∃ x : Wi, x = ⟨r.frm, p2, a2, c2, xs⟩ := ⟨_, rfl⟩
  obtain ⟨Y, hY⟩ : ∃ x : Wi, x = ⟨r.to, p1, a1, c1, ys⟩ := ⟨_, rfl⟩
  have gg1 : b4 ∉ [g] := nm1 (by omega)
  have gg2 : b14 ∉ [g] := nm1 (by omega)
  have gg3 : b16 ∉ [g] := nm1 (by omega)
  repeat (first|apply cA|apply cD|apply cE)
  refine CG.tailg mixed 11 [0, 1, 2, 3, 4, 5, 6, 7, 8, 9, 10] [10] [g] (fun w' => w'.ownsRow w10.heap.size 98 21 (.slice (some ⟨g, 0, none⟩) L.length cg) L.length (flt wic L)) (by kernel_rfl) hoL (fun w w' hk h => own_kp0 h hk) ?_
  repeat (refine cY rfl rfl rfl (by first|((first|apply qmv|apply qlc|apply qla|apply qfa|apply qix)<;>(first|exact rfl|assumption|exact Ar.mk (by omega)|apply pc_length|fail))|fail) ?_)
  refine Der.storeR (fun w' => w'.ownsRow w10.heap.size 98 21 (.slice (some ⟨g, 0, none⟩) L.length cg) L.length (flt wic (L.set i X))) rfl rfl rfl rfl (by exact rho_of rfl) (by exact rho_of rfl) (fun _ _ _ h => h) (fun w w' hk h => own_kp0 h hk) (fun w h => ?_) ?_
  · obtain ⟨w', q1, q2, q3⟩ := own_part (P := Tryz.prog) (T' := 36) (f := ty.i36) (y := X) (v := pv p2 (.slice a2 p2.held.length c2)) wic_length h rfl hi' (dc r.frm) (pc xp (.slice xa xp.held.length xc)) (pc p2 (.slice a2 p2.held.length c2)) [.int .i64 xs] (by rw [eLi]; rfl) (by rw [hX]; rfl) (by rw [pc_length, pc_length]) rfl (pc_length _ _) (pc_one _ _ _ _)
    rw [dc_length] at q1
    exact ⟨w', q1, q2, q3⟩
  refine Der.tl (fun w14 hk14 _ hoL14 => ?_)
  have hk'' : k < (L.set i X).length := by rw [List.length_set]; exact hk'
  have eLk2 : (L.set i X)[k] = ⟨r.to, yp, ya, yc, ys⟩ := by rw [List.getElem_set_ne gik, eLk]
  clear hR14 hR16 rw0 rw1 rw2 rwa
  repeat (first|refine cV rfl rfl rfl rfl (by first|((first|apply qfa|apply qix)<;>(first|exact rfl|exact Ar.mk (by omega)|fail))|fail) ?_)
  refine SG.storeP (enc := wic) (k := k) (y := Y) (dc r.to) (pc yp (.slice ya yp.held.length yc)) (pc p1 (.slice a1 p1.held.length c1)) [.int .i64 ys] wic_length rfl rfl (by exact rho_of rfl) (by rw [dc_length]) (by exact rho_of rfl) hoL14 (by rw [List.length_set]) hk'' (by rw [eLk2]; rfl) (by rw [hY]; rfl) (by rw [pc_length, pc_length]) rfl (pc_length _ _) (pc_one _ _ _ _) (fun w15 hk15 hoL15 => ?_)
  have hk35 : Kp [g] w13 w15 := hk14.trans hk15
  have hoP := own_kp hoP hk35 (own_neb hoP (by decide) hgB)
  have ho1 := own_kp ho1 hk35 (own_neb ho1 (by decide) hgB)
  have ho2 := own_kp ho2 hk35 (own_neb ho2 (by decide) hgB)
  have k15 : Kp [] w w15 := k13.trans_new hk35 (new1 (by omega))
  have hB4 := hB4.kp hk35 (nm1 (by omega))
  have hB8 := hB8.kp hk35 (nm1 (by omega))
  obtain ⟨-, -, -, r3⟩ := dhc_rows hB4
  repeat (first|apply cA|apply cB|apply cD|apply cE|refine cV rfl rfl rfl rfl (by first|(apply qla<;>(first|exact rfl|assumption|exact List.not_mem_nil))|fail) ?_)
  refine SG.setAll (l := dhc win (.slice (some ⟨g, 0, none⟩) L.length cg) (.slice aR PR.length cR)) rfl rfl (by exact rho_of rfl) (by exact rho_of rfl) hB8 rfl rfl rfl (fun w16 hk16 hB816 => ?_)
  have hrr : Row w16 b8 0 (dhc win (.slice (some ⟨g, 0, none⟩) L.length cg) (.slice aR PR.length cR)) := Row.all hB816 rfl
  have hoP := own_kp hoP hk16 (own_neb hoP (by decide) hB8)
  have hoL16 := own_kp hoL15 hk16 (own_neb hoL15 (by decide) hB8)
  have ho1 := own_kp ho1 hk16 (own_neb ho1 (by decide) hB8)
  have ho2 := own_kp ho2 hk16 (own_neb ho2 (by decide) hB8)
  repeat (first|apply cD|apply cE|apply cH|refine cV rfl rfl rfl rfl (by first|(apply qas<;>(exact rfl))|fail) ?_)
  refine ret2 (Or.inl rfl) Tryz.results31 (ResV.agg rfl rfl hrr rfl) (by first | exact ResV.tmp rfl | exact ResV.agg rfl rfl (by assumption) (by first | exact dc_length _ | exact nc_length _ | exact rc_length _ _ _ | exact ec_length _ | exact dl_length _ _ _ _ | rfl) | exact ResV.cell rfl rfl (by assumption)) ?_
  have kz : Kp [] w w16 := k15.trans_new hk16 (new1 (by omega))
  refine ⟨_, by rw [e], kz, ?_⟩
  rw [e, if_pos rfl, eS]
  obtain ⟨a', c', he, hc', hS'⟩ := Sl.own prc_length hoP rfl
  cases he
  have hll : L.length = ((L.set i X).set k Y).length := by rw [List.length_set, List.length_set]
  obtain ⟨aw, cw, he, hcw, hSw⟩ := Sl.own wic_length hoL16 hll.symm
  cases he
  obtain ⟨ax, cx, he, hcx', hSx'⟩ := Sl.own hc_length ho2 rfl
  cases he
  obtain ⟨ay, cy, he, hcy', hSy'⟩ := Sl.own hc_length ho1 rfl
  cases he
  refine ⟨(L.set i X).set k Y, PR, some ⟨g, 0, none⟩, aR, cg, cR, by rw [← hll]; rfl, hSw, by rw [← hll]; exact hcw, hS', hc', fun y hy => ?_, Or.inr ⟨_, _, rfl⟩, own_oka hoP, ?_, ?_, Ty.own hoL16, Ty.own hoP⟩
  · rcases List.mem_or_eq_of_mem_set hy with hy | rfl
    · rcases List.mem_or_eq_of_mem_set hy with hy | rfl
      · exact (hD.inn y hy).kp0 kz
      · rw [hX]
        exact ⟨hSx', hcx', Ty.own ho2⟩
    · rw [hY]
      exact ⟨hSy', hcy', Ty.own ho1⟩
  · rw [List.set_comm _ _ gik]
    exact srt_set (srt_set hD.srL hk' (by rw [eLk]; rfl) (by rw [hY]; rfl)) (by rw [List.length_set]; exact hi') (by rw [List.getElem_set_ne (fun h => gik h.symm), eLi]; rfl) (by rw [hX]; rfl)
  · rw [hPR]
    exact srt_cut hD.srP hj epk
end Go.Proofs.YtajllbdeoopimaaGreat
namespace Go.Proofs.YtajllbdeoopimaaGreat
set_option linter.unusedVariables false
theorem rbsD' (w : World) (a0 a1 a2 a3 a4 a5 a6 a7 : UInt8) : (Instr.buildSlice 49 1 #[(0, .agg #[bv a0, bv a1, bv a2, bv a3, bv a4, bv a5, bv a6, bv a7])]).run Tryz.prog w = .ok (.slice (some ⟨w.heap.size, 0, none⟩) 1 1) { w with heap := w.heap.push (.cells #[bv a0, bv a1, bv a2, bv a3, bv a4, bv a5, bv a6, bv a7] 32) } := by kernel_rfl
theorem rbsD (d : Dg) (w : World) : (Instr.buildSlice 49 1 #[(0, dv d)]).run Tryz.prog w = .ok (.slice (some ⟨w.heap.size, 0, none⟩) 1 1) { w with heap := w.heap.push (.cells (dc d).toArray 32) } := by
  obtain ⟨l, hl⟩ := d
  match l, hl with
  | [a0, a1, a2, a3, a4, a5, a6, a7], _ => exact rbsD' w a0 a1 a2 a3 a4 a5 a6 a7
theorem srt_names {s : ST} {P : List Pr} (h : Srt (P.map pk) s.m) : srt (s.m.map (·.1)) = P.map (·.name) := by
  refine sorted_uniq (key := dkey) dkey_inj (srt_perm _) ?_ (sortK_sorted _ _) ?_
  · have := h.perm.map (·.1)
    rw [List.map_map] at this
    exact this
  · have := h.lt
    rw [List.pairwise_map] at this
    rw [List.pairwise_map]
    exact this.imp (fun h => Nat.le_of_lt h)
theorem blk_ne {w : World} {a b : Nat} {cs ds : Array Value} {T T' : TypeId} (ha : Blk w a (.cells cs T)) (hb : Blk w b (.cells ds T')) (hT : T ≠ T') : a ≠ b := fun e => by
  rw [e] at ha
  have := ha.uniq hb
  simp only [Obj.cells.injEq] at this
  exact hT this.2.1
theorem own_cases {w : World} {base n sz : Nat} {T : TypeId} {v : Value} {xs : List Value} (ho : w.ownsRow base T sz v n xs) : ownB v = [] ∨ ∃ z cs, ownB v = [z] ∧ Blk w z (.cells cs T) := by
  rcases ho.2 with ⟨h, _⟩ | ⟨g, cap, cur, h, _, hg, _⟩
  · rw [h]; exact Or.inl rfl
  · rw [h]; exact Or.inr ⟨g, cur, rfl, hg⟩
theorem prc_row0 {w : World} {b : Nat} {T : TypeId} {r : Pr} (h : Blk w b (.cells (prc r).toArray T)) : Row w b 0 (dc r.name) := Row.of h [] (dc r.frm ++ (dc r.to ++ [.int .i64 r.amt, .int .i64 r.inn, .int .i64 r.out])) (by simp [prc]) rfl
/-- The document's hub, in rows of its own. -/
structure Dh (w : World) (mL mP b2 : Nat) (win : Int) (s : ST) (L : List Wi) (P : List Pr) (g cg : Nat) (aP : Option Addr) (cP : Nat) : Prop where
  oL : w.ownsRow mL 98 21 (.slice (some ⟨g, 0, none⟩) L.length cg) L.length (flt wic L)
  oP : w.ownsRow mP 102 27 (.slice aP P.length cP) P.length (flt prc P)
  inn : ∀ x ∈ L, x.In w
  srL : Srt (L.map Wi.kv) s.l
  srP : Srt (P.map pk) s.m
  b2 : Blk w b2 (.cells (dhc win (.slice (some ⟨g, 0, none⟩) L.length cg) (.slice aP P.length cP)).toArray 31)
/-- A turn of the loop: what is there. -/
structure It (w : World) (m b2 b9 m0 m1 : Nat) (v6 : Value) (gq : List Dg) (vT : Value) (P0 : List Pr) (win : Int) (s : ST) (r : Pr) (L : List Wi) (P : List Pr) (g cg : Nat) (aP : Option Addr) (cP : Nat) : Prop where
  oL : w.ownsRow m 98 21 (.slice (some ⟨g, 0, none⟩) L.length cg) L.length (flt wic L)
  oP : w.ownsRow m 102 27 (.slice aP P.length cP) P.length (flt prc P)
  inn : ∀ x ∈ L, x.In w
  srL : Srt (L.map Wi.kv) s.l
  srP : Srt (P.map pk) s.m
  b2 : Blk w b2 (.cells (dhc win (.slice (some ⟨g, 0, none⟩) L.length cg) (.slice aP P.length cP)).toArray 31)
  b9 : Blk w b9 (.cells (prc r).toArray 102)
  gone : w.ownsRow m0 32 8 v6 gq.length (flt dc gq)
  all : w.ownsRow m1 102 27 vT P0.length (flt prc P0)
section
variable {w w' : World} {m b2 b9 m0 m1 : Nat} {v6 : Value} {gq : List Dg} {vT : Value} {P0 : List Pr} {win : Int} {s : ST} {r : Pr} {L : List Wi} {P : List Pr} {g cg : Nat} {aP : Option Addr} {cP : Nat}
theorem It.kp0 (h : It w m b2 b9 m0 m1 v6 gq vT P0 win s r L P g cg aP cP) (hk : Kp [] w w') : It w' m b2 b9 m0 m1 v6 gq vT P0 win s r L P g cg aP cP :=
  ⟨own_kp0 h.oL hk, own_kp0 h.oP hk, fun x hx => (h.inn x hx).kp0 hk, h.srL, h.srP, h.b2.kp0 hk, h.b9.kp0 hk, own_kp0 h.gone hk, own_kp0 h.all hk⟩
theorem It.doc (h : It w m b2 b9 m0 m1 v6 gq vT P0 win s r L P g cg aP cP) : DocL w (dhv win (.slice (some ⟨g, 0, none⟩) L.length cg) (.slice aP P.length cP)) win s L P (some ⟨g, 0, none⟩) aP cg cP := by
  obtain ⟨a, c, e, h1, h2⟩ := Sl.own wic_length h.oL rfl
  cases e
  obtain ⟨a, c, e, h3, h4⟩ := Sl.own prc_length h.oP rfl
  cases e
  exact ⟨rfl, h2, h1, h4, h3, h.inn, Or.inr ⟨_, _, rfl⟩, own_oka h.oP, h.srL, h.srP, Ty.own h.oL, Ty.own h.oP⟩
/-- A purse is put in its place. -/
theorem It.put (h : It w m b2 b9 m0 m1 v6 gq vT P0 win s r L P g cg aP cP) {k : Nat} (hk : k < L.length) {n : Dg} {p p' : Pu} {side : Int} {a a' : Option Addr} {c c' : Nat} (e : L[k] = ⟨n, p, a, c, side⟩) (hx : (⟨n, p', a', c', side⟩ : Wi).In w) (hkp : Kp [g] w w') (ho : w'.ownsRow m 98 21 (.slice (some ⟨g, 0, none⟩) L.length cg) L.length (flt wic (L.set k ⟨n, p', a', c', side⟩))) :
    It w' m b2 b9 m0 m1 v6 gq vT P0 win ⟨aput s.l n (p', side), s.m⟩ r (L.set k ⟨n, p', a', c', side⟩) P g cg aP cP := by
  obtain ⟨-, cs, hg⟩ := own_blk h.oL
  have hl : (L.set k ⟨n, p', a', c', side⟩).length = L.length := List.length_set
  have n2 := blk_ne h.b2 hg (by decide)
  have n9 := blk_ne h.b9 hg (by decide)
  refine ⟨by rw [hl]; exact ho, own_kp h.oP hkp (own_neb h.oP (by decide) hg), fun x hm => ?_, srt_set h.srL hk (by rw [e]; rfl) rfl, h.srP, by rw [hl]; exact h.b2.kp hkp (nm1 n2), h.b9.kp hkp (nm1 n9), own_kp h.gone hkp (own_neb h.gone (by decide) hg), own_kp h.all hkp (own_neb h.all (by decide) hg)⟩
  rcases List.mem_or_eq_of_mem_set hm with hm | rfl
  · exact (h.inn x hm).kp hkp hg (by decide)
  · exact hx.kp hkp hg (by decide)
/-- The pair at hand is changed. -/
theorem It.pair (h : It w m b2 b9 m0 m1 v6 gq vT P0 win s r L P g cg aP cP) {r' : Pr} (hkp : Kp [b9] w w') (hb : Blk w' b9 (.cells (prc r').toArray 102)) (h9 : b9 < m) (h2 : b2 ≠ b9) (ha : ∀ b, vT.ownBlock = some b → b < b9) : It w' m b2 b9 m0 m1 v6 gq vT P0 win s r' L P g cg aP cP :=
  ⟨own_kp h.oL hkp (own_neb h.oL (by decide) h.b9), own_kp h.oP hkp (own_neb' h.oP h9), fun x hx => (h.inn x hx).kp hkp h.b9 (by decide), h.srL, h.srP, h.b2.kp hkp (nm1 h2), hb, own_kp h.gone hkp (own_neb h.gone (by decide) h.b9), own_kp h.all hkp (fun b hb => nm1 (by have := ha b hb; omega))⟩
/-- A pair is put in its place. -/
theorem It.set {gp : Nat} (h : It w m b2 b9 m0 m1 v6 gq vT P0 win s r L P g cg (some ⟨gp, 0, none⟩) cP) {k : Nat} (hk : k < P.length) {n : Dg} {q : Pr} (e : pk P[k] = (n, q)) {r' : Pr} (hn : r'.name = n) (hkp : Kp [gp] w w') (ho : w'.ownsRow m 102 27 (.slice (some ⟨gp, 0, none⟩) P.length cP) P.length (flt prc (P.set k r'))) (h9 : b9 < m) (ha : ∀ b, vT.ownBlock = some b → b < b9) :
    It w' m b2 b9 m0 m1 v6 gq vT P0 win ⟨s.l, aput s.m n r'⟩ r L (P.set k r') g cg (some ⟨gp, 0, none⟩) cP := by
  obtain ⟨hm, cs, hg⟩ := own_blk h.oP
  have hl : (P.set k r').length = P.length := List.length_set
  refine ⟨own_kp h.oL hkp (own_neb h.oL (by decide) hg), by rw [hl]; exact ho, fun x hx => (h.inn x hx).kp hkp hg (by decide), h.srL, srt_set h.srP hk e (by unfold pk; rw [hn]), by rw [hl]; exact h.b2.kp hkp (nm1 (blk_ne h.b2 hg (by decide))), h.b9.kp hkp (nm1 (by omega)), own_kp h.gone hkp (own_neb h.gone (by decide) hg), own_kp h.all hkp (fun b hb => nm1 (by have := ha b hb; omega))⟩
end
def DocB (w : World) (b b4 : Nat) (win : Int) (s : ST) : Prop := ∃ L P aL aP cL cP, Blk w b (.cells (dhc win (.slice aL L.length cL) (.slice aP P.length cP)).toArray 31) ∧ ∀ w', Kp [b4] w w' → DocL w' (dhv win (.slice aL L.length cL) (.slice aP P.length cP)) win s L P aL aP cL cP
section
variable {w w' : World} {mL mP b2 : Nat} {win : Int} {s : ST} {L : List Wi} {P : List Pr} {g cg : Nat} {aP : Option Addr} {cP : Nat}
theorem It.dh {m b9 m0 m1 : Nat} {v6 : Value} {gq : List Dg} {vT : Value} {P0 : List Pr} {r : Pr} (h : It w m b2 b9 m0 m1 v6 gq vT P0 win s r L P g cg aP cP) : Dh w m m b2 win s L P g cg aP cP := ⟨h.oL, h.oP, h.inn, h.srL, h.srP, h.b2⟩
theorem Dh.kp0 (h : Dh w mL mP b2 win s L P g cg aP cP) (hk : Kp [] w w') : Dh w' mL mP b2 win s L P g cg aP cP := ⟨own_kp0 h.oL hk, own_kp0 h.oP hk, fun x hx => (h.inn x hx).kp0 hk, h.srL, h.srP, h.b2.kp0 hk⟩
theorem Dh.kp (h : Dh w mL mP b2 win s L P g cg aP cP) {z : Nat} {cs : Array Value} {T : TypeId} (hk : Kp [z] w w') (hz : Blk w z (.cells cs T)) (h1 : T ≠ 98) (h2 : T ≠ 102) (h3 : T ≠ 84) (h4 : b2 ≠ z) : Dh w' mL mP b2 win s L P g cg aP cP :=
  ⟨own_kp h.oL hk (own_neb h.oL h1 hz), own_kp h.oP hk (own_neb h.oP h2 hz), fun x hx => (h.inn x hx).kp hk hz h3, h.srL, h.srP, h.b2.kp hk (nm1 h4)⟩
theorem Dh.doc (h : Dh w mL mP b2 win s L P g cg aP cP) : DocL w (dhv win (.slice (some ⟨g, 0, none⟩) L.length cg) (.slice aP P.length cP)) win s L P (some ⟨g, 0, none⟩) aP cg cP := by
  obtain ⟨a, c, e, h1, h2⟩ := Sl.own wic_length h.oL rfl
  cases e
  obtain ⟨a, c, e, h3, h4⟩ := Sl.own prc_length h.oP rfl
  cases e
  exact ⟨rfl, h2, h1, h4, h3, h.inn, Or.inr ⟨_, _, rfl⟩, own_oka h.oP, h.srL, h.srP, Ty.own h.oL, Ty.own h.oP⟩
theorem Dh.docB (h : Dh w mL mP b2 win s L P g cg aP cP) {b4 : Nat} {cs : Array Value} (hb : Blk w b4 (.cells cs 31)) (hne : b2 ≠ b4) : DocB w b2 b4 win s :=
  ⟨L, P, _, aP, cg, cP, h.b2, fun w' hk => (h.kp hk hb (by decide) (by decide) (by decide) hne).doc⟩
/-- .. while what is elsewhere grows. -/
theorem Dh.grow (h : Dh w mL mP b2 win s L P g cg aP cP) {base n sz : Nat} {v : Value} {xs : List Value} (ho : w.ownsRow base 32 sz v n xs) (hk : Kp (ownB v) w w') : Dh w' mL mP b2 win s L P g cg aP cP := by
  rcases own_cases ho with e | ⟨z, cs, e, hz⟩
  · rw [e] at hk
    exact h.kp0 hk
  · rw [e] at hk
    exact h.kp hk hz (by decide) (by decide) (by decide) (blk_ne h.b2 hz (by decide))
theorem own_grow {T : TypeId} {mT nT szT : Nat} {vT : Value} {xs ys : List Value} (h : w.ownsRow mT T szT vT nT ys) {base n sz : Nat} {v : Value} (ho : w.ownsRow base 32 sz v n xs) (hT : 32 ≠ T) (hk : Kp (ownB v) w w') : w'.ownsRow mT T szT vT nT ys := by
  rcases own_cases ho with e | ⟨z, cs, e, hz⟩
  · rw [e] at hk
    exact own_kp0 h hk
  · rw [e] at hk
    exact own_kp h hk (own_neb h hT hz)
end
attribute [local irreducible] CG NG SG Vals Der Row Blk MapIs IterAt chkL DerX
set_option maxHeartbeats 64000000 in
theorem rexpire_e {w : World} {v : Value} {win : Int} {s : ST} (hD : DocE w v win s) (hi : Inv win s) (hm : s.m.length ≤ 1000) (now : Int) :
    Calls Tryz.prog 32 #[v, .int .i64 now] w (fun e w' => ∃ v' vg, e = .returned (.tuple #[v', vg]) ∧ Kp [] w w' ∧ DocE w' v' win (expAll now s).1 ∧ w'.ownsRow w.heap.size 32 8 vg (expAll now s).2.length (flt dc (expAll now s).2)) := by
  obtain ⟨L, P, aL, aP, cL, cP, hD⟩ := hD
  have hv := hD.eq
  subst hv
  have hPl := hD.lenP
  have hnm := srt_names hD.srP
  have hlk : ∀ j (hj : j < P.length), alook s.m P[j].name = some P[j] := fun j hj => alook_of_mem (p := pk P[j]) hD.srP.nd (hD.srP.perm.mem_iff.1 (List.mem_map_of_mem (List.getElem_mem hj)))
  have hnd : (P.map (·.name)).Nodup := by rw [← hnm]; exact srt_nd hi.km
  have e0 : expAll now s = (P.map (·.name)).foldl (expF now) (s, []) := by unfold expAll; rw [hnm]
  rw [e0]
  clear e0 hnm
  refine enter2 Tryz.func32 rfl Tryz.ntmps32 rfl ?_
  repeat (first|apply cA|apply cB)
  refine SG.box rfl rfl rfl (by exact rho_of rfl) (fun b2 w1 hk1 hb2 hB2 => ?_)
  refine SG.alloc rfl rfl rfl (fun b4 w2 hk2 hb4 hB4 => ?_)
  have l2 := hB2.lt
  have hB2 : Blk w2 b2 (.cells (dhc win (.slice aL L.length cL) (.slice aP P.length cP)).toArray 31) := hB2.kp0 hk2
  have l4 := hB4.lt
  have s1 := hk1.size
  have s2 := hk2.size
  have k2 := hk1.trans hk2
  obtain ⟨-, -, rw2, -⟩ := dhc_rows hB2
  repeat (first|apply cA|apply cB|apply cD|apply cE|refine cV rfl rfl rfl rfl (by first|(apply qas<;>(exact rfl))|fail) ?_)
  refine SG.buildSlice rfl rfl rfl rfl bs0P (fun b0 w3 hk3 hb0 hB0 => ?_)
  have rw2 := rw2.kp0 hk3
  repeat (first|refine cV rfl rfl rfl rfl (by first|((first|apply qlc|apply qfa)<;>(first|exact rfl|assumption|exact List.not_mem_nil))|fail) ?_)
  refine SG.cloneO (enc := prc) (l := P) (m := w1.heap.size) rfl rfl rfl prc_length prc_one (by exact rho_of rfl) (by exact rho_of rfl) rfl rfl rfl (by simp only [maxLen]; omega) (by show P.length * 48 ≤ _; omega) (by omega) ((hD.sp.kp0 k2).kp0 hk3) hB0 (fun vT w4 hk4 hoT => ?_)
  obtain ⟨aT, cT, rfl, hcT, -⟩ := Sl.own prc_length hoT rfl
  have k24 := hk3.trans hk4
  have hB2 := hB2.kp0 k24
  have hB4 := hB4.kp0 k24
  have k4 := k2.trans k24
  have s24 := k24.size
  clear rw2
  have hDB4 : DocB w4 b2 b4 win s := ⟨L, P, aL, aP, cL, cP, hB2, fun w' hk => hD.kp0 (k4.trans_new hk (new1 (by omega)))⟩
  have hoT4 := hoT
  repeat (first|apply cA|apply cB|apply cD|apply cE|apply cG|refine cV rfl rfl rfl rfl (by first|(apply qas<;>(exact rfl))|fail) ?_)
  refine CG.loop (X := Value × Nat) (fun x => [(1, .int .i64 now), (2, .pointer (some ⟨b2, 0, none⟩)), (4, .pointer (some ⟨b4, 0, none⟩)), (6, x.1), (7, .slice aT P.length cT), (8, .int .i64 (x.2 : Int))])
    (fun x w' => x.2 ≤ P.length ∧ Kp [b2] w4 w' ∧ DocB w' b2 b4 win (((P.map (·.name)).take x.2).foldl (expF now) (s, [])).1 ∧ w'.ownsRow w4.heap.size 32 8 x.1 (((P.map (·.name)).take x.2).foldl (expF now) (s, [])).2.length (flt dc (((P.map (·.name)).take x.2).foldl (expF now) (s, [])).2) ∧ w'.ownsRow w1.heap.size 102 27 (.slice aT P.length cT) P.length (flt prc P)) (fun x => P.length - x.2) (.slice none 0 0, 0) ⟨Nat.zero_le _, Kp.refl _ _, hDB4, own_nil, hoT4⟩ (by (repeat' (first | exact True.intro | exact rfl | refine And.intro ?_ ?_))) ?_
  clear hoT hDB4 hB2
  rintro ⟨v6, j⟩ w5 ⟨hj5, hk5, hDB, ho6, hoT⟩
  simp only at hj5 hDB ho6
  refine CG.to [(1, .int .i64 now), (2, .pointer (some ⟨b2, 0, none⟩)), (4, .pointer (some ⟨b4, 0, none⟩)), (6, v6), (7, .slice aT P.length cT), (8, .int .i64 (j : Int))] (by (repeat' (first | exact True.intro | exact rfl | refine And.intro ?_ ?_))) ?_
  have k5 : Kp [] w w5 := k4.trans_new hk5 (new1 (by omega))
  have s5 := hk5.size
  by_cases hlt : j < P.length
  rotate_left
  · have g1 : ¬ (j : Int) < (P.length : Int) := by omega
    rw [List.take_of_length_le (by rw [List.length_map]; omega)] at ho6 hDB
    obtain ⟨Lq, Pq, aq, ap, cq, cp, hB2, hDq⟩ := hDB
    have hB4 := hB4.kp hk5 (nm1 (by omega))
    obtain ⟨-, -, -, rwa⟩ := dhc_rows hB2
    repeat (first|apply cA|apply cB|apply cD|apply cE|refine cV rfl rfl rfl rfl (by first|((first|apply qmv|apply qls|apply qln)<;>(first|exact rfl|exact dcf (by first|assumption|omega)|fail))|fail) ?_)
    refine dB rfl (by exact rho_of rfl) rfl ?_
    obtain ⟨a6, c6, rfl, _, _⟩ := Sl.own dc_length ho6 rfl
    repeat (first|apply cA|apply cB|apply cE|apply cJ|apply cM|refine cN rfl ?_|refine cV rfl rfl rfl rfl (by first|((first|apply qmv|apply qla)<;>(first|exact rfl|assumption|exact List.not_mem_nil))|fail) ?_)
    refine SG.setAll (l := dhc win (.slice aq Lq.length cq) (.slice ap Pq.length cp)) rfl rfl (by exact rho_of rfl) (by exact rho_of rfl) hB4 rfl rfl rfl (fun wz hkz hBz => ?_)
    have hr : Row wz b4 0 (dhc win (.slice aq Lq.length cq) (.slice ap Pq.length cp)) := Row.all hBz rfl
    repeat (first|apply cD|apply cE|apply cH|refine cV rfl rfl rfl rfl (by first|(apply qas<;>(exact rfl))|fail) ?_)
    refine ret2 (Or.inl rfl) Tryz.results32 (ResV.agg rfl rfl hr rfl) (by first | exact ResV.tmp rfl | exact ResV.agg rfl rfl (by assumption) (by first | exact dc_length _ | exact nc_length _ | exact rc_length _ _ _ | exact ec_length _ | exact dl_length _ _ _ _ | rfl) | exact ResV.cell rfl rfl (by assumption)) ?_
    exact ⟨_, _, rfl, k5.trans_new hkz (new1 (by omega)), ⟨Lq, Pq, aq, ap, cq, cp, hDq wz hkz⟩, own_mono (own_kp ho6 hkz (own_neb ho6 (by decide) hB4)) k4.size⟩
  have g1 : (j : Int) < (P.length : Int) := by omega
  obtain ⟨Lq, Pq, aq, ap, cq, cp, hB2, hDq⟩ := hDB
  have hDq := hDq w5 (Kp.refl _ _)
  have hlt' : j < (P.map (·.name)).length := by rw [List.length_map]; exact hlt
  have hni := take_nd hnd hlt'
  have hnext := take_fold (now := now) (s := s) hlt'
  rw [List.getElem_map] at hni hnext
  have hr3 := (expF_m now P[j].name ((P.map (·.name)).take j) (s, []) hni).trans (hlk j hlt)
  have hml := expF_mlen now ((P.map (·.name)).take j) (s, [])
  have hln := expF_len now ((P.map (·.name)).take j) (s, [])
  have htl : ((P.map (·.name)).take j).length ≤ 1000 := by rw [List.length_take, List.length_map]; omega
  have hst := exp_stp (win := win) (now := now) ((P.map (·.name)).take j) (s, []) hi
  obtain ⟨aT', cT', hq, hcT, hST⟩ := Sl.own prc_length hoT rfl
  cases hq
  obtain ⟨ba, oa, haT, hri⟩ := hST.at hlt
  generalize hq : ((P.map (·.name)).take j).foldl (expF now) (s, []) = q at hDq ho6 hr3 hml hln hst hnext
  obtain ⟨sq, gq⟩ := q
  simp only at hDq ho6 hr3 hml hln hst
  simp only [List.length_nil, Nat.zero_add] at hln
  have hin : Inv win sq := hst.inv
  have hLl := hDq.lenL
  have hPl' := hDq.lenP
  have hl16 := hin.len
  generalize hrj : P[j] = r at hri hr3 hnext
  clear hni hq hrj hst
  have hp := hin.pr _ _ hr3
  obtain ⟨⟨x0, hx0, -⟩, ⟨y0, hy0, hyo⟩⟩ : (∃ x, alook sq.l r.frm = some x ∧ True) ∧ (∃ y, alook sq.l r.to = some y ∧ (r.out = -1 ∨ 0 ≤ r.out)) := by
    obtain ⟨p1, p2, p3, ⟨x, p4, -⟩, ⟨y, p5, p6⟩⟩ := hp
    exact ⟨⟨x, p4, trivial⟩, ⟨y, p5, p6.elim (fun h => Or.inl h.1) (fun h => Or.inr h.1)⟩⟩
  have hLpos : 0 < Lq.length := by
    have := List.length_pos_of_mem (alook_mem hy0)
    omega
  have hPpos : 0 < Pq.length := by
    have := List.length_pos_of_mem (alook_mem hr3)
    omega
  have hTlt := own_lt hoT
  have hoT5 := hoT
  subst haT
  repeat (first|apply cA|apply cB|apply cD|apply cE|refine cV rfl rfl rfl rfl (by first|((first|apply qmv|apply qls|apply qln)<;>(first|exact rfl|exact dct (by first|assumption|omega)|fail))|fail) ?_)
  refine dA rfl (by exact rho_of rfl) rfl ?_
  repeat (first|apply cA|apply cB|apply cE|apply cF|apply cG|refine cV rfl rfl rfl rfl (by first|((first|apply qmv|apply qla|apply qix)<;>(first|exact rfl|assumption|exact Ar.mk (by omega)|exact List.not_mem_nil|apply prc_length|fail))|fail) ?_)
  refine SG.alloc rfl rfl rfl (fun b9 w6 hk6 hb9 hB9 => ?_)
  refine SG.setAll (l := prc r) rfl rfl (by exact rho_of rfl) (by exact rho_of rfl) hB9 (prc_length r) rfl (prc_one r) (fun w7 hk7 hB9 => ?_)
  have hB9 : Blk w7 b9 (.cells (prc r).toArray 102) := hB9
  have k57 : Kp [] w5 w7 := hk6.trans_new hk7 (new1 (by omega))
  have h9m := hB9.lt
  have hB2 := hB2.kp0 k57
  have hb25 := hk5.size
  have s57 := k57.size
  clear hri hk6 hk7
  obtain ⟨-, -, -, rwa⟩ := dhc_rows hB2
  repeat (first|apply cA|apply cB|apply cD|apply cE|refine cV rfl rfl rfl rfl (by first|(apply qla<;>(first|exact rfl|assumption|exact List.not_mem_nil))|fail) ?_)
  refine SG.call rfl rfl rfl (vs := [dhv win (.slice aq Lq.length cq) (.slice ap Pq.length cp)]) (by repeat' (first | exact True.intro | exact rho_of rfl | refine And.intro ?_ ?_)) ((rcopies_spec (hDq.sl.kp0 k57) (hDq.sp.kp0 k57) (by omega) (by omega)).mono (fun e' w8 hh => ?_))
  obtain ⟨vL, vP, he, hoL, hoP, hk8⟩ := hh
  refine ⟨_, he, ?_⟩
  clear he rwa
  obtain ⟨g, cg, rfl, -⟩ := own_slice hoL hLpos
  obtain ⟨gp, cQ, rfl, -⟩ := own_slice hoP hPpos
  have hB28 := hB2.kp0 hk8
  refine SG.setAll (l := dhc win (.slice (some ⟨g, 0, none⟩) Lq.length cg) (.slice (some ⟨gp, 0, none⟩) Pq.length cQ)) rfl rfl (by exact rho_of rfl) (by exact rho_of rfl) hB28 rfl rfl rfl (fun w9 hk9 hB29 => ?_)
  have s8 := hk8.size
  have s9 := hk9.size
  have k58 := k57.trans hk8
  have h29 : b2 ≠ b9 := by omega
  have hT : It w9 w7.heap.size b2 b9 w4.heap.size w1.heap.size v6 gq (.slice (some ⟨ba, oa, none⟩) P.length cT) P win sq r Lq Pq g cg (some ⟨gp, 0, none⟩) cQ :=
    ⟨own_kp hoL hk9 (own_neb hoL (by decide) hB28), own_kp hoP hk9 (own_neb hoP (by decide) hB28), fun x hx => ((hDq.inn x hx).kp0 k58).kp hk9 hB28 (by decide), hDq.srL, hDq.srP, hB29, (hB9.kp0 hk8).kp hk9 (nm1 (fun h => h29 h.symm)), own_kp (own_kp0 ho6 k58) hk9 (own_neb (own_kp0 ho6 k58) (by decide) hB28), own_kp (own_kp0 hoT k58) hk9 (own_neb (own_kp0 hoT k58) (by decide) hB28)⟩
  have k59 : Kp [b2] w5 w9 := k58.any.trans hk9
  have hTb : ∀ b, (Value.slice (some ⟨ba, oa, none⟩) P.length cT).ownBlock = some b → b < b9 := fun b hb => by
    have := hTlt b hb
    omega
  have hgm : w7.heap.size ≤ g := (own_blk hT.oL).1
  have hgpm : w7.heap.size ≤ gp := (own_blk hT.oP).1
  have hb2w5 : b2 < w5.heap.size := by omega
  clear hoL hoP hB28 hB29 hB2 hB9 ho6 hoT hST hDq hk8 hk9 k58 k57
  have fin : ∀ {w' : World} {v' : Value} {s' : ST} {g' : List Dg} {mL mP : Nat} {Lz : List Wi} {Pz : List Pr} {gz cz : Nat} {az : Option Addr} {cpz : Nat}, (exp1 now sq r.name).1 = s' → (if (exp1 now sq r.name).2 = true then gq ++ [r.name] else gq) = g' → Kp [b2] w4 w' → Dh w' mL mP b2 win s' Lz Pz gz cz az cpz → w'.ownsRow w4.heap.size 32 8 v' g'.length (flt dc g') → w'.ownsRow w1.heap.size 102 27 (.slice (some ⟨ba, oa, none⟩) P.length cT) P.length (flt prc P) →
      j + 1 ≤ P.length ∧ Kp [b2] w4 w' ∧ DocB w' b2 b4 win (((P.map (·.name)).take (j + 1)).foldl (expF now) (s, [])).1 ∧ w'.ownsRow w4.heap.size 32 8 v' (((P.map (·.name)).take (j + 1)).foldl (expF now) (s, [])).2.length (flt dc (((P.map (·.name)).take (j + 1)).foldl (expF now) (s, [])).2) ∧ w'.ownsRow w1.heap.size 102 27 (.slice (some ⟨ba, oa, none⟩) P.length cT) P.length (flt prc P) := fun e1 e2 hk hE hO hA => by
    have e3 : ((P.map (·.name)).take (j + 1)).foldl (expF now) (s, []) = _ := hnext
    rw [e3]
    unfold expF
    simp only
    rw [e1, e2]
    exact ⟨hlt, hk, hE.docB (hB4.kp hk (nm1 (by omega))) (by omega), hO, hA⟩
  clear hnext
  obtain ⟨yp, ys⟩ := y0
  obtain ⟨k, hk', ek, ya, yc, eLk, hSy, hcy⟩ := hT.doc.at hy0
  obtain ⟨-, -, -, rwa⟩ := dhc_rows hT.b2
  obtain ⟨q1, q2, -, q4, q5⟩ := prc_rows hT.b9
  repeat (first|apply cA|apply cB|apply cD|apply cE|refine cV rfl rfl rfl rfl (by first|((first|apply qla|apply qfa)<;>(first|exact rfl|assumption|exact List.not_mem_nil|apply dc_length))|fail) ?_)
  refine SG.ret rfl rfl rfl (vs := [dhv win (.slice (some ⟨g, 0, none⟩) Lq.length cg) (.slice (some ⟨gp, 0, none⟩) Pq.length cQ), dv r.to]) (by repeat' (first | exact True.intro | exact rho_of rfl | refine And.intro ?_ ?_)) (rfind_spec (P := Pq) r.to hT.doc.sl (by omega)) (fun w10 hk10 => ?_)
  rw [ek]
  have hT := hT.kp0 hk10
  have k510 : Kp [b2] w5 w10 := k59.trans hk10.any
  have s10 := k510.size
  clear rwa q1 q2 q4 q5
  obtain ⟨rw0, rw1, rw2, rwa⟩ := dhc_rows hT.b2
  obtain ⟨q1, q2, -, q4, q5⟩ := prc_rows hT.b9
  have q0 := prc_row0 hT.b9
  repeat (refine cV rfl rfl rfl rfl (by first|(apply qas<;>(exact rfl))|fail) ?_)
  refine cD ?_
  refine cE ?_
  refine cA ?_
  refine CG.cut_then (fun L' w' => ∃ s' r' Lc Pc aQ cQ, SubE [(1, .int .i64 now), (2, .pointer (some ⟨b2, 0, none⟩)), (4, .pointer (some ⟨b4, 0, none⟩)), (6, v6), (7, .slice (some ⟨ba, oa, none⟩) P.length cT), (8, .int .i64 (j : Int)), (9, .pointer (some ⟨b9, 0, none⟩))] L' ∧
    It w' w7.heap.size b2 b9 w4.heap.size w1.heap.size v6 gq (.slice (some ⟨ba, oa, none⟩) P.length cT) P win s' r' Lc Pc g cg aQ cQ ∧ Kp [b2] w5 w' ∧ Inv win s' ∧ alook s'.m r.name = some r' ∧ s'.m.length ≤ 1000 ∧ ((r'.out = -1 ∧ exp1 now sq r.name = exp2 now s' r.name r') ∨ (0 ≤ r'.out ∧ exp1 now sq r.name = (s', false)))) ?_ ?_
  · by_cases e1 : r.out = -1
    · have e1' : ¬ 0 ≤ r.out := by omega
      repeat (first | first|apply cA|apply cB|apply cD|apply cE|refine cV rfl rfl rfl rfl (by first|((first|apply qmv|apply qlc|apply qfa|apply qpk|apply qge)<;>(first|exact rfl|assumption|exact dcf (by first|assumption|omega)|exact List.not_mem_nil|fail))|fail) ?_ | refine cX rfl rfl ?_)
      refine dB rfl (by exact rho_of rfl) rfl ?_
      repeat (first|apply cF)
      refine NG.cut ⟨sq, r, Lq, Pq, _, cQ, by (repeat' (first | exact True.intro | exact rfl | refine And.intro ?_ ?_)), hT, k510, hin, hr3, by omega, Or.inl ⟨e1, ?_⟩⟩
      unfold exp1
      rw [hr3]
      simp only
      rw [if_pos e1]
    have e1' : 0 ≤ r.out := by omega
    by_cases e2 : now ≤ r.out
    · have ee : exp1 now sq r.name = (sq, false) := by
        unfold exp1
        rw [hr3]
        simp only
        rw [if_neg e1, if_pos e2]
      have e2' : ¬ r.out < now := by omega
      repeat (first|apply cA|apply cB|apply cD|apply cE|refine cV rfl rfl rfl rfl (by first|((first|apply qmv|apply qlc|apply qfa|apply qpk|apply qgt|apply qge)<;>(first|exact rfl|assumption|exact dct (by first|assumption|omega)|exact dcf (by first|assumption|omega)|exact List.not_mem_nil|fail))|fail) ?_)
      refine dB rfl (by exact rho_of rfl) rfl ?_
      repeat (first|apply cF)
      exact NG.cut ⟨sq, r, Lq, Pq, _, cQ, by (repeat' (first | exact True.intro | exact rfl | refine And.intro ?_ ?_)), hT, k510, hin, hr3, by omega, Or.inr ⟨e1', ee⟩⟩
    have e2' : r.out < now := by omega
    obtain ⟨ba2, oa2, haL, t8, t20⟩ := hT.doc.row hk' eLk
    injection haL with p1
    injection p1 with p2 p3 p4
    subst p2
    subst p3
    clear p4
    have y16 : yp.held.length ≤ 1000 := Nat.le_trans (hin.ok _ _ hy0).1.l (by decide)
    have hSy10 := hSy.kp0 hk10
    have hcap := hcy
    repeat (first|apply cA|apply cB|apply cD|apply cE|refine cV rfl rfl rfl rfl (by first|((first|apply qmv|apply qlc|apply qfa|apply qpk|apply qgt|apply qge)<;>(first|exact rfl|assumption|exact dct (by first|assumption|omega)|exact List.not_mem_nil|fail))|fail) ?_)
    refine dA rfl (by exact rho_of rfl) rfl ?_
    repeat (first|apply cA)
    refine CG.free mixed 15 [0, 1, 2, 3, 4, 5, 6, 7, 8, 9, 10, 11, 12, 13, 14] [(9, gR w10.heap.size (nextP (freeQ yp r.name 0)) (chgZ yp (backE yp r.name now))), (13, gV w10.heap.size 36 12), (14, gP w10.heap.size 36)] (by kernel_rfl) (by intro p hp y; simp at hp; rcases hp with rfl | rfl | rfl; exact gR_stab y; exact gV_stab y; exact gP_stab y) ?_
    repeat (refine cZ rfl rfl rfl rfl (by first|((first|apply qmv|apply qlc|apply qla|apply qfa|apply qix)<;>(first|exact rfl|assumption|exact Ar.mk (by omega)|exact List.not_mem_nil|apply dc_length|apply pc_length|fail))|fail) ?_)
    refine DerX.callE (vs := [pv yp (.slice ya yp.held.length yc), dv r.name, .int .i64 now]) (gR w10.heap.size (nextP (freeQ yp r.name 0)) (chgZ yp (backE yp r.name now))) rfl rfl rfl rfl (by repeat' (first | exact True.intro | exact rho_of rfl | refine And.intro ?_ ?_)) (fun W hk _ => (rback_spec yp r.name now (hSy10.kp0 hk) y16 hcap).mono (fun e w' hh => ?_)) (fun v1 => ?_)
    · obtain ⟨v, he, hk', h1⟩ := hh
      obtain ⟨x', h3, h4⟩ := gR_of h1 hk.size
      exact ⟨x', by rw [he, h3]; rfl, h4, hk'⟩
    repeat (refine cZ rfl rfl rfl rfl (by first|((first|apply qmv|apply qxt)<;>(exact rfl))|fail) ?_)
    refine DerX.allocV rfl rfl rfl rfl rfl (Nat.le_refl _) (fun b11 => ?_)
    refine DerX.storeV (l := v1.1) rfl rfl rfl rfl (by kernel_rfl) (by exact rho_of rfl) (by exact rho_of rfl) v1.2 (Nat.le_refl _) (fun w hk hF => ⟨hF _ (.head _) (by kernel_rfl), gR_one (w := w) (hF _ (.tail _ (.head _)) (by kernel_rfl))⟩) ?_ ?_
    · intro p hp hne y w w' cs g1 g2 g3 g4 g5
      simp only [List.mem_cons, List.not_mem_nil, or_false] at hp
      rcases hp with rfl | rfl | rfl
      · exact gR_keep g1 g3 g5
      · exact gV_keep v1.2 g3 g4 g5
      · exact absurd rfl hne
    refine DerX.tl (fun w11 hkw11 hF => ?_)
    have hb11 : w10.heap.size ≤ b11 ∧ Blk w11 b11 (.cells v1.1.toArray 36) := hF _ (.head _)
    have hgw11 := hF _ (.tail _ (.tail _ (.head _)))
    clear hF t8 t20 rw0 rw1 rw2 rwa q0 q1 q2 q4 q5
    have hT := hT.kp0 hkw11
    have sw11 := hkw11.size
    obtain ⟨leb11, hBb11⟩ := hb11
    have ltb11 := hBb11.lt
    have k511 : Kp [b2] w5 w11 := k510.trans hkw11.any
    by_cases gz : chgZ yp (backE yp r.name now) = 0
    rotate_left
    · have ee : exp1 now sq r.name = (sq, false) := by
        unfold exp1
        rw [hr3]
        simp only
        rw [if_neg e1, if_neg e2, hy0]
        simp only
        rw [if_neg (fun h : bkZ (yp, ys) r.name now = true => gz (of_decide_eq_true h))]
      generalize chgZ yp (backE yp r.name now) = z at gz
      repeat (first|apply cA|apply cB|apply cD|apply cE|refine cV rfl rfl rfl rfl (by first|((first|apply qei|apply qmv|apply qas|apply qei)<;>(first|exact rfl|exact dcf (by first|assumption|omega)|fail))|fail) ?_)
      refine dB rfl (by exact rho_of rfl) rfl ?_
      repeat (first|apply cF)
      exact NG.cut ⟨sq, r, Lq, Pq, _, cQ, by (repeat' (first | exact True.intro | exact rfl | refine And.intro ?_ ?_)), hT, k511, hin, hr3, by omega, Or.inr ⟨e1', ee⟩⟩
    have hbk : bkZ (yp, ys) r.name now = true := decide_eq_true gz
    have ee : exp1 now sq r.name = exp2 now ⟨aput sq.l r.to (bkP (yp, ys) r.name), aput sq.m r.name r.gone⟩ r.name r.gone := by
      unfold exp1
      rw [hr3]
      simp only
      rw [if_neg e1, if_neg e2, hy0]
      simp only
      rw [if_pos hbk]
    have hstp := (pass_stp hin hr3 e1 hy0 hbk).inv
    have hml2 : (aput sq.m r.name r.gone).length ≤ 1000 := by rw [keys_len' (keys_put hr3)]; omega
    obtain ⟨s1', h31, ho1⟩ := hgw11.1 gz
    obtain ⟨a1, c1, rfl, hc1, hS1⟩ := Sl.own hc_length ho1 rfl
    rw [h31] at hBb11
    rw [gz]
    clear hgw11 h31
    have hXin : (⟨r.to, nextP (freeQ yp r.name 0), a1, c1, ys⟩ : Wi).In w11 := ⟨hS1, hc1, Ty.own ho1⟩
    have hkw : k < Lq.length := hk'
    obtain ⟨rw0, rw1, rw2, rwa⟩ := dhc_rows hT.b2
    have hR11 : Row w11 b11 0 (pc (nextP (freeQ yp r.name 0)) (.slice a1 (nextP (freeQ yp r.name 0)).held.length c1)) := Row.all hBb11 rfl
    repeat (first|apply cA|apply cB|apply cD|apply cE|refine cV rfl rfl rfl rfl (by first|((first|apply qei|apply qmv|apply qas|apply qei)<;>(first|exact rfl|exact dct (by first|assumption|omega)|fail))|fail) ?_)
    refine dA rfl (by exact rho_of rfl) rfl ?_
    repeat (first|apply cA|apply cB|refine cV rfl rfl rfl rfl (by first|((first|apply qmv|apply qlc|apply qla|apply qfa|apply qix)<;>(first|exact rfl|assumption|exact Ar.mk (by omega)|exact List.not_mem_nil|apply pc_length|fail))|fail) ?_)
    refine SG.storeP (enc := wic) (k := k) (y := (⟨r.to, nextP (freeQ yp r.name 0), a1, c1, ys⟩ : Wi)) (dc r.to) (pc yp (.slice ya yp.held.length yc)) (pc (nextP (freeQ yp r.name 0)) (.slice a1 (nextP (freeQ yp r.name 0)).held.length c1)) [.int .i64 ys] wic_length rfl rfl (by exact rho_of rfl) (by rw [dc_length]) (by exact rho_of rfl) hT.oL rfl hk' (by rw [eLk]; rfl) rfl (by rw [pc_length, pc_length]) rfl (pc_length _ _) (pc_one _ _ _ _) (fun w12 hk12 hoL12 => ?_)
    have hT := hT.put hk' eLk hXin hk12 hoL12
    have k512 : Kp [b2] w5 w12 := k511.trans_new hk12 (new1 (by omega))
    clear hoL12 rw0 rw1 rw2 rwa hR11 hBb11 ho1 hS1 hXin
    repeat (first|apply cA|apply cB|apply cD|apply cE|refine cV rfl rfl rfl rfl (by first|(apply qfa<;>(exact rfl))|fail) ?_)
    refine SG.store rfl rfl (by exact rho_of rfl) (by exact rho_of rfl) hT.b9 rfl (by show 0 + 26 + 1 ≤ _; simp [prc_length]) rfl (fun w13 hk13 hB913 => ?_)
    have hB913 : Blk w13 b9 (.cells (spl (prc r) 26 [.int .i64 (-1)]).toArray 102) := hB913
    rw [prc_gone] at hB913
    have hT := hT.pair hk13 hB913 h9m h29 hTb
    have k513 : Kp [b2] w5 w13 := k512.trans_new hk13 (new1 (by omega))
    obtain ⟨rw0, rw1, rw2, rwa⟩ := dhc_rows hT.b2
    have qa : Row w13 b9 0 (prc r.gone) := Row.all hT.b9 rfl
    have q0' : Row w13 b9 0 (dc r.gone.name) := prc_row0 hT.b9
    have q0 : Row w13 b9 0 (dc r.name) := q0'
    clear q0'
    obtain ⟨jj, hjj, ejj, epk⟩ := (idx_of hT.srP r.name).2 r hr3
    have ejj : idxZ (fun y : Pr => decide (y.name = r.name)) Pq = (jj : Int) := ejj
    repeat (first|apply cD|apply cE)
    refine CG.tail mixed 7 [0, 1, 2, 3, 4, 5, 6] (by kernel_rfl) ?_
    repeat (refine cY rfl rfl rfl (by first|((first|apply qlc|apply qla|apply qfa)<;>(first|exact rfl|assumption|exact List.not_mem_nil|apply dc_length))|fail) ?_)
    refine Der.call rfl rfl rfl (vs := [dhv win (.slice (some ⟨g, 0, none⟩) (Lq.set k (⟨r.to, nextP (freeQ yp r.name 0), a1, c1, ys⟩ : Wi)).length cg) (.slice (some ⟨gp, 0, none⟩) Pq.length cQ), dv r.name]) (by repeat' (first | exact True.intro | exact rho_of rfl | refine And.intro ?_ ?_)) (fun W hk _ => (rnamed_spec (L := Lq.set k (⟨r.to, nextP (freeQ yp r.name 0), a1, c1, ys⟩ : Wi)) r.name (hT.doc.sp.kp0 hk) (by omega))) ?_
    rw [ejj]
    clear q0
    repeat (refine cY rfl rfl rfl (by first|(apply qla<;>(first|exact rfl|assumption|exact List.not_mem_nil|apply prc_length))|fail) ?_)
    refine Der.tl (fun w14 hk14 _ _ => ?_)
    have hT := hT.kp0 hk14
    have k514 : Kp [b2] w5 w14 := k513.trans hk14.any
    clear rw0 rw1 rw2 rwa qa
    repeat (first|refine cV rfl rfl rfl rfl (by first|(apply qix<;>(first|exact rfl|exact Ar.mk (by omega)|fail))|fail) ?_)
    refine SG.storeO (enc := prc) (k := jj) (y := r.gone) prc_length prc_one rfl rfl (by exact rho_of rfl) rfl (by exact rho_of rfl) hT.oP rfl hjj (fun w15 hk15 hoP15 => ?_)
    have hT := hT.set hjj epk (r' := r.gone) rfl hk15 hoP15 h9m hTb
    have k515 : Kp [b2] w5 w15 := k514.trans_new hk15 (new1 (by omega))
    repeat (first|apply cD)
    exact NG.cut ⟨⟨aput sq.l r.to (bkP (yp, ys) r.name), aput sq.m r.name r.gone⟩, r.gone, _, _, _, cQ, by (repeat' (first | exact True.intro | exact rfl | refine And.intro ?_ ?_)), hT, k515, hstp, by rw [alook_put, if_pos rfl], hml2, Or.inl ⟨rfl, ee⟩⟩
  clear q0 q1 q2 q4 q5 rw0 rw1 rw2 rwa hT ek eLk hSy hcy hk' k510 k59 hk10 hy0 hyo hx0 hp hr3
  rintro L' w16 ⟨s', r', Lc, Pc, aQ, cQ', hLL, hT, k516, hin', hr', hml', hcase⟩
  refine CG.to _ hLL ?_
  clear hLL L'
  have hLl := hT.doc.lenL
  have hPl' := hT.doc.lenP
  have hl16' := hin'.len
  obtain ⟨enm, ⟨⟨xp, xs⟩, hx0⟩⟩ : r'.name = r.name ∧ ∃ x, alook s'.l r'.frm = some x := by
    obtain ⟨p1, p2, p3, ⟨x, p4, -⟩, -⟩ := hin'.pr _ _ hr'
    exact ⟨p1, x, p4⟩
  obtain ⟨i, hi', ei, xa, xc, eLi, hSx, hcx⟩ := hT.doc.at hx0
  obtain ⟨rw0, rw1, rw2, rwa⟩ := dhc_rows hT.b2
  obtain ⟨q1, q2, -, q4, q5⟩ := prc_rows hT.b9
  repeat (first|apply cA|apply cB|refine cV rfl rfl rfl rfl (by first|((first|apply qla|apply qfa)<;>(first|exact rfl|assumption|exact List.not_mem_nil|apply dc_length))|fail) ?_)
  refine SG.ret rfl rfl rfl (vs := [dhv win (.slice (some ⟨g, 0, none⟩) Lc.length cg) (.slice aQ Pc.length cQ'), dv r'.frm]) (by repeat' (first | exact True.intro | exact rho_of rfl | refine And.intro ?_ ?_)) (rfind_spec (P := Pc) r'.frm hT.doc.sl (by omega)) (fun w17 hk17 => ?_)
  rw [ei]
  have hT := hT.kp0 hk17
  have k517 : Kp [b2] w5 w17 := k516.trans hk17.any
  have s517 := k517.size
  clear rw0 rw1 rw2 rwa q1 q2 q4 q5
  obtain ⟨rw0, rw1, rw2, rwa⟩ := dhc_rows hT.b2
  obtain ⟨q1, q2, -, q4, q5⟩ := prc_rows hT.b9
  have q0 := prc_row0 hT.b9
  rcases hcase with ⟨ho, ee⟩ | ⟨ho, ee⟩
  rotate_left
  · have ho' : ¬ r'.out < 0 := by omega
    repeat (first | first|apply cA|apply cB|apply cD|apply cE|refine cV rfl rfl rfl rfl (by first|((first|apply qmv|apply qas|apply qlc|apply qfa|apply qpk|apply qls)<;>(first|exact rfl|assumption|exact dcf (by first|assumption|omega)|exact List.not_mem_nil|fail))|fail) ?_ | refine cX rfl rfl ?_)
    refine dB rfl (by exact rho_of rfl) rfl ?_
    repeat (first|apply cB|apply cD|apply cE|apply cF|apply cU|refine cV rfl rfl rfl rfl (by first|((first|apply qmv|apply qas|apply qad)<;>(first|exact rfl|exact Ar.mk (by omega)|fail))|fail) ?_)
    exact NG.round (v6, j + 1) (by (repeat' (first | exact True.intro | exact rfl | refine And.intro ?_ ?_))) (fin (s' := s') (g' := gq) (by rw [ee]) (by rw [ee]; rfl) (hk5.trans k517) hT.dh hT.gone hT.all) (by simp only; omega)
  have ho' : r'.out < 0 := by omega
  by_cases e2 : now ≤ r'.inn
  · have e3 : exp1 now sq r.name = (s', false) := by
      rw [ee]
      unfold exp2
      rw [if_pos e2]
    have e2' : ¬ r'.inn < now := by omega
    repeat (first|apply cA|apply cB|apply cD|apply cE|refine cV rfl rfl rfl rfl (by first|((first|apply qmv|apply qas|apply qlc|apply qfa|apply qpk|apply qls|apply qgt)<;>(first|exact rfl|assumption|exact dct (by first|assumption|omega)|exact dcf (by first|assumption|omega)|exact List.not_mem_nil|fail))|fail) ?_)
    refine dB rfl (by exact rho_of rfl) rfl ?_
    repeat (first|apply cB|apply cD|apply cE|apply cF|apply cU|refine cV rfl rfl rfl rfl (by first|((first|apply qmv|apply qas|apply qad)<;>(first|exact rfl|exact Ar.mk (by omega)|fail))|fail) ?_)
    exact NG.round (v6, j + 1) (by (repeat' (first | exact True.intro | exact rfl | refine And.intro ?_ ?_))) (fin (s' := s') (g' := gq) (by rw [e3]) (by rw [e3]; rfl) (hk5.trans k517) hT.dh hT.gone hT.all) (by simp only; omega)
  have e2' : r'.inn < now := by omega
  obtain ⟨ba2, oa2, haL, t8, t20⟩ := hT.doc.row hi' eLi
  injection haL with p1
  injection p1 with p2 p3 p4
  subst p2
  subst p3
  clear p4
  have y16 : xp.held.length ≤ 1000 := Nat.le_trans (hin'.ok _ _ hx0).1.l (by decide)
  have hSx17 := hSx.kp0 hk17
  have hcap := hcx
  rw [← enm] at ee fin
  repeat (first|apply cA|apply cB|apply cD|apply cE|refine cV rfl rfl rfl rfl (by first|((first|apply qmv|apply qas|apply qlc|apply qfa|apply qpk|apply qls|apply qgt)<;>(first|exact rfl|assumption|exact dct (by first|assumption|omega)|exact List.not_mem_nil|fail))|fail) ?_)
  refine dA rfl (by exact rho_of rfl) rfl ?_
  repeat (first|apply cA)
  refine CG.free mixed 15 [0, 1, 2, 3, 4, 5, 6, 7, 8, 9, 10, 11, 12, 13, 14] [(9, gR w17.heap.size (nextP (freeQ xp r'.name 0)) (chgZ xp (backE xp r'.name now))), (13, gV w17.heap.size 36 12), (14, gP w17.heap.size 36)] (by kernel_rfl) (by intro p hp y; simp at hp; rcases hp with rfl | rfl | rfl; exact gR_stab y; exact gV_stab y; exact gP_stab y) ?_
  repeat (refine cZ rfl rfl rfl rfl (by first|((first|apply qmv|apply qlc|apply qla|apply qfa|apply qix)<;>(first|exact rfl|assumption|exact Ar.mk (by omega)|exact List.not_mem_nil|apply dc_length|apply pc_length|fail))|fail) ?_)
  refine DerX.callE (vs := [pv xp (.slice xa xp.held.length xc), dv r'.name, .int .i64 now]) (gR w17.heap.size (nextP (freeQ xp r'.name 0)) (chgZ xp (backE xp r'.name now))) rfl rfl rfl rfl (by repeat' (first | exact True.intro | exact rho_of rfl | refine And.intro ?_ ?_)) (fun W hk _ => (rback_spec xp r'.name now (hSx17.kp0 hk) y16 hcap).mono (fun e w' hh => ?_)) (fun v2 => ?_)
  · obtain ⟨v, he, hk', h1⟩ := hh
    obtain ⟨x', h3, h4⟩ := gR_of h1 hk.size
    exact ⟨x', by rw [he, h3]; rfl, h4, hk'⟩
  repeat (refine cZ rfl rfl rfl rfl (by first|((first|apply qmv|apply qxt)<;>(exact rfl))|fail) ?_)
  refine DerX.allocV rfl rfl rfl rfl rfl (Nat.le_refl _) (fun b14 => ?_)
  refine DerX.storeV (l := v2.1) rfl rfl rfl rfl (by kernel_rfl) (by exact rho_of rfl) (by exact rho_of rfl) v2.2 (Nat.le_refl _) (fun w hk hF => ⟨hF _ (.head _) (by kernel_rfl), gR_one (w := w) (hF _ (.tail _ (.head _)) (by kernel_rfl))⟩) ?_ ?_
  · intro p hp hne y w w' cs g1 g2 g3 g4 g5
    simp only [List.mem_cons, List.not_mem_nil, or_false] at hp
    rcases hp with rfl | rfl | rfl
    · exact gR_keep g1 g3 g5
    · exact gV_keep v2.2 g3 g4 g5
    · exact absurd rfl hne
  refine DerX.tl (fun w18 hkw18 hF => ?_)
  have hb14 : w17.heap.size ≤ b14 ∧ Blk w18 b14 (.cells v2.1.toArray 36) := hF _ (.head _)
  have hgw18 := hF _ (.tail _ (.tail _ (.head _)))
  clear hF t8 t20 rw0 rw1 rw2 rwa q0 q1 q2 q4 q5
  have hT := hT.kp0 hkw18
  have sw18 := hkw18.size
  obtain ⟨leb14, hBb14⟩ := hb14
  have ltb14 := hBb14.lt
  have k518 : Kp [b2] w5 w18 := k517.trans hkw18.any
  by_cases gz : chgZ xp (backE xp r'.name now) = 0
  rotate_left
  · have e3 : exp1 now sq r'.name = (s', false) := by
      rw [ee]
      unfold exp2
      rw [if_neg e2, hx0]
      simp only
      rw [if_neg (fun h : bkZ (xp, xs) r'.name now = true => gz (of_decide_eq_true h))]
    generalize chgZ xp (backE xp r'.name now) = z at gz
    repeat (first|apply cA|apply cB|apply cD|apply cE|refine cV rfl rfl rfl rfl (by first|((first|apply qei|apply qmv|apply qas|apply qei)<;>(first|exact rfl|exact dcf (by first|assumption|omega)|fail))|fail) ?_)
    refine dB rfl (by exact rho_of rfl) rfl ?_
    repeat (first|apply cB|apply cD|apply cE|apply cF|apply cU|refine cV rfl rfl rfl rfl (by first|((first|apply qmv|apply qas|apply qad)<;>(first|exact rfl|exact Ar.mk (by omega)|fail))|fail) ?_)
    exact NG.round (v6, j + 1) (by (repeat' (first | exact True.intro | exact rfl | refine And.intro ?_ ?_))) (fin (s' := s') (g' := gq) (by rw [e3]) (by rw [e3]; rfl) (hk5.trans k518) hT.dh hT.gone hT.all) (by simp only; omega)
  have hbk : bkZ (xp, xs) r'.name now = true := decide_eq_true gz
  have e3 : exp1 now sq r'.name = (⟨aput s'.l r'.frm (bkP (xp, xs) r'.name), s'.m.filter (fun q => decide (q.1 ≠ r'.name))⟩, true) := by
    rw [ee]
    unfold exp2
    rw [if_neg e2, hx0]
    simp only
    rw [if_pos hbk]
  obtain ⟨s1', h31, ho1⟩ := hgw18.1 gz
  obtain ⟨a1, c1, rfl, hc1, hS1⟩ := Sl.own hc_length ho1 rfl
  rw [h31] at hBb14
  rw [gz]
  clear hgw18 h31
  have hXin : (⟨r'.frm, nextP (freeQ xp r'.name 0), a1, c1, xs⟩ : Wi).In w18 := ⟨hS1, hc1, Ty.own ho1⟩
  obtain ⟨rw0, rw1, rw2, rwa⟩ := dhc_rows hT.b2
  have hR11 : Row w18 b14 0 (pc (nextP (freeQ xp r'.name 0)) (.slice a1 (nextP (freeQ xp r'.name 0)).held.length c1)) := Row.all hBb14 rfl
  repeat (first|apply cA|apply cB|apply cD|apply cE|refine cV rfl rfl rfl rfl (by first|((first|apply qei|apply qmv|apply qas|apply qei)<;>(first|exact rfl|exact dct (by first|assumption|omega)|fail))|fail) ?_)
  refine dA rfl (by exact rho_of rfl) rfl ?_
  repeat (first|apply cA|apply cB|refine cV rfl rfl rfl rfl (by first|((first|apply qmv|apply qlc|apply qla|apply qfa|apply qix)<;>(first|exact rfl|assumption|exact Ar.mk (by omega)|exact List.not_mem_nil|apply pc_length|fail))|fail) ?_)
  refine SG.storeP (enc := wic) (k := i) (y := (⟨r'.frm, nextP (freeQ xp r'.name 0), a1, c1, xs⟩ : Wi)) (dc r'.frm) (pc xp (.slice xa xp.held.length xc)) (pc (nextP (freeQ xp r'.name 0)) (.slice a1 (nextP (freeQ xp r'.name 0)).held.length c1)) [.int .i64 xs] wic_length rfl rfl (by exact rho_of rfl) (by rw [dc_length]) (by exact rho_of rfl) hT.oL rfl hi' (by rw [eLi]; rfl) rfl (by rw [pc_length, pc_length]) rfl (pc_length _ _) (pc_one _ _ _ _) (fun w19 hk19 hoL19 => ?_)
  have hT := hT.put hi' eLi hXin hk19 hoL19
  have k519 : Kp [b2] w5 w19 := k518.trans_new hk19 (new1 (by omega))
  have s519 := k519.size
  clear hoL19 rw0 rw1 rw2 rwa hR11 hBb14 ho1 hS1 hXin
  obtain ⟨rw0, rw1, rw2, rwa⟩ := dhc_rows hT.b2
  have q0 := prc_row0 hT.b9
  rw [enm] at q0
  obtain ⟨jj, hjj, ejj, epk⟩ := (idx_of hT.srP r.name).2 r' hr'
  have ejj : idxZ (fun y : Pr => decide (y.name = r.name)) Pc = (jj : Int) := ejj
  generalize hLs : Lc.set i (⟨r'.frm, nextP (freeQ xp r'.name 0), a1, c1, xs⟩ : Wi) = Ls at hT rwa rw1
  repeat (first|apply cA|apply cD|apply cE)
  refine CG.tail mixed 5 [0, 1, 2, 3, 4] (by kernel_rfl) ?_
  repeat (refine cY rfl rfl rfl (by first|((first|apply qla|apply qfa)<;>(first|exact rfl|assumption|exact List.not_mem_nil|apply dc_length))|fail) ?_)
  refine Der.call rfl rfl rfl (vs := [dhv win (.slice (some ⟨g, 0, none⟩) Ls.length cg) (.slice aQ Pc.length cQ'), dv r.name]) (by repeat' (first | exact True.intro | exact rho_of rfl | refine And.intro ?_ ?_)) (fun W hk _ => (rnamed_spec (L := Ls) r.name (hT.doc.sp.kp0 hk) (by omega))) ?_
  rw [ejj]
  refine Der.tl (fun w20 hk20 _ _ => ?_)
  have hT := hT.kp0 hk20
  have k520 : Kp [b2] w5 w20 := k519.trans hk20.any
  clear rw0 rw1 rw2 rwa
  refine SG.call rfl rfl rfl (vs := [dhv win (.slice (some ⟨g, 0, none⟩) Ls.length cg) (.slice aQ Pc.length cQ'), .int .i64 (jj : Int)]) (by repeat' (first | exact True.intro | exact rho_of rfl | refine And.intro ?_ ?_)) ((rwithout_spec (nL := Ls.length) hT.doc.sp (by omega) hT.doc.cp hjj).mono (fun e' w21 hh => ?_))
  obtain ⟨vP, he, hoP, hk21⟩ := hh
  refine ⟨_, he, ?_⟩
  clear he
  obtain ⟨aR, cR, rfl, hcR, -⟩ := Sl.own prc_length hoP rfl
  have hT := hT.kp0 hk21
  have k521 : Kp [b2] w5 w21 := k520.trans hk21.any
  obtain ⟨PR, hPR⟩ : ∃ l, l = Pc.take jj ++ Pc.drop (jj + 1) := ⟨_, rfl⟩
  rw [← hPR] at hoP hcR
  rw [← hPR]
  refine SG.setAll (l := dhc win (.slice (some ⟨g, 0, none⟩) Ls.length cg) (.slice aR PR.length cR)) rfl rfl (by exact rho_of rfl) (by exact rho_of rfl) hT.b2 rfl rfl rfl (fun w22 hk22 hB222 => ?_)
  have hN : Dh w22 w7.heap.size w20.heap.size b2 win ⟨aput s'.l r'.frm (bkP (xp, xs) r'.name), s'.m.filter (fun q => decide (q.1 ≠ r'.name))⟩ Ls PR g cg aR cR :=
    ⟨own_kp hT.oL hk22 (own_neb hT.oL (by decide) hT.b2), own_kp hoP hk22 (own_neb hoP (by decide) hT.b2), fun x hx => (hT.inn x hx).kp hk22 hT.b2 (by decide), hT.srL, by rw [hPR, enm]; exact srt_cut hT.srP hjj epk, hB222⟩
  have hG := own_kp hT.gone hk22 (own_neb hT.gone (by decide) hT.b2)
  have hA := own_kp hT.all hk22 (own_neb hT.all (by decide) hT.b2)
  have hB9 := hT.b9.kp hk22 (nm1 (fun h => h29 h.symm))
  have k522 : Kp [b2] w5 w22 := k521.trans hk22
  have s522 := k522.size
  clear hT hoP hB222
  have q0 := prc_row0 hB9
  repeat (first|apply cB|apply cD|apply cE|refine cV rfl rfl rfl rfl (by first|((first|apply qmv|apply qla|apply qfa)<;>(first|exact rfl|assumption|exact List.not_mem_nil|apply dc_length))|fail) ?_)
  refine SG.buildSlice rfl rfl rfl rfl (rbsD r'.name) (fun b23 w23 hk23 hb23 hB23 => ?_)
  have hN := hN.kp0 hk23
  have hG := own_kp0 hG hk23
  have hA := own_kp0 hA hk23
  have s23 := hk23.size
  clear q0
  refine SG.appO (enc := dc (n := 8)) (base := w4.heap.size) (xs := gq) (ys := [r'.name]) rfl rfl rfl (by exact rho_of rfl) (by exact rho_of rfl) rfl rfl rfl rfl dc_length dc_one hG (sl_one dc_length hB23) (by simp only [maxLen, List.length_cons, List.length_nil]; omega) (by show (gq.length + 1) * 8 ≤ _; omega) (by omega) (fun v' w24 hk24 hG24 _ => ?_)
  have hN := hN.grow hG hk24
  have hA := own_grow hA hG (by decide) hk24
  have hold := own_lt hG
  repeat (first|apply cB|apply cD|apply cE|apply cU|refine cV rfl rfl rfl rfl (by first|((first|apply qmv|apply qas|apply qad)<;>(first|exact rfl|exact Ar.mk (by omega)|fail))|fail) ?_)
  refine NG.round (v', j + 1) (by (repeat' (first | exact True.intro | exact rfl | refine And.intro ?_ ?_))) (fin (g' := gq ++ [r'.name]) (by rw [e3]) (by rw [e3]; rfl) ?_ hN hG24 hA) (by simp only; omega)
  exact ((hk5.trans k522).trans hk23.any).trans_new hk24 (own_new hG (Nat.le_refl _))
end Go.Proofs.YtajllbdeoopimaaGreat
namespace Go.Proofs.YtajllbdeoopimaaGreat
set_option linter.unusedVariables false
attribute [local irreducible] CG NG SG Vals Der Row Blk MapIs IterAt chkL DerX
set_option maxHeartbeats 64000000 in
theorem rstep_e {w : World} {v : Value} {win : Int} {s : ST} (hD : DocE w v win s) (hi : Inv win s) (hm : s.m.length ≤ 1000) (hwin : 0 ≤ win ∧ win ≤ 1048576) (x : HA) (hx : x.In w) :
    Calls Tryz.prog 11 #[v, hav x] w (fun e w' => ∃ v' vg, e = .returned (.tuple #[v', .int .i64 (doE win s x), vg]) ∧ Kp [] w w' ∧ DocE w' v' win (doS win s x) ∧ w'.ownsRow w.heap.size 32 8 vg (doG s x).length (flt dc (doG s x))) := by
  obtain ⟨L, P, aL, aP, cL, cP, hD⟩ := hD
  have hv := hD.eq
  subst hv
  refine enter2 Tryz.func11 rfl Tryz.ntmps11 rfl ?_
  repeat (first|apply cA|apply cB)
  refine SG.box rfl rfl rfl (by exact rho_of rfl) (fun b2 w1 hk1 hb2 hB2 => ?_)
  refine SG.box rfl rfl rfl (by exact rho_of rfl) (fun b3 w2 hk2 hb3 hB3 => ?_)
  refine SG.alloc rfl rfl rfl (fun b4 w3 hk3 hb4 hB4 => ?_)
  have l2 := hB2.lt
  have l3 := hB3.lt
  have l4 := hB4.lt
  have s1 := hk1.size
  have s2 := hk2.size
  have s3 := hk3.size
  have hB2 : Blk w3 b2 (.cells (dhc win (.slice aL L.length cL) (.slice aP P.length cP)).toArray 31) := (hB2.kp0 hk2).kp0 hk3
  have hB3 : Blk w3 b3 (.cells (hac x).toArray 38) := hB3.kp0 hk3
  have k3 := (hk1.trans hk2).trans hk3
  clear hk1 hk2 hk3
  obtain ⟨rw0, rw1, rw2, rwa⟩ := dhc_rows hB2
  obtain ⟨r0, r1, r2, r10, r18, r26, r27, r28, -⟩ := hac_rows hB3
  clear rw0 rw1 rw2
  have hE3 : DocE w3 (dhv win (.slice aL L.length cL) (.slice aP P.length cP)) win s := ⟨L, P, aL, aP, cL, cP, hD.kp0 k3⟩
  repeat (first|apply cA|apply cB|apply cD|apply cE|apply cG|refine cV rfl rfl rfl rfl (by first|((first|apply qei|apply qas|apply qlc|apply qfa|apply qei)<;>(first|exact rfl|assumption|exact List.not_mem_nil|exact dcu))|fail) ?_)
  by_cases e0 : x.kind = 0
  · refine dA rfl (by exact rho_of rfl) (decide_eq_true e0) ?_
    repeat (first|apply cA|apply cB|refine cV rfl rfl rfl rfl (by first|((first|apply qlc|apply qla|apply qfa)<;>(first|exact rfl|assumption|exact List.not_mem_nil|apply dc_length))|fail) ?_)
    refine SG.call rfl rfl rfl (vs := [dhv win (.slice aL L.length cL) (.slice aP P.length cP), .int .i64 x.now, dv x.frm, dv x.to, dv x.nm, .int .i64 x.amt, .int .i64 x.til]) (by repeat' (first | exact True.intro | exact rho_of rfl | refine And.intro ?_ ?_)) ((rfwd_e hE3 hi hm x.now x.frm x.to x.nm x.amt x.til hwin hx.t.2).mono (fun e w4 hh => ?_))
    obtain ⟨v', he, hk4, L1, P1, a1, a2, c1, c2, hE4⟩ := hh
    have hv := hE4.eq
    subst hv
    refine ⟨_, he, ?_⟩
    have ee : doE win s x = fwdZ win s x.now x.frm x.to x.nm x.amt x.til := by unfold doE; rw [if_pos e0]
    have es : doS win s x = if fwdZ win s x.now x.frm x.to x.nm x.amt x.til = 0 then fwdS win s x.frm x.to x.nm x.amt x.til else s := by unfold doS; rw [if_pos e0]
    have eg : doG s x = [] := if_neg (by omega)
    rw [ee, es, eg]
    clear he rwa r0 r1 r2 r10 r18 r26 r27 r28
    repeat (first|refine cV rfl rfl rfl rfl (by first|((first|apply qmv|apply qxt)<;>(exact rfl))|fail) ?_)
    refine SG.alloc rfl rfl rfl (fun b7 w5 hk5 hb7 hB7 => ?_)
    refine SG.setAll (l := dhc win (.slice a1 L1.length c1) (.slice a2 P1.length c2)) rfl rfl (by exact rho_of rfl) (by exact rho_of rfl) hB7 rfl rfl rfl (fun w6 hk6 hB7 => ?_)
    have k46 : Kp [] w4 w6 := hk5.trans_new hk6 (new1 (by omega))
    have hB46 := (hB4.kp0 hk4).kp0 k46
    have hr7 : Row w6 b7 0 (dhc win (.slice a1 L1.length c1) (.slice a2 P1.length c2)) := Row.all hB7 rfl
    repeat (first|apply cA|apply cB|apply cD|apply cE|refine cV rfl rfl rfl rfl (by first|((first|apply qmv|apply qas|apply qla)<;>(first|exact rfl|assumption|exact List.not_mem_nil))|fail) ?_)
    refine SG.setAll (l := dhc win (.slice a1 L1.length c1) (.slice a2 P1.length c2)) rfl rfl (by exact rho_of rfl) (by exact rho_of rfl) hB46 rfl rfl rfl (fun w7 hk7 hB47 => ?_)
    have hr : Row w7 b4 0 (dhc win (.slice a1 L1.length c1) (.slice a2 P1.length c2)) := Row.all hB47 rfl
    repeat (first|apply cD|apply cE|apply cH|apply cK|apply NG.ret_block|refine cV rfl rfl rfl rfl (by first|(apply qas<;>(exact rfl))|fail) ?_)
    refine ret3 (Or.inl rfl) Tryz.results11 (ResV.agg rfl rfl hr rfl) (by first | exact ResV.tmp rfl | exact ResV.agg rfl rfl (by assumption) (by first | exact dc_length _ | exact nc_length _ | exact rc_length _ _ _ | exact ec_length _ | exact dl_length _ _ _ _ | rfl) | exact ResV.cell rfl rfl (by assumption)) (by first | exact ResV.tmp rfl | exact ResV.agg rfl rfl (by assumption) (by first | exact dc_length _ | exact nc_length _ | exact rc_length _ _ _ | exact ec_length _ | exact dl_length _ _ _ _ | rfl) | exact ResV.cell rfl rfl (by assumption)) ?_
    exact ⟨_, _, rfl, ((k3.trans hk4).trans k46).trans_new hk7 (new1 (by omega)), ⟨L1, P1, a1, a2, c1, c2, (hE4.kp0 k46).kp hk7 hB46 (by decide) (by decide) (by decide)⟩, own_nil⟩
  refine dB rfl (by exact rho_of rfl) (decide_eq_false e0) ?_
  repeat (first|apply cA|apply cB|apply cD|apply cE|refine cV rfl rfl rfl rfl (by first|((first|apply qei|apply qas|apply qei)<;>(first|exact rfl|exact dcu))|fail) ?_)
  by_cases e1 : x.kind = 1
  · refine dA rfl (by exact rho_of rfl) (decide_eq_true e1) ?_
    repeat (first|apply cA|apply cB|refine cV rfl rfl rfl rfl (by first|((first|apply qlc|apply qla|apply qfa)<;>(first|exact rfl|assumption|exact List.not_mem_nil|apply dc_length))|fail) ?_)
    refine SG.call rfl rfl rfl (vs := [dhv win (.slice aL L.length cL) (.slice aP P.length cP), .int .i64 x.now, dv x.nm, .int .i64 x.amt]) (by repeat' (first | exact True.intro | exact rho_of rfl | refine And.intro ?_ ?_)) ((rsettle_e hE3 hi hm x.now x.nm x.amt).mono (fun e w4 hh => ?_))
    obtain ⟨v', he, hk4, L1, P1, a1, a2, c1, c2, hE4⟩ := hh
    have hv := hE4.eq
    subst hv
    refine ⟨_, he, ?_⟩
    have ee : doE win s x = setZ s x.now x.nm x.amt := by unfold doE; rw [if_neg e0, if_pos e1]
    have es : doS win s x = if setZ s x.now x.nm x.amt = 0 then setS s x.nm x.amt else s := by unfold doS; rw [if_neg e0, if_pos e1]
    have eg : doG s x = [] := if_neg (by omega)
    rw [ee, es, eg]
    clear he rwa r0 r1 r2 r10 r18 r26 r27 r28
    repeat (first|refine cV rfl rfl rfl rfl (by first|((first|apply qmv|apply qxt)<;>(exact rfl))|fail) ?_)
    refine SG.alloc rfl rfl rfl (fun b9 w5 hk5 hb9 hB7 => ?_)
    refine SG.setAll (l := dhc win (.slice a1 L1.length c1) (.slice a2 P1.length c2)) rfl rfl (by exact rho_of rfl) (by exact rho_of rfl) hB7 rfl rfl rfl (fun w6 hk6 hB7 => ?_)
    have k46 : Kp [] w4 w6 := hk5.trans_new hk6 (new1 (by omega))
    have hB46 := (hB4.kp0 hk4).kp0 k46
    have hr7 : Row w6 b9 0 (dhc win (.slice a1 L1.length c1) (.slice a2 P1.length c2)) := Row.all hB7 rfl
    repeat (first|apply cA|apply cB|apply cD|apply cE|refine cV rfl rfl rfl rfl (by first|((first|apply qmv|apply qas|apply qla)<;>(first|exact rfl|assumption|exact List.not_mem_nil))|fail) ?_)
    refine SG.setAll (l := dhc win (.slice a1 L1.length c1) (.slice a2 P1.length c2)) rfl rfl (by exact rho_of rfl) (by exact rho_of rfl) hB46 rfl rfl rfl (fun w7 hk7 hB47 => ?_)
    have hr : Row w7 b4 0 (dhc win (.slice a1 L1.length c1) (.slice a2 P1.length c2)) := Row.all hB47 rfl
    repeat (first|apply cD|apply cE|apply cH|apply cK|apply NG.ret_block|refine cV rfl rfl rfl rfl (by first|(apply qas<;>(exact rfl))|fail) ?_)
    refine ret3 (Or.inl rfl) Tryz.results11 (ResV.agg rfl rfl hr rfl) (by first | exact ResV.tmp rfl | exact ResV.agg rfl rfl (by assumption) (by first | exact dc_length _ | exact nc_length _ | exact rc_length _ _ _ | exact ec_length _ | exact dl_length _ _ _ _ | rfl) | exact ResV.cell rfl rfl (by assumption)) (by first | exact ResV.tmp rfl | exact ResV.agg rfl rfl (by assumption) (by first | exact dc_length _ | exact nc_length _ | exact rc_length _ _ _ | exact ec_length _ | exact dl_length _ _ _ _ | rfl) | exact ResV.cell rfl rfl (by assumption)) ?_
    exact ⟨_, _, rfl, ((k3.trans hk4).trans k46).trans_new hk7 (new1 (by omega)), ⟨L1, P1, a1, a2, c1, c2, (hE4.kp0 k46).kp hk7 hB46 (by decide) (by decide) (by decide)⟩, own_nil⟩
  refine dB rfl (by exact rho_of rfl) (decide_eq_false e1) ?_
  repeat (first|apply cA|apply cB|apply cD|apply cE|refine cV rfl rfl rfl rfl (by first|((first|apply qei|apply qas|apply qei)<;>(first|exact rfl|exact dcu))|fail) ?_)
  by_cases e2 : x.kind = 2
  · refine dA rfl (by exact rho_of rfl) (decide_eq_true e2) ?_
    repeat (first|apply cA|apply cB|refine cV rfl rfl rfl rfl (by first|((first|apply qlc|apply qla|apply qfa)<;>(first|exact rfl|assumption|exact List.not_mem_nil))|fail) ?_)
    refine SG.call rfl rfl rfl (vs := [dhv win (.slice aL L.length cL) (.slice aP P.length cP), .int .i64 x.now]) (by repeat' (first | exact True.intro | exact rho_of rfl | refine And.intro ?_ ?_)) ((rexpire_e hE3 hi hm x.now).mono (fun e w4 hh => ?_))
    obtain ⟨v', vg, he, hk4, ⟨L1, P1, a1, a2, c1, c2, hE4⟩, hg4⟩ := hh
    have hv := hE4.eq
    subst hv
    refine ⟨_, he, ?_⟩
    have ee : doE win s x = 0 := by unfold doE; rw [if_neg e0, if_neg e1, if_neg (by omega)]
    have es : doS win s x = (expAll x.now s).1 := by unfold doS; rw [if_neg e0, if_neg e1, if_pos e2]
    have eg : doG s x = (expAll x.now s).2 := if_pos e2
    rw [ee, es, eg]
    obtain ⟨ag, cg, rfl, _, _⟩ := Sl.own dc_length hg4 rfl
    clear he rwa r0 r1 r2 r10 r18 r26 r27 r28
    repeat (first|refine cV rfl rfl rfl rfl (by first|((first|apply qmv|apply qxt)<;>(exact rfl))|fail) ?_)
    refine SG.alloc rfl rfl rfl (fun b11 w5 hk5 hb11 hB11 => ?_)
    refine SG.setAll (l := dhc win (.slice a1 L1.length c1) (.slice a2 P1.length c2)) rfl rfl (by exact rho_of rfl) (by exact rho_of rfl) hB11 rfl rfl rfl (fun w6 hk6 hB11 => ?_)
    have k46 : Kp [] w4 w6 := hk5.trans_new hk6 (new1 (by omega))
    have hB46 := (hB4.kp0 hk4).kp0 k46
    have hr7 : Row w6 b11 0 (dhc win (.slice a1 L1.length c1) (.slice a2 P1.length c2)) := Row.all hB11 rfl
    repeat (first|apply cA|apply cB|apply cD|apply cE|refine cV rfl rfl rfl rfl (by first|((first|apply qmv|apply qas|apply qla)<;>(first|exact rfl|assumption|exact List.not_mem_nil))|fail) ?_)
    refine SG.setAll (l := dhc win (.slice a1 L1.length c1) (.slice a2 P1.length c2)) rfl rfl (by exact rho_of rfl) (by exact rho_of rfl) hB46 rfl rfl rfl (fun w7 hk7 hB47 => ?_)
    have hr : Row w7 b4 0 (dhc win (.slice a1 L1.length c1) (.slice a2 P1.length c2)) := Row.all hB47 rfl
    repeat (first|apply cD|apply cE|apply cH|apply cK|apply NG.ret_block|refine cV rfl rfl rfl rfl (by first|(apply qas<;>(exact rfl))|fail) ?_)
    refine ret3 (Or.inl rfl) Tryz.results11 (ResV.agg rfl rfl hr rfl) (by first | exact ResV.tmp rfl | exact ResV.agg rfl rfl (by assumption) (by first | exact dc_length _ | exact nc_length _ | exact rc_length _ _ _ | exact ec_length _ | exact dl_length _ _ _ _ | rfl) | exact ResV.cell rfl rfl (by assumption)) (by first | exact ResV.tmp rfl | exact ResV.agg rfl rfl (by assumption) (by first | exact dc_length _ | exact nc_length _ | exact rc_length _ _ _ | exact ec_length _ | exact dl_length _ _ _ _ | rfl) | exact ResV.cell rfl rfl (by assumption)) ?_
    exact ⟨_, _, rfl, ((k3.trans hk4).trans k46).trans_new hk7 (new1 (by omega)), ⟨L1, P1, a1, a2, c1, c2, (hE4.kp0 k46).kp hk7 hB46 (by decide) (by decide) (by decide)⟩, own_mono (own_kp (own_kp0 hg4 k46) hk7 (own_neb (own_kp0 hg4 k46) (by decide) hB46)) k3.size⟩
  refine dB rfl (by exact rho_of rfl) (decide_eq_false e2) ?_
  repeat (first|apply cA|apply cB|apply cD|apply cE|refine cV rfl rfl rfl rfl (by first|((first|apply qei|apply qas|apply qei)<;>(first|exact rfl|exact dcu))|fail) ?_)
  by_cases e3 : x.kind = 3
  · refine dA rfl (by exact rho_of rfl) (decide_eq_true e3) ?_
    have r28 : Row w3 b3 28 (pc x.p (.slice x.a x.p.held.length x.c)) := r28
    repeat (first|apply cA|apply cB|refine cV rfl rfl rfl rfl (by first|((first|apply qla|apply qfa)<;>(first|exact rfl|assumption|exact List.not_mem_nil|apply pc_length))|fail) ?_)
    refine SG.alloc rfl rfl rfl (fun b13 wa hka hb13 hB13 => ?_)
    refine SG.setAll (l := pc x.p (.slice x.a x.p.held.length x.c)) rfl rfl (by exact rho_of rfl) (by exact rho_of rfl) hB13 (pc_length _ _) rfl (pc_one _ _ _ _) (fun wb hkb hB13 => ?_)
    have hB13 : Blk wb b13 (.cells (pc x.p (.slice x.a x.p.held.length x.c)).toArray 36) := hB13
    have k3b : Kp [] w3 wb := hka.trans_new hkb (new1 (by omega))
    obtain ⟨-, -, -, -, q4, -⟩ := pc_rows hB13
    have hcl : (x.p.held.take 20).length ≤ x.c := by
      have := hx.cap
      rw [List.length_take]
      omega
    clear r28
    repeat (first|apply cA|apply cB|apply cD|apply cE|refine cV rfl rfl rfl rfl (by first|((first|apply qmn|apply qlc|apply qfa|apply qln)<;>(first|exact rfl|assumption|exact List.not_mem_nil))|fail) ?_)
    rw [take_min20]
    repeat (first|refine cV rfl rfl rfl rfl (by first|((first|apply qto|apply qfa|apply qto)<;>(first|exact rfl|exact Ar.mk (by omega)|fail))|fail) ?_)
    refine SG.store rfl rfl (by exact rho_of rfl) (by exact rho_of rfl) hB13 rfl (by show 0 + 11 + 1 ≤ _; simp [pc_length]) rfl (fun wc hkc hB13c => ?_)
    have hB13c : Blk wc b13 (.cells (spl (pc x.p (.slice x.a x.p.held.length x.c)) 11 [.slice x.a (x.p.held.take 20).length x.c]).toArray 36) := hB13c
    rw [pc_held] at hB13c
    have k3c : Kp [] w3 wc := k3b.trans_new hkc (new1 (by omega))
    have hR6 : Row wc b13 0 (pc x.cut (.slice x.a x.cut.held.length x.c)) := Row.all hB13c rfl
    have r2 := r2.kp0 k3c
    have r26 := r26.kp0 k3c
    have rwa := rwa.kp0 k3c
    have hS := (hx.sl.take 20).kp0 (k3.trans k3c)
    have hEc := hE3.kp0 k3c
    clear q4 r0 r1 r10 r18 r27
    repeat (first|apply cA|apply cB|apply cD|apply cE|refine cV rfl rfl rfl rfl (by first|((first|apply qlc|apply qla|apply qfa)<;>(first|exact rfl|assumption|exact List.not_mem_nil|apply dc_length|apply pc_length))|fail) ?_)
    refine SG.call rfl rfl rfl (vs := [dhv win (.slice aL L.length cL) (.slice aP P.length cP), dv x.frm, pv x.cut (.slice x.a x.cut.held.length x.c), .int .i64 x.amt]) (by repeat' (first | exact True.intro | exact rho_of rfl | refine And.intro ?_ ?_)) ((ropen_e (a := x.a) (c := x.c) hEc hi.len hm x.frm x.cut x.amt hS (by rw [x.cut_len]; omega) hcl).mono (fun e w4 hh => ?_))
    obtain ⟨v', he, hk4', L1, P1, a1, a2, c1, c2, hE4⟩ := hh
    have hk4 := k3c.trans hk4'
    have hv := hE4.eq
    subst hv
    refine ⟨_, he, ?_⟩
    have ee : doE win s x = openZ s.l x.frm x.cut x.amt := by unfold doE; rw [if_neg e0, if_neg e1, if_pos e3]
    have es : doS win s x = if openZ s.l x.frm x.cut x.amt = 0 then ⟨aput s.l x.frm (x.cut, x.amt), s.m⟩ else s := by unfold doS; rw [if_neg e0, if_neg e1, if_neg e2, if_pos e3]
    have eg : doG s x = [] := if_neg (by omega)
    rw [ee, es, eg]
    clear he rwa r2 r26 hR6
    repeat (first|refine cV rfl rfl rfl rfl (by first|((first|apply qmv|apply qxt)<;>(exact rfl))|fail) ?_)
    refine SG.alloc rfl rfl rfl (fun b14 w5 hk5 hb14 hB7 => ?_)
    refine SG.setAll (l := dhc win (.slice a1 L1.length c1) (.slice a2 P1.length c2)) rfl rfl (by exact rho_of rfl) (by exact rho_of rfl) hB7 rfl rfl rfl (fun w6 hk6 hB7 => ?_)
    have k46 : Kp [] w4 w6 := hk5.trans_new hk6 (new1 (by omega))
    have hB46 := (hB4.kp0 hk4).kp0 k46
    have hr7 : Row w6 b14 0 (dhc win (.slice a1 L1.length c1) (.slice a2 P1.length c2)) := Row.all hB7 rfl
    repeat (first|apply cA|apply cB|apply cD|apply cE|refine cV rfl rfl rfl rfl (by first|((first|apply qmv|apply qas|apply qla)<;>(first|exact rfl|assumption|exact List.not_mem_nil))|fail) ?_)
    refine SG.setAll (l := dhc win (.slice a1 L1.length c1) (.slice a2 P1.length c2)) rfl rfl (by exact rho_of rfl) (by exact rho_of rfl) hB46 rfl rfl rfl (fun w7 hk7 hB47 => ?_)
    have hr : Row w7 b4 0 (dhc win (.slice a1 L1.length c1) (.slice a2 P1.length c2)) := Row.all hB47 rfl
    repeat (first|apply cD|apply cE|apply cH|apply cK|apply NG.ret_block|refine cV rfl rfl rfl rfl (by first|(apply qas<;>(exact rfl))|fail) ?_)
    refine ret3 (Or.inl rfl) Tryz.results11 (ResV.agg rfl rfl hr rfl) (by first | exact ResV.tmp rfl | exact ResV.agg rfl rfl (by assumption) (by first | exact dc_length _ | exact nc_length _ | exact rc_length _ _ _ | exact ec_length _ | exact dl_length _ _ _ _ | rfl) | exact ResV.cell rfl rfl (by assumption)) (by first | exact ResV.tmp rfl | exact ResV.agg rfl rfl (by assumption) (by first | exact dc_length _ | exact nc_length _ | exact rc_length _ _ _ | exact ec_length _ | exact dl_length _ _ _ _ | rfl) | exact ResV.cell rfl rfl (by assumption)) ?_
    exact ⟨_, _, rfl, ((k3.trans hk4).trans k46).trans_new hk7 (new1 (by omega)), ⟨L1, P1, a1, a2, c1, c2, (hE4.kp0 k46).kp hk7 hB46 (by decide) (by decide) (by decide)⟩, own_nil⟩
  refine dB rfl (by exact rho_of rfl) (decide_eq_false e3) ?_
  have ee : doE win s x = 0 := by unfold doE; rw [if_neg e0, if_neg e1, if_neg e3]
  have es : doS win s x = s := by unfold doS; rw [if_neg e0, if_neg e1, if_neg e2, if_neg e3]
  have eg : doG s x = [] := if_neg (by omega)
  rw [ee, es, eg]
  clear r0 r1 r2 r10 r18 r26 r27 r28
  repeat (first|apply cA|apply cB|apply cE|apply cF|apply cU|refine cV rfl rfl rfl rfl (by first|(apply qla<;>(first|exact rfl|assumption|exact List.not_mem_nil))|fail) ?_)
  refine SG.setAll (l := dhc win (.slice aL L.length cL) (.slice aP P.length cP)) rfl rfl (by exact rho_of rfl) (by exact rho_of rfl) hB4 rfl rfl rfl (fun w7 hk7 hB47 => ?_)
  have hr : Row w7 b4 0 (dhc win (.slice aL L.length cL) (.slice aP P.length cP)) := Row.all hB47 rfl
  repeat (first|apply cD|apply cE|apply cH|refine cV rfl rfl rfl rfl (by first|(apply qas<;>(exact rfl))|fail) ?_)
  refine ret3 (Or.inl rfl) Tryz.results11 (ResV.agg rfl rfl hr rfl) (by first | exact ResV.tmp rfl | exact ResV.agg rfl rfl (by assumption) (by first | exact dc_length _ | exact nc_length _ | exact rc_length _ _ _ | exact ec_length _ | exact dl_length _ _ _ _ | rfl) | exact ResV.cell rfl rfl (by assumption)) (by first | exact ResV.tmp rfl | exact ResV.agg rfl rfl (by assumption) (by first | exact dc_length _ | exact nc_length _ | exact rc_length _ _ _ | exact ec_length _ | exact dl_length _ _ _ _ | rfl) | exact ResV.cell rfl rfl (by assumption)) ?_
  have kz := k3.trans_new hk7 (new1 (by omega))
  exact ⟨_, _, rfl, kz, ⟨L, P, aL, aP, cL, cP, hD.kp0 kz⟩, own_nil⟩
end Go.Proofs.YtajllbdeoopimaaGreat
namespace Go.Proofs.YtajllbdeoopimaaGreat
set_option linter.unusedVariables false
/-- A hub behind so many acts. -/
def stI (win : Int) (l : List HA) (i : Nat) : ST := (l.take i).foldl (doS win) ⟨[], []⟩
theorem hubE_new {w : World} {bh bs bp : Nat} {win : Int} (h : HubAt w bh bs bp win [] []) : HubE w bh bs bp win ⟨[], []⟩ := ⟨[], rfl, h⟩
attribute [local irreducible] CG NG SG Vals Der Row Blk MapIs IterAt DerX
end Go.Proofs.YtajllbdeoopimaaGreat
namespace Go.Proofs.YtajllbdeoopimaaGreat
set_option linter.unusedVariables false
/-- What made leaves. -/
def madeS (l : List HA) : ST := stI 5 l (min 20 l.length)
structure MadeAt (w w' : World) (bh bs bp : Nat) (v : Value) (s : ST) : Prop where
  hub : HubE w' bh bs bp 5 s
  doc : DocE w' v 5 s
  inv : Inv 5 s
  len : s.m.length ≤ 20
  gh : w.heap.size ≤ bh
  gs : w.heap.size ≤ bs
  gp : w.heap.size ≤ bp
theorem HubE.cells {w w' : World} {bh bs bp z : Nat} {win : Int} {s : ST} {cs : Array Value} {T : TypeId} (h : HubE w bh bs bp win s) (hk : Kp [z] w w') (hz : Blk w z (.cells cs T)) (hT : T ≠ 62) (hT2 : T ≠ 86) : HubE w' bh bs bp win s := by
  have hn := h.nb hz.raw
  obtain ⟨ms, er, hm⟩ := h
  exact ⟨ms, er, hm.blk.kp hk (nm1 (blk_ne hm.blk hz (fun e => hT e.symm))), hm.sh.kp hk (nm1 (fun e => hn (by rw [← e]; simp))), hm.pr.kp hk (nm1 (fun e => hn (by rw [← e]; simp))), hm.ne, fun x hx => (hm.at' x hx).kp hk (fun hne b off e => nm1 ((hm.at' x hx).ty.ne hne hz hT2 b off e)), hm.few⟩
theorem DocE.kp {w w' : World} {v : Value} {win : Int} {s : ST} {z : Nat} {cs : Array Value} {T : TypeId} (h : DocE w v win s) (hk : Kp [z] w w') (hz : Blk w z (.cells cs T)) (h1 : T ≠ 98) (h2 : T ≠ 102) (h3 : T ≠ 84) : DocE w' v win s := by
  obtain ⟨L, P, aL, aP, cL, cP, h⟩ := h
  exact ⟨L, P, aL, aP, cL, cP, h.kp hk hz h1 h2 h3⟩
attribute [local irreducible] CG NG SG Vals Der Row Blk MapIs IterAt chkL DerX
end Go.Proofs.YtajllbdeoopimaaGreat
namespace Go.Proofs.YtajllbdeoopimaaGreat
set_option linter.unusedVariables false
section
variable {w : World} {bh bs bp : Nat} {win : Int} {s : ST}
theorem purse_e (hH : HubE w bh bs bp win s) (k : Dg) {x : Ps} (hk : alook s.l k = some x) : Calls Tryz.prog 14 #[.pointer (some ⟨bh, 0, none⟩), dv k] w (fun e w' => ∃ v, e = .returned (.tuple #[v, .bool true]) ∧ PuAt w.heap.size w' v x.1 ∧ Kp [] w w') := by
  obtain ⟨ms, e, hH⟩ := hH
  rw [← e] at hk
  obtain ⟨y, hy, rfl⟩ := er_some hk
  exact purse_some hH k hy (hH.at' _ (alook_mem hy)) (hH.few _ (alook_mem hy))
theorem purse_e0 (hH : HubE w bh bs bp win s) (k : Dg) (hk : alook s.l k = none) : Ret Tryz.prog 14 #[.pointer (some ⟨bh, 0, none⟩), dv k] w (.tuple #[pv zPu (.slice none 0 0), .bool false]) := by
  obtain ⟨ms, e, hH⟩ := hH
  rw [← e, er_look] at hk
  exact purse_none hH k (by simpa using hk)
theorem peers_e (hH : HubE w bh bs bp win s) (hl : s.l.length ≤ 1000) : RetO Tryz.prog 44 dc 8 34 #[.pointer (some ⟨bh, 0, none⟩)] w (srt (s.l.map (·.1))) := by
  obtain ⟨ms, e, hH⟩ := hH
  have := peers_spec hH (by rw [← er_len, e]; exact hl)
  rwa [← er_keys, e] at this
theorem pairs_e (hH : HubE w bh bs bp win s) (hl : s.m.length ≤ 1000) : RetO Tryz.prog 68 prc 27 18 #[.pointer (some ⟨bh, 0, none⟩)] w (prsL s.m) := by
  obtain ⟨ms, e, hH⟩ := hH
  exact pairs_spec hH hl
end
/-- The totals, by the names. -/
def totL (l : Pl) : List (Dg × Int) := l.map (fun q => (q.1, sumP q.2.1))
def iz (z : Int) : Value := .int .i64 z
attribute [local irreducible] CG NG SG Vals Der Row Blk MapIs IterAt DerX
end Go.Proofs.YtajllbdeoopimaaGreat
namespace Go.Proofs.YtajllbdeoopimaaGreat
set_option linter.unusedVariables false
section
variable {P : Program} {n : Nat} {Q : Exit → Act → World → Prop} {L : Env} {w w0 w' : World} {ops rest : List Oper} {ty : TypeId} {pos : String} {af : Array Edge} {g : Option (Nat × Bool)} {S : List Nat} {F : World → Prop}
theorem equalIn_mapnil {T k E : TypeId} [u : Ut P T (.map k E)] (m : Nat) (p : Option Nat) (w : World) : (Op.equalIn (m + 1) T (.map p) (.map none)).run P w = .ok p.isNone w := by
  cases p <;> simp [Op.equalIn, run_underlying u.eq]
theorem equal_mapnil {T k E : TypeId} [u : Ut P T (.map k E)] (p : Option Nat) (w : World) : (Op.equal T (.map p) (.map none)).run P w = .ok p.isNone w := equalIn_mapnil (u := u) 9999 p w
theorem qem {d : Option Nat} {T T' k E : TypeId} [u : Ut P T (.map k E)] {x y : Operand} {p : Option Nat} (hx : ro L x = some (.map p)) (hy : ro L y = some (.map none)) : Vals P S w0 F L ⟨d, .binOp .eql T x y T', ty, pos, af, g⟩ (.bool p.isNone) := fun w _ _ => by
  simp [execOp, rho_of hx, rho_of hy, eqGuard, binOp, equal_mapnil (u := u)]
/-- An operation whose run is told. -/
theorem SG.run1 {d : Nat} {op : Op} {v : Value} (hr : (execOp (rho L) ⟨some d, op, ty, pos, af, g⟩).run P w = .ok (.value v) w') (hd : Nat.blt d n = true) (hs : isSelect op = false) (hw : want ops L ⟨some d, op, ty, pos, af, g⟩ = some true) (hk : op.operands.toList.all (known L) = true)
    (h : SG P n ops Q rest ((d, v) :: L) w') : SG P n ops Q (⟨some d, op, ty, pos, af, g⟩ :: rest) L w := by
  refine SG.op (by simpa using hd) hs hw hk ?_
  unfold OpRun
  rw [hr]
  exact h
/-- A call that the model runs at once. -/
theorem SG.callX {d : Nat} {f : FuncId} {args : List Operand} {vs : List Value} {tys : Array TypeId} {v : Value} (hr : (callFunc f vs.toArray).run P w = .ok (.value v) w') (he : Evs L args vs) (hd : Nat.blt d n = true) (hw : want ops L ⟨some d, .call ⟨.value (.func f), args.toArray, tys⟩, ty, pos, af, g⟩ = some true) (hk : (Op.call ⟨.value (.func f), args.toArray, tys⟩).operands.toList.all (known L) = true)
    (h : SG P n ops Q rest ((d, v) :: L) w') : SG P n ops Q (⟨some d, .call ⟨.value (.func f), args.toArray, tys⟩, ty, pos, af, g⟩ :: rest) L w := by
  refine SG.run1 (w' := w') (v := v) ?_ hd rfl hw hk h
  simp only [execOp, resolve, rho, Deferred.ofValue, he.arr]
  simp [invoke, hr]
theorem run_mclone {r : Nat} {es : Array MapEntry} {clock : Nat} (t : TypeId) (hb : Blk w r (.map es clock)) :
    (Extern.MapsClone.clone #[.iface t (.map (some r))]).run P w = .ok (.iface t (.map (some w.heap.size))) { w with heap := w.heap.push (.map es clock) } := by
  have e : Extern.MapsClone.clone #[.iface t (.map (some r))] = (getObj r >>= fun o => match o with
      | .map entries clock => (newObj (.map entries clock) >>= fun n => pure (.iface t (.map (some n))))
      | _ => stuck "maps.clone: a map expected") := rfl
  rw [e]
  simp [MapKept.run_getObj_map hb, Result.andThen, go_sem, newObj, Sem.run]
end
end Go.Proofs.YtajllbdeoopimaaGreat
namespace Go.Proofs.YtajllbdeoopimaaGreat
set_option linter.unusedVariables false
def mP {κ ν : Type} (base : Nat) (enc : κ → Value) (V : ν → Value) (m : List (κ × ν)) : Value → World → Prop := fun v w => ∃ b, v = .map (some b) ∧ base ≤ b ∧ MapIs w b enc V m
theorem mP_ok {κ ν : Type} {i ch base : Nat} {enc : κ → Value} {V : ν → Value} {m : List (κ × ν)} : RE.Ok ⟨i, ch, mP base enc V m⟩ := by
  refine ⟨fun v w w' _ h hp => ?_, fun v w b hp hb => ?_⟩
  · obtain ⟨b, rfl, hb, es, c, h1, h2, h3⟩ := hp
    exact ⟨b, rfl, hb, es, c, h b _ rfl h1, h2, h3⟩
  · obtain ⟨b', rfl, _, h1⟩ := hp
    cases hb
    exact h1.lt
section
variable {P : Program} {n : Nat} {S : List Nat} {ops : List Oper} {Q : Exit → Act → World → Prop} {w0 : World} {L : Env} {G : List RE} {K : Env → Gm → Prop} {Γ : Gm} {i : Nat} {ord : List Nat} {ty : TypeId} {pos : String} {af : Array Edge} {g : Option (Nat × Bool)}
theorem DerR.makeMap1 {κ ν : Type} {enc : κ → Value} {V : ν → Value} {base c d : Nat} {T k E : TypeId} [u : Ut P T (.map k E)] {x : Operand} {q : IntKind} {z : Int} (hE : atR G i = [⟨i, c, mP base enc V ([] : List (κ × ν))⟩])
    (ho : ops[i]? = some ⟨some d, .makeMap T (some x), ty, pos, af, g⟩) (hw : want ops L ⟨some d, .makeMap T (some x), ty, pos, af, g⟩ = some true) (hk : known L x = true) (hG : OkL G) (hx : rho L x = .int q z) (hb : base ≤ w0.heap.size)
    (h : ∀ v, DerR P S w0 ops G K ord ((d, v) :: L) ((i, v) :: Γ)) : DerR P S w0 ops G K (i :: ord) L Γ := by
  refine DerR.eff hE ho hw (by simpa [Op.operands] using hk) hG (fun w h1 h2 => ?_) h
  unfold OpRun
  have : (execOp (rho L) ⟨some d, .makeMap T (some x), ty, pos, af, g⟩).run P w = .ok (.value (.map (some w.heap.size))) { w with heap := w.heap.push (.map #[] 0) } := by
    simp only [execOp, Option.map_some, hx, Sem.run_bind, run_makeMap1 (u := u), Result.andThen, Sem.run_pure]
  rw [this]
  exact ⟨⟨w.heap.size, rfl, Nat.le_trans hb h1.size, MapIs.made w enc V⟩, Kp.push w _ rfl, fun b hb => by cases hb; exact Nat.le_refl _⟩
/-- A call that answers a new map. -/
theorem DerR.callM {κ ν : Type} {enc : κ → Value} {V : ν → Value} {m : List (κ × ν)} {base c d : Nat} {f : FuncId} [Fnc P f] {args : List Operand} {vs : List Value} {tys : Array TypeId} (hE : atR G i = [⟨i, c, mP base enc V m⟩])
    (ho : ops[i]? = some ⟨some d, .call ⟨.value (.func f), args.toArray, tys⟩, ty, pos, af, g⟩) (hw : want ops L ⟨some d, .call ⟨.value (.func f), args.toArray, tys⟩, ty, pos, af, g⟩ = some true) (hk : (Op.call ⟨.value (.func f), args.toArray, tys⟩).operands.toList.all (known L) = true) (hG : OkL G)
    (he : Evs L args vs) (hb : base ≤ w0.heap.size) (hc : ∀ w, Kp S w0 w → FactsR ops G i Γ w → Calls P f vs.toArray w (fun e w' => ∃ b, e = .returned (.map (some b)) ∧ w.heap.size ≤ b ∧ Kp [] w w' ∧ MapIs w' b enc V m))
    (h : ∀ v, DerR P S w0 ops G K ord ((d, v) :: L) ((i, v) :: Γ)) : DerR P S w0 ops G K (i :: ord) L Γ :=
  DerR.eff hE ho hw hk hG (fun w h1 h2 => orun_call (by
    rw [he.arr]
    refine (hc w h1 h2).mono (fun e w' ⟨b, g1, g2, g3, g4⟩ => ⟨_, g1, ⟨b, rfl, Nat.le_trans hb (Nat.le_trans h1.size g2), g4⟩, g3, fun b' hb' => ?_⟩)
    cases hb'
    exact g2)) h
end
end Go.Proofs.YtajllbdeoopimaaGreat
namespace Go.Proofs.YtajllbdeoopimaaGreat
set_option linter.unusedVariables false
theorem callMc (args : Array Value) (w : World) : (callFunc 42 args).run Tryz.prog w = ((Extern.MapsClone.clone args).run Tryz.prog w).andThen fun v w' => .ok (.value v) w' :=
  run_callFunc_extern Tryz.func42 (by kernel_rfl) (by kernel_rfl) (by kernel_rfl) (e := Extern.MapsClone.clone) (by kernel_rfl) args w
/-- A map gone through: an iterator turns. -/
theorem IterAt.it {κ ν : Type} {w : World} {r b : Nat} {enc : κ → Value} {V : ν → Value} {m left : List (κ × ν)} {cur : Option (κ × ν)} (h : IterAt w r b enc V m left cur) : ∃ x y z u, w.heap[r]? = some (.mapIter x y z u) := by
  obtain ⟨es, c, seen, h1, h2, h3, h4, h5, h6⟩ := h
  exact ⟨_, _, _, _, h4⟩
theorem HubAt.iter {κ ν : Type} {w w' : World} {r b : Nat} {enc : κ → Value} {V : ν → Value} {m left : List (κ × ν)} {cur : Option (κ × ν)} {bh bs bp : Nat} {win : Int} {ms : Ms} {mp : Mp} (h : HubAt w bh bs bp win ms mp) (hI : IterAt w r b enc V m left cur) (hk : Kp [r] w w') : HubAt w' bh bs bp win ms mp := by
  obtain ⟨x, y, z, u, hr⟩ := hI.it
  have nm : ∀ {κ ν : Type} {b : Nat} {enc : κ → Value} {V : ν → Value} {m : List (κ × ν)}, MapIs w b enc V m → b ∉ [r] := fun {κ} {ν} {b} {enc} {V} {m} hM => nm1 (fun e => by
    obtain ⟨es, c, hb⟩ := hM.blk
    have hb : w.heap[b]? = _ := hb
    rw [e, hr] at hb
    cases hb)
  have nc : ∀ {z' : Nat} {cs : Array Value} {T : TypeId} {f : Nat × Nat}, w.heap[z']? = some (.cells cs T f) → z' ∉ [r] := fun {z'} {cs} {T} {f} hz => nm1 (fun e => by
    rw [e, hr] at hz
    cases hz)
  exact ⟨h.blk.kp hk (nc h.blk.raw), h.sh.kp hk (nm h.sh), h.pr.kp hk (nm h.pr), h.ne, fun q hq => (h.at' q hq).kp hk (fun hn z off e => by
    obtain ⟨cs, f, hz⟩ := (h.at' q hq).ty hn z off e
    exact nc hz), h.few⟩
attribute [local irreducible] CG NG SG Vals Der Row Blk MapIs IterAt DerX DerR
set_option maxHeartbeats 8000000 in
theorem mclone_spec {w : World} {b : Nat} {m : Mp} (hm : MapIs w b (dv (n := 8)) prv m) : Calls Tryz.prog 20 #[.map (some b)] w (fun e w' => ∃ b', e = .returned (.map (some b')) ∧ w.heap.size ≤ b' ∧ Kp [] w w' ∧ MapIs w' b' (dv (n := 8)) prv m) := by
  refine enter1 Tryz.func20 rfl Tryz.ntmps20 rfl ?_
  obtain ⟨es, clock, h1, h2, h3⟩ := (by unfold MapIs at hm; exact hm)
  repeat (first|apply cA|apply cB|apply cD|apply cE|refine cV rfl rfl rfl rfl (by first|((first|apply qem|apply qmv|apply qas)<;>(exact rfl))|fail) ?_)
  refine dB rfl (by exact rho_of rfl) rfl ?_
  repeat (first|apply cA|apply cB|apply cE|apply cF|refine cV rfl rfl rfl rfl (by first|(apply qmv<;>(exact rfl))|fail) ?_)
  refine SG.run1 (v := .iface 60 (.map (some b))) (w' := w) ?_ rfl rfl rfl rfl ?_
  · kernel_rfl
  refine SG.callX (vs := [.iface 60 (.map (some b))]) (v := .iface 60 (.map (some w.heap.size))) (w' := { w with heap := w.heap.push (.map es clock) }) ?_ (by repeat' (first | exact True.intro | exact rho_of rfl | refine And.intro ?_ ?_)) rfl rfl rfl ?_
  · have hh := callMc #[.iface 60 (.map (some b))] w
    rw [run_mclone _ h1] at hh
    exact hh
  refine SG.run1 (v := .map (some w.heap.size)) (w' := { w with heap := w.heap.push (.map es clock) }) ?_ rfl rfl rfl rfl ?_
  · kernel_rfl
  repeat (first|apply cD|apply cE|apply cH|refine cV rfl rfl rfl rfl (by first|(apply qas<;>(exact rfl))|fail) ?_)
  refine ret1 (Or.inl rfl) Tryz.results20 (by first | exact ResV.tmp rfl | exact ResV.agg rfl rfl (by assumption) (by first | exact dc_length _ | exact nc_length _ | exact rc_length _ _ _ | exact ec_length _ | exact dl_length _ _ _ _ | rfl) | exact ResV.cell rfl rfl (by assumption)) ?_
  refine ⟨_, rfl, Nat.le_refl _, Kp.push w _ rfl, ?_⟩
  unfold MapIs
  exact ⟨es, clock, Blk.push w _, h2, h3⟩
/-- The purses, in another order, and elsewhere. -/
theorem er_app (a b : Ms) : er (a ++ b) = er a ++ er b := by simp [er]
set_option maxHeartbeats 32000000 in
theorem clone_e {w : World} {bh bs bp : Nat} {win : Int} {s : ST} (hH : HubE w bh bs bp win s) (hl : s.l.length ≤ 1000) : Calls Tryz.prog 6 #[.pointer (some ⟨bh, 0, none⟩)] w (fun e w' => ∃ ch cs cp l', e = .returned (.pointer (some ⟨ch, 0, none⟩)) ∧ Kp [] w w' ∧ w.heap.size ≤ ch ∧ w.heap.size ≤ cs ∧ w.heap.size ≤ cp ∧ HubE w' ch cs cp win ⟨l', s.m⟩ ∧ l'.Perm s.l) := by
  obtain ⟨ms, ee, hH⟩ := hH
  have hml : ms.length ≤ 1000 := by rw [← er_len, ee]; exact hl
  rw [← ee]
  clear ee
  refine enter1 Tryz.func6 rfl Tryz.ntmps6 rfl ?_
  have hnd := hH.sh.nodup
  obtain ⟨r0, r1, r2⟩ := hH.rows
  have hsh := hH.sh
  repeat (first|apply cA|apply cB|apply cD|apply cE|refine cV rfl rfl rfl rfl (by first|((first|apply qep|apply qmv|apply qas|apply qep)<;>(exact rfl))|fail) ?_)
  refine dB rfl (by exact rho_of rfl) rfl ?_
  repeat (first|apply cA|apply cE|apply cF)
  refine CG.rows mixed 15 [0, 1, 2, 3, 4, 5, 6, 7, 8, 10, 11, 12, 13, 9, 14] [⟨9, 0, mP w.heap.size (dv (n := 8)) shv ([] : Ms)⟩, ⟨14, 1, mP w.heap.size (dv (n := 8)) prv s.m⟩] (by kernel_rfl) rfl rfl (OkL.cons mP_ok (OkL.cons mP_ok OkL.nil)).all ?_
  repeat (refine DerR.val rfl rfl rfl rfl (by first|((first|apply qmv|apply qlc|apply qfa|apply qnc|apply qlm)<;>(first|exact rfl|assumption|exact List.not_mem_nil))|fail) ?_)
  refine DerR.makeMap1 rfl rfl rfl rfl (OkL.cons mP_ok (OkL.cons mP_ok OkL.nil)) (by exact rho_of rfl) (Nat.le_refl _) (fun v17 => ?_)
  refine DerR.callM (vs := [.map (some bp)]) rfl rfl rfl rfl (OkL.cons mP_ok (OkL.cons mP_ok OkL.nil)) (by repeat' (first | exact True.intro | exact rho_of rfl | refine And.intro ?_ ?_)) (Nat.le_refl _) (fun W hk _ => mclone_spec (hH.pr.kp0 hk)) (fun v22 => ?_)
  refine DerR.tl (fun w1 V hok hV => ?_)
  have hap := hok.apart2 hV (.tail _ (.head _)) (.head _) rfl rfl (by show (0 : Nat) ≠ 1; decide)
  obtain ⟨cs, rfl, hcs, hM1⟩ : mP w.heap.size (dv (n := 8)) shv ([] : Ms) v17 w1 := hok.get hV (.tail _ (.head _)) rfl
  obtain ⟨cp, rfl, hcp, hM2⟩ : mP w.heap.size (dv (n := 8)) prv s.m v22 w1 := hok.get hV (.head _) rfl
  have hne : cs ≠ cp := fun e => hap cs rfl (by rw [e]; rfl)
  have hk1 := hok.kp
  clear hok hV hap r0 r1 r2 hsh
  refine cV rfl rfl rfl rfl (vals_build rfl (bhub win cs cp)) ?_
  refine SG.box rfl rfl rfl (by exact rho_of rfl) (fun ch w2 hk2 hch hB2 => ?_)
  have k2 := hk1.trans hk2
  have hB2 : Blk w2 ch (.cells #[.int .i64 win, .map (some cs), .map (some cp)] 62) := hB2
  have hM1 := hM1.kp0 hk2
  have hM2 := hM2.kp0 hk2
  have hH2 := hH.kp0 k2
  obtain ⟨-, r1, -⟩ := hH2.rows
  have hws := hk1.size
  have hws2 := hk2.size
  repeat (first|apply cA|apply cB|apply cD|apply cE|refine cV rfl rfl rfl rfl (by first|((first|apply qmv|apply qas|apply qlc|apply qfa|apply qnc)<;>(first|exact rfl|assumption|exact List.not_mem_nil))|fail) ?_)
  refine SG.range rfl rfl rfl (by exact rho_of rfl) hH2.sh (fun r w3 hk3 hr3 hI => ?_)
  have hws3 := hk3.size
  have lcs := hM1.lt
  have lcp := hM2.lt
  have lch := hB2.lt
  repeat (first|apply cD|apply cE|apply cG)
  refine CG.loop (X := Ms × Ms × Ms × Option (Dg × Sh)) (fun x => [(3, .pointer (some ⟨ch, 0, none⟩)), (29, .pointer (some ⟨r, 0, none⟩))])
    (fun x w' => Kp [] w w' ∧ IterAt w' r bs (dv (n := 8)) shv ms x.2.2.1 x.2.2.2 ∧ (x.1 ++ x.2.2.1).Perm ms ∧ HubAt w' ch cs cp win x.2.1 s.m ∧ er x.2.1 = er x.1) (fun x => x.2.2.1.length) ([], [], ms, none) ⟨k2.trans hk3, hI, by simp, ⟨hB2.kp0 hk3, hM1.kp0 hk3, hM2.kp0 hk3, hne, fun x hx => (by cases hx), fun x hx => (by cases hx)⟩, rfl⟩ (by (repeat' (first | exact True.intro | exact rfl | refine And.intro ?_ ?_))) ?_
  clear hI r1 hB2 hM1 hM2 hH2
  rintro ⟨done, nm, left, cur⟩ w4 ⟨hk4, hI, hp, hC, hn⟩
  simp only at hI hp hC hn
  refine CG.to [(3, .pointer (some ⟨ch, 0, none⟩)), (29, .pointer (some ⟨r, 0, none⟩))] (by (repeat' (first | exact True.intro | exact rfl | refine And.intro ?_ ?_))) ?_
  repeat (first|apply cA|apply cB)
  refine SG.next rfl rfl rfl (by exact rho_of rfl) hI (fun h0 => ?_) (fun pre x post w5 hl5 hk5 hI5 => ?_)
  · subst h0
    rw [List.append_nil] at hp
    repeat (first|apply cA|apply cD|apply cE|refine cV rfl rfl rfl rfl (by first|(apply qxt<;>(exact rfl))|fail) ?_)
    refine dB rfl (by exact rho_of rfl) rfl ?_
    repeat (first|apply cA|apply cB|apply cD|apply cE|apply cH|apply cJ|apply cM|refine cN rfl ?_|refine cV rfl rfl rfl rfl (by first|((first|apply qmv|apply qas)<;>(exact rfl))|fail) ?_)
    refine ret1 (Or.inl rfl) Tryz.results6 (by first | exact ResV.tmp rfl | exact ResV.agg rfl rfl (by assumption) (by first | exact dc_length _ | exact nc_length _ | exact rc_length _ _ _ | exact ec_length _ | exact dl_length _ _ _ _ | rfl) | exact ResV.cell rfl rfl (by assumption)) ?_
    exact ⟨ch, cs, cp, er nm, rfl, hk4, by omega, hcs, hcp, ⟨nm, rfl, hC⟩, by rw [hn]; exact hp.map _⟩
  · have hxm : x ∈ ms := hp.mem_iff.1 (by rw [hl5]; simp)
    have hrn : r ∉ [bs] := nm1 (fun e => by have := hH.sh.lt; omega)
    have k5 : Kp [] w w5 := hk4.trans_new hk5 (new1 (by omega))
    have hC5 : HubAt w5 ch cs cp win nm s.m := hC.iter hI hk5
    have hat := (hH.at' x hxm).kp0 k5
    have hfew := hH.few x hxm
    repeat (first|apply cA|apply cD|apply cE|refine cV rfl rfl rfl rfl (by first|(apply qxt<;>(exact rfl))|fail) ?_)
    refine dA rfl (by exact rho_of rfl) rfl ?_
    repeat (first|apply cA|apply cB|apply cE|apply cF|apply cG|refine cV rfl rfl rfl rfl (by first|((first|apply qen|apply qxt|apply qen)<;>(first|exact rfl|assumption|exact List.not_mem_nil))|fail) ?_)
    refine SG.alloc rfl rfl rfl (fun b4 w6 hk6 hb4 hB4 => ?_)
    refine SG.alloc rfl rfl rfl (fun b5 w7 hk7 hb5 hB5 => ?_)
    have l4 := hB4.lt
    refine SG.setAll (l := dc x.1) rfl rfl (by exact rho_of rfl) (by exact rho_of rfl) (hB4.kp0 hk7) (dc_length _) rfl (dc_one _) (fun w8 hk8 hB4 => ?_)
    refine SG.setAll (l := shc x.2) rfl rfl (by exact rho_of rfl) (by exact rho_of rfl) (hB5.kp hk8 (nm1 (by omega))) (shc_length _) rfl (shc_one _) (fun w9 hk9 hB5 => ?_)
    have hB4 : Blk w9 b4 (.cells (dc x.1).toArray 44) := hB4.kp hk9 (nm1 (by omega))
    have hB5 : Blk w9 b5 (.cells (shc x.2).toArray 72) := hB5
    have s5 := hk6.size
    have s6 := hk7.size
    have k59 : Kp [] w5 w9 := ((hk6.trans hk7).trans_new hk8 (new1 (by omega))).trans_new hk9 (new1 (by omega))
    have k9 := k5.trans k59
    have hR4 : Row w9 b4 0 (dc x.1) := Row.all hB4 rfl
    obtain ⟨-, q1, q2, -⟩ := shc_rows hB5
    have hC9 := hC5.kp0 k59
    obtain ⟨-, r1, -⟩ := hC9.rows
    have hat9 := hat.kp0 k59
    clear hk6 hk7 hk8 hk9 hB4 hB5
    repeat (first|apply cD|apply cE)
    refine CG.tailg mixed 11 [0, 1, 2, 3, 4, 5, 6, 8, 9, 7, 10] [7] [] (fun _ => True) (by kernel_rfl) trivial (fun _ _ _ h => h) ?_
    repeat (refine cY rfl rfl rfl (by first|((first|apply qmv|apply qlc|apply qla|apply qfa|apply qnc)<;>(first|exact rfl|assumption|exact List.not_mem_nil|apply dc_length|apply pc_length))|fail) ?_)
    refine Der.callG (X := Option Addr × Nat) (vs := [pv x.2.p x.2.s]) (fun q => pv x.2.p (.slice q.1 x.2.p.held.length q.2)) (fun q w' => (⟨x.2.p, q.1, q.2, x.2.side⟩ : Sh).At w') rfl rfl rfl rfl (by repeat' (first | exact True.intro | exact rho_of rfl | refine And.intro ?_ ?_)) (fun q w w' hk h => h.kp0 hk) (fun _ _ _ h => h) (fun W hk _ => (copied_spec (c := x.2.c) x.2.p (hat9.sl.kp0 hk) (by omega)).mono (fun e w' hh => ?_)) (fun q => ?_)
    · obtain ⟨v, he, ⟨s', rfl, ho⟩, hk'⟩ := hh
      obtain ⟨a', c', rfl, hc', hS'⟩ := Sl.own hc_length ho rfl
      exact ⟨(a', c'), he, ⟨hS', hc', Ty.own ho⟩, hk'⟩
    obtain ⟨g1, g2⟩ := q
    refine cY rfl rfl rfl (vals_build rfl (bsh x.2.p g1 g2 x.2.side)) ?_
    refine Der.tl (fun w10 hk10 hF _ => ?_)
    have hat : (⟨x.2.p, g1, g2, x.2.side⟩ : Sh).At w10 := hF.2
    have hC10 := hC9.kp0 hk10
    refine SG.mapUpdate (enc := dv (n := 8)) (V := shv) (kx := x.1) (vy := ⟨x.2.p, g1, g2, x.2.side⟩) rfl rfl (by exact rho_of rfl) (by exact rho_of rfl) (by exact rho_of rfl) hC10.sh BArr.key (fun w11 hk11 hm11 => ?_)
    have hkn : alook nm x.1 = none := by
      have h1 : alook (er nm) x.1 = none := by
        rw [hn, er_look]
        have h2 : alook done x.1 = none := look_none (fun hm => by
          have h3 := (hp.map (·.1)).nodup_iff.2 hnd
          rw [List.map_append, List.nodup_append] at h3
          exact h3.2.2 _ hm x.1 (by rw [hl5]; simp) rfl)
        rw [h2]
        rfl
      rw [er_look] at h1
      simpa using h1
    have hI11 : IterAt w11 r bs (dv (n := 8)) shv ms (pre ++ post) (some x) := ((hI5.kp0 k59).kp0 hk10).kp hk11 (nm1 (by omega)) (nm1 (by have := hH.sh.lt; omega))
    repeat (first|apply cD|apply cU)
    refine NG.round (done ++ [x], nm ++ [(x.1, ⟨x.2.p, g1, g2, x.2.side⟩)], pre ++ post, some x) (by (repeat' (first | exact True.intro | exact rfl | refine And.intro ?_ ?_))) ⟨(k9.trans hk10).trans_new hk11 (new1 hcs), hI11, ?_, ?_, ?_⟩ (by simp only; rw [hl5]; simp)
    · simp only
      rw [hl5] at hp
      refine List.Perm.trans ?_ hp
      rw [List.append_assoc, List.singleton_append]
      exact List.Perm.append_left _ List.perm_middle.symm
    · simp only
      rw [aput_new _ hkn] at hm11
      refine hC10.setS hk11 hm11 (fun y hy => ?_) (fun y hy => ?_)
      · rcases List.mem_append.1 hy with h | h
        · exact hC10.at' y h
        · rw [List.mem_singleton] at h; rw [h]; exact hat
      · rcases List.mem_append.1 hy with h | h
        · exact hC10.few y h
        · rw [List.mem_singleton] at h; rw [h]; exact hfew
    · simp only
      rw [er_app, er_app, hn]
      rfl
end Go.Proofs.YtajllbdeoopimaaGreat
