import Derived.Test.YtajllbdeoopimaaGreatQp3
namespace Go.Proofs.YtajllbdeoopimaaGreat
set_option linter.unusedVariables false
theorem bd1 (b : UInt8) (w : World) : (Instr.build 44 #[(0, bv b)]).run Tryz.prog w = .ok (dv (dg1 b)) w := by kernel_rfl
theorem bz2 (x y : Int) (w : World) : (Instr.build 33 #[(0, .int .i64 x), (1, .int .i64 y)]).run Tryz.prog w = .ok (zv2 (x, y)) w := by kernel_rfl
theorem btw (b : UInt8) (e : Int) (w : World) : (Instr.build 47 #[(0, dv (dg1 b)), (2, zv2 (e, e))]).run Tryz.prog w = .ok (pv (twoP (dg1 b) e) (.slice none 0 0)) w := by kernel_rfl
theorem Hop.set {k1 k2 n : Dg} {x y : Sh} {e now til amt : Int} (h : Hop k1 k2 n x y e now til amt) {t over : Int} (t0 : 0 ≤ t) (t1 : t + 5 ≤ til) (o0 : 0 ≤ over) (o1 : over ≤ amt) (a1 a2 : Option Addr) (c1 c2 : Nat) :
    setE [(k1, ⟨fwdX x n amt til, a1, c1, x.side⟩), (k2, ⟨fwdY 5 y n amt til, a2, c2, y.side⟩)] [(n, fwdR 5 k1 k2 n amt til)] t n over = 0 := by
  obtain ⟨nx, hx⟩ := h.xp
  obtain ⟨ny, hy⟩ := h.yp
  obtain ⟨l1, l2⟩ := alook2 (x := (⟨fwdX x n amt til, a1, c1, x.side⟩ : Sh)) (y := ⟨fwdY 5 y n amt til, a2, c2, y.side⟩) h.ne
  have f1 := free_one (p := fwdX x n amt til) (nm := nx) (n := n) (e := e) (amt := amt) (s := 1 - x.side) (til := til) (over := over) (by unfold fwdX nearH; rw [hx]) (by have := h.xs; omega) h.e0 h.e1 h.hx h.a1 o0 o1
  have f2 := free_one (p := fwdY 5 y n amt til) (nm := ny) (n := n) (e := e) (amt := amt) (s := y.side) (til := til - 5) (over := over) (by unfold fwdY farH; rw [hy]) h.ys h.e0 h.e1 h.hy h.a1 o0 o1
  have := h.t1
  unfold setE
  rw [if_neg (by omega)]
  simp only [alook, if_pos, fwdR]
  rw [if_neg (by omega), if_neg (by omega), if_neg h.ne]
  simp only
  rw [f1.1, f2.1]
  rfl
theorem filt1 {n : Dg} {r : Pr} : ([(n, r)] : Mp).filter (fun q => decide (q.1 ≠ n)) = [] := by simp
attribute [local irreducible] CG NG SG Vals Der Row Blk MapIs IterAt DerX
set_option maxHeartbeats 8000000 in
theorem two_spec (b : UInt8) (e : Int) (w : World) : Ret Tryz.prog 16 #[bv b, .int .i64 e] w (pv (twoP (dg1 b) e) (.slice none 0 0)) := by
  refine enter2 Tryz.func16 rfl Tryz.ntmps16 rfl ?_
  refine cA ?_
  refine cB ?_
  refine SG.alloc rfl rfl rfl (fun b4 w1 hk1 hb4 hB4 => ?_)
  repeat (first|apply cA|apply cB|apply cD|apply cE|refine cV rfl rfl rfl rfl (by first|(apply qmv<;>(exact rfl))|fail) ?_)
  refine cV rfl rfl rfl rfl (vals_build rfl (bd1 b)) ?_
  repeat (first|refine cV rfl rfl rfl rfl (by first|(apply qmv<;>(exact rfl))|fail) ?_)
  refine cV rfl rfl rfl rfl (vals_build rfl (bz2 e e)) ?_
  refine cV rfl rfl rfl rfl (vals_build rfl (btw b e)) ?_
  refine SG.setAll (l := pc (twoP (dg1 b) e) (.slice none 0 0)) rfl rfl (by exact rho_of rfl) (by exact rho_of rfl) hB4 (pc_length _ _) rfl (pc_one _ _ _ _) (fun w2 hk2 hB5 => ?_)
  have hr : Row w2 b4 0 (pc (twoP (dg1 b) e) (.slice none 0 0)) := Row.all hB5 rfl
  repeat (first|apply cD|apply cE|apply cH)
  refine ret1 (Or.inl rfl) Tryz.results16 (ResV.agg rfl rfl hr (pc_length _ _)) ?_
  exact ⟨rfl, hk1.trans_new hk2 (new1 (by omega))⟩
/-- A hub in a place that only its own calls write. -/
def HubR (bh bs bp : Nat) (win : Int) (ms : Ms) (mp : Mp) (w : World) : Prop := HubAt w bh bs bp win ms mp
theorem hubR_stab {bh bs bp : Nat} {win : Int} {ms : Ms} {mp : Mp} : Stab [] (HubR bh bs bp win ms mp) := fun _ _ hk h => HubAt.kp0 h hk
theorem kp2a {bs bp : Nat} {w w' : World} (h : Kp [bs] w w') : Kp [bs, bp] w w' := h.mono (fun v hv => by rw [List.mem_singleton] at hv; subst hv; simp)
theorem prc_rowsO {w : World} {b off : Nat} {r : Pr} (h : Row w b off (prc r)) : Row w b (off + 25) [.int .i64 r.inn] ∧ Row w b (off + 26) [.int .i64 r.out] := by
  have l1 : (dc r.name).length = 8 := dc_length _
  have l2 : (dc r.frm).length = 8 := dc_length _
  have l3 : (dc r.to).length = 8 := dc_length _
  have h1 := h.part (dc r.name ++ (dc r.frm ++ (dc r.to ++ [.int .i64 r.amt]))) [.int .i64 r.inn] [.int .i64 r.out] (by simp [prc])
  have h2 := h.part (dc r.name ++ (dc r.frm ++ (dc r.to ++ [.int .i64 r.amt, .int .i64 r.inn]))) [.int .i64 r.out] [] (by simp [prc])
  have e1 : (dc r.name ++ (dc r.frm ++ (dc r.to ++ [Value.int .i64 r.amt]))).length = 25 := by simp [l1, l2, l3]
  have e2 : (dc r.name ++ (dc r.frm ++ (dc r.to ++ [Value.int .i64 r.amt, Value.int .i64 r.inn]))).length = 26 := by simp [l1, l2, l3]
  rw [e1] at h1
  rw [e2] at h2
  exact ⟨h1, h2⟩
theorem pc_have {w : World} {b : Nat} {T : TypeId} {p : Pu} {s : Value} (h : Blk w b (.cells (pc p s).toArray T)) : Row w b 9 (zc2 (p.h0, p.h1)) := by
  have l8 : (dc p.name).length = 8 := dc_length _
  exact Row.of h (dc p.name ++ [.int .i64 p.num]) [s] (by simp [pc, zc2]) (by simp [l8])
set_option maxHeartbeats 32000000 in
theorem known_spec (w : World) : Ret Tryz.prog 5 #[] w (.bool true) := by
  refine enter0 Tryz.func5 rfl Tryz.ntmps5 ?_
  repeat (first|apply cA|apply cB|apply cD|apply cE|refine cV rfl rfl rfl rfl (by first|(apply qas<;>(exact rfl))|fail) ?_)
  refine SG.call rfl rfl rfl (vs := [.int .i64 5]) (by repeat' (first | exact True.intro | exact rho_of rfl | refine And.intro ?_ ?_)) ((new_spec 5 (by decide) (by decide) w).mono (fun e w1 hh => ?_))
  obtain ⟨bh, bs, bp, he, hk1, gh, gs, gp, hH1⟩ := hh
  refine ⟨_, he, ?_⟩
  clear he
  have ls := hH1.sh.lt
  have lp := hH1.pr.lt
  repeat (first|apply cA|apply cB|apply cD|apply cE|refine cV rfl rfl rfl rfl (by first|((first|apply qmv|apply qas|apply qxt)<;>(exact rfl))|fail) ?_)
  refine cV rfl rfl rfl rfl (vals_build rfl (bd1 1)) ?_
  refine cV rfl rfl rfl rfl (vals_build rfl (bd1 2)) ?_
  refine cV rfl rfl rfl rfl (vals_build rfl (bd1 9)) ?_
  refine SG.alloc rfl rfl rfl (fun b3 w2 hk2 hb3 hB3 => ?_)
  refine SG.alloc rfl rfl rfl (fun b4 w3 hk3 hb4 hB4 => ?_)
  refine SG.alloc rfl rfl rfl (fun b5 w4 hk4 hb5 hB5 => ?_)
  have l3 := hB3.lt
  have l4 := hB4.lt
  have l5 := hB5.lt
  have s1 := hk1.size
  have s2 := hk2.size
  have s3 := hk3.size
  have s4 := hk4.size
  refine SG.setAll (l := dc (dg1 1)) rfl rfl (by exact rho_of rfl) (by exact rho_of rfl) ((hB3.kp0 hk3).kp0 hk4) (dc_length _) rfl (dc_one _) (fun w5 hk5 hB3 => ?_)
  refine SG.setAll (l := dc (dg1 2)) rfl rfl (by exact rho_of rfl) (by exact rho_of rfl) ((hB4.kp0 hk4).kp hk5 (nm1 (by omega))) (dc_length _) rfl (dc_one _) (fun w6 hk6 hB4 => ?_)
  refine SG.setAll (l := dc (dg1 9)) rfl rfl (by exact rho_of rfl) (by exact rho_of rfl) ((hB5.kp hk5 (nm1 (by omega))).kp hk6 (nm1 (by omega))) (dc_length _) rfl (dc_one _) (fun w7 hk7 hB5 => ?_)
  have k17 : Kp [] w1 w7 := ((((hk2.trans hk3).trans hk4).trans_new hk5 (new1 (by omega))).trans_new hk6 (new1 (by omega))).trans_new hk7 (new1 (by omega))
  have hH7 := hH1.kp0 k17
  have q3 : Row w7 b3 0 (dc (dg1 1)) := Row.all ((hB3.kp hk6 (nm1 (by omega))).kp hk7 (nm1 (by omega))) rfl
  have q4 : Row w7 b4 0 (dc (dg1 2)) := Row.all (hB4.kp hk7 (nm1 (by omega))) rfl
  have q5 : Row w7 b5 0 (dc (dg1 9)) := Row.all hB5 rfl
  clear hB3 hB4 hB5
  have s5 := k17.size
  repeat (first|apply cA|apply cD|apply cE)
  refine CG.draw mixed [0, 1, 2, 3, 4, 5, 6, 7, 8, 9, 10, 11, 12, 13, 14, 15, 16, 17, 18, 19, 20, 21, 22, 23, 24, 25, 26, 27] [10, 17, 25] [] [bs, bp] (HubR bh bs bp 5 [] []) (by kernel_rfl) (by intro y hy; simp at hy; omega) (by simp) hH7 hubR_stab (Or.inl rfl) ?_
  repeat (refine cY rfl rfl rfl (by first|((first|apply qep|apply qmv|apply qla|apply qpk|apply qni|apply qep)<;>(first|exact rfl|assumption|exact dct (by first|assumption|omega)|exact nm2 (by omega) (by omega)|fail))|fail) ?_)
  refine Der.call rfl rfl rfl (vs := [bv 1, .int .i64 10]) (by repeat' (first | exact True.intro | exact rho_of rfl | refine And.intro ?_ ?_)) (fun w hk _ => two_spec 1 10 w) ?_
  skip
  refine Der.callGR (X := Option Addr × Nat) (vs := [.pointer (some ⟨bh, 0, none⟩), dv (dg1 1), pv (twoP (dg1 1) 10) (.slice none 0 0), .int .i64 0]) (fun _ => .int .i64 0) (fun _ _ => True) (fun q => HubR bh bs bp 5 [(dg1 1, ⟨twoP (dg1 1) 10, q.1, q.2, 0⟩)] []) rfl rfl rfl rfl (by repeat' (first | exact True.intro | exact rho_of rfl | refine And.intro ?_ ?_)) (fun _ _ _ _ _ => trivial) (fun _ => hubR_stab) (fun _ _ _ h => h) (fun W _ _ hR => (open_spec (a := none) (c := 0) hR (dg1 1) (twoP (dg1 1) 10) 0 Sl.nil (by decide) (by decide)).mono (fun e w' hh => ?_)) (fun q => ?_)
  · have h0 := open0 (dg1 1) (dg1 1) (e := 10) (s := 0) (by decide) (by decide) (Or.inl rfl)
    rw [h0] at hh
    obtain ⟨he, ⟨h1, _⟩ | ⟨_, hk, a', c', hH⟩⟩ := hh
    · exact absurd rfl h1
    · exact ⟨(a', c'), he, trivial, hH, kp2a hk⟩
  repeat (refine cY rfl rfl rfl (by first|((first|apply qmv|apply qla|apply qpk|apply qni)<;>(first|exact rfl|assumption|exact dct (by first|assumption|omega)|exact nm2 (by omega) (by omega)|fail))|fail) ?_)
  refine Der.call rfl rfl rfl (vs := [bv 2, .int .i64 10]) (by repeat' (first | exact True.intro | exact rho_of rfl | refine And.intro ?_ ?_)) (fun w hk _ => two_spec 2 10 w) ?_
  skip
  have hne : dg1 1 ≠ dg1 2 := fun h => by cases dg1_inj h
  refine Der.callGR (X := Option Addr × Nat) (vs := [.pointer (some ⟨bh, 0, none⟩), dv (dg1 2), pv (twoP (dg1 2) 10) (.slice none 0 0), .int .i64 0]) (fun _ => .int .i64 0) (fun _ _ => True) (fun p => HubR bh bs bp 5 [(dg1 1, ⟨twoP (dg1 1) 10, q.1, q.2, 0⟩), (dg1 2, ⟨twoP (dg1 2) 10, p.1, p.2, 0⟩)] []) rfl rfl rfl rfl (by repeat' (first | exact True.intro | exact rho_of rfl | refine And.intro ?_ ?_)) (fun _ _ _ _ _ => trivial) (fun _ => hubR_stab) (fun _ _ _ h => h) (fun W _ _ hR => (open_spec (a := none) (c := 0) hR (dg1 2) (twoP (dg1 2) 10) 0 Sl.nil (by decide) (by decide)).mono (fun e w' hh => ?_)) (fun p => ?_)
  · have h0 := open1 (k1 := dg1 1) (k2 := dg1 2) (nm := dg1 2) (x := ⟨twoP (dg1 1) 10, q.1, q.2, 0⟩) (e := 10) (s := 0) (by decide) (by decide) (Or.inl rfl) hne hne
    rw [h0] at hh
    obtain ⟨he, ⟨h1, _⟩ | ⟨_, hk, a', c', hH⟩⟩ := hh
    · exact absurd rfl h1
    · rw [aput1 hne] at hH
      exact ⟨(a', c'), he, trivial, hH, kp2a hk⟩
  repeat (refine cY rfl rfl rfl (by first|((first|apply qmv|apply qla|apply qpk|apply qni)<;>(first|exact rfl|assumption|exact dct (by first|assumption|omega)|exact nm2 (by omega) (by omega)|fail))|fail) ?_)
  have hop : Hop (dg1 1) (dg1 2) (dg1 9) (⟨twoP (dg1 1) 10, q.1, q.2, 0⟩ : Sh) (⟨twoP (dg1 2) 10, p.1, p.2, 0⟩ : Sh) 10 0 20 4 := ⟨hne, ⟨_, rfl⟩, ⟨_, rfl⟩, Or.inl rfl, Or.inl rfl, by decide, by decide, by decide, by decide, by decide, by decide, by decide, by decide⟩
  refine Der.callGR (X := (Option Addr × Nat) × (Option Addr × Nat)) (vs := [.pointer (some ⟨bh, 0, none⟩), .int .i64 0, dv (dg1 1), dv (dg1 2), dv (dg1 9), .int .i64 4, .int .i64 20]) (fun _ => .int .i64 0) (fun _ _ => True) (fun u => HubR bh bs bp 5 [(dg1 1, ⟨fwdX ⟨twoP (dg1 1) 10, q.1, q.2, 0⟩ (dg1 9) 4 20, u.1.1, u.1.2, 0⟩), (dg1 2, ⟨fwdY 5 ⟨twoP (dg1 2) 10, p.1, p.2, 0⟩ (dg1 9) 4 20, u.2.1, u.2.2, 0⟩)] [(dg1 9, fwdR 5 (dg1 1) (dg1 2) (dg1 9) 4 20)]) rfl rfl rfl rfl (by repeat' (first | exact True.intro | exact rho_of rfl | refine And.intro ?_ ?_)) (fun _ _ _ _ _ => trivial) (fun _ => hubR_stab) (fun _ _ _ h => h) (fun W _ _ hR => (forward_spec hR 0 (dg1 1) (dg1 2) (dg1 9) 4 20 (by decide) (fun x hx => by simp at hx; rcases hx with rfl | rfl <;> exact ⟨(by decide : (0 : Int) ≤ 0), (by decide : (0 : Int) ≤ 1)⟩) (by decide)).mono (fun e w' hh => ?_)) (fun u => ?_)
  · rw [hop.fwd] at hh
    obtain ⟨he, ⟨h1, _⟩ | ⟨_, hk, x, y, a1, c1, a2, c2, hx, hy, hH⟩⟩ := hh
    · exact absurd rfl h1
    · rw [(alook2 hne).1] at hx
      rw [(alook2 hne).2] at hy
      cases hx
      cases hy
      rw [aput2 hne] at hH
      exact ⟨((a1, c1), (a2, c2)), he, trivial, hH, hk⟩
  repeat (refine cY rfl rfl rfl (by first|((first|apply qpk|apply qni)<;>(first|exact rfl|exact dct (by first|assumption|omega)|fail))|fail) ?_)
  refine Der.fin (fun w8 hk8 _ hH8 => ?_)
  have q3 := q3.kp hk8 (nm2 (by omega) (by omega))
  have q4 := q4.kp hk8 (nm2 (by omega) (by omega))
  have q5 := q5.kp hk8 (nm2 (by omega) (by omega))
  have k8 : Kp [] w w8 := (hk1.trans k17).trans_new hk8 (new2 (by omega) (by omega))
  repeat (first|apply cE)
  refine dB rfl (by exact rho_of rfl) rfl ?_
  repeat (first|apply cA|apply cB|apply cE|apply cF|refine cV rfl rfl rfl rfl (by first|(apply qmv<;>(exact rfl))|fail) ?_)
  refine SG.call rfl rfl rfl (vs := [.pointer (some ⟨bh, 0, none⟩)]) (by repeat' (first | exact True.intro | exact rho_of rfl | refine And.intro ?_ ?_)) ((pairs_spec hH8 (by simp)).mono (fun e w9 hh => ?_))
  obtain ⟨v, he, ho, hk9⟩ := hh
  refine ⟨v, he, ?_⟩
  have hpr : prsL [(dg1 9, fwdR 5 (dg1 1) (dg1 2) (dg1 9) 4 20)] = [fwdR 5 (dg1 1) (dg1 2) (dg1 9) 4 20] := by
    simp [prsL, srt, sortK, insK, alook]
  rw [hpr] at ho
  have ho : w9.ownsRow w8.heap.size 68 27 v 1 (flt prc [fwdR 5 (dg1 1) (dg1 2) (dg1 9) 4 20]) := ho
  obtain ⟨a6, c6, rfl, _, hS6⟩ := Sl.own prc_length ho rfl
  obtain ⟨ba, oa, rfl, hri⟩ := hS6.at (i := 0) (by decide)
  have hri : Row w9 ba (oa + 0 * 27) (prc (fwdR 5 (dg1 1) (dg1 2) (dg1 9) 4 20)) := hri
  obtain ⟨t1, t2⟩ := prc_rowsO hri
  have t1 : Row w9 ba (oa + 0 * 27 + 25) [.int .i64 20] := t1
  have t2 : Row w9 ba (oa + 0 * 27 + 26) [.int .i64 15] := t2
  have hH9 := HubAt.kp0 hH8 hk9
  have q3 := q3.kp0 hk9
  have q4 := q4.kp0 hk9
  have q5 := q5.kp0 hk9
  have s8 := hk8.size
  have s9 := hk9.size
  repeat (first|apply cA|apply cB|apply cD|apply cE|refine cV rfl rfl rfl rfl (by first|((first|apply qmv|apply qas|apply qlc|apply qla|apply qfa|apply qic|apply qpk|apply qni|apply qln)<;>(first|exact rfl|assumption|exact Ar.mk (by omega)|exact dct (by first|assumption|omega)|exact List.not_mem_nil|fail))|fail) ?_)
  refine SG.call rfl rfl rfl (vs := [.pointer (some ⟨bh, 0, none⟩), .int .i64 15, dv (dg1 9), .int .i64 3]) (by repeat' (first | exact True.intro | exact rho_of rfl | refine And.intro ?_ ?_)) ((settle_spec hH9 15 (dg1 9) 3 ?_).mono (fun e w10 hh => ?_))
  · intro r hr
    simp [alook] at hr
    subst hr
    exact ⟨⟨_, (alook2 hne).1⟩, ⟨_, (alook2 hne).2⟩, hne⟩
  rw [hop.set (by decide) (by decide) (by decide) (by decide)] at hh
  obtain ⟨he, ⟨h1, _⟩ | ⟨_, hk10, r, x, y, a1, c1, a2, c2, hr, hx, hy, hH10⟩⟩ := hh
  · exact absurd rfl h1
  have hr : r = fwdR 5 (dg1 1) (dg1 2) (dg1 9) 4 20 := by simpa [alook] using hr.symm
  subst hr
  have hx : x = _ := (Option.some.inj ((alook2 hne).1.symm.trans hx)).symm
  have hy : y = _ := (Option.some.inj ((alook2 hne).2.symm.trans hy)).symm
  subst hx
  subst hy
  simp only [fwdR] at hH10
  rw [aput2' hne, filt1] at hH10
  refine ⟨_, he, ?_⟩
  have q3 := q3.kp hk10 (nm2 (by omega) (by omega))
  have q4 := q4.kp hk10 (nm2 (by omega) (by omega))
  have k10 : Kp [] w w10 := (k8.trans hk9).trans_new hk10 (new2 (by omega) (by omega))
  clear t1 t2 hri hS6 q5
  repeat (first|apply cD|apply cE|refine cV rfl rfl rfl rfl (by first|((first|apply qpk|apply qni)<;>(first|exact rfl|exact dct (by first|assumption|omega)|fail))|fail) ?_)
  refine dB rfl (by exact rho_of rfl) rfl ?_
  repeat (first|apply cA|apply cB|apply cE|apply cF|refine cV rfl rfl rfl rfl (by first|((first|apply qmv|apply qla)<;>(first|exact rfl|assumption|exact List.not_mem_nil))|fail) ?_)
  have hx1 := hH10.at' _ List.mem_cons_self
  have hy1 := hH10.at' _ (List.mem_cons_of_mem _ List.mem_cons_self)
  refine SG.call rfl rfl rfl (vs := [.pointer (some ⟨bh, 0, none⟩), dv (dg1 1)]) (by repeat' (first | exact True.intro | exact rho_of rfl | refine And.intro ?_ ?_)) ((purse_some hH10 (dg1 1) (alook2 hne).1 hx1 (hH10.few _ List.mem_cons_self)).mono (fun e w11 hh => ?_))
  obtain ⟨v, he, ⟨s7, rfl, ho7⟩, hk11⟩ := hh
  refine ⟨_, he, ?_⟩
  obtain ⟨a7, c7, rfl, _, _⟩ := Sl.own hc_length ho7 rfl
  have q4 := q4.kp0 hk11
  repeat (first|refine cV rfl rfl rfl rfl (by first|((first|apply qmv|apply qxt)<;>(exact rfl))|fail) ?_)
  refine SG.alloc rfl rfl rfl (fun b7 w12 hk12 hb7 hB7 => ?_)
  refine SG.setAll rfl rfl (by exact rho_of rfl) (by exact rho_of rfl) hB7 (pc_length _ _) rfl (pc_one _ _ _ _) (fun w13 hk13 hB7 => ?_)
  have hB7 := hB7
  have k13 : Kp [] w10 w13 := hk11.trans (hk12.trans_new hk13 (new1 (by omega)))
  have q7 := pc_have hB7
  have l7 := hB7.lt
  have hH13 := hH10.kp0 k13
  have q4 := (q4.kp0 hk12).kp hk13 (nm1 (by have := q4.lt; omega))
  repeat (first|apply cA|apply cB|apply cD|apply cE|refine cV rfl rfl rfl rfl (by first|((first|apply qmv|apply qas|apply qla)<;>(first|exact rfl|assumption|exact List.not_mem_nil))|fail) ?_)
  refine SG.call rfl rfl rfl (vs := [.pointer (some ⟨bh, 0, none⟩), dv (dg1 2)]) (by repeat' (first | exact True.intro | exact rho_of rfl | refine And.intro ?_ ?_)) ((purse_some hH13 (dg1 2) (alook2 hne).2 (hy1.kp0 k13) (hH10.few _ (List.mem_cons_of_mem _ List.mem_cons_self))).mono (fun e w14 hh => ?_))
  obtain ⟨v, he, ⟨s9, rfl, ho9⟩, hk14⟩ := hh
  refine ⟨_, he, ?_⟩
  obtain ⟨a9, c9, rfl, _, _⟩ := Sl.own hc_length ho9 rfl
  have q7 := q7.kp0 hk14
  clear q4
  repeat (first|refine cV rfl rfl rfl rfl (by first|((first|apply qmv|apply qxt)<;>(exact rfl))|fail) ?_)
  refine SG.alloc rfl rfl rfl (fun b9 w15 hk15 hb9 hB9 => ?_)
  refine SG.setAll rfl rfl (by exact rho_of rfl) (by exact rho_of rfl) hB9 (pc_length _ _) rfl (pc_one _ _ _ _) (fun w16 hk16 hB9 => ?_)
  have q9 := pc_have hB9
  have q7 := (q7.kp0 hk15).kp hk16 (nm1 (by have := q7.lt; omega))
  have k16 := (k10.trans k13).trans (hk14.trans (hk15.trans_new hk16 (new1 (by omega))))
  have q7 : Row w16 b7 9 (zc2 (13, 7)) := q7
  have q9 : Row w16 b9 9 (zc2 (7, 13)) := q9
  have f1 : Z2.Fit (13, 7) := ⟨⟨by decide, by decide⟩, ⟨by decide, by decide⟩⟩
  have f2 : Z2.Fit (7, 13) := ⟨⟨by decide, by decide⟩, ⟨by decide, by decide⟩⟩
  repeat (first|apply cA|apply cB|apply cD|apply cE|refine cV rfl rfl rfl rfl (by first|((first|apply qmv|apply qas|apply qla|apply qfa)<;>(first|exact rfl|assumption|exact List.not_mem_nil))|fail) ?_)
  refine cV rfl rfl rfl rfl (vals_build rfl (bz2 13 7)) ?_
  repeat (first|refine cV rfl rfl rfl rfl (by first|((first|apply qe_z2|apply qmv|apply qla|apply qfa|apply qpk)<;>(first|exact rfl|assumption|exact List.not_mem_nil|exact dcu))|fail) ?_)
  refine cV rfl rfl rfl rfl (vals_build rfl (bz2 7 13)) ?_
  repeat (first|apply cD|apply cE|apply cH|refine cV rfl rfl rfl rfl (by first|((first|apply qe_z2|apply qas|apply qpk)<;>(first|exact rfl|assumption|exact dcu))|fail) ?_)
  refine ret1 (Or.inl rfl) Tryz.results5 (by first | exact ResV.tmp rfl | exact ResV.agg rfl rfl (by assumption) (by first | exact dc_length _ | exact nc_length _ | exact rc_length _ _ _ | exact ec_length _ | exact dl_length _ _ _ _ | rfl) | exact ResV.cell rfl rfl (by assumption)) ?_
  exact ⟨rfl, k16⟩
end Go.Proofs.YtajllbdeoopimaaGreat
namespace Go.Proofs.YtajllbdeoopimaaGreat
set_option linter.unusedVariables false
/-- What is held by a name. -/
def atL (l : List Hd) (n : Dg) : Option Hd := l.find? (fun h => decide (h.name = n))
theorem atL_eq : ∀ (l : List Hd) (n : Dg), l[placeN l n]? = atL l n
  | [], n => rfl
  | h :: r, n => by
    unfold atL placeN
    by_cases e : h.name = n
    · simp [List.findIdx_cons, e]
    · have ih := atL_eq r n
      unfold atL placeN at ih
      simp [List.findIdx_cons, e, ih]
theorem atP_eq (p : Pu) (n : Dg) : atP p n = atL p.held n := atL_eq _ _
theorem cutL_eq : ∀ {l : List Hd} {n : Dg}, (l.map (·.name)).Nodup → (atL l n).isSome = true → cutL l (placeN l n) = l.filter (fun h => decide (h.name ≠ n))
  | [], n, _, hs => by cases hs
  | h :: r, n, hd, hs => by
    have hd' := List.nodup_cons.1 hd
    by_cases e : h.name = n
    · have e1 : placeN (h :: r) n = 0 := by simp [placeN, List.findIdx_cons, e]
      have e2 : r.filter (fun h => decide (h.name ≠ n)) = r := by
        refine List.filter_eq_self.2 (fun x hx => decide_eq_true (fun hx2 => hd'.1 ?_))
        show h.name ∈ _
        rw [e, ← hx2]
        exact List.mem_map_of_mem (f := (·.name)) hx
      rw [e1]
      simp only [cutL, List.take_zero, Nat.zero_add, List.drop_succ_cons, List.drop_zero, List.nil_append]
      rw [List.filter_cons_of_neg (by simp [e]), e2]
    · have e1 : placeN (h :: r) n = placeN r n + 1 := by simp [placeN, List.findIdx_cons, e]
      have hs' : (atL r n).isSome = true := by simpa [atL, e] using hs
      have ih := cutL_eq hd'.2 hs'
      rw [e1, List.filter_cons_of_pos (by simp [e]), ← ih]
      simp [cutL]
theorem chkL_nd : ∀ {l s : List Hd}, chkL s l = 0 → (l.map (·.name)).Nodup ∧ ∀ h ∈ l, ∀ o ∈ s, o.name ≠ h.name
  | [], s, _ => ⟨List.nodup_nil, fun h hm => by cases hm⟩
  | x :: l, s, hc => by
    by_cases hx : x.Ok
    · cases ha : s.any (fun o => decide (o.name = x.name)) with
      | true => rw [chkL_two hx ha] at hc; cases hc
      | false =>
        rw [chkL_on hx ha] at hc
        obtain ⟨h1, h2⟩ := chkL_nd hc
        refine ⟨List.nodup_cons.2 ⟨fun hm => ?_, h1⟩, fun h hm o ho => ?_⟩
        · obtain ⟨y, hy, e⟩ := List.mem_map.1 hm
          exact h2 y hy x (by simp) e.symm
        · rcases List.mem_cons.1 hm with rfl | hm
          · intro e
            rw [← Bool.not_eq_true] at ha
            exact ha (List.any_eq_true.2 ⟨o, ho, decide_eq_true e⟩)
          · exact h2 h hm o (by simp [ho])
    · rw [chkL_bad hx] at hc
      cases hc
theorem chkL_mk : ∀ {l s : List Hd}, (∀ h ∈ l, h.Ok) → (l.map (·.name)).Nodup → (∀ h ∈ l, ∀ o ∈ s, o.name ≠ h.name) → chkL s l = 0
  | [], s, _, _, _ => chkL_nil s
  | x :: l, s, h1, h2, h3 => by
    have h2' := List.nodup_cons.1 h2
    have ha : s.any (fun o => decide (o.name = x.name)) = false := by
      rw [← Bool.not_eq_true]
      intro h
      obtain ⟨o, ho, e⟩ := List.any_eq_true.1 h
      exact h3 x List.mem_cons_self o ho (of_decide_eq_true e)
    rw [chkL_on (h1 x List.mem_cons_self) ha]
    refine chkL_mk (fun h hm => h1 h (List.mem_cons_of_mem _ hm)) h2'.2 (fun h hm o ho => ?_)
    rcases List.mem_append.1 ho with ho | ho
    · exact h3 h (List.mem_cons_of_mem _ hm) o ho
    · rw [List.mem_singleton] at ho
      subst ho
      intro e
      exact h2'.1 (by show o.name ∈ _; rw [e]; exact List.mem_map_of_mem (f := (·.name)) hm)
theorem Pu.Ok.nd {p : Pu} (h : p.Ok) : (p.held.map (·.name)).Nodup := (chkL_nd h.c).1
theorem Pu.Ok.all {p : Pu} (h : p.Ok) : ∀ x ∈ p.held, x.Ok := chkL_all h.c
/-- A sum over what is held. -/
def sumF (f : Hd → Int) : List Hd → Int
  | [] => 0
  | h :: r => f h + sumF f r
theorem sumF_app (f : Hd → Int) : ∀ a b : List Hd, sumF f (a ++ b) = sumF f a + sumF f b
  | [], b => by simp [sumF]
  | h :: a, b => by rw [List.cons_append, sumF, sumF, sumF_app f a b, Int.add_assoc]
theorem sumH_eq (l : List Hd) : sumH l = sumF (fun h => h.amt) l := by
  have key : ∀ (l : List Hd) (s : Int), l.foldl (fun s h => s + h.amt) s = s + sumF (fun h => h.amt) l := by
    intro l
    induction l with
    | nil => intro s; simp [sumF]
    | cons x l ih => intro s; rw [List.foldl_cons, ih, sumF, Int.add_assoc]
  unfold sumH
  rw [key, Int.zero_add]
theorem ownS_eq (s : Int) : ∀ l : List Hd, ownS s l = sumF (fun h => if h.side = s then h.amt else 0) l
  | [] => rfl
  | h :: l => by rw [ownS, sumF, ownS_eq s l]
theorem othS_eq (s : Int) : ∀ l : List Hd, othS s l = sumF (fun h => if h.side = s then 0 else h.amt) l
  | [] => rfl
  | h :: l => by rw [othS, sumF, othS_eq s l]
theorem sumF_cut (f : Hd → Int) : ∀ {l : List Hd} {n : Dg} {x : Hd}, (l.map (·.name)).Nodup → atL l n = some x → sumF f (l.filter (fun h => decide (h.name ≠ n))) = sumF f l - f x
  | [], n, x, _, hs => by cases hs
  | h :: r, n, x, hd, hs => by
    have hd' := List.nodup_cons.1 hd
    by_cases e : h.name = n
    · have e2 : r.filter (fun h => decide (h.name ≠ n)) = r := by
        refine List.filter_eq_self.2 (fun x hx => decide_eq_true (fun hx2 => hd'.1 ?_))
        show h.name ∈ _
        rw [e, ← hx2]
        exact List.mem_map_of_mem (f := (·.name)) hx
      have ex : h = x := by simpa [atL, e] using hs
      rw [List.filter_cons_of_neg (by simp [e]), e2, sumF, ex]
      omega
    · have hs' : atL r n = some x := by simpa [atL, e] using hs
      rw [List.filter_cons_of_pos (by simp [e]), sumF, sumF, sumF_cut f hd'.2 hs']
      omega
theorem atL_app (l : List Hd) (h : Hd) (n : Dg) : atL (l ++ [h]) n = match atL l n with | some x => some x | none => if h.name = n then some h else none := by
  unfold atL
  rw [List.find?_append]
  cases l.find? (fun h => decide (h.name = n)) with
  | some x => rfl
  | none =>
    by_cases e : h.name = n <;> simp [e]
theorem atL_cut (l : List Hd) (n n' : Dg) : atL (l.filter (fun h => decide (h.name ≠ n))) n' = if n' = n then none else atL l n' := by
  induction l with
  | nil => simp [atL]
  | cons h r ih =>
    unfold atL at ih ⊢
    by_cases e : h.name = n
    · rw [List.filter_cons_of_neg (by simp [e]), ih]
      by_cases e2 : n' = n
      · rw [if_pos e2, if_pos e2]
      · rw [if_neg e2, if_neg e2, List.find?_cons_of_neg (by simp [e]; exact fun h => e2 h.symm)]
    · rw [List.filter_cons_of_pos (by simp [e])]
      by_cases e3 : h.name = n'
      · rw [List.find?_cons_of_pos (by simp [e3]), List.find?_cons_of_pos (by simp [e3]), if_neg (fun h2 => e (e3.trans h2))]
      · rw [List.find?_cons_of_neg (by simp [e3]), List.find?_cons_of_neg (by simp [e3]), ih]
theorem atL_mem {l : List Hd} {n : Dg} {x : Hd} (h : atL l n = some x) : x ∈ l ∧ x.name = n := by
  unfold atL at h
  have h2 := List.find?_some h
  exact ⟨List.mem_of_find?_eq_some h, of_decide_eq_true h2⟩
theorem atL_none {l : List Hd} {n : Dg} (h : atL l n = none) : ∀ x ∈ l, x.name ≠ n := fun x hx e => by
  unfold atL at h
  exact absurd (decide_eq_true e) (by simpa using List.find?_eq_none.1 h x hx)
/-- Of a purse and its side: what a hub has of it. -/
abbrev Ps := Pu × Int
def backL (x : Ps) : Int := haveP x.1 x.2 + sumF (fun h => if h.side = x.2 then h.amt else 0) x.1.held
def onL (x : Ps) : Int := haveP x.1 x.2 + sumF (fun h => if h.side = x.2 then 0 else h.amt) x.1.held
theorem haveP_add {p : Pu} {s t d : Int} (hs : s = 0 ∨ s = 1) (ht : t = 0 ∨ t = 1) : haveP (addP p t d) s = haveP p s + (if s = t then d else 0) := by
  rcases hs with rfl | rfl <;> rcases ht with rfl | rfl <;> simp [haveP, addP]
theorem sum2 (p : Pu) : p.h0 + p.h1 = haveP p 0 + haveP p 1 := by simp [haveP]
theorem pre_ok {p : Pu} {z : Int} (h : chgZ p z = 0) : p.Ok ∧ p.num ≠ 1099511627776 ∧ z = 0 := by
  unfold chgZ at h
  by_cases hp : preZ p = 0
  · rw [if_neg (fun k => k hp)] at h
    unfold preZ at hp
    by_cases hc : checkZ p = 0
    · rw [if_neg (fun k => k hc)] at hp
      by_cases hn : p.num = 1099511627776
      · rw [if_pos hn] at hp
        cases hp
      · exact ⟨pu_ok hc, hn, h⟩
    · rw [if_pos hc] at hp
      cases hp
  · rw [if_pos hp] at h
    exact absurd h hp
theorem sideB {h : Hd} (k : h.Ok) : h.side = 0 ∨ h.side = 1 := by
  have := k.s0
  have := k.s1
  omega
/-- What holding leaves. -/
structure Held (p q : Pu) (h : Hd) : Prop where
  po : p.Ok
  ho : h.Ok
  qo : q.Ok
  new : atL p.held h.name = none
  held : q.held = p.held ++ [h]
  name : q.name = p.name
  sum : sumP q = sumP p
  have' : ∀ s, s = 0 ∨ s = 1 → haveP q s = haveP p s - (if s = h.side then h.amt else 0)
  num : q.num = p.num + 1
theorem hold_ok {p : Pu} {h : Hd} (hz : chgZ p (holdE p h) = 0) : Held p (nextP (holdQ p h)) h := by
  obtain ⟨hp, hn, he⟩ := pre_ok hz
  unfold holdE at he
  by_cases h1 : h.side < 0 ∨ 1 < h.side
  · rw [if_pos h1] at he; cases he
  rw [if_neg h1] at he
  by_cases h2 : someP h.amt ∧ farP h.til
  rotate_left
  · rw [if_pos h2] at he; cases he
  rw [if_neg (fun k => k h2)] at he
  by_cases h3 : placeN p.held h.name < p.held.length
  · rw [if_pos h3] at he; cases he
  rw [if_neg h3] at he
  by_cases h4 : 16 ≤ p.held.length
  · rw [if_pos h4] at he; cases he
  rw [if_neg h4] at he
  by_cases h5 : haveP p h.side < h.amt
  · rw [if_pos h5] at he; cases he
  obtain ⟨⟨h21, h22, h23⟩, h24, h25⟩ := h2
  have hh : h.Ok := ⟨h21, h23, by omega, by omega, h24, h25⟩
  have hs := sideB hh
  have hnew : atL p.held h.name = none := by rw [← atL_eq]; exact List.getElem?_eq_none (by omega)
  have hhave : ∀ s, s = 0 ∨ s = 1 → haveP (nextP (holdQ p h)) s = haveP p s - (if s = h.side then h.amt else 0) := fun s hs' => by
    have := haveP_add (p := p) (s := s) (t := h.side) (d := -h.amt) hs' hs
    show haveP (addP p h.side (-h.amt)) s = _
    rw [this]
    split <;> omega
  have hsum : sumP (nextP (holdQ p h)) = sumP p := by
    unfold sumP
    rw [sum2, sum2, hhave 0 (Or.inl rfl), hhave 1 (Or.inr rfl), sumH_eq, sumH_eq]
    show _ + sumF _ (p.held ++ [h]) = _
    rw [sumF_app]
    simp only [sumF]
    rcases hs with e | e <;> rw [e] <;> simp <;> omega
  have hnum : (nextP (holdQ p h)).num = p.num + 1 := by
    show (addP p h.side (-h.amt)).num + 1 = _
    rw [addP_num]
  have ha := have_amt hp
  have hn1 := hp.n
  have hh0 : haveP (nextP (holdQ p h)) 0 = (nextP (holdQ p h)).h0 := rfl
  have hh1 : haveP (nextP (holdQ p h)) 1 = (nextP (holdQ p h)).h1 := rfl
  refine ⟨hp, hh, ⟨?_, ?_, ?_, ?_, ?_, ?_⟩, hnew, rfl, ?_, hsum, hhave, hnum⟩
  · rw [hnum]
    obtain ⟨a, b⟩ := hn1
    exact ⟨by omega, by omega⟩
  · rw [← hh0, hhave 0 (Or.inl rfl)]
    have := ha 0
    constructor
    · split
      · rename_i e; rw [← e] at h5; omega
      · omega
    · split <;> omega
  · rw [← hh1, hhave 1 (Or.inr rfl)]
    have := ha 1
    constructor
    · split
      · rename_i e; rw [← e] at h5; omega
      · omega
    · split <;> omega
  · show (p.held ++ [h]).length ≤ 16
    rw [List.length_append]
    show p.held.length + 1 ≤ 16
    omega
  · rw [hsum]; exact hp.s
  · show chkL [] (p.held ++ [h]) = 0
    refine chkL_mk (fun x hx => ?_) ?_ (fun _ _ o ho => by cases ho)
    · rcases List.mem_append.1 hx with hx | hx
      · exact hp.all x hx
      · rw [List.mem_singleton] at hx; rw [hx]; exact hh
    · rw [List.map_append]
      refine List.nodup_append.2 ⟨hp.nd, by simp, fun a ha b hb e => ?_⟩
      simp at hb
      obtain ⟨y, hy, ey⟩ := List.mem_map.1 ha
      exact atL_none hnew y hy (ey.trans (e.trans hb))
  · show (addP p h.side (-h.amt)).name = p.name
    unfold addP
    split <;> rfl
/-- What freeing leaves. -/
structure Freed (p q : Pu) (n : Dg) (h : Hd) (over : Int) : Prop where
  po : p.Ok
  ho : h.Ok
  qo : q.Ok
  at' : atL p.held n = some h
  o0 : 0 ≤ over
  o1 : over ≤ h.amt
  held : q.held = p.held.filter (fun x => decide (x.name ≠ n))
  name : q.name = p.name
  sum : sumP q = sumP p
  have' : ∀ s, s = 0 ∨ s = 1 → haveP q s = haveP p s + (if s = h.side then h.amt - over else over)
  num : q.num = p.num + 1
theorem freed_mk {p : Pu} {n : Dg} {over : Int} {h : Hd} (hp : p.Ok) (hn : p.num ≠ 1099511627776) (hat : atL p.held n = some h) (o0 : 0 ≤ over) (o1 : over ≤ h.amt) : Freed p (nextP (freeQ p n over)) n h over := by
  obtain ⟨hm, hname⟩ := atL_mem hat
  have hh := hp.all h hm
  have hs := sideB hh
  have hs' : 1 - h.side = 0 ∨ 1 - h.side = 1 := by omega
  have hq : freeQ p n over = partP p (placeN p.held n) h over := by
    unfold freeQ
    rw [atP_eq, hat]
  have hheld : (nextP (freeQ p n over)).held = p.held.filter (fun x => decide (x.name ≠ n)) := by
    rw [hq]
    show cutL p.held (placeN p.held n) = _
    exact cutL_eq hp.nd (by rw [hat]; rfl)
  have hhave : ∀ s, s = 0 ∨ s = 1 → haveP (nextP (freeQ p n over)) s = haveP p s + (if s = h.side then h.amt - over else over) := fun s hs2 => by
    rw [hq]
    show haveP (addP (addP p (1 - h.side) over) h.side (h.amt - over)) s = _
    rw [haveP_add hs2 hs, haveP_add hs2 hs']
    by_cases e : s = h.side
    · rw [if_neg (by omega), if_pos e, if_pos e]; omega
    · rw [if_pos (by omega), if_neg e, if_neg e]; omega
  have hsum : sumP (nextP (freeQ p n over)) = sumP p := by
    unfold sumP
    rw [sum2, sum2, hhave 0 (Or.inl rfl), hhave 1 (Or.inr rfl), sumH_eq, sumH_eq, hheld, sumF_cut _ hp.nd hat]
    rcases hs with e | e <;> rw [e] <;> simp <;> omega
  have hnum : (nextP (freeQ p n over)).num = p.num + 1 := by
    show (freeQ p n over).num + 1 = _
    rw [freeQ_num]
  have ha := have_amt hp
  have hsp := hp.s
  have hle : ∀ s, s = 0 ∨ s = 1 → 0 ≤ haveP (nextP (freeQ p n over)) s := fun s hs2 => by
    rw [hhave s hs2]
    have := ha s
    split <;> omega
  have hpos : 0 ≤ sumF (fun h => h.amt) (nextP (freeQ p n over)).held := by
    rw [hheld]
    have key : ∀ l : List Hd, (∀ x ∈ l, 0 ≤ x.amt) → 0 ≤ sumF (fun h => h.amt) l := by
      intro l
      induction l with
      | nil => intro _; exact Int.le_refl _
      | cons x l ih =>
        intro hl
        have h1 := hl x List.mem_cons_self
        have h2 := ih (fun y hy => hl y (List.mem_cons_of_mem _ hy))
        simp only [sumF]
        omega
    refine key _ (fun x hx => ?_)
    have := (hp.all x (List.mem_filter.1 hx).1).a0
    omega
  have hs0 := hle 0 (Or.inl rfl)
  have hs1 := hle 1 (Or.inr rfl)
  have hh0 : haveP (nextP (freeQ p n over)) 0 = (nextP (freeQ p n over)).h0 := rfl
  have hh1 : haveP (nextP (freeQ p n over)) 1 = (nextP (freeQ p n over)).h1 := rfl
  have hb : (nextP (freeQ p n over)).h0 + (nextP (freeQ p n over)).h1 ≤ 1125899906842624 := by
    have h1 : sumP (nextP (freeQ p n over)) = (nextP (freeQ p n over)).h0 + (nextP (freeQ p n over)).h1 + sumF (fun h => h.amt) (nextP (freeQ p n over)).held := by
      unfold sumP
      rw [sumH_eq]
    rw [hsum] at h1
    have := hsp.2
    omega
  rw [hh0] at hs0
  rw [hh1] at hs1
  obtain ⟨n0, n1⟩ := hp.n
  refine ⟨hp, hh, ⟨⟨by rw [hnum]; omega, by rw [hnum]; omega⟩, ⟨hs0, by omega⟩, ⟨hs1, by omega⟩, ?_, by rw [hsum]; exact hsp, ?_⟩, hat, o0, o1, hheld, ?_, hsum, hhave, hnum⟩
  · rw [hheld]
    exact Nat.le_trans (List.length_filter_le _ _) hp.l
  · rw [hheld]
    refine chkL_mk (fun x hx => hp.all x (List.mem_filter.1 hx).1) ?_ (fun _ _ o ho => by cases ho)
    exact List.Nodup.sublist (List.Sublist.map _ List.filter_sublist) hp.nd
  · rw [hq]
    show (addP (addP p (1 - h.side) over) h.side (h.amt - over)).name = p.name
    unfold addP
    split <;> split <;> rfl
theorem free_ok {p : Pu} {n : Dg} {over : Int} (hz : chgZ p (freeE p n over) = 0) : ∃ h, Freed p (nextP (freeQ p n over)) n h over := by
  obtain ⟨hp, hn, he⟩ := pre_ok hz
  unfold freeE at he
  rw [atP_eq] at he
  cases hat : atL p.held n with
  | none => rw [hat] at he; cases he
  | some h =>
    rw [hat] at he
    simp only at he
    by_cases ho : over < 0 ∨ h.amt < over
    · rw [if_pos ho] at he; cases he
    exact ⟨h, freed_mk hp hn hat (by omega) (by omega)⟩
theorem back_ok {p : Pu} {n : Dg} {now : Int} (hz : chgZ p (backE p n now) = 0) : ∃ h, Freed p (nextP (freeQ p n 0)) n h 0 ∧ h.til < now := by
  obtain ⟨hp, hn, he⟩ := pre_ok hz
  unfold backE at he
  rw [atP_eq] at he
  cases hat : atL p.held n with
  | none => rw [hat] at he; cases he
  | some h =>
    rw [hat] at he
    simp only at he
    by_cases ho : now ≤ h.til
    · rw [if_pos ho] at he; cases he
    have := (hp.all h (atL_mem hat).1).a0
    exact ⟨h, freed_mk hp hn hat (by omega) (by omega), by omega⟩
/-- How much a hub has, behind it. -/
theorem Held.worth {p q : Pu} {h : Hd} {s : Int} (k : Held p q h) (hs : s = 0 ∨ s = 1) : backL (q, s) = backL (p, s) ∧ onL (q, s) = onL (p, s) + (if h.side = s then -h.amt else h.amt) := by
  unfold backL onL
  simp only
  rw [k.held, sumF_app, sumF_app, k.have' s hs]
  simp only [sumF]
  by_cases e : h.side = s
  · rw [if_pos e.symm, if_pos e, if_pos e, if_pos e]; omega
  · rw [if_neg (fun h => e h.symm), if_neg e, if_neg e, if_neg e]; omega
theorem Freed.worth {p q : Pu} {n : Dg} {h : Hd} {over s : Int} (k : Freed p q n h over) (hs : s = 0 ∨ s = 1) : backL (q, s) = backL (p, s) + (if h.side = s then -over else over) ∧ onL (q, s) = onL (p, s) + (if h.side = s then h.amt - over else over - h.amt) := by
  unfold backL onL
  simp only
  rw [k.held, sumF_cut _ k.po.nd k.at', sumF_cut _ k.po.nd k.at', k.have' s hs]
  by_cases e : h.side = s
  · rw [if_pos e.symm, if_pos e, if_pos e, if_pos e, if_pos e]; omega
  · rw [if_neg (fun h => e h.symm), if_neg e, if_neg e, if_neg e, if_neg e]; omega
end Go.Proofs.YtajllbdeoopimaaGreat
namespace Go.Proofs.YtajllbdeoopimaaGreat
set_option linter.unusedVariables false
instance : DecidableEq Pu := fun a b => decidable_of_iff (a.name = b.name ∧ a.num = b.num ∧ a.h0 = b.h0 ∧ a.h1 = b.h1 ∧ a.held = b.held) ⟨fun ⟨h1, h2, h3, h4, h5⟩ => by cases a; cases b; simp only at h1 h2 h3 h4 h5; rw [h1, h2, h3, h4, h5], fun h => by rw [h]; exact ⟨rfl, rfl, rfl, rfl, rfl⟩⟩
structure Pu.Fit (p : Pu) : Prop where
  a : fitZ p.h0
  b : fitZ p.h1
  h : ∀ x ∈ p.held, x.Fit
theorem Pu.Ok.fit {p : Pu} (h : p.Ok) : p.Fit := by
  obtain ⟨h1, h2⟩ := h.a
  obtain ⟨h3, h4⟩ := h.b
  exact ⟨⟨by omega, by omega⟩, ⟨by omega, by omega⟩, fun x hx => ((chkL_all h.c x hx)).fit⟩
theorem bownP' (w : World) (a0 a1 a2 a3 a4 a5 a6 a7 : UInt8) (n x y : Int) : (Instr.build 47 #[(0, .agg #[bv a0, bv a1, bv a2, bv a3, bv a4, bv a5, bv a6, bv a7]), (1, .int .i64 n), (2, .agg #[.int .i64 x, .int .i64 y])]).run Tryz.prog w = .ok (.agg #[bv a0, bv a1, bv a2, bv a3, bv a4, bv a5, bv a6, bv a7, .int .i64 n, .int .i64 x, .int .i64 y, .slice none 0 0]) w := by kernel_rfl
theorem bownP (p : Pu) (w : World) : (Instr.build 47 #[(0, dv p.name), (1, .int .i64 p.num), (2, zv2 (p.h0, p.h1))]).run Tryz.prog w = .ok (pv p (.slice none 0 0)) w := by
  obtain ⟨⟨l, hl⟩, n, x, y, h⟩ := p
  match l, hl with
  | [a0, a1, a2, a3, a4, a5, a6, a7], _ => exact bownP' w a0 a1 a2 a3 a4 a5 a6 a7 n x y
theorem bownH' (w : World) (a0 a1 a2 a3 a4 a5 a6 a7 : UInt8) (x y z : Int) : (Instr.build 86 #[(0, .agg #[bv a0, bv a1, bv a2, bv a3, bv a4, bv a5, bv a6, bv a7]), (1, .int .i64 x), (2, .int .i64 y), (3, .int .i64 z)]).run Tryz.prog w = .ok (.agg #[bv a0, bv a1, bv a2, bv a3, bv a4, bv a5, bv a6, bv a7, .int .i64 x, .int .i64 y, .int .i64 z]) w := by kernel_rfl
theorem bownH (h : Hd) (w : World) : (Instr.build 86 #[(0, dv h.name), (1, .int .i64 h.amt), (2, .int .i64 h.side), (3, .int .i64 h.til)]).run Tryz.prog w = .ok (hv h) w := by
  obtain ⟨⟨l, hl⟩, x, y, z⟩ := h
  match l, hl with
  | [a0, a1, a2, a3, a4, a5, a6, a7], _ => exact bownH' w a0 a1 a2 a3 a4 a5 a6 a7 x y z
theorem bownS' (w : World) (a0 a1 a2 a3 a4 a5 a6 a7 : UInt8) (x y z : Int) : (Instr.buildSlice 45 1 #[(0, .agg #[bv a0, bv a1, bv a2, bv a3, bv a4, bv a5, bv a6, bv a7, .int .i64 x, .int .i64 y, .int .i64 z])]).run Tryz.prog w = .ok (.slice (some ⟨w.heap.size, 0, none⟩) 1 1) { w with heap := w.heap.push (.cells #[bv a0, bv a1, bv a2, bv a3, bv a4, bv a5, bv a6, bv a7, .int .i64 x, .int .i64 y, .int .i64 z] 86) } := by kernel_rfl
theorem bownS (h : Hd) (w : World) : (Instr.buildSlice 45 1 #[(0, hv h)]).run Tryz.prog w = .ok (.slice (some ⟨w.heap.size, 0, none⟩) 1 1) { w with heap := w.heap.push (.cells (hc h).toArray 86) } := by
  obtain ⟨⟨l, hl⟩, x, y, z⟩ := h
  match l, hl with
  | [a0, a1, a2, a3, a4, a5, a6, a7], _ => exact bownS' w a0 a1 a2 a3 a4 a5 a6 a7 x y z
section
attribute [local irreducible] CG NG SG Vals Der Row Blk MapIs IterAt DerX
set_option maxHeartbeats 16000000 in
theorem own_spec {w : World} {a : Option Addr} {c : Nat} (p : Pu) (hS : Sl hc 11 w a p.held) (hl : p.held.length ≤ 4398046511104) : Calls Tryz.prog 10 #[pv p (.slice a p.held.length c)] w (fun e w' => ∃ s, e = .returned (pv p s) ∧ w'.ownsRow w.heap.size 86 11 s p.held.length (flt hc p.held) ∧ Kp [] w w') := by
  refine enter1 Tryz.func10 rfl Tryz.ntmps10 rfl ?_
  repeat (first|apply cA|apply cB)
  refine SG.box rfl rfl rfl (by exact rho_of rfl) (fun b1 w1 hk1 hb1 hB1 => ?_)
  have hB1 : Blk w1 b1 (.cells (pc p (.slice a p.held.length c)).toArray 36) := hB1
  refine SG.alloc rfl rfl rfl (fun b2 w2 hk2 hb2 hB2 => ?_)
  have hB1 := hB1.kp0 hk2
  have k2 := hk1.trans hk2
  have s1 := hk1.size
  have s2 := hk2.size
  have l1 := hB1.lt
  have l2 := hB2.lt
  obtain ⟨q0, q1, -, -, r4, -⟩ := pc_rows hB1
  have q2 := pc_have hB1
  repeat (first|apply cA|apply cB|apply cD|apply cE|refine cV rfl rfl rfl rfl (by first|((first|apply qlc|apply qla|apply qfa)<;>(first|exact rfl|assumption|exact List.not_mem_nil|apply dc_length))|fail) ?_)
  refine cV rfl rfl rfl rfl (vals_build rfl (bownP p)) ?_
  refine SG.alloc rfl rfl rfl (fun b3 w3 hk3 hb3 hB3 => ?_)
  refine SG.setAll (l := pc p (.slice none 0 0)) rfl rfl (by exact rho_of rfl) (by exact rho_of rfl) hB3 (pc_length _ _) rfl (pc_one _ _ _ _) (fun w4 hk4 hB3 => ?_)
  have hB3 : Blk w4 b3 (.cells (pc p (.slice none 0 0)).toArray 47) := hB3
  have k24 : Kp [] w2 w4 := hk3.trans_new hk4 (new1 (by omega))
  have k4 := k2.trans k24
  have l3 := hB3.lt
  have s4 := k24.size
  have hB2 := hB2.kp0 k24
  have r4 := r4.kp0 k24
  clear q0 q1 q2 hB1
  repeat (first|apply cA|apply cB|apply cD|apply cE|apply cG|refine cV rfl rfl rfl rfl (by first|(apply qas<;>(exact rfl))|fail) ?_)
  refine CG.loop (X := Value × Nat) (fun x => [(1, .pointer (some ⟨b1, 0, none⟩)), (2, .pointer (some ⟨b2, 0, none⟩)), (3, .pointer (some ⟨b3, 0, none⟩)), (4, .int .i64 (x.2 : Int))])
    (fun x w' => x.2 ≤ p.held.length ∧ Kp [b3] w4 w' ∧ Blk w' b3 (.cells (pc p x.1).toArray 47) ∧ w'.ownsRow w4.heap.size 86 11 x.1 (p.held.take x.2).length (flt hc (p.held.take x.2))) (fun x => p.held.length - x.2) (.slice none 0 0, 0) ⟨Nat.zero_le _, Kp.refl _ _, hB3, own_nil⟩ (by (repeat' (first | exact True.intro | exact rfl | refine And.intro ?_ ?_))) ?_
  clear hB3
  rintro ⟨v, i⟩ w5 ⟨hi, hk5, hB3, ho⟩
  simp only at hi hB3 ho
  refine CG.to [(1, .pointer (some ⟨b1, 0, none⟩)), (2, .pointer (some ⟨b2, 0, none⟩)), (3, .pointer (some ⟨b3, 0, none⟩)), (4, .int .i64 (i : Int))] (by (repeat' (first | exact True.intro | exact rfl | refine And.intro ?_ ?_))) ?_
  have r4 := r4.kp hk5 (nm1 (by omega))
  by_cases hlt : i < p.held.length
  · have g1 : (i : Int) < (p.held.length : Int) := by omega
    have hlen : (p.held.take i).length = i := by rw [List.length_take]; omega
    obtain ⟨ba, oa, rfl, hri⟩ := (hS.kp0 (k4.trans_new hk5 (new1 (by omega)))).at hlt
    repeat (first|apply cA|apply cB|apply cD|apply cE|refine cV rfl rfl rfl rfl (by first|((first|apply qmv|apply qlc|apply qfa|apply qls|apply qln)<;>(first|exact rfl|assumption|exact dct (by first|assumption|omega)|exact List.not_mem_nil|fail))|fail) ?_)
    refine dA rfl (by exact rho_of rfl) rfl ?_
    repeat (first|apply cA|apply cB|apply cE|apply cF|apply cG|refine cV rfl rfl rfl rfl (by first|((first|apply qmv|apply qlc|apply qla|apply qfa|apply qix)<;>(first|exact rfl|exact Ar.mk (by omega)|assumption|exact List.not_mem_nil|apply hc_length|fail))|fail) ?_)
    refine SG.alloc rfl rfl rfl (fun b5 w6 hk6 hb5 hB5 => ?_)
    refine SG.setAll (l := hc p.held[i]) rfl rfl (by exact rho_of rfl) (by exact rho_of rfl) hB5 (hc_length _) rfl (hc_one _) (fun w7 hk7 hB5 => ?_)
    have hB5 : Blk w7 b5 (.cells (hc p.held[i]).toArray 84) := hB5
    have k57 : Kp [] w5 w7 := hk6.trans_new hk7 (new1 (by omega))
    obtain ⟨p0, p1, p2, p3, -⟩ := hc_rows hB5
    have hB3' := hB3.kp0 k57
    have ho7 := own_kp0 ho k57
    obtain ⟨a7, c7, rfl, _, _⟩ := Sl.own hc_length ho7 rfl
    obtain ⟨-, -, -, -, r3, -⟩ := pc_rows hB3'
    clear hri
    repeat (first|apply cB|apply cD|apply cE|refine cV rfl rfl rfl rfl (by first|((first|apply qlc|apply qla|apply qfa)<;>(first|exact rfl|assumption|exact List.not_mem_nil|apply dc_length))|fail) ?_)
    refine cV rfl rfl rfl rfl (vals_build rfl (bownH p.held[i])) ?_
    refine SG.buildSlice rfl rfl rfl rfl (bownS p.held[i]) (fun b9 w8 hk8 hb9 hB9 => ?_)
    have ho8 := own_kp0 ho7 hk8
    have hB38 := hB3'.kp0 hk8
    have s58 := (k57.trans hk8).size
    have s45 := hk5.size
    refine SG.appO (enc := hc) (xs := p.held.take i) (ys := [p.held[i]]) (base := w4.heap.size) rfl rfl rfl (by exact rho_of rfl) (by exact rho_of rfl) rfl rfl rfl rfl hc_length hc_one ho8 (sl_one hc_length hB9) (by rw [hlen]; simp only [maxLen, List.length_cons, List.length_nil]; omega) (by rw [hlen]; show (i + 1) * 32 ≤ _; omega) (by omega) (fun v8 w9 hk9 ho9 _ => ?_)
    have e : p.held.take i ++ [p.held[i]] = p.held.take (i + 1) := (List.take_succ_eq_append_getElem hlt).symm
    rw [e] at ho9
    have hB39 := hB38.kp hk9 (fun hm => own_neb ho8 (by decide) hB38 b3 (ownB_mem hm) (by simp))
    obtain ⟨a9, c9, rfl, _, _⟩ := Sl.own hc_length ho9 rfl
    have k59 : Kp [] w4 w4 := Kp.refl _ _
    clear r3 p0 p1 p2 p3
    repeat (first|refine cV rfl rfl rfl rfl (by first|(apply qfa<;>(exact rfl))|fail) ?_)
    refine SG.store rfl rfl (by exact rho_of rfl) (by exact rho_of rfl) hB39 rfl (by show 0 + 11 + 1 ≤ _; simp [pc_length]) rfl (fun w10 hk10 hB310 => ?_)
    have hB310 : Blk w10 b3 (.cells (spl (pc p (.slice a7 (p.held.take i).length c7)) 11 [.slice a9 (p.held.take (i + 1)).length c9]).toArray 47) := hB310
    rw [pc_held] at hB310
    have ho10 := own_kp ho9 hk10 (own_neb ho9 (by decide) hB39)
    repeat (first|apply cB|apply cD|apply cE|apply cU|refine cV rfl rfl rfl rfl (by first|((first|apply qmv|apply qas|apply qad)<;>(first|exact rfl|exact Ar.mk (by omega)|fail))|fail) ?_)
    refine NG.round (.slice a9 (p.held.take (i + 1)).length c9, i + 1) (by (repeat' (first | exact True.intro | exact rfl | refine And.intro ?_ ?_))) ⟨by simp only; omega, ((hk5.trans (k57.trans hk8).any).trans_new hk9 (own_new ho8 (Nat.le_refl _))).trans hk10, by simp only; exact hB310, by simp only; exact ho10⟩ (by simp only; omega)
  · have g1 : ¬ (i : Int) < (p.held.length : Int) := by omega
    rw [List.take_of_length_le (by omega)] at ho
    obtain ⟨a5, c5, rfl, _, _⟩ := Sl.own hc_length ho rfl
    obtain ⟨-, -, -, -, -, r5⟩ := pc_rows hB3
    have hB2 := hB2.kp hk5 (nm1 (by omega))
    repeat (first|apply cA|apply cB|apply cD|apply cE|refine cV rfl rfl rfl rfl (by first|((first|apply qmv|apply qlc|apply qfa|apply qls|apply qln)<;>(first|exact rfl|assumption|exact dcf (by first|assumption|omega)|exact List.not_mem_nil|fail))|fail) ?_)
    refine dB rfl (by exact rho_of rfl) rfl ?_
    repeat (first|apply cA|apply cB|apply cE|apply cJ|apply cM|refine cN rfl ?_|refine cV rfl rfl rfl rfl (by first|(apply qla<;>(first|exact rfl|assumption|exact List.not_mem_nil|apply pc_length))|fail) ?_)
    refine SG.setAll (l := pc p (.slice a5 p.held.length c5)) rfl rfl (by exact rho_of rfl) (by exact rho_of rfl) hB2 (pc_length _ _) rfl (pc_one _ _ _ _) (fun w6 hk6 hB6 => ?_)
    have hr : Row w6 b2 0 (pc p (.slice a5 p.held.length c5)) := Row.all hB6 rfl
    have ho6 := own_kp ho hk6 (own_neb ho (by decide) hB2)
    repeat (first|apply cD|apply cE|apply cH)
    refine ret1 (Or.inl rfl) Tryz.results10 (ResV.agg rfl rfl hr (pc_length _ _)) ?_
    exact ⟨_, rfl, own_mono ho6 (by omega), (k4.trans_new hk5 (new1 (by omega))).trans_new hk6 (new1 (by omega))⟩
end
theorem bbckP' (w : World) (a0 a1 a2 a3 a4 a5 a6 a7 : UInt8) (n x y : Int) : (Instr.build 36 #[(0, .agg #[bv a0, bv a1, bv a2, bv a3, bv a4, bv a5, bv a6, bv a7]), (1, .int .i64 n), (2, .agg #[.int .i64 x, .int .i64 y])]).run Tryz.prog w = .ok (.agg #[bv a0, bv a1, bv a2, bv a3, bv a4, bv a5, bv a6, bv a7, .int .i64 n, .int .i64 x, .int .i64 y, .slice none 0 0]) w := by kernel_rfl
theorem bbckP (p : Pu) (w : World) : (Instr.build 36 #[(0, dv p.name), (1, .int .i64 p.num), (2, zv2 (p.h0, p.h1))]).run Tryz.prog w = .ok (pv p (.slice none 0 0)) w := by
  obtain ⟨⟨l, hl⟩, n, x, y, h⟩ := p
  match l, hl with
  | [a0, a1, a2, a3, a4, a5, a6, a7], _ => exact bbckP' w a0 a1 a2 a3 a4 a5 a6 a7 n x y
theorem bbckH' (w : World) (a0 a1 a2 a3 a4 a5 a6 a7 : UInt8) (x y z : Int) : (Instr.build 84 #[(0, .agg #[bv a0, bv a1, bv a2, bv a3, bv a4, bv a5, bv a6, bv a7]), (1, .int .i64 x), (2, .int .i64 y), (3, .int .i64 z)]).run Tryz.prog w = .ok (.agg #[bv a0, bv a1, bv a2, bv a3, bv a4, bv a5, bv a6, bv a7, .int .i64 x, .int .i64 y, .int .i64 z]) w := by kernel_rfl
theorem bbckH (h : Hd) (w : World) : (Instr.build 84 #[(0, dv h.name), (1, .int .i64 h.amt), (2, .int .i64 h.side), (3, .int .i64 h.til)]).run Tryz.prog w = .ok (hv h) w := by
  obtain ⟨⟨l, hl⟩, x, y, z⟩ := h
  match l, hl with
  | [a0, a1, a2, a3, a4, a5, a6, a7], _ => exact bbckH' w a0 a1 a2 a3 a4 a5 a6 a7 x y z
theorem bbckS' (w : World) (a0 a1 a2 a3 a4 a5 a6 a7 : UInt8) (x y z : Int) : (Instr.buildSlice 34 1 #[(0, .agg #[bv a0, bv a1, bv a2, bv a3, bv a4, bv a5, bv a6, bv a7, .int .i64 x, .int .i64 y, .int .i64 z])]).run Tryz.prog w = .ok (.slice (some ⟨w.heap.size, 0, none⟩) 1 1) { w with heap := w.heap.push (.cells #[bv a0, bv a1, bv a2, bv a3, bv a4, bv a5, bv a6, bv a7, .int .i64 x, .int .i64 y, .int .i64 z] 84) } := by kernel_rfl
theorem bbckS (h : Hd) (w : World) : (Instr.buildSlice 34 1 #[(0, hv h)]).run Tryz.prog w = .ok (.slice (some ⟨w.heap.size, 0, none⟩) 1 1) { w with heap := w.heap.push (.cells (hc h).toArray 84) } := by
  obtain ⟨⟨l, hl⟩, x, y, z⟩ := h
  match l, hl with
  | [a0, a1, a2, a3, a4, a5, a6, a7], _ => exact bbckS' w a0 a1 a2 a3 a4 a5 a6 a7 x y z
section
attribute [local irreducible] CG NG SG Vals Der Row Blk MapIs IterAt DerX
set_option maxHeartbeats 16000000 in
theorem bck_spec {w : World} {a : Option Addr} {c : Nat} (p : Pu) (hS : Sl hc 11 w a p.held) (hl : p.held.length ≤ 1000000000000) : Calls Tryz.prog 38 #[pv p (.slice a p.held.length c)] w (fun e w' => ∃ s, e = .returned (pv p s) ∧ w'.ownsRow w.heap.size 84 11 s p.held.length (flt hc p.held) ∧ Kp [] w w') := by
  refine enter1 Tryz.func38 rfl Tryz.ntmps38 rfl ?_
  repeat (first|apply cA|apply cB)
  refine SG.box rfl rfl rfl (by exact rho_of rfl) (fun b1 w1 hk1 hb1 hB1 => ?_)
  have hB1 : Blk w1 b1 (.cells (pc p (.slice a p.held.length c)).toArray 47) := hB1
  refine SG.alloc rfl rfl rfl (fun b2 w2 hk2 hb2 hB2 => ?_)
  have hB1 := hB1.kp0 hk2
  have k2 := hk1.trans hk2
  have s1 := hk1.size
  have s2 := hk2.size
  have l1 := hB1.lt
  have l2 := hB2.lt
  obtain ⟨q0, q1, -, -, r4, -⟩ := pc_rows hB1
  have q2 := pc_have hB1
  repeat (first|apply cA|apply cB|apply cD|apply cE|refine cV rfl rfl rfl rfl (by first|((first|apply qlc|apply qla|apply qfa)<;>(first|exact rfl|assumption|exact List.not_mem_nil|apply dc_length))|fail) ?_)
  refine cV rfl rfl rfl rfl (vals_build rfl (bbckP p)) ?_
  refine SG.alloc rfl rfl rfl (fun b3 w3 hk3 hb3 hB3 => ?_)
  refine SG.setAll (l := pc p (.slice none 0 0)) rfl rfl (by exact rho_of rfl) (by exact rho_of rfl) hB3 (pc_length _ _) rfl (pc_one _ _ _ _) (fun w4 hk4 hB3 => ?_)
  have hB3 : Blk w4 b3 (.cells (pc p (.slice none 0 0)).toArray 36) := hB3
  have k24 : Kp [] w2 w4 := hk3.trans_new hk4 (new1 (by omega))
  have k4 := k2.trans k24
  have l3 := hB3.lt
  have s4 := k24.size
  have hB2 := hB2.kp0 k24
  have r4 := r4.kp0 k24
  clear q0 q1 q2 hB1
  repeat (first|apply cA|apply cB|apply cD|apply cE|apply cG|refine cV rfl rfl rfl rfl (by first|(apply qas<;>(exact rfl))|fail) ?_)
  refine CG.loop (X := Value × Nat) (fun x => [(1, .pointer (some ⟨b1, 0, none⟩)), (2, .pointer (some ⟨b2, 0, none⟩)), (3, .pointer (some ⟨b3, 0, none⟩)), (4, .int .i64 (x.2 : Int))])
    (fun x w' => x.2 ≤ p.held.length ∧ Kp [b3] w4 w' ∧ Blk w' b3 (.cells (pc p x.1).toArray 36) ∧ w'.ownsRow w4.heap.size 84 11 x.1 (p.held.take x.2).length (flt hc (p.held.take x.2))) (fun x => p.held.length - x.2) (.slice none 0 0, 0) ⟨Nat.zero_le _, Kp.refl _ _, hB3, own_nil⟩ (by (repeat' (first | exact True.intro | exact rfl | refine And.intro ?_ ?_))) ?_
  clear hB3
  rintro ⟨v, i⟩ w5 ⟨hi, hk5, hB3, ho⟩
  simp only at hi hB3 ho
  refine CG.to [(1, .pointer (some ⟨b1, 0, none⟩)), (2, .pointer (some ⟨b2, 0, none⟩)), (3, .pointer (some ⟨b3, 0, none⟩)), (4, .int .i64 (i : Int))] (by (repeat' (first | exact True.intro | exact rfl | refine And.intro ?_ ?_))) ?_
  have r4 := r4.kp hk5 (nm1 (by omega))
  by_cases hlt : i < p.held.length
  · have g1 : (i : Int) < (p.held.length : Int) := by omega
    have hlen : (p.held.take i).length = i := by rw [List.length_take]; omega
    obtain ⟨ba, oa, rfl, hri⟩ := (hS.kp0 (k4.trans_new hk5 (new1 (by omega)))).at hlt
    repeat (first|apply cA|apply cB|apply cD|apply cE|refine cV rfl rfl rfl rfl (by first|((first|apply qmv|apply qlc|apply qfa|apply qls|apply qln)<;>(first|exact rfl|assumption|exact dct (by first|assumption|omega)|exact List.not_mem_nil|fail))|fail) ?_)
    refine dA rfl (by exact rho_of rfl) rfl ?_
    repeat (first|apply cA|apply cB|apply cE|apply cF|apply cG|refine cV rfl rfl rfl rfl (by first|((first|apply qmv|apply qlc|apply qla|apply qfa|apply qix)<;>(first|exact rfl|exact Ar.mk (by omega)|assumption|exact List.not_mem_nil|apply hc_length|fail))|fail) ?_)
    refine SG.alloc rfl rfl rfl (fun b5 w6 hk6 hb5 hB5 => ?_)
    refine SG.setAll (l := hc p.held[i]) rfl rfl (by exact rho_of rfl) (by exact rho_of rfl) hB5 (hc_length _) rfl (hc_one _) (fun w7 hk7 hB5 => ?_)
    have hB5 : Blk w7 b5 (.cells (hc p.held[i]).toArray 86) := hB5
    have k57 : Kp [] w5 w7 := hk6.trans_new hk7 (new1 (by omega))
    obtain ⟨p0, p1, p2, p3, -⟩ := hc_rows hB5
    have hB3' := hB3.kp0 k57
    have ho7 := own_kp0 ho k57
    obtain ⟨a7, c7, rfl, _, _⟩ := Sl.own hc_length ho7 rfl
    obtain ⟨-, -, -, -, r3, -⟩ := pc_rows hB3'
    clear hri
    repeat (first|apply cB|apply cD|apply cE|refine cV rfl rfl rfl rfl (by first|((first|apply qlc|apply qla|apply qfa)<;>(first|exact rfl|assumption|exact List.not_mem_nil|apply dc_length))|fail) ?_)
    refine cV rfl rfl rfl rfl (vals_build rfl (bbckH p.held[i])) ?_
    refine SG.buildSlice rfl rfl rfl rfl (bbckS p.held[i]) (fun b9 w8 hk8 hb9 hB9 => ?_)
    have ho8 := own_kp0 ho7 hk8
    have hB38 := hB3'.kp0 hk8
    have s58 := (k57.trans hk8).size
    have s45 := hk5.size
    refine SG.appO (enc := hc) (xs := p.held.take i) (ys := [p.held[i]]) (base := w4.heap.size) rfl rfl rfl (by exact rho_of rfl) (by exact rho_of rfl) rfl rfl rfl rfl hc_length hc_one ho8 (sl_one hc_length hB9) (by rw [hlen]; simp only [maxLen, List.length_cons, List.length_nil]; omega) (by rw [hlen]; show (i + 1) * 32 ≤ _; omega) (by omega) (fun v8 w9 hk9 ho9 _ => ?_)
    have e : p.held.take i ++ [p.held[i]] = p.held.take (i + 1) := (List.take_succ_eq_append_getElem hlt).symm
    rw [e] at ho9
    have hB39 := hB38.kp hk9 (fun hm => own_neb ho8 (by decide) hB38 b3 (ownB_mem hm) (by simp))
    obtain ⟨a9, c9, rfl, _, _⟩ := Sl.own hc_length ho9 rfl
    have k59 : Kp [] w4 w4 := Kp.refl _ _
    clear r3 p0 p1 p2 p3
    repeat (first|refine cV rfl rfl rfl rfl (by first|(apply qfa<;>(exact rfl))|fail) ?_)
    refine SG.store rfl rfl (by exact rho_of rfl) (by exact rho_of rfl) hB39 rfl (by show 0 + 11 + 1 ≤ _; simp [pc_length]) rfl (fun w10 hk10 hB310 => ?_)
    have hB310 : Blk w10 b3 (.cells (spl (pc p (.slice a7 (p.held.take i).length c7)) 11 [.slice a9 (p.held.take (i + 1)).length c9]).toArray 36) := hB310
    rw [pc_held] at hB310
    have ho10 := own_kp ho9 hk10 (own_neb ho9 (by decide) hB39)
    repeat (first|apply cB|apply cD|apply cE|apply cU|refine cV rfl rfl rfl rfl (by first|((first|apply qmv|apply qas|apply qad)<;>(first|exact rfl|exact Ar.mk (by omega)|fail))|fail) ?_)
    refine NG.round (.slice a9 (p.held.take (i + 1)).length c9, i + 1) (by (repeat' (first | exact True.intro | exact rfl | refine And.intro ?_ ?_))) ⟨by simp only; omega, ((hk5.trans (k57.trans hk8).any).trans_new hk9 (own_new ho8 (Nat.le_refl _))).trans hk10, by simp only; exact hB310, by simp only; exact ho10⟩ (by simp only; omega)
  · have g1 : ¬ (i : Int) < (p.held.length : Int) := by omega
    rw [List.take_of_length_le (by omega)] at ho
    obtain ⟨a5, c5, rfl, _, _⟩ := Sl.own hc_length ho rfl
    obtain ⟨-, -, -, -, -, r5⟩ := pc_rows hB3
    have hB2 := hB2.kp hk5 (nm1 (by omega))
    repeat (first|apply cA|apply cB|apply cD|apply cE|refine cV rfl rfl rfl rfl (by first|((first|apply qmv|apply qlc|apply qfa|apply qls|apply qln)<;>(first|exact rfl|assumption|exact dcf (by first|assumption|omega)|exact List.not_mem_nil|fail))|fail) ?_)
    refine dB rfl (by exact rho_of rfl) rfl ?_
    repeat (first|apply cA|apply cB|apply cE|apply cJ|apply cM|refine cN rfl ?_|refine cV rfl rfl rfl rfl (by first|(apply qla<;>(first|exact rfl|assumption|exact List.not_mem_nil|apply pc_length))|fail) ?_)
    refine SG.setAll (l := pc p (.slice a5 p.held.length c5)) rfl rfl (by exact rho_of rfl) (by exact rho_of rfl) hB2 (pc_length _ _) rfl (pc_one _ _ _ _) (fun w6 hk6 hB6 => ?_)
    have hr : Row w6 b2 0 (pc p (.slice a5 p.held.length c5)) := Row.all hB6 rfl
    have ho6 := own_kp ho hk6 (own_neb ho (by decide) hB2)
    repeat (first|apply cD|apply cE|apply cH)
    refine ret1 (Or.inl rfl) Tryz.results38 (ResV.agg rfl rfl hr (pc_length _ _)) ?_
    exact ⟨_, rfl, own_mono ho6 (by omega), (k4.trans_new hk5 (new1 (by omega))).trans_new hk6 (new1 (by omega))⟩
end
attribute [local irreducible] CG NG SG Vals Der Row Blk MapIs IterAt DerX
theorem eq_upto {α : Type} {l m : List α} {i : Nat} (h : ∀ j (hj : j < i) (h1 : j < l.length) (h2 : j < m.length), l[j] = m[j]) (hl : l.length ≤ i) (hlm : l.length = m.length) : l = m :=
  List.ext_getElem hlm (fun j h1 h2 => h j (by omega) h1 h2)
set_option maxHeartbeats 16000000 in
theorem rsame_spec {w : World} {a b : Option Addr} {c d : Nat} (p q : Pu) (hp : p.Fit) (hq : q.Fit) (hS : Sl hc 11 w a p.held) (hT : Sl hc 11 w b q.held) (hl : p.held.length ≤ 1000000000) :
    Ret Tryz.prog 37 #[pv p (.slice a p.held.length c), pv q (.slice b q.held.length d)] w (.bool (decide (p = q))) := by
  refine enter2 Tryz.func37 rfl Tryz.ntmps37 rfl ?_
  have fp : Z2.Fit (p.h0, p.h1) := ⟨hp.a, hp.b⟩
  have fq : Z2.Fit (q.h0, q.h1) := ⟨hq.a, hq.b⟩
  repeat (first|apply cA|apply cB)
  refine SG.box rfl rfl rfl (by exact rho_of rfl) (fun b1 w1 hk1 hb1 hB1 => ?_)
  refine SG.box rfl rfl rfl (by exact rho_of rfl) (fun b2 w2 hk2 hb2 hB2 => ?_)
  have hB1 : Blk w2 b1 (.cells (pc p (.slice a p.held.length c)).toArray 36) := hB1.kp0 hk2
  have hB2 : Blk w2 b2 (.cells (pc q (.slice b q.held.length d)).toArray 36) := hB2
  have k2 := hk1.trans hk2
  obtain ⟨q0, q1, -, -, r4, -⟩ := pc_rows hB1
  have q2 := pc_have hB1
  obtain ⟨p0, p1, -, -, t4, -⟩ := pc_rows hB2
  have p2 := pc_have hB2
  have no : ∀ {w' : World}, Kp [] w2 w' → p ≠ q → Ending.returned (.bool false) = .returned (.bool (decide (p = q))) ∧ Kp [] w w' := fun hk hn => ⟨by rw [decide_eq_false hn], k2.trans hk⟩
  by_cases e1 : p.name = q.name
  rotate_left
  · repeat (first | first|apply cA|apply cB|apply cD|apply cE|refine cV rfl rfl rfl rfl (by first|((first|apply qmv|apply qas|apply qla|apply qfa|apply qpk|apply qnd)<;>(first|exact rfl|assumption|exact dcf (by first|assumption|omega)|exact List.not_mem_nil|apply dc_length|fail))|fail) ?_ | refine cX rfl rfl ?_)
    refine dA rfl (by exact rho_of rfl) rfl ?_
    repeat (first|apply cA|apply cB|apply cD|apply cE|apply cH|apply cK|refine cV rfl rfl rfl rfl (by first|(apply qas<;>(exact rfl))|fail) ?_)
    refine ret1 (Or.inl rfl) Tryz.results37 (by first | exact ResV.tmp rfl | exact ResV.agg rfl rfl (by assumption) (by first | exact dc_length _ | exact nc_length _ | exact rc_length _ _ _ | exact ec_length _ | exact dl_length _ _ _ _ | rfl) | exact ResV.cell rfl rfl (by assumption)) ?_
    exact no (Kp.refl _ _) (fun h => e1 (by rw [h]))
  by_cases e2 : p.num = q.num
  rotate_left
  · repeat (first | first|apply cA|apply cB|apply cD|apply cE|refine cV rfl rfl rfl rfl (by first|((first|apply qmv|apply qas|apply qlc|apply qla|apply qfa|apply qpk|apply qni|apply qnd)<;>(first|exact rfl|assumption|exact dct (by first|assumption|omega)|exact dcf (by first|assumption|omega)|exact List.not_mem_nil|apply dc_length|fail))|fail) ?_ | refine cX rfl rfl ?_)
    refine dA rfl (by exact rho_of rfl) rfl ?_
    repeat (first|apply cA|apply cB|apply cD|apply cE|apply cH|apply cK|refine cV rfl rfl rfl rfl (by first|(apply qas<;>(exact rfl))|fail) ?_)
    refine ret1 (Or.inl rfl) Tryz.results37 (by first | exact ResV.tmp rfl | exact ResV.agg rfl rfl (by assumption) (by first | exact dc_length _ | exact nc_length _ | exact rc_length _ _ _ | exact ec_length _ | exact dl_length _ _ _ _ | rfl) | exact ResV.cell rfl rfl (by assumption)) ?_
    exact no (Kp.refl _ _) (fun h => e2 (by rw [h]))
  by_cases e3 : ((p.h0, p.h1) : Z2) = (q.h0, q.h1)
  rotate_left
  · repeat (first | first|apply cA|apply cB|apply cD|apply cE|refine cV rfl rfl rfl rfl (by first|((first|apply qn_z2|apply qmv|apply qas|apply qlc|apply qla|apply qfa|apply qpk|apply qni|apply qnd)<;>(first|exact rfl|assumption|exact dct (by first|assumption|omega)|exact dcf (by first|assumption|omega)|exact List.not_mem_nil|apply dc_length|fail))|fail) ?_ | refine cX rfl rfl ?_)
    refine dA rfl (by exact rho_of rfl) rfl ?_
    repeat (first|apply cA|apply cB|apply cD|apply cE|apply cH|apply cK|refine cV rfl rfl rfl rfl (by first|(apply qas<;>(exact rfl))|fail) ?_)
    refine ret1 (Or.inl rfl) Tryz.results37 (by first | exact ResV.tmp rfl | exact ResV.agg rfl rfl (by assumption) (by first | exact dc_length _ | exact nc_length _ | exact rc_length _ _ _ | exact ec_length _ | exact dl_length _ _ _ _ | rfl) | exact ResV.cell rfl rfl (by assumption)) ?_
    exact no (Kp.refl _ _) (fun h => e3 (by rw [h]))
  by_cases e4 : (p.held.length : Int) = (q.held.length : Int)
  rotate_left
  · repeat (first|apply cA|apply cB|apply cD|apply cE|refine cV rfl rfl rfl rfl (by first|((first|apply qn_z2|apply qmv|apply qas|apply qlc|apply qla|apply qfa|apply qpk|apply qni|apply qnd|apply qln)<;>(first|exact rfl|assumption|exact dct (by first|assumption|omega)|exact dcf (by first|assumption|omega)|exact List.not_mem_nil|apply dc_length|fail))|fail) ?_)
    refine dA rfl (by exact rho_of rfl) rfl ?_
    repeat (first|apply cA|apply cB|apply cD|apply cE|apply cH|apply cK|refine cV rfl rfl rfl rfl (by first|(apply qas<;>(exact rfl))|fail) ?_)
    refine ret1 (Or.inl rfl) Tryz.results37 (by first | exact ResV.tmp rfl | exact ResV.agg rfl rfl (by assumption) (by first | exact dc_length _ | exact nc_length _ | exact rc_length _ _ _ | exact ec_length _ | exact dl_length _ _ _ _ | rfl) | exact ResV.cell rfl rfl (by assumption)) ?_
    exact no (Kp.refl _ _) (fun h => e4 (by rw [h]))
  repeat (first|apply cA|apply cB|apply cD|apply cE|refine cV rfl rfl rfl rfl (by first|((first|apply qn_z2|apply qmv|apply qas|apply qlc|apply qla|apply qfa|apply qpk|apply qni|apply qnd|apply qln)<;>(first|exact rfl|assumption|exact dct (by first|assumption|omega)|exact List.not_mem_nil|apply dc_length|fail))|fail) ?_)
  refine dB rfl (by exact rho_of rfl) rfl ?_
  clear q0 q1 q2 p0 p1 p2
  repeat (first|apply cA|apply cB|apply cD|apply cE|apply cF|apply cG|refine cV rfl rfl rfl rfl (by first|(apply qas<;>(exact rfl))|fail) ?_)
  refine CG.loop (X := Nat) (fun i => [(2, .pointer (some ⟨b1, 0, none⟩)), (3, .pointer (some ⟨b2, 0, none⟩)), (5, .int .i64 (i : Int))])
    (fun i w' => i ≤ p.held.length ∧ Kp [] w2 w' ∧ ∀ j (hj : j < i) (h1 : j < p.held.length) (h2 : j < q.held.length), p.held[j] = q.held[j]) (fun i => p.held.length - i) 0 ⟨Nat.zero_le _, Kp.refl _ _, fun j hj => absurd hj (by omega)⟩ (by (repeat' (first | exact True.intro | exact rfl | refine And.intro ?_ ?_))) ?_
  rintro i w3 ⟨hi, hk3, hup⟩
  have r4 := r4.kp0 hk3
  have t4 := t4.kp0 hk3
  by_cases hlt : i < p.held.length
  · have g1 : (i : Int) < (p.held.length : Int) := by omega
    have hlt2 : i < q.held.length := by omega
    obtain ⟨ba, oa, rfl, hri⟩ := (hS.kp0 (k2.trans hk3)).at hlt
    obtain ⟨bb, ob, rfl, hrj⟩ := (hT.kp0 (k2.trans hk3)).at hlt2
    have f1 := hp.h _ (List.getElem_mem hlt)
    have f2 := hq.h _ (List.getElem_mem hlt2)
    repeat (first|apply cA|apply cB|apply cD|apply cE|refine cV rfl rfl rfl rfl (by first|((first|apply qmv|apply qlc|apply qfa|apply qls|apply qln)<;>(first|exact rfl|assumption|exact dct (by first|assumption|omega)|exact List.not_mem_nil|fail))|fail) ?_)
    refine dA rfl (by exact rho_of rfl) rfl ?_
    by_cases he : p.held[i] = q.held[i]
    · repeat (first|apply cA|apply cE|apply cF|apply cG)
      refine CG.draw0 mixed [0, 1, 2, 3, 4, 5, 6, 7, 8, 9, 10] [] (by kernel_rfl) ?_
      repeat (refine cY rfl rfl rfl (by first|((first|apply qn_rhd|apply qmv|apply qlc|apply qla|apply qfa|apply qix)<;>(first|exact rfl|exact Ar.mk (by omega)|assumption|exact dct (by first|assumption|omega)|exact List.not_mem_nil|apply hc_length|fail))|fail) ?_)
      refine Der.fin (fun w4 hk4 _ _ => ?_)
      repeat (first|apply cE)
      refine dB rfl (by exact rho_of rfl) rfl ?_
      repeat (first|apply cB|apply cD|apply cE|apply cF|apply cU|refine cV rfl rfl rfl rfl (by first|((first|apply qmv|apply qas|apply qad)<;>(first|exact rfl|exact Ar.mk (by omega)|fail))|fail) ?_)
      refine NG.round (i + 1) (by (repeat' (first | exact True.intro | exact rfl | refine And.intro ?_ ?_))) ⟨by omega, hk3.trans hk4, fun j hj h1 h2 => ?_⟩ (by omega)
      by_cases ej : j = i
      · subst ej
        exact he
      · exact hup j (by omega) h1 h2
    · repeat (first|apply cA|apply cE|apply cF|apply cG)
      refine CG.draw0 mixed [0, 1, 2, 3, 4, 5, 6, 7, 8, 9, 10] [] (by kernel_rfl) ?_
      repeat (refine cY rfl rfl rfl (by first|((first|apply qn_rhd|apply qmv|apply qlc|apply qla|apply qfa|apply qix)<;>(first|exact rfl|exact Ar.mk (by omega)|assumption|exact dcf (by first|assumption|omega)|exact List.not_mem_nil|apply hc_length|fail))|fail) ?_)
      refine Der.fin (fun w4 hk4 _ _ => ?_)
      repeat (first|apply cE)
      refine dA rfl (by exact rho_of rfl) rfl ?_
      repeat (first|apply cA|apply cB|apply cD|apply cE|apply cH|apply cK|apply NG.ret_block|refine cV rfl rfl rfl rfl (by first|(apply qas<;>(exact rfl))|fail) ?_)
      refine ret1 (Or.inl rfl) Tryz.results37 (by first | exact ResV.tmp rfl | exact ResV.agg rfl rfl (by assumption) (by first | exact dc_length _ | exact nc_length _ | exact rc_length _ _ _ | exact ec_length _ | exact dl_length _ _ _ _ | rfl) | exact ResV.cell rfl rfl (by assumption)) ?_
      exact no (hk3.trans hk4) (fun h => he (by subst h; rfl))
  · have g1 : ¬ (i : Int) < (p.held.length : Int) := by omega
    have hpq : p = q := by
      have h5 : p.held = q.held := eq_upto hup (by omega) (by omega)
      simp only [Prod.mk.injEq] at e3
      obtain ⟨h3, h4⟩ := e3
      cases p
      cases q
      simp only at e1 e2 h3 h4 h5
      rw [e1, e2, h3, h4, h5]
    repeat (first|apply cA|apply cB|apply cD|apply cE|refine cV rfl rfl rfl rfl (by first|((first|apply qmv|apply qlc|apply qfa|apply qls|apply qln)<;>(first|exact rfl|assumption|exact dcf (by first|assumption|omega)|exact List.not_mem_nil|fail))|fail) ?_)
    refine dB rfl (by exact rho_of rfl) rfl ?_
    repeat (first|apply cA|apply cB|apply cD|apply cE|apply cH|apply cJ|apply cM|refine cN rfl ?_|refine cV rfl rfl rfl rfl (by first|(apply qas<;>(exact rfl))|fail) ?_)
    refine ret1 (Or.inl rfl) Tryz.results37 (by first | exact ResV.tmp rfl | exact ResV.agg rfl rfl (by assumption) (by first | exact dc_length _ | exact nc_length _ | exact rc_length _ _ _ | exact ec_length _ | exact dl_length _ _ _ _ | rfl) | exact ResV.cell rfl rfl (by assumption)) ?_
    exact ⟨by rw [decide_eq_true hpq], k2.trans hk3⟩
set_option maxHeartbeats 16000000 in
theorem heq_spec {w : World} {a b : Option Addr} {c d : Nat} (l m : List Hd) (hp : ∀ x ∈ l, x.Fit) (hq : ∀ x ∈ m, x.Fit) (hS : Sl hc 11 w a l) (hT : Sl hc 11 w b m) (hl : l.length ≤ 1000000000) :
    Ret Tryz.prog 44 #[.slice a l.length c, .slice b m.length d] w (.bool (decide (l = m))) := by
  refine enter2 Tryz.func44 rfl Tryz.ntmps44 rfl ?_
  have no : ∀ {w' : World}, Kp [] w w' → l ≠ m → Ending.returned (.bool false) = .returned (.bool (decide (l = m))) ∧ Kp [] w w' := fun hk hn => ⟨by rw [decide_eq_false hn], hk⟩
  by_cases e4 : (l.length : Int) = (m.length : Int)
  rotate_left
  · repeat (first|apply cA|apply cB|apply cD|apply cE|refine cV rfl rfl rfl rfl (by first|((first|apply qmv|apply qas|apply qni|apply qln)<;>(first|exact rfl|exact dcf (by first|assumption|omega)|fail))|fail) ?_)
    refine dA rfl (by exact rho_of rfl) rfl ?_
    repeat (first|apply cA|apply cB|apply cD|apply cE|apply cH|apply cK|refine cV rfl rfl rfl rfl (by first|(apply qas<;>(exact rfl))|fail) ?_)
    refine ret1 (Or.inl rfl) Tryz.results44 (by first | exact ResV.tmp rfl | exact ResV.agg rfl rfl (by assumption) (by first | exact dc_length _ | exact nc_length _ | exact rc_length _ _ _ | exact ec_length _ | exact dl_length _ _ _ _ | rfl) | exact ResV.cell rfl rfl (by assumption)) ?_
    exact no (Kp.refl _ _) (fun h => e4 (by rw [h]))
  repeat (first|apply cA|apply cB|apply cD|apply cE|refine cV rfl rfl rfl rfl (by first|((first|apply qmv|apply qas|apply qni|apply qln)<;>(first|exact rfl|exact dct (by first|assumption|omega)|fail))|fail) ?_)
  refine dB rfl (by exact rho_of rfl) rfl ?_
  repeat (first|apply cA|apply cB|apply cD|apply cE|apply cF|apply cG|refine cV rfl rfl rfl rfl (by first|((first|apply qmv|apply qln)<;>(exact rfl))|fail) ?_)
  refine CG.loop (X := Nat) (fun i => [(0, .slice a l.length c), (1, .slice b m.length d), (12, .int .i64 (l.length : Int)), (13, .int .i64 (i : Int))])
    (fun i w' => i ≤ l.length ∧ Kp [] w w' ∧ ∀ j (hj : j < i) (h1 : j < l.length) (h2 : j < m.length), l[j] = m[j]) (fun i => l.length - i) 0 ⟨Nat.zero_le _, Kp.refl _ _, fun j hj => absurd hj (by omega)⟩ (by (repeat' (first | exact True.intro | exact rfl | refine And.intro ?_ ?_))) ?_
  rintro i w3 ⟨hi, hk3, hup⟩
  by_cases hlt : i < l.length
  · have g1 : (i : Int) < (l.length : Int) := by omega
    have hlt2 : i < m.length := by omega
    obtain ⟨ba, oa, rfl, hri⟩ := (hS.kp0 hk3).at hlt
    obtain ⟨bb, ob, rfl, hrj⟩ := (hT.kp0 hk3).at hlt2
    have f1 := hp _ (List.getElem_mem hlt)
    have f2 := hq _ (List.getElem_mem hlt2)
    repeat (first|apply cA|apply cB|apply cD|apply cE|refine cV rfl rfl rfl rfl (by first|(apply qls<;>(first|exact rfl|exact dct (by first|assumption|omega)|fail))|fail) ?_)
    refine dA rfl (by exact rho_of rfl) rfl ?_
    by_cases he : l[i] = m[i]
    · repeat (first|apply cA|apply cB|apply cD|apply cE|apply cF|apply cG|refine cV rfl rfl rfl rfl (by first|((first|apply qmv|apply qas)<;>(exact rfl))|fail) ?_)
      refine CG.draw0 mixed [0, 1, 2, 3, 4, 5, 6, 7, 8] [] (by kernel_rfl) ?_
      repeat (refine cY rfl rfl rfl (by first|((first|apply qn_hd|apply qmv|apply qla|apply qix)<;>(first|exact rfl|exact Ar.mk (by omega)|assumption|exact dct (by first|assumption|omega)|exact List.not_mem_nil|apply hc_length|fail))|fail) ?_)
      refine Der.fin (fun w4 hk4 _ _ => ?_)
      repeat (first|apply cE)
      refine dB rfl (by exact rho_of rfl) rfl ?_
      repeat (first|apply cB|apply cD|apply cE|apply cF|apply cU|refine cV rfl rfl rfl rfl (by first|((first|apply qmv|apply qad)<;>(first|exact rfl|exact Ar.mk (by omega)|fail))|fail) ?_)
      refine NG.round (i + 1) (by (repeat' (first | exact True.intro | exact rfl | refine And.intro ?_ ?_))) ⟨by omega, hk3.trans hk4, fun j hj h1 h2 => ?_⟩ (by omega)
      by_cases ej : j = i
      · subst ej
        exact he
      · exact hup j (by omega) h1 h2
    · repeat (first|apply cA|apply cB|apply cD|apply cE|apply cF|apply cG|refine cV rfl rfl rfl rfl (by first|((first|apply qmv|apply qas)<;>(exact rfl))|fail) ?_)
      refine CG.draw0 mixed [0, 1, 2, 3, 4, 5, 6, 7, 8] [] (by kernel_rfl) ?_
      repeat (refine cY rfl rfl rfl (by first|((first|apply qn_hd|apply qmv|apply qla|apply qix)<;>(first|exact rfl|exact Ar.mk (by omega)|assumption|exact dcf (by first|assumption|omega)|exact List.not_mem_nil|apply hc_length|fail))|fail) ?_)
      refine Der.fin (fun w4 hk4 _ _ => ?_)
      repeat (first|apply cE)
      refine dA rfl (by exact rho_of rfl) rfl ?_
      repeat (first|apply cA|apply cB|apply cD|apply cE|apply cH|apply cK|apply NG.ret_block|refine cV rfl rfl rfl rfl (by first|(apply qas<;>(exact rfl))|fail) ?_)
      refine ret1 (Or.inl rfl) Tryz.results44 (by first | exact ResV.tmp rfl | exact ResV.agg rfl rfl (by assumption) (by first | exact dc_length _ | exact nc_length _ | exact rc_length _ _ _ | exact ec_length _ | exact dl_length _ _ _ _ | rfl) | exact ResV.cell rfl rfl (by assumption)) ?_
      exact no (hk3.trans hk4) (fun h => he (by subst h; rfl))
  · have g1 : ¬ (i : Int) < (l.length : Int) := by omega
    have hpq : l = m := eq_upto hup (by omega) (by omega)
    repeat (first|apply cA|apply cB|apply cD|apply cE|refine cV rfl rfl rfl rfl (by first|(apply qls<;>(first|exact rfl|exact dcf (by first|assumption|omega)|fail))|fail) ?_)
    refine dB rfl (by exact rho_of rfl) rfl ?_
    repeat (first|apply cA|apply cB|apply cD|apply cE|apply cH|apply cJ|apply cM|refine cN rfl ?_|refine cV rfl rfl rfl rfl (by first|(apply qas<;>(exact rfl))|fail) ?_)
    refine ret1 (Or.inl rfl) Tryz.results44 (by first | exact ResV.tmp rfl | exact ResV.agg rfl rfl (by assumption) (by first | exact dc_length _ | exact nc_length _ | exact rc_length _ _ _ | exact ec_length _ | exact dl_length _ _ _ _ | rfl) | exact ResV.cell rfl rfl (by assumption)) ?_
    exact ⟨by rw [decide_eq_true hpq], hk3⟩
set_option maxHeartbeats 16000000 in
theorem psame_spec {w : World} {a b : Option Addr} {c d : Nat} (p q : Pu) (hp : p.Fit) (hq : q.Fit) (hS : Sl hc 11 w a p.held) (hT : Sl hc 11 w b q.held) (hl : p.held.length ≤ 1000000000) :
    Ret Tryz.prog 25 #[pv p (.slice a p.held.length c), pv q (.slice b q.held.length d)] w (.bool (decide (p = q))) := by
  refine enter2 Tryz.func25 rfl Tryz.ntmps25 rfl ?_
  have fp : Z2.Fit (p.h0, p.h1) := ⟨hp.a, hp.b⟩
  have fq : Z2.Fit (q.h0, q.h1) := ⟨hq.a, hq.b⟩
  repeat (first|apply cA|apply cB)
  refine SG.box rfl rfl rfl (by exact rho_of rfl) (fun b1 w1 hk1 hb1 hB1 => ?_)
  refine SG.box rfl rfl rfl (by exact rho_of rfl) (fun b2 w2 hk2 hb2 hB2 => ?_)
  have hB1 : Blk w2 b1 (.cells (pc p (.slice a p.held.length c)).toArray 47) := hB1.kp0 hk2
  have hB2 : Blk w2 b2 (.cells (pc q (.slice b q.held.length d)).toArray 47) := hB2
  have k2 := hk1.trans hk2
  obtain ⟨q0, q1, -, -, r4, -⟩ := pc_rows hB1
  have q2 := pc_have hB1
  obtain ⟨p0, p1, -, -, t4, -⟩ := pc_rows hB2
  have p2 := pc_have hB2
  have no : ∀ {w' : World}, Kp [] w2 w' → p ≠ q → Ending.returned (.bool false) = .returned (.bool (decide (p = q))) ∧ Kp [] w w' := fun hk hn => ⟨by rw [decide_eq_false hn], k2.trans hk⟩
  by_cases e1 : p.name = q.name
  rotate_left
  · repeat (first | first|apply cA|apply cB|apply cD|apply cE|apply cH|refine cV rfl rfl rfl rfl (by first|((first|apply qmv|apply qas|apply qla|apply qfa|apply qpk|apply qed)<;>(first|exact rfl|assumption|exact dcf (by first|assumption|omega)|exact List.not_mem_nil|apply dc_length|fail))|fail) ?_ | refine cX rfl rfl ?_)
    refine ret1 (Or.inl rfl) Tryz.results25 (by first | exact ResV.tmp rfl | exact ResV.agg rfl rfl (by assumption) (by first | exact dc_length _ | exact nc_length _ | exact rc_length _ _ _ | exact ec_length _ | exact dl_length _ _ _ _ | rfl) | exact ResV.cell rfl rfl (by assumption)) ?_
    exact no (Kp.refl _ _) (fun h => e1 (by rw [h]))
  by_cases e2 : p.num = q.num
  rotate_left
  · repeat (first | first|apply cA|apply cB|apply cD|apply cE|apply cH|refine cV rfl rfl rfl rfl (by first|((first|apply qmv|apply qas|apply qlc|apply qla|apply qfa|apply qpk|apply qei|apply qed)<;>(first|exact rfl|assumption|exact dct (by first|assumption|omega)|exact dcf (by first|assumption|omega)|exact List.not_mem_nil|apply dc_length|fail))|fail) ?_ | refine cX rfl rfl ?_)
    refine ret1 (Or.inl rfl) Tryz.results25 (by first | exact ResV.tmp rfl | exact ResV.agg rfl rfl (by assumption) (by first | exact dc_length _ | exact nc_length _ | exact rc_length _ _ _ | exact ec_length _ | exact dl_length _ _ _ _ | rfl) | exact ResV.cell rfl rfl (by assumption)) ?_
    exact no (Kp.refl _ _) (fun h => e2 (by rw [h]))
  by_cases e3 : ((p.h0, p.h1) : Z2) = (q.h0, q.h1)
  rotate_left
  · repeat (first | first|apply cA|apply cB|apply cD|apply cE|apply cH|refine cV rfl rfl rfl rfl (by first|((first|apply qe_z2|apply qmv|apply qas|apply qlc|apply qla|apply qfa|apply qpk|apply qei|apply qed)<;>(first|exact rfl|assumption|exact dct (by first|assumption|omega)|exact dcf (by first|assumption|omega)|exact List.not_mem_nil|apply dc_length|fail))|fail) ?_ | refine cX rfl rfl ?_)
    refine ret1 (Or.inl rfl) Tryz.results25 (by first | exact ResV.tmp rfl | exact ResV.agg rfl rfl (by assumption) (by first | exact dc_length _ | exact nc_length _ | exact rc_length _ _ _ | exact ec_length _ | exact dl_length _ _ _ _ | rfl) | exact ResV.cell rfl rfl (by assumption)) ?_
    exact no (Kp.refl _ _) (fun h => e3 (by rw [h]))
  repeat (first|apply cA|apply cB|apply cD|apply cE|refine cV rfl rfl rfl rfl (by first|((first|apply qe_z2|apply qmv|apply qas|apply qlc|apply qla|apply qfa|apply qpk|apply qei|apply qed)<;>(first|exact rfl|assumption|exact dct (by first|assumption|omega)|exact List.not_mem_nil|apply dc_length|fail))|fail) ?_)
  refine SG.ret rfl rfl rfl (vs := [.slice a p.held.length c, .slice b q.held.length d]) (by repeat' (first | exact True.intro | exact rho_of rfl | refine And.intro ?_ ?_)) (heq_spec p.held q.held hp.h hq.h (hS.kp0 k2) (hT.kp0 k2) hl) (fun w3 hk3 => ?_)
  have e : decide (p.held = q.held) = decide (p = q) := decide_eq_decide.2 ⟨fun h5 => by
    simp only [Prod.mk.injEq] at e3
    obtain ⟨h3, h4⟩ := e3
    cases p
    cases q
    simp only at e1 e2 h3 h4 h5
    rw [e1, e2, h3, h4, h5], fun h => by rw [h]⟩
  rw [e]
  repeat (first|apply cD|apply cE|apply cH|refine cV rfl rfl rfl rfl (by first|((first|apply qas|apply qpk)<;>(exact rfl))|fail) ?_)
  refine ret1 (Or.inl rfl) Tryz.results25 (by first | exact ResV.tmp rfl | exact ResV.agg rfl rfl (by assumption) (by first | exact dc_length _ | exact nc_length _ | exact rc_length _ _ _ | exact ec_length _ | exact dl_length _ _ _ _ | rfl) | exact ResV.cell rfl rfl (by assumption)) ?_
  exact ⟨rfl, k2.trans hk3⟩
end Go.Proofs.YtajllbdeoopimaaGreat
namespace Go.Proofs.YtajllbdeoopimaaGreat
set_option linter.unusedVariables false
theorem rbz3 (a : Option Addr) (n c : Nat) (w : World) : (Instr.build 36 #[(3, .slice a n c)]).run Tryz.prog w = .ok (.agg #[bv 0, bv 0, bv 0, bv 0, bv 0, bv 0, bv 0, bv 0, .int .i64 0, .int .i64 0, .int .i64 0, .slice a n c]) w := by kernel_rfl
def heldP (l : List Hd) : Pu := ⟨zd, 0, 0, 0, l⟩
theorem placeN_any {l : List Hd} {n : Dg} : placeN l n < l.length ↔ l.any (fun o => decide (o.name = n)) = true := by
  unfold placeN
  rw [List.findIdx_lt_length, List.any_eq_true]
attribute [local irreducible] CG NG SG Vals Der Row Blk MapIs IterAt chkL DerX
set_option maxHeartbeats 8000000 in
theorem rfar_spec (n : Int) (w : World) : Ret Tryz.prog 76 #[.int .i64 n] w (.bool (decide (farP n))) := by
  refine enter1 Tryz.func76 rfl Tryz.ntmps76 rfl ?_
  by_cases g1 : 0 ≤ n
  · by_cases g2 : n ≤ 1099511627776
    · rw [decide_eq_true (show farP n from ⟨g1, g2⟩)]
      repeat (first|apply cA|apply cB|apply cD|apply cE|apply cH|refine cV rfl rfl rfl rfl (by first|((first|apply qmv|apply qas|apply qpk|apply qle|apply qge)<;>(first|exact rfl|exact dct (by first|assumption|omega)|fail))|fail) ?_)
      refine ret1 (Or.inl rfl) Tryz.results76 (by first | exact ResV.tmp rfl | exact ResV.agg rfl rfl (by assumption) (by first | exact dc_length _ | exact nc_length _ | exact rc_length _ _ _ | exact ec_length _ | exact dl_length _ _ _ _ | rfl) | exact ResV.cell rfl rfl (by assumption)) ?_
      exact ⟨rfl, Kp.refl _ _⟩
    · rw [decide_eq_false (show ¬ farP n from fun h => g2 h.2)]
      repeat (first|apply cA|apply cB|apply cD|apply cE|apply cH|refine cV rfl rfl rfl rfl (by first|((first|apply qmv|apply qas|apply qpk|apply qle|apply qge)<;>(first|exact rfl|exact dct (by first|assumption|omega)|exact dcf (by first|assumption|omega)|fail))|fail) ?_)
      refine ret1 (Or.inl rfl) Tryz.results76 (by first | exact ResV.tmp rfl | exact ResV.agg rfl rfl (by assumption) (by first | exact dc_length _ | exact nc_length _ | exact rc_length _ _ _ | exact ec_length _ | exact dl_length _ _ _ _ | rfl) | exact ResV.cell rfl rfl (by assumption)) ?_
      exact ⟨rfl, Kp.refl _ _⟩
  · rw [decide_eq_false (show ¬ farP n from fun h => g1 h.1)]
    repeat (first | first|apply cA|apply cB|apply cD|apply cE|apply cH|refine cV rfl rfl rfl rfl (by first|((first|apply qmv|apply qas|apply qpk|apply qge)<;>(first|exact rfl|exact dcf (by first|assumption|omega)|fail))|fail) ?_ | refine cX rfl rfl ?_)
    refine ret1 (Or.inl rfl) Tryz.results76 (by first | exact ResV.tmp rfl | exact ResV.agg rfl rfl (by assumption) (by first | exact dc_length _ | exact nc_length _ | exact rc_length _ _ _ | exact ec_length _ | exact dl_length _ _ _ _ | rfl) | exact ResV.cell rfl rfl (by assumption)) ?_
    exact ⟨rfl, Kp.refl _ _⟩
set_option maxHeartbeats 8000000 in
theorem rtime_spec (n : Int) (w : World) : Ret Tryz.prog 54 #[.int .i64 n] w (.bool (decide (farP n))) := by
  refine enter1 Tryz.func54 rfl Tryz.ntmps54 rfl ?_
  by_cases g1 : 0 ≤ n
  · by_cases g2 : n ≤ 1099511627776
    · rw [decide_eq_true (show farP n from ⟨g1, g2⟩)]
      repeat (first|apply cA|apply cB|apply cD|apply cE|apply cH|refine cV rfl rfl rfl rfl (by first|((first|apply qmv|apply qas|apply qpk|apply qle|apply qge)<;>(first|exact rfl|exact dct (by first|assumption|omega)|fail))|fail) ?_)
      refine ret1 (Or.inl rfl) Tryz.results54 (by first | exact ResV.tmp rfl | exact ResV.agg rfl rfl (by assumption) (by first | exact dc_length _ | exact nc_length _ | exact rc_length _ _ _ | exact ec_length _ | exact dl_length _ _ _ _ | rfl) | exact ResV.cell rfl rfl (by assumption)) ?_
      exact ⟨rfl, Kp.refl _ _⟩
    · rw [decide_eq_false (show ¬ farP n from fun h => g2 h.2)]
      repeat (first|apply cA|apply cB|apply cD|apply cE|apply cH|refine cV rfl rfl rfl rfl (by first|((first|apply qmv|apply qas|apply qpk|apply qle|apply qge)<;>(first|exact rfl|exact dct (by first|assumption|omega)|exact dcf (by first|assumption|omega)|fail))|fail) ?_)
      refine ret1 (Or.inl rfl) Tryz.results54 (by first | exact ResV.tmp rfl | exact ResV.agg rfl rfl (by assumption) (by first | exact dc_length _ | exact nc_length _ | exact rc_length _ _ _ | exact ec_length _ | exact dl_length _ _ _ _ | rfl) | exact ResV.cell rfl rfl (by assumption)) ?_
      exact ⟨rfl, Kp.refl _ _⟩
  · rw [decide_eq_false (show ¬ farP n from fun h => g1 h.1)]
    repeat (first | first|apply cA|apply cB|apply cD|apply cE|apply cH|refine cV rfl rfl rfl rfl (by first|((first|apply qmv|apply qas|apply qpk|apply qge)<;>(first|exact rfl|exact dcf (by first|assumption|omega)|fail))|fail) ?_ | refine cX rfl rfl ?_)
    refine ret1 (Or.inl rfl) Tryz.results54 (by first | exact ResV.tmp rfl | exact ResV.agg rfl rfl (by assumption) (by first | exact dc_length _ | exact nc_length _ | exact rc_length _ _ _ | exact ec_length _ | exact dl_length _ _ _ _ | rfl) | exact ResV.cell rfl rfl (by assumption)) ?_
    exact ⟨rfl, Kp.refl _ _⟩
set_option maxHeartbeats 8000000 in
theorem rright_spec (n : Int) (w : World) : Ret Tryz.prog 78 #[.int .i64 n] w (.bool (decide (amtP n))) := by
  refine enter1 Tryz.func78 rfl Tryz.ntmps78 rfl ?_
  by_cases g1 : 0 ≤ n
  · by_cases g2 : n ≤ 1125899906842624
    · rw [decide_eq_true (show amtP n from ⟨g1, g2⟩)]
      repeat (first|apply cA|apply cB|apply cD|apply cE|apply cH|refine cV rfl rfl rfl rfl (by first|((first|apply qmv|apply qas|apply qpk|apply qle|apply qge)<;>(first|exact rfl|exact dct (by first|assumption|omega)|fail))|fail) ?_)
      refine ret1 (Or.inl rfl) Tryz.results78 (by first | exact ResV.tmp rfl | exact ResV.agg rfl rfl (by assumption) (by first | exact dc_length _ | exact nc_length _ | exact rc_length _ _ _ | exact ec_length _ | exact dl_length _ _ _ _ | rfl) | exact ResV.cell rfl rfl (by assumption)) ?_
      exact ⟨rfl, Kp.refl _ _⟩
    · rw [decide_eq_false (show ¬ amtP n from fun h => g2 h.2)]
      repeat (first|apply cA|apply cB|apply cD|apply cE|apply cH|refine cV rfl rfl rfl rfl (by first|((first|apply qmv|apply qas|apply qpk|apply qle|apply qge)<;>(first|exact rfl|exact dct (by first|assumption|omega)|exact dcf (by first|assumption|omega)|fail))|fail) ?_)
      refine ret1 (Or.inl rfl) Tryz.results78 (by first | exact ResV.tmp rfl | exact ResV.agg rfl rfl (by assumption) (by first | exact dc_length _ | exact nc_length _ | exact rc_length _ _ _ | exact ec_length _ | exact dl_length _ _ _ _ | rfl) | exact ResV.cell rfl rfl (by assumption)) ?_
      exact ⟨rfl, Kp.refl _ _⟩
  · rw [decide_eq_false (show ¬ amtP n from fun h => g1 h.1)]
    repeat (first | first|apply cA|apply cB|apply cD|apply cE|apply cH|refine cV rfl rfl rfl rfl (by first|((first|apply qmv|apply qas|apply qpk|apply qge)<;>(first|exact rfl|exact dcf (by first|assumption|omega)|fail))|fail) ?_ | refine cX rfl rfl ?_)
    refine ret1 (Or.inl rfl) Tryz.results78 (by first | exact ResV.tmp rfl | exact ResV.agg rfl rfl (by assumption) (by first | exact dc_length _ | exact nc_length _ | exact rc_length _ _ _ | exact ec_length _ | exact dl_length _ _ _ _ | rfl) | exact ResV.cell rfl rfl (by assumption)) ?_
    exact ⟨rfl, Kp.refl _ _⟩
set_option maxHeartbeats 8000000 in
theorem rpos_spec (n : Int) (w : World) : Ret Tryz.prog 75 #[.int .i64 n] w (.bool (decide (someP n))) := by
  refine enter1 Tryz.func75 rfl Tryz.ntmps75 rfl ?_
  repeat (first|apply cA|apply cB|apply cD|apply cE|refine cV rfl rfl rfl rfl (by first|((first|apply qmv|apply qas)<;>(exact rfl))|fail) ?_)
  refine SG.ret rfl rfl rfl (vs := [.int .i64 n]) (by repeat' (first | exact True.intro | exact rho_of rfl | refine And.intro ?_ ?_)) (rright_spec n w) (fun w1 hk1 => ?_)
  by_cases g1 : amtP n
  · rw [decide_eq_true g1]
    by_cases g2 : 0 < n
    · rw [decide_eq_true (show someP n from ⟨g2, g1⟩)]
      repeat (first|apply cD|apply cE|apply cH|refine cV rfl rfl rfl rfl (by first|((first|apply qmv|apply qas|apply qpk|apply qgt)<;>(first|exact rfl|exact dct (by first|assumption|omega)|fail))|fail) ?_)
      refine ret1 (Or.inl rfl) Tryz.results75 (by first | exact ResV.tmp rfl | exact ResV.agg rfl rfl (by assumption) (by first | exact dc_length _ | exact nc_length _ | exact rc_length _ _ _ | exact ec_length _ | exact dl_length _ _ _ _ | rfl) | exact ResV.cell rfl rfl (by assumption)) ?_
      exact ⟨rfl, hk1⟩
    · rw [decide_eq_false (show ¬ someP n from fun h => g2 h.1)]
      repeat (first|apply cD|apply cE|apply cH|refine cV rfl rfl rfl rfl (by first|((first|apply qmv|apply qas|apply qpk|apply qgt)<;>(first|exact rfl|exact dcf (by first|assumption|omega)|fail))|fail) ?_)
      refine ret1 (Or.inl rfl) Tryz.results75 (by first | exact ResV.tmp rfl | exact ResV.agg rfl rfl (by assumption) (by first | exact dc_length _ | exact nc_length _ | exact rc_length _ _ _ | exact ec_length _ | exact dl_length _ _ _ _ | rfl) | exact ResV.cell rfl rfl (by assumption)) ?_
      exact ⟨rfl, hk1⟩
  · rw [decide_eq_false g1, decide_eq_false (show ¬ someP n from fun h => g1 h.2)]
    repeat (first | first|apply cD|apply cE|apply cH|refine cV rfl rfl rfl rfl (by first|((first|apply qmv|apply qas|apply qpk)<;>(exact rfl))|fail) ?_ | refine cX rfl rfl ?_)
    refine ret1 (Or.inl rfl) Tryz.results75 (by first | exact ResV.tmp rfl | exact ResV.agg rfl rfl (by assumption) (by first | exact dc_length _ | exact nc_length _ | exact rc_length _ _ _ | exact ec_length _ | exact dl_length _ _ _ _ | rfl) | exact ResV.cell rfl rfl (by assumption)) ?_
    exact ⟨rfl, hk1⟩
set_option maxHeartbeats 8000000 in
theorem rplace_spec {w : World} {a : Option Addr} {c : Nat} (p : Pu) (n : Dg) (hS : Sl hc 11 w a p.held) (hl : p.held.length ≤ 100000) : Ret Tryz.prog 77 #[pv p (.slice a p.held.length c), dv n] w (.int .i64 (placeZ p.held n)) := by
  refine enter2 Tryz.func77 rfl Tryz.ntmps77 rfl ?_
  repeat (first|apply cA|apply cB)
  refine SG.box rfl rfl rfl (by exact rho_of rfl) (fun b2 w1 hk1 hb2 hB2 => ?_)
  refine SG.box rfl rfl rfl (by exact rho_of rfl) (fun b3 w2 hk2 hb3 hB3 => ?_)
  have hB2 : Blk w2 b2 (.cells (pc p (.slice a p.held.length c)).toArray 36) := hB2.kp0 hk2
  have hB3 : Blk w2 b3 (.cells (dc n).toArray 32) := hB3
  have hR3 : Row w2 b3 0 (dc n) := Row.all hB3 rfl
  obtain ⟨-, -, -, -, r4, -⟩ := pc_rows hB2
  repeat (first|apply cA|apply cB|apply cD|apply cE|apply cG|refine cV rfl rfl rfl rfl (by first|(apply qas<;>(exact rfl))|fail) ?_)
  refine CG.loop (X := Nat) (fun i => [(2, .pointer (some ⟨b2, 0, none⟩)), (3, .pointer (some ⟨b3, 0, none⟩)), (5, .int .i64 (i : Int))]) (fun i w' => i ≤ p.held.length ∧ Kp [] w2 w' ∧ i ≤ placeN p.held n) (fun i => p.held.length - i) 0 ⟨Nat.zero_le _, Kp.refl _ _, Nat.zero_le _⟩ (by (repeat' (first | exact True.intro | exact rfl | refine And.intro ?_ ?_))) ?_
  rintro i w3 ⟨hi, hk3, hpl⟩
  have hR3 := hR3.kp0 hk3
  have r4 := r4.kp0 hk3
  by_cases hlt : i < p.held.length
  · have g1 : (i : Int) < (p.held.length : Int) := by omega
    obtain ⟨ba, oa, rfl, hri⟩ := (hS.kp0 ((hk1.trans hk2).trans hk3)).at hlt
    have hr0 : Row w3 ba (oa + i * 11) (dc p.held[i].name) := hri.part [] (dc p.held[i].name) [.int .i64 p.held[i].amt, .int .i64 p.held[i].side, .int .i64 p.held[i].til] (by simp [hc])
    clear hri
    repeat (first|apply cA|apply cB|apply cD|apply cE|refine cV rfl rfl rfl rfl (by first|((first|apply qmv|apply qlc|apply qfa|apply qls|apply qln)<;>(first|exact rfl|assumption|exact dct (by first|assumption|omega)|exact List.not_mem_nil|fail))|fail) ?_)
    refine dA rfl (by exact rho_of rfl) rfl ?_
    by_cases he : p.held[i].name = n
    · have hpi : placeN p.held n = i := by
        refine Nat.le_antisymm ?_ hpl
        refine Nat.not_lt.1 (fun h => ?_)
        have := List.not_of_lt_findIdx (p := fun h : Hd => decide (h.name = n)) (xs := p.held) (i := i) h
        simp [he] at this
      have e : placeZ p.held n = (i : Int) := by
        unfold placeZ
        rw [if_pos (by omega), hpi]
      rw [e]
      repeat (first|apply cA|apply cE|apply cF|apply cG)
      refine CG.draw0 mixed [0, 1, 2, 3, 4, 5, 6, 7] [] (by kernel_rfl) ?_
      repeat (refine cY rfl rfl rfl (by first|((first|apply qmv|apply qlc|apply qla|apply qfa|apply qix|apply qed)<;>(first|exact rfl|assumption|exact Ar.mk (by omega)|exact dct (by first|assumption|omega)|exact List.not_mem_nil|apply dc_length|fail))|fail) ?_)
      refine Der.fin (fun w4 hk4 _ _ => ?_)
      repeat (first|apply cE)
      refine dA rfl (by exact rho_of rfl) rfl ?_
      repeat (first|apply cA|apply cB|apply cD|apply cE|apply cH|apply cK|apply NG.ret_block|refine cV rfl rfl rfl rfl (by first|((first|apply qmv|apply qas)<;>(exact rfl))|fail) ?_)
      refine ret1 (Or.inl rfl) Tryz.results77 (by first | exact ResV.tmp rfl | exact ResV.agg rfl rfl (by assumption) (by first | exact dc_length _ | exact nc_length _ | exact rc_length _ _ _ | exact ec_length _ | exact dl_length _ _ _ _ | rfl) | exact ResV.cell rfl rfl (by assumption)) ?_
      exact ⟨rfl, ((hk1.trans hk2).trans hk3).trans hk4⟩
    · repeat (first|apply cA|apply cE|apply cF|apply cG)
      refine CG.draw0 mixed [0, 1, 2, 3, 4, 5, 6, 7] [] (by kernel_rfl) ?_
      repeat (refine cY rfl rfl rfl (by first|((first|apply qmv|apply qlc|apply qla|apply qfa|apply qix|apply qed)<;>(first|exact rfl|assumption|exact Ar.mk (by omega)|exact dcf (by first|assumption|omega)|exact List.not_mem_nil|apply dc_length|fail))|fail) ?_)
      refine Der.fin (fun w4 hk4 _ _ => ?_)
      repeat (first|apply cE)
      refine dB rfl (by exact rho_of rfl) rfl ?_
      repeat (first|apply cB|apply cD|apply cE|apply cF|apply cU|refine cV rfl rfl rfl rfl (by first|((first|apply qmv|apply qas|apply qad)<;>(first|exact rfl|exact Ar.mk (by omega)|fail))|fail) ?_)
      refine NG.round (i + 1) (by (repeat' (first | exact True.intro | exact rfl | refine And.intro ?_ ?_))) ⟨by omega, hk3.trans hk4, ?_⟩ (by omega)
      refine Nat.lt_of_le_of_ne hpl (fun h => he ?_)
      have hlt2 : placeN p.held n < p.held.length := by omega
      have := List.findIdx_getElem (p := fun h : Hd => decide (h.name = n)) (xs := p.held) (w := hlt2)
      have h3 := of_decide_eq_true this
      have h4 : p.held[placeN p.held n]'hlt2 = p.held[i] := by congr 1; exact h.symm
      rw [← h4]
      exact h3
  · have g1 : ¬ (i : Int) < (p.held.length : Int) := by omega
    have e : placeZ p.held n = -1 := if_neg (by omega)
    rw [e]
    repeat (first|apply cA|apply cB|apply cD|apply cE|refine cV rfl rfl rfl rfl (by first|((first|apply qmv|apply qlc|apply qfa|apply qls|apply qln)<;>(first|exact rfl|assumption|exact dcf (by first|assumption|omega)|exact List.not_mem_nil|fail))|fail) ?_)
    refine dB rfl (by exact rho_of rfl) rfl ?_
    repeat (first|apply cA|apply cB|apply cD|apply cE|apply cH|apply cJ|apply cM|refine cN rfl ?_|refine cV rfl rfl rfl rfl (by first|(apply qas<;>(exact rfl))|fail) ?_)
    refine ret1 (Or.inl rfl) Tryz.results77 (by first | exact ResV.tmp rfl | exact ResV.agg rfl rfl (by assumption) (by first | exact dc_length _ | exact nc_length _ | exact rc_length _ _ _ | exact ec_length _ | exact dl_length _ _ _ _ | rfl) | exact ResV.cell rfl rfl (by assumption)) ?_
    exact ⟨rfl, (hk1.trans hk2).trans hk3⟩
set_option maxHeartbeats 16000000 in
theorem rcheck_spec {w : World} {a : Option Addr} {c : Nat} (p : Pu) (hS : Sl hc 11 w a p.held) (hl : p.held.length ≤ 1000) (hcap : p.held.length ≤ c) : Ret Tryz.prog 62 #[pv p (.slice a p.held.length c)] w (.int .i64 (checkZ p)) := by
  refine enter1 Tryz.func62 rfl Tryz.ntmps62 rfl ?_
  repeat (first|apply cA|apply cB)
  refine SG.box rfl rfl rfl (by exact rho_of rfl) (fun b1 w1 hk1 hb1 hB1 => ?_)
  have hB1 : Blk w1 b1 (.cells (pc p (.slice a p.held.length c)).toArray 36) := hB1
  obtain ⟨-, r1, r2, r3, r4, r5⟩ := pc_rows hB1
  clear r5
  repeat (first|apply cA|apply cB|apply cD|apply cE|refine cV rfl rfl rfl rfl (by first|((first|apply qas|apply qlc|apply qfa)<;>(first|exact rfl|assumption|exact List.not_mem_nil))|fail) ?_)
  refine SG.ret rfl rfl rfl (vs := [.int .i64 p.num]) (by repeat' (first | exact True.intro | exact rho_of rfl | refine And.intro ?_ ?_)) (rfar_spec p.num w1) (fun w2 hk2 => ?_)
  by_cases g1 : farP p.num
  rotate_left
  · have e : checkZ p = 2 := checkZ_range (fun h => g1 h.1)
    rw [decide_eq_false g1, e]
    repeat (first | first|apply cD|apply cE|refine cV rfl rfl rfl rfl (by first|((first|apply qmv|apply qpk|apply qnt)<;>(exact rfl))|fail) ?_ | refine cX rfl rfl ?_)
    refine dA rfl (by exact rho_of rfl) rfl ?_
    repeat (first|apply cA|apply cB|apply cD|apply cE|apply cH|apply cK|refine cV rfl rfl rfl rfl (by first|(apply qas<;>(exact rfl))|fail) ?_)
    refine ret1 (Or.inl rfl) Tryz.results62 (by first | exact ResV.tmp rfl | exact ResV.agg rfl rfl (by assumption) (by first | exact dc_length _ | exact nc_length _ | exact rc_length _ _ _ | exact ec_length _ | exact dl_length _ _ _ _ | rfl) | exact ResV.cell rfl rfl (by assumption)) ?_
    exact ⟨rfl, hk1.trans hk2⟩
  rw [decide_eq_true g1]
  have r2' := r2.kp0 hk2
  repeat (first|refine cV rfl rfl rfl rfl (by first|((first|apply qia0|apply qmv|apply qlc|apply qfa|apply qnt)<;>(first|exact rfl|assumption|exact Ar.mk (by omega)|exact List.not_mem_nil|fail))|fail) ?_)
  refine SG.ret rfl rfl rfl (vs := [.int .i64 p.h0]) (by repeat' (first | exact True.intro | exact rho_of rfl | refine And.intro ?_ ?_)) (rright_spec p.h0 w2) (fun w3 hk3 => ?_)
  by_cases g2 : amtP p.h0
  rotate_left
  · have e : checkZ p = 2 := checkZ_range (fun h => g2 h.2.1)
    rw [decide_eq_false g2, e]
    repeat (first | first|apply cD|apply cE|refine cV rfl rfl rfl rfl (by first|((first|apply qmv|apply qpk|apply qnt)<;>(exact rfl))|fail) ?_ | refine cX rfl rfl ?_)
    refine dA rfl (by exact rho_of rfl) rfl ?_
    repeat (first|apply cA|apply cB|apply cD|apply cE|apply cH|apply cK|refine cV rfl rfl rfl rfl (by first|(apply qas<;>(exact rfl))|fail) ?_)
    refine ret1 (Or.inl rfl) Tryz.results62 (by first | exact ResV.tmp rfl | exact ResV.agg rfl rfl (by assumption) (by first | exact dc_length _ | exact nc_length _ | exact rc_length _ _ _ | exact ec_length _ | exact dl_length _ _ _ _ | rfl) | exact ResV.cell rfl rfl (by assumption)) ?_
    exact ⟨rfl, (hk1.trans hk2).trans hk3⟩
  rw [decide_eq_true g2]
  have r3' := (r3.kp0 hk2).kp0 hk3
  repeat (first|refine cV rfl rfl rfl rfl (by first|((first|apply qia0|apply qmv|apply qlc|apply qfa|apply qpk|apply qnt)<;>(first|exact rfl|assumption|exact Ar.mk (by omega)|exact List.not_mem_nil|fail))|fail) ?_)
  refine SG.ret rfl rfl rfl (vs := [.int .i64 p.h1]) (by repeat' (first | exact True.intro | exact rho_of rfl | refine And.intro ?_ ?_)) (rright_spec p.h1 w3) (fun w4 hk4 => ?_)
  have k4 := ((hk1.trans hk2).trans hk3).trans hk4
  have k14 := (hk2.trans hk3).trans hk4
  by_cases g3 : amtP p.h1
  rotate_left
  · have e : checkZ p = 2 := checkZ_range (fun h => g3 h.2.2)
    rw [decide_eq_false g3, e]
    repeat (first|apply cD|apply cE|refine cV rfl rfl rfl rfl (by first|((first|apply qpk|apply qnt)<;>(exact rfl))|fail) ?_)
    refine dA rfl (by exact rho_of rfl) rfl ?_
    repeat (first|apply cA|apply cB|apply cD|apply cE|apply cH|apply cK|refine cV rfl rfl rfl rfl (by first|(apply qas<;>(exact rfl))|fail) ?_)
    refine ret1 (Or.inl rfl) Tryz.results62 (by first | exact ResV.tmp rfl | exact ResV.agg rfl rfl (by assumption) (by first | exact dc_length _ | exact nc_length _ | exact rc_length _ _ _ | exact ec_length _ | exact dl_length _ _ _ _ | rfl) | exact ResV.cell rfl rfl (by assumption)) ?_
    exact ⟨rfl, k4⟩
  rw [decide_eq_true g3]
  have r4 := r4.kp0 k14
  have r2 := r2.kp0 k14
  have r3 := r3.kp0 k14
  clear r2' r3' r1
  repeat (first|apply cD|apply cE|refine cV rfl rfl rfl rfl (by first|((first|apply qpk|apply qnt)<;>(exact rfl))|fail) ?_)
  refine dB rfl (by exact rho_of rfl) rfl ?_
  by_cases g4 : 16 < p.held.length
  · have e : checkZ p = 8 := checkZ_full ⟨g1, g2, g3⟩ g4
    rw [e]
    have g5 : (16 : Int) < (p.held.length : Int) := by omega
    repeat (first|apply cA|apply cB|apply cD|apply cE|apply cF|refine cV rfl rfl rfl rfl (by first|((first|apply qlc|apply qfa|apply qln|apply qgt)<;>(first|exact rfl|assumption|exact dct (by first|assumption|omega)|exact List.not_mem_nil|fail))|fail) ?_)
    refine dA rfl (by exact rho_of rfl) rfl ?_
    repeat (first|apply cA|apply cB|apply cD|apply cE|apply cH|apply cK|refine cV rfl rfl rfl rfl (by first|(apply qas<;>(exact rfl))|fail) ?_)
    refine ret1 (Or.inl rfl) Tryz.results62 (by first | exact ResV.tmp rfl | exact ResV.agg rfl rfl (by assumption) (by first | exact dc_length _ | exact nc_length _ | exact rc_length _ _ _ | exact ec_length _ | exact dl_length _ _ _ _ | rfl) | exact ResV.cell rfl rfl (by assumption)) ?_
    exact ⟨rfl, k4⟩
  have g5 : ¬ (16 : Int) < (p.held.length : Int) := by omega
  obtain ⟨g20, g21⟩ := g2
  obtain ⟨g30, g31⟩ := g3
  repeat (first|apply cA|apply cB|apply cD|apply cE|apply cF|refine cV rfl rfl rfl rfl (by first|((first|apply qlc|apply qfa|apply qln|apply qgt)<;>(first|exact rfl|assumption|exact dcf (by first|assumption|omega)|exact List.not_mem_nil|fail))|fail) ?_)
  refine dB rfl (by exact rho_of rfl) rfl ?_
  repeat (first|apply cA|apply cB|apply cD|apply cE|apply cF|apply cG|refine cV rfl rfl rfl rfl (by first|((first|apply qia0|apply qas|apply qlc|apply qfa|apply qad)<;>(first|exact rfl|assumption|exact Ar.mk (by omega)|exact List.not_mem_nil|fail))|fail) ?_)
  refine CG.loop (X := Nat) (fun i => [(1, .pointer (some ⟨b1, 0, none⟩)), (3, .int .i64 (p.h0 + p.h1 + sumH (p.held.take i))), (4, .int .i64 (i : Int))]) (fun i w' => i ≤ p.held.length ∧ Kp [] w4 w' ∧ chkL [] p.held = chkL (p.held.take i) (p.held.drop i) ∧ ∀ h ∈ p.held.take i, h.Ok) (fun i => p.held.length - i) 0 ⟨Nat.zero_le _, Kp.refl _ _, rfl, fun h hm => by cases hm⟩ ?_ ?_
  · refine ⟨rfl, ?_, rfl, True.intro⟩
    show _ = some (Value.int .i64 (p.h0 + p.h1 + 0))
    rw [Int.add_zero]
    rfl
  rintro i w5 ⟨hi, hk5, hch, hok⟩
  have r4 := r4.kp0 hk5
  have hb1 := sumH_le (l := p.held.take i) (fun h hm => by have h1 := hok h hm; have := h1.a0; have := h1.a1; omega)
  have hb3 : (p.held.take i).length ≤ 16 := by rw [List.length_take]; omega
  by_cases hlt : i < p.held.length
  rotate_left
  · have g6 : ¬ (i : Int) < (p.held.length : Int) := by omega
    have e3 : sumH (p.held.take i) = sumH p.held := by rw [List.take_of_length_le (by omega)]
    rw [List.take_of_length_le (by omega)] at hb1 hb3 hok
    rw [List.take_of_length_le (show p.held.length ≤ i by omega), List.drop_of_length_le (show p.held.length ≤ i by omega), chkL_nil] at hch
    have hsum := checkZ_sum ⟨g1, ⟨g20, g21⟩, ⟨g30, g31⟩⟩ g4 hch
    have es : p.h0 + p.h1 + sumH p.held = sumP p := rfl
    refine CG.to [(1, .pointer (some ⟨b1, 0, none⟩)), (3, .int .i64 (sumP p)), (4, .int .i64 (i : Int))] ⟨rfl, by show some (Value.int .i64 (p.h0 + p.h1 + sumH (p.held.take i))) = _; rw [e3, es], rfl, True.intro⟩ ?_
    repeat (first|apply cA|apply cB|apply cD|apply cE|refine cV rfl rfl rfl rfl (by first|((first|apply qmv|apply qlc|apply qfa|apply qls|apply qln)<;>(first|exact rfl|assumption|exact dcf (by first|assumption|omega)|exact List.not_mem_nil|fail))|fail) ?_)
    refine dB rfl (by exact rho_of rfl) rfl ?_
    repeat (first|apply cA|apply cB|apply cE|apply cJ|apply cM|refine cN rfl ?_|refine cV rfl rfl rfl rfl (by first|(apply qmv<;>(exact rfl))|fail) ?_)
    refine SG.ret rfl rfl rfl (vs := [.int .i64 (sumP p)]) (by repeat' (first | exact True.intro | exact rho_of rfl | refine And.intro ?_ ?_)) (rright_spec (sumP p) w5) (fun w6 hk6 => ?_)
    by_cases g7 : amtP (sumP p)
    · rw [if_pos g7] at hsum
      rw [hsum, decide_eq_true g7]
      repeat (first|apply cD|apply cE|refine cV rfl rfl rfl rfl (by first|(apply qnt<;>(exact rfl))|fail) ?_)
      refine dB rfl (by exact rho_of rfl) rfl ?_
      repeat (first|apply cA|apply cB|apply cD|apply cE|apply cF|apply cH|refine cV rfl rfl rfl rfl (by first|(apply qas<;>(exact rfl))|fail) ?_)
      refine ret1 (Or.inl rfl) Tryz.results62 (by first | exact ResV.tmp rfl | exact ResV.agg rfl rfl (by assumption) (by first | exact dc_length _ | exact nc_length _ | exact rc_length _ _ _ | exact ec_length _ | exact dl_length _ _ _ _ | rfl) | exact ResV.cell rfl rfl (by assumption)) ?_
      exact ⟨rfl, (k4.trans hk5).trans hk6⟩
    · rw [if_neg g7] at hsum
      rw [hsum, decide_eq_false g7]
      repeat (first|apply cD|apply cE|refine cV rfl rfl rfl rfl (by first|(apply qnt<;>(exact rfl))|fail) ?_)
      refine dA rfl (by exact rho_of rfl) rfl ?_
      repeat (first|apply cA|apply cB|apply cD|apply cE|apply cH|apply cK|refine cV rfl rfl rfl rfl (by first|(apply qas<;>(exact rfl))|fail) ?_)
      refine ret1 (Or.inl rfl) Tryz.results62 (by first | exact ResV.tmp rfl | exact ResV.agg rfl rfl (by assumption) (by first | exact dc_length _ | exact nc_length _ | exact rc_length _ _ _ | exact ec_length _ | exact dl_length _ _ _ _ | rfl) | exact ResV.cell rfl rfl (by assumption)) ?_
      exact ⟨rfl, (k4.trans hk5).trans hk6⟩
  have g6 : (i : Int) < (p.held.length : Int) := by omega
  have hsn := sumH_snoc hlt
  have hdr : p.held.drop i = p.held[i] :: p.held.drop (i + 1) := List.drop_eq_getElem_cons hlt
  have htk : p.held.take (i + 1) = p.held.take i ++ [p.held[i]] := List.take_succ_eq_append_getElem hlt
  rw [hdr] at hch
  have bad : ¬ p.held[i].Ok → checkZ p = 2 := fun h => checkZ_held ⟨g1, ⟨g20, g21⟩, ⟨g30, g31⟩⟩ g4 (hch.trans (chkL_bad h)) (by decide)
  have k5 := k4.trans hk5
  have hS5 := hS.kp0 k5
  have hpl := rplace_spec (w := w5) (a := a) (c := c) (heldP (p.held.take i)) p.held[i].name (hS5.take i) (by show (p.held.take i).length ≤ 100000; omega)
  obtain ⟨ba, oa, rfl, hri⟩ := hS5.at hlt
  have hlen : (p.held.take i).length = i := by rw [List.length_take]; omega
  have hcap2 : i ≤ c := by omega
  generalize hh : p.held[i] = h at hri hsn hdr htk hch bad hpl
  repeat (first|apply cA|apply cB|apply cD|apply cE|refine cV rfl rfl rfl rfl (by first|((first|apply qmv|apply qlc|apply qfa|apply qls|apply qln)<;>(first|exact rfl|assumption|exact dct (by first|assumption|omega)|exact List.not_mem_nil|fail))|fail) ?_)
  refine dA rfl (by exact rho_of rfl) rfl ?_
  repeat (first|apply cA|apply cB|apply cE|apply cF|apply cG|refine cV rfl rfl rfl rfl (by first|((first|apply qmv|apply qlc|apply qla|apply qfa|apply qix)<;>(first|exact rfl|assumption|exact Ar.mk (by omega)|exact List.not_mem_nil|apply hc_length|fail))|fail) ?_)
  refine SG.alloc rfl rfl rfl (fun b5 w6 hk6 hb5 hB5 => ?_)
  refine SG.setAll (l := hc h) rfl rfl (by exact rho_of rfl) (by exact rho_of rfl) hB5 (hc_length _) rfl (hc_one _) (fun w7 hk7 hB5 => ?_)
  have hB5 : Blk w7 b5 (.cells (hc h).toArray 84) := hB5
  have k57 : Kp [] w5 w7 := hk6.trans_new hk7 (new1 (by omega))
  have k7 := k5.trans k57
  obtain ⟨p0, p1, p2, p3, -⟩ := hc_rows hB5
  have r4 := r4.kp0 k57
  clear hri
  repeat (first|apply cA|apply cB|apply cD|apply cE|refine cV rfl rfl rfl rfl (by first|((first|apply qlc|apply qfa)<;>(first|exact rfl|assumption|exact List.not_mem_nil))|fail) ?_)
  refine SG.ret rfl rfl rfl (vs := [.int .i64 h.amt]) (by repeat' (first | exact True.intro | exact rho_of rfl | refine And.intro ?_ ?_)) (rpos_spec h.amt w7) (fun w8 hk8 => ?_)
  have k8 := k7.trans hk8
  have p2 := p2.kp0 hk8
  have p3 := p3.kp0 hk8
  have p0 := p0.kp0 hk8
  have p1 := p1.kp0 hk8
  have r4 := r4.kp0 hk8
  by_cases c1 : someP h.amt
  rotate_left
  · rw [decide_eq_false c1, bad (fun k => c1 ⟨k.a0, by have := k.a0; omega, k.a1⟩)]
    repeat (first | first|apply cD|apply cE|refine cV rfl rfl rfl rfl (by first|((first|apply qmv|apply qpk|apply qnt)<;>(exact rfl))|fail) ?_ | refine cX rfl rfl ?_)
    refine dA rfl (by exact rho_of rfl) rfl ?_
    repeat (first|apply cA|apply cB|apply cD|apply cE|apply cH|apply cK|apply NG.ret_block|refine cV rfl rfl rfl rfl (by first|(apply qas<;>(exact rfl))|fail) ?_)
    refine ret1 (Or.inl rfl) Tryz.results62 (by first | exact ResV.tmp rfl | exact ResV.agg rfl rfl (by assumption) (by first | exact dc_length _ | exact nc_length _ | exact rc_length _ _ _ | exact ec_length _ | exact dl_length _ _ _ _ | rfl) | exact ResV.cell rfl rfl (by assumption)) ?_
    exact ⟨rfl, k8⟩
  rw [decide_eq_true c1]
  by_cases c2 : h.side < 0
  · rw [bad (fun k => by have := k.s0; omega)]
    repeat (first | first|apply cD|apply cE|refine cV rfl rfl rfl rfl (by first|((first|apply qmv|apply qlc|apply qfa|apply qpk|apply qls|apply qnt)<;>(first|exact rfl|assumption|exact dct (by first|assumption|omega)|exact List.not_mem_nil|fail))|fail) ?_ | refine cX rfl rfl ?_)
    refine dA rfl (by exact rho_of rfl) rfl ?_
    repeat (first|apply cA|apply cB|apply cD|apply cE|apply cH|apply cK|apply NG.ret_block|refine cV rfl rfl rfl rfl (by first|(apply qas<;>(exact rfl))|fail) ?_)
    refine ret1 (Or.inl rfl) Tryz.results62 (by first | exact ResV.tmp rfl | exact ResV.agg rfl rfl (by assumption) (by first | exact dc_length _ | exact nc_length _ | exact rc_length _ _ _ | exact ec_length _ | exact dl_length _ _ _ _ | rfl) | exact ResV.cell rfl rfl (by assumption)) ?_
    exact ⟨rfl, k8⟩
  by_cases c3 : 1 < h.side
  · rw [bad (fun k => by have := k.s1; omega)]
    repeat (first | first|apply cD|apply cE|refine cV rfl rfl rfl rfl (by first|((first|apply qmv|apply qlc|apply qfa|apply qpk|apply qls|apply qgt|apply qnt)<;>(first|exact rfl|assumption|exact dct (by first|assumption|omega)|exact dcf (by first|assumption|omega)|exact List.not_mem_nil|fail))|fail) ?_ | refine cX rfl rfl ?_)
    refine dA rfl (by exact rho_of rfl) rfl ?_
    repeat (first|apply cA|apply cB|apply cD|apply cE|apply cH|apply cK|apply NG.ret_block|refine cV rfl rfl rfl rfl (by first|(apply qas<;>(exact rfl))|fail) ?_)
    refine ret1 (Or.inl rfl) Tryz.results62 (by first | exact ResV.tmp rfl | exact ResV.agg rfl rfl (by assumption) (by first | exact dc_length _ | exact nc_length _ | exact rc_length _ _ _ | exact ec_length _ | exact dl_length _ _ _ _ | rfl) | exact ResV.cell rfl rfl (by assumption)) ?_
    exact ⟨rfl, k8⟩
  repeat (first|refine cV rfl rfl rfl rfl (by first|((first|apply qmv|apply qlc|apply qfa|apply qpk|apply qls|apply qgt|apply qnt)<;>(first|exact rfl|assumption|exact dcf (by first|assumption|omega)|exact List.not_mem_nil|fail))|fail) ?_)
  refine SG.ret rfl rfl rfl (vs := [.int .i64 h.til]) (by repeat' (first | exact True.intro | exact rho_of rfl | refine And.intro ?_ ?_)) (rfar_spec h.til w8) (fun w9 hk9 => ?_)
  have k9 := k8.trans hk9
  have p0 := p0.kp0 hk9
  have p1 := p1.kp0 hk9
  have r4 := r4.kp0 hk9
  by_cases c4 : farP h.til
  rotate_left
  · rw [decide_eq_false c4, bad (fun k => c4 ⟨k.t0, k.t1⟩)]
    repeat (first|apply cD|apply cE|refine cV rfl rfl rfl rfl (by first|((first|apply qpk|apply qnt)<;>(exact rfl))|fail) ?_)
    refine dA rfl (by exact rho_of rfl) rfl ?_
    repeat (first|apply cA|apply cB|apply cD|apply cE|apply cH|apply cK|apply NG.ret_block|refine cV rfl rfl rfl rfl (by first|(apply qas<;>(exact rfl))|fail) ?_)
    refine ret1 (Or.inl rfl) Tryz.results62 (by first | exact ResV.tmp rfl | exact ResV.agg rfl rfl (by assumption) (by first | exact dc_length _ | exact nc_length _ | exact rc_length _ _ _ | exact ec_length _ | exact dl_length _ _ _ _ | rfl) | exact ResV.cell rfl rfl (by assumption)) ?_
    exact ⟨rfl, k9⟩
  rw [decide_eq_true c4]
  have hhok : h.Ok := ⟨c1.1, c1.2.2, by omega, by omega, c4.1, c4.2⟩
  have k59 := (k57.trans hk8).trans hk9
  repeat (first|apply cD|apply cE|refine cV rfl rfl rfl rfl (by first|((first|apply qpk|apply qnt)<;>(exact rfl))|fail) ?_)
  refine dB rfl (by exact rho_of rfl) rfl ?_
  repeat (first|apply cA|apply cE|apply cF)
  refine CG.draw0 mixed [0, 1, 2, 3, 4, 5, 6, 7, 8] [] (by kernel_rfl) ?_
  repeat (refine cY rfl rfl rfl (by first|((first|apply qmv|apply qlc|apply qfa|apply qto)<;>(first|exact rfl|assumption|exact Ar.mk (by omega)|exact List.not_mem_nil|fail))|fail) ?_)
  refine cY rfl rfl rfl (vals_build rfl (rbz3 (some ⟨ba, oa, none⟩) i c)) ?_
  repeat (refine cY rfl rfl rfl (by first|((first|apply qla|apply qfa)<;>(first|exact rfl|assumption|exact List.not_mem_nil|apply dc_length))|fail) ?_)
  rw [show (heldP (p.held.take i)).held.length = i from hlen] at hpl
  refine Der.call rfl rfl rfl (vs := [pv (heldP (p.held.take i)) (.slice (some ⟨ba, oa, none⟩) i c), dv h.name]) (v := .int .i64 (placeZ (p.held.take i) h.name)) (by repeat' (first | exact True.intro | exact rho_of rfl | refine And.intro ?_ ?_)) (fun W hk _ => ?_) ?_
  · have h2 := rplace_spec (w := W) (a := some ⟨ba, oa, none⟩) (c := c) (heldP (p.held.take i)) h.name ((hS5.take i).kp0 (k59.trans hk)) (by show (p.held.take i).length ≤ 100000; omega)
    rw [show (heldP (p.held.take i)).held.length = i from hlen] at h2
    exact h2
  repeat (refine cY rfl rfl rfl (by first|(apply qas<;>(exact rfl))|fail) ?_)
  refine Der.fin (fun w10 hk10 _ _ => ?_)
  have p1 := p1.kp0 hk10
  by_cases c5 : placeN (p.held.take i) h.name < (p.held.take i).length
  · have ez : placeZ (p.held.take i) h.name = (placeN (p.held.take i) h.name : Int) := if_pos c5
    have e7 : checkZ p = 7 := checkZ_held ⟨g1, ⟨g20, g21⟩, ⟨g30, g31⟩⟩ g4 (hch.trans (chkL_two hhok (placeN_any.1 c5))) (by decide)
    have g7 : (0 : Int) ≤ (placeN (p.held.take i) h.name : Int) := by omega
    rw [ez, e7]
    repeat (first|apply cA|apply cB|apply cD|apply cE|refine cV rfl rfl rfl rfl (by first|((first|apply qmv|apply qge)<;>(first|exact rfl|exact dct (by first|assumption|omega)|fail))|fail) ?_)
    refine dA rfl (by exact rho_of rfl) rfl ?_
    repeat (first|apply cA|apply cB|apply cD|apply cE|apply cH|apply cK|apply NG.ret_block|refine cV rfl rfl rfl rfl (by first|(apply qas<;>(exact rfl))|fail) ?_)
    refine ret1 (Or.inl rfl) Tryz.results62 (by first | exact ResV.tmp rfl | exact ResV.agg rfl rfl (by assumption) (by first | exact dc_length _ | exact nc_length _ | exact rc_length _ _ _ | exact ec_length _ | exact dl_length _ _ _ _ | rfl) | exact ResV.cell rfl rfl (by assumption)) ?_
    exact ⟨rfl, k9.trans hk10⟩
  · have ez : placeZ (p.held.take i) h.name = -1 := if_neg c5
    have g7 : ¬ (0 : Int) ≤ -1 := by omega
    have hany : (p.held.take i).any (fun o => decide (o.name = h.name)) = false := by
      rw [← Bool.not_eq_true]
      exact fun h => c5 (placeN_any.2 h)
    have h0 := hhok.a0
    have h1 := hhok.a1
    rw [ez]
    repeat (first|apply cA|apply cB|apply cD|apply cE|refine cV rfl rfl rfl rfl (by first|((first|apply qmv|apply qge)<;>(first|exact rfl|exact dcf (by first|assumption|omega)|fail))|fail) ?_)
    refine dB rfl (by exact rho_of rfl) rfl ?_
    repeat (first|apply cB|apply cD|apply cE|apply cF|apply cU|refine cV rfl rfl rfl rfl (by first|((first|apply qmv|apply qas|apply qlc|apply qfa|apply qad)<;>(first|exact rfl|assumption|exact Ar.mk (by omega)|exact List.not_mem_nil|fail))|fail) ?_)
    refine NG.round (i + 1) ?_ ⟨by omega, (hk5.trans k59).trans hk10, by rw [hch, chkL_on hhok hany, htk], fun x hx => ?_⟩ (by omega)
    · rw [hsn, ← Int.add_assoc]
      (repeat' (first | exact True.intro | exact rfl | refine And.intro ?_ ?_))
    · rw [htk] at hx
      rcases List.mem_append.1 hx with hx | hx
      · exact hok x hx
      · rw [List.mem_singleton] at hx
        rw [hx]
        exact hhok
end Go.Proofs.YtajllbdeoopimaaGreat
namespace Go.Proofs.YtajllbdeoopimaaGreat
set_option linter.unusedVariables false
theorem rbz0 (w : World) : (Instr.build 36 #[]).run Tryz.prog w = .ok (pv zPu (.slice none 0 0)) w := by kernel_rfl
theorem rbn' (w : World) (a0 a1 a2 a3 a4 a5 a6 a7 : UInt8) (n x y : Int) (a : Option Addr) (l c : Nat) : (Instr.build 36 #[(0, .agg #[bv a0, bv a1, bv a2, bv a3, bv a4, bv a5, bv a6, bv a7]), (1, .int .i64 n), (2, .agg #[.int .i64 x, .int .i64 y]), (3, .slice a l c)]).run Tryz.prog w = .ok (.agg #[bv a0, bv a1, bv a2, bv a3, bv a4, bv a5, bv a6, bv a7, .int .i64 n, .int .i64 x, .int .i64 y, .slice a l c]) w := by kernel_rfl
theorem rbn (p : Pu) (a : Option Addr) (l c : Nat) (w : World) : (Instr.build 36 #[(0, dv p.name), (1, .int .i64 p.num), (2, zv2 (p.h0, p.h1)), (3, .slice a l c)]).run Tryz.prog w = .ok (pv p (.slice a l c)) w := by
  obtain ⟨⟨n, hn⟩, z, x, y, h⟩ := p
  match n, hn with
  | [a0, a1, a2, a3, a4, a5, a6, a7], _ => exact rbn' w a0 a1 a2 a3 a4 a5 a6 a7 z x y a l c
theorem pc_hold (p : Pu) (s z : Int) (l : List Hd) (v : Value) : pc (addP (nextP p) s z) v = pc (nextP { addP p s z with held := l }) v := by
  unfold addP
  split <;> rfl
theorem pc_part (p : Pu) (s t x z : Int) (l : List Hd) (v : Value) : pc (addP (addP (nextP p) s x) t z) v = pc (nextP { addP (addP p s x) t z with held := l }) v := by
  unfold addP
  split <;> split <;> rfl
theorem haveP_next (p : Pu) (s : Int) : haveP (nextP p) s = haveP p s := rfl
theorem Sl.fromJ {α : Type} {enc : α → List Value} {sz c : Nat} {w : World} {b off j : Nat} {l : List α} (h : Sl enc sz w (some ⟨b, off, none⟩) l) (hc : l.length ≤ c) : Sl enc sz w (some ⟨b, if c = j then off else off + j * sz, none⟩) (l.drop j) := fun i x hx => by
  rw [List.getElem?_drop] at hx
  have hlt := (List.getElem?_eq_some_iff.1 hx).1
  obtain ⟨b', off', e, hr⟩ := h (j + i) x hx
  cases e
  refine ⟨_, _, rfl, ?_⟩
  rw [if_neg (by omega), Nat.add_assoc, ← Nat.add_mul]
  exact hr
/-- An answer: a purse of its own, or none. -/
def RPu (w : World) (m : Nat) (v : Value) (z : Int) (q : Pu) : Prop := (z = 0 → ∃ s, v = pv q s ∧ w.ownsRow m 84 11 s q.held.length (flt hc q.held)) ∧ (z ≠ 0 → v = pv zPu (.slice none 0 0))
attribute [local irreducible] CG NG SG Vals Der Row Blk MapIs IterAt chkL DerX
set_option maxHeartbeats 16000000 in
theorem rnext_spec {w : World} {a : Option Addr} {c : Nat} (p : Pu) (hS : Sl hc 11 w a p.held) (hl : p.held.length ≤ 1000) (hcap : p.held.length ≤ c) : Calls Tryz.prog 74 #[pv p (.slice a p.held.length c)] w (fun e w' => ∃ v, e = .returned (.tuple #[v, .int .i64 (preZ p)]) ∧ Kp [] w w' ∧ RPu w' w.heap.size v (preZ p) (nextP p)) := by
  refine enter1 Tryz.func74 rfl Tryz.ntmps74 rfl ?_
  repeat (first|apply cA|apply cB)
  refine SG.box rfl rfl rfl (by exact rho_of rfl) (fun b1 w1 hk1 hb1 hB1 => ?_)
  have hB1 : Blk w1 b1 (.cells (pc p (.slice a p.held.length c)).toArray 36) := hB1
  refine SG.alloc rfl rfl rfl (fun b2 w2 hk2 hb2 hB2 => ?_)
  have hB1 := hB1.kp0 hk2
  have k2 := hk1.trans hk2
  have s1 := hk1.size
  have hR1 : Row w2 b1 0 (pc p (.slice a p.held.length c)) := Row.all hB1 rfl
  repeat (first|apply cA|apply cB|apply cD|apply cE|refine cV rfl rfl rfl rfl (by first|((first|apply qas|apply qla)<;>(first|exact rfl|assumption|exact List.not_mem_nil|apply pc_length))|fail) ?_)
  refine SG.ret rfl rfl rfl (vs := [pv p (.slice a p.held.length c)]) (by repeat' (first | exact True.intro | exact rho_of rfl | refine And.intro ?_ ?_)) (rcheck_spec p (hS.kp0 k2) hl hcap) (fun w3 hk3 => ?_)
  have k3 := k2.trans hk3
  have hB2 := hB2.kp0 hk3
  obtain ⟨r0, r1, -, -, r4, -⟩ := pc_rows (hB1.kp0 hk3)
  have r2 := pc_have (hB1.kp0 hk3)
  clear hR1
  by_cases hc0 : checkZ p = 0
  rotate_left
  · have e : preZ p = 3 := if_pos hc0
    generalize checkZ p = z at hc0
    repeat (first|apply cD|apply cE|refine cV rfl rfl rfl rfl (by first|((first|apply qni|apply qni)<;>(first|exact rfl|exact dcf (by first|assumption|omega)|fail))|fail) ?_)
    refine dA rfl (by exact rho_of rfl) rfl ?_
    repeat (first|apply cA|apply cB)
    refine cV rfl rfl rfl rfl (vals_build rfl rbz0) ?_
    skip
    refine SG.setAll (l := pc zPu (.slice none 0 0)) rfl rfl (by exact rho_of rfl) (by exact rho_of rfl) hB2 (pc_length _ _) rfl (pc_one _ _ _ _) (fun wz hkz hBz => ?_)
    have hr : Row wz b2 0 (pc zPu (.slice none 0 0)) := Row.all hBz rfl
    repeat (first|apply cD|apply cE|apply cH|apply cK|refine cV rfl rfl rfl rfl (by first|(apply qas<;>(exact rfl))|fail) ?_)
    refine ret2 (Or.inl rfl) Tryz.results74 (ResV.agg rfl rfl hr (pc_length _ _)) (by first | exact ResV.tmp rfl | exact ResV.agg rfl rfl (by assumption) (by first | exact dc_length _ | exact nc_length _ | exact rc_length _ _ _ | exact ec_length _ | exact dl_length _ _ _ _ | rfl) | exact ResV.cell rfl rfl (by assumption)) ?_
    exact ⟨_, by rw [e], (k3).trans_new hkz (new1 (by omega)), by rw [e]; exact ⟨fun h => absurd h (by decide), fun _ => rfl⟩⟩
  rw [hc0]
  have hok := pu_ok hc0
  have hl16 := hok.l
  obtain ⟨n0, n1⟩ := hok.n
  repeat (first|apply cD|apply cE|refine cV rfl rfl rfl rfl (by first|((first|apply qni|apply qni)<;>(first|exact rfl|exact dct (by first|assumption|omega)|fail))|fail) ?_)
  refine dB rfl (by exact rho_of rfl) rfl ?_
  by_cases hn : p.num = 1099511627776
  · have e : preZ p = 17 := by unfold preZ; rw [if_neg (fun h => h hc0), if_pos hn]
    repeat (first|apply cA|apply cB|apply cD|apply cE|apply cF|refine cV rfl rfl rfl rfl (by first|((first|apply qei|apply qlc|apply qfa|apply qei)<;>(first|exact rfl|assumption|exact dct (by first|assumption|omega)|exact List.not_mem_nil|fail))|fail) ?_)
    refine dA rfl (by exact rho_of rfl) rfl ?_
    repeat (first|apply cA|apply cB)
    refine cV rfl rfl rfl rfl (vals_build rfl rbz0) ?_
    skip
    refine SG.setAll (l := pc zPu (.slice none 0 0)) rfl rfl (by exact rho_of rfl) (by exact rho_of rfl) hB2 (pc_length _ _) rfl (pc_one _ _ _ _) (fun wz hkz hBz => ?_)
    have hr : Row wz b2 0 (pc zPu (.slice none 0 0)) := Row.all hBz rfl
    repeat (first|apply cD|apply cE|apply cH|apply cK|refine cV rfl rfl rfl rfl (by first|(apply qas<;>(exact rfl))|fail) ?_)
    refine ret2 (Or.inl rfl) Tryz.results74 (ResV.agg rfl rfl hr (pc_length _ _)) (by first | exact ResV.tmp rfl | exact ResV.agg rfl rfl (by assumption) (by first | exact dc_length _ | exact nc_length _ | exact rc_length _ _ _ | exact ec_length _ | exact dl_length _ _ _ _ | rfl) | exact ResV.cell rfl rfl (by assumption)) ?_
    exact ⟨_, by rw [e], (k3).trans_new hkz (new1 (by omega)), by rw [e]; exact ⟨fun h => absurd h (by decide), fun _ => rfl⟩⟩
  have e : preZ p = 0 := by unfold preZ; rw [if_neg (fun h => h hc0), if_neg hn]
  repeat (first|apply cA|apply cB|apply cD|apply cE|apply cF|refine cV rfl rfl rfl rfl (by first|((first|apply qei|apply qlc|apply qfa|apply qei)<;>(first|exact rfl|assumption|exact dcf (by first|assumption|omega)|exact List.not_mem_nil|fail))|fail) ?_)
  refine dB rfl (by exact rho_of rfl) rfl ?_
  repeat (first|apply cA|apply cE|apply cF)
  refine CG.free mixed 11 [0, 1, 2, 3, 4, 5, 6, 8, 9, 7, 10] [(7, gE w3.heap.size 84), (10, gO w3.heap.size 84 hc 11 p.held)] (by kernel_rfl) (by intro q hq y; simp at hq; rcases hq with rfl | rfl; exact gE_stab y; exact gO_stab y) ?_
  repeat (refine cZ rfl rfl rfl rfl (by first|((first|apply qlc|apply qla|apply qfa|apply qad)<;>(first|exact rfl|assumption|exact Ar.mk (by omega)|exact List.not_mem_nil|apply dc_length|fail))|fail) ?_)
  refine DerX.empty rfl rfl rfl (Nat.le_refl _) (fun b0 => ?_)
  refine DerX.cloneO p.held hc_length hc_one rfl rfl rfl rfl (by exact rho_of rfl) (by exact rho_of rfl) rfl rfl rfl (by simp only [maxLen]; omega) (by show p.held.length * 32 ≤ _; omega) (fun W hk hF => ⟨hS.kp0 (k3.trans hk), hF _ (.head _) (by kernel_rfl)⟩) (fun v => ?_)
  refine DerX.tl (fun w4 hk4 hF => ?_)
  have ho : w4.ownsRow w3.heap.size 84 11 v p.held.length (flt hc p.held) := hF _ (.head _)
  obtain ⟨a4, c4, rfl, _, _⟩ := Sl.own hc_length ho rfl
  have hB2 := hB2.kp0 hk4
  clear hF r0 r1 r2 r4
  refine cV rfl rfl rfl rfl (vals_build rfl (rbn (nextP p) a4 p.held.length c4)) ?_
  refine SG.setAll (l := pc (nextP p) (.slice a4 p.held.length c4)) rfl rfl (by exact rho_of rfl) (by exact rho_of rfl) hB2 (pc_length _ _) rfl (pc_one _ _ _ _) (fun w5 hk5 hB5 => ?_)
  have hr : Row w5 b2 0 (pc (nextP p) (.slice a4 p.held.length c4)) := Row.all hB5 rfl
  have ho5 := own_kp ho hk5 (own_neb ho (by decide) hB2)
  repeat (first|apply cD|apply cE|apply cH|refine cV rfl rfl rfl rfl (by first|(apply qas<;>(exact rfl))|fail) ?_)
  refine ret2 (Or.inl rfl) Tryz.results74 (ResV.agg rfl rfl hr (pc_length _ _)) (by first | exact ResV.tmp rfl | exact ResV.agg rfl rfl (by assumption) (by first | exact dc_length _ | exact nc_length _ | exact rc_length _ _ _ | exact ec_length _ | exact dl_length _ _ _ _ | rfl) | exact ResV.cell rfl rfl (by assumption)) ?_
  exact ⟨_, by rw [e], (k3.trans hk4).trans_new hk5 (new1 (by omega)), by rw [e]; exact ⟨fun _ => ⟨_, rfl, own_mono ho5 k3.size⟩, fun h => absurd rfl h⟩⟩
set_option maxHeartbeats 32000000 in
theorem rhold_spec {w : World} {a : Option Addr} {c : Nat} (p : Pu) (h : Hd) (hS : Sl hc 11 w a p.held) (hl : p.held.length ≤ 1000) (hcap : p.held.length ≤ c) : Calls Tryz.prog 56 #[pv p (.slice a p.held.length c), hv h] w (fun e w' => ∃ v, e = .returned (.tuple #[v, .int .i64 (chgZ p (holdE p h))]) ∧ Kp [] w w' ∧ RPu w' w.heap.size v (chgZ p (holdE p h)) (nextP (holdQ p h))) := by
  refine enter2 Tryz.func56 rfl Tryz.ntmps56 rfl ?_
  repeat (first|apply cA|apply cB)
  refine SG.box rfl rfl rfl (by exact rho_of rfl) (fun b2 w1 hk1 hb2 hB2 => ?_)
  refine SG.box rfl rfl rfl (by exact rho_of rfl) (fun b3 w2 hk2 hb3 hB3 => ?_)
  have hB3 : Blk w2 b3 (.cells (hc h).toArray 84) := hB3
  refine SG.alloc rfl rfl rfl (fun b4 w3 hk3 hb4 hB4 => ?_)
  have hB2 : Blk w3 b2 (.cells (pc p (.slice a p.held.length c)).toArray 36) := (hB2.kp0 hk2).kp0 hk3
  have hB3 := hB3.kp0 hk3
  have k3 := (hk1.trans hk2).trans hk3
  have s1 := hk1.size
  have s2 := hk2.size
  have s3 := hk3.size
  have l4 := hB4.lt
  have hR2 : Row w3 b2 0 (pc p (.slice a p.held.length c)) := Row.all hB2 rfl
  repeat (first|apply cA|apply cB|apply cD|apply cE|refine cV rfl rfl rfl rfl (by first|((first|apply qas|apply qla)<;>(first|exact rfl|assumption|exact List.not_mem_nil|apply pc_length))|fail) ?_)
  refine SG.call rfl rfl rfl (vs := [pv p (.slice a p.held.length c)]) (by repeat' (first | exact True.intro | exact rho_of rfl | refine And.intro ?_ ?_)) ((rnext_spec p (hS.kp0 k3) hl hcap).mono (fun e w4 hh => ?_))
  obtain ⟨v, he, hk4, hv0, hv1⟩ := hh
  refine ⟨_, he, ?_⟩
  clear hR2
  have hB4 := hB4.kp0 hk4
  have hB2 := hB2.kp0 hk4
  have hB3 := hB3.kp0 hk4
  have k4 := k3.trans hk4
  have s4 := hk4.size
  by_cases hp0 : preZ p = 0
  rotate_left
  · have e : chgZ p (holdE p h) = preZ p := if_pos hp0
    have hv := hv1 hp0
    subst hv
    repeat (first|refine cV rfl rfl rfl rfl (by first|((first|apply qmv|apply qxt)<;>(exact rfl))|fail) ?_)
    refine SG.alloc rfl rfl rfl (fun b6 w5 hk5 hb6 hB6 => ?_)
    refine SG.setAll (l := pc zPu (.slice none 0 0)) rfl rfl (by exact rho_of rfl) (by exact rho_of rfl) hB6 (pc_length _ _) rfl (pc_one _ _ _ _) (fun w6 hk6 hB6 => ?_)
    have k46 : Kp [] w4 w6 := hk5.trans_new hk6 (new1 (by omega))
    have hB4 := hB4.kp0 k46
    have hz : preZ p ≠ 0 := hp0
    generalize preZ p = z at hz e
    repeat (first|apply cA|apply cB|apply cD|apply cE|refine cV rfl rfl rfl rfl (by first|((first|apply qni|apply qmv|apply qas|apply qni)<;>(first|exact rfl|exact dcf (by first|assumption|omega)|fail))|fail) ?_)
    refine dA rfl (by exact rho_of rfl) rfl ?_
    repeat (first|apply cA|apply cB)
    refine cV rfl rfl rfl rfl (vals_build rfl rbz0) ?_
    repeat (first|refine cV rfl rfl rfl rfl (by first|(apply qmv<;>(exact rfl))|fail) ?_)
    refine SG.setAll (l := pc zPu (.slice none 0 0)) rfl rfl (by exact rho_of rfl) (by exact rho_of rfl) hB4 (pc_length _ _) rfl (pc_one _ _ _ _) (fun wz hkz hBz => ?_)
    have hr : Row wz b4 0 (pc zPu (.slice none 0 0)) := Row.all hBz rfl
    repeat (first|apply cD|apply cE|apply cH|apply cK|refine cV rfl rfl rfl rfl (by first|(apply qas<;>(exact rfl))|fail) ?_)
    refine ret2 (Or.inl rfl) Tryz.results56 (ResV.agg rfl rfl hr (pc_length _ _)) (by first | exact ResV.tmp rfl | exact ResV.agg rfl rfl (by assumption) (by first | exact dc_length _ | exact nc_length _ | exact rc_length _ _ _ | exact ec_length _ | exact dl_length _ _ _ _ | rfl) | exact ResV.cell rfl rfl (by assumption)) ?_
    exact ⟨_, by rw [e], (k4.trans k46).trans_new hkz (new1 (by omega)), by rw [e]; exact ⟨fun h => absurd h hz, fun _ => rfl⟩⟩
  have e0 : ∀ z, holdE p h = z → chgZ p (holdE p h) = z := fun z hz => by unfold chgZ; rw [if_neg (fun k => k hp0), hz]
  obtain ⟨s, rfl, ho⟩ := hv0 hp0
  obtain ⟨a6, c6, rfl, _, _⟩ := Sl.own hc_length ho rfl
  rw [hp0]
  have hok : p.Ok := by
    unfold preZ at hp0
    by_cases hc0 : checkZ p = 0
    · exact pu_ok hc0
    · rw [if_pos hc0] at hp0; cases hp0
  have hl16 := hok.l
  repeat (first|refine cV rfl rfl rfl rfl (by first|((first|apply qmv|apply qxt)<;>(exact rfl))|fail) ?_)
  refine SG.alloc rfl rfl rfl (fun b6 w5 hk5 hb6 hB6 => ?_)
  refine SG.setAll (l := pc (nextP p) (.slice a6 (nextP p).held.length c6)) rfl rfl (by exact rho_of rfl) (by exact rho_of rfl) hB6 (pc_length _ _) rfl (pc_one _ _ _ _) (fun w6 hk6 hB6 => ?_)
  have hB6 : Blk w6 b6 (.cells (pc (nextP p) (.slice a6 p.held.length c6)).toArray 36) := hB6
  have k46 : Kp [] w4 w6 := hk5.trans_new hk6 (new1 (by omega))
  have k6 := k4.trans k46
  have hB2 := hB2.kp0 k46
  have hB3 := hB3.kp0 k46
  have hB4 := hB4.kp0 k46
  have ho6 : w6.ownsRow w3.heap.size 84 11 (.slice a6 p.held.length c6) p.held.length (flt hc p.held) := own_kp0 ho k46
  have s46 := k46.size
  have l6 := hB6.lt
  obtain ⟨q0, q1, q2, q3, q4⟩ := hc_rows hB3
  clear q4
  repeat (first|apply cA|apply cB|apply cD|apply cE|refine cV rfl rfl rfl rfl (by first|((first|apply qni|apply qmv|apply qas|apply qni)<;>(first|exact rfl|exact dct (by first|assumption|omega)|fail))|fail) ?_)
  refine dB rfl (by exact rho_of rfl) rfl ?_
  by_cases g1 : h.side < 0 ∨ 1 < h.side
  · have e := e0 28 (if_pos g1)
    have g2 : ¬ h.side = 0 := by omega
    have g3 : ¬ h.side = 1 := by omega
    repeat (first|apply cA|apply cB|apply cD|apply cE|apply cF|refine cV rfl rfl rfl rfl (by first|((first|apply qni|apply qmv|apply qlc|apply qfa|apply qpk|apply qni)<;>(first|exact rfl|assumption|exact dcf (by first|assumption|omega)|exact List.not_mem_nil|fail))|fail) ?_)
    refine dA rfl (by exact rho_of rfl) rfl ?_
    repeat (first|apply cA|apply cB)
    refine cV rfl rfl rfl rfl (vals_build rfl rbz0) ?_
    skip
    refine SG.setAll (l := pc zPu (.slice none 0 0)) rfl rfl (by exact rho_of rfl) (by exact rho_of rfl) hB4 (pc_length _ _) rfl (pc_one _ _ _ _) (fun wz hkz hBz => ?_)
    have hr : Row wz b4 0 (pc zPu (.slice none 0 0)) := Row.all hBz rfl
    repeat (first|apply cD|apply cE|apply cH|apply cK|refine cV rfl rfl rfl rfl (by first|(apply qas<;>(exact rfl))|fail) ?_)
    refine ret2 (Or.inl rfl) Tryz.results56 (ResV.agg rfl rfl hr (pc_length _ _)) (by first | exact ResV.tmp rfl | exact ResV.agg rfl rfl (by assumption) (by first | exact dc_length _ | exact nc_length _ | exact rc_length _ _ _ | exact ec_length _ | exact dl_length _ _ _ _ | rfl) | exact ResV.cell rfl rfl (by assumption)) ?_
    exact ⟨_, by rw [e], (k6).trans_new hkz (new1 (by omega)), by rw [e]; exact ⟨fun h => absurd h (by decide), fun _ => rfl⟩⟩
  obtain ⟨j, hj, hj2⟩ : ∃ j : Nat, h.side = (j : Int) ∧ j < 2 := ⟨h.side.toNat, by omega, by omega⟩
  refine cF ?_
  refine cE ?_
  refine cA ?_
  refine CG.cut_then (fun L w' => SubE [(2, .pointer (some ⟨b2, 0, none⟩)), (3, .pointer (some ⟨b3, 0, none⟩)), (4, .pointer (some ⟨b4, 0, none⟩)), (6, .pointer (some ⟨b6, 0, none⟩))] L ∧ w' = w6) ?_ ?_
  · by_cases g2 : h.side = 0
    · repeat (first | first|apply cA|apply cB|apply cD|apply cE|refine cV rfl rfl rfl rfl (by first|((first|apply qni|apply qmv|apply qlc|apply qfa|apply qpk|apply qni)<;>(first|exact rfl|assumption|exact dct (by first|assumption|omega)|exact List.not_mem_nil|fail))|fail) ?_ | refine cX rfl rfl ?_)
      refine dB rfl (by exact rho_of rfl) rfl ?_
      repeat (first|apply cF)
      exact NG.cut ⟨by (repeat' (first | exact True.intro | exact rfl | refine And.intro ?_ ?_)), rfl⟩
    · have g3 : h.side = 1 := by omega
      repeat (first|apply cA|apply cB|apply cD|apply cE|refine cV rfl rfl rfl rfl (by first|((first|apply qni|apply qmv|apply qlc|apply qfa|apply qpk|apply qni)<;>(first|exact rfl|assumption|exact dct (by first|assumption|omega)|exact dcf (by first|assumption|omega)|exact List.not_mem_nil|fail))|fail) ?_)
      refine dB rfl (by exact rho_of rfl) rfl ?_
      repeat (first|apply cF)
      exact NG.cut ⟨by (repeat' (first | exact True.intro | exact rfl | refine And.intro ?_ ?_)), rfl⟩
  rintro L wx ⟨hLL, rfl⟩
  refine CG.to _ hLL ?_
  clear hLL L
  repeat (first|apply cA|apply cB|refine cV rfl rfl rfl rfl (by first|((first|apply qlc|apply qfa)<;>(first|exact rfl|assumption|exact List.not_mem_nil))|fail) ?_)
  refine SG.ret rfl rfl rfl (vs := [.int .i64 h.amt]) (by repeat' (first | exact True.intro | exact rho_of rfl | refine And.intro ?_ ?_)) (rpos_spec h.amt wx) (fun w7 hk7 => ?_)
  have q3 := q3.kp0 hk7
  have hB47 := hB4.kp0 hk7
  by_cases g3 : someP h.amt
  rotate_left
  · have e := e0 2 (by unfold holdE; rw [if_neg g1, if_pos (fun k => g3 k.1)])
    rw [decide_eq_false g3]
    repeat (first | first|apply cD|apply cE|refine cV rfl rfl rfl rfl (by first|((first|apply qmv|apply qpk|apply qnt)<;>(exact rfl))|fail) ?_ | refine cX rfl rfl ?_)
    refine dA rfl (by exact rho_of rfl) rfl ?_
    repeat (first|apply cA|apply cB)
    refine cV rfl rfl rfl rfl (vals_build rfl rbz0) ?_
    skip
    refine SG.setAll (l := pc zPu (.slice none 0 0)) rfl rfl (by exact rho_of rfl) (by exact rho_of rfl) hB47 (pc_length _ _) rfl (pc_one _ _ _ _) (fun wz hkz hBz => ?_)
    have hr : Row wz b4 0 (pc zPu (.slice none 0 0)) := Row.all hBz rfl
    repeat (first|apply cD|apply cE|apply cH|apply cK|refine cV rfl rfl rfl rfl (by first|(apply qas<;>(exact rfl))|fail) ?_)
    refine ret2 (Or.inl rfl) Tryz.results56 (ResV.agg rfl rfl hr (pc_length _ _)) (by first | exact ResV.tmp rfl | exact ResV.agg rfl rfl (by assumption) (by first | exact dc_length _ | exact nc_length _ | exact rc_length _ _ _ | exact ec_length _ | exact dl_length _ _ _ _ | rfl) | exact ResV.cell rfl rfl (by assumption)) ?_
    exact ⟨_, by rw [e], (k6.trans hk7).trans_new hkz (new1 (by omega)), by rw [e]; exact ⟨fun h => absurd h (by decide), fun _ => rfl⟩⟩
  rw [decide_eq_true g3]
  repeat (first|refine cV rfl rfl rfl rfl (by first|((first|apply qmv|apply qlc|apply qfa|apply qnt)<;>(first|exact rfl|assumption|exact List.not_mem_nil))|fail) ?_)
  refine SG.ret rfl rfl rfl (vs := [.int .i64 h.til]) (by repeat' (first | exact True.intro | exact rho_of rfl | refine And.intro ?_ ?_)) (rfar_spec h.til w7) (fun w8 hk8 => ?_)
  have k8 := hk7.trans hk8
  have hB48 := hB47.kp0 hk8
  by_cases g4 : farP h.til
  rotate_left
  · have e := e0 2 (by unfold holdE; rw [if_neg g1, if_pos (fun k => g4 k.2)])
    rw [decide_eq_false g4]
    repeat (first|apply cD|apply cE|refine cV rfl rfl rfl rfl (by first|((first|apply qpk|apply qnt)<;>(exact rfl))|fail) ?_)
    refine dA rfl (by exact rho_of rfl) rfl ?_
    repeat (first|apply cA|apply cB)
    refine cV rfl rfl rfl rfl (vals_build rfl rbz0) ?_
    skip
    refine SG.setAll (l := pc zPu (.slice none 0 0)) rfl rfl (by exact rho_of rfl) (by exact rho_of rfl) hB48 (pc_length _ _) rfl (pc_one _ _ _ _) (fun wz hkz hBz => ?_)
    have hr : Row wz b4 0 (pc zPu (.slice none 0 0)) := Row.all hBz rfl
    repeat (first|apply cD|apply cE|apply cH|apply cK|refine cV rfl rfl rfl rfl (by first|(apply qas<;>(exact rfl))|fail) ?_)
    refine ret2 (Or.inl rfl) Tryz.results56 (ResV.agg rfl rfl hr (pc_length _ _)) (by first | exact ResV.tmp rfl | exact ResV.agg rfl rfl (by assumption) (by first | exact dc_length _ | exact nc_length _ | exact rc_length _ _ _ | exact ec_length _ | exact dl_length _ _ _ _ | rfl) | exact ResV.cell rfl rfl (by assumption)) ?_
    exact ⟨_, by rw [e], (k6.trans k8).trans_new hkz (new1 (by omega)), by rw [e]; exact ⟨fun h => absurd h (by decide), fun _ => rfl⟩⟩
  rw [decide_eq_true g4]
  have hB28 := hB2.kp0 k8
  have hB38 := hB3.kp0 k8
  clear q0 q1 q2 q3
  have hR2 : Row w8 b2 0 (pc p (.slice a p.held.length c)) := Row.all hB28 rfl
  obtain ⟨q0, -⟩ := hc_rows hB38
  repeat (first|apply cD|apply cE|refine cV rfl rfl rfl rfl (by first|((first|apply qpk|apply qnt)<;>(exact rfl))|fail) ?_)
  refine dB rfl (by exact rho_of rfl) rfl ?_
  repeat (first|apply cA|apply cB|apply cE|apply cF|refine cV rfl rfl rfl rfl (by first|((first|apply qla|apply qfa)<;>(first|exact rfl|assumption|exact List.not_mem_nil|apply dc_length|apply pc_length))|fail) ?_)
  refine SG.ret rfl rfl rfl (vs := [pv p (.slice a p.held.length c), dv h.name]) (by repeat' (first | exact True.intro | exact rho_of rfl | refine And.intro ?_ ?_)) (rplace_spec p h.name (hS.kp0 (k6.trans k8)) (by omega)) (fun w9 hk9 => ?_)
  have k9 := k8.trans hk9
  have hB49 := hB48.kp0 hk9
  clear hR2 q0
  by_cases g5 : placeN p.held h.name < p.held.length
  · have e := e0 7 (by unfold holdE; rw [if_neg g1, if_neg (fun k => k ⟨g3, g4⟩), if_pos g5])
    have ez : placeZ p.held h.name = (placeN p.held h.name : Int) := if_pos g5
    have g6 : (0 : Int) ≤ (placeN p.held h.name : Int) := by omega
    rw [ez]
    repeat (first|apply cD|apply cE|refine cV rfl rfl rfl rfl (by first|(apply qge<;>(first|exact rfl|exact dct (by first|assumption|omega)|fail))|fail) ?_)
    refine dA rfl (by exact rho_of rfl) rfl ?_
    repeat (first|apply cA|apply cB)
    refine cV rfl rfl rfl rfl (vals_build rfl rbz0) ?_
    skip
    refine SG.setAll (l := pc zPu (.slice none 0 0)) rfl rfl (by exact rho_of rfl) (by exact rho_of rfl) hB49 (pc_length _ _) rfl (pc_one _ _ _ _) (fun wz hkz hBz => ?_)
    have hr : Row wz b4 0 (pc zPu (.slice none 0 0)) := Row.all hBz rfl
    repeat (first|apply cD|apply cE|apply cH|apply cK|refine cV rfl rfl rfl rfl (by first|(apply qas<;>(exact rfl))|fail) ?_)
    refine ret2 (Or.inl rfl) Tryz.results56 (ResV.agg rfl rfl hr (pc_length _ _)) (by first | exact ResV.tmp rfl | exact ResV.agg rfl rfl (by assumption) (by first | exact dc_length _ | exact nc_length _ | exact rc_length _ _ _ | exact ec_length _ | exact dl_length _ _ _ _ | rfl) | exact ResV.cell rfl rfl (by assumption)) ?_
    exact ⟨_, by rw [e], (k6.trans k9).trans_new hkz (new1 (by omega)), by rw [e]; exact ⟨fun h => absurd h (by decide), fun _ => rfl⟩⟩
  have ez : placeZ p.held h.name = -1 := if_neg g5
  have g6 : ¬ (0 : Int) ≤ -1 := by omega
  rw [ez]
  have hB29 := hB28.kp0 hk9
  have hB39 := hB38.kp0 hk9
  have hB69 := hB6.kp0 k9
  obtain ⟨-, -, -, -, r4, -⟩ := pc_rows hB29
  repeat (first|apply cD|apply cE|refine cV rfl rfl rfl rfl (by first|(apply qge<;>(first|exact rfl|exact dcf (by first|assumption|omega)|fail))|fail) ?_)
  refine dB rfl (by exact rho_of rfl) rfl ?_
  by_cases g7 : 16 ≤ p.held.length
  · have e := e0 8 (by unfold holdE; rw [if_neg g1, if_neg (fun k => k ⟨g3, g4⟩), if_neg g5, if_pos g7])
    have g8 : (p.held.length : Int) = 16 := by omega
    repeat (first|apply cA|apply cB|apply cD|apply cE|apply cF|refine cV rfl rfl rfl rfl (by first|((first|apply qei|apply qlc|apply qfa|apply qei|apply qln)<;>(first|exact rfl|assumption|exact dct (by first|assumption|omega)|exact List.not_mem_nil|fail))|fail) ?_)
    refine dA rfl (by exact rho_of rfl) rfl ?_
    repeat (first|apply cA|apply cB)
    refine cV rfl rfl rfl rfl (vals_build rfl rbz0) ?_
    skip
    refine SG.setAll (l := pc zPu (.slice none 0 0)) rfl rfl (by exact rho_of rfl) (by exact rho_of rfl) hB49 (pc_length _ _) rfl (pc_one _ _ _ _) (fun wz hkz hBz => ?_)
    have hr : Row wz b4 0 (pc zPu (.slice none 0 0)) := Row.all hBz rfl
    repeat (first|apply cD|apply cE|apply cH|apply cK|refine cV rfl rfl rfl rfl (by first|(apply qas<;>(exact rfl))|fail) ?_)
    refine ret2 (Or.inl rfl) Tryz.results56 (ResV.agg rfl rfl hr (pc_length _ _)) (by first | exact ResV.tmp rfl | exact ResV.agg rfl rfl (by assumption) (by first | exact dc_length _ | exact nc_length _ | exact rc_length _ _ _ | exact ec_length _ | exact dl_length _ _ _ _ | rfl) | exact ResV.cell rfl rfl (by assumption)) ?_
    exact ⟨_, by rw [e], (k6.trans k9).trans_new hkz (new1 (by omega)), by rw [e]; exact ⟨fun h => absurd h (by decide), fun _ => rfl⟩⟩
  have g8 : ¬ (p.held.length : Int) = 16 := by omega
  obtain ⟨-, q1, q2, -, -⟩ := hc_rows hB39
  have rj := row_side hB29 hj2
  rw [← hj] at rj
  have hav := have_amt hok h.side
  obtain ⟨g30, g31, g32⟩ := g3
  repeat (first|apply cA|apply cB|apply cD|apply cE|apply cF|refine cV rfl rfl rfl rfl (by first|((first|apply qei|apply qlc|apply qfa|apply qei|apply qln)<;>(first|exact rfl|assumption|exact dcf (by first|assumption|omega)|exact List.not_mem_nil|fail))|fail) ?_)
  refine dB rfl (by exact rho_of rfl) rfl ?_
  by_cases g9 : haveP p h.side < h.amt
  · have e := e0 21 (by unfold holdE; rw [if_neg g1, if_neg (fun k => k ⟨⟨g30, g31, g32⟩, g4⟩), if_neg g5, if_neg g7, if_pos g9])
    repeat (first|apply cA|apply cE|apply cF)
    refine CG.draw0 mixed [0, 1, 2, 3, 4, 5, 6, 7] [] (by kernel_rfl) ?_
    repeat (refine cY rfl rfl rfl (by first|((first|apply qia|apply qlc|apply qfa|apply qls)<;>(first|exact rfl|assumption|exact Ar.mk (by omega)|exact dct (by first|assumption|omega)|exact List.not_mem_nil|fail))|fail) ?_)
    refine Der.fin (fun w10 hk10 _ _ => ?_)
    have hB410 := hB49.kp0 hk10
    repeat (first|apply cE)
    refine dA rfl (by exact rho_of rfl) rfl ?_
    repeat (first|apply cA|apply cB)
    refine cV rfl rfl rfl rfl (vals_build rfl rbz0) ?_
    skip
    refine SG.setAll (l := pc zPu (.slice none 0 0)) rfl rfl (by exact rho_of rfl) (by exact rho_of rfl) hB410 (pc_length _ _) rfl (pc_one _ _ _ _) (fun wz hkz hBz => ?_)
    have hr : Row wz b4 0 (pc zPu (.slice none 0 0)) := Row.all hBz rfl
    repeat (first|apply cD|apply cE|apply cH|apply cK|refine cV rfl rfl rfl rfl (by first|(apply qas<;>(exact rfl))|fail) ?_)
    refine ret2 (Or.inl rfl) Tryz.results56 (ResV.agg rfl rfl hr (pc_length _ _)) (by first | exact ResV.tmp rfl | exact ResV.agg rfl rfl (by assumption) (by first | exact dc_length _ | exact nc_length _ | exact rc_length _ _ _ | exact ec_length _ | exact dl_length _ _ _ _ | rfl) | exact ResV.cell rfl rfl (by assumption)) ?_
    exact ⟨_, by rw [e], ((k6.trans k9).trans hk10).trans_new hkz (new1 (by omega)), by rw [e]; exact ⟨fun h => absurd h (by decide), fun _ => rfl⟩⟩
  have e := e0 0 (by unfold holdE; rw [if_neg g1, if_neg (fun k => k ⟨⟨g30, g31, g32⟩, g4⟩), if_neg g5, if_neg g7, if_neg g9])
  repeat (first|apply cA|apply cE|apply cF)
  refine CG.draw0 mixed [0, 1, 2, 3, 4, 5, 6, 7] [] (by kernel_rfl) ?_
  repeat (refine cY rfl rfl rfl (by first|((first|apply qia|apply qlc|apply qfa|apply qls)<;>(first|exact rfl|assumption|exact Ar.mk (by omega)|exact dcf (by first|assumption|omega)|exact List.not_mem_nil|fail))|fail) ?_)
  refine Der.fin (fun w10 hk10 _ _ => ?_)
  have k10 := k9.trans hk10
  have hB310 := hB39.kp0 hk10
  have hB610 := hB69.kp0 hk10
  clear rj r4 q1 q2
  obtain ⟨-, q1, q2, -, -⟩ := hc_rows hB310
  have rj := row_side hB610 hj2
  rw [← hj] at rj
  rw [haveP_next] at rj
  repeat (first|apply cE)
  refine dB rfl (by exact rho_of rfl) rfl ?_
  repeat (first|apply cA|apply cE|apply cF)
  refine CG.tail mixed 12 [0, 1, 2, 3, 4, 5, 6, 7, 8, 9, 10, 11] (by kernel_rfl) ?_
  repeat (refine cY rfl rfl rfl (by first|((first|apply qia|apply qlc|apply qfa|apply qsb)<;>(first|exact rfl|assumption|exact Ar.mk (by omega)|exact List.not_mem_nil|fail))|fail) ?_)
  refine Der.tl (fun w11 hk11 _ _ => ?_)
  have k11 := k10.trans hk11
  have hB611 := hB610.kp0 hk11
  have hB311 := hB310.kp0 hk11
  have ho11 := own_kp0 ho6 k11
  clear rj q1 q2
  refine SG.store rfl rfl (by exact rho_of rfl) (by exact rho_of rfl) hB611 rfl (by show 0 + 9 + j * 1 + 1 ≤ _; simp [pc_length]; omega) rfl (fun w12 hk12 hB612 => ?_)
  have hB612 : Blk w12 b6 (.cells (spl (pc (nextP p) (.slice a6 p.held.length c6)) (9 + j) [.int .i64 (haveP (nextP p) h.side + (-h.amt))]).toArray 36) := by
    have e9 : 9 + j = 0 + 9 + j * 1 := by omega
    rw [e9]
    exact hB612
  rw [hj, pc_side hj2] at hB612
  have ho12 := own_kp ho11 hk12 (own_neb ho11 (by decide) hB611)
  have hB312 := hB311.kp hk12 (nm1 (fun e => by
    subst e
    have := hB311.uniq hB611
    simp only [Obj.cells.injEq] at this
    exact absurd this.2.1 (by decide)))
  obtain ⟨-, -, -, -, r4, -⟩ := pc_rows hB612
  have hR3 : Row w12 b3 0 (hc h) := Row.all hB312 rfl
  have s12 := (k11.any.trans hk12).size
  repeat (first|apply cA|apply cB|apply cD|apply cE|refine cV rfl rfl rfl rfl (by first|((first|apply qlc|apply qla|apply qfa)<;>(first|exact rfl|assumption|exact List.not_mem_nil|apply hc_length))|fail) ?_)
  refine SG.buildSlice rfl rfl rfl rfl (bbckS h) (fun b9 w13 hk13 hb9 hB9 => ?_)
  have ho13 := own_kp0 ho12 hk13
  have s13 := hk13.size
  refine SG.appO (enc := hc) (xs := p.held) (ys := [h]) (base := w3.heap.size) rfl rfl rfl (by exact rho_of rfl) (by exact rho_of rfl) rfl rfl rfl rfl hc_length hc_one ho13 (sl_one hc_length hB9) (by simp only [maxLen, List.length_cons, List.length_nil]; omega) (by show (p.held.length + 1) * 32 ≤ _; omega) (by omega) (fun v9 w14 hk14 ho14 _ => ?_)
  have hB613 := hB612.kp0 hk13
  have hB614 := hB613.kp hk14 (fun hm => own_neb ho13 (by decide) hB613 b6 (ownB_mem hm) (by simp))
  obtain ⟨a9, c9, rfl, _, _⟩ := Sl.own hc_length ho14 rfl
  clear r4 hR3
  repeat (first|refine cV rfl rfl rfl rfl (by first|(apply qfa<;>(exact rfl))|fail) ?_)
  refine SG.store rfl rfl (by exact rho_of rfl) (by exact rho_of rfl) hB614 rfl (by show 0 + 11 + 1 ≤ _; simp [pc_length]) rfl (fun w15 hk15 hB615 => ?_)
  have hB615 : Blk w15 b6 (.cells (spl (pc (addP (nextP p) (j : Int) (-h.amt)) (.slice a6 p.held.length c6)) 11 [.slice a9 (p.held ++ [h]).length c9]).toArray 36) := hB615
  rw [pc_held, pc_hold p _ _ (p.held ++ [h]), ← hj] at hB615
  have ho15 := own_kp ho14 hk15 (own_neb ho14 (by decide) hB614)
  have hR6 : Row w15 b6 0 (pc (nextP (holdQ p h)) (.slice a9 (p.held ++ [h]).length c9)) := Row.all hB615 rfl
  have k615 : Kp [] w3 w15 := ((((hk4.trans k46).trans k11).trans_new hk12 (new1 (by omega))).trans hk13).trans_new hk14 (own_new ho13 (Nat.le_refl _)) |>.trans_new hk15 (new1 (by omega))
  have hB415 : Blk w15 b4 _ := (((((hB4.kp0 k11).kp hk12 (nm1 (by omega))).kp0 hk13).kp hk14 (fun hm => by have := own_geB ho13 _ (ownB_mem hm); omega)).kp hk15 (nm1 (by omega)))
  repeat (first|apply cA|apply cB|apply cD|apply cE|refine cV rfl rfl rfl rfl (by first|(apply qla<;>(first|exact rfl|assumption|exact List.not_mem_nil|apply pc_length))|fail) ?_)
  refine SG.setAll (l := pc (nextP (holdQ p h)) (.slice a9 (p.held ++ [h]).length c9)) rfl rfl (by exact rho_of rfl) (by exact rho_of rfl) hB415 (pc_length _ _) rfl (pc_one _ _ _ _) (fun w16 hk16 hB416 => ?_)
  have hr : Row w16 b4 0 (pc (nextP (holdQ p h)) (.slice a9 (p.held ++ [h]).length c9)) := Row.all hB416 rfl
  have ho16 := own_kp ho15 hk16 (own_neb ho15 (by decide) hB415)
  repeat (first|apply cD|apply cE|apply cH|refine cV rfl rfl rfl rfl (by first|(apply qas<;>(exact rfl))|fail) ?_)
  refine ret2 (Or.inl rfl) Tryz.results56 (ResV.agg rfl rfl hr (pc_length _ _)) (by first | exact ResV.tmp rfl | exact ResV.agg rfl rfl (by assumption) (by first | exact dc_length _ | exact nc_length _ | exact rc_length _ _ _ | exact ec_length _ | exact dl_length _ _ _ _ | rfl) | exact ResV.cell rfl rfl (by assumption)) ?_
  exact ⟨_, by rw [e], (k3.trans k615).trans_new hk16 (new1 (by omega)), by rw [e]; exact ⟨fun _ => ⟨_, rfl, own_mono ho16 k3.size⟩, fun h => absurd rfl h⟩⟩
end Go.Proofs.YtajllbdeoopimaaGreat
namespace Go.Proofs.YtajllbdeoopimaaGreat
set_option linter.unusedVariables false
attribute [local irreducible] CG NG SG Vals Der Row Blk MapIs IterAt chkL DerX
set_option maxHeartbeats 32000000 in
theorem rfree_spec {w : World} {a : Option Addr} {c : Nat} (p : Pu) (n : Dg) (over : Int) (hS : Sl hc 11 w a p.held) (hl : p.held.length ≤ 1000) (hcap : p.held.length ≤ c) : Calls Tryz.prog 59 #[pv p (.slice a p.held.length c), dv n, .int .i64 over] w (fun e w' => ∃ v, e = .returned (.tuple #[v, .int .i64 (chgZ p (freeE p n over))]) ∧ Kp [] w w' ∧ RPu w' w.heap.size v (chgZ p (freeE p n over)) (nextP (freeQ p n over))) := by
  refine enter3 Tryz.func59 rfl Tryz.ntmps59 rfl ?_
  repeat (first|apply cA|apply cB)
  refine SG.box rfl rfl rfl (by exact rho_of rfl) (fun b2 w1 hk1 hb2 hB2 => ?_)
  refine SG.box rfl rfl rfl (by exact rho_of rfl) (fun b3 w2 hk2 hb3 hB3 => ?_)
  have hB3 : Blk w2 b3 (.cells (dc n).toArray 32) := hB3
  refine SG.alloc rfl rfl rfl (fun b4 w3 hk3 hb4 hB4 => ?_)
  have hB2 : Blk w3 b2 (.cells (pc p (.slice a p.held.length c)).toArray 36) := (hB2.kp0 hk2).kp0 hk3
  have l2 := hB2.lt
  have hB3 := hB3.kp0 hk3
  have k3 := (hk1.trans hk2).trans hk3
  have s1 := hk1.size
  have s2 := hk2.size
  have s3 := hk3.size
  have l4 := hB4.lt
  have hR2 : Row w3 b2 0 (pc p (.slice a p.held.length c)) := Row.all hB2 rfl
  repeat (first|apply cA|apply cB|apply cD|apply cE|refine cV rfl rfl rfl rfl (by first|((first|apply qas|apply qla)<;>(first|exact rfl|assumption|exact List.not_mem_nil|apply pc_length))|fail) ?_)
  refine SG.call rfl rfl rfl (vs := [pv p (.slice a p.held.length c)]) (by repeat' (first | exact True.intro | exact rho_of rfl | refine And.intro ?_ ?_)) ((rnext_spec p (hS.kp0 k3) hl hcap).mono (fun e w4 hh => ?_))
  obtain ⟨v, he, hk4, hv0, hv1⟩ := hh
  refine ⟨_, he, ?_⟩
  clear hR2
  have hB4 := hB4.kp0 hk4
  have hB2 := hB2.kp0 hk4
  have hB3 := hB3.kp0 hk4
  have k4 := k3.trans hk4
  have s4 := hk4.size
  by_cases hp0 : preZ p = 0
  rotate_left
  · have e : chgZ p (freeE p n over) = preZ p := if_pos hp0
    have hv := hv1 hp0
    subst hv
    repeat (first|refine cV rfl rfl rfl rfl (by first|((first|apply qmv|apply qxt)<;>(exact rfl))|fail) ?_)
    refine SG.alloc rfl rfl rfl (fun b6 w5 hk5 hb6 hB6 => ?_)
    refine SG.setAll (l := pc zPu (.slice none 0 0)) rfl rfl (by exact rho_of rfl) (by exact rho_of rfl) hB6 (pc_length _ _) rfl (pc_one _ _ _ _) (fun w6 hk6 hB6 => ?_)
    have k46 : Kp [] w4 w6 := hk5.trans_new hk6 (new1 (by omega))
    have hB4 := hB4.kp0 k46
    have hz : preZ p ≠ 0 := hp0
    generalize preZ p = z at hz e
    repeat (first|apply cA|apply cB|apply cD|apply cE|refine cV rfl rfl rfl rfl (by first|((first|apply qni|apply qmv|apply qas|apply qni)<;>(first|exact rfl|exact dcf (by first|assumption|omega)|fail))|fail) ?_)
    refine dA rfl (by exact rho_of rfl) rfl ?_
    repeat (first|apply cA|apply cB)
    refine cV rfl rfl rfl rfl (vals_build rfl rbz0) ?_
    repeat (first|refine cV rfl rfl rfl rfl (by first|(apply qmv<;>(exact rfl))|fail) ?_)
    refine SG.setAll (l := pc zPu (.slice none 0 0)) rfl rfl (by exact rho_of rfl) (by exact rho_of rfl) hB4 (pc_length _ _) rfl (pc_one _ _ _ _) (fun wz hkz hBz => ?_)
    have hr : Row wz b4 0 (pc zPu (.slice none 0 0)) := Row.all hBz rfl
    repeat (first|apply cD|apply cE|apply cH|apply cK|refine cV rfl rfl rfl rfl (by first|(apply qas<;>(exact rfl))|fail) ?_)
    refine ret2 (Or.inl rfl) Tryz.results59 (ResV.agg rfl rfl hr (pc_length _ _)) (by first | exact ResV.tmp rfl | exact ResV.agg rfl rfl (by assumption) (by first | exact dc_length _ | exact nc_length _ | exact rc_length _ _ _ | exact ec_length _ | exact dl_length _ _ _ _ | rfl) | exact ResV.cell rfl rfl (by assumption)) ?_
    exact ⟨_, by rw [e], (k4.trans k46).trans_new hkz (new1 (by omega)), by rw [e]; exact ⟨fun h => absurd h hz, fun _ => rfl⟩⟩
  have e0 : ∀ z, freeE p n over = z → chgZ p (freeE p n over) = z := fun z hz => by unfold chgZ; rw [if_neg (fun k => k hp0), hz]
  obtain ⟨s, rfl, ho⟩ := hv0 hp0
  obtain ⟨a6, c6, rfl, _, _⟩ := Sl.own hc_length ho rfl
  rw [hp0]
  have hok : p.Ok := by
    unfold preZ at hp0
    by_cases hc0 : checkZ p = 0
    · exact pu_ok hc0
    · rw [if_pos hc0] at hp0; cases hp0
  have hl16 := hok.l
  repeat (first|refine cV rfl rfl rfl rfl (by first|((first|apply qmv|apply qxt)<;>(exact rfl))|fail) ?_)
  refine SG.alloc rfl rfl rfl (fun b6 w5 hk5 hb6 hB6 => ?_)
  refine SG.setAll (l := pc (nextP p) (.slice a6 (nextP p).held.length c6)) rfl rfl (by exact rho_of rfl) (by exact rho_of rfl) hB6 (pc_length _ _) rfl (pc_one _ _ _ _) (fun w6 hk6 hB6 => ?_)
  have hB6 : Blk w6 b6 (.cells (pc (nextP p) (.slice a6 p.held.length c6)).toArray 36) := hB6
  have k46 : Kp [] w4 w6 := hk5.trans_new hk6 (new1 (by omega))
  have k6 := k4.trans k46
  have hB2 := hB2.kp0 k46
  have hB3 := hB3.kp0 k46
  have hB4 := hB4.kp0 k46
  have s46 := k46.size
  have l6 := hB6.lt
  have hR2 : Row w6 b2 0 (pc p (.slice a p.held.length c)) := Row.all hB2 rfl
  have hR3 : Row w6 b3 0 (dc n) := Row.all hB3 rfl
  repeat (first|apply cA|apply cB|apply cD|apply cE|refine cV rfl rfl rfl rfl (by first|((first|apply qni|apply qmv|apply qas|apply qni)<;>(first|exact rfl|exact dct (by first|assumption|omega)|fail))|fail) ?_)
  refine dB rfl (by exact rho_of rfl) rfl ?_
  repeat (first|apply cA|apply cB|apply cE|apply cF|refine cV rfl rfl rfl rfl (by first|(apply qla<;>(first|exact rfl|assumption|exact List.not_mem_nil|apply dc_length|apply pc_length))|fail) ?_)
  refine SG.ret rfl rfl rfl (vs := [pv p (.slice a p.held.length c), dv n]) (by repeat' (first | exact True.intro | exact rho_of rfl | refine And.intro ?_ ?_)) (rplace_spec p n (hS.kp0 k6) (by omega)) (fun w7 hk7 => ?_)
  have k7 := k6.trans hk7
  have hB47 := hB4.kp0 hk7
  have hB27 := hB2.kp0 hk7
  have hB37 := hB3.kp0 hk7
  have hB67 := hB6.kp0 hk7
  clear hR2 hR3
  by_cases g5 : placeN p.held n < p.held.length
  rotate_left
  · have e := e0 9 (by unfold freeE; rw [atP_none g5])
    have ez : placeZ p.held n = -1 := if_neg g5
    have g6 : (-1 : Int) < 0 := by omega
    rw [ez]
    repeat (first|apply cA|apply cB|apply cD|apply cE|refine cV rfl rfl rfl rfl (by first|((first|apply qmv|apply qas|apply qls)<;>(first|exact rfl|exact dct (by first|assumption|omega)|fail))|fail) ?_)
    refine dA rfl (by exact rho_of rfl) rfl ?_
    repeat (first|apply cA|apply cB)
    refine cV rfl rfl rfl rfl (vals_build rfl rbz0) ?_
    skip
    refine SG.setAll (l := pc zPu (.slice none 0 0)) rfl rfl (by exact rho_of rfl) (by exact rho_of rfl) hB47 (pc_length _ _) rfl (pc_one _ _ _ _) (fun wz hkz hBz => ?_)
    have hr : Row wz b4 0 (pc zPu (.slice none 0 0)) := Row.all hBz rfl
    repeat (first|apply cD|apply cE|apply cH|apply cK|refine cV rfl rfl rfl rfl (by first|(apply qas<;>(exact rfl))|fail) ?_)
    refine ret2 (Or.inl rfl) Tryz.results59 (ResV.agg rfl rfl hr (pc_length _ _)) (by first | exact ResV.tmp rfl | exact ResV.agg rfl rfl (by assumption) (by first | exact dc_length _ | exact nc_length _ | exact rc_length _ _ _ | exact ec_length _ | exact dl_length _ _ _ _ | rfl) | exact ResV.cell rfl rfl (by assumption)) ?_
    exact ⟨_, by rw [e], (k7).trans_new hkz (new1 (by omega)), by rw [e]; exact ⟨fun h => absurd h (by decide), fun _ => rfl⟩⟩
  have ez : placeZ p.held n = (placeN p.held n : Int) := if_pos g5
  obtain ⟨k, hk⟩ : ∃ k, placeN p.held n = k := ⟨_, rfl⟩
  have hkl : k < p.held.length := by omega
  have hat : atP p n = some p.held[k] := by
    unfold atP
    rw [hk, List.getElem?_eq_getElem hkl]
  have hm := List.getElem_mem hkl
  have hhok := hok.all _ hm
  rw [ez, hk]
  have g6 : ¬ (k : Int) < 0 := by omega
  have g7 : (k : Int) < (p.held.length : Int) := by omega
  have hS7 := hS.kp0 k7
  obtain ⟨ba, oa, rfl, hri⟩ := hS7.at hkl
  generalize hh : p.held[k] = h at hat hm hhok hri
  obtain ⟨-, -, -, -, r4, -⟩ := pc_rows hB27
  repeat (first|apply cA|apply cB|apply cD|apply cE|refine cV rfl rfl rfl rfl (by first|((first|apply qmv|apply qas|apply qls)<;>(first|exact rfl|exact dcf (by first|assumption|omega)|fail))|fail) ?_)
  refine dB rfl (by exact rho_of rfl) rfl ?_
  repeat (first|apply cA|apply cB|apply cE|apply cF|refine cV rfl rfl rfl rfl (by first|((first|apply qmv|apply qlc|apply qla|apply qfa|apply qix)<;>(first|exact rfl|assumption|exact Ar.mk (by omega)|exact List.not_mem_nil|apply hc_length|fail))|fail) ?_)
  refine SG.alloc rfl rfl rfl (fun b11 w8 hk8 hb11 hB11 => ?_)
  refine SG.setAll (l := hc h) rfl rfl (by exact rho_of rfl) (by exact rho_of rfl) hB11 (hc_length _) rfl (hc_one _) (fun w9 hk9 hB11 => ?_)
  have hB11 : Blk w9 b11 (.cells (hc h).toArray 84) := hB11
  have s7 := hk7.size
  have k79 : Kp [] w7 w9 := hk8.trans_new hk9 (new1 (by omega))
  have hB49 := hB47.kp0 k79
  have hB69 := hB67.kp0 k79
  have hB29 := hB27.kp0 k79
  obtain ⟨-, q1, q2, -, -⟩ := hc_rows hB11
  clear r4 hri
  by_cases g8 : over < 0
  · have e := e0 2 (by unfold freeE; rw [hat]; exact if_pos (Or.inl g8))
    repeat (first | first|apply cA|apply cB|apply cD|apply cE|refine cV rfl rfl rfl rfl (by first|((first|apply qmv|apply qpk|apply qls)<;>(first|exact rfl|exact dct (by first|assumption|omega)|fail))|fail) ?_ | refine cX rfl rfl ?_)
    refine dA rfl (by exact rho_of rfl) rfl ?_
    repeat (first|apply cA|apply cB)
    refine cV rfl rfl rfl rfl (vals_build rfl rbz0) ?_
    skip
    refine SG.setAll (l := pc zPu (.slice none 0 0)) rfl rfl (by exact rho_of rfl) (by exact rho_of rfl) hB49 (pc_length _ _) rfl (pc_one _ _ _ _) (fun wz hkz hBz => ?_)
    have hr : Row wz b4 0 (pc zPu (.slice none 0 0)) := Row.all hBz rfl
    repeat (first|apply cD|apply cE|apply cH|apply cK|refine cV rfl rfl rfl rfl (by first|(apply qas<;>(exact rfl))|fail) ?_)
    refine ret2 (Or.inl rfl) Tryz.results59 (ResV.agg rfl rfl hr (pc_length _ _)) (by first | exact ResV.tmp rfl | exact ResV.agg rfl rfl (by assumption) (by first | exact dc_length _ | exact nc_length _ | exact rc_length _ _ _ | exact ec_length _ | exact dl_length _ _ _ _ | rfl) | exact ResV.cell rfl rfl (by assumption)) ?_
    exact ⟨_, by rw [e], (k7.trans k79).trans_new hkz (new1 (by omega)), by rw [e]; exact ⟨fun h => absurd h (by decide), fun _ => rfl⟩⟩
  by_cases g9 : h.amt < over
  · have e := e0 2 (by unfold freeE; rw [hat]; exact if_pos (Or.inr g9))
    repeat (first|apply cA|apply cB|apply cD|apply cE|refine cV rfl rfl rfl rfl (by first|((first|apply qmv|apply qlc|apply qfa|apply qpk|apply qls|apply qgt)<;>(first|exact rfl|assumption|exact dct (by first|assumption|omega)|exact dcf (by first|assumption|omega)|exact List.not_mem_nil|fail))|fail) ?_)
    refine dA rfl (by exact rho_of rfl) rfl ?_
    repeat (first|apply cA|apply cB)
    refine cV rfl rfl rfl rfl (vals_build rfl rbz0) ?_
    skip
    refine SG.setAll (l := pc zPu (.slice none 0 0)) rfl rfl (by exact rho_of rfl) (by exact rho_of rfl) hB49 (pc_length _ _) rfl (pc_one _ _ _ _) (fun wz hkz hBz => ?_)
    have hr : Row wz b4 0 (pc zPu (.slice none 0 0)) := Row.all hBz rfl
    repeat (first|apply cD|apply cE|apply cH|apply cK|refine cV rfl rfl rfl rfl (by first|(apply qas<;>(exact rfl))|fail) ?_)
    refine ret2 (Or.inl rfl) Tryz.results59 (ResV.agg rfl rfl hr (pc_length _ _)) (by first | exact ResV.tmp rfl | exact ResV.agg rfl rfl (by assumption) (by first | exact dc_length _ | exact nc_length _ | exact rc_length _ _ _ | exact ec_length _ | exact dl_length _ _ _ _ | rfl) | exact ResV.cell rfl rfl (by assumption)) ?_
    exact ⟨_, by rw [e], (k7.trans k79).trans_new hkz (new1 (by omega)), by rw [e]; exact ⟨fun h => absurd h (by decide), fun _ => rfl⟩⟩
  have e := e0 0 (by unfold freeE; rw [hat]; exact if_neg (by omega))
  obtain ⟨j, hj, hj2⟩ : ∃ j : Nat, h.side = (j : Int) ∧ j < 2 := ⟨h.side.toNat, by have := hhok.s0; omega, by have := hhok.s0; have := hhok.s1; omega⟩
  obtain ⟨i, hi, hi2⟩ : ∃ i : Nat, 1 - h.side = (i : Int) ∧ i < 2 := ⟨(1 - h.side).toNat, by omega, by omega⟩
  have hav := have_amt hok h.side
  have hav2 := have_amt hok (1 - h.side)
  have a0 := hhok.a0
  have a1 := hhok.a1
  have ri := row_side hB69 hi2
  rw [← hi, haveP_next] at ri
  repeat (first|apply cA|apply cB|apply cD|apply cE|refine cV rfl rfl rfl rfl (by first|((first|apply qmv|apply qlc|apply qfa|apply qpk|apply qls|apply qgt)<;>(first|exact rfl|assumption|exact dcf (by first|assumption|omega)|exact List.not_mem_nil|fail))|fail) ?_)
  refine dB rfl (by exact rho_of rfl) rfl ?_
  repeat (first|apply cA|apply cE|apply cF)
  refine CG.tail mixed 13 [0, 1, 2, 3, 4, 5, 6, 7, 8, 9, 10, 11, 12] (by kernel_rfl) ?_
  repeat (refine cY rfl rfl rfl (by first|((first|apply qia|apply qmv|apply qlc|apply qfa|apply qad|apply qsb)<;>(first|exact rfl|assumption|exact Ar.mk (by omega)|exact List.not_mem_nil|fail))|fail) ?_)
  refine Der.tl (fun w10 hk10 _ _ => ?_)
  have hB610 := hB69.kp0 hk10
  have hB1110 := hB11.kp0 hk10
  have k710 := k79.trans hk10
  clear ri q1 q2
  refine SG.store rfl rfl (by exact rho_of rfl) (by exact rho_of rfl) hB610 rfl (by show 0 + 9 + i * 1 + 1 ≤ _; simp [pc_length]; omega) rfl (fun w11 hk11 hB611 => ?_)
  have hB611 : Blk w11 b6 (.cells (spl (pc (nextP p) (.slice a6 p.held.length c6)) (9 + i) [.int .i64 (haveP (nextP p) (1 - h.side) + over)]).toArray 36) := by
    have e9 : 9 + i = 0 + 9 + i * 1 := by omega
    rw [e9]
    exact hB611
  rw [hi, pc_side hi2, ← hi] at hB611
  have hB1111 := hB1110.kp hk11 (nm1 (by omega))
  obtain ⟨-, q1, q2, -, -⟩ := hc_rows hB1111
  have rj := row_side hB611 hj2
  rw [← hj] at rj
  have e12 : haveP (addP (nextP p) (1 - h.side) over) h.side = haveP p h.side := by
    rw [haveP_add (sideB hhok) (by have := sideB hhok; omega), if_neg (by omega), haveP_next]
    omega
  rw [e12] at rj
  have k711 : Kp [] w3 w11 := (((hk4.trans k46).trans hk7).trans k710).trans_new hk11 (new1 (by omega))
  repeat (first|apply cA|apply cD|apply cE)
  refine CG.tail mixed 14 [0, 1, 2, 3, 4, 5, 6, 7, 8, 9, 10, 11, 12, 13] (by kernel_rfl) ?_
  repeat (refine cY rfl rfl rfl (by first|((first|apply qia|apply qmv|apply qlc|apply qfa|apply qad|apply qsb)<;>(first|exact rfl|assumption|exact Ar.mk (by omega)|exact List.not_mem_nil|fail))|fail) ?_)
  refine Der.tl (fun w12 hk12 _ _ => ?_)
  have hB612 := hB611.kp0 hk12
  clear rj q1 q2
  refine SG.store rfl rfl (by exact rho_of rfl) (by exact rho_of rfl) hB612 rfl (by show 0 + 9 + j * 1 + 1 ≤ _; simp [pc_length]; omega) rfl (fun w13 hk13 hB613 => ?_)
  have hB613 : Blk w13 b6 (.cells (spl (pc (addP (nextP p) (1 - h.side) over) (.slice a6 p.held.length c6)) (9 + j) [.int .i64 (haveP (addP (nextP p) (1 - h.side) over) h.side + (h.amt - over))]).toArray 36) := by
    have e9 : 9 + j = 0 + 9 + j * 1 := by omega
    have e13 : haveP (addP (nextP p) (1 - h.side) over) h.side + (h.amt - over) = haveP p h.side + h.amt - over := by rw [e12]; omega
    rw [e9, e13]
    exact hB613
  rw [hj, pc_side hj2, ← hj] at hB613
  have k313 : Kp [] w3 w13 := (k711.trans hk12).trans_new hk13 (new1 (by omega))
  have k13 := k3.trans k313
  have hB213 := (((hB29.kp0 hk10).kp hk11 (nm1 (by have := hB29.lt; have := hB2.lt; omega))).kp0 hk12).kp hk13 (nm1 (by have := hB2.lt; omega))
  have hB413 := (((hB49.kp0 hk10).kp hk11 (nm1 (by omega))).kp0 hk12).kp hk13 (nm1 (by omega))
  obtain ⟨-, -, -, -, r4, -⟩ := pc_rows hB213
  have hSl : Sl hc 11 w13 (some ⟨ba, oa, none⟩) p.held := hS.kp0 k13
  have hSt := hSl.take k
  have hSf := hSl.fromJ (j := k + 1) hcap
  have hlt : (p.held.take k).length = k := by rw [List.length_take]; omega
  have hld : (p.held.drop (k + 1)).length = p.held.length - (k + 1) := List.length_drop
  have s13 := k313.size
  repeat (first|apply cA|apply cD|apply cE)
  refine CG.free mixed 11 [1, 2, 3, 4, 6, 7, 8, 9, 10, 0, 5] [(0, gE w13.heap.size 84), (5, gO w13.heap.size 84 hc 11 (p.held.take k))] (by kernel_rfl) (by intro q hq y; simp at hq; rcases hq with rfl | rfl; exact gE_stab y; exact gO_stab y) ?_
  repeat (refine cZ rfl rfl rfl rfl (by first|((first|apply qto|apply qmv|apply qlc|apply qfa|apply qad|apply qto)<;>(first|exact rfl|assumption|exact Ar.mk (by omega)|exact List.not_mem_nil|fail))|fail) ?_)
  refine cZ rfl rfl rfl rfl (qfr (j := k + 1) rfl rfl rfl ⟨by omega⟩) ?_
  refine DerX.empty rfl rfl rfl (Nat.le_refl _) (fun b0 => ?_)
  refine DerX.cloneO (a := some ⟨ba, oa, none⟩) (c := c) (p.held.take k) hc_length hc_one rfl rfl rfl rfl (by exact rho_of rfl) (by rw [hlt]; exact rho_of rfl) rfl rfl rfl (by simp only [maxLen]; omega) (by show (p.held.take k).length * 32 ≤ _; omega) (fun W hk hF => ⟨hSt.kp0 hk, hF _ (.head _) (by kernel_rfl)⟩) (fun v => ?_)
  refine DerX.tl (fun w14 hk14 hF => ?_)
  have ho : w14.ownsRow w13.heap.size 84 11 v (p.held.take k).length (flt hc (p.held.take k)) := hF _ (.head _)
  have hB614 := hB613.kp0 hk14
  have hB414 := hB413.kp0 hk14
  clear hF r4
  refine SG.appO (enc := hc) (xs := p.held.take k) (ys := p.held.drop (k + 1)) (base := w13.heap.size) rfl rfl rfl (by exact rho_of rfl) (by exact rho_of rfl) (by rw [hld]) rfl rfl rfl hc_length hc_one ho (hSf.kp0 hk14) (by rw [hld]; simp only [maxLen]; omega) (by rw [hlt, hld]; show (k + (p.held.length - (k + 1))) * 32 ≤ _; omega) hk14.size (fun v9 w15 hk15 ho15 _ => ?_)
  have hB615 := hB614.kp hk15 (fun hm => own_neb ho (by decide) hB614 b6 (ownB_mem hm) (by simp))
  have hB415 := hB414.kp hk15 (fun hm => by have := own_geB ho _ (ownB_mem hm); omega)
  obtain ⟨a9, c9, rfl, _, _⟩ := Sl.own hc_length ho15 rfl
  repeat (first|refine cV rfl rfl rfl rfl (by first|(apply qfa<;>(exact rfl))|fail) ?_)
  refine SG.store rfl rfl (by exact rho_of rfl) (by exact rho_of rfl) hB615 rfl (by show 0 + 11 + 1 ≤ _; simp [pc_length]) rfl (fun w16 hk16 hB616 => ?_)
  have eq : freeQ p n over = { addP (addP p (1 - h.side) over) h.side (h.amt - over) with held := cutL p.held k } := by
    unfold freeQ
    rw [hat]
    show partP p (placeN p.held n) h over = _
    rw [hk]
    rfl
  have hB616 : Blk w16 b6 (.cells (spl (pc (addP (addP (nextP p) (1 - h.side) over) h.side (h.amt - over)) (.slice a6 p.held.length c6)) 11 [.slice a9 (cutL p.held k).length c9]).toArray 36) := hB616
  rw [pc_held, pc_part p _ _ _ _ (cutL p.held k), ← eq] at hB616
  have ho16 : w16.ownsRow w13.heap.size 84 11 (.slice a9 (cutL p.held k).length c9) (cutL p.held k).length (flt hc (cutL p.held k)) := own_kp ho15 hk16 (own_neb ho15 (by decide) hB615)
  have hR6 : Row w16 b6 0 (pc (nextP (freeQ p n over)) (.slice a9 (cutL p.held k).length c9)) := Row.all hB616 rfl
  have hB416 := hB415.kp hk16 (nm1 (by omega))
  have k316 : Kp [] w3 w16 := ((k313.trans hk14).trans_new hk15 (own_new ho s13)).trans_new hk16 (new1 (by omega))
  repeat (first|apply cA|apply cB|apply cD|apply cE|refine cV rfl rfl rfl rfl (by first|(apply qla<;>(first|exact rfl|assumption|exact List.not_mem_nil|apply pc_length))|fail) ?_)
  refine SG.setAll (l := pc (nextP (freeQ p n over)) (.slice a9 (cutL p.held k).length c9)) rfl rfl (by exact rho_of rfl) (by exact rho_of rfl) hB416 (pc_length _ _) rfl (pc_one _ _ _ _) (fun w17 hk17 hB417 => ?_)
  have hr : Row w17 b4 0 (pc (nextP (freeQ p n over)) (.slice a9 (cutL p.held k).length c9)) := Row.all hB417 rfl
  have ho17 := own_kp ho16 hk17 (own_neb ho16 (by decide) hB416)
  repeat (first|apply cD|apply cE|apply cH|refine cV rfl rfl rfl rfl (by first|(apply qas<;>(exact rfl))|fail) ?_)
  refine ret2 (Or.inl rfl) Tryz.results59 (ResV.agg rfl rfl hr (pc_length _ _)) (by first | exact ResV.tmp rfl | exact ResV.agg rfl rfl (by assumption) (by first | exact dc_length _ | exact nc_length _ | exact rc_length _ _ _ | exact ec_length _ | exact dl_length _ _ _ _ | rfl) | exact ResV.cell rfl rfl (by assumption)) ?_
  have e17 : (nextP (freeQ p n over)).held = cutL p.held k := by rw [eq]; rfl
  have hfin : w17.ownsRow w.heap.size 84 11 (.slice a9 (cutL p.held k).length c9) (nextP (freeQ p n over)).held.length (flt hc (nextP (freeQ p n over)).held) := by
    rw [e17]
    exact own_mono ho17 k13.size
  exact ⟨_, by rw [e], (k3.trans k316).trans_new hk17 (new1 (by omega)), by rw [e]; exact ⟨fun _ => ⟨_, rfl, hfin⟩, fun h => absurd rfl h⟩⟩
set_option maxHeartbeats 32000000 in
theorem rback_spec {w : World} {a : Option Addr} {c : Nat} (p : Pu) (n : Dg) (over : Int) (hS : Sl hc 11 w a p.held) (hl : p.held.length ≤ 1000) (hcap : p.held.length ≤ c) : Calls Tryz.prog 61 #[pv p (.slice a p.held.length c), dv n, .int .i64 over] w (fun e w' => ∃ v, e = .returned (.tuple #[v, .int .i64 (chgZ p (backE p n over))]) ∧ Kp [] w w' ∧ RPu w' w.heap.size v (chgZ p (backE p n over)) (nextP (freeQ p n 0))) := by
  refine enter3 Tryz.func61 rfl Tryz.ntmps61 rfl ?_
  repeat (first|apply cA|apply cB)
  refine SG.box rfl rfl rfl (by exact rho_of rfl) (fun b2 w1 hk1 hb2 hB2 => ?_)
  refine SG.box rfl rfl rfl (by exact rho_of rfl) (fun b3 w2 hk2 hb3 hB3 => ?_)
  have hB3 : Blk w2 b3 (.cells (dc n).toArray 32) := hB3
  refine SG.alloc rfl rfl rfl (fun b4 w3 hk3 hb4 hB4 => ?_)
  have hB2 : Blk w3 b2 (.cells (pc p (.slice a p.held.length c)).toArray 36) := (hB2.kp0 hk2).kp0 hk3
  have l2 := hB2.lt
  have hB3 := hB3.kp0 hk3
  have k3 := (hk1.trans hk2).trans hk3
  have s1 := hk1.size
  have s2 := hk2.size
  have s3 := hk3.size
  have l4 := hB4.lt
  have hR2 : Row w3 b2 0 (pc p (.slice a p.held.length c)) := Row.all hB2 rfl
  repeat (first|apply cA|apply cB|apply cD|apply cE|refine cV rfl rfl rfl rfl (by first|((first|apply qas|apply qla)<;>(first|exact rfl|assumption|exact List.not_mem_nil|apply pc_length))|fail) ?_)
  refine SG.call rfl rfl rfl (vs := [pv p (.slice a p.held.length c)]) (by repeat' (first | exact True.intro | exact rho_of rfl | refine And.intro ?_ ?_)) ((rnext_spec p (hS.kp0 k3) hl hcap).mono (fun e w4 hh => ?_))
  obtain ⟨v, he, hk4, hv0, hv1⟩ := hh
  refine ⟨_, he, ?_⟩
  clear hR2
  have hB4 := hB4.kp0 hk4
  have hB2 := hB2.kp0 hk4
  have hB3 := hB3.kp0 hk4
  have k4 := k3.trans hk4
  have s4 := hk4.size
  by_cases hp0 : preZ p = 0
  rotate_left
  · have e : chgZ p (backE p n over) = preZ p := if_pos hp0
    have hv := hv1 hp0
    subst hv
    repeat (first|refine cV rfl rfl rfl rfl (by first|((first|apply qmv|apply qxt)<;>(exact rfl))|fail) ?_)
    refine SG.alloc rfl rfl rfl (fun b6 w5 hk5 hb6 hB6 => ?_)
    refine SG.setAll (l := pc zPu (.slice none 0 0)) rfl rfl (by exact rho_of rfl) (by exact rho_of rfl) hB6 (pc_length _ _) rfl (pc_one _ _ _ _) (fun w6 hk6 hB6 => ?_)
    have k46 : Kp [] w4 w6 := hk5.trans_new hk6 (new1 (by omega))
    have hB4 := hB4.kp0 k46
    have hz : preZ p ≠ 0 := hp0
    generalize preZ p = z at hz e
    repeat (first|apply cA|apply cB|apply cD|apply cE|refine cV rfl rfl rfl rfl (by first|((first|apply qni|apply qmv|apply qas|apply qni)<;>(first|exact rfl|exact dcf (by first|assumption|omega)|fail))|fail) ?_)
    refine dA rfl (by exact rho_of rfl) rfl ?_
    repeat (first|apply cA|apply cB)
    refine cV rfl rfl rfl rfl (vals_build rfl rbz0) ?_
    repeat (first|refine cV rfl rfl rfl rfl (by first|(apply qmv<;>(exact rfl))|fail) ?_)
    refine SG.setAll (l := pc zPu (.slice none 0 0)) rfl rfl (by exact rho_of rfl) (by exact rho_of rfl) hB4 (pc_length _ _) rfl (pc_one _ _ _ _) (fun wz hkz hBz => ?_)
    have hr : Row wz b4 0 (pc zPu (.slice none 0 0)) := Row.all hBz rfl
    repeat (first|apply cD|apply cE|apply cH|apply cK|refine cV rfl rfl rfl rfl (by first|(apply qas<;>(exact rfl))|fail) ?_)
    refine ret2 (Or.inl rfl) Tryz.results61 (ResV.agg rfl rfl hr (pc_length _ _)) (by first | exact ResV.tmp rfl | exact ResV.agg rfl rfl (by assumption) (by first | exact dc_length _ | exact nc_length _ | exact rc_length _ _ _ | exact ec_length _ | exact dl_length _ _ _ _ | rfl) | exact ResV.cell rfl rfl (by assumption)) ?_
    exact ⟨_, by rw [e], (k4.trans k46).trans_new hkz (new1 (by omega)), by rw [e]; exact ⟨fun h => absurd h hz, fun _ => rfl⟩⟩
  have e0 : ∀ z, backE p n over = z → chgZ p (backE p n over) = z := fun z hz => by unfold chgZ; rw [if_neg (fun k => k hp0), hz]
  obtain ⟨s, rfl, ho⟩ := hv0 hp0
  obtain ⟨a6, c6, rfl, _, _⟩ := Sl.own hc_length ho rfl
  rw [hp0]
  have hok : p.Ok := by
    unfold preZ at hp0
    by_cases hc0 : checkZ p = 0
    · exact pu_ok hc0
    · rw [if_pos hc0] at hp0; cases hp0
  have hl16 := hok.l
  repeat (first|refine cV rfl rfl rfl rfl (by first|((first|apply qmv|apply qxt)<;>(exact rfl))|fail) ?_)
  refine SG.alloc rfl rfl rfl (fun b6 w5 hk5 hb6 hB6 => ?_)
  refine SG.setAll (l := pc (nextP p) (.slice a6 (nextP p).held.length c6)) rfl rfl (by exact rho_of rfl) (by exact rho_of rfl) hB6 (pc_length _ _) rfl (pc_one _ _ _ _) (fun w6 hk6 hB6 => ?_)
  have hB6 : Blk w6 b6 (.cells (pc (nextP p) (.slice a6 p.held.length c6)).toArray 36) := hB6
  have k46 : Kp [] w4 w6 := hk5.trans_new hk6 (new1 (by omega))
  have k6 := k4.trans k46
  have hB2 := hB2.kp0 k46
  have hB3 := hB3.kp0 k46
  have hB4 := hB4.kp0 k46
  have s46 := k46.size
  have l6 := hB6.lt
  have hR2 : Row w6 b2 0 (pc p (.slice a p.held.length c)) := Row.all hB2 rfl
  have hR3 : Row w6 b3 0 (dc n) := Row.all hB3 rfl
  repeat (first|apply cA|apply cB|apply cD|apply cE|refine cV rfl rfl rfl rfl (by first|((first|apply qni|apply qmv|apply qas|apply qni)<;>(first|exact rfl|exact dct (by first|assumption|omega)|fail))|fail) ?_)
  refine dB rfl (by exact rho_of rfl) rfl ?_
  repeat (first|apply cA|apply cB|apply cE|apply cF|refine cV rfl rfl rfl rfl (by first|(apply qla<;>(first|exact rfl|assumption|exact List.not_mem_nil|apply dc_length|apply pc_length))|fail) ?_)
  refine SG.ret rfl rfl rfl (vs := [pv p (.slice a p.held.length c), dv n]) (by repeat' (first | exact True.intro | exact rho_of rfl | refine And.intro ?_ ?_)) (rplace_spec p n (hS.kp0 k6) (by omega)) (fun w7 hk7 => ?_)
  have k7 := k6.trans hk7
  have hB47 := hB4.kp0 hk7
  have hB27 := hB2.kp0 hk7
  have hB37 := hB3.kp0 hk7
  have hB67 := hB6.kp0 hk7
  clear hR2 hR3
  by_cases g5 : placeN p.held n < p.held.length
  rotate_left
  · have e := e0 9 (by unfold backE; rw [atP_none g5])
    have ez : placeZ p.held n = -1 := if_neg g5
    have g6 : (-1 : Int) < 0 := by omega
    rw [ez]
    repeat (first|apply cA|apply cB|apply cD|apply cE|refine cV rfl rfl rfl rfl (by first|((first|apply qmv|apply qas|apply qls)<;>(first|exact rfl|exact dct (by first|assumption|omega)|fail))|fail) ?_)
    refine dA rfl (by exact rho_of rfl) rfl ?_
    repeat (first|apply cA|apply cB)
    refine cV rfl rfl rfl rfl (vals_build rfl rbz0) ?_
    skip
    refine SG.setAll (l := pc zPu (.slice none 0 0)) rfl rfl (by exact rho_of rfl) (by exact rho_of rfl) hB47 (pc_length _ _) rfl (pc_one _ _ _ _) (fun wz hkz hBz => ?_)
    have hr : Row wz b4 0 (pc zPu (.slice none 0 0)) := Row.all hBz rfl
    repeat (first|apply cD|apply cE|apply cH|apply cK|refine cV rfl rfl rfl rfl (by first|(apply qas<;>(exact rfl))|fail) ?_)
    refine ret2 (Or.inl rfl) Tryz.results61 (ResV.agg rfl rfl hr (pc_length _ _)) (by first | exact ResV.tmp rfl | exact ResV.agg rfl rfl (by assumption) (by first | exact dc_length _ | exact nc_length _ | exact rc_length _ _ _ | exact ec_length _ | exact dl_length _ _ _ _ | rfl) | exact ResV.cell rfl rfl (by assumption)) ?_
    exact ⟨_, by rw [e], (k7).trans_new hkz (new1 (by omega)), by rw [e]; exact ⟨fun h => absurd h (by decide), fun _ => rfl⟩⟩
  have ez : placeZ p.held n = (placeN p.held n : Int) := if_pos g5
  obtain ⟨k, hk⟩ : ∃ k, placeN p.held n = k := ⟨_, rfl⟩
  have hkl : k < p.held.length := by omega
  have hat : atP p n = some p.held[k] := by
    unfold atP
    rw [hk, List.getElem?_eq_getElem hkl]
  have hm := List.getElem_mem hkl
  have hhok := hok.all _ hm
  rw [ez, hk]
  have g6 : ¬ (k : Int) < 0 := by omega
  have g7 : (k : Int) < (p.held.length : Int) := by omega
  have hS7 := hS.kp0 k7
  obtain ⟨ba, oa, rfl, hri⟩ := hS7.at hkl
  generalize hh : p.held[k] = h at hat hm hhok hri
  obtain ⟨-, -, -, q3, -⟩ : True ∧ True ∧ True ∧ Row w7 ba (oa + k * 11 + 10) [.int .i64 h.til] ∧ True := ⟨trivial, trivial, trivial, by
    have l1 : (dc h.name).length = 8 := dc_length _
    have := hri.part (dc h.name ++ [.int .i64 h.amt, .int .i64 h.side]) [.int .i64 h.til] [] (by simp [hc])
    simpa [l1] using this, trivial⟩
  obtain ⟨-, -, -, -, r4, -⟩ := pc_rows hB27
  repeat (first|apply cA|apply cB|apply cD|apply cE|refine cV rfl rfl rfl rfl (by first|((first|apply qmv|apply qas|apply qls)<;>(first|exact rfl|exact dcf (by first|assumption|omega)|fail))|fail) ?_)
  refine dB rfl (by exact rho_of rfl) rfl ?_
  by_cases g8 : over ≤ h.til
  · have e := e0 20 (by unfold backE; rw [hat]; exact if_pos g8)
    repeat (first|apply cA|apply cB|apply cD|apply cE|apply cF|refine cV rfl rfl rfl rfl (by first|((first|apply qmv|apply qlc|apply qfa|apply qix|apply qle)<;>(first|exact rfl|assumption|exact Ar.mk (by omega)|exact dct (by first|assumption|omega)|exact List.not_mem_nil|fail))|fail) ?_)
    refine dA rfl (by exact rho_of rfl) rfl ?_
    repeat (first|apply cA|apply cB)
    refine cV rfl rfl rfl rfl (vals_build rfl rbz0) ?_
    skip
    refine SG.setAll (l := pc zPu (.slice none 0 0)) rfl rfl (by exact rho_of rfl) (by exact rho_of rfl) hB47 (pc_length _ _) rfl (pc_one _ _ _ _) (fun wz hkz hBz => ?_)
    have hr : Row wz b4 0 (pc zPu (.slice none 0 0)) := Row.all hBz rfl
    repeat (first|apply cD|apply cE|apply cH|apply cK|refine cV rfl rfl rfl rfl (by first|(apply qas<;>(exact rfl))|fail) ?_)
    refine ret2 (Or.inl rfl) Tryz.results61 (ResV.agg rfl rfl hr (pc_length _ _)) (by first | exact ResV.tmp rfl | exact ResV.agg rfl rfl (by assumption) (by first | exact dc_length _ | exact nc_length _ | exact rc_length _ _ _ | exact ec_length _ | exact dl_length _ _ _ _ | rfl) | exact ResV.cell rfl rfl (by assumption)) ?_
    exact ⟨_, by rw [e], (k7).trans_new hkz (new1 (by omega)), by rw [e]; exact ⟨fun h => absurd h (by decide), fun _ => rfl⟩⟩
  have e := e0 0 (by unfold backE; rw [hat]; exact if_neg g8)
  have a0 := hhok.a0
  have ef : chgZ p (freeE p n 0) = 0 := by
    unfold chgZ freeE
    rw [if_neg (fun k => k hp0), hat]
    exact if_neg (by omega)
  have hR2 : Row w7 b2 0 (pc p (.slice (some ⟨ba, oa, none⟩) p.held.length c)) := Row.all hB27 rfl
  have hR3 : Row w7 b3 0 (dc n) := Row.all hB37 rfl
  repeat (first|apply cA|apply cB|apply cD|apply cE|apply cF|refine cV rfl rfl rfl rfl (by first|((first|apply qmv|apply qlc|apply qfa|apply qix|apply qle)<;>(first|exact rfl|assumption|exact Ar.mk (by omega)|exact dcf (by first|assumption|omega)|exact List.not_mem_nil|fail))|fail) ?_)
  refine dB rfl (by exact rho_of rfl) rfl ?_
  clear r4 q3 hri
  repeat (first|apply cA|apply cB|apply cE|apply cF|refine cV rfl rfl rfl rfl (by first|(apply qla<;>(first|exact rfl|assumption|exact List.not_mem_nil|apply dc_length|apply pc_length))|fail) ?_)
  refine SG.call rfl rfl rfl (vs := [pv p (.slice (some ⟨ba, oa, none⟩) p.held.length c), dv n, .int .i64 0]) (by repeat' (first | exact True.intro | exact rho_of rfl | refine And.intro ?_ ?_)) ((rfree_spec p n 0 (hS.kp0 k7) hl hcap).mono (fun e' w8 hh => ?_))
  obtain ⟨v8, he8, hk8, hv8, -⟩ := hh
  rw [ef] at he8
  refine ⟨_, he8, ?_⟩
  obtain ⟨s8, rfl, ho8⟩ := hv8 ef
  obtain ⟨a8, c8, rfl, _, _⟩ := Sl.own hc_length ho8 rfl
  have hB48 := hB47.kp0 hk8
  clear hR2 hR3
  repeat (first|refine cV rfl rfl rfl rfl (by first|(apply qxt<;>(exact rfl))|fail) ?_)
  refine SG.setAll (l := pc (nextP (freeQ p n 0)) (.slice a8 (nextP (freeQ p n 0)).held.length c8)) rfl rfl (by exact rho_of rfl) (by exact rho_of rfl) hB48 (pc_length _ _) rfl (pc_one _ _ _ _) (fun w9 hk9 hB49 => ?_)
  have hr : Row w9 b4 0 (pc (nextP (freeQ p n 0)) (.slice a8 (nextP (freeQ p n 0)).held.length c8)) := Row.all hB49 rfl
  have ho9 := own_kp ho8 hk9 (own_neb ho8 (by decide) hB48)
  repeat (first|apply cD|apply cE|apply cH|refine cV rfl rfl rfl rfl (by first|(apply qas<;>(exact rfl))|fail) ?_)
  refine ret2 (Or.inl rfl) Tryz.results61 (ResV.agg rfl rfl hr (pc_length _ _)) (by first | exact ResV.tmp rfl | exact ResV.agg rfl rfl (by assumption) (by first | exact dc_length _ | exact nc_length _ | exact rc_length _ _ _ | exact ec_length _ | exact dl_length _ _ _ _ | rfl) | exact ResV.cell rfl rfl (by assumption)) ?_
  exact ⟨_, by rw [e], (k7.trans hk8).trans_new hk9 (new1 (by omega)), by rw [e]; exact ⟨fun _ => ⟨_, rfl, own_mono ho9 k7.size⟩, fun h => absurd rfl h⟩⟩
end Go.Proofs.YtajllbdeoopimaaGreat
namespace Go.Proofs.YtajllbdeoopimaaGreat
set_option linter.unusedVariables false
abbrev Pl := List (Dg × Ps)
structure ST where
  l : Pl
  m : Mp
section
variable {κ ν : Type} [DecidableEq κ]
def sumA (f : ν → Int) : List (κ × ν) → Int
  | [] => 0
  | x :: r => f x.2 + sumA f r
theorem sumA_put (f : ν → Int) {k : κ} {v0 v : ν} : ∀ {l : List (κ × ν)}, alook l k = some v0 → sumA f (aput l k v) = sumA f l - f v0 + f v
  | [], h => by cases h
  | (k', u) :: l, h => by
    simp only [alook] at h
    simp only [aput]
    by_cases e : k' = k
    · rw [if_pos e] at h
      rw [if_pos e]
      cases h
      simp only [sumA]
      omega
    · rw [if_neg e] at h
      rw [if_neg e]
      simp only [sumA]
      rw [sumA_put f h]
      omega
theorem sumA_new (f : ν → Int) {k : κ} {v : ν} : ∀ {l : List (κ × ν)}, alook l k = none → sumA f (aput l k v) = sumA f l + f v
  | [], _ => by simp [aput, sumA]
  | (k', u) :: l, h => by
    simp only [alook] at h
    simp only [aput]
    by_cases e : k' = k
    · rw [if_pos e] at h
      cases h
    · rw [if_neg e] at h
      rw [if_neg e]
      simp only [sumA]
      rw [sumA_new f h]
      omega
theorem del_none {k : κ} : ∀ {l : List (κ × ν)}, alook l k = none → l.filter (fun q => decide (q.1 ≠ k)) = l
  | [], _ => rfl
  | (k', u) :: l, h => by
    simp only [alook] at h
    by_cases e : k' = k
    · rw [if_pos e] at h
      cases h
    · rw [if_neg e] at h
      rw [List.filter_cons_of_pos (by simp [e]), del_none h]
theorem look_none {k : κ} {l : List (κ × ν)} (h : k ∉ l.map (·.1)) : alook l k = none := alook_none.2 (fun p hp e => h (e ▸ List.mem_map_of_mem (f := (·.1)) hp))
theorem sumA_del (f : ν → Int) {k : κ} {v : ν} : ∀ {l : List (κ × ν)}, (l.map (·.1)).Nodup → alook l k = some v → sumA f (l.filter (fun q => decide (q.1 ≠ k))) = sumA f l - f v
  | [], _, h => by cases h
  | (k', u) :: l, hd, h => by
    have hd' := List.nodup_cons.1 hd
    simp only [alook] at h
    by_cases e : k' = k
    · rw [if_pos e] at h
      cases h
      have h2 : alook l k = none := look_none (by rw [← e]; exact hd'.1)
      rw [List.filter_cons_of_neg (by simp [e]), del_none h2]
      simp only [sumA]
      omega
    · rw [if_neg e] at h
      rw [List.filter_cons_of_pos (by simp [e])]
      simp only [sumA]
      rw [sumA_del f hd'.2 h]
      omega
theorem look_del (k z : κ) : ∀ l : List (κ × ν), alook (l.filter (fun q => decide (q.1 ≠ k))) z = if z = k then none else alook l z
  | [] => by simp [alook]
  | (k', u) :: l => by
    by_cases e : k' = k
    · rw [List.filter_cons_of_neg (by simp [e]), look_del k z l]
      by_cases e2 : z = k
      · rw [if_pos e2, if_pos e2]
      · rw [if_neg e2, if_neg e2]
        simp only [alook]
        rw [if_neg (fun h => e2 (h.symm.trans e))]
    · rw [List.filter_cons_of_pos (by simp [e])]
      simp only [alook]
      by_cases e3 : k' = z
      · rw [if_pos e3, if_pos e3, if_neg (fun h => e (e3.trans h))]
      · rw [if_neg e3, if_neg e3, look_del k z l]
theorem keys_put {k : κ} {v0 v : ν} : ∀ {l : List (κ × ν)}, alook l k = some v0 → (aput l k v).map (·.1) = l.map (·.1)
  | [], h => by cases h
  | (k', u) :: l, h => by
    simp only [alook] at h
    simp only [aput]
    by_cases e : k' = k
    · rw [if_pos e]; rfl
    · rw [if_neg e] at h
      rw [if_neg e, List.map_cons, List.map_cons, keys_put h]
theorem nd_new {k : κ} {v : ν} {l : List (κ × ν)} (h : alook l k = none) (hd : (l.map (·.1)).Nodup) : ((aput l k v).map (·.1)).Nodup := by
  rw [aput_new v h, List.map_append]
  refine List.nodup_append.2 ⟨hd, by simp, fun a ha b hb e => ?_⟩
  simp at hb
  obtain ⟨y, hy, ey⟩ := List.mem_map.1 ha
  exact alook_none.1 h y hy (ey.trans (e.trans hb))
theorem nd_del {k : κ} {l : List (κ × ν)} (hd : (l.map (·.1)).Nodup) : ((l.filter (fun q => decide (q.1 ≠ k))).map (·.1)).Nodup := List.Nodup.sublist (List.Sublist.map _ List.filter_sublist) hd
end
def nearQ (x : Ps) (n : Dg) (amt til : Int) : Hd := ⟨n, amt, 1 - x.2, til⟩
def farQ (win : Int) (y : Ps) (n : Dg) (amt til : Int) : Hd := ⟨n, amt, y.2, til - win⟩
def fwdZ (win : Int) (s : ST) (now : Int) (f t n : Dg) (amt til : Int) : Int :=
  if now < 0 ∨ 1099511627776 < now then 2 else match alook s.l f, alook s.l t with
  | some x, some y => if f = t then 1 else if (alook s.m n).isSome then 7 else if til < now + win then 20
      else if chgZ x.1 (holdE x.1 (nearQ x n amt til)) ≠ 0 then chgZ x.1 (holdE x.1 (nearQ x n amt til)) else chgZ y.1 (holdE y.1 (farQ win y n amt til))
  | _, _ => 9
def fwdS (win : Int) (s : ST) (f t n : Dg) (amt til : Int) : ST := match alook s.l f, alook s.l t with
  | some x, some y => ⟨aput (aput s.l f (nextP (holdQ x.1 (nearQ x n amt til)), x.2)) t (nextP (holdQ y.1 (farQ win y n amt til)), y.2), aput s.m n (fwdR win f t n amt til)⟩
  | _, _ => s
def setZ (s : ST) (now : Int) (n : Dg) (over : Int) : Int :=
  if now < 0 ∨ 1099511627776 < now then 2 else match alook s.m n with
  | none => 9
  | some r => if r.out = -1 then 10 else if r.out < now then 19 else match alook s.l r.frm, alook s.l r.to with
    | some x, some y => if chgZ y.1 (freeE y.1 n over) ≠ 0 then chgZ y.1 (freeE y.1 n over) else chgZ x.1 (freeE x.1 n over)
    | _, _ => 0
def setS (s : ST) (n : Dg) (over : Int) : ST := match alook s.m n with
  | none => s
  | some r => match alook s.l r.frm, alook s.l r.to with
    | some x, some y => ⟨aput (aput s.l r.to (nextP (freeQ y.1 n over), y.2)) r.frm (nextP (freeQ x.1 n over), x.2), s.m.filter (fun q => decide (q.1 ≠ n))⟩
    | _, _ => s
def namedL (l : Pl) (n : Dg) : Bool := l.any (fun x => decide (x.2.1.name = n))
def openZ (l : Pl) (k : Dg) (p : Pu) (side : Int) : Int := if checkZ p ≠ 0 then checkZ p else if side ≠ 0 ∧ side ≠ 1 then 28 else if p.held.length ≠ 0 then 10 else if (alook l k).isSome ∨ namedL l p.name = true then 7 else if 16 ≤ l.length then 8 else 0
def bkZ (x : Ps) (n : Dg) (now : Int) : Bool := decide (chgZ x.1 (backE x.1 n now) = 0)
def bkP (x : Ps) (n : Dg) : Ps := (nextP (freeQ x.1 n 0), x.2)
def Pr.gone (r : Pr) : Pr := { r with out := -1 }
def exp2 (now : Int) (s : ST) (n : Dg) (r : Pr) : ST × Bool := if now ≤ r.inn then (s, false) else match alook s.l r.frm with
  | some x => if bkZ x n now = true then (⟨aput s.l r.frm (bkP x n), s.m.filter (fun q => decide (q.1 ≠ n))⟩, true) else (s, false)
  | none => (s, false)
def exp1 (now : Int) (s : ST) (n : Dg) : ST × Bool := match alook s.m n with
  | none => (s, false)
  | some r => if r.out = -1 then exp2 now s n r else if now ≤ r.out then (s, false) else match alook s.l r.to with
    | none => (s, false)
    | some y => if bkZ y n now = true then exp2 now ⟨aput s.l r.to (bkP y n), aput s.m n r.gone⟩ n r.gone else (s, false)
def expF (now : Int) (q : ST × List Dg) (n : Dg) : ST × List Dg := ((exp1 now q.1 n).1, if (exp1 now q.1 n).2 = true then q.2 ++ [n] else q.2)
def expAll (now : Int) (s : ST) : ST × List Dg := (srt (s.m.map (·.1))).foldl (expF now) (s, [])
/-- What is so of a pair. -/
structure PrOk (win : Int) (l : Pl) (n : Dg) (r : Pr) : Prop where
  nm : r.name = n
  ne : r.frm ≠ r.to
  a0 : 0 < r.amt
  x : ∃ x, alook l r.frm = some x ∧ atL x.1.held n = some ⟨n, r.amt, 1 - x.2, r.inn⟩
  y : ∃ y, alook l r.to = some y ∧ ((r.out = -1 ∧ atL y.1.held n = none) ∨ (0 ≤ r.out ∧ r.inn = r.out + win ∧ atL y.1.held n = some ⟨n, r.amt, y.2, r.out⟩))
def passed (r : Pr) : Int := if r.out = -1 then r.amt else 0
structure Inv (win : Int) (s : ST) : Prop where
  kl : (s.l.map (·.1)).Nodup
  km : (s.m.map (·.1)).Nodup
  len : s.l.length ≤ 16
  ok : ∀ k x, alook s.l k = some x → x.1.Ok ∧ (x.2 = 0 ∨ x.2 = 1)
  pr : ∀ n r, alook s.m n = some r → PrOk win s.l n r
  he : ∀ k x, alook s.l k = some x → ∀ h ∈ x.1.held, ∃ r, alook s.m h.name = some r ∧ (r.frm = k ∨ (r.to = k ∧ r.out ≠ -1))
  bal : sumA onL s.l = sumA backL s.l + sumA passed s.m
theorem inv0 (win : Int) : Inv win ⟨[], []⟩ := ⟨List.nodup_nil, List.nodup_nil, Nat.zero_le _, fun k x h => (by cases h), fun n r h => (by cases h), fun k x h => (by cases h), rfl⟩
/-- The purses are as they were but for what goes by some names. -/
def Sim (n : Dg) (l l' : Pl) : Prop := ∀ k x, alook l k = some x → ∃ x', alook l' k = some x' ∧ x'.2 = x.2 ∧ atL x'.1.held n = atL x.1.held n
theorem Sim.trans {n : Dg} {a b c : Pl} (h : Sim n a b) (h' : Sim n b c) : Sim n a c := fun k x hx => by
  obtain ⟨y, h1, h2, h3⟩ := h k x hx
  obtain ⟨z, h4, h5, h6⟩ := h' k y h1
  exact ⟨z, h4, h5.trans h2, h6.trans h3⟩
theorem Sim.put {n k : Dg} {l : Pl} {x x' : Ps} (h : alook l k = some x) (h1 : x'.2 = x.2) (h2 : atL x'.1.held n = atL x.1.held n) : Sim n l (aput l k x') := fun j y hy => by
  rw [alook_put]
  by_cases e : k = j
  · subst e
    rw [h] at hy
    cases hy
    exact ⟨x', if_pos rfl, h1, h2⟩
  · exact ⟨y, by rw [if_neg e]; exact hy, rfl, rfl⟩
theorem Sim.new {n k : Dg} {l : Pl} {x' : Ps} (h : alook l k = none) : Sim n l (aput l k x') := fun j y hy => by
  rw [alook_put]
  by_cases e : k = j
  · subst e
    rw [h] at hy
    cases hy
  · exact ⟨y, by rw [if_neg e]; exact hy, rfl, rfl⟩
theorem PrOk.sim {win : Int} {l l' : Pl} {n : Dg} {r : Pr} (h : PrOk win l n r) (hs : Sim n l l') : PrOk win l' n r := by
  obtain ⟨x, h1, h2⟩ := h.x
  obtain ⟨y, h3, h4⟩ := h.y
  obtain ⟨x', h5, h6, h7⟩ := hs _ _ h1
  obtain ⟨y', h8, h9, h10⟩ := hs _ _ h3
  exact ⟨h.nm, h.ne, h.a0, ⟨x', h5, by rw [h7, h2, h6]⟩, ⟨y', h8, by rw [h10, h9]; exact h4⟩⟩
theorem Held.at {p q : Pu} {h : Hd} (k : Held p q h) (n : Dg) : atL q.held n = if n = h.name then some h else atL p.held n := by
  rw [k.held, atL_app]
  by_cases e : n = h.name
  · rw [if_pos e, e, k.new]
    simp
  · rw [if_neg e]
    cases atL p.held n with
    | some x => rfl
    | none => exact if_neg (fun h2 => e h2.symm)
theorem Freed.at {p q : Pu} {n : Dg} {h : Hd} {over : Int} (k : Freed p q n h over) (z : Dg) : atL q.held z = if z = n then none else atL p.held z := by
  rw [k.held, atL_cut]
/-- The purses' totals, and the sides, stay. -/
def Tot (l l' : Pl) : Prop := ∀ k, (alook l' k).map (fun x => (sumP x.1, x.2)) = (alook l k).map (fun x => (sumP x.1, x.2))
theorem Tot.refl (l : Pl) : Tot l l := fun k => rfl
theorem Tot.trans {a b c : Pl} (h : Tot a b) (h' : Tot b c) : Tot a c := fun k => (h' k).trans (h k)
theorem Tot.put {l : Pl} {k : Dg} {x x' : Ps} (h : alook l k = some x) (h1 : sumP x'.1 = sumP x.1) (h2 : x'.2 = x.2) : Tot l (aput l k x') := fun j => by
  rw [alook_put]
  by_cases e : k = j
  · subst e
    rw [if_pos rfl, h, Option.map_some, Option.map_some, h1, h2]
  · rw [if_neg e]
/-- What a step leaves: all that is so stays so; totals stay; the hub has as much. -/
structure Stp (win : Int) (s s' : ST) : Prop where
  inv : Inv win s'
  tot : Tot s.l s'.l
  back : sumA backL s'.l = sumA backL s.l
  keys : s'.l.map (·.1) = s.l.map (·.1)
theorem Stp.refl {win : Int} {s : ST} (h : Inv win s) : Stp win s s := ⟨h, Tot.refl _, rfl, rfl⟩
theorem Stp.trans {win : Int} {a b c : ST} (h : Stp win a b) (h' : Stp win b c) : Stp win a c := ⟨h'.inv, h.tot.trans h'.tot, h'.back.trans h.back, h'.keys.trans h.keys⟩
theorem keys_len {l l' : Pl} (h : l'.map (·.1) = l.map (·.1)) : l'.length = l.length := by
  have := congrArg List.length h
  simpa using this
theorem fwd_stp {win : Int} {s : ST} (hi : Inv win s) (hw : 0 ≤ win) {now : Int} {f t n : Dg} {amt til : Int} (hz : fwdZ win s now f t n amt til = 0) : Stp win s (fwdS win s f t n amt til) := by
  unfold fwdZ at hz
  by_cases h1 : now < 0 ∨ 1099511627776 < now
  · rw [if_pos h1] at hz; cases hz
  rw [if_neg h1] at hz
  cases hf : alook s.l f with
  | none => rw [hf] at hz; cases hz
  | some x =>
  cases ht : alook s.l t with
  | none => rw [hf, ht] at hz; cases hz
  | some y =>
  rw [hf, ht] at hz
  simp only at hz
  by_cases h2 : f = t
  · rw [if_pos h2] at hz; cases hz
  rw [if_neg h2] at hz
  cases hn : alook s.m n with
  | some r => rw [hn] at hz; cases hz
  | none =>
  rw [hn] at hz
  rw [if_neg (by simp)] at hz
  by_cases h3 : til < now + win
  · rw [if_pos h3] at hz; cases hz
  rw [if_neg h3] at hz
  by_cases h4 : chgZ x.1 (holdE x.1 (nearQ x n amt til)) = 0
  rotate_left
  · rw [if_pos h4] at hz; exact absurd hz h4
  rw [if_neg (fun k => k h4)] at hz
  have kx := hold_ok h4
  have ky := hold_ok hz
  obtain ⟨_, sx⟩ := hi.ok f x hf
  obtain ⟨_, sy⟩ := hi.ok t y ht
  have e : fwdS win s f t n amt til = ⟨aput (aput s.l f (nextP (holdQ x.1 (nearQ x n amt til)), x.2)) t (nextP (holdQ y.1 (farQ win y n amt til)), y.2), aput s.m n (fwdR win f t n amt til)⟩ := by
    unfold fwdS
    rw [hf, ht]
  rw [e]
  generalize hX : nextP (holdQ x.1 (nearQ x n amt til)) = X at kx
  generalize hY : nextP (holdQ y.1 (farQ win y n amt til)) = Y at ky
  have ht' : alook (aput s.l f (X, x.2)) t = some y := by rw [alook_put, if_neg h2, ht]
  have hl1 : alook (aput (aput s.l f (X, x.2)) t (Y, y.2)) f = some (X, x.2) := by rw [alook_put, if_neg (fun h => h2 h.symm), alook_put, if_pos rfl]
  have hl2 : alook (aput (aput s.l f (X, x.2)) t (Y, y.2)) t = some (Y, y.2) := by rw [alook_put, if_pos rfl]
  have wx := kx.worth sx
  have wy := ky.worth sy
  have kk : (aput (aput s.l f (X, x.2)) t (Y, y.2)).map (·.1) = s.l.map (·.1) := by rw [keys_put ht', keys_put hf]
  have hback : sumA backL (aput (aput s.l f (X, x.2)) t (Y, y.2)) = sumA backL s.l := by
    rw [sumA_put backL ht', sumA_put backL hf, wx.1, wy.1]
    show sumA backL s.l - backL x + backL x - backL y + backL y = _
    omega
  refine ⟨⟨by rw [kk]; exact hi.kl, nd_new hn hi.km, by rw [keys_len kk]; exact hi.len, fun k z hz => ?_, fun m r hr => ?_, fun k z hz h hh => ?_, ?_⟩, (Tot.put (x' := (X, x.2)) hf kx.sum rfl).trans (Tot.put (x' := (Y, y.2)) ht' ky.sum rfl), hback, kk⟩
  · rw [alook_put] at hz
    by_cases e1 : t = k
    · rw [if_pos e1] at hz; cases hz; exact ⟨ky.qo, sy⟩
    · rw [if_neg e1, alook_put] at hz
      by_cases e2 : f = k
      · rw [if_pos e2] at hz; cases hz; exact ⟨kx.qo, sx⟩
      · rw [if_neg e2] at hz; exact hi.ok k z hz
  · simp only at hr
    rw [alook_put] at hr
    by_cases e1 : n = m
    · rw [if_pos e1] at hr
      cases hr
      subst e1
      have ao : 0 < amt := kx.ho.a0
      refine ⟨rfl, h2, ao, ⟨_, hl1, ?_⟩, ⟨_, hl2, Or.inr ⟨?_, ?_, ?_⟩⟩⟩
      · show atL X.held n = _
        rw [kx.at n, if_pos (show n = (nearQ x n amt til).name from rfl)]
        rfl
      · show 0 ≤ til - win
        omega
      · show til = til - win + win
        omega
      · show atL Y.held n = _
        rw [ky.at n, if_pos (show n = (farQ win y n amt til).name from rfl)]
        rfl
    · rw [if_neg e1] at hr
      refine (hi.pr m r hr).sim ((Sim.put (x' := (X, x.2)) hf rfl ?_).trans (Sim.put (x' := (Y, y.2)) ht' rfl ?_))
      · show atL X.held m = _
        rw [kx.at m, if_neg (show ¬ m = (nearQ x n amt til).name from fun h => e1 h.symm)]
      · show atL Y.held m = _
        rw [ky.at m, if_neg (show ¬ m = (farQ win y n amt til).name from fun h => e1 h.symm)]
  · simp only at hz ⊢
    have old : ∀ (z0 : Ps), alook s.l k = some z0 → h ∈ z0.1.held → ∃ r, alook (aput s.m n (fwdR win f t n amt til)) h.name = some r ∧ (r.frm = k ∨ (r.to = k ∧ r.out ≠ -1)) := fun z0 hz0 hh0 => by
      obtain ⟨r, h5, h6⟩ := hi.he k z0 hz0 h hh0
      refine ⟨r, ?_, h6⟩
      rw [alook_put, if_neg (fun e => ?_), h5]
      rw [← e, hn] at h5
      cases h5
    rw [alook_put] at hz
    by_cases e1 : t = k
    · rw [if_pos e1] at hz
      cases hz
      subst e1
      have hh : h ∈ Y.held := hh
      rw [ky.held] at hh
      rcases List.mem_append.1 hh with hh | hh
      · exact old y ht hh
      · rw [List.mem_singleton] at hh
        subst hh
        exact ⟨fwdR win f t n amt til, by show alook (aput s.m n _) n = _; rw [alook_put, if_pos rfl], Or.inr ⟨rfl, by show til - win ≠ -1; omega⟩⟩
    · rw [if_neg e1, alook_put] at hz
      by_cases e2 : f = k
      · rw [if_pos e2] at hz
        cases hz
        subst e2
        have hh : h ∈ X.held := hh
        rw [kx.held] at hh
        rcases List.mem_append.1 hh with hh | hh
        · exact old x hf hh
        · rw [List.mem_singleton] at hh
          subst hh
          exact ⟨fwdR win f t n amt til, by show alook (aput s.m n _) n = _; rw [alook_put, if_pos rfl], Or.inl rfl⟩
      · rw [if_neg e2] at hz
        exact old z hz hh
  · show sumA onL _ = sumA backL _ + sumA passed _
    rw [hback, sumA_put onL ht', sumA_put onL hf, wx.2, wy.2, sumA_new passed hn]
    have hp0 : passed (fwdR win f t n amt til) = 0 := if_neg (by show til - win ≠ -1; omega)
    rw [hp0]
    have := hi.bal
    show sumA onL s.l - onL x + (onL x + (if 1 - x.2 = x.2 then -amt else amt)) - onL y + (onL y + (if y.2 = y.2 then -amt else amt)) = _
    rw [if_neg (by omega), if_pos rfl]
    omega
/-- A purse that lets go of a name. -/
theorem del_stp {win : Int} {s : ST} {k n : Dg} {x : Ps} {q : Pu} {h : Hd} {over : Int} (hx : alook s.l k = some x) (kx : Freed x.1 q n h over) : (aput s.l k (q, x.2)).map (·.1) = s.l.map (·.1) ∧ Tot s.l (aput s.l k (q, x.2)) ∧ (∀ m, m ≠ n → Sim m s.l (aput s.l k (q, x.2))) :=
  ⟨keys_put hx, Tot.put (x' := (q, x.2)) hx kx.sum rfl, fun m hm => Sim.put hx rfl (by show atL q.held m = _; rw [kx.at m, if_neg hm])⟩
theorem freed_mem {p q : Pu} {n : Dg} {h : Hd} {over : Int} (k : Freed p q n h over) {x : Hd} (hx : x ∈ q.held) : x ∈ p.held ∧ x.name ≠ n := by
  rw [k.held] at hx
  have := List.mem_filter.1 hx
  exact ⟨this.1, by simpa using this.2⟩
theorem set_stp {win : Int} {s : ST} (hi : Inv win s) {now : Int} {n : Dg} {over : Int} (hz : setZ s now n over = 0) : Stp win s (setS s n over) := by
  unfold setZ at hz
  by_cases h1 : now < 0 ∨ 1099511627776 < now
  · rw [if_pos h1] at hz; cases hz
  rw [if_neg h1] at hz
  cases hn : alook s.m n with
  | none => rw [hn] at hz; cases hz
  | some r =>
  rw [hn] at hz
  simp only at hz
  have hp := hi.pr n r hn
  obtain ⟨x, hx, ax⟩ := hp.x
  obtain ⟨y, hy, ay⟩ := hp.y
  by_cases h2 : r.out = -1
  · rw [if_pos h2] at hz; cases hz
  rw [if_neg h2] at hz
  by_cases h3 : r.out < now
  · rw [if_pos h3] at hz; cases hz
  rw [if_neg h3, hx, hy] at hz
  simp only at hz
  by_cases h4 : chgZ y.1 (freeE y.1 n over) = 0
  rotate_left
  · rw [if_pos h4] at hz; exact absurd hz h4
  rw [if_neg (fun k => k h4)] at hz
  obtain ⟨hh1, ky⟩ := free_ok h4
  obtain ⟨hh2, kx⟩ := free_ok hz
  have ay : 0 ≤ r.out ∧ r.inn = r.out + win ∧ atL y.1.held n = some ⟨n, r.amt, y.2, r.out⟩ := ay.resolve_left (fun h => h2 h.1)
  have e1 : hh1 = ⟨n, r.amt, y.2, r.out⟩ := by
    have := ky.at'.symm.trans ay.2.2
    simpa using this
  have e2 : hh2 = ⟨n, r.amt, 1 - x.2, r.inn⟩ := by
    have := kx.at'.symm.trans ax
    simpa using this
  subst e1
  subst e2
  obtain ⟨_, sx⟩ := hi.ok _ x hx
  obtain ⟨_, sy⟩ := hi.ok _ y hy
  have e : setS s n over = ⟨aput (aput s.l r.to (nextP (freeQ y.1 n over), y.2)) r.frm (nextP (freeQ x.1 n over), x.2), s.m.filter (fun q => decide (q.1 ≠ n))⟩ := by
    unfold setS
    rw [hn]
    simp only
    rw [hx, hy]
  rw [e]
  generalize nextP (freeQ x.1 n over) = X at kx
  generalize nextP (freeQ y.1 n over) = Y at ky
  have hx' : alook (aput s.l r.to (Y, y.2)) r.frm = some x := by rw [alook_put, if_neg (fun h => hp.ne h.symm), hx]
  obtain ⟨k1, t1, m1⟩ := del_stp (win := win) hy ky
  have k2 : (aput (aput s.l r.to (Y, y.2)) r.frm (X, x.2)).map (·.1) = s.l.map (·.1) := by rw [keys_put hx', k1]
  have wx := kx.worth sx
  have wy := ky.worth sy
  simp only at wx wy
  rw [if_neg (by omega), if_neg (by omega)] at wx
  rw [if_pos trivial, if_pos trivial] at wy
  have hback : sumA backL (aput (aput s.l r.to (Y, y.2)) r.frm (X, x.2)) = sumA backL s.l := by
    rw [sumA_put backL hx', sumA_put backL hy, wx.1, wy.1]
    show sumA backL s.l - backL y + (backL y + -over) - backL x + (backL x + over) = _
    omega
  refine ⟨⟨by rw [k2]; exact hi.kl, nd_del hi.km, by rw [keys_len k2]; exact hi.len, fun k z hz => ?_, fun m r' hr => ?_, fun k z hz h hh => ?_, ?_⟩, t1.trans (Tot.put (x' := (X, x.2)) hx' kx.sum rfl), hback, k2⟩
  · simp only at hz
    rw [alook_put] at hz
    by_cases e1 : r.frm = k
    · rw [if_pos e1] at hz; cases hz; exact ⟨kx.qo, sx⟩
    · rw [if_neg e1, alook_put] at hz
      by_cases e2 : r.to = k
      · rw [if_pos e2] at hz; cases hz; exact ⟨ky.qo, sy⟩
      · rw [if_neg e2] at hz; exact hi.ok k z hz
  · simp only at hr
    rw [look_del] at hr
    by_cases e1 : m = n
    · rw [if_pos e1] at hr; cases hr
    · rw [if_neg e1] at hr
      refine (hi.pr m r' hr).sim ((m1 m e1).trans (Sim.put (x' := (X, x.2)) hx' rfl ?_))
      show atL X.held m = _
      rw [kx.at m, if_neg e1]
  · simp only at hz ⊢
    have old : ∀ (z0 : Ps), alook s.l k = some z0 → h ∈ z0.1.held → h.name ≠ n → ∃ r, alook (s.m.filter (fun q => decide (q.1 ≠ n))) h.name = some r ∧ (r.frm = k ∨ (r.to = k ∧ r.out ≠ -1)) := fun z0 hz0 hh0 hne => by
      obtain ⟨r', h5, h6⟩ := hi.he k z0 hz0 h hh0
      exact ⟨r', by rw [look_del, if_neg hne, h5], h6⟩
    rw [alook_put] at hz
    by_cases e1 : r.frm = k
    · rw [if_pos e1] at hz
      cases hz
      subst e1
      obtain ⟨a, b⟩ := freed_mem kx hh
      exact old x hx a b
    · rw [if_neg e1, alook_put] at hz
      by_cases e2 : r.to = k
      · rw [if_pos e2] at hz
        cases hz
        subst e2
        obtain ⟨a, b⟩ := freed_mem ky hh
        exact old y hy a b
      · rw [if_neg e2] at hz
        refine old z hz hh (fun e => ?_)
        obtain ⟨r', h5, h6⟩ := hi.he k z hz h hh
        rw [e, hn] at h5
        cases h5
        rcases h6 with h6 | h6
        · exact e1 h6
        · exact e2 h6.1
  · show sumA onL _ = sumA backL _ + sumA passed _
    rw [hback, sumA_put onL hx', sumA_put onL hy, wx.2, wy.2, sumA_del passed hi.km hn]
    have hp0 : passed r = 0 := if_neg h2
    rw [hp0]
    have := hi.bal
    show sumA onL s.l - onL y + (onL y + (r.amt - over)) - onL x + (onL x + (over - r.amt)) = _
    omega
theorem exp2_stp {win : Int} {s : ST} (hi : Inv win s) {now : Int} {n : Dg} {r : Pr} (hn : alook s.m n = some r) (ho : r.out = -1) : Stp win s (exp2 now s n r).1 := by
  have hp := hi.pr n r hn
  obtain ⟨x, hx, ax⟩ := hp.x
  obtain ⟨y, hy, ay⟩ := hp.y
  unfold exp2
  by_cases h1 : now ≤ r.inn
  · rw [if_pos h1]; exact Stp.refl hi
  rw [if_neg h1, hx]
  simp only
  by_cases h2 : bkZ x n now = true
  rotate_left
  · rw [if_neg h2]; exact Stp.refl hi
  rw [if_pos h2]
  have h2' : chgZ x.1 (backE x.1 n now) = 0 := of_decide_eq_true h2
  obtain ⟨hh2, kx, _⟩ := back_ok h2'
  have e2 : hh2 = ⟨n, r.amt, 1 - x.2, r.inn⟩ := by
    have := kx.at'.symm.trans ax
    simpa using this
  subst e2
  obtain ⟨_, sx⟩ := hi.ok _ x hx
  simp only [bkP]
  generalize nextP (freeQ x.1 n 0) = X at kx
  obtain ⟨k1, t1, m1⟩ := del_stp (win := win) hx kx
  have wx := kx.worth sx
  simp only at wx
  rw [if_neg (by omega), if_neg (by omega)] at wx
  have hback : sumA backL (aput s.l r.frm (X, x.2)) = sumA backL s.l := by
    rw [sumA_put backL hx, wx.1]
    show sumA backL s.l - backL x + (backL x + 0) = _
    omega
  refine ⟨⟨by rw [k1]; exact hi.kl, nd_del hi.km, by rw [keys_len k1]; exact hi.len, fun k z hz => ?_, fun m r' hr => ?_, fun k z hz h hh => ?_, ?_⟩, t1, hback, k1⟩
  · simp only at hz
    rw [alook_put] at hz
    by_cases e1 : r.frm = k
    · rw [if_pos e1] at hz; cases hz; exact ⟨kx.qo, sx⟩
    · rw [if_neg e1] at hz; exact hi.ok k z hz
  · simp only at hr
    rw [look_del] at hr
    by_cases e1 : m = n
    · rw [if_pos e1] at hr; cases hr
    · rw [if_neg e1] at hr
      exact (hi.pr m r' hr).sim (m1 m e1)
  · simp only at hz ⊢
    have old : ∀ (z0 : Ps), alook s.l k = some z0 → h ∈ z0.1.held → h.name ≠ n → ∃ r, alook (s.m.filter (fun q => decide (q.1 ≠ n))) h.name = some r ∧ (r.frm = k ∨ (r.to = k ∧ r.out ≠ -1)) := fun z0 hz0 hh0 hne => by
      obtain ⟨r', h5, h6⟩ := hi.he k z0 hz0 h hh0
      exact ⟨r', by rw [look_del, if_neg hne, h5], h6⟩
    rw [alook_put] at hz
    by_cases e1 : r.frm = k
    · rw [if_pos e1] at hz
      cases hz
      subst e1
      obtain ⟨a, b⟩ := freed_mem kx hh
      exact old x hx a b
    · rw [if_neg e1] at hz
      refine old z hz hh (fun e => ?_)
      obtain ⟨r', h5, h6⟩ := hi.he k z hz h hh
      rw [e, hn] at h5
      cases h5
      rcases h6 with h6 | h6
      · exact e1 h6
      · exact h6.2 ho
  · show sumA onL _ = sumA backL _ + sumA passed _
    rw [hback, sumA_put onL hx, wx.2, sumA_del passed hi.km hn]
    have hp0 : passed r = r.amt := if_pos ho
    rw [hp0]
    have := hi.bal
    show sumA onL s.l - onL x + (onL x + (0 - r.amt)) = _
    omega
theorem pass_stp {win : Int} {s : ST} (hi : Inv win s) {now : Int} {n : Dg} {r : Pr} {y : Ps} (hn : alook s.m n = some r) (h1 : r.out ≠ -1) (hy : alook s.l r.to = some y) (h3 : bkZ y n now = true) : Stp win s ⟨aput s.l r.to (bkP y n), aput s.m n r.gone⟩ := by
  have hp := hi.pr n r hn
  obtain ⟨x, hx, ax⟩ := hp.x
  obtain ⟨y', hy', ay⟩ := hp.y
  have ey : y' = y := Option.some.inj (hy'.symm.trans hy)
  subst ey
  have ay : 0 ≤ r.out ∧ r.inn = r.out + win ∧ atL y'.1.held n = some ⟨n, r.amt, y'.2, r.out⟩ := ay.resolve_left (fun h => h1 h.1)
  have h3' : chgZ y'.1 (backE y'.1 n now) = 0 := of_decide_eq_true h3
  obtain ⟨hh1, ky, _⟩ := back_ok h3'
  have e1 : hh1 = ⟨n, r.amt, y'.2, r.out⟩ := by
    have := ky.at'.symm.trans ay.2.2
    simpa using this
  subst e1
  obtain ⟨_, sy⟩ := hi.ok _ y' hy
  simp only [bkP]
  generalize nextP (freeQ y'.1 n 0) = Y at ky
  obtain ⟨k1, t1, m1⟩ := del_stp (win := win) hy ky
  have wy := ky.worth sy
  simp only at wy
  rw [if_pos trivial, if_pos trivial] at wy
  have hback : sumA backL (aput s.l r.to (Y, y'.2)) = sumA backL s.l := by
    rw [sumA_put backL hy, wy.1]
    show sumA backL s.l - backL y' + (backL y' + -0) = _
    omega
  have km : (aput s.m n r.gone).map (·.1) = s.m.map (·.1) := keys_put hn
  refine ⟨⟨by rw [k1]; exact hi.kl, by rw [km]; exact hi.km, by rw [keys_len k1]; exact hi.len, fun k z hz => ?_, fun m r' hr => ?_, fun k z hz h hh => ?_, ?_⟩, t1, hback, k1⟩
  · simp only at hz
    rw [alook_put] at hz
    by_cases e1 : r.to = k
    · rw [if_pos e1] at hz; cases hz; exact ⟨ky.qo, sy⟩
    · rw [if_neg e1] at hz; exact hi.ok k z hz
  · simp only at hr
    rw [alook_put] at hr
    by_cases e1 : n = m
    · rw [if_pos e1] at hr
      cases hr
      subst e1
      refine ⟨hp.nm, hp.ne, hp.a0, ⟨x, ?_, ax⟩, ⟨(Y, y'.2), ?_, Or.inl ⟨rfl, ?_⟩⟩⟩
      · show alook (aput s.l r.to (Y, y'.2)) r.frm = _
        rw [alook_put, if_neg (fun h => hp.ne h.symm), hx]
      · show alook (aput s.l r.to (Y, y'.2)) r.to = _
        rw [alook_put, if_pos rfl]
      · show atL Y.held n = none
        rw [ky.at n, if_pos rfl]
    · rw [if_neg e1] at hr
      exact (hi.pr m r' hr).sim (m1 m (fun h => e1 h.symm))
  · simp only at hz ⊢
    have old : ∀ (z0 : Ps), alook s.l k = some z0 → h ∈ z0.1.held → (h.name = n → r.frm = k) → ∃ r', alook (aput s.m n r.gone) h.name = some r' ∧ (r'.frm = k ∨ (r'.to = k ∧ r'.out ≠ -1)) := fun z0 hz0 hh0 hne => by
      obtain ⟨r', h5, h6⟩ := hi.he k z0 hz0 h hh0
      by_cases e : n = h.name
      · exact ⟨r.gone, by rw [alook_put, if_pos e], Or.inl (hne e.symm)⟩
      · exact ⟨r', by rw [alook_put, if_neg e, h5], h6⟩
    rw [alook_put] at hz
    by_cases e1 : r.to = k
    · rw [if_pos e1] at hz
      cases hz
      subst e1
      obtain ⟨a, b⟩ := freed_mem ky hh
      exact old y' hy a (fun e => absurd e b)
    · rw [if_neg e1] at hz
      refine old z hz hh (fun e => ?_)
      obtain ⟨r', h5, h6⟩ := hi.he k z hz h hh
      rw [e, hn] at h5
      cases h5
      rcases h6 with h6 | h6
      · exact h6
      · exact absurd h6.1 e1
  · show sumA onL _ = sumA backL _ + sumA passed _
    rw [hback, sumA_put onL hy, wy.2, sumA_put passed hn]
    have hp0 : passed r = 0 := if_neg h1
    have hp1 : passed r.gone = r.amt := if_pos rfl
    rw [hp0, hp1]
    have := hi.bal
    show sumA onL s.l - onL y' + (onL y' + (r.amt - 0)) = _
    omega
theorem exp1_stp {win : Int} {s : ST} (hi : Inv win s) (now : Int) (n : Dg) : Stp win s (exp1 now s n).1 := by
  unfold exp1
  cases hn : alook s.m n with
  | none => exact Stp.refl hi
  | some r =>
  simp only
  by_cases h1 : r.out = -1
  · rw [if_pos h1]; exact exp2_stp hi hn h1
  rw [if_neg h1]
  by_cases h2 : now ≤ r.out
  · rw [if_pos h2]; exact Stp.refl hi
  rw [if_neg h2]
  have hp := hi.pr n r hn
  obtain ⟨y, hy, ay⟩ := hp.y
  rw [hy]
  simp only
  by_cases h3 : bkZ y n now = true
  rotate_left
  · rw [if_neg h3]; exact Stp.refl hi
  rw [if_pos h3]
  have hs := pass_stp hi hn h1 hy h3
  have hn' : alook (⟨aput s.l r.to (bkP y n), aput s.m n r.gone⟩ : ST).m n = some r.gone := by
    show alook (aput s.m n r.gone) n = _
    rw [alook_put, if_pos rfl]
  exact hs.trans (exp2_stp hs.inv hn' rfl)
theorem exp_stp {win : Int} {now : Int} : ∀ (ns : List Dg) (q : ST × List Dg), Inv win q.1 → Stp win q.1 (ns.foldl (expF now) q).1
  | [], q, h => Stp.refl h
  | n :: ns, q, h => by
    rw [List.foldl_cons]
    have h1 : Stp win q.1 (expF now q n).1 := exp1_stp h now n
    exact h1.trans (exp_stp ns _ h1.inv)
theorem open_inv {win : Int} {s : ST} (hi : Inv win s) {k : Dg} {p : Pu} {side : Int} (hz : openZ s.l k p side = 0) : Inv win ⟨aput s.l k (p, side), s.m⟩ ∧ alook s.l k = none ∧ p.Ok ∧ (side = 0 ∨ side = 1) ∧ p.held = [] := by
  unfold openZ at hz
  by_cases h1 : checkZ p = 0
  rotate_left
  · rw [if_pos h1] at hz; exact absurd hz h1
  rw [if_neg (fun h => h h1)] at hz
  by_cases h2 : side ≠ 0 ∧ side ≠ 1
  · rw [if_pos h2] at hz; cases hz
  rw [if_neg h2] at hz
  by_cases h3 : p.held.length ≠ 0
  · rw [if_pos h3] at hz; cases hz
  rw [if_neg h3] at hz
  by_cases h4 : (alook s.l k).isSome ∨ namedL s.l p.name = true
  · rw [if_pos h4] at hz; cases hz
  rw [if_neg h4] at hz
  by_cases h5 : 16 ≤ s.l.length
  · rw [if_pos h5] at hz; cases hz
  have hp := pu_ok h1
  have hs : side = 0 ∨ side = 1 := by omega
  have hnil : p.held = [] := List.length_eq_zero_iff.1 (by omega)
  have hk : alook s.l k = none := by
    cases e : alook s.l k with
    | none => rfl
    | some x => rw [e] at h4; exact absurd (Or.inl rfl) h4
  refine ⟨⟨nd_new hk hi.kl, hi.km, ?_, fun j z hz => ?_, fun m r hr => (hi.pr m r hr).sim (Sim.new hk), fun j z hz h hh => ?_, ?_⟩, hk, hp, hs, hnil⟩
  · show (aput s.l k (p, side)).length ≤ 16
    rw [aput_new _ hk, List.length_append]
    show s.l.length + 1 ≤ 16
    omega
  · simp only at hz
    rw [alook_put] at hz
    by_cases e : k = j
    · rw [if_pos e] at hz; cases hz; exact ⟨hp, hs⟩
    · rw [if_neg e] at hz; exact hi.ok j z hz
  · simp only at hz
    rw [alook_put] at hz
    by_cases e : k = j
    · rw [if_pos e] at hz
      cases hz
      simp only [hnil] at hh
      cases hh
    · rw [if_neg e] at hz; exact hi.he j z hz h hh
  · show sumA onL _ = sumA backL _ + sumA passed _
    rw [sumA_new onL hk, sumA_new backL hk]
    have := hi.bal
    have e1 : onL (p, side) = haveP p side := by unfold onL; simp only [hnil, sumF]; omega
    have e2 : backL (p, side) = haveP p side := by unfold backL; simp only [hnil, sumF]; omega
    rw [e1, e2]
    show sumA onL s.l + _ = sumA backL s.l + _ + sumA passed s.m
    omega
end Go.Proofs.YtajllbdeoopimaaGreat
namespace Go.Proofs.YtajllbdeoopimaaGreat
set_option linter.unusedVariables false
section
variable {P : Program} {S : List Nat} {w0 : World} {F : World → Prop} {L : Env} {d : Option Nat} {ty : TypeId} {pos : String} {af : Array Edge} {g : Option (Nat × Bool)} {T T' : TypeId} {x y : Operand} {a b : Int}
end
/-- Where a hub lies. -/
structure Hb where
  h : Nat
  s : Nat
  p : Nat
def hbc (B : Hb) : List Value := [.pointer (some ⟨B.h, 0, none⟩)]
structure Hb.Apart (B C : Hb) : Prop where
  a : B.s ≠ C.s
  b : B.s ≠ C.p
  c : B.p ≠ C.s
  d : B.p ≠ C.p
theorem MapIs.nb2 {κ ν κ' ν' : Type} {w : World} {b b' z : Nat} {enc : κ → Value} {V : ν → Value} {m : List (κ × ν)} {enc' : κ' → Value} {V' : ν' → Value} {m' : List (κ' × ν')} (h : MapIs w b enc V m) (h' : MapIs w b' enc' V' m') {cs : Array Value} {T : TypeId} {f : Nat × Nat} (hz : w.heap[z]? = some (.cells cs T f)) : z ∉ [b, b'] := nm2 (h.nb hz) (h'.nb hz)
/-- Another hub turns. -/
theorem HubAt.other {w w' : World} {bh bs bp bs' bp' : Nat} {win : Int} {ms : Ms} {mp : Mp} {κ ν κ' ν' : Type} {enc : κ → Value} {V : ν → Value} {m : List (κ × ν)} {enc' : κ' → Value} {V' : ν' → Value} {m' : List (κ' × ν')} (h : HubAt w bh bs bp win ms mp) (h1 : MapIs w bs' enc V m) (h2 : MapIs w bp' enc' V' m') (hk : Kp [bs', bp'] w w') (n1 : bs ≠ bs') (n2 : bs ≠ bp') (n3 : bp ≠ bs') (n4 : bp ≠ bp') : HubAt w' bh bs bp win ms mp :=
  ⟨h.blk.kp hk (h1.nb2 h2 h.blk.raw), h.sh.kp hk (nm2 n1 n2), h.pr.kp hk (nm2 n3 n4), h.ne, fun x hx => (h.at' x hx).kp hk (fun hn z off e => by
    obtain ⟨cs, f, hz⟩ := (h.at' x hx).ty hn z off e
    exact h1.nb2 h2 hz), h.few⟩
/-- A row of another type turns. -/
theorem HubAt.own {w w' : World} {bh bs bp : Nat} {win : Int} {ms : Ms} {mp : Mp} {base n sz : Nat} {T : TypeId} {v : Value} {xs : List Value} (h : HubAt w bh bs bp win ms mp) (ho : w.ownsRow base T sz v n xs) (hk : Kp (ownB v) w w') (hT : 62 ≠ T) (hT2 : 86 ≠ T) : HubAt w' bh bs bp win ms mp := by
  have nc : ∀ {z : Nat} {cs : Array Value} {T' : TypeId} {f : Nat × Nat}, w.heap[z]? = some (.cells cs T' f) → T' ≠ T → z ∉ ownB v := fun {z} {cs} {T'} {f} hz hne hm => by
    rcases ho.2 with ⟨rfl, _⟩ | ⟨g, cap, cur, rfl, _, hgb, _⟩
    · cases ownB_mem hm
    · have e := ownB_mem hm
      have : g = z := by simpa [Value.ownBlock] using e
      subst this
      rw [hz] at hgb
      cases hgb
      exact hne rfl
  have nm : ∀ {κ ν : Type} {b : Nat} {enc : κ → Value} {V : ν → Value} {m : List (κ × ν)}, MapIs w b enc V m → b ∉ ownB v := fun {κ} {ν} {b} {enc} {V} {m} hM hm => by
    rcases ho.2 with ⟨rfl, _⟩ | ⟨g, cap, cur, rfl, _, hgb, _⟩
    · cases ownB_mem hm
    · have e := ownB_mem hm
      have : g = b := by simpa [Value.ownBlock] using e
      subst this
      exact hM.nb hgb rfl
  exact ⟨h.blk.kp hk (nc h.blk.raw hT), h.sh.kp hk (nm h.sh), h.pr.kp hk (nm h.pr), h.ne, fun x hx => (h.at' x hx).kp hk (fun hn z off e => by
    obtain ⟨cs, f, hz⟩ := (h.at' x hx).ty hn z off e
    exact nc hz hT2), h.few⟩
theorem Row.other {w w' : World} {b off : Nat} {l : List Value} {bs' bp' : Nat} {κ ν κ' ν' : Type} {enc : κ → Value} {V : ν → Value} {m : List (κ × ν)} {enc' : κ' → Value} {V' : ν' → Value} {m' : List (κ' × ν')} (h : Row w b off l) (h1 : MapIs w bs' enc V m) (h2 : MapIs w bp' enc' V' m') : b ∉ [bs', bp'] := by
  obtain ⟨cs, T, f, hz, _⟩ := h
  exact h1.nb2 h2 hz
theorem Sl.other {α : Type} {en : α → List Value} {sz : Nat} {l : List α} {w w' : World} {a : Option Addr} {bs' bp' : Nat} {κ ν κ' ν' : Type} {enc : κ → Value} {V : ν → Value} {m : List (κ × ν)} {enc' : κ' → Value} {V' : ν' → Value} {m' : List (κ' × ν')} (h : Sl en sz w a l) (h1 : MapIs w bs' enc V m) (h2 : MapIs w bp' enc' V' m') (hk : Kp [bs', bp'] w w') : Sl en sz w' a l := fun i x hx => by
  obtain ⟨b, off, e, hr⟩ := h i x hx
  exact ⟨b, off, e, hr.kp hk (hr.other (w' := w') h1 h2)⟩
def dk (i : Nat) : Dg := dg1 (UInt8.ofNat i)
/-- What goes along. -/
structure Rt where
  n : Nat
  whole : Int
  part : Int
  start : Int
structure Rt.Ok (W : Rt) : Prop where
  n0 : 1 ≤ W.n
  n1 : W.n ≤ 6
  a0 : 0 < W.whole
  a1 : W.whole ≤ 1000
  p0 : 0 ≤ W.part
  p1 : W.part ≤ W.whole
  s0 : 0 ≤ W.start
  s1 : W.start ≤ 65535
def nm77 : Dg := dg1 77
def Rt.til (W : Rt) (i : Nat) : Int := W.start + 5 * ((W.n : Int) - (i : Int)) + 3
def nearX (i : Nat) : Sh := ⟨twoP (dk i) 1000, none, 0, 1⟩
def farY (i : Nat) : Sh := ⟨twoP (dk (i + 1)) 1000, none, 0, 0⟩
def Rt.fX (W : Rt) (i : Nat) : Pu := fwdX (nearX i) nm77 W.whole (W.til i)
def Rt.fY (W : Rt) (i : Nat) : Pu := fwdY 5 (farY i) nm77 W.whole (W.til i)
def Rt.eX (W : Rt) (i : Nat) : Pu := nextP (freeQ (W.fX i) nm77 W.part)
def Rt.eY (W : Rt) (i : Nat) : Pu := nextP (freeQ (W.fY i) nm77 W.part)
def Rt.pX (W : Rt) (k i : Nat) : Pu := if k = 0 then twoP (dk i) 1000 else if k = 1 then W.fX i else W.eX i
def Rt.pY (W : Rt) (k i : Nat) : Pu := if k = 0 then twoP (dk (i + 1)) 1000 else if k = 1 then W.fY i else W.eY i
def Rt.mp (W : Rt) (k i : Nat) : Mp := if k = 1 then [(nm77, fwdR 5 (dk i) (dk (i + 2)) nm77 W.whole (W.til i))] else []
def Rt.ms (W : Rt) (k i : Nat) (q r : Option Addr × Nat) : Ms := [(dk i, ⟨W.pX k i, q.1, q.2, 1⟩), (dk (i + 2), ⟨W.pY k i, r.1, r.2, 0⟩)]
/-- A hub of the way: opened, forwarded, settled. -/
def Rt.St (W : Rt) (k i : Nat) (B : Hb) (w : World) : Prop := ∃ q r, HubAt w B.h B.s B.p 5 (W.ms k i q r) (W.mp k i)
theorem own_maps {w : World} {base n sz bs bp : Nat} {T : TypeId} {v : Value} {xs : List Value} {bh : Nat} {win : Int} {ms : Ms} {mp : Mp} (ho : w.ownsRow base T sz v n xs) (hN : HubAt w bh bs bp win ms mp) : ∀ z, v.ownBlock = some z → z ∉ [bs, bp] := fun z hz => by
  obtain ⟨cs, hc⟩ := own_cells ho hz
  exact hN.sh.nb2 hN.pr hc.raw
end Go.Proofs.YtajllbdeoopimaaGreat
namespace Go.Proofs.YtajllbdeoopimaaGreat
set_option linter.unusedVariables false
def Sh.ps (x : Sh) : Ps := (x.p, x.side)
def er (ms : Ms) : Pl := ms.map (fun x => (x.1, x.2.ps))
theorem er_look (k : Dg) : ∀ ms : Ms, alook (er ms) k = (alook ms k).map Sh.ps
  | [] => rfl
  | (k', v) :: ms => by
    show (if k' = k then some v.ps else alook (er ms) k) = (if k' = k then some v else alook ms k).map Sh.ps
    by_cases e : k' = k
    · rw [if_pos e, if_pos e]; rfl
    · rw [if_neg e, if_neg e, er_look k ms]
theorem er_put (k : Dg) (v : Sh) : ∀ ms : Ms, er (aput ms k v) = aput (er ms) k v.ps
  | [] => rfl
  | (k', u) :: ms => by
    show er (if k' = k then (k', v) :: ms else (k', u) :: aput ms k v) = (if k' = k then (k', v.ps) :: er ms else (k', u.ps) :: aput (er ms) k v.ps)
    by_cases e : k' = k
    · rw [if_pos e, if_pos e]; rfl
    · rw [if_neg e, if_neg e, ← er_put k v ms]; rfl
theorem er_len (ms : Ms) : (er ms).length = ms.length := by simp [er]
theorem er_keys (ms : Ms) : (er ms).map (·.1) = ms.map (·.1) := by simp [er]
theorem er_named (ms : Ms) (n : Dg) : namedL (er ms) n = namedB ms n := by
  unfold namedL namedB er
  rw [List.any_map]
  rfl
theorem er_some {ms : Ms} {k : Dg} {x : Ps} (h : alook (er ms) k = some x) : ∃ y, alook ms k = some y ∧ y.ps = x := by
  rw [er_look] at h
  exact Option.map_eq_some_iff.1 h
theorem er_openZ (ms : Ms) (k : Dg) (p : Pu) (side : Int) : openE ms k p side = openZ (er ms) k p side := by
  unfold openE openZ
  rw [er_look, er_named, er_len, Option.isSome_map]
theorem er_fwdZ (win : Int) (ms : Ms) (mp : Mp) (now : Int) (f t n : Dg) (amt til : Int) : fwdE win ms mp now f t n amt til = fwdZ win ⟨er ms, mp⟩ now f t n amt til := by
  unfold fwdE fwdZ
  simp only [er_look]
  cases alook ms f with
  | none => rfl
  | some x =>
    cases alook ms t with
    | none => rfl
    | some y => rfl
theorem er_setZ (ms : Ms) (mp : Mp) (now : Int) (n : Dg) (over : Int) : setE ms mp now n over = setZ ⟨er ms, mp⟩ now n over := by
  unfold setE setZ
  simp only
  cases alook mp n with
  | none => rfl
  | some r =>
    simp only [er_look]
    cases alook ms r.frm with
    | none => rfl
    | some x =>
      cases alook ms r.to with
      | none => rfl
      | some y => rfl
/-- A hub in memory that is s. -/
def HubE (w : World) (bh bs bp : Nat) (win : Int) (s : ST) : Prop := ∃ ms, er ms = s.l ∧ HubAt w bh bs bp win ms s.m
theorem HubE.kp0 {w w' : World} {bh bs bp : Nat} {win : Int} {s : ST} (h : HubE w bh bs bp win s) (hk : Kp [] w w') : HubE w' bh bs bp win s := by
  obtain ⟨ms, e, h⟩ := h
  exact ⟨ms, e, h.kp0 hk⟩
theorem HubE.lts {w : World} {bh bs bp : Nat} {win : Int} {s : ST} (h : HubE w bh bs bp win s) : bh < w.heap.size ∧ bs < w.heap.size ∧ bp < w.heap.size := by
  obtain ⟨ms, e, h⟩ := h
  exact ⟨h.blk.lt, h.sh.lt, h.pr.lt⟩
/-- What a row of cells lies in is none of the hub's maps. -/
theorem HubE.nb {w : World} {bh bs bp z : Nat} {win : Int} {s : ST} {cs : Array Value} {T : TypeId} {f : Nat × Nat} (h : HubE w bh bs bp win s) (hz : w.heap[z]? = some (.cells cs T f)) : z ∉ [bs, bp] := by
  obtain ⟨ms, e, h⟩ := h
  exact h.sh.nb2 h.pr hz
theorem HubE.blk {w w' : World} {bh bs bp b : Nat} {win : Int} {s : ST} {cs : Array Value} {T : TypeId} (h : HubE w bh bs bp win s) (hb : Blk w b (.cells cs T)) (hk : Kp [bs, bp] w w') : Blk w' b (.cells cs T) := hb.kp hk (h.nb hb.raw)
theorem HubE.slk {α : Type} {en : α → List Value} {sz : Nat} {l : List α} {a : Option Addr} {w w' : World} {bh bs bp : Nat} {win : Int} {s : ST} (h : HubE w bh bs bp win s) (hS : Sl en sz w a l) (hk : Kp [bs, bp] w w') : Sl en sz w' a l := by
  obtain ⟨ms, e, h⟩ := h
  exact hS.other h.sh h.pr hk
theorem HubE.own {w w' : World} {bh bs bp base n sz : Nat} {T : TypeId} {v : Value} {xs : List Value} {win : Int} {s : ST} (h : HubE w bh bs bp win s) (ho : w.ownsRow base T sz v n xs) (hk : Kp [bs, bp] w w') : w'.ownsRow base T sz v n xs := by
  obtain ⟨ms, e, h⟩ := h
  exact own_kp ho hk (own_maps ho h)
theorem HubE.grow {w w' : World} {bh bs bp base n sz : Nat} {T : TypeId} {v : Value} {xs : List Value} {win : Int} {s : ST} (h : HubE w bh bs bp win s) (ho : w.ownsRow base T sz v n xs) (hk : Kp (ownB v) w w') (hT : 62 ≠ T) (hT2 : 86 ≠ T) : HubE w' bh bs bp win s := by
  obtain ⟨ms, e, h⟩ := h
  exact ⟨ms, e, h.own ho hk hT hT2⟩
theorem kp2b {bs bp : Nat} {w w' : World} (h : Kp [bp] w w') : Kp [bs, bp] w w' := h.mono (fun v hv => by rw [List.mem_singleton] at hv; subst hv; simp)
section
variable {w : World} {bh bs bp : Nat} {win : Int} {s : ST}
theorem open_e (hH : HubE w bh bs bp win s) (k : Dg) (p : Pu) {a : Option Addr} {c : Nat} (side : Int) (hS : Sl hc 11 w a p.held) (hl : p.held.length ≤ 4398046511104) (hcap : p.held.length ≤ c) :
    Calls Tryz.prog 9 #[.pointer (some ⟨bh, 0, none⟩), dv k, pv p (.slice a p.held.length c), .int .i64 side] w (fun e w' => e = .returned (.int .i64 (openZ s.l k p side)) ∧ Kp [bs, bp] w w' ∧ HubE w' bh bs bp win (if openZ s.l k p side = 0 then ⟨aput s.l k (p, side), s.m⟩ else s)) := by
  obtain ⟨ms, e, hH⟩ := hH
  refine (open_spec hH k p side hS hl hcap).mono (fun e' w' hh => ?_)
  rw [er_openZ, e] at hh
  obtain ⟨he, ⟨h1, hk⟩ | ⟨h1, hk, a', c', hH'⟩⟩ := hh
  · rw [if_neg h1]
    exact ⟨he, hk.any, ms, e, hH.kp0 hk⟩
  · rw [if_pos h1]
    exact ⟨he, kp2a hk, _, by rw [er_put, e]; rfl, hH'⟩
theorem forward_e (hH : HubE w bh bs bp win s) (hi : Inv win s) (now : Int) (f t n : Dg) (amt til : Int) (hwin : 0 ≤ win ∧ win ≤ 1048576) (ht : til ≤ 9223372036854775807) :
    Calls Tryz.prog 17 #[.pointer (some ⟨bh, 0, none⟩), .int .i64 now, dv f, dv t, dv n, .int .i64 amt, .int .i64 til] w (fun e w' => e = .returned (.int .i64 (fwdZ win s now f t n amt til)) ∧ Kp [bs, bp] w w' ∧ HubE w' bh bs bp win (if fwdZ win s now f t n amt til = 0 then fwdS win s f t n amt til else s)) := by
  obtain ⟨ms, e, hH⟩ := hH
  have hsd : ∀ x ∈ ms, 0 ≤ x.2.side ∧ x.2.side ≤ 1 := fun x hx => by
    have hm : (x.1, x.2.ps) ∈ s.l := by rw [← e]; exact List.mem_map_of_mem hx
    have := (hi.ok x.1 x.2.ps (alook_of_mem hi.kl hm)).2
    have e2 : x.2.ps.2 = x.2.side := rfl
    rw [e2] at this
    omega
  refine (forward_spec hH now f t n amt til hwin hsd ht).mono (fun e' w' hh => ?_)
  rw [er_fwdZ, e] at hh
  obtain ⟨he, ⟨h1, hk⟩ | ⟨h1, hk, x, y, a1, c1, a2, c2, hx, hy, hH'⟩⟩ := hh
  · rw [if_neg h1]
    exact ⟨he, hk.any, ms, e, hH.kp0 hk⟩
  · rw [if_pos h1]
    have hx' : alook s.l f = some x.ps := by rw [← e, er_look, hx]; rfl
    have hy' : alook s.l t = some y.ps := by rw [← e, er_look, hy]; rfl
    have e2 : fwdS win s f t n amt til = ⟨aput (aput s.l f (nextP (holdQ x.ps.1 (nearQ x.ps n amt til)), x.ps.2)) t (nextP (holdQ y.ps.1 (farQ win y.ps n amt til)), y.ps.2), aput s.m n (fwdR win f t n amt til)⟩ := by
      unfold fwdS
      rw [hx', hy']
    rw [e2]
    exact ⟨he, hk, _, by rw [er_put, er_put, e]; rfl, hH'⟩
theorem settle_e (hH : HubE w bh bs bp win s) (hi : Inv win s) (now : Int) (n : Dg) (over : Int) :
    Calls Tryz.prog 19 #[.pointer (some ⟨bh, 0, none⟩), .int .i64 now, dv n, .int .i64 over] w (fun e w' => e = .returned (.int .i64 (setZ s now n over)) ∧ Kp [bs, bp] w w' ∧ HubE w' bh bs bp win (if setZ s now n over = 0 then setS s n over else s)) := by
  obtain ⟨ms, e, hH⟩ := hH
  refine (settle_spec hH now n over (fun r hr => ?_)).mono (fun e' w' hh => ?_)
  · have hp := hi.pr n r hr
    obtain ⟨x, hx, _⟩ := hp.x
    obtain ⟨y, hy, _⟩ := hp.y
    rw [← e] at hx hy
    obtain ⟨x', hx', _⟩ := er_some hx
    obtain ⟨y', hy', _⟩ := er_some hy
    exact ⟨⟨x', hx'⟩, ⟨y', hy'⟩, hp.ne⟩
  · rw [er_setZ, e] at hh
    obtain ⟨he, ⟨h1, hk⟩ | ⟨h1, hk, r, x, y, a1, c1, a2, c2, hr, hx, hy, hH'⟩⟩ := hh
    · rw [if_neg h1]
      exact ⟨he, hk.any, ms, e, hH.kp0 hk⟩
    · rw [if_pos h1]
      have hx' : alook s.l r.frm = some x.ps := by rw [← e, er_look, hx]; rfl
      have hy' : alook s.l r.to = some y.ps := by rw [← e, er_look, hy]; rfl
      have e2 : setS s n over = ⟨aput (aput s.l r.to (nextP (freeQ y.ps.1 n over), y.ps.2)) r.frm (nextP (freeQ x.ps.1 n over), x.ps.2), s.m.filter (fun q => decide (q.1 ≠ n))⟩ := by
        unfold setS
        rw [hr]
        simp only
        rw [hx', hy']
      rw [e2]
      exact ⟨he, hk, _, by rw [er_put, er_put, e]; rfl, hH'⟩
theorem hback_e (hH : HubE w bh bs bp win s) (k n : Dg) (now : Int) {y : Ps} (hy : alook s.l k = some y) :
    Calls Tryz.prog 27 #[.pointer (some ⟨bh, 0, none⟩), dv k, dv n, .int .i64 now] w (fun e w' => e = .returned (.bool (bkZ y n now)) ∧ Kp [bs, bp] w w' ∧ HubE w' bh bs bp win (if bkZ y n now = true then ⟨aput s.l k (bkP y n), s.m⟩ else s)) := by
  obtain ⟨ms, e, hH⟩ := hH
  rw [← e] at hy
  obtain ⟨y', hy', rfl⟩ := er_some hy
  have e0 : hbackE y' n now = bkZ y'.ps n now := rfl
  refine (hback_spec hH k n now hy').mono (fun e' w' hh => ?_)
  rw [e0] at hh
  obtain ⟨he, ⟨h1, hk⟩ | ⟨h1, hk, a, c, hH'⟩⟩ := hh
  · rw [h1, if_neg (by decide)]
    exact ⟨by rw [he, h1], hk.any, ms, e, hH.kp0 hk⟩
  · rw [h1, if_pos rfl]
    exact ⟨by rw [he, h1], kp2a hk, _, by rw [er_put, e]; rfl, hH'⟩
end
theorem exp2_m (now : Int) (s : ST) (n z : Dg) (r : Pr) (h : z ≠ n) : alook (exp2 now s n r).1.m z = alook s.m z := by
  unfold exp2
  split
  · rfl
  · split
    · split
      · show alook (s.m.filter _) z = _
        rw [look_del, if_neg h]
      · rfl
    · rfl
theorem exp1_m (now : Int) (s : ST) (n z : Dg) (h : z ≠ n) : alook (exp1 now s n).1.m z = alook s.m z := by
  unfold exp1
  split
  · rfl
  · split
    · exact exp2_m _ _ _ _ _ h
    · split
      · rfl
      · split
        · rfl
        · split
          · rw [exp2_m _ _ _ _ _ h]
            show alook (aput s.m n _) z = _
            rw [alook_put, if_neg (fun e => h e.symm)]
          · rfl
theorem expF_m (now : Int) (z : Dg) : ∀ (ns : List Dg) (q : ST × List Dg), z ∉ ns → alook (ns.foldl (expF now) q).1.m z = alook q.1.m z
  | [], q, _ => rfl
  | n :: ns, q, h => by
    rw [List.foldl_cons, expF_m now z ns _ (fun h2 => h (List.mem_cons_of_mem _ h2))]
    exact exp1_m now q.1 n z (fun e => h (e ▸ List.mem_cons_self))
theorem expF_len (now : Int) : ∀ (ns : List Dg) (q : ST × List Dg), (ns.foldl (expF now) q).2.length ≤ q.2.length + ns.length
  | [], q => by simp
  | n :: ns, q => by
    rw [List.foldl_cons]
    have h1 := expF_len now ns (expF now q n)
    have h2 : (expF now q n).2.length ≤ q.2.length + 1 := by
      unfold expF
      simp only
      split
      · simp
      · omega
    simp only [List.length_cons]
    omega
theorem prc_gone (r : Pr) : spl (prc r) 26 [.int .i64 (-1)] = prc r.gone := by
  have l1 : (dc r.name).length = 8 := dc_length _
  have l2 : (dc r.frm).length = 8 := dc_length _
  have l3 : (dc r.to).length = 8 := dc_length _
  have := spl_mid (pre := dc r.name ++ (dc r.frm ++ (dc r.to ++ [Value.int .i64 r.amt, Value.int .i64 r.inn]))) (old := [.int .i64 r.out]) (l := [.int .i64 (-1)]) (post := []) rfl
  simpa [prc, l1, l2, l3, Pr.gone] using this
end Go.Proofs.YtajllbdeoopimaaGreat
namespace Go.Proofs.YtajllbdeoopimaaGreat
set_option linter.unusedVariables false
theorem take_fold {now : Int} {s : ST} {l : List Dg} {i : Nat} (h : i < l.length) : (l.take (i + 1)).foldl (expF now) (s, []) = expF now ((l.take i).foldl (expF now) (s, [])) l[i] := by
  rw [List.take_succ_eq_append_getElem h, List.foldl_append]
  rfl
theorem take_nd {α : Type} {l : List α} (h : l.Nodup) {i : Nat} (hi : i < l.length) : l[i] ∉ l.take i := fun hm => by
  have h2 := List.take_append_drop i l
  rw [← h2, List.nodup_append] at h
  refine h.2.2 _ hm l[i] ?_ rfl
  rw [List.drop_eq_getElem_cons hi]
  exact List.mem_cons_self
theorem srt_nd {l : List Dg} (h : l.Nodup) : (srt l).Nodup := (srt_perm l).nodup_iff.2 h
attribute [local irreducible] CG NG SG Vals Der Row Blk MapIs IterAt DerX
set_option maxHeartbeats 64000000 in
theorem expire_e {w : World} {bh bs bp : Nat} {win : Int} {s : ST} (hH : HubE w bh bs bp win s) (hi : Inv win s) (hlen : s.m.length ≤ 1000) (now : Int) :
    Calls Tryz.prog 8 #[.pointer (some ⟨bh, 0, none⟩), .int .i64 now] w (fun e w' => ∃ v, e = .returned v ∧ w'.ownsRow w.heap.size 44 8 v (expAll now s).2.length (flt dc (expAll now s).2) ∧ Kp [bs, bp] w w' ∧ HubE w' bh bs bp win (expAll now s).1) := by
  refine enter2 Tryz.func8 rfl Tryz.ntmps8 rfl ?_
  obtain ⟨ms, ee, hHm⟩ := hH
  obtain ⟨-, -, r2⟩ := hHm.rows
  have hsl : (srt (s.m.map (·.1))).length = s.m.length := by rw [(srt_perm _).length_eq, List.length_map]
  have hnd : (srt (s.m.map (·.1))).Nodup := srt_nd hi.km
  have hlk := srt_look s.m
  repeat (first|apply cA|apply cB|apply cD|apply cE|apply CG.scope|refine cV rfl rfl rfl rfl (by first|((first|apply qep|apply qmv|apply qas|apply qep)<;>(exact rfl))|fail) ?_)
  refine dB rfl (by exact rho_of rfl) rfl ?_
  repeat (first|apply cA|apply cB|apply cD|apply cE|apply cF|refine cV rfl rfl rfl rfl (by first|(apply qas<;>(exact rfl))|fail) ?_)
  refine CG.label ?_
  repeat (first|apply cA|apply cB|apply cE|refine cV rfl rfl rfl rfl (by first|((first|apply qmv|apply qlc|apply qfa|apply qnc)<;>(first|exact rfl|assumption|exact List.not_mem_nil))|fail) ?_)
  refine SG.call rfl rfl rfl (vs := [.map (some bp)]) (by repeat' (first | exact True.intro | exact rho_of rfl | refine And.intro ?_ ?_)) ((sortedP_spec hHm.pr hlen).mono (fun e w2 hh => ?_))
  obtain ⟨v, he, ho, hk2⟩ := hh
  refine ⟨v, he, ?_⟩
  obtain ⟨a, c, rfl, _, hS⟩ := Sl.own dc_length ho rfl
  have hH2 : HubE w2 bh bs bp win s := ⟨ms, ee, hHm.kp0 hk2⟩
  clear r2 ho hHm ee ms
  have e0 : expAll now s = (srt (s.m.map (·.1))).foldl (expF now) (s, []) := rfl
  rw [e0]
  generalize srt (s.m.map (·.1)) = l at hlk hsl hS hnd
  have hSw2 := hS
  repeat (first|apply cD|apply cE|apply cG|refine cV rfl rfl rfl rfl (by first|((first|apply qmv|apply qln)<;>(exact rfl))|fail) ?_)
  refine CG.loop (X := Value × Nat) (fun x => [(0, .pointer (some ⟨bh, 0, none⟩)), (1, .int .i64 now), (5, x.1), (15, .slice a l.length c), (16, .int .i64 (l.length : Int)), (17, .int .i64 (x.2 : Int))])
    (fun x w' => x.2 ≤ l.length ∧ Kp [bs, bp] w2 w' ∧ Sl dc 8 w' a l ∧ HubE w' bh bs bp win ((l.take x.2).foldl (expF now) (s, [])).1 ∧ w'.ownsRow w2.heap.size 44 8 x.1 ((l.take x.2).foldl (expF now) (s, [])).2.length (flt dc ((l.take x.2).foldl (expF now) (s, [])).2)) (fun x => l.length - x.2) (.slice none 0 0, 0) ⟨Nat.zero_le _, Kp.refl _ _, hS, hH2, own_nil⟩ (by (repeat' (first | exact True.intro | exact rfl | refine And.intro ?_ ?_))) ?_
  clear hS hH2
  rintro ⟨v5, i⟩ w3 ⟨hi3, hk3, hS, hH3, ho⟩
  simp only at hi3 hH3 ho
  refine CG.to [(0, .pointer (some ⟨bh, 0, none⟩)), (1, .int .i64 now), (5, v5), (15, .slice a l.length c), (16, .int .i64 (l.length : Int)), (17, .int .i64 (i : Int))] (by (repeat' (first | exact True.intro | exact rfl | refine And.intro ?_ ?_))) ?_
  by_cases hlt : i < l.length
  rotate_left
  · have g1 : ¬ (i : Int) < (l.length : Int) := by omega
    rw [List.take_of_length_le (by omega)] at ho hH3
    repeat (first|apply cA|apply cB|apply cD|apply cE|refine cV rfl rfl rfl rfl (by first|(apply qls<;>(first|exact rfl|exact dcf (by first|assumption|omega)|fail))|fail) ?_)
    refine dB rfl (by exact rho_of rfl) rfl ?_
    repeat (first|apply cA|apply cB|apply cD|apply cE|apply cH|apply cJ|apply NG.ret_scope|apply cM|refine cN rfl ?_|refine cV rfl rfl rfl rfl (by first|((first|apply qmv|apply qas)<;>(exact rfl))|fail) ?_)
    obtain ⟨a5, c5, rfl, _, _⟩ := Sl.own dc_length ho rfl
    skip
    refine ret1 (Or.inl rfl) Tryz.results8 (by first | exact ResV.tmp rfl | exact ResV.agg rfl rfl (by assumption) (by first | exact dc_length _ | exact nc_length _ | exact rc_length _ _ _ | exact ec_length _ | exact dl_length _ _ _ _ | rfl) | exact ResV.cell rfl rfl (by assumption)) ?_
    exact ⟨_, rfl, own_mono ho hk2.size, hk2.any.trans hk3, hH3⟩
  have g1 : (i : Int) < (l.length : Int) := by omega
  obtain ⟨r, hr⟩ := hlk l[i] (List.getElem_mem hlt)
  have hni := take_nd hnd hlt
  have hr3 := (expF_m now l[i] (l.take i) (s, []) hni).trans hr
  have hln := expF_len now (l.take i) (s, [])
  have htl : (l.take i).length ≤ 1000 := by rw [List.length_take]; omega
  have hst := exp_stp (win := win) (now := now) (l.take i) (s, []) hi
  have hnext := take_fold (now := now) (s := s) hlt
  obtain ⟨ba, oa, rfl, hri⟩ := hS.at hlt
  have hS0 := hS
  obtain ⟨ba2, oa2, ea2, hri2⟩ := hSw2.at hlt
  cases ea2
  have lba2 := hri2.lt
  clear hri2
  generalize hq : (l.take i).foldl (expF now) (s, []) = q at hH3 ho hr3 hln hst hnext
  obtain ⟨sq, gq⟩ := q
  simp only at hH3 ho hr3 hln hst
  simp only [List.length_nil, Nat.zero_add] at hln
  have hin : Inv win sq := hst.inv
  generalize hn : l[i] = n at hri hr3 hnext
  have s23 := hk3.size
  repeat (first|apply cA|apply cB|apply cD|apply cE|refine cV rfl rfl rfl rfl (by first|(apply qls<;>(first|exact rfl|exact dct (by first|assumption|omega)|fail))|fail) ?_)
  refine dA rfl (by exact rho_of rfl) rfl ?_
  repeat (first|apply cA|apply cB|apply cE|apply cF|apply cG|refine cV rfl rfl rfl rfl (by first|((first|apply qla|apply qix)<;>(first|exact rfl|assumption|exact Ar.mk (by omega)|exact List.not_mem_nil|apply dc_length|fail))|fail) ?_)
  refine SG.alloc rfl rfl rfl (fun b7 w4 hk4 hb7 hB7 => ?_)
  refine SG.setAll (l := dc n) rfl rfl (by exact rho_of rfl) (by exact rho_of rfl) hB7 (dc_length _) rfl (dc_one _) (fun w5 hk5 hB7 => ?_)
  have hB7 : Blk w5 b7 (.cells (dc n).toArray 44) := hB7
  have l75 := hB7.lt
  have lba := hri.lt
  have k35 : Kp [] w3 w5 := hk4.trans_new hk5 (new1 (by omega))
  have hH5 := hH3.kp0 k35
  have k25 : Kp [bs, bp] w2 w5 := hk3.trans k35.any
  have hE5 := hH5
  have hB75 := hB7
  have ho5 := own_kp0 ho k35
  have hS5 := hS0.kp0 k35
  obtain ⟨ms5, ee5, hHm5⟩ := hH5
  obtain ⟨-, -, r2⟩ := hHm5.rows
  have hm5 := hHm5.pr
  have hR7 : Row w5 b7 0 (dc n) := Row.all hB7 rfl
  clear hri
  repeat (first|apply cA|apply cD|apply cE)
  refine CG.drawv mixed [0, 1, 2, 3, 4, 5] [(6, 7, 8, .tmp 26)] (by kernel_rfl) (by kernel_rfl) ?_
  repeat (refine cY rfl rfl rfl (by first|((first|apply qmv|apply qlc|apply qla|apply qfa|apply qnc|apply qlv)<;>(first|exact rfl|assumption|exact List.not_mem_nil|apply dc_length|exact lk1 (by assumption)|fail))|fail) ?_)
  refine Der.one (VrOk.of (by rfl) rfl rfl rfl (by exact rho_of rfl) (by exact prc_length r) (by rfl) (by exact prc_one r)) (fun b8 w6 hk6 hb8 hB8 => ?_)
  have hB8 : Blk w6 b8 (.cells (prc r).toArray 68) := hB8
  have hH6 : HubE w6 bh bs bp win sq := ⟨ms5, ee5, hHm5.kp0 hk6⟩
  have hB7 := hB7.kp0 hk6
  have k36 := k35.trans hk6
  have ho6 := own_kp0 ho k36
  have hS6 := hS0.kp0 k36
  have s36 := k36.size
  have l7 := hB7.lt
  have l8 := hB8.lt
  have hp := hin.pr n r hr3
  obtain ⟨x0, hx0, _⟩ := hp.x
  obtain ⟨y0, hy0, _⟩ := hp.y
  clear r2 hm5 hR7 hHm5 ee5 ms5 hH3 ho hS
  have fin : ∀ {w' : World} {v' : Value} {s' : ST} {g' : List Dg}, (exp1 now sq n).1 = s' → (if (exp1 now sq n).2 = true then gq ++ [n] else gq) = g' → Kp [bs, bp] w2 w' → Sl dc 8 w' (some ⟨ba, oa, none⟩) l → HubE w' bh bs bp win s' → w'.ownsRow w2.heap.size 44 8 v' g'.length (flt dc g') →
      i + 1 ≤ l.length ∧ Kp [bs, bp] w2 w' ∧ Sl dc 8 w' (some ⟨ba, oa, none⟩) l ∧ HubE w' bh bs bp win ((l.take (i + 1)).foldl (expF now) (s, [])).1 ∧ w'.ownsRow w2.heap.size 44 8 v' ((l.take (i + 1)).foldl (expF now) (s, [])).2.length (flt dc ((l.take (i + 1)).foldl (expF now) (s, [])).2) := fun e1 e2 hk hSl hE hO => by
    have e3 : (l.take (i + 1)).foldl (expF now) (s, []) = _ := hnext
    rw [e3]
    unfold expF
    simp only
    rw [e1, e2]
    exact ⟨hlt, hk, hSl, hE, hO⟩
  obtain ⟨q1, q2, -, q4, q5⟩ := prc_rows hB8
  have hR7 : Row w6 b7 0 (dc n) := Row.all hB7 rfl
  refine cE ?_
  repeat (first | refine CG.scope ?_ | refine cA ?_)
  refine cB ?_
  repeat (refine cV rfl rfl rfl rfl (by first|((first|apply qlc|apply qfa|apply qni)<;>(first|exact rfl|assumption|exact List.not_mem_nil|exact dcu))|fail) ?_)
  refine cD ?_
  refine cE ?_
  refine CG.cut_then (fun L w' => ∃ s' r', SubE [(0, .pointer (some ⟨bh, 0, none⟩)), (1, .int .i64 now), (5, v5), (7, .pointer (some ⟨b7, 0, none⟩)), (8, .pointer (some ⟨b8, 0, none⟩)), (15, .slice (some ⟨ba, oa, none⟩) l.length c), (16, .int .i64 (l.length : Int)), (17, .int .i64 (i : Int))] L ∧
    HubE w' bh bs bp win s' ∧ Blk w' b8 (.cells (prc r').toArray 68) ∧ Kp [bs, bp] w5 w' ∧ Inv win s' ∧ alook s'.m n = some r' ∧ r'.out = -1 ∧ exp1 now sq n = exp2 now s' n r') ?_ ?_
  · by_cases e1 : r.out = -1
    · refine dB rfl (by exact rho_of rfl) (by simp [e1]) ?_
      repeat (first|apply cF)
      refine NG.cut ⟨sq, r, by (repeat' (first | exact True.intro | exact rfl | refine And.intro ?_ ?_)), hH6, hB8, hk6.any, hin, hr3, e1, ?_⟩
      unfold exp1
      rw [hr3]
      simp only
      rw [if_pos e1]
    · refine dA rfl (by exact rho_of rfl) (by simp [e1]) ?_
      by_cases e2 : now ≤ r.out
      · have ee : exp1 now sq n = (sq, false) := by
          unfold exp1
          rw [hr3]
          simp only
          rw [if_neg e1, if_pos e2]
        repeat (first | first|apply cA|apply cB|apply cD|apply cE|refine cV rfl rfl rfl rfl (by first|((first|apply qmv|apply qlc|apply qfa|apply qpk|apply qle)<;>(first|exact rfl|assumption|exact dct (by first|assumption|omega)|exact List.not_mem_nil|fail))|fail) ?_ | refine cX rfl rfl ?_)
        refine dA rfl (by exact rho_of rfl) rfl ?_
        repeat (first|apply cB|apply cD|apply cE|apply cJ|apply cM|refine cN rfl ?_|refine cV rfl rfl rfl rfl (by first|((first|apply qmv|apply qad)<;>(first|exact rfl|exact Ar.mk (by omega)|fail))|fail) ?_)
        refine NG.round (v5, i + 1) (by (repeat' (first | exact True.intro | exact rfl | refine And.intro ?_ ?_))) (fin (s' := sq) (g' := gq) (by rw [ee]) (by rw [ee]; rfl) (k25.trans hk6.any) hS6 hH6 ho6) (by simp only; omega)
      · repeat (first|apply cA|apply cB|refine cV rfl rfl rfl rfl (by first|((first|apply qmv|apply qlc|apply qla|apply qfa|apply qle)<;>(first|exact rfl|assumption|exact dcf (by first|assumption|omega)|exact List.not_mem_nil|apply dc_length|fail))|fail) ?_)
        refine SG.call rfl rfl rfl (vs := [.pointer (some ⟨bh, 0, none⟩), dv r.to, dv n, .int .i64 now]) (by repeat' (first | exact True.intro | exact rho_of rfl | refine And.intro ?_ ?_)) ((hback_e hH6 r.to n now hy0).mono (fun e w7 hh => ?_))
        obtain ⟨he, hk7, hH7⟩ := hh
        refine ⟨_, he, ?_⟩
        have hS7 := hH6.slk hS6 hk7
        have ho7 := hH6.own ho6 hk7
        have hB87 := hH6.blk hB8 hk7
        have hB77 := hH6.blk hB7 hk7
        clear he
        cases hb : bkZ y0 n now with
        | false =>
          rw [hb, if_neg (by decide)] at hH7
          have ee : exp1 now sq n = (sq, false) := by
            unfold exp1
            rw [hr3]
            simp only
            rw [if_neg e1, if_neg e2, hy0]
            simp only
            rw [hb, if_neg (by decide)]
          repeat (first|apply cD|apply cE|refine cV rfl rfl rfl rfl (by first|((first|apply qpk|apply qnt)<;>(exact rfl))|fail) ?_)
          refine dA rfl (by exact rho_of rfl) rfl ?_
          repeat (first|apply cB|apply cD|apply cE|apply cJ|apply cM|refine cN rfl ?_|refine cV rfl rfl rfl rfl (by first|((first|apply qmv|apply qad)<;>(first|exact rfl|exact Ar.mk (by omega)|fail))|fail) ?_)
          refine NG.round (v5, i + 1) (by (repeat' (first | exact True.intro | exact rfl | refine And.intro ?_ ?_))) (fin (s' := sq) (g' := gq) (by rw [ee]) (by rw [ee]; rfl) ((k25.trans hk6.any).trans hk7) hS7 hH7 ho7) (by simp only; omega)
        | true =>
          rw [hb, if_pos rfl] at hH7
          have ee : exp1 now sq n = exp2 now ⟨aput sq.l r.to (bkP y0 n), aput sq.m n r.gone⟩ n r.gone := by
            unfold exp1
            rw [hr3]
            simp only
            rw [if_neg e1, if_neg e2, hy0]
            simp only
            rw [hb, if_pos rfl]
          have hst7 : Inv win ⟨aput sq.l r.to (bkP y0 n), sq.m⟩ ∨ True := Or.inr trivial
          clear q1 q2 q4 q5 hR7
          repeat (first|apply cD|apply cE|refine cV rfl rfl rfl rfl (by first|((first|apply qpk|apply qnt)<;>(exact rfl))|fail) ?_)
          refine dB rfl (by exact rho_of rfl) rfl ?_
          repeat (first|apply cA|apply cB|apply cE|apply cF|refine cV rfl rfl rfl rfl (by first|(apply qfa<;>(exact rfl))|fail) ?_)
          refine SG.store rfl rfl (by exact rho_of rfl) (by exact rho_of rfl) hB87 rfl (by show 0 + 26 + 1 ≤ _; simp [prc_length]) rfl (fun w8 hk8 hB88 => ?_)
          have hB88 : Blk w8 b8 (.cells (spl (prc r) 26 [.int .i64 (-1)]).toArray 68) := hB88
          rw [prc_gone] at hB88
          have k58 : Kp [bs, bp] w5 w8 := (hk6.any.trans hk7).trans_new hk8 (new1 (by omega))
          have hn8 : b8 ∉ [bs, bp] := hH7.nb hB87.raw
          have hH8 : HubE w8 bh bs bp win ⟨aput sq.l r.to (bkP y0 n), sq.m⟩ := by
            obtain ⟨ms7, ee7, hHm7⟩ := hH7
            refine ⟨ms7, ee7, hHm7.blk.kp hk8 (nm1 (fun e => ?_)), hHm7.sh.kp hk8 (nm1 (fun e => hn8 (by rw [← e]; simp))), hHm7.pr.kp hk8 (nm1 (fun e => hn8 (by rw [← e]; simp))), hHm7.ne, fun x hx => (hHm7.at' x hx).kp hk8 (fun hne z off e hz => ?_), hHm7.few⟩
            · have := hHm7.blk
              rw [e] at this
              have := this.uniq hB87
              simp only [Obj.cells.injEq] at this
              exact absurd this.2.1 (by decide)
            · obtain ⟨cs, f, hz2⟩ := (hHm7.at' x hx).ty hne z off e
              rw [List.mem_singleton] at hz
              subst hz
              have hz3 := hB87.raw
              rw [hz2] at hz3
              simp only [Option.some.injEq, Obj.cells.injEq] at hz3
              exact absurd hz3.2.1 (by decide)
          have hB78 := hB77.kp hk8 (nm1 (by omega))
          have hS8 : Sl dc 8 w8 (some ⟨ba, oa, none⟩) l := hS7.kp hk8 (fun b off e => nm1 (by cases e; omega))
          have ho8 := own_kp ho7 hk8 (own_neb ho7 (by decide) hB87)
          obtain ⟨ms8, ee8, hHm8⟩ := hH8
          obtain ⟨-, -, r2⟩ := hHm8.rows
          have hR7 : Row w8 b7 0 (dc n) := Row.all hB78 rfl
          have hR8 : Row w8 b8 0 (prc r.gone) := Row.all hB88 rfl
          repeat (first|apply cD|apply cE)
          refine CG.tail mixed 6 [0, 1, 2, 3, 4, 5] (by kernel_rfl) ?_
          repeat (refine cY rfl rfl rfl (by first|((first|apply qmv|apply qlc|apply qla|apply qfa|apply qnc)<;>(first|exact rfl|assumption|exact List.not_mem_nil|apply dc_length|apply prc_length))|fail) ?_)
          refine Der.tl (fun w9 hk9 _ _ => ?_)
          have hHm9 := hHm8.kp0 hk9
          refine SG.mapUpdate (enc := dv (n := 8)) (V := prv) (kx := n) (vy := r.gone) rfl rfl (by exact rho_of rfl) (by exact rho_of rfl) (by exact rho_of rfl) hHm9.pr BArr.key (fun w10 hk10 hm10 => ?_)
          have hE9 : HubE w9 bh bs bp win ⟨aput sq.l r.to (bkP y0 n), sq.m⟩ := ⟨ms8, ee8, hHm9⟩
          have hE10 : HubE w10 bh bs bp win ⟨aput sq.l r.to (bkP y0 n), aput sq.m n r.gone⟩ := ⟨ms8, ee8, hHm9.setP hk10 hm10⟩
          have k10 : Kp [bs, bp] w9 w10 := kp2b hk10
          have hst10 : Inv win ⟨aput sq.l r.to (bkP y0 n), aput sq.m n r.gone⟩ := by
            exact (pass_stp hin hr3 e1 hy0 hb).inv
          clear r2 hR7 hR8
          repeat (first|apply cD)
          refine NG.cut ⟨⟨aput sq.l r.to (bkP y0 n), aput sq.m n r.gone⟩, r.gone, by (repeat' (first | exact True.intro | exact rfl | refine And.intro ?_ ?_)), hE10, hE9.blk (hB88.kp0 hk9) k10, (k58.trans hk9.any).trans k10, hst10, by rw [alook_put, if_pos rfl], rfl, ee⟩
  clear q1 q2 q4 q5 hR7 hB8
  rintro L w7 ⟨s', r', hLL, hH7, hB8, hk7, hin7, hr7, ho1, ee⟩
  have hS7 := hE5.slk hS5 hk7
  have ho7 := hE5.own ho5 hk7
  have hB77 := hE5.blk hB75 hk7
  have hp := hin7.pr n r' hr7
  obtain ⟨x0, hx0, _⟩ := hp.x
  refine CG.to _ hLL ?_
  clear hLL L hS6 ho6 hB7
  obtain ⟨q1, q2, -, q4, q5⟩ := prc_rows hB8
  have hR7 : Row w7 b7 0 (dc n) := Row.all hB77 rfl
  by_cases e2 : now ≤ r'.inn
  · have e3 : exp1 now sq n = (s', false) := by
      rw [ee]
      unfold exp2
      rw [if_pos e2]
    repeat (first | first|apply cA|apply cB|apply cD|apply cE|refine cV rfl rfl rfl rfl (by first|((first|apply qmv|apply qlc|apply qfa|apply qpk|apply qle)<;>(first|exact rfl|assumption|exact dct (by first|assumption|omega)|exact List.not_mem_nil|fail))|fail) ?_ | refine cX rfl rfl ?_)
    refine dA rfl (by exact rho_of rfl) rfl ?_
    repeat (first|apply cB|apply cD|apply cE|apply cJ|apply cM|refine cN rfl ?_|refine cV rfl rfl rfl rfl (by first|((first|apply qmv|apply qad)<;>(first|exact rfl|exact Ar.mk (by omega)|fail))|fail) ?_)
    refine NG.round (v5, i + 1) (by (repeat' (first | exact True.intro | exact rfl | refine And.intro ?_ ?_))) (fin (s' := s') (g' := gq) (by rw [e3]) (by rw [e3]; rfl) (k25.trans hk7) hS7 hH7 ho7) (by simp only; omega)
  · repeat (first|apply cA|apply cB|refine cV rfl rfl rfl rfl (by first|((first|apply qmv|apply qlc|apply qla|apply qfa|apply qle)<;>(first|exact rfl|assumption|exact dcf (by first|assumption|omega)|exact List.not_mem_nil|apply dc_length|fail))|fail) ?_)
    refine SG.call rfl rfl rfl (vs := [.pointer (some ⟨bh, 0, none⟩), dv r'.frm, dv n, .int .i64 now]) (by repeat' (first | exact True.intro | exact rho_of rfl | refine And.intro ?_ ?_)) ((hback_e hH7 r'.frm n now hx0).mono (fun e w8 hh => ?_))
    obtain ⟨he, hk8, hH8⟩ := hh
    refine ⟨_, he, ?_⟩
    have hS8 := hH7.slk hS7 hk8
    have ho8 := hH7.own ho7 hk8
    have hB78 := hH7.blk hB77 hk8
    clear he hR7
    cases hb : bkZ x0 n now with
    | false =>
      rw [hb, if_neg (by decide)] at hH8
      have e3 : exp1 now sq n = (s', false) := by
        rw [ee]
        unfold exp2
        rw [if_neg e2, hx0]
        simp only
        rw [hb, if_neg (by decide)]
      repeat (first|apply cD|apply cE|refine cV rfl rfl rfl rfl (by first|((first|apply qpk|apply qnt)<;>(exact rfl))|fail) ?_)
      refine dA rfl (by exact rho_of rfl) rfl ?_
      repeat (first|apply cB|apply cD|apply cE|apply cJ|apply cM|refine cN rfl ?_|refine cV rfl rfl rfl rfl (by first|((first|apply qmv|apply qad)<;>(first|exact rfl|exact Ar.mk (by omega)|fail))|fail) ?_)
      refine NG.round (v5, i + 1) (by (repeat' (first | exact True.intro | exact rfl | refine And.intro ?_ ?_))) (fin (s' := s') (g' := gq) (by rw [e3]) (by rw [e3]; rfl) (k25.trans (hk7.trans hk8)) hS8 hH8 ho8) (by simp only; omega)
    | true =>
      rw [hb, if_pos rfl] at hH8
      have e3 : exp1 now sq n = (⟨aput s'.l r'.frm (bkP x0 n), s'.m.filter (fun q => decide (q.1 ≠ n))⟩, true) := by
        rw [ee]
        unfold exp2
        rw [if_neg e2, hx0]
        simp only
        rw [hb, if_pos rfl]
      have hH8' := hH8
      obtain ⟨ms8, ee8, hHm8⟩ := hH8
      obtain ⟨-, -, r2⟩ := hHm8.rows
      have hR7 : Row w8 b7 0 (dc n) := Row.all hB78 rfl
      repeat (first|apply cD|apply cE|refine cV rfl rfl rfl rfl (by first|((first|apply qpk|apply qnt)<;>(exact rfl))|fail) ?_)
      refine dB rfl (by exact rho_of rfl) rfl ?_
      repeat (first|apply cA|apply cE|apply cF)
      refine CG.tail mixed 5 [0, 1, 2, 3, 4] (by kernel_rfl) ?_
      repeat (refine cY rfl rfl rfl (by first|((first|apply qmv|apply qlc|apply qla|apply qfa|apply qnc)<;>(first|exact rfl|assumption|exact List.not_mem_nil|apply dc_length))|fail) ?_)
      refine Der.tl (fun w9 hk9 _ _ => ?_)
      have hHm9 := hHm8.kp0 hk9
      have hH9 := hH8'.kp0 hk9
      refine SG.delete (enc := dv (n := 8)) (V := prv) (kx := n) rfl rfl (by exact rho_of rfl) (by exact rho_of rfl) hHm9.pr (fun w10 hk10 hm10 => ?_)
      have hH10 : HubE w10 bh bs bp win ⟨aput s'.l r'.frm (bkP x0 n), s'.m.filter (fun q => decide (q.1 ≠ n))⟩ := ⟨ms8, ee8, hHm9.setP hk10 hm10⟩
      have k10 : Kp [bs, bp] w9 w10 := kp2b hk10
      have hS10 := hH9.slk (hS8.kp0 hk9) k10
      have ho10 := hH9.own (own_kp0 ho8 hk9) k10
      have hB710 := hH9.blk (hB78.kp0 hk9) k10
      have hR10 : Row w10 b7 0 (dc n) := Row.all hB710 rfl
      have k510 := ((hk7.trans hk8).trans hk9.any).trans k10
      have s510 := k510.size
      have s35 := k35.size
      clear r2 hR7
      repeat (first|apply cB|apply cD|apply cE|refine cV rfl rfl rfl rfl (by first|((first|apply qmv|apply qla)<;>(first|exact rfl|assumption|exact List.not_mem_nil|apply dc_length))|fail) ?_)
      refine SG.buildSlice rfl rfl rfl rfl (bsD n) (fun b11 w11 hk11 hb11 hB11 => ?_)
      have ho11 := own_kp0 ho10 hk11
      have s11 := hk11.size
      refine SG.appO (enc := dc (n := 8)) (base := w2.heap.size) (xs := gq) (ys := [n]) rfl rfl rfl (by exact rho_of rfl) (by exact rho_of rfl) rfl rfl rfl rfl dc_length dc_one ho11 (sl_one dc_length hB11) (by simp only [maxLen, List.length_cons, List.length_nil]; omega) (by show (gq.length + 1) * 8 ≤ _; omega) (by omega) (fun v' w12 hk12 ho12 _ => ?_)
      have hH12 := (hH10.kp0 hk11).grow ho11 hk12 (by decide) (by decide)
      have hS12 : Sl dc 8 w12 (some ⟨ba, oa, none⟩) l := (hS10.kp0 hk11).kp hk12 (fun b off e hm => by
        cases e
        have := own_geB ho11 _ (ownB_mem hm)
        omega)
      repeat (first|apply cB|apply cD|apply cE|apply cU|refine cV rfl rfl rfl rfl (by first|((first|apply qmv|apply qas|apply qad)<;>(first|exact rfl|exact Ar.mk (by omega)|fail))|fail) ?_)
      refine NG.round (v', i + 1) (by (repeat' (first | exact True.intro | exact rfl | refine And.intro ?_ ?_))) (fin (s' := ⟨aput s'.l r'.frm (bkP x0 n), s'.m.filter (fun q => decide (q.1 ≠ n))⟩) (g' := gq ++ [n]) (by rw [e3]) (by rw [e3]; rfl) (((k25.trans k510).trans hk11.any).trans_new hk12 (own_new ho11 (Nat.le_refl _))) hS12 hH12 ho12) (by simp only; omega)
end Go.Proofs.YtajllbdeoopimaaGreat
namespace Go.Proofs.YtajllbdeoopimaaGreat
set_option linter.unusedVariables false
section
variable {P : Program} {L : Env} {S : List Nat} {w0 : World} {F : World → Prop} {d : Option Nat} {ty : TypeId} {pos : String} {af : Array Edge} {g : Option (Nat × Bool)}
end
end Go.Proofs.YtajllbdeoopimaaGreat
namespace Go.Proofs.YtajllbdeoopimaaGreat
set_option linter.unusedVariables false
section
variable {P : Program} {S : List Nat} {w0 : World} {F : World → Prop} {L : Env} {d : Option Nat} {ty : TypeId} {pos : String} {af : Array Edge} {g : Option (Nat × Bool)}
theorem qmn {T T2 : TypeId} {x y : Operand} {a b : Int} (hx : ro L x = some (.int .i64 a)) (hy : ro L y = some (.int .i64 b)) :
    Vals P S w0 F L ⟨d, .call { callee := .builtin .min, args := #[x, y], argTypes := #[T, T2] }, ty, pos, af, g⟩ (.int .i64 (if b < a then b else a)) := fun w _ _ => by
  simp [execOp, rho_of hx, rho_of hy, resolve, invoke, builtin, Builtin.min_, Builtin.min2]
end
section
variable {P : Program} {S : List Nat} {w0 : World} {F : World → Prop} {L : Env} {d : Option Nat} {ty : TypeId} {pos : String} {af : Array Edge} {g : Option (Nat × Bool)}
end
theorem min_take {α : Type} (l : List α) (m : Nat) : (if (m : Int) < (l.length : Int) then (m : Int) else (l.length : Int)) = ((l.take m).length : Int) := by
  rw [List.length_take]
  split <;> omega
end Go.Proofs.YtajllbdeoopimaaGreat
namespace Go.Proofs.YtajllbdeoopimaaGreat
set_option linter.unusedVariables false
/-- An act: what is held of its purse lies in memory. -/
structure HA where
  kind : Int
  now : Int
  frm : Dg
  to : Dg
  nm : Dg
  amt : Int
  til : Int
  p : Pu
  a : Option Addr
  c : Nat
def HA.s (x : HA) : Value := .slice x.a x.p.held.length x.c
def hac (x : HA) : List Value := [.int .i64 x.kind, .int .i64 x.now] ++ (dc x.frm ++ (dc x.to ++ (dc x.nm ++ ([.int .i64 x.amt, .int .i64 x.til] ++ pc x.p x.s))))
theorem hac_length (x : HA) : (hac x).length = 40 := by simp [hac, pc_length, dc_length]
theorem hac_one (x : HA) : allOne (hac x) = true := by simp [hac, allOne, pc, dc, oneB, HA.s]
def hav (x : HA) : Value := .agg (hac x).toArray
/-- What is so of an act that comes. -/
structure HA.In (x : HA) (w : World) : Prop where
  sl : Sl hc 11 w x.a x.p.held
  cap : x.p.held.length ≤ x.c
  big : x.c ≤ 9223372036854775807
  k : fitZ x.kind
  n : fitZ x.now
  am : fitZ x.amt
  t : fitZ x.til
  h0 : fitZ x.p.h0
  h1 : fitZ x.p.h1
theorem HA.In.kp0 {x : HA} {w w' : World} (h : x.In w) (hk : Kp [] w w') : x.In w' := ⟨h.sl.kp0 hk, h.cap, h.big, h.k, h.n, h.am, h.t, h.h0, h.h1⟩
theorem hac_rows {w : World} {b : Nat} {T : TypeId} {x : HA} (h : Blk w b (.cells (hac x).toArray T)) : Row w b 0 [.int .i64 x.kind] ∧ Row w b 1 [.int .i64 x.now] ∧ Row w b 2 (dc x.frm) ∧ Row w b 10 (dc x.to) ∧ Row w b 18 (dc x.nm) ∧ Row w b 26 [.int .i64 x.amt] ∧ Row w b 27 [.int .i64 x.til] ∧ Row w b 28 (pc x.p x.s) ∧ Row w b 0 (hac x) := by
  have l1 : (dc x.frm).length = 8 := dc_length _
  have l2 : (dc x.to).length = 8 := dc_length _
  have l3 : (dc x.nm).length = 8 := dc_length _
  refine ⟨?_, ?_, ?_, ?_, ?_, ?_, ?_, ?_, Row.all h rfl⟩
  · exact Row.of h [] ([.int .i64 x.now] ++ (dc x.frm ++ (dc x.to ++ (dc x.nm ++ ([.int .i64 x.amt, .int .i64 x.til] ++ pc x.p x.s))))) (by simp [hac]) rfl
  · exact Row.of h [.int .i64 x.kind] (dc x.frm ++ (dc x.to ++ (dc x.nm ++ ([.int .i64 x.amt, .int .i64 x.til] ++ pc x.p x.s)))) (by simp [hac]) rfl
  · exact Row.of h [.int .i64 x.kind, .int .i64 x.now] (dc x.to ++ (dc x.nm ++ ([.int .i64 x.amt, .int .i64 x.til] ++ pc x.p x.s))) (by simp [hac]) rfl
  · exact Row.of h ([.int .i64 x.kind, .int .i64 x.now] ++ dc x.frm) (dc x.nm ++ ([.int .i64 x.amt, .int .i64 x.til] ++ pc x.p x.s)) (by simp [hac]) (by simp [l1])
  · exact Row.of h ([.int .i64 x.kind, .int .i64 x.now] ++ (dc x.frm ++ dc x.to)) ([.int .i64 x.amt, .int .i64 x.til] ++ pc x.p x.s) (by simp [hac]) (by simp [l1, l2])
  · exact Row.of h ([.int .i64 x.kind, .int .i64 x.now] ++ (dc x.frm ++ (dc x.to ++ dc x.nm))) ([.int .i64 x.til] ++ pc x.p x.s) (by simp [hac]) (by simp [l1, l2, l3])
  · exact Row.of h ([.int .i64 x.kind, .int .i64 x.now] ++ (dc x.frm ++ (dc x.to ++ (dc x.nm ++ [.int .i64 x.amt])))) (pc x.p x.s) (by simp [hac]) (by simp [l1, l2, l3])
  · exact Row.of h ([.int .i64 x.kind, .int .i64 x.now] ++ (dc x.frm ++ (dc x.to ++ (dc x.nm ++ [.int .i64 x.amt, .int .i64 x.til])))) [] (by simp [hac]) (by simp [l1, l2, l3])
def HA.cut (x : HA) : Pu := { x.p with held := x.p.held.take 20 }
theorem HA.cut_len (x : HA) : x.cut.held.length = min x.p.held.length 20 := by simp [HA.cut, Nat.min_comm]
/-- A call that answers a purse of its own. -/
def gU (m : Nat) (p : Pu) : GD := ⟨Cl12, zC, fun l => .agg l.1.toArray, fun l w => ∃ s, l.1 = pc p s ∧ w.ownsRow m 86 11 s p.held.length (flt hc p.held)⟩
theorem gU_stab {m : Nat} {p : Pu} (x : (gU m p).X) : Stab [] ((gU m p).phi x) := fun w w' hk ⟨s, h1, h2⟩ => ⟨s, h1, own_kp0 h2 hk⟩
theorem take_min20 (l : List Hd) : (if (20 : Int) < (l.length : Int) then (20 : Int) else (l.length : Int)) = ((l.take 20).length : Int) := min_take l 20
attribute [local irreducible] CG NG SG Vals Der Row Blk MapIs IterAt DerX
set_option maxHeartbeats 16000000 in
/-- do, whatever the hub's own calls answer. -/
theorem do_gen {w : World} (x : HA) (hx : x.In w) (pv0 : Value) (R : Int → Value → World → Prop)
    (h0 : x.kind = 0 → ∀ W, Kp [] w W → Calls Tryz.prog 17 #[pv0, .int .i64 x.now, dv x.frm, dv x.to, dv x.nm, .int .i64 x.amt, .int .i64 x.til] W (fun e w' => ∃ z, e = .returned (.int .i64 z) ∧ R z (.slice none 0 0) w'))
    (h1 : x.kind = 1 → ∀ W, Kp [] w W → Calls Tryz.prog 19 #[pv0, .int .i64 x.now, dv x.nm, .int .i64 x.amt] W (fun e w' => ∃ z, e = .returned (.int .i64 z) ∧ R z (.slice none 0 0) w'))
    (h2 : x.kind = 2 → ∀ W, Kp [] w W → Calls Tryz.prog 8 #[pv0, .int .i64 x.now] W (fun e w' => ∃ v, e = .returned v ∧ R 0 v w'))
    (h3 : x.kind = 3 → ∀ W s, Kp [] w W → W.ownsRow w.heap.size 86 11 s x.cut.held.length (flt hc x.cut.held) → Calls Tryz.prog 9 #[pv0, dv x.frm, pv x.cut s, .int .i64 x.amt] W (fun e w' => ∃ z, e = .returned (.int .i64 z) ∧ R z (.slice none 0 0) w'))
    (h4 : ¬ (x.kind = 0 ∨ x.kind = 1 ∨ x.kind = 2 ∨ x.kind = 3) → ∀ W, Kp [] w W → R 0 (.slice none 0 0) W) :
    Calls Tryz.prog 12 #[pv0, hav x] w (fun e w' => ∃ z v, e = .returned (.tuple #[.int .i64 z, v]) ∧ R z v w') := by
  refine enter2 Tryz.func12 rfl Tryz.ntmps12 rfl ?_
  repeat (first|apply cA|apply cB)
  refine SG.box rfl rfl rfl (by exact rho_of rfl) (fun b3 w1 hk1 hb3 hB3 => ?_)
  have hB3 : Blk w1 b3 (.cells (hac x).toArray 38) := hB3
  obtain ⟨r0, r1, r2, r10, r18, r26, r27, r28, -⟩ := hac_rows hB3
  repeat (first|apply cA|apply cB|apply cD|apply cE|apply cG|refine cV rfl rfl rfl rfl (by first|((first|apply qei|apply qas|apply qlc|apply qfa|apply qei)<;>(first|exact rfl|assumption|exact List.not_mem_nil|exact dcu))|fail) ?_)
  by_cases e0 : x.kind = 0
  · refine dA rfl (by exact rho_of rfl) (decide_eq_true e0) ?_
    repeat (first|apply cA|apply cB|refine cV rfl rfl rfl rfl (by first|((first|apply qmv|apply qlc|apply qla|apply qfa)<;>(first|exact rfl|assumption|exact List.not_mem_nil|apply dc_length))|fail) ?_)
    refine SG.call rfl rfl rfl (vs := [pv0, .int .i64 x.now, dv x.frm, dv x.to, dv x.nm, .int .i64 x.amt, .int .i64 x.til]) (by repeat' (first | exact True.intro | exact rho_of rfl | refine And.intro ?_ ?_)) ((h0 e0 w1 hk1).mono (fun e w2 hh => ?_))
    obtain ⟨z, he, hR⟩ := hh
    refine ⟨_, he, ?_⟩
    repeat (first|apply cD|apply cE|apply cH|apply cK|apply NG.ret_block|refine cV rfl rfl rfl rfl (by first|(apply qas<;>(exact rfl))|fail) ?_)
    refine ret2 (Or.inl rfl) Tryz.results12 (by first | exact ResV.tmp rfl | exact ResV.agg rfl rfl (by assumption) (by first | exact dc_length _ | exact nc_length _ | exact rc_length _ _ _ | exact ec_length _ | exact dl_length _ _ _ _ | rfl) | exact ResV.cell rfl rfl (by assumption)) (by first | exact ResV.tmp rfl | exact ResV.agg rfl rfl (by assumption) (by first | exact dc_length _ | exact nc_length _ | exact rc_length _ _ _ | exact ec_length _ | exact dl_length _ _ _ _ | rfl) | exact ResV.cell rfl rfl (by assumption)) ?_
    exact ⟨_, _, rfl, hR⟩
  refine dB rfl (by exact rho_of rfl) (decide_eq_false e0) ?_
  repeat (first|apply cA|apply cB|apply cD|apply cE|refine cV rfl rfl rfl rfl (by first|((first|apply qei|apply qas|apply qei)<;>(first|exact rfl|exact dcu))|fail) ?_)
  by_cases e1 : x.kind = 1
  · refine dA rfl (by exact rho_of rfl) (decide_eq_true e1) ?_
    repeat (first|apply cA|apply cB|refine cV rfl rfl rfl rfl (by first|((first|apply qmv|apply qlc|apply qla|apply qfa)<;>(first|exact rfl|assumption|exact List.not_mem_nil|apply dc_length))|fail) ?_)
    refine SG.call rfl rfl rfl (vs := [pv0, .int .i64 x.now, dv x.nm, .int .i64 x.amt]) (by repeat' (first | exact True.intro | exact rho_of rfl | refine And.intro ?_ ?_)) ((h1 e1 w1 hk1).mono (fun e w2 hh => ?_))
    obtain ⟨z, he, hR⟩ := hh
    refine ⟨_, he, ?_⟩
    repeat (first|apply cD|apply cE|apply cH|apply cK|apply NG.ret_block|refine cV rfl rfl rfl rfl (by first|(apply qas<;>(exact rfl))|fail) ?_)
    refine ret2 (Or.inl rfl) Tryz.results12 (by first | exact ResV.tmp rfl | exact ResV.agg rfl rfl (by assumption) (by first | exact dc_length _ | exact nc_length _ | exact rc_length _ _ _ | exact ec_length _ | exact dl_length _ _ _ _ | rfl) | exact ResV.cell rfl rfl (by assumption)) (by first | exact ResV.tmp rfl | exact ResV.agg rfl rfl (by assumption) (by first | exact dc_length _ | exact nc_length _ | exact rc_length _ _ _ | exact ec_length _ | exact dl_length _ _ _ _ | rfl) | exact ResV.cell rfl rfl (by assumption)) ?_
    exact ⟨_, _, rfl, hR⟩
  refine dB rfl (by exact rho_of rfl) (decide_eq_false e1) ?_
  repeat (first|apply cA|apply cB|apply cD|apply cE|refine cV rfl rfl rfl rfl (by first|((first|apply qei|apply qas|apply qei)<;>(first|exact rfl|exact dcu))|fail) ?_)
  by_cases e2 : x.kind = 2
  · refine dA rfl (by exact rho_of rfl) (decide_eq_true e2) ?_
    repeat (first|apply cA|apply cB|refine cV rfl rfl rfl rfl (by first|((first|apply qmv|apply qlc|apply qfa)<;>(first|exact rfl|assumption|exact List.not_mem_nil))|fail) ?_)
    refine SG.call rfl rfl rfl (vs := [pv0, .int .i64 x.now]) (by repeat' (first | exact True.intro | exact rho_of rfl | refine And.intro ?_ ?_)) ((h2 e2 w1 hk1).mono (fun e w2 hh => ?_))
    obtain ⟨v, he, hR⟩ := hh
    refine ⟨_, he, ?_⟩
    repeat (first|apply cD|apply cE|apply cH|apply cK|apply NG.ret_block|refine cV rfl rfl rfl rfl (by first|(apply qas<;>(exact rfl))|fail) ?_)
    refine ret2 (Or.inl rfl) Tryz.results12 (by first | exact ResV.tmp rfl | exact ResV.agg rfl rfl (by assumption) (by first | exact dc_length _ | exact nc_length _ | exact rc_length _ _ _ | exact ec_length _ | exact dl_length _ _ _ _ | rfl) | exact ResV.cell rfl rfl (by assumption)) (by first | exact ResV.tmp rfl | exact ResV.agg rfl rfl (by assumption) (by first | exact dc_length _ | exact nc_length _ | exact rc_length _ _ _ | exact ec_length _ | exact dl_length _ _ _ _ | rfl) | exact ResV.cell rfl rfl (by assumption)) ?_
    exact ⟨_, _, rfl, hR⟩
  refine dB rfl (by exact rho_of rfl) (decide_eq_false e2) ?_
  repeat (first|apply cA|apply cB|apply cD|apply cE|refine cV rfl rfl rfl rfl (by first|((first|apply qei|apply qas|apply qei)<;>(first|exact rfl|exact dcu))|fail) ?_)
  by_cases e3 : x.kind = 3
  · refine dA rfl (by exact rho_of rfl) (decide_eq_true e3) ?_
    have r28 : Row w1 b3 28 (pc x.p (.slice x.a x.p.held.length x.c)) := r28
    repeat (first|apply cA|apply cB|refine cV rfl rfl rfl rfl (by first|((first|apply qla|apply qfa)<;>(first|exact rfl|assumption|exact List.not_mem_nil|apply pc_length))|fail) ?_)
    refine SG.alloc rfl rfl rfl (fun b6 w2 hk2 hb6 hB6 => ?_)
    refine SG.setAll (l := pc x.p (.slice x.a x.p.held.length x.c)) rfl rfl (by exact rho_of rfl) (by exact rho_of rfl) hB6 (pc_length _ _) rfl (pc_one _ _ _ _) (fun w3 hk3 hB6 => ?_)
    have hB6 : Blk w3 b6 (.cells (pc x.p (.slice x.a x.p.held.length x.c)).toArray 36) := hB6
    have k13 : Kp [] w1 w3 := hk2.trans_new hk3 (new1 (by omega))
    obtain ⟨-, -, -, -, s4, -⟩ := pc_rows hB6
    have hcl : (x.p.held.take 20).length ≤ x.c := by
      have := hx.cap
      rw [List.length_take]
      omega
    clear r28
    repeat (first|apply cA|apply cB|apply cD|apply cE|refine cV rfl rfl rfl rfl (by first|((first|apply qmn|apply qlc|apply qfa|apply qln)<;>(first|exact rfl|assumption|exact List.not_mem_nil))|fail) ?_)
    rw [take_min20]
    repeat (first|refine cV rfl rfl rfl rfl (by first|((first|apply qto|apply qfa|apply qto)<;>(first|exact rfl|exact Ar.mk (by omega)|fail))|fail) ?_)
    refine SG.store rfl rfl (by exact rho_of rfl) (by exact rho_of rfl) hB6 rfl (by show 0 + 11 + 1 ≤ _; simp [pc_length]) rfl (fun w4 hk4 hB64 => ?_)
    have hB64 : Blk w4 b6 (.cells (spl (pc x.p (.slice x.a x.p.held.length x.c)) 11 [.slice x.a (x.p.held.take 20).length x.c]).toArray 36) := hB64
    rw [pc_held] at hB64
    have k14 : Kp [] w1 w4 := k13.trans_new hk4 (new1 (by omega))
    have hR6 : Row w4 b6 0 (pc x.cut (.slice x.a x.cut.held.length x.c)) := Row.all hB64 rfl
    have r2 := r2.kp0 k14
    have r26 := r26.kp0 k14
    have hS := (hx.sl.take 20).kp0 (hk1.trans k14)
    clear s4
    repeat (first|apply cA|apply cD|apply cE)
    refine CG.free mixed 7 [0, 1, 2, 3, 5, 6, 4] [(4, gU w4.heap.size x.cut)] (by kernel_rfl) (by intro p hp y; simp at hp; subst hp; exact gU_stab y) ?_
    repeat (refine cZ rfl rfl rfl rfl (by first|((first|apply qmv|apply qlc|apply qla|apply qfa)<;>(first|exact rfl|assumption|exact List.not_mem_nil|apply dc_length|apply pc_length))|fail) ?_)
    refine DerX.callE (vs := [pv x.cut (.slice x.a x.cut.held.length x.c)]) (gU w4.heap.size x.cut) rfl rfl rfl rfl (by repeat' (first | exact True.intro | exact rho_of rfl | refine And.intro ?_ ?_)) (fun W hk _ => (own_spec (c := x.c) x.cut (hS.kp0 hk) (by rw [x.cut_len]; omega)).mono (fun e w' hh => ?_)) (fun v' => ?_)
    · obtain ⟨s, he, ho, hk'⟩ := hh
      exact ⟨⟨pc x.cut s, pc_length _ _⟩, he, ⟨s, rfl, own_mono ho hk.size⟩, hk'⟩
    skip
    refine DerX.tl (fun w5 hk5 hF => ?_)
    obtain ⟨s, hs, ho⟩ : ∃ s, v'.1 = pc x.cut s ∧ w5.ownsRow w4.heap.size 86 11 s x.cut.held.length (flt hc x.cut.held) := hF _ (.head _)
    clear hF r2 r26 hR6
    have k5 := (hk1.trans k14).trans hk5
    skip
    refine SG.call rfl rfl rfl (vs := [pv0, dv x.frm, .agg v'.1.toArray, .int .i64 x.amt]) (by repeat' (first | exact True.intro | exact rho_of rfl | refine And.intro ?_ ?_)) ?_
    rw [hs]
    refine (h3 e3 w5 s k5 (own_mono ho (hk1.trans k14).size)).mono (fun e w6 hh => ?_)
    obtain ⟨z, he, hR⟩ := hh
    refine ⟨_, he, ?_⟩
    repeat (first|apply cD|apply cE|apply cH|apply cK|apply NG.ret_block|refine cV rfl rfl rfl rfl (by first|(apply qas<;>(exact rfl))|fail) ?_)
    refine ret2 (Or.inl rfl) Tryz.results12 (by first | exact ResV.tmp rfl | exact ResV.agg rfl rfl (by assumption) (by first | exact dc_length _ | exact nc_length _ | exact rc_length _ _ _ | exact ec_length _ | exact dl_length _ _ _ _ | rfl) | exact ResV.cell rfl rfl (by assumption)) (by first | exact ResV.tmp rfl | exact ResV.agg rfl rfl (by assumption) (by first | exact dc_length _ | exact nc_length _ | exact rc_length _ _ _ | exact ec_length _ | exact dl_length _ _ _ _ | rfl) | exact ResV.cell rfl rfl (by assumption)) ?_
    exact ⟨_, _, rfl, hR⟩
  refine dB rfl (by exact rho_of rfl) (decide_eq_false e3) ?_
  repeat (first|apply cA|apply cB|apply cD|apply cE|apply cF|apply cH|apply cU|refine cV rfl rfl rfl rfl (by first|(apply qas<;>(exact rfl))|fail) ?_)
  refine ret2 (Or.inl rfl) Tryz.results12 (by first | exact ResV.tmp rfl | exact ResV.agg rfl rfl (by assumption) (by first | exact dc_length _ | exact nc_length _ | exact rc_length _ _ _ | exact ec_length _ | exact dl_length _ _ _ _ | rfl) | exact ResV.cell rfl rfl (by assumption)) (by first | exact ResV.tmp rfl | exact ResV.agg rfl rfl (by assumption) (by first | exact dc_length _ | exact nc_length _ | exact rc_length _ _ _ | exact ec_length _ | exact dl_length _ _ _ _ | rfl) | exact ResV.cell rfl rfl (by assumption)) ?_
  exact ⟨_, _, rfl, h4 (fun h => by rcases h with h | h | h | h <;> contradiction) w1 hk1⟩
end Go.Proofs.YtajllbdeoopimaaGreat
namespace Go.Proofs.YtajllbdeoopimaaGreat
set_option linter.unusedVariables false
def doE (win : Int) (s : ST) (x : HA) : Int := if x.kind = 0 then fwdZ win s x.now x.frm x.to x.nm x.amt x.til else if x.kind = 1 then setZ s x.now x.nm x.amt else if x.kind = 3 then openZ s.l x.frm x.cut x.amt else 0
def doS (win : Int) (s : ST) (x : HA) : ST := if x.kind = 0 then (if fwdZ win s x.now x.frm x.to x.nm x.amt x.til = 0 then fwdS win s x.frm x.to x.nm x.amt x.til else s) else if x.kind = 1 then (if setZ s x.now x.nm x.amt = 0 then setS s x.nm x.amt else s) else if x.kind = 2 then (expAll x.now s).1 else if x.kind = 3 then (if openZ s.l x.frm x.cut x.amt = 0 then ⟨aput s.l x.frm (x.cut, x.amt), s.m⟩ else s) else s
def doG (s : ST) (x : HA) : List Dg := if x.kind = 2 then (expAll x.now s).2 else []
theorem aput_len {κ ν : Type} [DecidableEq κ] (k : κ) (v : ν) : ∀ m : List (κ × ν), (aput m k v).length ≤ m.length + 1
  | [] => by simp [aput]
  | (k', u) :: m => by
    simp only [aput]
    split
    · simp
    · simp only [List.length_cons]
      have := aput_len k v m
      omega
theorem keys_len' {κ ν : Type} {l l' : List (κ × ν)} (h : l'.map (·.1) = l.map (·.1)) : l'.length = l.length := by
  have := congrArg List.length h
  simpa using this
theorem exp2_len (now : Int) (s : ST) (n : Dg) (r : Pr) : (exp2 now s n r).1.m.length ≤ s.m.length := by
  unfold exp2
  split
  · exact Nat.le_refl _
  · split
    · split
      · exact List.length_filter_le _ _
      · exact Nat.le_refl _
    · exact Nat.le_refl _
theorem exp1_len (now : Int) (s : ST) (n : Dg) : (exp1 now s n).1.m.length ≤ s.m.length := by
  unfold exp1
  cases hn : alook s.m n with
  | none => exact Nat.le_refl _
  | some r =>
    simp only
    split
    · exact exp2_len _ _ _ _
    · split
      · exact Nat.le_refl _
      · split
        · exact Nat.le_refl _
        · split
          · refine Nat.le_trans (exp2_len _ _ _ _) ?_
            show (aput s.m n r.gone).length ≤ _
            rw [keys_len' (keys_put hn)]
            exact Nat.le_refl _
          · exact Nat.le_refl _
theorem expF_mlen (now : Int) : ∀ (ns : List Dg) (q : ST × List Dg), (ns.foldl (expF now) q).1.m.length ≤ q.1.m.length
  | [], q => Nat.le_refl _
  | n :: ns, q => by
    rw [List.foldl_cons]
    exact Nat.le_trans (expF_mlen now ns _) (exp1_len now q.1 n)
theorem do_len (win : Int) (s : ST) (x : HA) : (doS win s x).m.length ≤ s.m.length + 1 := by
  unfold doS
  split
  · split
    · unfold fwdS
      split
      · exact aput_len _ _ _
      · exact Nat.le_succ _
    · exact Nat.le_succ _
  · split
    · split
      · unfold setS
        split
        · exact Nat.le_succ _
        · split
          · exact Nat.le_succ_of_le (List.length_filter_le _ _)
          · exact Nat.le_succ _
      · exact Nat.le_succ _
    · split
      · exact Nat.le_succ_of_le (expF_mlen _ _ _)
      · split
        · split <;> exact Nat.le_succ _
        · exact Nat.le_succ _
/-- An act leaves all that is so; what was opened has what it brought. -/
theorem do_inv {win : Int} {s : ST} (hi : Inv win s) (hw : 0 ≤ win) (x : HA) : Inv win (doS win s x) ∧ sumA backL (doS win s x).l = sumA backL s.l + (if x.kind = 3 ∧ doE win s x = 0 then haveP x.p x.amt else 0) ∧ (¬ (x.kind = 3 ∧ doE win s x = 0) → Stp win s (doS win s x)) ∧ (x.kind = 3 ∧ doE win s x = 0 → doS win s x = ⟨aput s.l x.frm (x.cut, x.amt), s.m⟩ ∧ alook s.l x.frm = none ∧ x.cut.Ok ∧ (x.amt = 0 ∨ x.amt = 1) ∧ x.p.held = []) := by
  have key : Stp win s (doS win s x) → ¬ (x.kind = 3 ∧ doE win s x = 0) → _ := fun h hn => (⟨h.inv, by rw [if_neg hn, h.back]; omega, fun _ => h, fun h2 => absurd h2 hn⟩ : Inv win (doS win s x) ∧ sumA backL (doS win s x).l = sumA backL s.l + (if x.kind = 3 ∧ doE win s x = 0 then haveP x.p x.amt else 0) ∧ (¬ (x.kind = 3 ∧ doE win s x = 0) → Stp win s (doS win s x)) ∧ (x.kind = 3 ∧ doE win s x = 0 → doS win s x = ⟨aput s.l x.frm (x.cut, x.amt), s.m⟩ ∧ alook s.l x.frm = none ∧ x.cut.Ok ∧ (x.amt = 0 ∨ x.amt = 1) ∧ x.p.held = []))
  by_cases e0 : x.kind = 0
  · refine key ?_ (fun h => by have := h.1; omega)
    unfold doS
    rw [if_pos e0]
    split
    · rename_i h; exact fwd_stp hi hw h
    · exact Stp.refl hi
  by_cases e1 : x.kind = 1
  · refine key ?_ (fun h => by have := h.1; omega)
    unfold doS
    rw [if_neg e0, if_pos e1]
    split
    · rename_i h; exact set_stp hi h
    · exact Stp.refl hi
  by_cases e2 : x.kind = 2
  · refine key ?_ (fun h => by have := h.1; omega)
    unfold doS
    rw [if_neg e0, if_neg e1, if_pos e2]
    exact exp_stp (srt (s.m.map (·.1))) (s, []) hi
  by_cases e3 : x.kind = 3
  · have ee : doE win s x = openZ s.l x.frm x.cut x.amt := by unfold doE; rw [if_neg e0, if_neg e1, if_pos e3]
    have es : doS win s x = if openZ s.l x.frm x.cut x.amt = 0 then ⟨aput s.l x.frm (x.cut, x.amt), s.m⟩ else s := by unfold doS; rw [if_neg e0, if_neg e1, if_neg e2, if_pos e3]
    by_cases hz : openZ s.l x.frm x.cut x.amt = 0
    · rw [if_pos hz] at es
      obtain ⟨h1, h2, h3, h4, h5⟩ := open_inv hi hz
      have hc : x.kind = 3 ∧ doE win s x = 0 := ⟨e3, by rw [ee, hz]⟩
      have hnil : x.p.held = [] := by
        have h6 : x.p.held.take 20 = [] := h5
        rcases List.take_eq_nil_iff.1 h6 with h | h
        · cases h
        · exact h
      refine ⟨by rw [es]; exact h1, ?_, fun hn => absurd hc hn, fun _ => ⟨es, h2, h3, h4, hnil⟩⟩
      rw [if_pos hc, es]
      show sumA backL (aput s.l x.frm (x.cut, x.amt)) = _
      rw [sumA_new backL h2]
      have e4 : backL (x.cut, x.amt) = haveP x.p x.amt := by
        unfold backL
        simp only [h5, sumF]
        show haveP x.p x.amt + 0 = _
        omega
      rw [e4]
    · rw [if_neg hz] at es
      refine key ?_ (fun h => hz (by rw [← ee]; exact h.2))
      rw [es]
      exact Stp.refl hi
  · refine key ?_ (fun h => e3 h.1)
    unfold doS
    rw [if_neg e0, if_neg e1, if_neg e2, if_neg e3]
    exact Stp.refl hi
theorem do_e {w : World} {bh bs bp : Nat} {win : Int} {s : ST} (hH : HubE w bh bs bp win s) (hi : Inv win s) (hlen : s.m.length ≤ 1000) (hwin : 0 ≤ win ∧ win ≤ 1048576) (x : HA) (hx : x.In w) :
    Calls Tryz.prog 12 #[.pointer (some ⟨bh, 0, none⟩), hav x] w (fun e w' => ∃ v, e = .returned (.tuple #[.int .i64 (doE win s x), v]) ∧ w'.ownsRow w.heap.size 44 8 v (doG s x).length (flt dc (doG s x)) ∧ Kp [bs, bp] w w' ∧ HubE w' bh bs bp win (doS win s x)) := by
  refine (do_gen x hx (.pointer (some ⟨bh, 0, none⟩)) (fun z v w' => z = doE win s x ∧ w'.ownsRow w.heap.size 44 8 v (doG s x).length (flt dc (doG s x)) ∧ Kp [bs, bp] w w' ∧ HubE w' bh bs bp win (doS win s x)) (fun e W hk => ?_) (fun e W hk => ?_) (fun e W hk => ?_) (fun e W sl hk ho => ?_) (fun hn W hk => ?_)).mono (fun e w' ⟨z, v, h1, h2, h3⟩ => ⟨v, by rw [h1, h2], h3⟩)
  · refine (forward_e (hH.kp0 hk) hi x.now x.frm x.to x.nm x.amt x.til hwin hx.t.2).mono (fun e' w' hh => ?_)
    obtain ⟨h1, h2, h3⟩ := hh
    refine ⟨_, h1, by unfold doE; rw [if_pos e], ?_, hk.any.trans h2, by unfold doS; rw [if_pos e]; exact h3⟩
    rw [show doG s x = [] from if_neg (by omega)]
    exact own_nil
  · refine (settle_e (hH.kp0 hk) hi x.now x.nm x.amt).mono (fun e' w' hh => ?_)
    obtain ⟨h1, h2, h3⟩ := hh
    have e0 : ¬ x.kind = 0 := by omega
    refine ⟨_, h1, by unfold doE; rw [if_neg e0, if_pos e], ?_, hk.any.trans h2, by unfold doS; rw [if_neg e0, if_pos e]; exact h3⟩
    rw [show doG s x = [] from if_neg (by omega)]
    exact own_nil
  · refine (expire_e (hH.kp0 hk) hi hlen x.now).mono (fun e' w' hh => ?_)
    obtain ⟨v, h1, h2, h3, h4⟩ := hh
    have e0 : ¬ x.kind = 0 := by omega
    have e1 : ¬ x.kind = 1 := by omega
    refine ⟨v, h1, by unfold doE; rw [if_neg e0, if_neg e1, if_neg (by omega)], ?_, hk.any.trans h3, by unfold doS; rw [if_neg e0, if_neg e1, if_pos e]; exact h4⟩
    rw [show doG s x = (expAll x.now s).2 from if_pos e]
    exact own_mono h2 hk.size
  · obtain ⟨a, c, rfl, hcap, hS⟩ := Sl.own hc_length ho rfl
    refine (open_e (hH.kp0 hk) x.frm x.cut x.amt hS (by rw [x.cut_len]; omega) hcap).mono (fun e' w' hh => ?_)
    obtain ⟨h1, h2, h3⟩ := hh
    have e0 : ¬ x.kind = 0 := by omega
    have e1 : ¬ x.kind = 1 := by omega
    have e2 : ¬ x.kind = 2 := by omega
    refine ⟨_, h1, by unfold doE; rw [if_neg e0, if_neg e1, if_pos e], ?_, hk.any.trans h2, by unfold doS; rw [if_neg e0, if_neg e1, if_neg e2, if_pos e]; exact h3⟩
    rw [show doG s x = [] from if_neg e2]
    exact own_nil
  · have e0 : ¬ x.kind = 0 := fun h => hn (Or.inl h)
    have e1 : ¬ x.kind = 1 := fun h => hn (Or.inr (Or.inl h))
    have e2 : ¬ x.kind = 2 := fun h => hn (Or.inr (Or.inr (Or.inl h)))
    have e3 : ¬ x.kind = 3 := fun h => hn (Or.inr (Or.inr (Or.inr h)))
    refine ⟨by unfold doE; rw [if_neg e0, if_neg e1, if_neg e3], ?_, hk.any, by unfold doS; rw [if_neg e0, if_neg e1, if_neg e2, if_neg e3]; exact hH.kp0 hk⟩
    rw [show doG s x = [] from if_neg e2]
    exact own_nil
theorem sumS_er (f : Sh → Int) (g : Ps → Int) (h : ∀ x, f x = g x.ps) : ∀ ms : Ms, sumS f ms = sumA g (er ms)
  | [] => rfl
  | x :: ms => by
    show f x.2 + sumS f ms = g x.2.ps + sumA g (er ms)
    rw [h, sumS_er f g h ms]
theorem backS_ps (x : Sh) : backS x = backL x.ps := by
  show haveP x.p x.side + ownS x.side x.p.held = haveP x.p x.side + sumF _ x.p.held
  rw [ownS_eq]
  rfl
theorem onS_ps (x : Sh) : onS x = onL x.ps := by
  show haveP x.p x.side + othS x.side x.p.held = haveP x.p x.side + sumF _ x.p.held
  rw [othS_eq]
  rfl
theorem Inv.shok {win : Int} {s : ST} (hi : Inv win s) {ms : Ms} (e : er ms = s.l) : (∀ x ∈ ms, ShOk x.2) ∧ ms.length ≤ 16 := by
  refine ⟨fun x hx => ?_, by rw [← er_len, e]; exact hi.len⟩
  have hm : (x.1, x.2.ps) ∈ s.l := by rw [← e]; exact List.mem_map_of_mem hx
  obtain ⟨h1, h2⟩ := hi.ok x.1 x.2.ps (alook_of_mem hi.kl hm)
  have e2 : x.2.ps.2 = x.2.side := rfl
  rw [e2] at h2
  exact ⟨h1, by omega, by omega⟩
theorem worth_e {w : World} {bh bs bp : Nat} {win : Int} {s : ST} (hH : HubE w bh bs bp win s) (hi : Inv win s) : Ret Tryz.prog 35 #[.pointer (some ⟨bh, 0, none⟩)] w (.tuple #[.int .i64 (sumA backL s.l), .int .i64 (sumA onL s.l)]) := by
  obtain ⟨ms, e, hH⟩ := hH
  obtain ⟨h1, h2⟩ := hi.shok e
  have := worth_spec hH h2 h1
  rwa [sumS_er backS backL backS_ps, sumS_er onS onL onS_ps, e] at this
end Go.Proofs.YtajllbdeoopimaaGreat
