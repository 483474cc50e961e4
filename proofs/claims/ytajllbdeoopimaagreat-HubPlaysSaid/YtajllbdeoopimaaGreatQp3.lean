import Derived.Test.YtajllbdeoopimaaGreatQp2
namespace Go.Proofs.YtajllbdeoopimaaGreat
set_option linter.unusedVariables false
theorem sl_drop {α : Type} {enc : α → List Value} {sz : Nat} {w : World} {b off c j : Nat} {l : List α} (hS : Sl enc sz w (some ⟨b, off, none⟩) l) (hc : l.length ≤ c) : Sl enc sz w (some ⟨b, if c = j then off else off + j * sz, none⟩) (l.drop j) := fun i x hx => by
  rw [List.getElem?_drop] at hx
  have hlt := (List.getElem?_eq_some_iff.1 hx).1
  obtain ⟨b', off', h, hr⟩ := hS _ x hx
  cases h
  rw [if_neg (by omega)]
  refine ⟨_, _, rfl, ?_⟩
  rw [Nat.add_mul, ← Nat.add_assoc] at hr
  exact hr
theorem chkL_all : ∀ {l s : List Hd}, chkL s l = 0 → ∀ h ∈ l, h.Ok
  | [], _, _, h, hm => by cases hm
  | x :: l, s, hc, h, hm => by
    by_cases hx : x.Ok
    · cases ha : s.any (fun o => decide (o.name = x.name)) with
      | true => rw [chkL_two hx ha] at hc; cases hc
      | false =>
        rw [chkL_on hx ha] at hc
        rcases List.mem_cons.1 hm with rfl | hm
        · exact hx
        · exact chkL_all hc h hm
    · rw [chkL_bad hx] at hc
      cases hc
attribute [local irreducible] CG NG SG Vals Der Row Blk MapIs IterAt chkL DerR
set_option maxHeartbeats 16000000 in
theorem hdel_spec {w : World} {base : Nat} {v : Value} {l : List Hd} {i : Nat} (ho : w.ownsRow base 86 11 v l.length (flt hc l)) (hl : l.length ≤ 1000) (hi : i < l.length) (hbase : base ≤ w.heap.size) : Calls Tryz.prog 82 #[v, .int .i64 (i : Int), .int .i64 ((i : Int) + 1)] w (fun e w' => ∃ v', e = .returned v' ∧ Kp (ownB v) w w' ∧ w'.ownsRow base 86 11 v' (cutL l i).length (flt hc (cutL l i))) := by
  refine enter3 Tryz.func82 rfl Tryz.ntmps82 rfl ?_
  obtain ⟨g, cap, rfl, hcp⟩ := own_slice ho (by omega)
  have hS : Sl hc 11 w (some ⟨g, 0, none⟩) l := by
    obtain ⟨_, _, e, _, h⟩ := Sl.own hc_length ho rfl
    cases e
    exact h
  have g1 : ¬ (i : Int) = (i : Int) + 1 := by omega
  repeat (first|apply cA|apply cB|apply cD|apply cE|refine cV rfl rfl rfl rfl (by first|((first|apply qmv|apply qas|apply qln)<;>(exact rfl))|fail) ?_)
  refine cV rfl rfl rfl rfl (qf3 (j := i) (m := i + 1) (r := l.length) rfl rfl rfl rfl rfl (by omega) rfl (by omega)) ?_
  repeat (first|apply cA|apply cB|apply cD|apply cE|refine cV rfl rfl rfl rfl (by first|((first|apply qmv|apply qei)<;>(first|exact rfl|exact dcf (by first|assumption|omega)|fail))|fail) ?_)
  refine dB rfl (by exact rho_of rfl) rfl ?_
  repeat (first|apply cA|apply cB|apply cD|apply cE|apply cF|refine cV rfl rfl rfl rfl (by first|((first|apply qmv|apply qas|apply qln)<;>(exact rfl))|fail) ?_)
  refine CG.tail mixed 6 [0, 1, 2, 3, 4, 5] (by kernel_rfl) ?_
  repeat (refine cY rfl rfl rfl (by first|((first|apply qmv|apply qto)<;>(first|exact rfl|exact Ar.mk (by omega)|fail))|fail) ?_)
  refine cY rfl rfl rfl (qfr (j := i + 1) rfl rfl (by omega) (Ar.mk (by omega))) ?_
  refine Der.tl (fun w1 hk1 _ _ => ?_)
  have ho1 := own_kp0 ho hk1
  refine SG.appRoom (enc := hc) (base := base) (xs := l.take i) (ys := l.drop (i + 1)) rfl rfl rfl (by exact rho_of rfl) (by exact rho_of rfl) List.length_drop.symm rfl rfl rfl hc_length hc_one (own_take hc_length ho1 rfl (by omega)) (by rw [List.length_take]; omega) (sl_drop (hS.kp0 hk1) hcp) (by rw [List.length_drop]; omega) (by rw [List.length_drop]; simp only [maxLen]; omega) (by rw [List.length_drop]; show (i + (l.length - (i + 1))) * 32 ≤ _; omega) (Nat.le_trans hbase hk1.size) (fun w2 hk2 ho2 => ?_)
  have ek : i + (l.length - (i + 1)) = l.length - 1 := by omega
  have hcl : (cutL l i).length = l.length - 1 := by
    unfold cutL
    rw [List.length_append, List.length_take, List.length_drop]
    omega
  rw [ek] at ho2 ⊢
  repeat (first|apply cA|apply cB|apply cD|apply cE|refine cV rfl rfl rfl rfl (by first|((first|apply qfh|apply qmv|apply qas|apply qln)<;>(first|exact rfl|exact Ar.mk (by omega)|fail))|fail) ?_)
  refine SG.clearT (base := base) (g := g) (k := l.length - 1) (m := 0) (cap := cap) (xs := flt hc (cutL l i)) (z := .agg ((dc zd ++ [.int .i64 0, .int .i64 0, .int .i64 0] : List Value).toArray)) (T := 86) (c2 := cap - (l.length - 1)) rfl rfl ?_ rfl rfl rfl ho2 (by omega) (fun w3 hk3 ho3 => ?_)
  · refine (rho_of rfl).trans ?_
    rw [Nat.zero_add, show l.length - (l.length - 1) = 0 + 1 by omega]
    rfl
  repeat (first|apply cA|apply cB|apply cD|apply cE|apply cH|refine cV rfl rfl rfl rfl (by first|((first|apply qmv|apply qas)<;>(exact rfl))|fail) ?_)
  refine ret1 (Or.inl rfl) Tryz.results82 (by first | exact ResV.tmp rfl | exact ResV.agg rfl rfl (by assumption) (by first | exact dc_length _ | exact nc_length _ | exact rc_length _ _ _ | exact ec_length _ | exact dl_length _ _ _ _ | rfl) | exact ResV.cell rfl rfl (by assumption)) ?_
  exact ⟨_, rfl, (hk1.any.trans hk2).trans hk3, by rw [hcl]; exact ho3⟩
set_option maxHeartbeats 16000000 in
theorem part_spec {w : World} {base bq : Nat} {p : Pu} {s : Value} {i : Nat} {over : Int} (hB : Blk w bq (.cells (pc p s).toArray 47)) (ho : w.ownsRow base 86 11 s p.held.length (flt hc p.held)) (hbase : base ≤ w.heap.size) (hok : p.Ok) (hi : i < p.held.length) (h0 : 0 ≤ over) (h1 : over ≤ p.held[i].amt) :
    Calls Tryz.prog 68 #[.pointer (some ⟨bq, 0, none⟩), .int .i64 (i : Int), .int .i64 over] w (fun e w' => e = .returned (.tuple #[]) ∧ Kp (bq :: ownB s) w w' ∧ ∃ s', Blk w' bq (.cells (pc (partP p i p.held[i] over) s').toArray 47) ∧ w'.ownsRow base 86 11 s' (partP p i p.held[i] over).held.length (flt hc (partP p i p.held[i] over).held)) := by
  refine enter3 Tryz.func68 rfl Tryz.ntmps68 rfl ?_
  obtain ⟨g, cap, rfl, hcp⟩ := own_slice ho (by omega)
  have hl16 := hok.l
  have hrow := own_at hc_length ho rfl hi
  have hhk := chkL_all hok.c _ (List.getElem_mem hi)
  generalize p.held[i] = h at hrow hhk h1
  obtain ⟨j, hj, hj2⟩ : ∃ j : Nat, h.side = (j : Int) ∧ j < 2 := ⟨h.side.toNat, by have := hhk.s0; omega, by have := hhk.s0; have := hhk.s1; omega⟩
  have ha0 := hhk.a0
  have ha1 := hhk.a1
  obtain ⟨-, -, -, -, r4, -⟩ := pc_rows hB
  repeat (first|apply cA|apply cB|refine cV rfl rfl rfl rfl (by first|((first|apply qmv|apply qlc|apply qla|apply qfa|apply qnc|apply qix)<;>(first|exact rfl|assumption|exact Ar.mk (by omega)|exact List.not_mem_nil|apply hc_length|fail))|fail) ?_)
  refine SG.alloc rfl rfl rfl (fun b6 w1 hk1 hb6 hB6 => ?_)
  refine SG.setAll (l := hc h) rfl rfl (by exact rho_of rfl) (by exact rho_of rfl) hB6 (hc_length _) rfl (hc_one _) (fun w2 hk2 hB6 => ?_)
  have hB6 : Blk w2 b6 (.cells (hc h).toArray 86) := hB6
  have k2 : Kp [] w w2 := hk1.trans_new hk2 (new1 (by omega))
  have hB2 := hB.kp0 k2
  have ho2 := own_kp0 ho k2
  obtain ⟨-, q1, q2, -, -⟩ := hc_rows hB6
  have hb6q : b6 ≠ bq := by have := hB.lt; omega
  obtain ⟨j', hj', hj2'⟩ : ∃ j' : Nat, 1 - h.side = (j' : Int) ∧ j' < 2 := ⟨1 - j, by omega, by omega⟩
  have rj := row_side hB2 hj2'
  rw [← hj'] at rj
  have hav := have_amt hok (1 - h.side)
  clear r4 hrow
  repeat (first|apply cA|apply cD|apply cE)
  refine CG.tail mixed 12 [0, 1, 2, 3, 4, 5, 6, 7, 8, 9, 10, 11] (by kernel_rfl) ?_
  repeat (refine cY rfl rfl rfl (by first|((first|apply qia|apply qmv|apply qlc|apply qfa|apply qnc|apply qad|apply qsb)<;>(first|exact rfl|assumption|exact Ar.mk (by omega)|exact List.not_mem_nil|fail))|fail) ?_)
  refine Der.tl (fun w3 hk3 _ _ => ?_)
  have hB3 := hB2.kp0 hk3
  have ho3 := own_kp0 ho2 hk3
  have hB6 := hB6.kp0 hk3
  clear rj q1 q2
  repeat (first|refine cV rfl rfl rfl rfl (by first|(apply qia<;>(first|exact rfl|assumption|exact Ar.mk (by omega)|fail))|fail) ?_)
  refine SG.store rfl rfl (by exact rho_of rfl) (by exact rho_of rfl) hB3 rfl (by show 0 + 9 + j' * 1 + 1 ≤ _; simp [pc_length]; omega) rfl (fun w4 hk4 hB4 => ?_)
  have hB4 : Blk w4 bq (.cells (spl (pc p (.slice (some ⟨g, 0, none⟩) p.held.length cap)) (9 + j') [.int .i64 (haveP p (1 - h.side) + over)]).toArray 47) := by
    have e9 : 9 + j' = 0 + 9 + j' * 1 := by omega
    rw [e9]
    exact hB4
  rw [hj', pc_side hj2'] at hB4
  have ho4 := own_kp ho3 hk4 (own_neb ho3 (by decide) hB3)
  have hB6 := hB6.kp hk4 (nm1 hb6q)
  obtain ⟨-, q1, q2, -, -⟩ := hc_rows hB6
  have rj := row_side hB4 hj2
  rw [← hj] at rj
  have hav2 : 0 ≤ haveP (addP p (j' : Int) over) h.side ∧ haveP (addP p (j' : Int) over) h.side ≤ 2251799813685248 := by
    have h3 := have_amt hok 0
    have h4 := have_amt hok 1
    unfold addP haveP at *
    simp at h3 h4
    repeat' split
    all_goals (simp only; omega)
  have k24 : Kp (bq :: ownB (.slice (some ⟨g, 0, none⟩) p.held.length cap)) w w4 := (k2.trans hk3).any.trans (hk4.mono (fun z hz => by rw [List.mem_singleton] at hz; subst hz; simp))
  repeat (first|apply cA|apply cD|apply cE)
  refine CG.tail mixed 14 [0, 1, 2, 3, 4, 5, 6, 7, 8, 9, 10, 11, 12, 13] (by kernel_rfl) ?_
  repeat (refine cY rfl rfl rfl (by first|((first|apply qia|apply qmv|apply qlc|apply qfa|apply qnc|apply qad|apply qsb)<;>(first|exact rfl|assumption|exact Ar.mk (by omega)|exact List.not_mem_nil|fail))|fail) ?_)
  refine Der.tl (fun w5 hk5 _ _ => ?_)
  have hB5 := hB4.kp0 hk5
  have ho5 := own_kp0 ho4 hk5
  clear rj q1 q2
  repeat (first|refine cV rfl rfl rfl rfl (by first|(apply qia<;>(first|exact rfl|assumption|exact Ar.mk (by omega)|fail))|fail) ?_)
  refine SG.store rfl rfl (by exact rho_of rfl) (by exact rho_of rfl) hB5 rfl (by show 0 + 9 + j * 1 + 1 ≤ _; simp [pc_length]; omega) rfl (fun w6 hk6 hB6 => ?_)
  have hB6 : Blk w6 bq (.cells (spl (pc (addP p (j' : Int) over) (.slice (some ⟨g, 0, none⟩) p.held.length cap)) (9 + j) [.int .i64 (haveP (addP p (j' : Int) over) h.side + (h.amt - over))]).toArray 47) := by
    have e9 : 9 + j = 0 + 9 + j * 1 := by omega
    rw [e9]
    exact hB6
  rw [hj, pc_side hj2] at hB6
  have ho6 := own_kp ho5 hk6 (own_neb ho5 (by decide) hB5)
  obtain ⟨-, -, -, -, r4, -⟩ := pc_rows hB6
  have k6 : Kp (bq :: ownB (.slice (some ⟨g, 0, none⟩) p.held.length cap)) w w6 := (k24.trans hk5.any).trans (hk6.mono (fun z hz => by rw [List.mem_singleton] at hz; subst hz; simp))
  repeat (first|apply cB|apply cD|apply cE|refine cV rfl rfl rfl rfl (by first|((first|apply qmv|apply qlc|apply qfa|apply qnc|apply qad)<;>(first|exact rfl|assumption|exact Ar.mk (by omega)|exact List.not_mem_nil|fail))|fail) ?_)
  refine SG.call rfl rfl rfl (vs := [.slice (some ⟨g, 0, none⟩) p.held.length cap, .int .i64 (i : Int), .int .i64 ((i : Int) + 1)]) (by repeat' (first | exact True.intro | exact rho_of rfl | refine And.intro ?_ ?_)) ((hdel_spec ho6 (by omega) hi (Nat.le_trans hbase k6.size)).mono (fun e w7 hh => ?_))
  obtain ⟨v7, he, hk7, ho7⟩ := hh
  refine ⟨_, he, ?_⟩
  have hB7 := blk_own ho6 (by decide) hB6 hk7
  obtain ⟨a7, c7, rfl, _, _⟩ := Sl.own hc_length ho7 rfl
  repeat (first|refine cV rfl rfl rfl rfl (by first|((first|apply qfa|apply qnc)<;>(exact rfl))|fail) ?_)
  refine SG.store rfl rfl (by exact rho_of rfl) (by exact rho_of rfl) hB7 rfl (by show 0 + 11 + 1 ≤ _; simp [pc_length]) rfl (fun w8 hk8 hB8 => ?_)
  have hB8 : Blk w8 bq (.cells (spl (pc (addP (addP p (j' : Int) over) (j : Int) (h.amt - over)) (.slice (some ⟨g, 0, none⟩) p.held.length cap)) 11 [.slice a7 (cutL p.held i).length c7]).toArray 47) := hB8
  rw [pc_held] at hB8
  have ho8 := own_kp ho7 hk8 (own_neb ho7 (by decide) hB7)
  repeat (first|apply cD)
  refine ret0 (Or.inr rfl) Tryz.results68 ?_
  refine ⟨rfl, (k6.trans (hk7.mono (fun z hz => List.mem_cons_of_mem _ hz))).trans (hk8.mono (fun z hz => by rw [List.mem_singleton] at hz; subst hz; simp)), .slice a7 (cutL p.held i).length c7, ?_, ho8⟩
  rw [show pc (partP p i h over) (.slice a7 (cutL p.held i).length c7) = pc (addP (addP p (j' : Int) over) (j : Int) (h.amt - over)) (.slice a7 (cutL p.held i).length c7) from by unfold partP; rw [← hj', ← hj]; rfl]
  exact hB8
end Go.Proofs.YtajllbdeoopimaaGreat
namespace Go.Proofs.YtajllbdeoopimaaGreat
set_option linter.unusedVariables false
def atP (p : Pu) (n : Dg) : Option Hd := p.held[placeN p.held n]?
def freeE (p : Pu) (n : Dg) (over : Int) : Int := match atP p n with
  | none => 9
  | some h => if over < 0 ∨ h.amt < over then 2 else 0
def freeQ (p : Pu) (n : Dg) (over : Int) : Pu := match atP p n with
  | none => p
  | some h => partP p (placeN p.held n) h over
def backE (p : Pu) (n : Dg) (now : Int) : Int := match atP p n with
  | none => 9
  | some h => if now ≤ h.til then 20 else 0
theorem atP_none {p : Pu} {n : Dg} (h : ¬ placeN p.held n < p.held.length) : atP p n = none := by
  unfold atP
  rw [List.getElem?_eq_none (by omega)]
theorem atP_some {p : Pu} {n : Dg} (h : placeN p.held n < p.held.length) : atP p n = some p.held[placeN p.held n] := by
  unfold atP
  rw [List.getElem?_eq_getElem h]
theorem partP_num (p : Pu) (k : Nat) (h : Hd) (over : Int) : (partP p k h over).num = p.num := by
  unfold partP
  simp only [addP_num]
theorem freeQ_num (p : Pu) (n : Dg) (over : Int) : (freeQ p n over).num = p.num := by
  unfold freeQ
  split
  · rfl
  · exact partP_num _ _ _ _
theorem Row.part {w : World} {b off : Nat} {l : List Value} (h : Row w b off l) (pre m post : List Value) (he : l = pre ++ (m ++ post)) : Row w b (off + pre.length) m := by
  obtain ⟨cs, T, f, h1, h2⟩ := h
  refine ⟨cs, T, f, h1, fun i v hv => ?_⟩
  have hi : i < m.length := (List.getElem?_eq_some_iff.1 hv).1
  rw [Nat.add_assoc]
  refine h2 (pre.length + i) v ?_
  rw [he, List.getElem?_append_right (by omega), Nat.add_sub_cancel_left, List.getElem?_append_left hi]
  exact hv
attribute [local irreducible] CG NG SG Vals Der Row Blk MapIs IterAt chkL DerR
set_option maxHeartbeats 16000000 in
theorem copied_spec {w : World} {a : Option Addr} {c : Nat} (p : Pu) (hS : Sl hc 11 w a p.held) (hl : p.held.length ≤ 100000) : Calls Tryz.prog 21 #[pv p (.slice a p.held.length c)] w (fun e w' => ∃ v, e = .returned v ∧ PuAt w.heap.size w' v p ∧ Kp [] w w') := by
  refine enter1 Tryz.func21 rfl Tryz.ntmps21 rfl ?_
  repeat (first|apply cA|apply cB)
  refine SG.box rfl rfl rfl (by exact rho_of rfl) (fun b1 w1 hk1 hb1 hB1 => ?_)
  have hB1 : Blk w1 b1 (.cells (pc p (.slice a p.held.length c)).toArray 47) := hB1
  have l1 := hB1.lt
  refine SG.alloc rfl rfl rfl (fun b2 w2 hk2 hb2 hB2 => ?_)
  have hB1 := hB1.kp0 hk2
  obtain ⟨-, -, -, -, r4, -⟩ := pc_rows hB1
  have s1 := hk1.size
  repeat (first|apply cA|apply cB|apply cD|apply cE|refine cV rfl rfl rfl rfl (by first|((first|apply qlc|apply qfa)<;>(first|exact rfl|assumption|exact List.not_mem_nil))|fail) ?_)
  refine SG.call rfl rfl rfl (vs := [.slice a p.held.length c]) (by repeat' (first | exact True.intro | exact rho_of rfl | refine And.intro ?_ ?_)) ((hclone_spec c (hS.kp0 (hk1.trans hk2)) hl).mono (fun e w3 hh => ?_))
  obtain ⟨v3, he, ho3, hk3⟩ := hh
  refine ⟨_, he, ?_⟩
  obtain ⟨a3, c3, rfl, _, _⟩ := Sl.own hc_length ho3 rfl
  have hB1 := hB1.kp0 hk3
  have hB2 := hB2.kp0 hk3
  repeat (first|refine cV rfl rfl rfl rfl (by first|(apply qfa<;>(exact rfl))|fail) ?_)
  refine SG.store rfl rfl (by exact rho_of rfl) (by exact rho_of rfl) hB1 rfl (by show 11 + 1 ≤ _; simp [pc_length]) rfl (fun w4 hk4 hB4 => ?_)
  have hB4 : Blk w4 b1 (.cells (spl (pc p (.slice a p.held.length c)) 11 [.slice a3 p.held.length c3]).toArray 47) := hB4
  rw [pc_held] at hB4
  have ho4 := own_kp ho3 hk4 (own_neb ho3 (by decide) hB1)
  have hB2' := hB2.kp hk4 (nm1 (by omega))
  clear r4
  obtain ⟨-, -, -, -, -, r5⟩ := pc_rows hB4
  repeat (first|apply cA|apply cB|apply cD|apply cE|refine cV rfl rfl rfl rfl (by first|(apply qla<;>(first|exact rfl|assumption|exact List.not_mem_nil|apply pc_length))|fail) ?_)
  refine SG.setAll (l := pc p (.slice a3 p.held.length c3)) rfl rfl (by exact rho_of rfl) (by exact rho_of rfl) hB2' (pc_length _ _) rfl (pc_one _ _ _ _) (fun w5 hk5 hB5 => ?_)
  have hr : Row w5 b2 0 (pc p (.slice a3 p.held.length c3)) := Row.all hB5 rfl
  have ho5 := own_kp ho4 hk5 (own_neb ho4 (by decide) hB2')
  repeat (first|apply cD|apply cE|apply cH)
  refine ret1 (Or.inl rfl) Tryz.results21 (ResV.agg rfl rfl hr (pc_length _ _)) ?_
  exact ⟨_, rfl, ⟨_, rfl, own_mono ho5 (hk1.trans hk2).size⟩, (((hk1.trans hk2).trans hk3).trans_new hk4 (new1 (by omega))).trans_new hk5 (new1 (by omega))⟩
set_option maxHeartbeats 16000000 in
theorem free1_spec {w : World} {base bq bn bo : Nat} {p : Pu} {s : Value} {n : Dg} {over : Int} (hB : Blk w bq (.cells (pc p s).toArray 47)) (hN : Row w bn 0 (dc n)) (hO : Row w bo 0 [.int .i64 over]) (ho : w.ownsRow base 86 11 s p.held.length (flt hc p.held)) (hbase : base ≤ w.heap.size) (hok : p.Ok) :
    Calls Tryz.prog 67 #[.pointer (some ⟨bq, 0, none⟩), .pointer (some ⟨bn, 0, none⟩), .pointer (some ⟨bo, 0, none⟩)] w (fun e w' => e = .returned (.int .i64 (freeE p n over)) ∧ Kp (bq :: ownB s) w w' ∧ ∃ p' s', Blk w' bq (.cells (pc p' s').toArray 47) ∧ (freeE p n over = 0 → p' = freeQ p n over ∧ w'.ownsRow base 86 11 s' (freeQ p n over).held.length (flt hc (freeQ p n over).held))) := by
  refine enter3 Tryz.func67 rfl Tryz.ntmps67 rfl ?_
  have hl16 := hok.l
  have fin : ∀ {z : Int} {w' : World}, Kp [] w w' → freeE p n over = z → z ≠ 0 → ((Ending.returned (.int .i64 z) = .returned (.int .i64 (freeE p n over))) ∧ Kp (bq :: ownB s) w w' ∧ ∃ p' s', Blk w' bq (.cells (pc p' s').toArray 47) ∧ (freeE p n over = 0 → p' = freeQ p n over ∧ w'.ownsRow base 86 11 s' (freeQ p n over).held.length (flt hc (freeQ p n over).held))) := fun hk e hz => ⟨by rw [e], hk.any, p, s, hB.kp0 hk, fun h0 => absurd (e.symm.trans h0) hz⟩
  obtain ⟨a, c, rfl, hcap, hS⟩ := Sl.own hc_length ho rfl
  have hpl := fun W (k : Kp [] w W) => place_spec (c := c) p n (hS.kp0 k) (by omega)
  obtain ⟨-, -, -, -, -, r5⟩ := pc_rows hB
  by_cases g5 : placeN p.held n < p.held.length
  rotate_left
  · have e : freeE p n over = 9 := by simp [freeE, atP_none g5]
    have ez : placeZ p.held n = -1 := if_neg g5
    rw [ez] at hpl
    have g6 : (-1 : Int) < 0 := by omega
    repeat (first|apply cA|apply cB|apply cD|apply cE|refine cV rfl rfl rfl rfl (by first|(apply qas<;>(exact rfl))|fail) ?_)
    refine CG.draw0 mixed [0, 1, 2, 3, 4, 5] [] (by kernel_rfl) ?_
    repeat (refine cY rfl rfl rfl (by first|((first|apply qmv|apply qla|apply qnc)<;>(first|exact rfl|assumption|exact List.not_mem_nil|apply dc_length|apply pc_length))|fail) ?_)
    refine Der.call rfl rfl rfl (vs := [pv p (.slice a p.held.length c), dv n]) (by repeat' (first | exact True.intro | exact rho_of rfl | refine And.intro ?_ ?_)) (fun W hk _ => hpl W hk) ?_
    repeat (refine cY rfl rfl rfl (by first|(apply qas<;>(exact rfl))|fail) ?_)
    refine Der.fin (fun w3 hk3 _ _ => ?_)
    repeat (first|apply cA|apply cB|apply cD|apply cE|refine cV rfl rfl rfl rfl (by first|((first|apply qmv|apply qls)<;>(first|exact rfl|exact dct (by first|assumption|omega)|fail))|fail) ?_)
    refine dA rfl (by exact rho_of rfl) rfl ?_
    repeat (first|apply cA|apply cB|apply cD|apply cE|apply cH|apply cK|refine cV rfl rfl rfl rfl (by first|(apply qas<;>(exact rfl))|fail) ?_)
    refine ret1 (Or.inl rfl) Tryz.results67 (by first | exact ResV.tmp rfl | exact ResV.agg rfl rfl (by assumption) (by first | exact dc_length _ | exact nc_length _ | exact rc_length _ _ _ | exact ec_length _ | exact dl_length _ _ _ _ | rfl) | exact ResV.cell rfl rfl (by assumption)) ?_
    exact fin hk3 e (by decide)
  have ez : placeZ p.held n = (placeN p.held n : Int) := if_pos g5
  rw [ez] at hpl
  have eat := atP_some g5
  have hhk := chkL_all hok.c _ (List.getElem_mem g5)
  have hpart := fun W (over : Int) (hB : Blk W bq (.cells (pc p (.slice a p.held.length c)).toArray 47)) (ho : W.ownsRow base 86 11 (.slice a p.held.length c) p.held.length (flt hc p.held)) (hb : base ≤ W.heap.size) => part_spec (over := over) hB ho hb hok g5
  have hrow := hS.at g5
  generalize hk0 : placeN p.held n = k at g5 ez hpl eat hhk hpart hrow
  generalize p.held[k] = h at eat hhk hpart hrow
  have ha0 := hhk.a0
  obtain ⟨ba, oa, rfl, hrk⟩ := hrow
  have qa := Row.part hrk (dc h.name) [.int .i64 h.amt] [.int .i64 h.side, .int .i64 h.til] (by simp [hc])
  have qt := Row.part hrk (dc h.name ++ [.int .i64 h.amt, .int .i64 h.side]) [.int .i64 h.til] [] (by simp [hc])
  rw [dc_length] at qa
  rw [List.length_append, dc_length] at qt
  have qt : Row w ba (oa + k * 11 + 10) [.int .i64 h.til] := qt
  clear hrk
  have g6 : ¬ (k : Int) < 0 := by omega
  repeat (first|apply cA|apply cB|apply cD|apply cE|refine cV rfl rfl rfl rfl (by first|(apply qas<;>(exact rfl))|fail) ?_)
  refine CG.draw0 mixed [0, 1, 2, 3, 4, 5] [] (by kernel_rfl) ?_
  repeat (refine cY rfl rfl rfl (by first|((first|apply qmv|apply qla|apply qnc)<;>(first|exact rfl|assumption|exact List.not_mem_nil|apply dc_length|apply pc_length))|fail) ?_)
  refine Der.call rfl rfl rfl (vs := [pv p (.slice (some ⟨ba, oa, none⟩) p.held.length c), dv n]) (by repeat' (first | exact True.intro | exact rho_of rfl | refine And.intro ?_ ?_)) (fun W hk _ => hpl W hk) ?_
  repeat (refine cY rfl rfl rfl (by first|(apply qas<;>(exact rfl))|fail) ?_)
  refine Der.fin (fun w3 hk3 _ _ => ?_)
  have hB3 := hB.kp0 hk3
  have hO3 := hO.kp0 hk3
  have qa := qa.kp0 hk3
  have qt := qt.kp0 hk3
  clear r5 hpl
  obtain ⟨-, -, -, -, r4, -⟩ := pc_rows hB3
  repeat (first|apply cA|apply cB|apply cD|apply cE|refine cV rfl rfl rfl rfl (by first|((first|apply qmv|apply qls)<;>(first|exact rfl|exact dcf (by first|assumption|omega)|fail))|fail) ?_)
  refine dB rfl (by exact rho_of rfl) rfl ?_
  by_cases g7 : over < 0
  · have e : freeE p n over = 2 := by simp [freeE, eat, g7]
    repeat (first|apply cA|apply cE|apply cF)
    refine CG.draw0 mixed [0, 1, 2, 3, 4, 5, 6, 7, 8, 9, 10, 11, 12, 13] [] (by kernel_rfl) ?_
    repeat (first | refine cY rfl rfl rfl (by first|((first|apply qmv|apply qlc|apply qpk|apply qls)<;>(first|exact rfl|assumption|exact dct (by first|assumption|omega)|exact List.not_mem_nil|fail))|fail) ?_ | refine Der.skip rfl rfl ?_)
    refine Der.fin (fun w4 hk4 _ _ => ?_)
    repeat (first|apply cE)
    refine dA rfl (by exact rho_of rfl) rfl ?_
    repeat (first|apply cA|apply cB|apply cD|apply cE|apply cH|apply cK|refine cV rfl rfl rfl rfl (by first|(apply qas<;>(exact rfl))|fail) ?_)
    refine ret1 (Or.inl rfl) Tryz.results67 (by first | exact ResV.tmp rfl | exact ResV.agg rfl rfl (by assumption) (by first | exact dc_length _ | exact nc_length _ | exact rc_length _ _ _ | exact ec_length _ | exact dl_length _ _ _ _ | rfl) | exact ResV.cell rfl rfl (by assumption)) ?_
    exact fin (hk3.trans hk4) e (by decide)
  by_cases g8 : h.amt < over
  · have e : freeE p n over = 2 := by simp [freeE, eat, g8]
    repeat (first|apply cA|apply cE|apply cF)
    refine CG.draw0 mixed [0, 1, 2, 3, 4, 5, 6, 7, 8, 9, 10, 11, 12, 13] [] (by kernel_rfl) ?_
    repeat (refine cY rfl rfl rfl (by first|((first|apply qmv|apply qlc|apply qfa|apply qnc|apply qix|apply qpk|apply qls|apply qgt)<;>(first|exact rfl|assumption|exact Ar.mk (by omega)|exact dct (by first|assumption|omega)|exact dcf (by first|assumption|omega)|exact List.not_mem_nil|fail))|fail) ?_)
    refine Der.fin (fun w4 hk4 _ _ => ?_)
    repeat (first|apply cE)
    refine dA rfl (by exact rho_of rfl) rfl ?_
    repeat (first|apply cA|apply cB|apply cD|apply cE|apply cH|apply cK|refine cV rfl rfl rfl rfl (by first|(apply qas<;>(exact rfl))|fail) ?_)
    refine ret1 (Or.inl rfl) Tryz.results67 (by first | exact ResV.tmp rfl | exact ResV.agg rfl rfl (by assumption) (by first | exact dc_length _ | exact nc_length _ | exact rc_length _ _ _ | exact ec_length _ | exact dl_length _ _ _ _ | rfl) | exact ResV.cell rfl rfl (by assumption)) ?_
    exact fin (hk3.trans hk4) e (by decide)
  have e : freeE p n over = 0 := by simp [freeE, eat, g7, g8]
  clear fin
  repeat (first|apply cA|apply cE|apply cF)
  refine CG.draw0 mixed [0, 1, 2, 3, 4, 5, 6, 7, 8, 9, 10, 11, 12, 13] [] (by kernel_rfl) ?_
  repeat (refine cY rfl rfl rfl (by first|((first|apply qmv|apply qlc|apply qfa|apply qnc|apply qix|apply qpk|apply qls|apply qgt)<;>(first|exact rfl|assumption|exact Ar.mk (by omega)|exact dcf (by first|assumption|omega)|exact List.not_mem_nil|fail))|fail) ?_)
  refine Der.fin (fun w4 hk4 _ _ => ?_)
  have k4 := hk3.trans hk4
  clear r4 qa qt hO3
  have ho4 := own_kp0 ho k4
  have hB4 := hB.kp0 k4
  have hO4 := hO.kp0 k4
  repeat (first|apply cE)
  refine dB rfl (by exact rho_of rfl) rfl ?_
  repeat (first|apply cA|apply cB|apply cE|apply cF|refine cV rfl rfl rfl rfl (by first|((first|apply qmv|apply qlc)<;>(first|exact rfl|assumption|exact List.not_mem_nil))|fail) ?_)
  refine SG.call rfl rfl rfl (vs := [.pointer (some ⟨bq, 0, none⟩), .int .i64 (k : Int), .int .i64 over]) (by repeat' (first | exact True.intro | exact rho_of rfl | refine And.intro ?_ ?_)) ((hpart w4 over hB4 ho4 (Nat.le_trans hbase k4.size) (by omega) (by omega)).mono (fun e5 w5 hh => ?_))
  obtain ⟨he, hk5, s5, hB5, ho5⟩ := hh
  refine ⟨_, he, ?_⟩
  have eq : freeQ p n over = partP p k h over := by simp [freeQ, eat, hk0]
  rw [← eq] at hB5 ho5
  repeat (first|apply cA|apply cB|apply cD|apply cE|apply cH|refine cV rfl rfl rfl rfl (by first|(apply qas<;>(exact rfl))|fail) ?_)
  refine ret1 (Or.inl rfl) Tryz.results67 (by first | exact ResV.tmp rfl | exact ResV.agg rfl rfl (by assumption) (by first | exact dc_length _ | exact nc_length _ | exact rc_length _ _ _ | exact ec_length _ | exact dl_length _ _ _ _ | rfl) | exact ResV.cell rfl rfl (by assumption)) ?_
  exact ⟨by rw [e], k4.any.trans hk5, _, s5, hB5, fun _ => ⟨rfl, ho5⟩⟩
set_option maxHeartbeats 16000000 in
theorem free_spec {w : World} {a : Option Addr} {c : Nat} (p : Pu) (n : Dg) (over : Int) (hS : Sl hc 11 w a p.held) (hl : p.held.length ≤ 1000) (hcap : p.held.length ≤ c) : Calls Tryz.prog 41 #[pv p (.slice a p.held.length c), dv n, .int .i64 over] w (fun e w' => ∃ v, e = .returned (.tuple #[v, .int .i64 (chgZ p (freeE p n over))]) ∧ Kp [] w w' ∧ (chgZ p (freeE p n over) = 0 → PuAt w.heap.size w' v (nextP (freeQ p n over))) ∧ (chgZ p (freeE p n over) ≠ 0 → v = pv zPu (.slice none 0 0))) := by
  refine enter3 Tryz.func41 rfl Tryz.ntmps41 rfl ?_
  repeat (first|apply cA|apply cB)
  refine SG.box rfl rfl rfl (by exact rho_of rfl) (fun b2 w1 hk1 hb2 hB2 => ?_)
  have hB2 : Blk w1 b2 (.cells (pc p (.slice a p.held.length c)).toArray 47) := hB2
  refine SG.box rfl rfl rfl (by exact rho_of rfl) (fun b3 w2 hk2 hb3 hB3 => ?_)
  have hB3 : Blk w2 b3 (.cells (dc n).toArray 44) := hB3
  have hN : Row w2 b3 0 (dc n) := Row.all hB3 rfl
  refine SG.box rfl rfl rfl (by exact rho_of rfl) (fun b5 w3 hk3 hb5 hB5 => ?_)
  have hO : Row w3 b5 0 [.int .i64 over] := Row.of hB5 [] [] rfl rfl
  refine SG.alloc rfl rfl rfl (fun b6 w4 hk4 hb6 hB6 => ?_)
  have hN := (hN.kp0 hk3).kp0 hk4
  have hO := hO.kp0 hk4
  have hB2 := ((hB2.kp0 hk2).kp0 hk3).kp0 hk4
  have k4 := ((hk1.trans hk2).trans hk3).trans hk4
  have s3 := ((hk1.trans hk2).trans hk3).size
  obtain ⟨-, -, -, -, -, r5⟩ := pc_rows hB2
  repeat (first|apply cA|apply cB|apply cD|apply cE|refine cV rfl rfl rfl rfl (by first|((first|apply qas|apply qla)<;>(first|exact rfl|assumption|exact List.not_mem_nil|apply pc_length))|fail) ?_)
  refine cV rfl rfl rfl rfl (qmf (vs := [.pointer (some ⟨b3, 0, none⟩), .pointer (some ⟨b5, 0, none⟩)]) rfl) ?_
  refine SG.call rfl rfl rfl (vs := [pv p (.slice a p.held.length c), fnv 67 [.pointer (some ⟨b3, 0, none⟩), .pointer (some ⟨b5, 0, none⟩)]]) (by repeat' (first | exact True.intro | exact rho_of rfl | refine And.intro ?_ ?_)) ((changed_spec p (freeQ p n over) (freeE p n over) (hS.kp0 k4) hl hcap (freeQ_num _ _ _) (fun hc0 W bq s hk hbq hB ho => free1_spec hB (hN.kp0 hk) (hO.kp0 hk) ho hk.size (pu_ok hc0))).mono (fun e w5 hh => ?_))
  obtain ⟨v, he, hk5, h1, h2⟩ := hh
  refine ⟨_, he, ?_⟩
  have hB6 := hB6.kp0 hk5
  by_cases hz : chgZ p (freeE p n over) = 0
  · obtain ⟨s, rfl, ho⟩ := h1 hz
    obtain ⟨a5, c5, rfl, _, _⟩ := Sl.own hc_length ho rfl
    repeat (first|refine cV rfl rfl rfl rfl (by first|(apply qxt<;>(exact rfl))|fail) ?_)
    refine SG.setAll (l := pc (nextP (freeQ p n over)) (.slice a5 (nextP (freeQ p n over)).held.length c5)) rfl rfl (by exact rho_of rfl) (by exact rho_of rfl) hB6 (pc_length _ _) rfl (pc_one _ _ _ _) (fun w6 hk6 hB7 => ?_)
    have hr : Row w6 b6 0 (pc (nextP (freeQ p n over)) (.slice a5 (nextP (freeQ p n over)).held.length c5)) := Row.all hB7 rfl
    have ho6 := own_kp (own_mono ho k4.size) hk6 (own_neb (own_mono ho k4.size) (by decide) hB6)
    repeat (first|apply cD|apply cE|apply cH|refine cV rfl rfl rfl rfl (by first|(apply qas<;>(exact rfl))|fail) ?_)
    refine ret2 (Or.inl rfl) Tryz.results41 (ResV.agg rfl rfl hr (pc_length _ _)) (by first | exact ResV.tmp rfl | exact ResV.agg rfl rfl (by assumption) (by first | exact dc_length _ | exact nc_length _ | exact rc_length _ _ _ | exact ec_length _ | exact dl_length _ _ _ _ | rfl) | exact ResV.cell rfl rfl (by assumption)) ?_
    exact ⟨_, rfl, (k4.trans hk5).trans_new hk6 (new1 (by omega)), fun _ => ⟨_, rfl, ho6⟩, fun h => absurd hz h⟩
  · have hv2 := h2 hz
    subst hv2
    repeat (first|refine cV rfl rfl rfl rfl (by first|(apply qxt<;>(exact rfl))|fail) ?_)
    refine SG.setAll (l := pc zPu (.slice none 0 0)) rfl rfl (by exact rho_of rfl) (by exact rho_of rfl) hB6 (pc_length _ _) rfl (pc_one _ _ _ _) (fun w6 hk6 hB7 => ?_)
    have hr : Row w6 b6 0 (pc zPu (.slice none 0 0)) := Row.all hB7 rfl
    repeat (first|apply cD|apply cE|apply cH|refine cV rfl rfl rfl rfl (by first|(apply qas<;>(exact rfl))|fail) ?_)
    refine ret2 (Or.inl rfl) Tryz.results41 (ResV.agg rfl rfl hr (pc_length _ _)) (by first | exact ResV.tmp rfl | exact ResV.agg rfl rfl (by assumption) (by first | exact dc_length _ | exact nc_length _ | exact rc_length _ _ _ | exact ec_length _ | exact dl_length _ _ _ _ | rfl) | exact ResV.cell rfl rfl (by assumption)) ?_
    exact ⟨_, rfl, (k4.trans hk5).trans_new hk6 (new1 (by omega)), fun h => absurd h hz, fun _ => rfl⟩
set_option maxHeartbeats 16000000 in
theorem back1_spec {w : World} {base bq bn bo : Nat} {p : Pu} {s : Value} {n : Dg} {over : Int} (hB : Blk w bq (.cells (pc p s).toArray 47)) (hN : Row w bn 0 (dc n)) (hO : Row w bo 0 [.int .i64 over]) (ho : w.ownsRow base 86 11 s p.held.length (flt hc p.held)) (hbase : base ≤ w.heap.size) (hok : p.Ok) :
    Calls Tryz.prog 73 #[.pointer (some ⟨bq, 0, none⟩), .pointer (some ⟨bn, 0, none⟩), .pointer (some ⟨bo, 0, none⟩)] w (fun e w' => e = .returned (.int .i64 (backE p n over)) ∧ Kp (bq :: ownB s) w w' ∧ ∃ p' s', Blk w' bq (.cells (pc p' s').toArray 47) ∧ (backE p n over = 0 → p' = freeQ p n 0 ∧ w'.ownsRow base 86 11 s' (freeQ p n 0).held.length (flt hc (freeQ p n 0).held))) := by
  refine enter3 Tryz.func73 rfl Tryz.ntmps73 rfl ?_
  have hl16 := hok.l
  have fin : ∀ {z : Int} {w' : World}, Kp [] w w' → backE p n over = z → z ≠ 0 → ((Ending.returned (.int .i64 z) = .returned (.int .i64 (backE p n over))) ∧ Kp (bq :: ownB s) w w' ∧ ∃ p' s', Blk w' bq (.cells (pc p' s').toArray 47) ∧ (backE p n over = 0 → p' = freeQ p n 0 ∧ w'.ownsRow base 86 11 s' (freeQ p n 0).held.length (flt hc (freeQ p n 0).held))) := fun hk e hz => ⟨by rw [e], hk.any, p, s, hB.kp0 hk, fun h0 => absurd (e.symm.trans h0) hz⟩
  obtain ⟨a, c, rfl, hcap, hS⟩ := Sl.own hc_length ho rfl
  have hpl := fun W (k : Kp [] w W) => place_spec (c := c) p n (hS.kp0 k) (by omega)
  obtain ⟨-, -, -, -, -, r5⟩ := pc_rows hB
  by_cases g5 : placeN p.held n < p.held.length
  rotate_left
  · have e : backE p n over = 9 := by simp [backE, atP_none g5]
    have ez : placeZ p.held n = -1 := if_neg g5
    rw [ez] at hpl
    have g6 : (-1 : Int) < 0 := by omega
    repeat (first|apply cA|apply cB|apply cD|apply cE|refine cV rfl rfl rfl rfl (by first|(apply qas<;>(exact rfl))|fail) ?_)
    refine CG.draw0 mixed [0, 1, 2, 3, 4, 5] [] (by kernel_rfl) ?_
    repeat (refine cY rfl rfl rfl (by first|((first|apply qmv|apply qla|apply qnc)<;>(first|exact rfl|assumption|exact List.not_mem_nil|apply dc_length|apply pc_length))|fail) ?_)
    refine Der.call rfl rfl rfl (vs := [pv p (.slice a p.held.length c), dv n]) (by repeat' (first | exact True.intro | exact rho_of rfl | refine And.intro ?_ ?_)) (fun W hk _ => hpl W hk) ?_
    repeat (refine cY rfl rfl rfl (by first|(apply qas<;>(exact rfl))|fail) ?_)
    refine Der.fin (fun w3 hk3 _ _ => ?_)
    repeat (first|apply cA|apply cB|apply cD|apply cE|refine cV rfl rfl rfl rfl (by first|((first|apply qmv|apply qls)<;>(first|exact rfl|exact dct (by first|assumption|omega)|fail))|fail) ?_)
    refine dA rfl (by exact rho_of rfl) rfl ?_
    repeat (first|apply cA|apply cB|apply cD|apply cE|apply cH|apply cK|refine cV rfl rfl rfl rfl (by first|(apply qas<;>(exact rfl))|fail) ?_)
    refine ret1 (Or.inl rfl) Tryz.results73 (by first | exact ResV.tmp rfl | exact ResV.agg rfl rfl (by assumption) (by first | exact dc_length _ | exact nc_length _ | exact rc_length _ _ _ | exact ec_length _ | exact dl_length _ _ _ _ | rfl) | exact ResV.cell rfl rfl (by assumption)) ?_
    exact fin hk3 e (by decide)
  have ez : placeZ p.held n = (placeN p.held n : Int) := if_pos g5
  rw [ez] at hpl
  have eat := atP_some g5
  have hhk := chkL_all hok.c _ (List.getElem_mem g5)
  have hpart := fun W (over : Int) (hB : Blk W bq (.cells (pc p (.slice a p.held.length c)).toArray 47)) (ho : W.ownsRow base 86 11 (.slice a p.held.length c) p.held.length (flt hc p.held)) (hb : base ≤ W.heap.size) => part_spec (over := over) hB ho hb hok g5
  have hrow := hS.at g5
  generalize hk0 : placeN p.held n = k at g5 ez hpl eat hhk hpart hrow
  generalize p.held[k] = h at eat hhk hpart hrow
  have ha0 := hhk.a0
  obtain ⟨ba, oa, rfl, hrk⟩ := hrow
  have qa := Row.part hrk (dc h.name) [.int .i64 h.amt] [.int .i64 h.side, .int .i64 h.til] (by simp [hc])
  have qt := Row.part hrk (dc h.name ++ [.int .i64 h.amt, .int .i64 h.side]) [.int .i64 h.til] [] (by simp [hc])
  rw [dc_length] at qa
  rw [List.length_append, dc_length] at qt
  have qt : Row w ba (oa + k * 11 + 10) [.int .i64 h.til] := qt
  clear hrk
  have g6 : ¬ (k : Int) < 0 := by omega
  repeat (first|apply cA|apply cB|apply cD|apply cE|refine cV rfl rfl rfl rfl (by first|(apply qas<;>(exact rfl))|fail) ?_)
  refine CG.draw0 mixed [0, 1, 2, 3, 4, 5] [] (by kernel_rfl) ?_
  repeat (refine cY rfl rfl rfl (by first|((first|apply qmv|apply qla|apply qnc)<;>(first|exact rfl|assumption|exact List.not_mem_nil|apply dc_length|apply pc_length))|fail) ?_)
  refine Der.call rfl rfl rfl (vs := [pv p (.slice (some ⟨ba, oa, none⟩) p.held.length c), dv n]) (by repeat' (first | exact True.intro | exact rho_of rfl | refine And.intro ?_ ?_)) (fun W hk _ => hpl W hk) ?_
  repeat (refine cY rfl rfl rfl (by first|(apply qas<;>(exact rfl))|fail) ?_)
  refine Der.fin (fun w3 hk3 _ _ => ?_)
  have hB3 := hB.kp0 hk3
  have hO3 := hO.kp0 hk3
  have qa := qa.kp0 hk3
  have qt := qt.kp0 hk3
  clear r5 hpl
  obtain ⟨-, -, -, -, r4, -⟩ := pc_rows hB3
  repeat (first|apply cA|apply cB|apply cD|apply cE|refine cV rfl rfl rfl rfl (by first|((first|apply qmv|apply qls)<;>(first|exact rfl|exact dcf (by first|assumption|omega)|fail))|fail) ?_)
  refine dB rfl (by exact rho_of rfl) rfl ?_
  by_cases g7 : over ≤ h.til
  · have e : backE p n over = 20 := by simp [backE, eat, g7]
    repeat (first|apply cA|apply cE|apply cF)
    refine CG.draw0 mixed [0, 1, 2, 3, 4, 5, 6, 7, 8, 9] [] (by kernel_rfl) ?_
    repeat (refine cY rfl rfl rfl (by first|((first|apply qmv|apply qlc|apply qfa|apply qnc|apply qix|apply qle)<;>(first|exact rfl|assumption|exact Ar.mk (by omega)|exact dct (by first|assumption|omega)|exact List.not_mem_nil|fail))|fail) ?_)
    refine Der.fin (fun w4 hk4 _ _ => ?_)
    repeat (first|apply cE)
    refine dA rfl (by exact rho_of rfl) rfl ?_
    repeat (first|apply cA|apply cB|apply cD|apply cE|apply cH|apply cK|refine cV rfl rfl rfl rfl (by first|(apply qas<;>(exact rfl))|fail) ?_)
    refine ret1 (Or.inl rfl) Tryz.results73 (by first | exact ResV.tmp rfl | exact ResV.agg rfl rfl (by assumption) (by first | exact dc_length _ | exact nc_length _ | exact rc_length _ _ _ | exact ec_length _ | exact dl_length _ _ _ _ | rfl) | exact ResV.cell rfl rfl (by assumption)) ?_
    exact fin (hk3.trans hk4) e (by decide)
  have e : backE p n over = 0 := by simp [backE, eat, g7]
  clear fin
  repeat (first|apply cA|apply cE|apply cF)
  refine CG.draw0 mixed [0, 1, 2, 3, 4, 5, 6, 7, 8, 9] [] (by kernel_rfl) ?_
  repeat (refine cY rfl rfl rfl (by first|((first|apply qmv|apply qlc|apply qfa|apply qnc|apply qix|apply qle)<;>(first|exact rfl|assumption|exact Ar.mk (by omega)|exact dcf (by first|assumption|omega)|exact List.not_mem_nil|fail))|fail) ?_)
  refine Der.fin (fun w4 hk4 _ _ => ?_)
  have k4 := hk3.trans hk4
  clear r4 qa qt hO3
  have ho4 := own_kp0 ho k4
  have hB4 := hB.kp0 k4
  have hO4 := hO.kp0 k4
  repeat (first|apply cE)
  refine dB rfl (by exact rho_of rfl) rfl ?_
  repeat (first|apply cA|apply cB|apply cE|apply cF|refine cV rfl rfl rfl rfl (by first|(apply qmv<;>(exact rfl))|fail) ?_)
  refine SG.call rfl rfl rfl (vs := [.pointer (some ⟨bq, 0, none⟩), .int .i64 (k : Int), .int .i64 0]) (by repeat' (first | exact True.intro | exact rho_of rfl | refine And.intro ?_ ?_)) ((hpart w4 0 hB4 ho4 (Nat.le_trans hbase k4.size) (by omega) (by omega)).mono (fun e5 w5 hh => ?_))
  obtain ⟨he, hk5, s5, hB5, ho5⟩ := hh
  refine ⟨_, he, ?_⟩
  have eq : freeQ p n 0 = partP p k h 0 := by simp [freeQ, eat, hk0]
  rw [← eq] at hB5 ho5
  repeat (first|apply cA|apply cB|apply cD|apply cE|apply cH|refine cV rfl rfl rfl rfl (by first|(apply qas<;>(exact rfl))|fail) ?_)
  refine ret1 (Or.inl rfl) Tryz.results73 (by first | exact ResV.tmp rfl | exact ResV.agg rfl rfl (by assumption) (by first | exact dc_length _ | exact nc_length _ | exact rc_length _ _ _ | exact ec_length _ | exact dl_length _ _ _ _ | rfl) | exact ResV.cell rfl rfl (by assumption)) ?_
  exact ⟨by rw [e], k4.any.trans hk5, _, s5, hB5, fun _ => ⟨rfl, ho5⟩⟩
set_option maxHeartbeats 16000000 in
theorem back_spec {w : World} {a : Option Addr} {c : Nat} (p : Pu) (n : Dg) (over : Int) (hS : Sl hc 11 w a p.held) (hl : p.held.length ≤ 1000) (hcap : p.held.length ≤ c) : Calls Tryz.prog 49 #[pv p (.slice a p.held.length c), dv n, .int .i64 over] w (fun e w' => ∃ v, e = .returned (.tuple #[v, .int .i64 (chgZ p (backE p n over))]) ∧ Kp [] w w' ∧ (chgZ p (backE p n over) = 0 → PuAt w.heap.size w' v (nextP (freeQ p n 0))) ∧ (chgZ p (backE p n over) ≠ 0 → v = pv zPu (.slice none 0 0))) := by
  refine enter3 Tryz.func49 rfl Tryz.ntmps49 rfl ?_
  repeat (first|apply cA|apply cB)
  refine SG.box rfl rfl rfl (by exact rho_of rfl) (fun b2 w1 hk1 hb2 hB2 => ?_)
  have hB2 : Blk w1 b2 (.cells (pc p (.slice a p.held.length c)).toArray 47) := hB2
  refine SG.box rfl rfl rfl (by exact rho_of rfl) (fun b3 w2 hk2 hb3 hB3 => ?_)
  have hB3 : Blk w2 b3 (.cells (dc n).toArray 44) := hB3
  have hN : Row w2 b3 0 (dc n) := Row.all hB3 rfl
  refine SG.box rfl rfl rfl (by exact rho_of rfl) (fun b5 w3 hk3 hb5 hB5 => ?_)
  have hO : Row w3 b5 0 [.int .i64 over] := Row.of hB5 [] [] rfl rfl
  refine SG.alloc rfl rfl rfl (fun b6 w4 hk4 hb6 hB6 => ?_)
  have hN := (hN.kp0 hk3).kp0 hk4
  have hO := hO.kp0 hk4
  have hB2 := ((hB2.kp0 hk2).kp0 hk3).kp0 hk4
  have k4 := ((hk1.trans hk2).trans hk3).trans hk4
  have s3 := ((hk1.trans hk2).trans hk3).size
  obtain ⟨-, -, -, -, -, r5⟩ := pc_rows hB2
  repeat (first|apply cA|apply cB|apply cD|apply cE|refine cV rfl rfl rfl rfl (by first|((first|apply qas|apply qla)<;>(first|exact rfl|assumption|exact List.not_mem_nil|apply pc_length))|fail) ?_)
  refine cV rfl rfl rfl rfl (qmf (vs := [.pointer (some ⟨b3, 0, none⟩), .pointer (some ⟨b5, 0, none⟩)]) rfl) ?_
  refine SG.call rfl rfl rfl (vs := [pv p (.slice a p.held.length c), fnv 73 [.pointer (some ⟨b3, 0, none⟩), .pointer (some ⟨b5, 0, none⟩)]]) (by repeat' (first | exact True.intro | exact rho_of rfl | refine And.intro ?_ ?_)) ((changed_spec p (freeQ p n 0) (backE p n over) (hS.kp0 k4) hl hcap (freeQ_num _ _ _) (fun hc0 W bq s hk hbq hB ho => back1_spec hB (hN.kp0 hk) (hO.kp0 hk) ho hk.size (pu_ok hc0))).mono (fun e w5 hh => ?_))
  obtain ⟨v, he, hk5, h1, h2⟩ := hh
  refine ⟨_, he, ?_⟩
  have hB6 := hB6.kp0 hk5
  by_cases hz : chgZ p (backE p n over) = 0
  · obtain ⟨s, rfl, ho⟩ := h1 hz
    obtain ⟨a5, c5, rfl, _, _⟩ := Sl.own hc_length ho rfl
    repeat (first|refine cV rfl rfl rfl rfl (by first|(apply qxt<;>(exact rfl))|fail) ?_)
    refine SG.setAll (l := pc (nextP (freeQ p n 0)) (.slice a5 (nextP (freeQ p n 0)).held.length c5)) rfl rfl (by exact rho_of rfl) (by exact rho_of rfl) hB6 (pc_length _ _) rfl (pc_one _ _ _ _) (fun w6 hk6 hB7 => ?_)
    have hr : Row w6 b6 0 (pc (nextP (freeQ p n 0)) (.slice a5 (nextP (freeQ p n 0)).held.length c5)) := Row.all hB7 rfl
    have ho6 := own_kp (own_mono ho k4.size) hk6 (own_neb (own_mono ho k4.size) (by decide) hB6)
    repeat (first|apply cD|apply cE|apply cH|refine cV rfl rfl rfl rfl (by first|(apply qas<;>(exact rfl))|fail) ?_)
    refine ret2 (Or.inl rfl) Tryz.results49 (ResV.agg rfl rfl hr (pc_length _ _)) (by first | exact ResV.tmp rfl | exact ResV.agg rfl rfl (by assumption) (by first | exact dc_length _ | exact nc_length _ | exact rc_length _ _ _ | exact ec_length _ | exact dl_length _ _ _ _ | rfl) | exact ResV.cell rfl rfl (by assumption)) ?_
    exact ⟨_, rfl, (k4.trans hk5).trans_new hk6 (new1 (by omega)), fun _ => ⟨_, rfl, ho6⟩, fun h => absurd hz h⟩
  · have hv2 := h2 hz
    subst hv2
    repeat (first|refine cV rfl rfl rfl rfl (by first|(apply qxt<;>(exact rfl))|fail) ?_)
    refine SG.setAll (l := pc zPu (.slice none 0 0)) rfl rfl (by exact rho_of rfl) (by exact rho_of rfl) hB6 (pc_length _ _) rfl (pc_one _ _ _ _) (fun w6 hk6 hB7 => ?_)
    have hr : Row w6 b6 0 (pc zPu (.slice none 0 0)) := Row.all hB7 rfl
    repeat (first|apply cD|apply cE|apply cH|refine cV rfl rfl rfl rfl (by first|(apply qas<;>(exact rfl))|fail) ?_)
    refine ret2 (Or.inl rfl) Tryz.results49 (ResV.agg rfl rfl hr (pc_length _ _)) (by first | exact ResV.tmp rfl | exact ResV.agg rfl rfl (by assumption) (by first | exact dc_length _ | exact nc_length _ | exact rc_length _ _ _ | exact ec_length _ | exact dl_length _ _ _ _ | rfl) | exact ResV.cell rfl rfl (by assumption)) ?_
    exact ⟨_, rfl, (k4.trans hk5).trans_new hk6 (new1 (by omega)), fun h => absurd h hz, fun _ => rfl⟩
end Go.Proofs.YtajllbdeoopimaaGreat
namespace Go.Proofs.YtajllbdeoopimaaGreat
set_option linter.unusedVariables false
/-- A purse with a neighbour: the slice of what is held stands in it. -/
structure Sh where
  p : Pu
  a : Option Addr
  c : Nat
  side : Int
structure Pr where
  name : Dg
  frm : Dg
  to : Dg
  amt : Int
  inn : Int
  out : Int
def Sh.s (x : Sh) : Value := .slice x.a x.p.held.length x.c
def shc (x : Sh) : List Value := pc x.p x.s ++ [.int .i64 x.side]
theorem shc_length (x : Sh) : (shc x).length = 13 := by simp [shc, pc_length]
theorem shc_one (x : Sh) : allOne (shc x) = true := by simp [shc, allOne, pc, dc, oneB, Sh.s]
def shv (x : Sh) : Value := .agg (shc x).toArray
def prc (x : Pr) : List Value := dc x.name ++ (dc x.frm ++ (dc x.to ++ [.int .i64 x.amt, .int .i64 x.inn, .int .i64 x.out]))
theorem prc_length (x : Pr) : (prc x).length = 27 := by simp [prc, dc_length]
theorem prc_one (x : Pr) : allOne (prc x) = true := by simp [prc, allOne, dc, oneB]
def prv (x : Pr) : Value := .agg (prc x).toArray
abbrev Ms := List (Dg × Sh)
abbrev Mp := List (Dg × Pr)
/-- What is held lies in memory. -/
structure Sh.At (x : Sh) (w : World) : Prop where
  sl : Sl hc 11 w x.a x.p.held
  cap : x.p.held.length ≤ x.c
  ty : Ty 86 w x.a x.p.held
theorem Sh.At.kp {x : Sh} {S : List Nat} {w w' : World} (h : x.At w) (hk : Kp S w w') (hS : x.p.held ≠ [] → ∀ b off, x.a = some ⟨b, off, none⟩ → b ∉ S) : x.At w' := ⟨h.sl.kpN hk hS, h.cap, h.ty.kp hk hS⟩
theorem Sh.At.kp0 {x : Sh} {w w' : World} (h : x.At w) (hk : Kp [] w w') : x.At w' := h.kp hk (by simp)
structure HubAt (w : World) (bh bs bp : Nat) (win : Int) (ms : Ms) (mp : Mp) : Prop where
  blk : Blk w bh (.cells #[.int .i64 win, .map (some bs), .map (some bp)] 62)
  sh : MapIs w bs (dv (n := 8)) shv ms
  pr : MapIs w bp (dv (n := 8)) prv mp
  ne : bs ≠ bp
  at' : ∀ x ∈ ms, x.2.At w
  few : ∀ x ∈ ms, x.2.p.held.length ≤ 16
theorem MapIs.blk {κ ν : Type} {w : World} {b : Nat} {enc : κ → Value} {V : ν → Value} {m : List (κ × ν)} (h : MapIs w b enc V m) : ∃ es c, Blk w b (.map es c) := by
  obtain ⟨es, c, hb, _⟩ := h
  exact ⟨es, c, hb⟩
/-- A map's block is no row's. -/
theorem MapIs.nb {κ ν : Type} {w : World} {b z : Nat} {enc : κ → Value} {V : ν → Value} {m : List (κ × ν)} {cs : Array Value} {T : TypeId} {f : Nat × Nat} (h : MapIs w b enc V m) (hz : w.heap[z]? = some (.cells cs T f)) : z ≠ b := fun e => by
  obtain ⟨es, c, hb⟩ := h.blk
  have hb : w.heap[b]? = _ := hb
  rw [← e, hz] at hb
  cases hb
theorem Blk.raw {w : World} {b : Nat} {cs : Array Value} {T : TypeId} (h : Blk w b (.cells cs T)) : w.heap[b]? = some (.cells cs T) := h
theorem HubAt.kp0 {w w' : World} {bh bs bp : Nat} {win : Int} {ms : Ms} {mp : Mp} (h : HubAt w bh bs bp win ms mp) (hk : Kp [] w w') : HubAt w' bh bs bp win ms mp :=
  ⟨h.blk.kp0 hk, h.sh.kp0 hk, h.pr.kp0 hk, h.ne, fun x hx => (h.at' x hx).kp0 hk, h.few⟩
theorem Sh.At.map {x : Sh} {κ ν : Type} {w w' : World} {b : Nat} {enc : κ → Value} {V : ν → Value} {m : List (κ × ν)} (h : x.At w) (hm : MapIs w b enc V m) (hk : Kp [b] w w') : x.At w' :=
  h.kp hk (fun hn z off e => by
    obtain ⟨cs, f, hz⟩ := h.ty hn z off e
    exact nm1 (hm.nb hz))
/-- The purses written over. -/
theorem HubAt.setS {w w' : World} {bh bs bp : Nat} {win : Int} {ms ms' : Ms} {mp : Mp} (h : HubAt w bh bs bp win ms mp) (hk : Kp [bs] w w') (hm : MapIs w' bs (dv (n := 8)) shv ms') (hat : ∀ x ∈ ms', x.2.At w) (hf : ∀ x ∈ ms', x.2.p.held.length ≤ 16) : HubAt w' bh bs bp win ms' mp :=
  ⟨h.blk.kp hk (nm1 (h.sh.nb h.blk.raw)), hm, h.pr.kp hk (nm1 (fun e => h.ne e.symm)), h.ne, fun x hx => (hat x hx).map h.sh hk, hf⟩
/-- What is forwarded written over. -/
theorem HubAt.setP {w w' : World} {bh bs bp : Nat} {win : Int} {ms : Ms} {mp mp' : Mp} (h : HubAt w bh bs bp win ms mp) (hk : Kp [bp] w w') (hm : MapIs w' bp (dv (n := 8)) prv mp') : HubAt w' bh bs bp win ms mp' :=
  ⟨h.blk.kp hk (nm1 (h.pr.nb h.blk.raw)), h.sh.kp hk (nm1 h.ne), hm, h.ne, fun x hx => (h.at' x hx).map h.pr hk, h.few⟩
theorem HubAt.rows {w : World} {bh bs bp : Nat} {win : Int} {ms : Ms} {mp : Mp} (h : HubAt w bh bs bp win ms mp) : Row w bh 0 [.int .i64 win] ∧ Row w bh 1 [.map (some bs)] ∧ Row w bh 2 [.map (some bp)] :=
  ⟨Row.of h.blk [] [.map (some bs), .map (some bp)] rfl rfl, Row.of h.blk [.int .i64 win] [.map (some bp)] rfl rfl, Row.of h.blk [.int .i64 win, .map (some bs)] [] rfl rfl⟩
theorem shc_rows {w : World} {b : Nat} {T : TypeId} {x : Sh} (h : Blk w b (.cells (shc x).toArray T)) : Row w b 0 (dc x.p.name) ∧ Row w b 0 (pc x.p x.s) ∧ Row w b 12 [.int .i64 x.side] ∧ Row w b 0 (shc x) := by
  have l8 : (dc x.p.name).length = 8 := dc_length _
  refine ⟨Row.of h [] ([.int .i64 x.p.num, .int .i64 x.p.h0, .int .i64 x.p.h1, x.s] ++ [.int .i64 x.side]) (by simp [shc, pc]) rfl, Row.of h [] [.int .i64 x.side] (by simp [shc]) rfl, Row.of h (pc x.p x.s) [] (by simp [shc]) (pc_length _ _), Row.all h rfl⟩
theorem bhub (z : Int) (a b : Nat) (w : World) : (Instr.build 62 #[(0, .int .i64 z), (1, .map (some a)), (2, .map (some b))]).run Tryz.prog w = .ok (.agg #[.int .i64 z, .map (some a), .map (some b)]) w := by kernel_rfl
abbrev np : Value := .pointer none
attribute [local irreducible] CG NG SG Vals Der Row Blk MapIs IterAt chkL DerR
set_option maxHeartbeats 16000000 in
theorem new_spec (z : Int) (h1 : 1 ≤ z) (h2 : z ≤ 1048576) (w : World) : Calls Tryz.prog 4 #[.int .i64 z] w (fun e w' => ∃ bh bs bp, e = .returned (.tuple #[.pointer (some ⟨bh, 0, none⟩), .int .i64 0]) ∧ Kp [] w w' ∧ w.heap.size ≤ bh ∧ w.heap.size ≤ bs ∧ w.heap.size ≤ bp ∧ HubAt w' bh bs bp z [] []) := by
  refine enter1 Tryz.func4 rfl Tryz.ntmps4 rfl ?_
  have g1 : ¬ z < 1 := by omega
  have g2 : ¬ 1048576 < z := by omega
  repeat (first|apply cA|apply cB|apply cD|apply cE|refine cV rfl rfl rfl rfl (by first|((first|apply qmv|apply qas|apply qpk|apply qls|apply qgt)<;>(first|exact rfl|exact dcf (by first|assumption|omega)|fail))|fail) ?_)
  refine dB rfl (by exact rho_of rfl) rfl ?_
  repeat (first|apply cA|apply cB|apply cE|apply cF|refine cV rfl rfl rfl rfl (by first|(apply qmv<;>(exact rfl))|fail) ?_)
  refine SG.makeMap (dv (n := 8)) shv rfl rfl (fun bs w1 hk1 hbs hms => ?_)
  refine SG.makeMap (dv (n := 8)) prv rfl rfl (fun bp w2 hk2 hbp hmp => ?_)
  skip
  refine cV rfl rfl rfl rfl (vals_build rfl (bhub z bs bp)) ?_
  refine SG.box rfl rfl rfl (by exact rho_of rfl) (fun bh w3 hk3 hbh hB => ?_)
  repeat (first|apply cD|apply cE|apply cH|refine cV rfl rfl rfl rfl (by first|(apply qas<;>(exact rfl))|fail) ?_)
  refine ret2 (Or.inl rfl) Tryz.results4 (by first | exact ResV.tmp rfl | exact ResV.agg rfl rfl (by assumption) (by first | exact dc_length _ | exact nc_length _ | exact rc_length _ _ _ | exact ec_length _ | exact dl_length _ _ _ _ | rfl) | exact ResV.cell rfl rfl (by assumption)) (by first | exact ResV.tmp rfl | exact ResV.agg rfl rfl (by assumption) (by first | exact dc_length _ | exact nc_length _ | exact rc_length _ _ _ | exact ec_length _ | exact dl_length _ _ _ _ | rfl) | exact ResV.cell rfl rfl (by assumption)) ?_
  have s1 := hk1.size
  have s2 := hk2.size
  have l1 := hms.lt
  exact ⟨bh, bs, bp, rfl, (hk1.trans hk2).trans hk3, by omega, hbs, by omega, hB, (hms.kp0 hk2).kp0 hk3, hmp.kp0 hk3, by omega, fun x hx => (by cases hx), fun x hx => (by cases hx)⟩
set_option maxHeartbeats 16000000 in
theorem new_bad (z : Int) (h : z < 1 ∨ 1048576 < z) (w : World) : Ret Tryz.prog 4 #[.int .i64 z] w (.tuple #[np, .int .i64 2]) := by
  refine enter1 Tryz.func4 rfl Tryz.ntmps4 rfl ?_
  by_cases g1 : z < 1
  · repeat (first | first|apply cA|apply cB|apply cD|apply cE|refine cV rfl rfl rfl rfl (by first|((first|apply qmv|apply qas|apply qpk|apply qls)<;>(first|exact rfl|exact dct (by first|assumption|omega)|fail))|fail) ?_ | refine cX rfl rfl ?_)
    refine dA rfl (by exact rho_of rfl) rfl ?_
    repeat (first|apply cA|apply cB|apply cD|apply cE|apply cH|apply cK|refine cV rfl rfl rfl rfl (by first|(apply qas<;>(exact rfl))|fail) ?_)
    refine ret2 (Or.inl rfl) Tryz.results4 (by first | exact ResV.tmp rfl | exact ResV.agg rfl rfl (by assumption) (by first | exact dc_length _ | exact nc_length _ | exact rc_length _ _ _ | exact ec_length _ | exact dl_length _ _ _ _ | rfl) | exact ResV.cell rfl rfl (by assumption)) (by first | exact ResV.tmp rfl | exact ResV.agg rfl rfl (by assumption) (by first | exact dc_length _ | exact nc_length _ | exact rc_length _ _ _ | exact ec_length _ | exact dl_length _ _ _ _ | rfl) | exact ResV.cell rfl rfl (by assumption)) ?_
    exact ⟨rfl, Kp.refl _ _⟩
  · have g2 : 1048576 < z := h.resolve_left g1
    repeat (first|apply cA|apply cB|apply cD|apply cE|refine cV rfl rfl rfl rfl (by first|((first|apply qmv|apply qas|apply qpk|apply qls|apply qgt)<;>(first|exact rfl|exact dct (by first|assumption|omega)|exact dcf (by first|assumption|omega)|fail))|fail) ?_)
    refine dA rfl (by exact rho_of rfl) rfl ?_
    repeat (first|apply cA|apply cB|apply cD|apply cE|apply cH|apply cK|refine cV rfl rfl rfl rfl (by first|(apply qas<;>(exact rfl))|fail) ?_)
    refine ret2 (Or.inl rfl) Tryz.results4 (by first | exact ResV.tmp rfl | exact ResV.agg rfl rfl (by assumption) (by first | exact dc_length _ | exact nc_length _ | exact rc_length _ _ _ | exact ec_length _ | exact dl_length _ _ _ _ | rfl) | exact ResV.cell rfl rfl (by assumption)) (by first | exact ResV.tmp rfl | exact ResV.agg rfl rfl (by assumption) (by first | exact dc_length _ | exact nc_length _ | exact rc_length _ _ _ | exact ec_length _ | exact dl_length _ _ _ _ | rfl) | exact ResV.cell rfl rfl (by assumption)) ?_
    exact ⟨rfl, Kp.refl _ _⟩
def namedB (ms : Ms) (n : Dg) : Bool := ms.any (fun x => decide (x.2.p.name = n))
set_option maxHeartbeats 16000000 in
theorem named_spec {w : World} {bh bs bp : Nat} {win : Int} {ms : Ms} {mp : Mp} (hH : HubAt w bh bs bp win ms mp) (n : Dg) : Ret Tryz.prog 29 #[.pointer (some ⟨bh, 0, none⟩), dv n] w (.bool (namedB ms n)) := by
  refine enter2 Tryz.func29 rfl Tryz.ntmps29 rfl ?_
  repeat (first|apply cA|apply cB)
  refine SG.box rfl rfl rfl (by exact rho_of rfl) (fun b3 w1 hk1 hb3 hB3 => ?_)
  have hB3 : Blk w1 b3 (.cells (dc n).toArray 44) := hB3
  have hN : Row w1 b3 0 (dc n) := Row.all hB3 rfl
  have l3 := hB3.lt
  have hH1 := hH.kp0 hk1
  obtain ⟨-, r1, -⟩ := hH1.rows
  repeat (first|apply cA|apply cB|apply cD|apply cE|refine cV rfl rfl rfl rfl (by first|((first|apply qmv|apply qas|apply qlc|apply qfa|apply qnc)<;>(first|exact rfl|assumption|exact List.not_mem_nil))|fail) ?_)
  refine SG.range rfl rfl rfl (by exact rho_of rfl) hH1.sh (fun r w2 hk2 hr2 hI => ?_)
  repeat (first|apply cD|apply cE|apply cG)
  refine CG.loop (X := Ms × Ms × Option (Dg × Sh)) (fun x => [(3, .pointer (some ⟨b3, 0, none⟩)), (11, .pointer (some ⟨r, 0, none⟩))])
    (fun x w' => Kp [r] w2 w' ∧ IterAt w' r bs (dv (n := 8)) shv ms x.2.1 x.2.2 ∧ (x.1 ++ x.2.1).Perm ms ∧ namedB x.1 n = false) (fun x => x.2.1.length) ([], ms, none) ⟨Kp.refl _ _, hI, by simp, rfl⟩ (by (repeat' (first | exact True.intro | exact rfl | refine And.intro ?_ ?_))) ?_
  rintro ⟨done, left, cur⟩ w3 ⟨hk3, hI, hp, hd⟩
  simp only at hI hp hd
  have k3 : Kp [] w1 w3 := hk2.trans_new hk3 (new1 (by omega))
  have hN3 := hN.kp0 k3
  repeat (first|apply cA|apply cB)
  refine SG.next rfl rfl rfl (by exact rho_of rfl) hI (fun h0 => ?_) (fun pre x post w4 hl4 hk4 hI4 => ?_)
  · subst h0
    rw [List.append_nil] at hp
    have e : namedB ms n = false := by
      rw [← hd]
      unfold namedB
      rw [Bool.eq_iff_iff, List.any_eq_true, List.any_eq_true]
      exact ⟨fun ⟨x, h1, h2⟩ => ⟨x, hp.mem_iff.2 h1, h2⟩, fun ⟨x, h1, h2⟩ => ⟨x, hp.mem_iff.1 h1, h2⟩⟩
    rw [e]
    repeat (first|apply cA|apply cD|apply cE|refine cV rfl rfl rfl rfl (by first|(apply qxt<;>(exact rfl))|fail) ?_)
    refine dB rfl (by exact rho_of rfl) rfl ?_
    repeat (first|apply cA|apply cB|apply cD|apply cE|apply cH|apply cJ|apply cM|refine cN rfl ?_|refine cV rfl rfl rfl rfl (by first|(apply qas<;>(exact rfl))|fail) ?_)
    refine ret1 (Or.inl rfl) Tryz.results29 (by first | exact ResV.tmp rfl | exact ResV.agg rfl rfl (by assumption) (by first | exact dc_length _ | exact nc_length _ | exact rc_length _ _ _ | exact ec_length _ | exact dl_length _ _ _ _ | rfl) | exact ResV.cell rfl rfl (by assumption)) ?_
    exact ⟨rfl, hk1.trans k3⟩
  · have hxm : x ∈ ms := hp.mem_iff.1 (by rw [hl4]; simp)
    repeat (first|apply cA|apply cD|apply cE|refine cV rfl rfl rfl rfl (by first|(apply qxt<;>(exact rfl))|fail) ?_)
    refine dA rfl (by exact rho_of rfl) rfl ?_
    have s4 := hk4.size
    have k4 : Kp [] w1 w4 := k3.trans_new hk4 (new1 (by have := hk1.size; omega))
    repeat (first|apply cA|apply cB|apply cE|apply cF|apply cG|refine cV rfl rfl rfl rfl (by first|((first|apply qen|apply qxt|apply qen)<;>(first|exact rfl|assumption|exact List.not_mem_nil))|fail) ?_)
    refine SG.alloc rfl rfl rfl (fun b6 w5 hk5 hb6 hB6 => ?_)
    refine SG.setAll (l := shc x.2) rfl rfl (by exact rho_of rfl) (by exact rho_of rfl) hB6 (shc_length _) rfl (shc_one _) (fun w6 hk6 hB7 => ?_)
    have hB7 : Blk w6 b6 (.cells (shc x.2).toArray 72) := hB7
    obtain ⟨q0, -, -, -⟩ := shc_rows hB7
    have k46 : Kp [] w4 w6 := hk5.trans_new hk6 (new1 (by omega))
    have k6 := k4.trans k46
    have hN6 := hN.kp0 k6
    by_cases he : x.2.p.name = n
    · have e : namedB ms n = true := List.any_eq_true.2 ⟨x, hxm, decide_eq_true he⟩
      rw [e]
      repeat (first|apply cA|apply cB|apply cD|apply cE|refine cV rfl rfl rfl rfl (by first|((first|apply qla|apply qfa|apply qed)<;>(first|exact rfl|assumption|exact dct (by first|assumption|omega)|exact List.not_mem_nil|apply dc_length|fail))|fail) ?_)
      refine dA rfl (by exact rho_of rfl) rfl ?_
      repeat (first|apply cA|apply cB|apply cD|apply cE|apply cH|apply cK|apply NG.ret_block|refine cV rfl rfl rfl rfl (by first|(apply qas<;>(exact rfl))|fail) ?_)
      refine ret1 (Or.inl rfl) Tryz.results29 (by first | exact ResV.tmp rfl | exact ResV.agg rfl rfl (by assumption) (by first | exact dc_length _ | exact nc_length _ | exact rc_length _ _ _ | exact ec_length _ | exact dl_length _ _ _ _ | rfl) | exact ResV.cell rfl rfl (by assumption)) ?_
      exact ⟨rfl, hk1.trans k6⟩
    · repeat (first|apply cA|apply cB|apply cD|apply cE|refine cV rfl rfl rfl rfl (by first|((first|apply qla|apply qfa|apply qed)<;>(first|exact rfl|assumption|exact dcf (by first|assumption|omega)|exact List.not_mem_nil|apply dc_length|fail))|fail) ?_)
      refine dB rfl (by exact rho_of rfl) rfl ?_
      repeat (first|apply cF|apply cU)
      refine NG.round (done ++ [x], pre ++ post, some x) (by (repeat' (first | exact True.intro | exact rfl | refine And.intro ?_ ?_))) ⟨(hk3.trans hk4).trans k46.any, hI4.kp0 k46, ?_, ?_⟩ (by simp only; rw [hl4]; simp)
      · simp only
        rw [hl4] at hp
        refine List.Perm.trans ?_ hp
        rw [List.append_assoc, List.singleton_append]
        exact List.Perm.append_left _ List.perm_middle.symm
      · simp only
        unfold namedB at hd ⊢
        rw [List.any_append, hd]
        simp [he]
end Go.Proofs.YtajllbdeoopimaaGreat
namespace Go.Proofs.YtajllbdeoopimaaGreat
open Go.ChangeShapes Go.WideShapes Go.ChangeAt Go.RowKit
set_option linter.unusedVariables false
theorem own : ownKnob Tryz.prog.godebug = none := by kernel_rfl
theorem laidOut : laidOutB Tryz.prog = true := by kernel_rfl
theorem cells5 : Tryz.prog.cellsOf 5 = 1 := by kernel_rfl
theorem cells3 : Tryz.prog.cellsOf 3 = 1 := by kernel_rfl
end Go.Proofs.YtajllbdeoopimaaGreat
namespace Go.Proofs.YtajllbdeoopimaaGreat
set_option linter.unusedVariables false
/-- No purse at all, as a map that lacks one answers it. -/
def zSh : Sh := ⟨zPu, none, 0, 0⟩
theorem bsh' (w : World) (a0 a1 a2 a3 a4 a5 a6 a7 : UInt8) (n h0 h1 side : Int) (s : Value) : (Instr.build 72 #[(0, .agg #[bv a0, bv a1, bv a2, bv a3, bv a4, bv a5, bv a6, bv a7, .int .i64 n, .int .i64 h0, .int .i64 h1, s]), (1, .int .i64 side)]).run Tryz.prog w = .ok (.agg #[bv a0, bv a1, bv a2, bv a3, bv a4, bv a5, bv a6, bv a7, .int .i64 n, .int .i64 h0, .int .i64 h1, s, .int .i64 side]) w := by kernel_rfl
theorem bsh (p : Pu) (a : Option Addr) (c : Nat) (side : Int) (w : World) : (Instr.build 72 #[(0, pv p (.slice a p.held.length c)), (1, .int .i64 side)]).run Tryz.prog w = .ok (shv ⟨p, a, c, side⟩) w := by
  obtain ⟨⟨l, hl⟩, n, h0, h1, held⟩ := p
  match l, hl with
  | [a0, a1, a2, a3, a4, a5, a6, a7], _ => exact bsh' w a0 a1 a2 a3 a4 a5 a6 a7 n h0 h1 side (.slice a held.length c)
theorem aput_mem {ms : Ms} {k : Dg} {x y : Dg × Sh} {v : Sh} (h : y ∈ aput ms k v) : y ∈ ms ∨ y.2 = v := by
  induction ms with
  | nil =>
    simp [aput] at h
    exact Or.inr (by rw [h])
  | cons z ms ih =>
    unfold aput at h
    split at h
    · rcases List.mem_cons.1 h with h | h
      · exact Or.inr (by rw [h])
      · exact Or.inl (List.mem_cons_of_mem _ h)
    · rcases List.mem_cons.1 h with h | h
      · exact Or.inl (h ▸ List.mem_cons_self)
      · exact (ih h).imp (List.mem_cons_of_mem _) id
attribute [local irreducible] CG NG SG Vals Der Row Blk MapIs IterAt chkL DerR
set_option maxHeartbeats 16000000 in
theorem put_spec {w : World} {bh bs bp : Nat} {win : Int} {ms : Ms} {mp : Mp} (hH : HubAt w bh bs bp win ms mp) (k : Dg) (p : Pu) (a : Option Addr) (c : Nat) {old : Sh} (hk0 : alook ms k = some old) (hat : (⟨p, a, c, old.side⟩ : Sh).At w) (hl : p.held.length ≤ 16) :
    Calls Tryz.prog 40 #[.pointer (some ⟨bh, 0, none⟩), dv k, pv p (.slice a p.held.length c)] w (fun e w' => e = .returned (.tuple #[]) ∧ Kp [bs] w w' ∧ HubAt w' bh bs bp win (aput ms k ⟨p, a, c, old.side⟩) mp) := by
  refine enter3 Tryz.func40 rfl Tryz.ntmps40 rfl ?_
  repeat (first|apply cA|apply cB)
  refine SG.box rfl rfl rfl (by exact rho_of rfl) (fun b4 w1 hk1 hb4 hB4 => ?_)
  have hB4 : Blk w1 b4 (.cells (dc k).toArray 44) := hB4
  have hK : Row w1 b4 0 (dc k) := Row.all hB4 rfl
  refine SG.box rfl rfl rfl (by exact rho_of rfl) (fun b5 w2 hk2 hb5 hB5 => ?_)
  have hB5 : Blk w2 b5 (.cells (pc p (.slice a p.held.length c)).toArray 47) := hB5
  have k2 := hk1.trans hk2
  have hH2 := hH.kp0 k2
  have hK2 := hK.kp0 hk2
  obtain ⟨-, r1, -⟩ := hH2.rows
  have hm2 := hH2.sh
  repeat (first|apply cA|apply cD|apply cE)
  refine CG.drawv mixed [0, 1, 2, 3, 4, 5] [(6, 7, 6, .tmp 12)] (by kernel_rfl) (by kernel_rfl) ?_
  repeat (refine cY rfl rfl rfl (by first|((first|apply qmv|apply qlc|apply qla|apply qfa|apply qnc|apply qlv)<;>(first|exact rfl|assumption|exact List.not_mem_nil|apply dc_length|exact lk1 (by assumption)|fail))|fail) ?_)
  refine Der.one (VrOk.of (by rfl) rfl rfl rfl (by exact rho_of rfl) (by exact shc_length old) (by rfl) (by exact shc_one old)) (fun b6 w3 hk3 hb6 hB6 => ?_)
  have hB6 : Blk w3 b6 (.cells (shc old).toArray 72) := hB6
  have hB5 := hB5.kp0 hk3
  obtain ⟨-, -, -, -, -, r5⟩ := pc_rows hB5
  clear r1 hm2
  repeat (first|apply cA|apply cB|apply cE|refine cV rfl rfl rfl rfl (by first|((first|apply qla|apply qfa)<;>(first|exact rfl|assumption|exact List.not_mem_nil|apply pc_length))|fail) ?_)
  refine SG.setMid [] (pc old.p old.s) [.int .i64 old.side] rfl rfl (by exact rho_of rfl) (by exact rho_of rfl) hB6 rfl (by exact pc_length _ _) (pc_length _ _) rfl (by exact pc_one _ _ _ _) (fun w4 hk4 hB7 => ?_)
  have hB7 : Blk w4 b6 (.cells (shc ⟨p, a, c, old.side⟩).toArray 72) := hB7
  have k24 : Kp [] w2 w4 := hk3.trans_new hk4 (new1 (by omega))
  have hH4 := hH2.kp0 k24
  have hK4 := hK2.kp0 k24
  obtain ⟨-, r1, -⟩ := hH4.rows
  obtain ⟨-, -, -, r6⟩ := shc_rows hB7
  clear r5
  repeat (first|apply cD|apply cE)
  refine CG.tail mixed 6 [0, 1, 2, 3, 4, 5] (by kernel_rfl) ?_
  repeat (refine cY rfl rfl rfl (by first|((first|apply qmv|apply qlc|apply qla|apply qfa|apply qnc)<;>(first|exact rfl|assumption|exact List.not_mem_nil|apply dc_length|apply shc_length))|fail) ?_)
  refine Der.tl (fun w5 hk5 _ _ => ?_)
  have hH5 := hH4.kp0 hk5
  have k5 := (k2.trans k24).trans hk5
  refine SG.mapUpdate (enc := dv (n := 8)) (V := shv) (kx := k) (vy := ⟨p, a, c, old.side⟩) rfl rfl (by exact rho_of rfl) (by exact rho_of rfl) (by exact rho_of rfl) hH5.sh BArr.key (fun w6 hk6 hm6 => ?_)
  repeat (first|apply cD)
  refine ret0 (Or.inr rfl) Tryz.results40 ?_
  refine ⟨rfl, k5.any.trans hk6, hH5.setS hk6 hm6 (fun x hx => ?_) (fun x hx => ?_)⟩
  · rcases aput_mem (x := x) hx with h | h
    · exact hH5.at' x h
    · rw [h]; exact hat.kp0 k5
  · rcases aput_mem (x := x) hx with h | h
    · exact hH5.few x h
    · rw [h]; exact hl
set_option maxHeartbeats 16000000 in
theorem purse_none {w : World} {bh bs bp : Nat} {win : Int} {ms : Ms} {mp : Mp} (hH : HubAt w bh bs bp win ms mp) (k : Dg) (hk0 : alook ms k = none) : Ret Tryz.prog 14 #[.pointer (some ⟨bh, 0, none⟩), dv k] w (.tuple #[pv zPu (.slice none 0 0), .bool false]) := by
  refine enter2 Tryz.func14 rfl Tryz.ntmps14 rfl ?_
  repeat (first|apply cA|apply cB)
  refine SG.box rfl rfl rfl (by exact rho_of rfl) (fun b3 w1 hk1 hb3 hB3 => ?_)
  have hB3 : Blk w1 b3 (.cells (dc k).toArray 44) := hB3
  have hK : Row w1 b3 0 (dc k) := Row.all hB3 rfl
  refine SG.alloc rfl rfl rfl (fun b4 w2 hk2 hb4 hB4 => ?_)
  have hB4 : Blk w2 b4 (.cells (pc zPu (.slice none 0 0)).toArray 47) := hB4
  have k2 := hk1.trans hk2
  have s1 := hk1.size
  have hH2 := hH.kp0 k2
  have hK2 := hK.kp0 hk2
  obtain ⟨-, r1, -⟩ := hH2.rows
  have hm2 := hH2.sh
  repeat (first|apply cA|apply cB|apply cD|apply cE|refine cV rfl rfl rfl rfl (by first|((first|apply qep|apply qmv|apply qas|apply qep)<;>(exact rfl))|fail) ?_)
  refine dB rfl (by exact rho_of rfl) rfl ?_
  repeat (first|apply cA|apply cE|apply cF)
  refine CG.drawv mixed [0, 1, 2, 3, 4, 5, 6, 7, 8, 11] [(9, 10, 6, .tmp 18)] (by kernel_rfl) (by kernel_rfl) ?_
  repeat (refine cY rfl rfl rfl (by first|((first|apply qmv|apply qas|apply qlc|apply qla|apply qfa|apply qnc|apply qlk|apply qxt)<;>(first|exact rfl|assumption|exact List.not_mem_nil|apply dc_length|exact lk0 (by assumption)|fail))|fail) ?_)
  refine Der.one (VrOk.of (by rfl) rfl rfl rfl (by exact rho_of rfl) (by rfl) (by rfl) (by rfl)) (fun b6 w3 hk3 hb6 hB6 => ?_)
  have hB4 := hB4.kp0 hk3
  repeat (first|apply cA|apply cB|apply cD|apply cE|refine cV rfl rfl rfl rfl (by first|((first|apply qmv|apply qnt)<;>(exact rfl))|fail) ?_)
  refine dA rfl (by exact rho_of rfl) rfl ?_
  repeat (first|apply cA|apply cB)
  refine cV rfl rfl rfl rfl (vals_build rfl bzp) ?_
  refine SG.setAll (l := pc zPu (.slice none 0 0)) rfl rfl (by exact rho_of rfl) (by exact rho_of rfl) hB4 (pc_length _ _) (pc_length _ _) (pc_one _ _ _ _) (fun w4 hk4 hB5 => ?_)
  have hr : Row w4 b4 0 (pc zPu (.slice none 0 0)) := Row.all hB5 rfl
  repeat (first|apply cD|apply cE|apply cH|apply cK|refine cV rfl rfl rfl rfl (by first|(apply qas<;>(exact rfl))|fail) ?_)
  refine ret2 (Or.inl rfl) Tryz.results14 (ResV.agg rfl rfl hr (pc_length _ _)) (by first | exact ResV.tmp rfl | exact ResV.agg rfl rfl (by assumption) (by first | exact dc_length _ | exact nc_length _ | exact rc_length _ _ _ | exact ec_length _ | exact dl_length _ _ _ _ | rfl) | exact ResV.cell rfl rfl (by assumption)) ?_
  exact ⟨rfl, (k2.trans hk3).trans_new hk4 (new1 (by omega))⟩
set_option maxHeartbeats 16000000 in
theorem purse_some {w : World} {bh bs bp : Nat} {win : Int} {ms : Ms} {mp : Mp} (hH : HubAt w bh bs bp win ms mp) (k : Dg) {x : Sh} (hk0 : alook ms k = some x) (hat : x.At w) (hl : x.p.held.length ≤ 16) : Calls Tryz.prog 14 #[.pointer (some ⟨bh, 0, none⟩), dv k] w (fun e w' => ∃ v, e = .returned (.tuple #[v, .bool true]) ∧ PuAt w.heap.size w' v x.p ∧ Kp [] w w') := by
  refine enter2 Tryz.func14 rfl Tryz.ntmps14 rfl ?_
  repeat (first|apply cA|apply cB)
  refine SG.box rfl rfl rfl (by exact rho_of rfl) (fun b3 w1 hk1 hb3 hB3 => ?_)
  have hB3 : Blk w1 b3 (.cells (dc k).toArray 44) := hB3
  have hK : Row w1 b3 0 (dc k) := Row.all hB3 rfl
  refine SG.alloc rfl rfl rfl (fun b4 w2 hk2 hb4 hB4 => ?_)
  have hB4 : Blk w2 b4 (.cells (pc zPu (.slice none 0 0)).toArray 47) := hB4
  have k2 := hk1.trans hk2
  have s1 := hk1.size
  have hH2 := hH.kp0 k2
  have hK2 := hK.kp0 hk2
  obtain ⟨-, r1, -⟩ := hH2.rows
  have hm2 := hH2.sh
  repeat (first|apply cA|apply cB|apply cD|apply cE|refine cV rfl rfl rfl rfl (by first|((first|apply qep|apply qmv|apply qas|apply qep)<;>(exact rfl))|fail) ?_)
  refine dB rfl (by exact rho_of rfl) rfl ?_
  repeat (first|apply cA|apply cE|apply cF)
  refine CG.drawv mixed [0, 1, 2, 3, 4, 5, 6, 7, 8, 11] [(9, 10, 6, .tmp 18)] (by kernel_rfl) (by kernel_rfl) ?_
  repeat (refine cY rfl rfl rfl (by first|((first|apply qmv|apply qas|apply qlc|apply qla|apply qfa|apply qnc|apply qlk|apply qxt)<;>(first|exact rfl|assumption|exact List.not_mem_nil|apply dc_length|exact lk1 (by assumption)|fail))|fail) ?_)
  refine Der.one (VrOk.of (by rfl) rfl rfl rfl (by exact rho_of rfl) (by exact shc_length x) (by rfl) (by exact shc_one x)) (fun b6 w3 hk3 hb6 hB6 => ?_)
  have hB6 : Blk w3 b6 (.cells (shc x).toArray 72) := hB6
  have hB4 := hB4.kp0 hk3
  have k3 := k2.trans hk3
  obtain ⟨-, q1, -, -⟩ := shc_rows hB6
  repeat (first|apply cA|apply cB|apply cD|apply cE|refine cV rfl rfl rfl rfl (by first|((first|apply qmv|apply qnt)<;>(exact rfl))|fail) ?_)
  refine dB rfl (by exact rho_of rfl) rfl ?_
  repeat (first|apply cA|apply cB|apply cE|apply cF|refine cV rfl rfl rfl rfl (by first|((first|apply qla|apply qfa)<;>(first|exact rfl|assumption|exact List.not_mem_nil|apply pc_length))|fail) ?_)
  refine SG.call rfl rfl rfl (vs := [pv x.p (.slice x.a x.p.held.length x.c)]) (by repeat' (first | exact True.intro | exact rho_of rfl | refine And.intro ?_ ?_)) ((copied_spec x.p (hat.sl.kp0 k3) (by omega)).mono (fun e w4 hh => ?_))
  obtain ⟨v, he, ⟨s, rfl, ho⟩, hk4⟩ := hh
  refine ⟨_, he, ?_⟩
  obtain ⟨a5, c5, rfl, _, _⟩ := Sl.own hc_length ho rfl
  have hB4 := hB4.kp0 hk4
  skip
  refine SG.setAll (l := pc x.p (.slice a5 x.p.held.length c5)) rfl rfl (by exact rho_of rfl) (by exact rho_of rfl) hB4 (pc_length _ _) (pc_length _ _) (pc_one _ _ _ _) (fun w5 hk5 hB5 => ?_)
  have hr : Row w5 b4 0 (pc x.p (.slice a5 x.p.held.length c5)) := Row.all hB5 rfl
  have ho5 := own_kp (own_mono ho k3.size) hk5 (own_neb (own_mono ho k3.size) (by decide) hB4)
  repeat (first|apply cD|apply cE|apply cH|refine cV rfl rfl rfl rfl (by first|(apply qas<;>(exact rfl))|fail) ?_)
  refine ret2 (Or.inl rfl) Tryz.results14 (ResV.agg rfl rfl hr (pc_length _ _)) (by first | exact ResV.tmp rfl | exact ResV.agg rfl rfl (by assumption) (by first | exact dc_length _ | exact nc_length _ | exact rc_length _ _ _ | exact ec_length _ | exact dl_length _ _ _ _ | rfl) | exact ResV.cell rfl rfl (by assumption)) ?_
  exact ⟨_, rfl, ⟨_, rfl, ho5⟩, (k3.trans hk4).trans_new hk5 (new1 (by omega))⟩
end Go.Proofs.YtajllbdeoopimaaGreat
namespace Go.Proofs.YtajllbdeoopimaaGreat
set_option linter.unusedVariables false
def openE (ms : Ms) (k : Dg) (p : Pu) (side : Int) : Int := if checkZ p ≠ 0 then checkZ p else if side ≠ 0 ∧ side ≠ 1 then 28 else if p.held.length ≠ 0 then 10 else if (alook ms k).isSome ∨ namedB ms p.name = true then 7 else if 16 ≤ ms.length then 8 else 0
attribute [local irreducible] CG NG SG Vals Der Row Blk MapIs IterAt chkL DerR
set_option maxHeartbeats 16000000 in
theorem open_spec {w : World} {bh bs bp : Nat} {win : Int} {ms : Ms} {mp : Mp} (hH : HubAt w bh bs bp win ms mp) (k : Dg) (p : Pu) {a : Option Addr} {c : Nat} (side : Int) (hS : Sl hc 11 w a p.held) (hl : p.held.length ≤ 4398046511104) (hcap : p.held.length ≤ c) :
    Calls Tryz.prog 9 #[.pointer (some ⟨bh, 0, none⟩), dv k, pv p (.slice a p.held.length c), .int .i64 side] w (fun e w' => e = .returned (.int .i64 (openE ms k p side)) ∧ ((openE ms k p side ≠ 0 ∧ Kp [] w w') ∨ (openE ms k p side = 0 ∧ Kp [bs] w w' ∧ ∃ a' c', HubAt w' bh bs bp win (aput ms k ⟨p, a', c', side⟩) mp))) := by
  refine enter4 Tryz.func9 rfl Tryz.ntmps9 rfl ?_
  have fin : ∀ {z : Int} {w' : World}, Kp [] w w' → openE ms k p side = z → z ≠ 0 → ((Ending.returned (.int .i64 z) = .returned (.int .i64 (openE ms k p side))) ∧ ((openE ms k p side ≠ 0 ∧ Kp [] w w') ∨ (openE ms k p side = 0 ∧ Kp [bs] w w' ∧ ∃ a' c', HubAt w' bh bs bp win (aput ms k ⟨p, a', c', side⟩) mp))) := fun hk e hz => ⟨by rw [e], Or.inl ⟨by rw [e]; exact hz, hk⟩⟩
  repeat (first|apply cA|apply cB)
  refine SG.box rfl rfl rfl (by exact rho_of rfl) (fun b5 w1 hk1 hb5 hB5 => ?_)
  have hB5 : Blk w1 b5 (.cells (dc k).toArray 44) := hB5
  have hK : Row w1 b5 0 (dc k) := Row.all hB5 rfl
  refine SG.box rfl rfl rfl (by exact rho_of rfl) (fun b6 w2 hk2 hb6 hB6 => ?_)
  have hB6 : Blk w2 b6 (.cells (pc p (.slice a p.held.length c)).toArray 47) := hB6
  have k2 := hk1.trans hk2
  obtain ⟨-, -, -, -, -, r5⟩ := pc_rows hB6
  repeat (first|apply cA|apply cB|apply cD|apply cE|refine cV rfl rfl rfl rfl (by first|((first|apply qep|apply qmv|apply qas|apply qep)<;>(exact rfl))|fail) ?_)
  refine dB rfl (by exact rho_of rfl) rfl ?_
  repeat (first|apply cA|apply cB|apply cE|apply cF|refine cV rfl rfl rfl rfl (by first|(apply qla<;>(first|exact rfl|assumption|exact List.not_mem_nil|apply pc_length))|fail) ?_)
  refine SG.ret rfl rfl rfl (vs := [pv p (.slice a p.held.length c)]) (by repeat' (first | exact True.intro | exact rho_of rfl | refine And.intro ?_ ?_)) (check_spec0 p (hS.kp0 k2) hl hcap) (fun w3 hk3 => ?_)
  have k3 := k2.trans hk3
  have hB3 := hB6.kp0 hk3
  have hK3 := (hK.kp0 hk2).kp0 hk3
  have hH3 := hH.kp0 k3
  clear r5
  by_cases hc0 : checkZ p = 0
  rotate_left
  · have e : openE ms k p side = checkZ p := by simp [openE, hc0]
    generalize checkZ p = z at hc0 e
    repeat (first|apply cA|apply cB|apply cD|apply cE|refine cV rfl rfl rfl rfl (by first|((first|apply qmv|apply qas|apply qni)<;>(first|exact rfl|exact dcf (by first|assumption|omega)|fail))|fail) ?_)
    refine dA rfl (by exact rho_of rfl) rfl ?_
    repeat (first|apply cA|apply cB|apply cD|apply cE|apply cH|apply cK|refine cV rfl rfl rfl rfl (by first|((first|apply qmv|apply qas)<;>(exact rfl))|fail) ?_)
    refine ret1 (Or.inl rfl) Tryz.results9 (by first | exact ResV.tmp rfl | exact ResV.agg rfl rfl (by assumption) (by first | exact dc_length _ | exact nc_length _ | exact rc_length _ _ _ | exact ec_length _ | exact dl_length _ _ _ _ | rfl) | exact ResV.cell rfl rfl (by assumption)) ?_
    exact fin k3 e hc0
  rw [hc0]
  have h00 : (0 : Int) = 0 := rfl
  repeat (first|apply cA|apply cB|apply cD|apply cE|refine cV rfl rfl rfl rfl (by first|((first|apply qmv|apply qas|apply qni)<;>(first|exact rfl|exact dct (by first|assumption|omega)|fail))|fail) ?_)
  refine dB rfl (by exact rho_of rfl) rfl ?_
  by_cases hsd : side ≠ 0 ∧ side ≠ 1
  · obtain ⟨g1, g2⟩ := hsd
    have e : openE ms k p side = 28 := by simp [openE, hc0, g1, g2]
    repeat (first|apply cA|apply cB|apply cD|apply cE|apply cF|refine cV rfl rfl rfl rfl (by first|((first|apply qmv|apply qpk|apply qni)<;>(first|exact rfl|exact dcf (by first|assumption|omega)|fail))|fail) ?_)
    refine dA rfl (by exact rho_of rfl) rfl ?_
    repeat (first|apply cA|apply cB|apply cD|apply cE|apply cH|apply cK|refine cV rfl rfl rfl rfl (by first|(apply qas<;>(exact rfl))|fail) ?_)
    refine ret1 (Or.inl rfl) Tryz.results9 (by first | exact ResV.tmp rfl | exact ResV.agg rfl rfl (by assumption) (by first | exact dc_length _ | exact nc_length _ | exact rc_length _ _ _ | exact ec_length _ | exact dl_length _ _ _ _ | rfl) | exact ResV.cell rfl rfl (by assumption)) ?_
    exact fin k3 e (by decide)
  refine cF ?_
  refine cE ?_
  repeat (first | refine CG.scope ?_ | refine cA ?_)
  refine CG.cut_then (fun L w' => SubE [(0, .pointer (some ⟨bh, 0, none⟩)), (3, .int .i64 side), (5, .pointer (some ⟨b5, 0, none⟩)), (6, .pointer (some ⟨b6, 0, none⟩)), (24, .bool false)] L ∧ w' = w3) ?_ ?_
  · by_cases g1 : side = 0
    · repeat (first | first|apply cB|apply cD|refine cV rfl rfl rfl rfl (by first|((first|apply qmv|apply qpk|apply qni)<;>(first|exact rfl|exact dct (by first|assumption|omega)|fail))|fail) ?_ | refine cX rfl rfl ?_)
      exact NG.cut ⟨by (repeat' (first | exact True.intro | exact rfl | refine And.intro ?_ ?_)), rfl⟩
    · have g2 : side = 1 := Classical.byContradiction (fun h => hsd ⟨g1, h⟩)
      repeat (first|apply cB|apply cD|refine cV rfl rfl rfl rfl (by first|((first|apply qmv|apply qpk|apply qni)<;>(first|exact rfl|exact dct (by first|assumption|omega)|exact dcf (by first|assumption|omega)|fail))|fail) ?_)
      exact NG.cut ⟨by (repeat' (first | exact True.intro | exact rfl | refine And.intro ?_ ?_)), rfl⟩
  rintro L wz ⟨hLL, rfl⟩
  refine CG.to _ hLL ?_
  clear hLL L
  obtain ⟨q0, -, -, -, r4, -⟩ := pc_rows hB3
  refine dB rfl (by exact rho_of rfl) rfl ?_
  by_cases hh0 : p.held.length = 0
  rotate_left
  · have e : openE ms k p side = 10 := by
      unfold openE
      rw [if_neg (fun h => h hc0), if_neg hsd, if_pos hh0]
    have g1 : ¬ (p.held.length : Int) = 0 := by omega
    repeat (first|apply cA|apply cB|apply cD|apply cE|apply cF|refine cV rfl rfl rfl rfl (by first|((first|apply qlc|apply qfa|apply qni|apply qln)<;>(first|exact rfl|assumption|exact dcf (by first|assumption|omega)|exact List.not_mem_nil|fail))|fail) ?_)
    refine dA rfl (by exact rho_of rfl) rfl ?_
    repeat (first|apply cA|apply cB|apply cD|apply cE|apply cH|apply cK|refine cV rfl rfl rfl rfl (by first|(apply qas<;>(exact rfl))|fail) ?_)
    refine ret1 (Or.inl rfl) Tryz.results9 (by first | exact ResV.tmp rfl | exact ResV.agg rfl rfl (by assumption) (by first | exact dc_length _ | exact nc_length _ | exact rc_length _ _ _ | exact ec_length _ | exact dl_length _ _ _ _ | rfl) | exact ResV.cell rfl rfl (by assumption)) ?_
    exact fin k3 e (by decide)
  have g1 : (p.held.length : Int) = 0 := by omega
  have hoe : openE ms k p side = if (alook ms k).isSome ∨ namedB ms p.name = true then 7 else if 16 ≤ ms.length then 8 else 0 := by
    unfold openE
    rw [if_neg (fun h => h hc0), if_neg hsd, if_neg (fun h => h hh0)]
  obtain ⟨-, r1, -⟩ := hH3.rows
  have hm3 := hH3.sh
  repeat (first|apply cA|apply cB|apply cD|apply cE|apply cF|refine cV rfl rfl rfl rfl (by first|((first|apply qlc|apply qfa|apply qni|apply qln)<;>(first|exact rfl|assumption|exact dct (by first|assumption|omega)|exact List.not_mem_nil|fail))|fail) ?_)
  refine dB rfl (by exact rho_of rfl) rfl ?_
  cases hal : alook ms k with
  | some x =>
    have e : openE ms k p side = 7 := by rw [hoe, hal]; simp
    repeat (first|apply cA|apply cE|apply cF)
    refine CG.drawv mixed [0, 1, 2, 3, 4, 5, 6, 7, 8, 11] [(9, 10, 10, .tmp 36)] (by kernel_rfl) (by kernel_rfl) ?_
    repeat (refine cY rfl rfl rfl (by first|((first|apply qmv|apply qas|apply qlc|apply qla|apply qfa|apply qnc|apply qlk|apply qxt)<;>(first|exact rfl|assumption|exact List.not_mem_nil|apply dc_length|exact lk1 (by assumption)|fail))|fail) ?_)
    refine Der.one (VrOk.of (by rfl) rfl rfl rfl (by exact rho_of rfl) (by exact shc_length x) (by rfl) (by exact shc_one x)) (fun b10 w4 hk4 hb10 hB10 => ?_)
    repeat (first | first|apply cA|apply cB|apply cD|apply cE|refine cV rfl rfl rfl rfl (by first|((first|apply qmv|apply qpk)<;>(exact rfl))|fail) ?_ | refine cX rfl rfl ?_)
    refine dA rfl (by exact rho_of rfl) rfl ?_
    repeat (first|apply cA|apply cB|apply cD|apply cE|apply cH|apply cK|refine cV rfl rfl rfl rfl (by first|(apply qas<;>(exact rfl))|fail) ?_)
    refine ret1 (Or.inl rfl) Tryz.results9 (by first | exact ResV.tmp rfl | exact ResV.agg rfl rfl (by assumption) (by first | exact dc_length _ | exact nc_length _ | exact rc_length _ _ _ | exact ec_length _ | exact dl_length _ _ _ _ | rfl) | exact ResV.cell rfl rfl (by assumption)) ?_
    exact fin (k3.trans hk4) e (by decide)
  | none =>
    repeat (first|apply cA|apply cE|apply cF)
    refine CG.drawv mixed [0, 1, 2, 3, 4, 5, 6, 7, 8, 11] [(9, 10, 10, .tmp 36)] (by kernel_rfl) (by kernel_rfl) ?_
    repeat (refine cY rfl rfl rfl (by first|((first|apply qmv|apply qas|apply qlc|apply qla|apply qfa|apply qnc|apply qlk|apply qxt)<;>(first|exact rfl|assumption|exact List.not_mem_nil|apply dc_length|exact lk0 (by assumption)|fail))|fail) ?_)
    refine Der.one (VrOk.of (by rfl) rfl rfl rfl (by exact rho_of rfl) (by rfl) (by rfl) (by rfl)) (fun b10 w4 hk4 hb10 hB10 => ?_)
    have q0 := q0.kp0 hk4
    have k4 := k3.trans hk4
    have hH4 := hH3.kp0 hk4
    clear r1 hm3 r4
    repeat (first|apply cA|apply cB|apply cE|refine cV rfl rfl rfl rfl (by first|((first|apply qmv|apply qla|apply qfa)<;>(first|exact rfl|assumption|exact List.not_mem_nil|apply dc_length))|fail) ?_)
    refine SG.ret rfl rfl rfl (vs := [.pointer (some ⟨bh, 0, none⟩), dv p.name]) (by repeat' (first | exact True.intro | exact rho_of rfl | refine And.intro ?_ ?_)) (named_spec hH4 p.name) (fun w5 hk5 => ?_)
    have k5 := k4.trans hk5
    have hH5 := hH4.kp0 hk5
    have hB5' := (hB3.kp0 hk4).kp0 hk5
    have hK5 := (hK3.kp0 hk4).kp0 hk5
    clear q0
    cases hnm : namedB ms p.name with
    | true =>
      have e : openE ms k p side = 7 := by rw [hoe, hnm]; simp
      repeat (first|apply cD|apply cE|refine cV rfl rfl rfl rfl (by first|(apply qpk<;>(exact rfl))|fail) ?_)
      refine dA rfl (by exact rho_of rfl) rfl ?_
      repeat (first|apply cA|apply cB|apply cD|apply cE|apply cH|apply cK|refine cV rfl rfl rfl rfl (by first|(apply qas<;>(exact rfl))|fail) ?_)
      refine ret1 (Or.inl rfl) Tryz.results9 (by first | exact ResV.tmp rfl | exact ResV.agg rfl rfl (by assumption) (by first | exact dc_length _ | exact nc_length _ | exact rc_length _ _ _ | exact ec_length _ | exact dl_length _ _ _ _ | rfl) | exact ResV.cell rfl rfl (by assumption)) ?_
      exact fin k5 e (by decide)
    | false =>
      obtain ⟨-, r1, -⟩ := hH5.rows
      have hm5 := hH5.sh
      repeat (first|apply cD|apply cE|refine cV rfl rfl rfl rfl (by first|(apply qpk<;>(exact rfl))|fail) ?_)
      refine dB rfl (by exact rho_of rfl) rfl ?_
      by_cases h16 : 16 ≤ ms.length
      · have e : openE ms k p side = 8 := by rw [hoe, hnm, hal]; simp [h16]
        have g2 : (16 : Int) ≤ (ms.length : Int) := by omega
        repeat (first|apply cA|apply cB|apply cD|apply cE|apply cF|refine cV rfl rfl rfl rfl (by first|((first|apply qmv|apply qlc|apply qfa|apply qnc|apply qge|apply qlm)<;>(first|exact rfl|assumption|exact dct (by first|assumption|omega)|exact List.not_mem_nil|fail))|fail) ?_)
        refine dA rfl (by exact rho_of rfl) rfl ?_
        repeat (first|apply cA|apply cB|apply cD|apply cE|apply cH|apply cK|refine cV rfl rfl rfl rfl (by first|(apply qas<;>(exact rfl))|fail) ?_)
        refine ret1 (Or.inl rfl) Tryz.results9 (by first | exact ResV.tmp rfl | exact ResV.agg rfl rfl (by assumption) (by first | exact dc_length _ | exact nc_length _ | exact rc_length _ _ _ | exact ec_length _ | exact dl_length _ _ _ _ | rfl) | exact ResV.cell rfl rfl (by assumption)) ?_
        exact fin k5 e (by decide)
      have e : openE ms k p side = 0 := by rw [hoe, hnm, hal]; simp [h16]
      have g2 : ¬ (16 : Int) ≤ (ms.length : Int) := by omega
      repeat (first|apply cA|apply cB|apply cD|apply cE|apply cF|refine cV rfl rfl rfl rfl (by first|((first|apply qmv|apply qlc|apply qfa|apply qnc|apply qge|apply qlm)<;>(first|exact rfl|assumption|exact dcf (by first|assumption|omega)|exact List.not_mem_nil|fail))|fail) ?_)
      refine dB rfl (by exact rho_of rfl) rfl ?_
      clear fin hm5
      obtain ⟨-, -, -, -, -, r5⟩ := pc_rows hB5'
      repeat (first|apply cA|apply cE|apply cF)
      refine CG.tailg mixed 9 [0, 1, 2, 3, 4, 5, 7, 6, 8] [6] [] (fun _ => True) (by kernel_rfl) trivial (fun _ _ _ h => h) ?_
      repeat (refine cY rfl rfl rfl (by first|((first|apply qmv|apply qlc|apply qla|apply qfa|apply qnc)<;>(first|exact rfl|assumption|exact List.not_mem_nil|apply dc_length|apply pc_length))|fail) ?_)
      refine Der.callG (X := Option Addr × Nat) (vs := [pv p (.slice a p.held.length c)]) (fun q => pv p (.slice q.1 p.held.length q.2)) (fun q w' => (⟨p, q.1, q.2, side⟩ : Sh).At w') rfl rfl rfl rfl (by repeat' (first | exact True.intro | exact rho_of rfl | refine And.intro ?_ ?_)) (fun q w w' hk h => h.kp0 hk) (fun _ _ _ h => h) (fun W hk _ => (copied_spec (c := c) p ((hS.kp0 k5).kp0 hk) (by omega)).mono (fun e w' hh => ?_)) (fun q => ?_)
      · obtain ⟨v, he, ⟨s, rfl, ho⟩, hk'⟩ := hh
        obtain ⟨a', c', rfl, hc', hS'⟩ := Sl.own hc_length ho rfl
        exact ⟨(a', c'), he, ⟨hS', hc', Ty.own ho⟩, hk'⟩
      obtain ⟨q1, q2⟩ := q
      refine cY rfl rfl rfl (vals_build rfl (bsh p q1 q2 side)) ?_
      refine Der.tl (fun w6 hk6 hF _ => ?_)
      have hat : (⟨p, q1, q2, side⟩ : Sh).At w6 := hF.2
      have hH6 := hH5.kp0 hk6
      refine SG.mapUpdate (enc := dv (n := 8)) (V := shv) (kx := k) (vy := ⟨p, q1, q2, side⟩) rfl rfl (by exact rho_of rfl) (by exact rho_of rfl) (by exact rho_of rfl) hH6.sh BArr.key (fun w7 hk7 hm7 => ?_)
      repeat (first|apply cA|apply cB|apply cD|apply cE|apply cH|refine cV rfl rfl rfl rfl (by first|(apply qas<;>(exact rfl))|fail) ?_)
      refine ret1 (Or.inl rfl) Tryz.results9 (by first | exact ResV.tmp rfl | exact ResV.agg rfl rfl (by assumption) (by first | exact dc_length _ | exact nc_length _ | exact rc_length _ _ _ | exact ec_length _ | exact dl_length _ _ _ _ | rfl) | exact ResV.cell rfl rfl (by assumption)) ?_
      refine ⟨by rw [e], Or.inr ⟨e, (k5.trans hk6).any.trans hk7, q1, q2, hH6.setS hk7 hm7 (fun x hx => ?_) (fun x hx => ?_)⟩⟩
      · rcases aput_mem (x := x) hx with h | h
        · exact hH6.at' x h
        · rw [h]; exact hat
      · rcases aput_mem (x := x) hx with h | h
        · exact hH6.few x h
        · rw [h]; show p.held.length ≤ 16; omega
end Go.Proofs.YtajllbdeoopimaaGreat
namespace Go.Proofs.YtajllbdeoopimaaGreat
set_option linter.unusedVariables false
/-- A call that answers a purse, or a number that says why not. -/
abbrev Cl12 := {l : List Value // l.length = 12}
def zC : Cl12 := ⟨pc zPu (.slice none 0 0), pc_length _ _⟩
def gH (m : Nat) (p : Pu) (z : Int) : GD := ⟨Cl12, zC, fun l => .tuple #[.agg l.1.toArray, .int .i64 z], fun l w => (z = 0 → ∃ s, l.1 = pc p s ∧ w.ownsRow m 86 11 s p.held.length (flt hc p.held)) ∧ (z ≠ 0 → l.1 = pc zPu (.slice none 0 0))⟩
theorem gH_stab {m : Nat} {p : Pu} {z : Int} (x : (gH m p z).X) : Stab [] ((gH m p z).phi x) := fun w w' hk h => ⟨fun e => by
  obtain ⟨s, h1, h2⟩ := h.1 e
  exact ⟨s, h1, own_kp0 h2 hk⟩, h.2⟩
theorem gH_of {m : Nat} {p : Pu} {z : Int} {w : World} {v : Value} (h1 : z = 0 → PuAt m w v p) (h2 : z ≠ 0 → v = pv zPu (.slice none 0 0)) : ∃ x : Cl12, v = .agg x.1.toArray ∧ (gH m p z).phi x w := by
  by_cases e : z = 0
  · obtain ⟨s, h3, h4⟩ := h1 e
    exact ⟨⟨pc p s, pc_length _ _⟩, h3, fun _ => ⟨s, rfl, h4⟩, fun h => absurd e h⟩
  · exact ⟨zC, h2 e, fun h => absurd h e, fun _ => rfl⟩
theorem gH_one {m : Nat} {p : Pu} {z : Int} {w : World} {x : Cl12} (h : (gH m p z).phi x w) : allOne x.1 = true := by
  by_cases e : z = 0
  · obtain ⟨s, h3, h4⟩ := h.1 e
    obtain ⟨a, c, rfl, _, _⟩ := Sl.own hc_length h4 rfl
    rw [h3]
    exact pc_one _ _ _ _
  · rw [h.2 e]
    exact pc_one _ _ _ _
theorem gH_keep {m b : Nat} {p : Pu} {z : Int} {x : Cl12} {w w' : World} {cs : Array Value} (hb : Blk w b (.cells cs 47)) (hk : Kp [b] w w') (h : (gH m p z).phi x w) : (gH m p z).phi x w' := ⟨fun e => by
  obtain ⟨s, h1, h2⟩ := h.1 e
  exact ⟨s, h1, own_kp h2 hk (own_neb h2 (by decide) hb)⟩, h.2⟩
theorem nextP_held (p : Pu) : (nextP p).held = p.held := rfl
theorem chgZ_zero {p : Pu} {z : Int} (h : chgZ p z = 0) : z = 0 := by
  unfold chgZ at h
  split at h
  · contradiction
  · exact h
theorem hold_few {p : Pu} {h : Hd} (hz : chgZ p (holdE p h) = 0) : (nextP (holdQ p h)).held.length ≤ 16 := by
  have e := chgZ_zero hz
  have h1 : ¬ 16 ≤ p.held.length := by
    intro hc0
    unfold holdE at e
    rw [if_pos hc0] at e
    repeat (split at e; · cases e)
    cases e
  show (p.held ++ [h]).length ≤ 16
  rw [List.length_append]
  show p.held.length + 1 ≤ 16
  omega
theorem bhd' (w : World) (a0 a1 a2 a3 a4 a5 a6 a7 : UInt8) (x y z : Int) : (Instr.build 86 #[(0, .agg #[bv a0, bv a1, bv a2, bv a3, bv a4, bv a5, bv a6, bv a7]), (1, .int .i64 x), (2, .int .i64 y), (3, .int .i64 z)]).run Tryz.prog w = .ok (.agg #[bv a0, bv a1, bv a2, bv a3, bv a4, bv a5, bv a6, bv a7, .int .i64 x, .int .i64 y, .int .i64 z]) w := by kernel_rfl
theorem bhd (h : Hd) (w : World) : (Instr.build 86 #[(0, dv h.name), (1, .int .i64 h.amt), (2, .int .i64 h.side), (3, .int .i64 h.til)]).run Tryz.prog w = .ok (hv h) w := by
  obtain ⟨⟨l, hl⟩, x, y, z⟩ := h
  match l, hl with
  | [a0, a1, a2, a3, a4, a5, a6, a7], _ => exact bhd' w a0 a1 a2 a3 a4 a5 a6 a7 x y z
theorem bpr' (w : World) (a0 a1 a2 a3 a4 a5 a6 a7 b0 b1 b2 b3 b4 b5 b6 b7 c0 c1 c2 c3 c4 c5 c6 c7 : UInt8) (x y z : Int) : (Instr.build 68 #[(0, .agg #[bv a0, bv a1, bv a2, bv a3, bv a4, bv a5, bv a6, bv a7]), (1, .agg #[bv b0, bv b1, bv b2, bv b3, bv b4, bv b5, bv b6, bv b7]), (2, .agg #[bv c0, bv c1, bv c2, bv c3, bv c4, bv c5, bv c6, bv c7]), (3, .int .i64 x), (4, .int .i64 y), (5, .int .i64 z)]).run Tryz.prog w = .ok (.agg #[bv a0, bv a1, bv a2, bv a3, bv a4, bv a5, bv a6, bv a7, bv b0, bv b1, bv b2, bv b3, bv b4, bv b5, bv b6, bv b7, bv c0, bv c1, bv c2, bv c3, bv c4, bv c5, bv c6, bv c7, .int .i64 x, .int .i64 y, .int .i64 z]) w := by kernel_rfl
theorem bpr (r : Pr) (w : World) : (Instr.build 68 #[(0, dv r.name), (1, dv r.frm), (2, dv r.to), (3, .int .i64 r.amt), (4, .int .i64 r.inn), (5, .int .i64 r.out)]).run Tryz.prog w = .ok (prv r) w := by
  obtain ⟨⟨l, hl⟩, ⟨m, hm⟩, ⟨n, hn⟩, x, y, z⟩ := r
  match l, hl, m, hm, n, hn with
  | [a0, a1, a2, a3, a4, a5, a6, a7], _, [b0, b1, b2, b3, b4, b5, b6, b7], _, [c0, c1, c2, c3, c4, c5, c6, c7], _ => exact bpr' w a0 a1 a2 a3 a4 a5 a6 a7 b0 b1 b2 b3 b4 b5 b6 b7 c0 c1 c2 c3 c4 c5 c6 c7 x y z
def nearH (x : Sh) (n : Dg) (amt til : Int) : Hd := ⟨n, amt, 1 - x.side, til⟩
def farH (win : Int) (y : Sh) (n : Dg) (amt til : Int) : Hd := ⟨n, amt, y.side, til - win⟩
def fwdE (win : Int) (ms : Ms) (mp : Mp) (now : Int) (f t n : Dg) (amt til : Int) : Int :=
  if now < 0 ∨ 1099511627776 < now then 2 else match alook ms f, alook ms t with
  | some x, some y => if f = t then 1 else if (alook mp n).isSome then 7 else if til < now + win then 20
      else if chgZ x.p (holdE x.p (nearH x n amt til)) ≠ 0 then chgZ x.p (holdE x.p (nearH x n amt til)) else chgZ y.p (holdE y.p (farH win y n amt til))
  | _, _ => 9
def fwdX (x : Sh) (n : Dg) (amt til : Int) : Pu := nextP (holdQ x.p (nearH x n amt til))
def fwdY (win : Int) (y : Sh) (n : Dg) (amt til : Int) : Pu := nextP (holdQ y.p (farH win y n amt til))
def fwdR (win : Int) (f t n : Dg) (amt til : Int) : Pr := ⟨n, f, t, amt, til, til - win⟩
theorem alook_mem {κ ν : Type} [DecidableEq κ] {m : List (κ × ν)} {x : κ} {y : ν} (h : alook m x = some y) : (x, y) ∈ m := by
  induction m with
  | nil => cases h
  | cons p m ih =>
    obtain ⟨k, v⟩ := p
    simp only [alook] at h
    by_cases hk : k = x
    · rw [if_pos hk] at h
      cases h
      rw [hk]
      exact List.mem_cons_self
    · rw [if_neg hk] at h
      exact List.mem_cons_of_mem _ (ih h)
def FwdAt (w' : World) (bh bs bp : Nat) (win : Int) (ms : Ms) (mp : Mp) (f t n : Dg) (amt til : Int) : Prop := ∃ x y a1 c1 a2 c2, alook ms f = some x ∧ alook ms t = some y ∧ HubAt w' bh bs bp win (aput (aput ms f ⟨fwdX x n amt til, a1, c1, x.side⟩) t ⟨fwdY win y n amt til, a2, c2, y.side⟩) (aput mp n (fwdR win f t n amt til))
attribute [local irreducible] CG NG SG Vals Der Row Blk MapIs IterAt chkL DerR DerX
set_option maxHeartbeats 32000000 in
theorem forward_spec {w : World} {bh bs bp : Nat} {win : Int} {ms : Ms} {mp : Mp} (hH : HubAt w bh bs bp win ms mp) (now : Int) (f t n : Dg) (amt til : Int) (hwin : 0 ≤ win ∧ win ≤ 1048576) (hsd : ∀ x ∈ ms, 0 ≤ x.2.side ∧ x.2.side ≤ 1) (ht : til ≤ 9223372036854775807) :
    Calls Tryz.prog 17 #[.pointer (some ⟨bh, 0, none⟩), .int .i64 now, dv f, dv t, dv n, .int .i64 amt, .int .i64 til] w (fun e w' => e = .returned (.int .i64 (fwdE win ms mp now f t n amt til)) ∧ ((fwdE win ms mp now f t n amt til ≠ 0 ∧ Kp [] w w') ∨
      (fwdE win ms mp now f t n amt til = 0 ∧ Kp [bs, bp] w w' ∧ FwdAt w' bh bs bp win ms mp f t n amt til))) := by
  refine enterL (args := [.pointer (some ⟨bh, 0, none⟩), .int .i64 now, dv f, dv t, dv n, .int .i64 amt, .int .i64 til]) Tryz.func17 rfl Tryz.ntmps17 rfl ?_
  have fin : ∀ {z : Int} {w' : World}, Kp [] w w' → fwdE win ms mp now f t n amt til = z → z ≠ 0 → ((Ending.returned (.int .i64 z) = .returned (.int .i64 (fwdE win ms mp now f t n amt til))) ∧ ((fwdE win ms mp now f t n amt til ≠ 0 ∧ Kp [] w w') ∨
      (fwdE win ms mp now f t n amt til = 0 ∧ Kp [bs, bp] w w' ∧ FwdAt w' bh bs bp win ms mp f t n amt til))) := fun hk e hz => ⟨by rw [e], Or.inl ⟨by rw [e]; exact hz, hk⟩⟩
  have hwin' : Ar (0 ≤ win ∧ win ≤ 1048576) := ⟨hwin⟩
  clear hwin
  have ht' : Ar (til ≤ 9223372036854775807) := ⟨ht⟩
  clear ht
  repeat (first|apply cA|apply cB)
  refine SG.box rfl rfl rfl (by exact rho_of rfl) (fun b9 w1 hk1 hb9 hB9 => ?_)
  have hB9 : Blk w1 b9 (.cells (dc f).toArray 44) := hB9
  refine SG.box rfl rfl rfl (by exact rho_of rfl) (fun b10 w2 hk2 hb10 hB10 => ?_)
  have hB10 : Blk w2 b10 (.cells (dc t).toArray 44) := hB10
  refine SG.box rfl rfl rfl (by exact rho_of rfl) (fun b11 w3 hk3 hb11 hB11 => ?_)
  have hB11 : Blk w3 b11 (.cells (dc n).toArray 44) := hB11
  have k3 := (hk1.trans hk2).trans hk3
  have hB9 := (hB9.kp0 hk2).kp0 hk3
  have hB10 := hB10.kp0 hk3
  have hH3 := hH.kp0 k3
  clear hk1 hk2 hk3 hb9 hb10 hb11
  by_cases g1 : now < 0
  · have e : fwdE win ms mp now f t n amt til = 2 := if_pos (Or.inl g1)
    repeat (first|apply cA|apply cB|apply cD|apply cE|refine cV rfl rfl rfl rfl (by first|((first|apply qep|apply qmv|apply qas|apply qep)<;>(exact rfl))|fail) ?_)
    refine dB rfl (by exact rho_of rfl) rfl ?_
    repeat (first | first|apply cA|apply cB|apply cD|apply cE|apply cF|refine cV rfl rfl rfl rfl (by first|((first|apply qmv|apply qpk|apply qls)<;>(first|exact rfl|exact dct (by first|assumption|omega)|fail))|fail) ?_ | refine cX rfl rfl ?_)
    refine dA rfl (by exact rho_of rfl) rfl ?_
    repeat (first|apply cA|apply cB|apply cD|apply cE|apply cH|apply cK|refine cV rfl rfl rfl rfl (by first|(apply qas<;>(exact rfl))|fail) ?_)
    refine ret1 (Or.inl rfl) Tryz.results17 (by first | exact ResV.tmp rfl | exact ResV.agg rfl rfl (by assumption) (by first | exact dc_length _ | exact nc_length _ | exact rc_length _ _ _ | exact ec_length _ | exact dl_length _ _ _ _ | rfl) | exact ResV.cell rfl rfl (by assumption)) ?_
    exact fin k3 e (by decide)
  by_cases g2 : 1099511627776 < now
  · have e : fwdE win ms mp now f t n amt til = 2 := if_pos (Or.inr g2)
    repeat (first|apply cA|apply cB|apply cD|apply cE|refine cV rfl rfl rfl rfl (by first|((first|apply qep|apply qmv|apply qas|apply qep)<;>(exact rfl))|fail) ?_)
    refine dB rfl (by exact rho_of rfl) rfl ?_
    repeat (first|apply cA|apply cB|apply cD|apply cE|apply cF|refine cV rfl rfl rfl rfl (by first|((first|apply qmv|apply qpk|apply qls|apply qgt)<;>(first|exact rfl|exact dct (by first|assumption|omega)|exact dcf (by first|assumption|omega)|fail))|fail) ?_)
    refine dA rfl (by exact rho_of rfl) rfl ?_
    repeat (first|apply cA|apply cB|apply cD|apply cE|apply cH|apply cK|refine cV rfl rfl rfl rfl (by first|(apply qas<;>(exact rfl))|fail) ?_)
    refine ret1 (Or.inl rfl) Tryz.results17 (by first | exact ResV.tmp rfl | exact ResV.agg rfl rfl (by assumption) (by first | exact dc_length _ | exact nc_length _ | exact rc_length _ _ _ | exact ec_length _ | exact dl_length _ _ _ _ | rfl) | exact ResV.cell rfl rfl (by assumption)) ?_
    exact fin k3 e (by decide)
  have e0 : fwdE win ms mp now f t n amt til = (match alook ms f, alook ms t with
  | some x, some y => if f = t then 1 else if (alook mp n).isSome then 7 else if til < now + win then 20
      else if chgZ x.p (holdE x.p (nearH x n amt til)) ≠ 0 then chgZ x.p (holdE x.p (nearH x n amt til)) else chgZ y.p (holdE y.p (farH win y n amt til))
  | _, _ => 9) := if_neg (fun h => h.elim g1 g2)
  obtain ⟨-, r1, -⟩ := hH3.rows
  have hm3 := hH3.sh
  have hR9 : Row w3 b9 0 (dc f) := Row.all hB9 rfl
  repeat (first|apply cA|apply cB|apply cD|apply cE|refine cV rfl rfl rfl rfl (by first|((first|apply qep|apply qmv|apply qas|apply qep)<;>(exact rfl))|fail) ?_)
  refine dB rfl (by exact rho_of rfl) rfl ?_
  repeat (first|apply cA|apply cB|apply cD|apply cE|apply cF|refine cV rfl rfl rfl rfl (by first|((first|apply qmv|apply qpk|apply qls|apply qgt)<;>(first|exact rfl|exact dcf (by first|assumption|omega)|fail))|fail) ?_)
  refine dB rfl (by exact rho_of rfl) rfl ?_
  cases hf : alook ms f with
  | none =>
    have e : fwdE win ms mp now f t n amt til = 9 := by rw [e0, hf]
    repeat (first|apply cA|apply cE|apply cF)
    refine CG.drawv mixed [0, 1, 2, 3, 4, 5, 6, 7, 8, 11] [(9, 10, 15, .tmp 39)] (by kernel_rfl) (by kernel_rfl) ?_
    repeat (refine cY rfl rfl rfl (by first|((first|apply qmv|apply qas|apply qlc|apply qla|apply qfa|apply qnc|apply qlk|apply qxt)<;>(first|exact rfl|assumption|exact List.not_mem_nil|apply dc_length|exact lk0 (by assumption)|fail))|fail) ?_)
    refine Der.one (VrOk.of (by rfl) rfl rfl rfl (by exact rho_of rfl) (by rfl) (by rfl) (by rfl)) (fun b15 w4 hk4 hb15 hB15 => ?_)
    have hH4 := hH3.kp0 hk4
    have hR10 : Row w4 b10 0 (dc t) := Row.all (hB10.kp0 hk4) rfl
    clear r1 hm3
    obtain ⟨-, r1, -⟩ := hH4.rows
    have hm4 := hH4.sh
    cases ht2 : alook ms t with
    | none =>
      repeat (first|apply cA|apply cE)
      refine CG.drawv mixed [0, 1, 2, 3, 4, 5, 6, 7, 8, 11] [(9, 10, 17, .tmp 48)] (by kernel_rfl) (by kernel_rfl) ?_
      repeat (refine cY rfl rfl rfl (by first|((first|apply qmv|apply qas|apply qlc|apply qla|apply qfa|apply qnc|apply qlk|apply qxt)<;>(first|exact rfl|assumption|exact List.not_mem_nil|apply dc_length|exact lk0 (by assumption)|fail))|fail) ?_)
      refine Der.one (VrOk.of (by rfl) rfl rfl rfl (by exact rho_of rfl) (by rfl) (by rfl) (by rfl)) (fun b17 w5 hk5 hb17 hB17 => ?_)
      repeat (first | first|apply cA|apply cB|apply cD|apply cE|refine cV rfl rfl rfl rfl (by first|((first|apply qmv|apply qpk|apply qnt)<;>(exact rfl))|fail) ?_ | refine cX rfl rfl ?_)
      refine dA rfl (by exact rho_of rfl) rfl ?_
      repeat (first|apply cA|apply cB|apply cD|apply cE|apply cH|apply cK|refine cV rfl rfl rfl rfl (by first|(apply qas<;>(exact rfl))|fail) ?_)
      refine ret1 (Or.inl rfl) Tryz.results17 (by first | exact ResV.tmp rfl | exact ResV.agg rfl rfl (by assumption) (by first | exact dc_length _ | exact nc_length _ | exact rc_length _ _ _ | exact ec_length _ | exact dl_length _ _ _ _ | rfl) | exact ResV.cell rfl rfl (by assumption)) ?_
      exact fin ((k3.trans hk4).trans hk5) e (by decide)
    | some y =>
      repeat (first|apply cA|apply cE)
      refine CG.drawv mixed [0, 1, 2, 3, 4, 5, 6, 7, 8, 11] [(9, 10, 17, .tmp 48)] (by kernel_rfl) (by kernel_rfl) ?_
      repeat (refine cY rfl rfl rfl (by first|((first|apply qmv|apply qas|apply qlc|apply qla|apply qfa|apply qnc|apply qlk|apply qxt)<;>(first|exact rfl|assumption|exact List.not_mem_nil|apply dc_length|exact lk1 (by assumption)|fail))|fail) ?_)
      refine Der.one (VrOk.of (by rfl) rfl rfl rfl (by exact rho_of rfl) (by exact shc_length y) (by rfl) (by exact shc_one y)) (fun b17 w5 hk5 hb17 hB17 => ?_)
      repeat (first | first|apply cA|apply cB|apply cD|apply cE|refine cV rfl rfl rfl rfl (by first|((first|apply qmv|apply qpk|apply qnt)<;>(exact rfl))|fail) ?_ | refine cX rfl rfl ?_)
      refine dA rfl (by exact rho_of rfl) rfl ?_
      repeat (first|apply cA|apply cB|apply cD|apply cE|apply cH|apply cK|refine cV rfl rfl rfl rfl (by first|(apply qas<;>(exact rfl))|fail) ?_)
      refine ret1 (Or.inl rfl) Tryz.results17 (by first | exact ResV.tmp rfl | exact ResV.agg rfl rfl (by assumption) (by first | exact dc_length _ | exact nc_length _ | exact rc_length _ _ _ | exact ec_length _ | exact dl_length _ _ _ _ | rfl) | exact ResV.cell rfl rfl (by assumption)) ?_
      exact fin ((k3.trans hk4).trans hk5) e (by decide)
  | some x =>
  repeat (first|apply cA|apply cE|apply cF)
  refine CG.drawv mixed [0, 1, 2, 3, 4, 5, 6, 7, 8, 11] [(9, 10, 15, .tmp 39)] (by kernel_rfl) (by kernel_rfl) ?_
  repeat (refine cY rfl rfl rfl (by first|((first|apply qmv|apply qas|apply qlc|apply qla|apply qfa|apply qnc|apply qlk|apply qxt)<;>(first|exact rfl|assumption|exact List.not_mem_nil|apply dc_length|exact lk1 (by assumption)|fail))|fail) ?_)
  refine Der.one (VrOk.of (by rfl) rfl rfl rfl (by exact rho_of rfl) (by exact shc_length x) (by rfl) (by exact shc_one x)) (fun b15 w4 hk4 hb15 hB15 => ?_)
  have hB15 : Blk w4 b15 (.cells (shc x).toArray 72) := hB15
  have hH4 := hH3.kp0 hk4
  have hB10 := hB10.kp0 hk4
  have hB9 := hB9.kp0 hk4
  have hB11 := hB11.kp0 hk4
  have k4 := k3.trans hk4
  have hR10 : Row w4 b10 0 (dc t) := Row.all hB10 rfl
  clear r1 hm3 hR9
  obtain ⟨-, r1, -⟩ := hH4.rows
  have hm4 := hH4.sh
  cases ht2 : alook ms t with
  | none =>
    have e : fwdE win ms mp now f t n amt til = 9 := by rw [e0, hf, ht2]
    repeat (first|apply cA|apply cE)
    refine CG.drawv mixed [0, 1, 2, 3, 4, 5, 6, 7, 8, 11] [(9, 10, 17, .tmp 48)] (by kernel_rfl) (by kernel_rfl) ?_
    repeat (refine cY rfl rfl rfl (by first|((first|apply qmv|apply qas|apply qlc|apply qla|apply qfa|apply qnc|apply qlk|apply qxt)<;>(first|exact rfl|assumption|exact List.not_mem_nil|apply dc_length|exact lk0 (by assumption)|fail))|fail) ?_)
    refine Der.one (VrOk.of (by rfl) rfl rfl rfl (by exact rho_of rfl) (by rfl) (by rfl) (by rfl)) (fun b17 w5 hk5 hb17 hB17 => ?_)
    repeat (first|apply cA|apply cB|apply cD|apply cE|refine cV rfl rfl rfl rfl (by first|((first|apply qmv|apply qpk|apply qnt)<;>(exact rfl))|fail) ?_)
    refine dA rfl (by exact rho_of rfl) rfl ?_
    repeat (first|apply cA|apply cB|apply cD|apply cE|apply cH|apply cK|refine cV rfl rfl rfl rfl (by first|(apply qas<;>(exact rfl))|fail) ?_)
    refine ret1 (Or.inl rfl) Tryz.results17 (by first | exact ResV.tmp rfl | exact ResV.agg rfl rfl (by assumption) (by first | exact dc_length _ | exact nc_length _ | exact rc_length _ _ _ | exact ec_length _ | exact dl_length _ _ _ _ | rfl) | exact ResV.cell rfl rfl (by assumption)) ?_
    exact fin (k4.trans hk5) e (by decide)
  | some y =>
  repeat (first|apply cA|apply cE)
  refine CG.drawv mixed [0, 1, 2, 3, 4, 5, 6, 7, 8, 11] [(9, 10, 17, .tmp 48)] (by kernel_rfl) (by kernel_rfl) ?_
  repeat (refine cY rfl rfl rfl (by first|((first|apply qmv|apply qas|apply qlc|apply qla|apply qfa|apply qnc|apply qlk|apply qxt)<;>(first|exact rfl|assumption|exact List.not_mem_nil|apply dc_length|exact lk1 (by assumption)|fail))|fail) ?_)
  refine Der.one (VrOk.of (by rfl) rfl rfl rfl (by exact rho_of rfl) (by exact shc_length y) (by rfl) (by exact shc_one y)) (fun b17 w5 hk5 hb17 hB17 => ?_)
  have hB17 : Blk w5 b17 (.cells (shc y).toArray 72) := hB17
  have hH5 := hH4.kp0 hk5
  have hB9 := hB9.kp0 hk5
  have hB10 := hB10.kp0 hk5
  have hB11 := hB11.kp0 hk5
  have hB15 := hB15.kp0 hk5
  have k5 := k4.trans hk5
  clear r1 hm4 hR10
  have hR9 : Row w5 b9 0 (dc f) := Row.all hB9 rfl
  have hR10 : Row w5 b10 0 (dc t) := Row.all hB10 rfl
  repeat (first|apply cA|apply cB|apply cD|apply cE|refine cV rfl rfl rfl rfl (by first|((first|apply qmv|apply qpk|apply qnt)<;>(exact rfl))|fail) ?_)
  refine dB rfl (by exact rho_of rfl) rfl ?_
  by_cases gft : f = t
  · have e : fwdE win ms mp now f t n amt til = 1 := by rw [e0, hf, ht2]; exact if_pos gft
    repeat (first|apply cA|apply cB|apply cD|apply cE|apply cF|refine cV rfl rfl rfl rfl (by first|((first|apply qla|apply qed)<;>(first|exact rfl|assumption|exact dct (by first|assumption|omega)|exact List.not_mem_nil|apply dc_length|fail))|fail) ?_)
    refine dA rfl (by exact rho_of rfl) rfl ?_
    repeat (first|apply cA|apply cB|apply cD|apply cE|apply cH|apply cK|refine cV rfl rfl rfl rfl (by first|(apply qas<;>(exact rfl))|fail) ?_)
    refine ret1 (Or.inl rfl) Tryz.results17 (by first | exact ResV.tmp rfl | exact ResV.agg rfl rfl (by assumption) (by first | exact dc_length _ | exact nc_length _ | exact rc_length _ _ _ | exact ec_length _ | exact dl_length _ _ _ _ | rfl) | exact ResV.cell rfl rfl (by assumption)) ?_
    exact fin k5 e (by decide)
  have gft' : ¬ dc f = dc t := fun h => gft (dc_inj h)
  obtain ⟨-, -, r2⟩ := hH5.rows
  have hm5 := hH5.pr
  have hR11 : Row w5 b11 0 (dc n) := Row.all hB11 rfl
  repeat (first|apply cA|apply cB|apply cD|apply cE|apply cF|refine cV rfl rfl rfl rfl (by first|((first|apply qla|apply qed)<;>(first|exact rfl|assumption|exact dcf (by first|assumption|omega)|exact List.not_mem_nil|apply dc_length|fail))|fail) ?_)
  refine dB rfl (by exact rho_of rfl) rfl ?_
  cases hn2 : alook mp n with
  | some r =>
    have e : fwdE win ms mp now f t n amt til = 7 := by rw [e0, hf, ht2, hn2]; simp [gft]
    repeat (first|apply cA|apply cE|apply cF)
    refine CG.drawv mixed [0, 1, 2, 3, 4, 5, 6, 7, 8, 11] [(9, 10, 19, .tmp 66)] (by kernel_rfl) (by kernel_rfl) ?_
    repeat (refine cY rfl rfl rfl (by first|((first|apply qmv|apply qas|apply qlc|apply qla|apply qfa|apply qnc|apply qlk|apply qxt)<;>(first|exact rfl|assumption|exact List.not_mem_nil|apply dc_length|exact lk1 (by assumption)|fail))|fail) ?_)
    refine Der.one (VrOk.of (by rfl) rfl rfl rfl (by exact rho_of rfl) (by exact prc_length r) (by rfl) (by exact prc_one r)) (fun b19 w6 hk6 hb19 hB19 => ?_)
    repeat (first|apply cA|apply cB|apply cD|apply cE|refine cV rfl rfl rfl rfl (by first|(apply qmv<;>(exact rfl))|fail) ?_)
    refine dA rfl (by exact rho_of rfl) rfl ?_
    repeat (first|apply cA|apply cB|apply cD|apply cE|apply cH|apply cK|refine cV rfl rfl rfl rfl (by first|(apply qas<;>(exact rfl))|fail) ?_)
    refine ret1 (Or.inl rfl) Tryz.results17 (by first | exact ResV.tmp rfl | exact ResV.agg rfl rfl (by assumption) (by first | exact dc_length _ | exact nc_length _ | exact rc_length _ _ _ | exact ec_length _ | exact dl_length _ _ _ _ | rfl) | exact ResV.cell rfl rfl (by assumption)) ?_
    exact fin (k5.trans hk6) e (by decide)
  | none =>
  repeat (first|apply cA|apply cE|apply cF)
  refine CG.drawv mixed [0, 1, 2, 3, 4, 5, 6, 7, 8, 11] [(9, 10, 19, .tmp 66)] (by kernel_rfl) (by kernel_rfl) ?_
  repeat (refine cY rfl rfl rfl (by first|((first|apply qmv|apply qas|apply qlc|apply qla|apply qfa|apply qnc|apply qlk|apply qxt)<;>(first|exact rfl|assumption|exact List.not_mem_nil|apply dc_length|exact lk0 (by assumption)|fail))|fail) ?_)
  refine Der.one (VrOk.of (by rfl) rfl rfl rfl (by exact rho_of rfl) (by rfl) (by rfl) (by rfl)) (fun b19 w6 hk6 hb19 hB19 => ?_)
  clear r2 hm5 hR9 hR10 hR11 hb19 hB19
  have hH6 := hH5.kp0 hk6
  have hB9 := hB9.kp0 hk6
  have hB10 := hB10.kp0 hk6
  have hB11 := hB11.kp0 hk6
  have hB15 := hB15.kp0 hk6
  have hB17 := hB17.kp0 hk6
  have k6 := k5.trans hk6
  obtain ⟨r0, -, -⟩ := hH6.rows
  obtain ⟨w1', w2'⟩ := hwin'.1
  have ht3 := ht'.1
  repeat (first|apply cA|apply cB|apply cD|apply cE|refine cV rfl rfl rfl rfl (by first|(apply qmv<;>(exact rfl))|fail) ?_)
  refine dB rfl (by exact rho_of rfl) rfl ?_
  by_cases g3 : til < now + win
  · have e : fwdE win ms mp now f t n amt til = 20 := by rw [e0, hf, ht2, hn2]; simp [gft, g3]
    repeat (first|apply cA|apply cB|apply cD|apply cE|apply cF|refine cV rfl rfl rfl rfl (by first|((first|apply qmv|apply qlc|apply qfa|apply qnc|apply qls|apply qad)<;>(first|exact rfl|assumption|exact Ar.mk (by omega)|exact dct (by first|assumption|omega)|exact List.not_mem_nil|fail))|fail) ?_)
    refine dA rfl (by exact rho_of rfl) rfl ?_
    repeat (first|apply cA|apply cB|apply cD|apply cE|apply cH|apply cK|refine cV rfl rfl rfl rfl (by first|(apply qas<;>(exact rfl))|fail) ?_)
    refine ret1 (Or.inl rfl) Tryz.results17 (by first | exact ResV.tmp rfl | exact ResV.agg rfl rfl (by assumption) (by first | exact dc_length _ | exact nc_length _ | exact rc_length _ _ _ | exact ec_length _ | exact dl_length _ _ _ _ | rfl) | exact ResV.cell rfl rfl (by assumption)) ?_
    exact fin k6 e (by decide)
  have e1 : fwdE win ms mp now f t n amt til = if chgZ x.p (holdE x.p (nearH x n amt til)) ≠ 0 then chgZ x.p (holdE x.p (nearH x n amt til)) else chgZ y.p (holdE y.p (farH win y n amt til)) := by rw [e0, hf, ht2, hn2]; simp [gft, g3]
  have hx := hH6.at' (f, x) (alook_mem hf)
  have hy := hH6.at' (t, y) (alook_mem ht2)
  have hx16 := hH6.few (f, x) (alook_mem hf)
  have hy16 := hH6.few (t, y) (alook_mem ht2)
  obtain ⟨hs1, hs2⟩ := hsd (f, x) (alook_mem hf)
  simp only at hx hy hx16 hy16 hs1 hs2
  have hR11 : Row w6 b11 0 (dc n) := Row.all hB11 rfl
  obtain ⟨-, q1, q2, -⟩ := shc_rows hB15
  repeat (first|apply cA|apply cB|apply cD|apply cE|apply cF|refine cV rfl rfl rfl rfl (by first|((first|apply qmv|apply qlc|apply qfa|apply qnc|apply qls|apply qad)<;>(first|exact rfl|assumption|exact Ar.mk (by omega)|exact dcf (by first|assumption|omega)|exact List.not_mem_nil|fail))|fail) ?_)
  refine dB rfl (by exact rho_of rfl) rfl ?_
  repeat (first|apply cA|apply cB|apply cE|apply cF|refine cV rfl rfl rfl rfl (by first|((first|apply qmv|apply qlc|apply qla|apply qfa|apply qsb)<;>(first|exact rfl|assumption|exact Ar.mk (by omega)|exact List.not_mem_nil|apply dc_length|apply pc_length|fail))|fail) ?_)
  refine cV rfl rfl rfl rfl (vals_build rfl (bhd (nearH x n amt til))) ?_
  refine SG.call rfl rfl rfl (vs := [pv x.p (.slice x.a x.p.held.length x.c), hv (nearH x n amt til)]) (by repeat' (first | exact True.intro | exact rho_of rfl | refine And.intro ?_ ?_)) ((hold_spec x.p (nearH x n amt til) hx.sl (by omega) hx.cap).mono (fun e' w7 hh => ?_))
  obtain ⟨v7, he, hk7, h1, h2⟩ := hh
  refine ⟨_, he, ?_⟩
  clear he
  have k7 := k6.trans hk7
  have hH7 := hH6.kp0 hk7
  have hB9 := hB9.kp0 hk7
  have hB10 := hB10.kp0 hk7
  have hB11 := hB11.kp0 hk7
  have hB17 := hB17.kp0 hk7
  clear q1 q2 hR11 r0
  by_cases gz : chgZ x.p (holdE x.p (nearH x n amt til)) = 0
  rotate_left
  · have e : fwdE win ms mp now f t n amt til = chgZ x.p (holdE x.p (nearH x n amt til)) := by rw [e1, if_pos gz]
    have hv := h2 gz
    subst hv
    generalize chgZ x.p (holdE x.p (nearH x n amt til)) = z at gz e
    repeat (first|refine cV rfl rfl rfl rfl (by first|((first|apply qmv|apply qxt)<;>(exact rfl))|fail) ?_)
    refine SG.alloc rfl rfl rfl (fun b21 w8 hk8 hb21 hB21 => ?_)
    refine SG.setAll (l := pc zPu (.slice none 0 0)) rfl rfl (by exact rho_of rfl) (by exact rho_of rfl) hB21 (pc_length _ _) rfl (pc_one _ _ _ _) (fun w9 hk9 hB21 => ?_)
    repeat (first|apply cA|apply cB|apply cD|apply cE|refine cV rfl rfl rfl rfl (by first|((first|apply qmv|apply qas|apply qni)<;>(first|exact rfl|exact dcf (by first|assumption|omega)|fail))|fail) ?_)
    refine dA rfl (by exact rho_of rfl) rfl ?_
    repeat (first|apply cA|apply cB|apply cD|apply cE|apply cH|apply cK|refine cV rfl rfl rfl rfl (by first|((first|apply qmv|apply qas)<;>(exact rfl))|fail) ?_)
    refine ret1 (Or.inl rfl) Tryz.results17 (by first | exact ResV.tmp rfl | exact ResV.agg rfl rfl (by assumption) (by first | exact dc_length _ | exact nc_length _ | exact rc_length _ _ _ | exact ec_length _ | exact dl_length _ _ _ _ | rfl) | exact ResV.cell rfl rfl (by assumption)) ?_
    exact fin (k7.trans (hk8.trans_new hk9 (new1 (by omega)))) e gz
  obtain ⟨s7, rfl, ho7⟩ := h1 gz
  obtain ⟨a7, c7, rfl, hc7, hS7⟩ := Sl.own hc_length ho7 rfl
  have hT7 : Ty 86 w7 a7 (fwdX x n amt til).held := Ty.own ho7
  rw [gz]
  clear h1 h2
  repeat (first|refine cV rfl rfl rfl rfl (by first|((first|apply qmv|apply qxt)<;>(exact rfl))|fail) ?_)
  refine SG.alloc rfl rfl rfl (fun b21 w8 hk8 hb21 hB21 => ?_)
  refine SG.setAll (l := pc (fwdX x n amt til) (.slice a7 (fwdX x n amt til).held.length c7)) rfl rfl (by exact rho_of rfl) (by exact rho_of rfl) hB21 (pc_length _ _) rfl (pc_one _ _ _ _) (fun w9 hk9 hB21 => ?_)
  have k79 : Kp [] w7 w9 := hk8.trans_new hk9 (new1 (by omega))
  have hB21 : Blk w9 b21 (.cells (pc (fwdX x n amt til) (.slice a7 (fwdX x n amt til).held.length c7)).toArray 47) := hB21
  have hat9 : (⟨fwdX x n amt til, a7, c7, x.side⟩ : Sh).At w9 := (Sh.At.mk hS7 hc7 hT7).kp0 k79
  have k9 := k7.trans k79
  have hH9 := hH7.kp0 k79
  have hB9 := hB9.kp0 k79
  have hB10 := hB10.kp0 k79
  have hB11 := hB11.kp0 k79
  have hB17 := hB17.kp0 k79
  clear hS7 hT7 ho7 hb21 hk8 hk9
  obtain ⟨r0, -, -⟩ := hH9.rows
  have hR11 : Row w9 b11 0 (dc n) := Row.all hB11 rfl
  obtain ⟨-, q1, q2, -⟩ := shc_rows hB17
  have hy9 := hy.kp0 (hk7.trans k79)
  have g3' : now + win ≤ til := by omega
  repeat (first|apply cA|apply cB|apply cD|apply cE|refine cV rfl rfl rfl rfl (by first|((first|apply qmv|apply qas|apply qni)<;>(first|exact rfl|exact dct (by first|assumption|omega)|fail))|fail) ?_)
  refine dB rfl (by exact rho_of rfl) rfl ?_
  repeat (first|apply cA|apply cE|apply cF)
  refine CG.free mixed 19 [0, 1, 2, 3, 4, 5, 6, 7, 8, 9, 10, 11, 12, 13, 14, 15, 16, 17, 18] [(13, gH w9.heap.size (fwdY win y n amt til) (chgZ y.p (holdE y.p (farH win y n amt til)))), (17, gV w9.heap.size 47 12), (18, gP w9.heap.size 47)] (by kernel_rfl) (by intro p hp y; simp at hp; rcases hp with rfl | rfl | rfl; exact gH_stab y; exact gV_stab y; exact gP_stab y) ?_
  repeat (refine cZ rfl rfl rfl rfl (by first|((first|apply qmv|apply qlc|apply qla|apply qfa|apply qnc|apply qsb)<;>(first|exact rfl|assumption|exact Ar.mk (by omega)|exact List.not_mem_nil|apply dc_length|apply pc_length|fail))|fail) ?_)
  refine cZ rfl rfl rfl rfl (vals_build rfl (bhd (farH win y n amt til))) ?_
  refine DerX.callE (vs := [pv y.p (.slice y.a y.p.held.length y.c), hv (farH win y n amt til)]) (gH w9.heap.size (fwdY win y n amt til) (chgZ y.p (holdE y.p (farH win y n amt til)))) rfl rfl rfl rfl (by repeat' (first | exact True.intro | exact rho_of rfl | refine And.intro ?_ ?_)) (fun W hk _ => (hold_spec y.p (farH win y n amt til) (hy9.sl.kp0 hk) (by omega) hy9.cap).mono (fun e w' hh => ?_)) (fun v' => ?_)
  · obtain ⟨v, he, hk', h1, h2⟩ := hh
    obtain ⟨x', h3, h4⟩ := gH_of (m := w9.heap.size) (p := fwdY win y n amt til) (fun hz => by obtain ⟨s, h5, h6⟩ := h1 hz; exact ⟨s, h5, own_mono h6 hk.size⟩) h2
    exact ⟨x', by rw [he, h3]; rfl, h4, hk'⟩
  repeat (refine cZ rfl rfl rfl rfl (by first|((first|apply qmv|apply qxt)<;>(exact rfl))|fail) ?_)
  refine DerX.allocV rfl rfl rfl rfl rfl (Nat.le_refl _) (fun b23 => ?_)
  refine DerX.storeV (l := v'.1) rfl rfl rfl rfl (by kernel_rfl) (by exact rho_of rfl) (by exact rho_of rfl) v'.2 (Nat.le_refl _) (fun w hk hF => ⟨hF _ (.head _) (by kernel_rfl), gH_one (w := w) (hF _ (.tail _ (.head _)) (by kernel_rfl))⟩) ?_ ?_
  · intro p hp hne y w w' cs g1 g2 g3 g4 g5
    simp only [List.mem_cons, List.not_mem_nil, or_false] at hp
    rcases hp with rfl | rfl | rfl
    · exact gH_keep g1 g3 g5
    · exact gV_keep v'.2 g3 g4 g5
    · exact absurd rfl hne
  refine DerX.tl (fun w10 hk10 hF => ?_)
  have hB23 : w9.heap.size ≤ b23 ∧ Blk w10 b23 (.cells v'.1.toArray 47) := hF _ (.head _)
  have hg10 := hF _ (.tail _ (.tail _ (.head _)))
  clear hF
  have k10 := k9.trans hk10
  have hH10 := hH9.kp0 hk10
  have hB9 := hB9.kp0 hk10
  have hB10 := hB10.kp0 hk10
  have hB11 := hB11.kp0 hk10
  have hB21 := hB21.kp0 hk10
  have hB23 := hB23.2
  have hat10 := hat9.kp0 hk10
  clear q1 q2 hR11 r0
  by_cases gy : chgZ y.p (holdE y.p (farH win y n amt til)) = 0
  rotate_left
  · have e : fwdE win ms mp now f t n amt til = chgZ y.p (holdE y.p (farH win y n amt til)) := by rw [e1, if_neg (fun h => h gz)]
    generalize chgZ y.p (holdE y.p (farH win y n amt til)) = z at gy e
    repeat (first|apply cA|apply cB|apply cD|apply cE|refine cV rfl rfl rfl rfl (by first|((first|apply qmv|apply qas|apply qni)<;>(first|exact rfl|exact dcf (by first|assumption|omega)|fail))|fail) ?_)
    refine dA rfl (by exact rho_of rfl) rfl ?_
    repeat (first|apply cA|apply cB|apply cD|apply cE|apply cH|apply cK|refine cV rfl rfl rfl rfl (by first|((first|apply qmv|apply qas)<;>(exact rfl))|fail) ?_)
    refine ret1 (Or.inl rfl) Tryz.results17 (by first | exact ResV.tmp rfl | exact ResV.agg rfl rfl (by assumption) (by first | exact dc_length _ | exact nc_length _ | exact rc_length _ _ _ | exact ec_length _ | exact dl_length _ _ _ _ | rfl) | exact ResV.cell rfl rfl (by assumption)) ?_
    exact fin k10 e gy
  have e : fwdE win ms mp now f t n amt til = 0 := by rw [e1, if_neg (fun h => h gz), gy]
  obtain ⟨s10, h3, ho10⟩ := hg10.1 gy
  obtain ⟨a10, c10, rfl, hc10, hS10⟩ := Sl.own hc_length ho10 rfl
  have hT10 : Ty 86 w10 a10 (fwdY win y n amt til).held := Ty.own ho10
  have hat10' : (⟨fwdY win y n amt til, a10, c10, y.side⟩ : Sh).At w10 := ⟨hS10, hc10, hT10⟩
  rw [h3] at hB23
  rw [gy]
  clear hg10 h3 fin ho10 hT10 hS10
  have lx : (fwdX x n amt til).held.length ≤ 16 := hold_few gz
  have ly : (fwdY win y n amt til).held.length ≤ 16 := hold_few gy
  have hR9 : Row w10 b9 0 (dc f) := Row.all hB9 rfl
  have hR21 : Row w10 b21 0 (pc (fwdX x n amt til) (.slice a7 (fwdX x n amt til).held.length c7)) := Row.all hB21 rfl
  repeat (first|apply cA|apply cB|apply cD|apply cE|refine cV rfl rfl rfl rfl (by first|((first|apply qmv|apply qas|apply qni)<;>(first|exact rfl|exact dct (by first|assumption|omega)|fail))|fail) ?_)
  refine dB rfl (by exact rho_of rfl) rfl ?_
  repeat (first|apply cA|apply cB|apply cE|apply cF|refine cV rfl rfl rfl rfl (by first|((first|apply qmv|apply qla)<;>(first|exact rfl|assumption|exact List.not_mem_nil|apply dc_length|apply pc_length))|fail) ?_)
  refine SG.call rfl rfl rfl (vs := [.pointer (some ⟨bh, 0, none⟩), dv f, pv (fwdX x n amt til) (.slice a7 (fwdX x n amt til).held.length c7)]) (by repeat' (first | exact True.intro | exact rho_of rfl | refine And.intro ?_ ?_)) ((put_spec hH10 f (fwdX x n amt til) a7 c7 hf hat10 lx).mono (fun e' w11 hh => ?_))
  obtain ⟨he, hk11, hH11⟩ := hh
  refine ⟨_, he, ?_⟩
  clear he hR9 hR21
  have nbs : ∀ {z : Nat} {cs : Array Value} {T : TypeId}, Blk w10 z (.cells cs T) → z ≠ bs := fun h => hH10.sh.nb h.raw
  have hB9 := hB9.kp hk11 (nm1 (nbs hB9))
  have hB10 := hB10.kp hk11 (nm1 (nbs hB10))
  have hB11 := hB11.kp hk11 (nm1 (nbs hB11))
  have hB23 := hB23.kp hk11 (nm1 (nbs hB23))
  have hat11 := hat10'.map hH10.sh hk11
  have hR10 : Row w11 b10 0 (dc t) := Row.all hB10 rfl
  have hR23 : Row w11 b23 0 (pc (fwdY win y n amt til) (.slice a10 (fwdY win y n amt til).held.length c10)) := Row.all hB23 rfl
  have ht3' : alook (aput ms f ⟨fwdX x n amt til, a7, c7, x.side⟩) t = some y := by rw [alook_put, if_neg gft, ht2]
  repeat (first|apply cA|apply cB|apply cD|apply cE|refine cV rfl rfl rfl rfl (by first|((first|apply qmv|apply qla)<;>(first|exact rfl|assumption|exact List.not_mem_nil|apply dc_length|apply pc_length))|fail) ?_)
  refine SG.call rfl rfl rfl (vs := [.pointer (some ⟨bh, 0, none⟩), dv t, pv (fwdY win y n amt til) (.slice a10 (fwdY win y n amt til).held.length c10)]) (by repeat' (first | exact True.intro | exact rho_of rfl | refine And.intro ?_ ?_)) ((put_spec hH11 t (fwdY win y n amt til) a10 c10 ht3' hat11 ly).mono (fun e' w12 hh => ?_))
  obtain ⟨he, hk12, hH12⟩ := hh
  refine ⟨_, he, ?_⟩
  clear he hR10 hR23
  have nbs : ∀ {z : Nat} {cs : Array Value} {T : TypeId}, Blk w11 z (.cells cs T) → z ≠ bs := fun h => hH11.sh.nb h.raw
  have hB9 := hB9.kp hk12 (nm1 (nbs hB9))
  have hB10 := hB10.kp hk12 (nm1 (nbs hB10))
  have hB11 := hB11.kp hk12 (nm1 (nbs hB11))
  have hR9 : Row w12 b9 0 (dc f) := Row.all hB9 rfl
  have hR10 : Row w12 b10 0 (dc t) := Row.all hB10 rfl
  have hR11 : Row w12 b11 0 (dc n) := Row.all hB11 rfl
  obtain ⟨r0, -, r2⟩ := hH12.rows
  repeat (first|apply cA|apply cD|apply cE)
  refine CG.tail mixed 17 [0, 1, 2, 3, 4, 5, 6, 7, 8, 9, 10, 11, 12, 13, 14, 15, 16] (by kernel_rfl) ?_
  repeat (refine cY rfl rfl rfl (by first|((first|apply qmv|apply qlc|apply qla|apply qfa|apply qnc|apply qsb)<;>(first|exact rfl|assumption|exact Ar.mk (by omega)|exact List.not_mem_nil|apply dc_length|fail))|fail) ?_)
  refine cY rfl rfl rfl (vals_build rfl (bpr (fwdR win f t n amt til))) ?_
  refine Der.tl (fun w13 hk13 _ _ => ?_)
  have hH13 := hH12.kp0 hk13
  refine SG.mapUpdate (enc := dv (n := 8)) (V := prv) (kx := n) (vy := fwdR win f t n amt til) rfl rfl (by exact rho_of rfl) (by exact rho_of rfl) (by exact rho_of rfl) hH13.pr BArr.key (fun w14 hk14 hm14 => ?_)
  repeat (first|apply cA|apply cB|apply cD|apply cE|apply cH|refine cV rfl rfl rfl rfl (by first|(apply qas<;>(exact rfl))|fail) ?_)
  refine ret1 (Or.inl rfl) Tryz.results17 (by first | exact ResV.tmp rfl | exact ResV.agg rfl rfl (by assumption) (by first | exact dc_length _ | exact nc_length _ | exact rc_length _ _ _ | exact ec_length _ | exact dl_length _ _ _ _ | rfl) | exact ResV.cell rfl rfl (by assumption)) ?_
  have kk : ∀ {u u' : World} {z : Nat}, Kp [z] u u' → z = bs ∨ z = bp → Kp [bs, bp] u u' := fun h hz => h.mono (fun v hv => by rw [List.mem_singleton] at hv; subst hv; rcases hz with rfl | rfl <;> simp)
  exact ⟨by rw [e], Or.inr ⟨e, (((k10.any.trans (kk hk11 (Or.inl rfl))).trans (kk hk12 (Or.inl rfl))).trans hk13.any).trans (kk hk14 (Or.inr rfl)), x, y, a7, c7, a10, c10, hf, ht2, hH13.setP hk14 hm14⟩⟩
end Go.Proofs.YtajllbdeoopimaaGreat
namespace Go.Proofs.YtajllbdeoopimaaGreat
set_option linter.unusedVariables false
theorem prc_rows {w : World} {b : Nat} {T : TypeId} {r : Pr} (h : Blk w b (.cells (prc r).toArray T)) : Row w b 8 (dc r.frm) ∧ Row w b 16 (dc r.to) ∧ Row w b 24 [.int .i64 r.amt] ∧ Row w b 25 [.int .i64 r.inn] ∧ Row w b 26 [.int .i64 r.out] := by
  have l1 : (dc r.name).length = 8 := dc_length _
  have l2 : (dc r.frm).length = 8 := dc_length _
  have l3 : (dc r.to).length = 8 := dc_length _
  refine ⟨Row.of h (dc r.name) (dc r.to ++ [.int .i64 r.amt, .int .i64 r.inn, .int .i64 r.out]) (by simp [prc]) l1, Row.of h (dc r.name ++ dc r.frm) [.int .i64 r.amt, .int .i64 r.inn, .int .i64 r.out] (by simp [prc]) (by rw [List.length_append, l1, l2]), Row.of h (dc r.name ++ (dc r.frm ++ dc r.to)) [.int .i64 r.inn, .int .i64 r.out] (by simp [prc]) (by simp [l1, l2, l3]), Row.of h (dc r.name ++ (dc r.frm ++ (dc r.to ++ [.int .i64 r.amt]))) [.int .i64 r.out] (by simp [prc]) (by simp [l1, l2, l3]), Row.of h (dc r.name ++ (dc r.frm ++ (dc r.to ++ [.int .i64 r.amt, .int .i64 r.inn]))) [] (by simp [prc]) (by simp [l1, l2, l3])⟩
theorem freeQ_few (p : Pu) (n : Dg) (over : Int) : (nextP (freeQ p n over)).held.length ≤ p.held.length := by
  rw [nextP_held]
  unfold freeQ
  split
  · exact Nat.le_refl _
  · show (cutL p.held _).length ≤ _
    unfold cutL
    rw [List.length_append, List.length_take, List.length_drop]
    omega
def setE (ms : Ms) (mp : Mp) (now : Int) (n : Dg) (over : Int) : Int :=
  if now < 0 ∨ 1099511627776 < now then 2 else match alook mp n with
  | none => 9
  | some r => if r.out = -1 then 10 else if r.out < now then 19 else match alook ms r.frm, alook ms r.to with
    | some x, some y => if chgZ y.p (freeE y.p n over) ≠ 0 then chgZ y.p (freeE y.p n over) else chgZ x.p (freeE x.p n over)
    | _, _ => 0
def SetAt (w' : World) (bh bs bp : Nat) (win : Int) (ms : Ms) (mp : Mp) (n : Dg) (over : Int) : Prop := ∃ r x y a1 c1 a2 c2, alook mp n = some r ∧ alook ms r.frm = some x ∧ alook ms r.to = some y ∧ HubAt w' bh bs bp win (aput (aput ms r.to ⟨nextP (freeQ y.p n over), a1, c1, y.side⟩) r.frm ⟨nextP (freeQ x.p n over), a2, c2, x.side⟩) (mp.filter (fun q => decide (q.1 ≠ n)))
attribute [local irreducible] CG NG SG Vals Der Row Blk MapIs IterAt chkL DerR DerX
set_option maxHeartbeats 32000000 in
theorem settle_spec {w : World} {bh bs bp : Nat} {win : Int} {ms : Ms} {mp : Mp} (hH : HubAt w bh bs bp win ms mp) (now : Int) (n : Dg) (over : Int) (hin : ∀ r, alook mp n = some r → (∃ x, alook ms r.frm = some x) ∧ (∃ y, alook ms r.to = some y) ∧ r.frm ≠ r.to) :
    Calls Tryz.prog 19 #[.pointer (some ⟨bh, 0, none⟩), .int .i64 now, dv n, .int .i64 over] w (fun e w' => e = .returned (.int .i64 (setE ms mp now n over)) ∧ ((setE ms mp now n over ≠ 0 ∧ Kp [] w w') ∨ (setE ms mp now n over = 0 ∧ Kp [bs, bp] w w' ∧ SetAt w' bh bs bp win ms mp n over))) := by
  refine enter4 Tryz.func19 rfl Tryz.ntmps19 rfl ?_
  have fin : ∀ {z : Int} {w' : World}, Kp [] w w' → setE ms mp now n over = z → z ≠ 0 → ((Ending.returned (.int .i64 z) = .returned (.int .i64 (setE ms mp now n over))) ∧ ((setE ms mp now n over ≠ 0 ∧ Kp [] w w') ∨ (setE ms mp now n over = 0 ∧ Kp [bs, bp] w w' ∧ SetAt w' bh bs bp win ms mp n over))) := fun hk e hz => ⟨by rw [e], Or.inl ⟨by rw [e]; exact hz, hk⟩⟩
  repeat (first|apply cA|apply cB)
  refine SG.box rfl rfl rfl (by exact rho_of rfl) (fun b6 w1 hk1 hb6 hB6 => ?_)
  have hB6 : Blk w1 b6 (.cells (dc n).toArray 44) := hB6
  have hH1 := hH.kp0 hk1
  by_cases g1 : now < 0
  · have e : setE ms mp now n over = 2 := if_pos (Or.inl g1)
    repeat (first|apply cA|apply cB|apply cD|apply cE|refine cV rfl rfl rfl rfl (by first|((first|apply qep|apply qmv|apply qas|apply qep)<;>(exact rfl))|fail) ?_)
    refine dB rfl (by exact rho_of rfl) rfl ?_
    repeat (first | first|apply cA|apply cB|apply cD|apply cE|apply cF|refine cV rfl rfl rfl rfl (by first|((first|apply qmv|apply qpk|apply qls)<;>(first|exact rfl|exact dct (by first|assumption|omega)|fail))|fail) ?_ | refine cX rfl rfl ?_)
    refine dA rfl (by exact rho_of rfl) rfl ?_
    repeat (first|apply cA|apply cB|apply cD|apply cE|apply cH|apply cK|refine cV rfl rfl rfl rfl (by first|(apply qas<;>(exact rfl))|fail) ?_)
    refine ret1 (Or.inl rfl) Tryz.results19 (by first | exact ResV.tmp rfl | exact ResV.agg rfl rfl (by assumption) (by first | exact dc_length _ | exact nc_length _ | exact rc_length _ _ _ | exact ec_length _ | exact dl_length _ _ _ _ | rfl) | exact ResV.cell rfl rfl (by assumption)) ?_
    exact fin hk1 e (by decide)
  by_cases g2 : 1099511627776 < now
  · have e : setE ms mp now n over = 2 := if_pos (Or.inr g2)
    repeat (first|apply cA|apply cB|apply cD|apply cE|refine cV rfl rfl rfl rfl (by first|((first|apply qep|apply qmv|apply qas|apply qep)<;>(exact rfl))|fail) ?_)
    refine dB rfl (by exact rho_of rfl) rfl ?_
    repeat (first|apply cA|apply cB|apply cD|apply cE|apply cF|refine cV rfl rfl rfl rfl (by first|((first|apply qmv|apply qpk|apply qls|apply qgt)<;>(first|exact rfl|exact dct (by first|assumption|omega)|exact dcf (by first|assumption|omega)|fail))|fail) ?_)
    refine dA rfl (by exact rho_of rfl) rfl ?_
    repeat (first|apply cA|apply cB|apply cD|apply cE|apply cH|apply cK|refine cV rfl rfl rfl rfl (by first|(apply qas<;>(exact rfl))|fail) ?_)
    refine ret1 (Or.inl rfl) Tryz.results19 (by first | exact ResV.tmp rfl | exact ResV.agg rfl rfl (by assumption) (by first | exact dc_length _ | exact nc_length _ | exact rc_length _ _ _ | exact ec_length _ | exact dl_length _ _ _ _ | rfl) | exact ResV.cell rfl rfl (by assumption)) ?_
    exact fin hk1 e (by decide)
  have e0 : setE ms mp now n over = (match alook mp n with
  | none => 9
  | some r => if r.out = -1 then 10 else if r.out < now then 19 else match alook ms r.frm, alook ms r.to with
    | some x, some y => if chgZ y.p (freeE y.p n over) ≠ 0 then chgZ y.p (freeE y.p n over) else chgZ x.p (freeE x.p n over)
    | _, _ => 0) := if_neg (fun h => h.elim g1 g2)
  obtain ⟨-, -, r2⟩ := hH1.rows
  have hm1 := hH1.pr
  have hR6 : Row w1 b6 0 (dc n) := Row.all hB6 rfl
  repeat (first|apply cA|apply cB|apply cD|apply cE|refine cV rfl rfl rfl rfl (by first|((first|apply qep|apply qmv|apply qas|apply qep)<;>(exact rfl))|fail) ?_)
  refine dB rfl (by exact rho_of rfl) rfl ?_
  repeat (first|apply cA|apply cB|apply cD|apply cE|apply cF|refine cV rfl rfl rfl rfl (by first|((first|apply qmv|apply qpk|apply qls|apply qgt)<;>(first|exact rfl|exact dcf (by first|assumption|omega)|fail))|fail) ?_)
  refine dB rfl (by exact rho_of rfl) rfl ?_
  cases hn : alook mp n with
  | none =>
    have e : setE ms mp now n over = 9 := by rw [e0, hn]
    repeat (first|apply cA|apply cE|apply cF)
    refine CG.drawv mixed [0, 1, 2, 3, 4, 5, 6, 7, 8, 11] [(9, 10, 9, .tmp 29)] (by kernel_rfl) (by kernel_rfl) ?_
    repeat (refine cY rfl rfl rfl (by first|((first|apply qmv|apply qas|apply qlc|apply qla|apply qfa|apply qnc|apply qlk|apply qxt)<;>(first|exact rfl|assumption|exact List.not_mem_nil|apply dc_length|exact lk0 (by assumption)|fail))|fail) ?_)
    refine Der.one (VrOk.of (by rfl) rfl rfl rfl (by exact rho_of rfl) (by rfl) (by rfl) (by rfl)) (fun b9 w2 hk2 hb9 hB9 => ?_)
    repeat (first|apply cA|apply cB|apply cD|apply cE|refine cV rfl rfl rfl rfl (by first|((first|apply qmv|apply qnt)<;>(exact rfl))|fail) ?_)
    refine dA rfl (by exact rho_of rfl) rfl ?_
    repeat (first|apply cA|apply cB|apply cD|apply cE|apply cH|apply cK|refine cV rfl rfl rfl rfl (by first|(apply qas<;>(exact rfl))|fail) ?_)
    refine ret1 (Or.inl rfl) Tryz.results19 (by first | exact ResV.tmp rfl | exact ResV.agg rfl rfl (by assumption) (by first | exact dc_length _ | exact nc_length _ | exact rc_length _ _ _ | exact ec_length _ | exact dl_length _ _ _ _ | rfl) | exact ResV.cell rfl rfl (by assumption)) ?_
    exact fin (hk1.trans hk2) e (by decide)
  | some r =>
  obtain ⟨⟨x, hx0⟩, ⟨y, hy0⟩, hne⟩ := hin r hn
  repeat (first|apply cA|apply cE|apply cF)
  refine CG.drawv mixed [0, 1, 2, 3, 4, 5, 6, 7, 8, 11] [(9, 10, 9, .tmp 29)] (by kernel_rfl) (by kernel_rfl) ?_
  repeat (refine cY rfl rfl rfl (by first|((first|apply qmv|apply qas|apply qlc|apply qla|apply qfa|apply qnc|apply qlk|apply qxt)<;>(first|exact rfl|assumption|exact List.not_mem_nil|apply dc_length|exact lk1 (by assumption)|fail))|fail) ?_)
  refine Der.one (VrOk.of (by rfl) rfl rfl rfl (by exact rho_of rfl) (by exact prc_length r) (by rfl) (by exact prc_one r)) (fun b9 w2 hk2 hb9 hB9 => ?_)
  have hB9 : Blk w2 b9 (.cells (prc r).toArray 68) := hB9
  have k2 := hk1.trans hk2
  have hH2 := hH1.kp0 hk2
  have hB6 := hB6.kp0 hk2
  clear r2 hm1 hR6
  obtain ⟨q1, q2, -, -, q5⟩ := prc_rows hB9
  repeat (first|apply cA|apply cB|apply cD|apply cE|refine cV rfl rfl rfl rfl (by first|((first|apply qmv|apply qnt)<;>(exact rfl))|fail) ?_)
  refine dB rfl (by exact rho_of rfl) rfl ?_
  by_cases g3 : r.out = -1
  · have e : setE ms mp now n over = 10 := by rw [e0, hn]; exact if_pos g3
    repeat (first|apply cA|apply cB|apply cD|apply cE|apply cF|refine cV rfl rfl rfl rfl (by first|((first|apply qlc|apply qfa|apply qei)<;>(first|exact rfl|assumption|exact dct (by first|assumption|omega)|exact List.not_mem_nil|fail))|fail) ?_)
    refine dA rfl (by exact rho_of rfl) rfl ?_
    repeat (first|apply cA|apply cB|apply cD|apply cE|apply cH|apply cK|refine cV rfl rfl rfl rfl (by first|(apply qas<;>(exact rfl))|fail) ?_)
    refine ret1 (Or.inl rfl) Tryz.results19 (by first | exact ResV.tmp rfl | exact ResV.agg rfl rfl (by assumption) (by first | exact dc_length _ | exact nc_length _ | exact rc_length _ _ _ | exact ec_length _ | exact dl_length _ _ _ _ | rfl) | exact ResV.cell rfl rfl (by assumption)) ?_
    exact fin k2 e (by decide)
  repeat (first|apply cA|apply cB|apply cD|apply cE|apply cF|refine cV rfl rfl rfl rfl (by first|((first|apply qlc|apply qfa|apply qei)<;>(first|exact rfl|assumption|exact dcf (by first|assumption|omega)|exact List.not_mem_nil|fail))|fail) ?_)
  refine dB rfl (by exact rho_of rfl) rfl ?_
  by_cases g4 : r.out < now
  · have e : setE ms mp now n over = 19 := by rw [e0, hn]; simp only; rw [if_neg g3, if_pos g4]
    repeat (first|apply cA|apply cB|apply cD|apply cE|apply cF|refine cV rfl rfl rfl rfl (by first|((first|apply qmv|apply qlc|apply qfa|apply qgt)<;>(first|exact rfl|assumption|exact dct (by first|assumption|omega)|exact List.not_mem_nil|fail))|fail) ?_)
    refine dA rfl (by exact rho_of rfl) rfl ?_
    repeat (first|apply cA|apply cB|apply cD|apply cE|apply cH|apply cK|refine cV rfl rfl rfl rfl (by first|(apply qas<;>(exact rfl))|fail) ?_)
    refine ret1 (Or.inl rfl) Tryz.results19 (by first | exact ResV.tmp rfl | exact ResV.agg rfl rfl (by assumption) (by first | exact dc_length _ | exact nc_length _ | exact rc_length _ _ _ | exact ec_length _ | exact dl_length _ _ _ _ | rfl) | exact ResV.cell rfl rfl (by assumption)) ?_
    exact fin k2 e (by decide)
  have e1 : setE ms mp now n over = if chgZ y.p (freeE y.p n over) ≠ 0 then chgZ y.p (freeE y.p n over) else chgZ x.p (freeE x.p n over) := by rw [e0, hn]; simp only; rw [if_neg g3, if_neg g4, hx0, hy0]
  have hx := hH2.at' (r.frm, x) (alook_mem hx0)
  have hy := hH2.at' (r.to, y) (alook_mem hy0)
  have hx16 := hH2.few (r.frm, x) (alook_mem hx0)
  have hy16 := hH2.few (r.to, y) (alook_mem hy0)
  simp only at hx hy hx16 hy16
  obtain ⟨-, r1, -⟩ := hH2.rows
  have hm2 := hH2.sh
  have hR6 : Row w2 b6 0 (dc n) := Row.all hB6 rfl
  repeat (first|apply cA|apply cB|apply cD|apply cE|apply cF|refine cV rfl rfl rfl rfl (by first|((first|apply qmv|apply qlc|apply qfa|apply qgt)<;>(first|exact rfl|assumption|exact dcf (by first|assumption|omega)|exact List.not_mem_nil|fail))|fail) ?_)
  refine dB rfl (by exact rho_of rfl) rfl ?_
  repeat (first|apply cA|apply cE|apply cF)
  refine CG.free mixed 16 [0, 1, 2, 3, 4, 5, 6, 7, 8, 9, 10, 11, 12, 13, 14, 15] [(10, gH w2.heap.size (nextP (freeQ y.p n over)) (chgZ y.p (freeE y.p n over))), (14, gV w2.heap.size 47 12), (15, gP w2.heap.size 47)] (by kernel_rfl) (by intro p hp y; simp at hp; rcases hp with rfl | rfl | rfl; exact gH_stab y; exact gV_stab y; exact gP_stab y) ?_
  repeat (refine cZ rfl rfl rfl rfl (by first|((first|apply qmv|apply qlc|apply qla|apply qfa|apply qnc|apply qlv)<;>(first|exact rfl|assumption|exact List.not_mem_nil|apply dc_length|exact lk1 (by assumption)|fail))|fail) ?_)
  refine cZ rfl rfl rfl rfl (vals_field_agg [] (pc y.p y.s) [.int .i64 y.side] (by exact rho_of rfl) rfl rfl rfl (pc_length _ _)) ?_
  repeat (refine cZ rfl rfl rfl rfl (by first|((first|apply qmv|apply qla)<;>(first|exact rfl|assumption|exact List.not_mem_nil|apply dc_length))|fail) ?_)
  refine DerX.callE (vs := [pv y.p (.slice y.a y.p.held.length y.c), dv n, .int .i64 over]) (gH w2.heap.size (nextP (freeQ y.p n over)) (chgZ y.p (freeE y.p n over))) rfl rfl rfl rfl (by repeat' (first | exact True.intro | exact rho_of rfl | refine And.intro ?_ ?_)) (fun W hk _ => (free_spec y.p n over (hy.sl.kp0 hk) (by omega) hy.cap).mono (fun e w' hh => ?_)) (fun v' => ?_)
  · obtain ⟨v, he, hk', h1, h2⟩ := hh
    obtain ⟨x', h3, h4⟩ := gH_of (m := w2.heap.size) (p := nextP (freeQ y.p n over)) (fun hz => by obtain ⟨s, h5, h6⟩ := h1 hz; exact ⟨s, h5, own_mono h6 hk.size⟩) h2
    exact ⟨x', by rw [he, h3]; rfl, h4, hk'⟩
  repeat (refine cZ rfl rfl rfl rfl (by first|((first|apply qmv|apply qxt)<;>(exact rfl))|fail) ?_)
  refine DerX.allocV rfl rfl rfl rfl rfl (Nat.le_refl _) (fun b11 => ?_)
  refine DerX.storeV (l := v'.1) rfl rfl rfl rfl (by kernel_rfl) (by exact rho_of rfl) (by exact rho_of rfl) v'.2 (Nat.le_refl _) (fun w hk hF => ⟨hF _ (.head _) (by kernel_rfl), gH_one (w := w) (hF _ (.tail _ (.head _)) (by kernel_rfl))⟩) ?_ ?_
  · intro p hp hne y w w' cs g1 g2 g3 g4 g5
    simp only [List.mem_cons, List.not_mem_nil, or_false] at hp
    rcases hp with rfl | rfl | rfl
    · exact gH_keep g1 g3 g5
    · exact gV_keep v'.2 g3 g4 g5
    · exact absurd rfl hne
  refine DerX.tl (fun w3 hk3 hF => ?_)
  have hB11 : w2.heap.size ≤ b11 ∧ Blk w3 b11 (.cells v'.1.toArray 47) := hF _ (.head _)
  have hg3 := hF _ (.tail _ (.tail _ (.head _)))
  clear hF
  have hB11 := hB11.2
  have k3 := k2.trans hk3
  have hH3 := hH2.kp0 hk3
  have hB6 := hB6.kp0 hk3
  have hB9 := hB9.kp0 hk3
  have hx3 := hx.kp0 hk3
  clear r1 hm2 hR6 q1 q2 q5 hx hy
  by_cases gy : chgZ y.p (freeE y.p n over) = 0
  rotate_left
  · have e : setE ms mp now n over = chgZ y.p (freeE y.p n over) := by rw [e1, if_pos gy]
    generalize chgZ y.p (freeE y.p n over) = z at gy e
    repeat (first|apply cA|apply cB|apply cD|apply cE|refine cV rfl rfl rfl rfl (by first|((first|apply qmv|apply qas|apply qni)<;>(first|exact rfl|exact dcf (by first|assumption|omega)|fail))|fail) ?_)
    refine dA rfl (by exact rho_of rfl) rfl ?_
    repeat (first|apply cA|apply cB|apply cD|apply cE|apply cH|apply cK|refine cV rfl rfl rfl rfl (by first|((first|apply qmv|apply qas)<;>(exact rfl))|fail) ?_)
    refine ret1 (Or.inl rfl) Tryz.results19 (by first | exact ResV.tmp rfl | exact ResV.agg rfl rfl (by assumption) (by first | exact dc_length _ | exact nc_length _ | exact rc_length _ _ _ | exact ec_length _ | exact dl_length _ _ _ _ | rfl) | exact ResV.cell rfl rfl (by assumption)) ?_
    exact fin k3 e gy
  obtain ⟨s3, h3, ho3⟩ := hg3.1 gy
  obtain ⟨a3, c3, rfl, hc3, hS3⟩ := Sl.own hc_length ho3 rfl
  have hat3 : (⟨nextP (freeQ y.p n over), a3, c3, y.side⟩ : Sh).At w3 := ⟨hS3, hc3, Ty.own ho3⟩
  rw [h3] at hB11
  rw [gy]
  clear hg3 h3 ho3 hS3
  obtain ⟨-, r1, -⟩ := hH3.rows
  have hm3 := hH3.sh
  have hR6 : Row w3 b6 0 (dc n) := Row.all hB6 rfl
  obtain ⟨q1, q2, -, -, q5⟩ := prc_rows hB9
  repeat (first|apply cA|apply cB|apply cD|apply cE|refine cV rfl rfl rfl rfl (by first|((first|apply qmv|apply qas|apply qni)<;>(first|exact rfl|exact dct (by first|assumption|omega)|fail))|fail) ?_)
  refine dB rfl (by exact rho_of rfl) rfl ?_
  repeat (first|apply cA|apply cE|apply cF)
  refine CG.free mixed 16 [0, 1, 2, 3, 4, 5, 6, 7, 8, 9, 10, 11, 12, 13, 14, 15] [(10, gH w3.heap.size (nextP (freeQ x.p n over)) (chgZ x.p (freeE x.p n over))), (14, gV w3.heap.size 47 12), (15, gP w3.heap.size 47)] (by kernel_rfl) (by intro p hp y; simp at hp; rcases hp with rfl | rfl | rfl; exact gH_stab y; exact gV_stab y; exact gP_stab y) ?_
  repeat (refine cZ rfl rfl rfl rfl (by first|((first|apply qmv|apply qlc|apply qla|apply qfa|apply qnc|apply qlv)<;>(first|exact rfl|assumption|exact List.not_mem_nil|apply dc_length|exact lk1 (by assumption)|fail))|fail) ?_)
  refine cZ rfl rfl rfl rfl (vals_field_agg [] (pc x.p x.s) [.int .i64 x.side] (by exact rho_of rfl) rfl rfl rfl (pc_length _ _)) ?_
  repeat (refine cZ rfl rfl rfl rfl (by first|((first|apply qmv|apply qla)<;>(first|exact rfl|assumption|exact List.not_mem_nil|apply dc_length))|fail) ?_)
  refine DerX.callE (vs := [pv x.p (.slice x.a x.p.held.length x.c), dv n, .int .i64 over]) (gH w3.heap.size (nextP (freeQ x.p n over)) (chgZ x.p (freeE x.p n over))) rfl rfl rfl rfl (by repeat' (first | exact True.intro | exact rho_of rfl | refine And.intro ?_ ?_)) (fun W hk _ => (free_spec x.p n over (hx3.sl.kp0 hk) (by omega) hx3.cap).mono (fun e w' hh => ?_)) (fun v' => ?_)
  · obtain ⟨v, he, hk', h1, h2⟩ := hh
    obtain ⟨x', h3, h4⟩ := gH_of (m := w3.heap.size) (p := nextP (freeQ x.p n over)) (fun hz => by obtain ⟨s, h5, h6⟩ := h1 hz; exact ⟨s, h5, own_mono h6 hk.size⟩) h2
    exact ⟨x', by rw [he, h3]; rfl, h4, hk'⟩
  repeat (refine cZ rfl rfl rfl rfl (by first|((first|apply qmv|apply qxt)<;>(exact rfl))|fail) ?_)
  refine DerX.allocV rfl rfl rfl rfl rfl (Nat.le_refl _) (fun b13 => ?_)
  refine DerX.storeV (l := v'.1) rfl rfl rfl rfl (by kernel_rfl) (by exact rho_of rfl) (by exact rho_of rfl) v'.2 (Nat.le_refl _) (fun w hk hF => ⟨hF _ (.head _) (by kernel_rfl), gH_one (w := w) (hF _ (.tail _ (.head _)) (by kernel_rfl))⟩) ?_ ?_
  · intro p hp hne y w w' cs g1 g2 g3 g4 g5
    simp only [List.mem_cons, List.not_mem_nil, or_false] at hp
    rcases hp with rfl | rfl | rfl
    · exact gH_keep g1 g3 g5
    · exact gV_keep v'.2 g3 g4 g5
    · exact absurd rfl hne
  refine DerX.tl (fun w4 hk4 hF => ?_)
  have hB13 : w3.heap.size ≤ b13 ∧ Blk w4 b13 (.cells v'.1.toArray 47) := hF _ (.head _)
  have hg4 := hF _ (.tail _ (.tail _ (.head _)))
  clear hF
  have hB13 := hB13.2
  have k4 := k3.trans hk4
  have hH4 := hH3.kp0 hk4
  have hB6 := hB6.kp0 hk4
  have hB9 := hB9.kp0 hk4
  have hB11 := hB11.kp0 hk4
  have hat4 := hat3.kp0 hk4
  clear r1 hm3 hR6 q1 q2 q5 hx3
  by_cases gx : chgZ x.p (freeE x.p n over) = 0
  rotate_left
  · have e : setE ms mp now n over = chgZ x.p (freeE x.p n over) := by rw [e1, if_neg (fun h => h gy)]
    generalize chgZ x.p (freeE x.p n over) = z at gx e
    repeat (first|apply cA|apply cB|apply cD|apply cE|refine cV rfl rfl rfl rfl (by first|((first|apply qmv|apply qas|apply qni)<;>(first|exact rfl|exact dcf (by first|assumption|omega)|fail))|fail) ?_)
    refine dA rfl (by exact rho_of rfl) rfl ?_
    repeat (first|apply cA|apply cB|apply cD|apply cE|apply cH|apply cK|refine cV rfl rfl rfl rfl (by first|((first|apply qmv|apply qas)<;>(exact rfl))|fail) ?_)
    refine ret1 (Or.inl rfl) Tryz.results19 (by first | exact ResV.tmp rfl | exact ResV.agg rfl rfl (by assumption) (by first | exact dc_length _ | exact nc_length _ | exact rc_length _ _ _ | exact ec_length _ | exact dl_length _ _ _ _ | rfl) | exact ResV.cell rfl rfl (by assumption)) ?_
    exact fin k4 e gx
  have e : setE ms mp now n over = 0 := by rw [e1, if_neg (fun h => h gy), gx]
  obtain ⟨s4, h3, ho4⟩ := hg4.1 gx
  obtain ⟨a4, c4, rfl, hc4, hS4⟩ := Sl.own hc_length ho4 rfl
  have hat4' : (⟨nextP (freeQ x.p n over), a4, c4, x.side⟩ : Sh).At w4 := ⟨hS4, hc4, Ty.own ho4⟩
  rw [h3] at hB13
  rw [gx]
  clear hg4 h3 ho4 hS4 fin
  have lx : (nextP (freeQ x.p n over)).held.length ≤ 16 := Nat.le_trans (freeQ_few _ _ _) hx16
  have ly : (nextP (freeQ y.p n over)).held.length ≤ 16 := Nat.le_trans (freeQ_few _ _ _) hy16
  obtain ⟨q1, q2, -, -, q5⟩ := prc_rows hB9
  have hR11 : Row w4 b11 0 (pc (nextP (freeQ y.p n over)) (.slice a3 (nextP (freeQ y.p n over)).held.length c3)) := Row.all hB11 rfl
  repeat (first|apply cA|apply cB|apply cD|apply cE|refine cV rfl rfl rfl rfl (by first|((first|apply qmv|apply qas|apply qni)<;>(first|exact rfl|exact dct (by first|assumption|omega)|fail))|fail) ?_)
  refine dB rfl (by exact rho_of rfl) rfl ?_
  repeat (first|apply cA|apply cB|apply cE|apply cF|refine cV rfl rfl rfl rfl (by first|((first|apply qmv|apply qla|apply qfa)<;>(first|exact rfl|assumption|exact List.not_mem_nil|apply dc_length|apply pc_length))|fail) ?_)
  refine SG.call rfl rfl rfl (vs := [.pointer (some ⟨bh, 0, none⟩), dv r.to, pv (nextP (freeQ y.p n over)) (.slice a3 (nextP (freeQ y.p n over)).held.length c3)]) (by repeat' (first | exact True.intro | exact rho_of rfl | refine And.intro ?_ ?_)) ((put_spec hH4 r.to (nextP (freeQ y.p n over)) a3 c3 hy0 hat4 ly).mono (fun e' w5 hh => ?_))
  obtain ⟨he, hk5, hH5⟩ := hh
  refine ⟨_, he, ?_⟩
  clear he hR11 q1 q2 q5
  have nbs : ∀ {z : Nat} {cs : Array Value} {T : TypeId}, Blk w4 z (.cells cs T) → z ≠ bs := fun h => hH4.sh.nb h.raw
  have hB6 := hB6.kp hk5 (nm1 (nbs hB6))
  have hB9 := hB9.kp hk5 (nm1 (nbs hB9))
  have hB13 := hB13.kp hk5 (nm1 (nbs hB13))
  have hat5 := hat4'.map hH4.sh hk5
  obtain ⟨q1, q2, -, -, q5⟩ := prc_rows hB9
  have hR13 : Row w5 b13 0 (pc (nextP (freeQ x.p n over)) (.slice a4 (nextP (freeQ x.p n over)).held.length c4)) := Row.all hB13 rfl
  have hx0' : alook (aput ms r.to ⟨nextP (freeQ y.p n over), a3, c3, y.side⟩) r.frm = some x := by rw [alook_put, if_neg (fun h => hne h.symm), hx0]
  repeat (first|apply cA|apply cB|apply cD|apply cE|refine cV rfl rfl rfl rfl (by first|((first|apply qmv|apply qla|apply qfa)<;>(first|exact rfl|assumption|exact List.not_mem_nil|apply dc_length|apply pc_length))|fail) ?_)
  refine SG.call rfl rfl rfl (vs := [.pointer (some ⟨bh, 0, none⟩), dv r.frm, pv (nextP (freeQ x.p n over)) (.slice a4 (nextP (freeQ x.p n over)).held.length c4)]) (by repeat' (first | exact True.intro | exact rho_of rfl | refine And.intro ?_ ?_)) ((put_spec hH5 r.frm (nextP (freeQ x.p n over)) a4 c4 hx0' hat5 lx).mono (fun e' w6 hh => ?_))
  obtain ⟨he, hk6, hH6⟩ := hh
  refine ⟨_, he, ?_⟩
  clear he hR13 q1 q2 q5
  have nbs : ∀ {z : Nat} {cs : Array Value} {T : TypeId}, Blk w5 z (.cells cs T) → z ≠ bs := fun h => hH5.sh.nb h.raw
  have hB6 := hB6.kp hk6 (nm1 (nbs hB6))
  have hR6 : Row w6 b6 0 (dc n) := Row.all hB6 rfl
  obtain ⟨-, -, r2⟩ := hH6.rows
  repeat (first|apply cA|apply cD|apply cE)
  refine CG.tail mixed 5 [0, 1, 2, 3, 4] (by kernel_rfl) ?_
  repeat (refine cY rfl rfl rfl (by first|((first|apply qmv|apply qlc|apply qla|apply qfa|apply qnc)<;>(first|exact rfl|assumption|exact List.not_mem_nil|apply dc_length))|fail) ?_)
  refine Der.tl (fun w7 hk7 _ _ => ?_)
  have hH7 := hH6.kp0 hk7
  refine SG.delete (enc := dv (n := 8)) (V := prv) (kx := n) rfl rfl (by exact rho_of rfl) (by exact rho_of rfl) hH7.pr (fun w8 hk8 hm8 => ?_)
  repeat (first|apply cA|apply cB|apply cD|apply cE|apply cH|refine cV rfl rfl rfl rfl (by first|(apply qas<;>(exact rfl))|fail) ?_)
  refine ret1 (Or.inl rfl) Tryz.results19 (by first | exact ResV.tmp rfl | exact ResV.agg rfl rfl (by assumption) (by first | exact dc_length _ | exact nc_length _ | exact rc_length _ _ _ | exact ec_length _ | exact dl_length _ _ _ _ | rfl) | exact ResV.cell rfl rfl (by assumption)) ?_
  have kk : ∀ {u u' : World} {z : Nat}, Kp [z] u u' → z = bs ∨ z = bp → Kp [bs, bp] u u' := fun h hz => h.mono (fun v hv => by rw [List.mem_singleton] at hv; subst hv; rcases hz with rfl | rfl <;> simp)
  exact ⟨by rw [e], Or.inr ⟨e, (((k4.any.trans (kk hk5 (Or.inl rfl))).trans (kk hk6 (Or.inl rfl))).trans hk7.any).trans (kk hk8 (Or.inr rfl)), r, x, y, a3, c3, a4, c4, hn, hx0, hy0, hH7.setP hk8 hm8⟩⟩
end Go.Proofs.YtajllbdeoopimaaGreat
namespace Go.Proofs.YtajllbdeoopimaaGreat
set_option linter.unusedVariables false
def hbackE (y : Sh) (n : Dg) (now : Int) : Bool := decide (chgZ y.p (backE y.p n now) = 0)
attribute [local irreducible] CG NG SG Vals Der Row Blk MapIs IterAt chkL DerR DerX
set_option maxHeartbeats 32000000 in
theorem hback_spec {w : World} {bh bs bp : Nat} {win : Int} {ms : Ms} {mp : Mp} (hH : HubAt w bh bs bp win ms mp) (k n : Dg) (now : Int) {y : Sh} (hy0 : alook ms k = some y) :
    Calls Tryz.prog 27 #[.pointer (some ⟨bh, 0, none⟩), dv k, dv n, .int .i64 now] w (fun e w' => e = .returned (.bool (hbackE y n now)) ∧ ((hbackE y n now = false ∧ Kp [] w w') ∨ (hbackE y n now = true ∧ Kp [bs] w w' ∧ ∃ a c, HubAt w' bh bs bp win (aput ms k ⟨nextP (freeQ y.p n 0), a, c, y.side⟩) mp))) := by
  refine enter4 Tryz.func27 rfl Tryz.ntmps27 rfl ?_
  repeat (first|apply cA|apply cB)
  refine SG.box rfl rfl rfl (by exact rho_of rfl) (fun b5 w1 hk1 hb5 hB5 => ?_)
  have hB5 : Blk w1 b5 (.cells (dc k).toArray 44) := hB5
  refine SG.box rfl rfl rfl (by exact rho_of rfl) (fun b6 w2 hk2 hb6 hB6 => ?_)
  have hB6 : Blk w2 b6 (.cells (dc n).toArray 44) := hB6
  have k2 := hk1.trans hk2
  have hB5 := hB5.kp0 hk2
  have hH2 := hH.kp0 k2
  have hy := hH2.at' (k, y) (alook_mem hy0)
  have hy16 := hH2.few (k, y) (alook_mem hy0)
  simp only at hy hy16
  obtain ⟨-, r1, -⟩ := hH2.rows
  have hm2 := hH2.sh
  have hR5 : Row w2 b5 0 (dc k) := Row.all hB5 rfl
  have hR6 : Row w2 b6 0 (dc n) := Row.all hB6 rfl
  repeat (first|apply cA|apply cD|apply cE|refine cV rfl rfl rfl rfl (by first|(apply qas<;>(exact rfl))|fail) ?_)
  refine CG.free mixed 15 [0, 1, 2, 3, 4, 5, 6, 7, 8, 9, 10, 11, 12, 13, 14] [(9, gH w2.heap.size (nextP (freeQ y.p n 0)) (chgZ y.p (backE y.p n now))), (13, gV w2.heap.size 47 12), (14, gP w2.heap.size 47)] (by kernel_rfl) (by intro p hp y; simp at hp; rcases hp with rfl | rfl | rfl; exact gH_stab y; exact gV_stab y; exact gP_stab y) ?_
  repeat (refine cZ rfl rfl rfl rfl (by first|((first|apply qmv|apply qlc|apply qla|apply qfa|apply qnc|apply qlv)<;>(first|exact rfl|assumption|exact List.not_mem_nil|apply dc_length|exact lk1 (by assumption)|fail))|fail) ?_)
  refine cZ rfl rfl rfl rfl (vals_field_agg [] (pc y.p y.s) [.int .i64 y.side] (by exact rho_of rfl) rfl rfl rfl (pc_length _ _)) ?_
  repeat (refine cZ rfl rfl rfl rfl (by first|((first|apply qmv|apply qla)<;>(first|exact rfl|assumption|exact List.not_mem_nil|apply dc_length))|fail) ?_)
  refine DerX.callE (vs := [pv y.p (.slice y.a y.p.held.length y.c), dv n, .int .i64 now]) (gH w2.heap.size (nextP (freeQ y.p n 0)) (chgZ y.p (backE y.p n now))) rfl rfl rfl rfl (by repeat' (first | exact True.intro | exact rho_of rfl | refine And.intro ?_ ?_)) (fun W hk _ => (back_spec y.p n now (hy.sl.kp0 hk) (by omega) hy.cap).mono (fun e w' hh => ?_)) (fun v' => ?_)
  · obtain ⟨v, he, hk', h1, h2⟩ := hh
    obtain ⟨x', h3, h4⟩ := gH_of (m := w2.heap.size) (p := nextP (freeQ y.p n 0)) (fun hz => by obtain ⟨s, h5, h6⟩ := h1 hz; exact ⟨s, h5, own_mono h6 hk.size⟩) h2
    exact ⟨x', by rw [he, h3]; rfl, h4, hk'⟩
  repeat (refine cZ rfl rfl rfl rfl (by first|((first|apply qmv|apply qxt)<;>(exact rfl))|fail) ?_)
  refine DerX.allocV rfl rfl rfl rfl rfl (Nat.le_refl _) (fun b11 => ?_)
  refine DerX.storeV (l := v'.1) rfl rfl rfl rfl (by kernel_rfl) (by exact rho_of rfl) (by exact rho_of rfl) v'.2 (Nat.le_refl _) (fun w hk hF => ⟨hF _ (.head _) (by kernel_rfl), gH_one (w := w) (hF _ (.tail _ (.head _)) (by kernel_rfl))⟩) ?_ ?_
  · intro p hp hne y w w' cs g1 g2 g3 g4 g5
    simp only [List.mem_cons, List.not_mem_nil, or_false] at hp
    rcases hp with rfl | rfl | rfl
    · exact gH_keep g1 g3 g5
    · exact gV_keep v'.2 g3 g4 g5
    · exact absurd rfl hne
  refine DerX.tl (fun w3 hk3 hF => ?_)
  have hB11 : w2.heap.size ≤ b11 ∧ Blk w3 b11 (.cells v'.1.toArray 47) := hF _ (.head _)
  have hg3 := hF _ (.tail _ (.tail _ (.head _)))
  clear hF
  have hB11 := hB11.2
  have k3 := k2.trans hk3
  have hH3 := hH2.kp0 hk3
  have hB5 := hB5.kp0 hk3
  clear r1 hm2 hR5 hR6 hy
  by_cases gy : chgZ y.p (backE y.p n now) = 0
  rotate_left
  · have e : hbackE y n now = false := decide_eq_false gy
    generalize chgZ y.p (backE y.p n now) = z at gy
    repeat (first|apply cA|apply cB|apply cD|apply cE|refine cV rfl rfl rfl rfl (by first|((first|apply qmv|apply qas|apply qni)<;>(first|exact rfl|exact dcf (by first|assumption|omega)|fail))|fail) ?_)
    refine dA rfl (by exact rho_of rfl) rfl ?_
    repeat (first|apply cA|apply cB|apply cD|apply cE|apply cH|apply cK|refine cV rfl rfl rfl rfl (by first|(apply qas<;>(exact rfl))|fail) ?_)
    refine ret1 (Or.inl rfl) Tryz.results27 (by first | exact ResV.tmp rfl | exact ResV.agg rfl rfl (by assumption) (by first | exact dc_length _ | exact nc_length _ | exact rc_length _ _ _ | exact ec_length _ | exact dl_length _ _ _ _ | rfl) | exact ResV.cell rfl rfl (by assumption)) ?_
    exact ⟨by rw [e], Or.inl ⟨e, k3⟩⟩
  have e : hbackE y n now = true := decide_eq_true gy
  obtain ⟨s3, h3, ho3⟩ := hg3.1 gy
  obtain ⟨a3, c3, rfl, hc3, hS3⟩ := Sl.own hc_length ho3 rfl
  have hat3 : (⟨nextP (freeQ y.p n 0), a3, c3, y.side⟩ : Sh).At w3 := ⟨hS3, hc3, Ty.own ho3⟩
  rw [h3] at hB11
  rw [gy]
  clear hg3 h3 ho3 hS3
  have ly : (nextP (freeQ y.p n 0)).held.length ≤ 16 := Nat.le_trans (freeQ_few _ _ _) hy16
  have hR5 : Row w3 b5 0 (dc k) := Row.all hB5 rfl
  have hR11 : Row w3 b11 0 (pc (nextP (freeQ y.p n 0)) (.slice a3 (nextP (freeQ y.p n 0)).held.length c3)) := Row.all hB11 rfl
  repeat (first|apply cA|apply cB|apply cD|apply cE|refine cV rfl rfl rfl rfl (by first|((first|apply qmv|apply qas|apply qni)<;>(first|exact rfl|exact dct (by first|assumption|omega)|fail))|fail) ?_)
  refine dB rfl (by exact rho_of rfl) rfl ?_
  repeat (first|apply cA|apply cB|apply cE|apply cF|refine cV rfl rfl rfl rfl (by first|((first|apply qmv|apply qla)<;>(first|exact rfl|assumption|exact List.not_mem_nil|apply dc_length|apply pc_length))|fail) ?_)
  refine SG.call rfl rfl rfl (vs := [.pointer (some ⟨bh, 0, none⟩), dv k, pv (nextP (freeQ y.p n 0)) (.slice a3 (nextP (freeQ y.p n 0)).held.length c3)]) (by repeat' (first | exact True.intro | exact rho_of rfl | refine And.intro ?_ ?_)) ((put_spec hH3 k (nextP (freeQ y.p n 0)) a3 c3 hy0 hat3 ly).mono (fun e' w4 hh => ?_))
  obtain ⟨he, hk4, hH4⟩ := hh
  refine ⟨_, he, ?_⟩
  repeat (first|apply cA|apply cB|apply cD|apply cE|apply cH|refine cV rfl rfl rfl rfl (by first|(apply qas<;>(exact rfl))|fail) ?_)
  refine ret1 (Or.inl rfl) Tryz.results27 (by first | exact ResV.tmp rfl | exact ResV.agg rfl rfl (by assumption) (by first | exact dc_length _ | exact nc_length _ | exact rc_length _ _ _ | exact ec_length _ | exact dl_length _ _ _ _ | rfl) | exact ResV.cell rfl rfl (by assumption)) ?_
  exact ⟨by rw [e], Or.inr ⟨e, k3.any.trans hk4, a3, c3, hH4⟩⟩
def totalZ (p : Pu) : Int := if checkZ p = 0 then sumP p else 0
end Go.Proofs.YtajllbdeoopimaaGreat
namespace Go.Proofs.YtajllbdeoopimaaGreat
set_option linter.unusedVariables false
/-- What is held of a side; of the other one. -/
def ownS (s : Int) : List Hd → Int
  | [] => 0
  | h :: r => (if h.side = s then h.amt else 0) + ownS s r
def othS (s : Int) : List Hd → Int
  | [] => 0
  | h :: r => (if h.side = s then 0 else h.amt) + othS s r
def backS (x : Sh) : Int := haveP x.p x.side + ownS x.side x.p.held
def onS (x : Sh) : Int := haveP x.p x.side + othS x.side x.p.held
def sumS (f : Sh → Int) : Ms → Int
  | [] => 0
  | x :: r => f x.2 + sumS f r
theorem ownS_app (s : Int) : ∀ a b : List Hd, ownS s (a ++ b) = ownS s a + ownS s b
  | [], b => by simp [ownS]
  | h :: a, b => by rw [List.cons_append, ownS, ownS, ownS_app s a b, Int.add_assoc]
theorem othS_app (s : Int) : ∀ a b : List Hd, othS s (a ++ b) = othS s a + othS s b
  | [], b => by simp [othS]
  | h :: a, b => by rw [List.cons_append, othS, othS, othS_app s a b, Int.add_assoc]
theorem ownS_snoc {s : Int} {l : List Hd} {i : Nat} (h : i < l.length) : ownS s (l.take (i + 1)) = ownS s (l.take i) + (if l[i].side = s then l[i].amt else 0) := by
  rw [List.take_succ_eq_append_getElem h, ownS_app]
  simp [ownS]
theorem othS_snoc {s : Int} {l : List Hd} {i : Nat} (h : i < l.length) : othS s (l.take (i + 1)) = othS s (l.take i) + (if l[i].side = s then 0 else l[i].amt) := by
  rw [List.take_succ_eq_append_getElem h, othS_app]
  simp [othS]
theorem sums_le (s : Int) : ∀ {l : List Hd}, (∀ h ∈ l, 0 ≤ h.amt ∧ h.amt ≤ 1125899906842624) → 0 ≤ ownS s l ∧ ownS s l ≤ 1125899906842624 * l.length ∧ 0 ≤ othS s l ∧ othS s l ≤ 1125899906842624 * l.length
  | [], _ => by simp [ownS, othS]
  | h :: l, hh => by
    obtain ⟨h1, h2, h3, h4⟩ := sums_le s (l := l) (fun x hx => hh x (List.mem_cons_of_mem _ hx))
    obtain ⟨h5, h6⟩ := hh h List.mem_cons_self
    simp only [ownS, othS, List.length_cons]
    split <;> omega
theorem sumS_app (f : Sh → Int) : ∀ a b : Ms, sumS f (a ++ b) = sumS f a + sumS f b
  | [], b => by simp [sumS]
  | h :: a, b => by rw [List.cons_append, sumS, sumS, sumS_app f a b, Int.add_assoc]
theorem sumS_perm (f : Sh → Int) {a b : Ms} (h : a.Perm b) : sumS f a = sumS f b := by
  induction h with
  | nil => rfl
  | cons x _ ih => simp only [sumS, ih]
  | swap x y l => simp only [sumS]; omega
  | trans _ _ h1 h2 => exact h1.trans h2
theorem held_le {p : Pu} (h : p.Ok) : ∀ x ∈ p.held, 0 ≤ x.amt ∧ x.amt ≤ 1125899906842624 := fun x hx => by
  have h1 := (hok x).1 (chkL_all h.c x hx)
  omega
structure ShOk (x : Sh) : Prop where
  p : x.p.Ok
  s0 : 0 ≤ x.side
  s1 : x.side ≤ 1
theorem sh_le {x : Sh} (h : ShOk x) : 0 ≤ backS x ∧ backS x ≤ 19140298416324608 ∧ 0 ≤ onS x ∧ onS x ≤ 19140298416324608 := by
  have h1 := have_amt h.p x.side
  have h2 := sums_le x.side (held_le h.p)
  have h3 := h.p.l
  unfold backS onS
  omega
theorem ms_le : ∀ {m : Ms}, (∀ x ∈ m, ShOk x.2) → 0 ≤ sumS backS m ∧ sumS backS m ≤ 19140298416324608 * m.length ∧ 0 ≤ sumS onS m ∧ sumS onS m ≤ 19140298416324608 * m.length
  | [], _ => by simp [sumS]
  | x :: m, hh => by
    obtain ⟨h1, h2, h3, h4⟩ := ms_le (m := m) (fun y hy => hh y (List.mem_cons_of_mem _ hy))
    have h5 := sh_le (hh x List.mem_cons_self)
    simp only [sumS, List.length_cons]
    omega
theorem shc_side {w : World} {b : Nat} {T : TypeId} {x : Sh} (h : Blk w b (.cells (shc x).toArray T)) {j : Nat} (hj : j < 2) : Row w b (0 + 0 + 9 + j * 1) [.int .i64 (haveP x.p (j : Int))] := by
  have l8 : (dc x.p.name).length = 8 := dc_length _
  rcases (show j = 0 ∨ j = 1 by omega) with rfl | rfl
  · exact Row.of h (dc x.p.name ++ [.int .i64 x.p.num]) [.int .i64 x.p.h1, x.s, .int .i64 x.side] (by simp [shc, pc, haveP]) (by simp [l8])
  · exact Row.of h (dc x.p.name ++ [.int .i64 x.p.num, .int .i64 x.p.h0]) [x.s, .int .i64 x.side] (by simp [shc, pc, haveP]) (by simp [l8])
theorem shc_held {w : World} {b : Nat} {T : TypeId} {x : Sh} (h : Blk w b (.cells (shc x).toArray T)) : Row w b (0 + 0 + 11) [.slice x.a x.p.held.length x.c] := by
  have l8 : (dc x.p.name).length = 8 := dc_length _
  exact Row.of h (dc x.p.name ++ [.int .i64 x.p.num, .int .i64 x.p.h0, .int .i64 x.p.h1]) [.int .i64 x.side] (by simp [shc, pc, Sh.s]) (by simp [l8])
attribute [local irreducible] CG NG SG Vals Der Row Blk MapIs IterAt chkL DerR DerX
set_option maxHeartbeats 32000000 in
theorem worth_spec {w : World} {bh bs bp : Nat} {win : Int} {ms : Ms} {mp : Mp} (hH : HubAt w bh bs bp win ms mp) (hlen : ms.length ≤ 16) (hok : ∀ x ∈ ms, ShOk x.2) : Ret Tryz.prog 35 #[.pointer (some ⟨bh, 0, none⟩)] w (.tuple #[.int .i64 (sumS backS ms), .int .i64 (sumS onS ms)]) := by
  refine enter1 Tryz.func35 rfl Tryz.ntmps35 rfl ?_
  obtain ⟨-, r1, -⟩ := hH.rows
  repeat (first|apply cA|apply cB|apply cD|apply cE|refine cV rfl rfl rfl rfl (by first|((first|apply qep|apply qmv|apply qas|apply qep)<;>(exact rfl))|fail) ?_)
  refine dB rfl (by exact rho_of rfl) rfl ?_
  repeat (first|apply cA|apply cB|apply cD|apply cE|apply cF|refine cV rfl rfl rfl rfl (by first|((first|apply qmv|apply qas|apply qlc|apply qfa|apply qnc)<;>(first|exact rfl|assumption|exact List.not_mem_nil))|fail) ?_)
  refine SG.range rfl rfl rfl (by exact rho_of rfl) hH.sh (fun r w2 hk2 hr2 hI => ?_)
  repeat (first|apply cD|apply cE|apply cG)
  refine CG.loop (X := Ms × Ms × Option (Dg × Sh)) (fun x => [(4, .int .i64 (sumS backS x.1)), (5, .int .i64 (sumS onS x.1)), (16, .pointer (some ⟨r, 0, none⟩))])
    (fun x w' => Kp [r] w2 w' ∧ IterAt w' r bs (dv (n := 8)) shv ms x.2.1 x.2.2 ∧ (x.1 ++ x.2.1).Perm ms) (fun x => x.2.1.length) ([], ms, none) ⟨Kp.refl _ _, hI, by simp⟩ (by (repeat' (first | exact True.intro | exact rfl | refine And.intro ?_ ?_))) ?_
  rintro ⟨done, left, cur⟩ w3 ⟨hk3, hI, hp⟩
  simp only at hI hp
  have k3 : Kp [] w w3 := hk2.trans_new hk3 (new1 (by omega))
  clear r1
  refine CG.to [(4, .int .i64 (sumS backS done)), (5, .int .i64 (sumS onS done)), (16, .pointer (some ⟨r, 0, none⟩))] (by (repeat' (first | exact True.intro | exact rfl | refine And.intro ?_ ?_))) ?_
  repeat (first|apply cA|apply cB)
  refine SG.next rfl rfl rfl (by exact rho_of rfl) hI (fun h0 => ?_) (fun pre x post w4 hl4 hk4 hI4 => ?_)
  · subst h0
    rw [List.append_nil] at hp
    rw [← sumS_perm backS hp, ← sumS_perm onS hp]
    repeat (first|apply cA|apply cD|apply cE|refine cV rfl rfl rfl rfl (by first|(apply qxt<;>(exact rfl))|fail) ?_)
    refine dB rfl (by exact rho_of rfl) rfl ?_
    repeat (first|apply cA|apply cB|apply cD|apply cE|apply cH|apply cJ|apply cM|refine cN rfl ?_|refine cV rfl rfl rfl rfl (by first|((first|apply qmv|apply qas)<;>(exact rfl))|fail) ?_)
    refine ret2 (Or.inl rfl) Tryz.results35 (by first | exact ResV.tmp rfl | exact ResV.agg rfl rfl (by assumption) (by first | exact dc_length _ | exact nc_length _ | exact rc_length _ _ _ | exact ec_length _ | exact dl_length _ _ _ _ | rfl) | exact ResV.cell rfl rfl (by assumption)) (by first | exact ResV.tmp rfl | exact ResV.agg rfl rfl (by assumption) (by first | exact dc_length _ | exact nc_length _ | exact rc_length _ _ _ | exact ec_length _ | exact dl_length _ _ _ _ | rfl) | exact ResV.cell rfl rfl (by assumption)) ?_
    exact ⟨rfl, k3⟩
  · have hxm : x ∈ ms := hp.mem_iff.1 (by rw [hl4]; simp)
    have hx := hok x hxm
    have hat := hH.at' x hxm
    have hlx := hx.p.l
    have hle := held_le hx.p
    obtain ⟨j, hj, hj2⟩ : ∃ j : Nat, x.2.side = (j : Int) ∧ j < 2 := ⟨x.2.side.toNat, by have := hx.s0; omega, by have := hx.s0; have := hx.s1; omega⟩
    have hdl : done.length ≤ 15 := by
      have := hp.length_eq
      rw [hl4] at this
      simp at this
      omega
    obtain ⟨d1, d2, d3, d4⟩ := ms_le (m := done) (fun y hy => hok y (hp.mem_iff.1 (by simp [hy])))
    have hv := have_amt hx.p x.2.side
    repeat (first|apply cA|apply cD|apply cE|refine cV rfl rfl rfl rfl (by first|(apply qxt<;>(exact rfl))|fail) ?_)
    refine dA rfl (by exact rho_of rfl) rfl ?_
    have s4 := hk4.size
    have k4 : Kp [] w w4 := k3.trans_new hk4 (new1 (by omega))
    repeat (first|apply cA|apply cB|apply cE|apply cF|apply cG|refine cV rfl rfl rfl rfl (by first|((first|apply qen|apply qxt|apply qen)<;>(first|exact rfl|assumption|exact List.not_mem_nil))|fail) ?_)
    refine SG.alloc rfl rfl rfl (fun b7 w5 hk5 hb7 hB7 => ?_)
    refine SG.setAll (l := shc x.2) rfl rfl (by exact rho_of rfl) (by exact rho_of rfl) hB7 (shc_length _) rfl (shc_one _) (fun w6 hk6 hB7 => ?_)
    have hB7 : Blk w6 b7 (.cells (shc x.2).toArray 72) := hB7
    have k46 : Kp [] w4 w6 := hk5.trans_new hk6 (new1 (by omega))
    have hI6 := hI4.kp0 k46
    have k6 := k4.trans k46
    obtain ⟨-, -, q2, -⟩ := shc_rows hB7
    have q3 := shc_side hB7 hj2
    have q4 := shc_held hB7
    rw [← hj] at q3
    clear hB7 hb7 hk5 hk6
    repeat (first|apply cA|apply cB|apply cD|apply cE|apply cG|refine cV rfl rfl rfl rfl (by first|((first|apply qia|apply qmv|apply qas|apply qlc|apply qfa|apply qad|apply qln)<;>(first|exact rfl|assumption|exact Ar.mk (by omega)|exact List.not_mem_nil|fail))|fail) ?_)
    refine CG.loop (X := Nat) (fun i => [(4, .int .i64 (sumS backS done + haveP x.2.p x.2.side + ownS x.2.side (x.2.p.held.take i))), (5, .int .i64 (sumS onS done + haveP x.2.p x.2.side + othS x.2.side (x.2.p.held.take i))), (16, .pointer (some ⟨r, 0, none⟩)), (7, .pointer (some ⟨b7, 0, none⟩)), (39, .slice x.2.a x.2.p.held.length x.2.c), (40, .int .i64 (x.2.p.held.length : Int)), (41, .int .i64 (i : Int))]) (fun i w' => i ≤ x.2.p.held.length ∧ Kp [] w6 w') (fun i => x.2.p.held.length - i) 0 ⟨Nat.zero_le _, Kp.refl _ _⟩ ?_ ?_
    · refine ⟨?_, ?_, rfl, rfl, rfl, rfl, rfl, True.intro⟩
      · show _ = some (Value.int .i64 (sumS backS done + haveP x.2.p x.2.side + 0))
        rw [Int.add_zero]
        rfl
      · show _ = some (Value.int .i64 (sumS onS done + haveP x.2.p x.2.side + 0))
        rw [Int.add_zero]
        rfl
    rintro i w7 ⟨hi, hk7⟩
    have q2 := q2.kp0 hk7
    by_cases hlt : i < x.2.p.held.length
    · have g1 : (i : Int) < (x.2.p.held.length : Int) := by omega
      obtain ⟨ba, oa, hba, hri⟩ := (hat.sl.kp0 (k6.trans hk7)).at hlt
      have hsn := ownS_snoc (s := x.2.side) hlt
      have hsn' := othS_snoc (s := x.2.side) hlt
      obtain ⟨e1, e2, e3, e4⟩ := sums_le x.2.side (l := x.2.p.held.take i) (fun h hm => hle h (List.mem_of_mem_take hm))
      have e5 := hle _ (List.getElem_mem hlt)
      have e6 : (x.2.p.held.take i).length ≤ 16 := by rw [List.length_take]; omega
      rw [hba]
      repeat (first|apply cA|apply cB|apply cD|apply cE|refine cV rfl rfl rfl rfl (by first|(apply qls<;>(first|exact rfl|exact dct (by first|assumption|omega)|fail))|fail) ?_)
      refine dA rfl (by exact rho_of rfl) rfl ?_
      repeat (first|apply cA|apply cB|apply cE|apply cF|apply cG|refine cV rfl rfl rfl rfl (by first|((first|apply qla|apply qix)<;>(first|exact rfl|assumption|exact Ar.mk (by omega)|exact List.not_mem_nil|apply hc_length|fail))|fail) ?_)
      refine SG.alloc rfl rfl rfl (fun b9 w8 hk8 hb9 hB9 => ?_)
      refine SG.setAll (l := hc x.2.p.held[i]) rfl rfl (by exact rho_of rfl) (by exact rho_of rfl) hB9 (hc_length _) rfl (hc_one _) (fun w9 hk9 hB10 => ?_)
      have hB10 : Blk w9 b9 (.cells (hc x.2.p.held[i]).toArray 86) := hB10
      have k79 : Kp [] w7 w9 := hk8.trans_new hk9 (new1 (by omega))
      obtain ⟨-, p1, p2, -, -⟩ := hc_rows hB10
      have q2 := q2.kp0 k79
      clear hri
      by_cases hsd : x.2.p.held[i].side = x.2.side
      · rw [if_pos hsd] at hsn hsn'
        rw [Int.add_zero] at hsn'
        repeat (first|apply cA|apply cB|apply cD|apply cE|refine cV rfl rfl rfl rfl (by first|((first|apply qlc|apply qfa|apply qei)<;>(first|exact rfl|assumption|exact dct (by first|assumption|omega)|exact List.not_mem_nil|fail))|fail) ?_)
        refine dA rfl (by exact rho_of rfl) rfl ?_
        repeat (first|apply cB|apply cD|apply cE|apply cU|refine cV rfl rfl rfl rfl (by first|((first|apply qmv|apply qas|apply qlc|apply qfa|apply qad)<;>(first|exact rfl|assumption|exact Ar.mk (by omega)|exact List.not_mem_nil|fail))|fail) ?_)
        refine NG.round (i + 1) ?_ ⟨by omega, hk7.trans k79⟩ (by omega)
        rw [hsn, hsn', ← Int.add_assoc]
        (repeat' (first | exact True.intro | exact rfl | refine And.intro ?_ ?_))
      · rw [if_neg hsd] at hsn hsn'
        rw [Int.add_zero] at hsn
        repeat (first|apply cA|apply cB|apply cD|apply cE|refine cV rfl rfl rfl rfl (by first|((first|apply qlc|apply qfa|apply qei)<;>(first|exact rfl|assumption|exact dcf (by first|assumption|omega)|exact List.not_mem_nil|fail))|fail) ?_)
        refine dB rfl (by exact rho_of rfl) rfl ?_
        repeat (first|apply cB|apply cD|apply cE|apply cU|refine cV rfl rfl rfl rfl (by first|((first|apply qmv|apply qas|apply qlc|apply qfa|apply qad)<;>(first|exact rfl|assumption|exact Ar.mk (by omega)|exact List.not_mem_nil|fail))|fail) ?_)
        refine NG.round (i + 1) ?_ ⟨by omega, hk7.trans k79⟩ (by omega)
        rw [hsn, hsn', ← Int.add_assoc]
        (repeat' (first | exact True.intro | exact rfl | refine And.intro ?_ ?_))
    · have g1 : ¬ (i : Int) < (x.2.p.held.length : Int) := by omega
      rw [List.take_of_length_le (by omega)]
      repeat (first|apply cA|apply cB|apply cD|apply cE|refine cV rfl rfl rfl rfl (by first|(apply qls<;>(first|exact rfl|exact dcf (by first|assumption|omega)|fail))|fail) ?_)
      refine dB rfl (by exact rho_of rfl) rfl ?_
      repeat (first|apply cJ|apply cM|refine cN rfl ?_|apply cU)
      refine NG.round (done ++ [x], pre ++ post, some x) ?_ ⟨(hk3.trans hk4).trans (k46.trans hk7).any, hI6.kp0 hk7, ?_⟩ (by simp only; rw [hl4]; simp)
      · simp only
        rw [sumS_app, sumS_app]
        show SubE [(4, .int .i64 (sumS backS done + (haveP x.2.p x.2.side + ownS x.2.side x.2.p.held + 0))), (5, .int .i64 (sumS onS done + (haveP x.2.p x.2.side + othS x.2.side x.2.p.held + 0))), _] _
        rw [Int.add_zero, Int.add_zero, ← Int.add_assoc, ← Int.add_assoc]
        (repeat' (first | exact True.intro | exact rfl | refine And.intro ?_ ?_))
      · simp only
        rw [hl4] at hp
        refine List.Perm.trans ?_ hp
        rw [List.append_assoc, List.singleton_append]
        exact List.Perm.append_left _ List.perm_middle.symm
end Go.Proofs.YtajllbdeoopimaaGreat
namespace Go.Proofs.YtajllbdeoopimaaGreat
set_option linter.unusedVariables false
/-- A fence that bars nothing. -/
def Wf (F : Fence) : Prop := F = Fence.wide ∨ ∃ l, F = Fence.wide.inRound l
theorem Wf.wide : Wf Fence.wide := Or.inl rfl
theorem Wf.round (l : Nat) : Wf (Fence.wide.inRound l) := Or.inr ⟨l, rfl⟩
theorem Wf.fn {F : Fence} (h : Wf F) (f : FuncId) : F.fn f := by
  rcases h with rfl | ⟨l, rfl⟩ <;> exact trivial
theorem Wf.depth {F : Fence} (h : Wf F) : ¬ F.depth.isSome = true := by
  rcases h with rfl | ⟨l, rfl⟩ <;> exact fun h => by cases h
theorem Wf.calls {F : Fence} (h : Wf F) {n : Nat} {P : Program} {f : FuncId} {args : Array Value} {w : World} {R : Ending → World → Prop} (hc : Calls P f args w R) : CallsIn F n P f args w R := by
  rcases h with rfl | ⟨l, rfl⟩
  · exact callsIn_wide.2 hc
  · exact (callsIn_wide (n := n)).2 hc
theorem Wf.rows {F : Fence} (h : Wf F) {n : Nat} {P : Program} {row : String} {args : Array Value} {w : World} {R : Value → World → Prop} (hc : Rows P row args w R) : RowsIn F n P row args w R := by
  have h1 : RowsIn Fence.wide n P row args w R := fun c cs _ => by
    obtain ⟨v, w', r, s⟩ := hc c cs
    exact ⟨v, w', r, stepsIn_wide.2 s⟩
  rcases h with rfl | ⟨l, rfl⟩ <;> exact h1
def isDefer : Op → Bool
  | .defer .. => true
  | _ => false
theorem not_defer {o : Op} (h : isDefer o = false) : ∀ c, o ≠ .defer c := fun c e => by
  rw [e] at h
  cases h
section
variable {P : Program} {n : Nat} {Q : Exit → Act → World → Prop} {L : Env} {w : World}
/-- A region in text order, walked under whatever fence bars nothing. -/
theorem wpList_in {F : Fence} {m : Nat} (hF : Wf F) (hQ : ¬ LetsOut Q) {ops : Array Oper} : ∀ {rest : List Oper} {a : Act} {w : World}, rest.all (fun o => !isDefer o.op) = true → wpList P ops Q rest a w → wpListIn F m P ops Q rest a w
  | [], a, w, _, h => h
  | o :: rest, a, w, hd, h => by
    simp only [List.all_cons, Bool.and_eq_true, Bool.not_eq_true'] at hd
    obtain ⟨hd1, hd2⟩ := hd
    have ih : ∀ {a : Act} {w : World}, wpList P ops Q rest a w → wpListIn F m P ops Q rest a w := fun h => wpList_in hF hQ hd2 h
    simp only [wpList] at h
    simp only [wpListIn]
    split
    · rename_i hw
      rw [if_pos hw] at h
      rcases h with h | h
      · refine ⟨fun f _ => hF.fn f, ?_⟩
        rw [Oper.semAt_eq _ _ _ (not_defer hd1)]
        unfold Oper.wp at h
        generalize (execOp a.eval o).run P w = r at *
        cases r with
        | ok x w' =>
          cases x <;> simp only [Oper.upon, Oper.uponIn] at h ⊢ <;> try exact h.elim
          case value v => exact ih h
          case skip => exact ih h
          case defer d => exact ih h
          case enter f args => exact ⟨fun hh => absurd hh hF.depth, hF.calls (Calls.mono h (fun e w'' hh => by cases e <;> first | exact ih hh | exact hh))⟩
          case row row args => exact ⟨fun hh => absurd hh hF.depth, hF.rows (Rows.mono h (fun v w'' hh => ih hh))⟩
        | halt x w' => cases x <;> exact h
      · exact absurd h.2 hQ
    · rename_i hw
      rw [if_neg hw] at h
      exact ⟨fun f _ => hF.fn f, ih h⟩
/-- A region walked at the wide fence: a call of yield may stand in it. -/
def SY (P : Program) (n : Nat) (ops : List Oper) (Q : Exit → Act → World → Prop) (rest : List Oper) (L : Env) (w : World) : Prop := ∀ a, Fits n a L → wpListIn Fence.wide 0 P ops.toArray Q rest a w
theorem CG.regionY {id : Nat} {ops : List Oper} (h : SY P n ops Q ops L w) : CG P n (.region id ops.toArray false) Q L w := fun a ha => wpIn_wide.1 (wpIn_region_lit (h a ha))
theorem SY.nil {ops : List Oper} (h : NG n .normal Q L w) : SY P n ops Q [] L w := fun a ha => h a ha
theorem SY.op {ops : List Oper} {o : Oper} {rest : List Oper} {R : Value → World → Prop} (hd : o.dst.all (fun d => Nat.blt d n) = true) (hw : want ops L o = some true) (hk : o.op.operands.toList.all (known L) = true)
    (hr : ∀ a : Act, (∀ x ∈ o.op.operands, rho L x = a.eval x) → ∀ K : Act → World → Prop, (∀ v w', R v w' → K (a.put o.dst v) w') → o.wpIn Fence.wide 0 P a w K Q)
    (hn : ∀ v w', R v w' → SY P n ops Q rest (addD o.dst v L) w') : SY P n ops Q (o :: rest) L w := by
  intro a ha
  have hlk : ∀ t ∈ lks ops o, ∀ v, look L t = some v → a.tmps[t]? = some v := fun t _ v hv => ha.slot t v hv
  have hwn := wanted_of hlk hw
  simp only [wpListIn]
  rw [if_pos hwn]
  refine hr a (eval_of hlk hk) _ (fun v w' hR => hn v w' hR _ ?_)
  cases hdd : o.dst with
  | none => exact ha
  | some d =>
    rw [hdd] at hd
    exact ha.put d v (by simpa [Nat.blt_eq] using hd)
theorem SY.val {ops : List Oper} {rest : List Oper} {d : Nat} {op : Op} {ty : TypeId} {pos : String} {af : Array Edge} {g : Option (Nat × Bool)} {v : Value}
    (hd : Nat.blt d n = true) (hs : isSelect op = false) (hdf : isDefer op = false) (hw : want ops L ⟨some d, op, ty, pos, af, g⟩ = some true) (hk : op.operands.toList.all (known L) = true) (hv : Vals P [] w (fun _ => True) L ⟨some d, op, ty, pos, af, g⟩ v)
    (hr : SY P n ops Q rest ((d, v) :: L) w) : SY P n ops Q (⟨some d, op, ty, pos, af, g⟩ :: rest) L w := by
  refine SY.op (R := fun v' w' => v' = v ∧ w' = w) (by simpa using hd) hw hk (fun a he K hK => ?_) (fun v' w' h => by obtain ⟨rfl, rfl⟩ := h; exact hr)
  refine ⟨fun f _ => trivial, ?_⟩
  rw [Oper.semAt_eq _ _ _ (not_defer hdf), ← execOp_congr ⟨some d, op, ty, pos, af, g⟩ (fun cs b e => by simp only at e; rw [e] at hs; cases hs) he, hv w (Kp.refl _ _) trivial]
  exact hK _ _ ⟨rfl, rfl⟩
/-- A call of yield. -/
theorem SY.yield {ops : List Oper} {rest : List Oper} {d : Nat} {ty : TypeId} {pos : String} {af : Array Edge} {g : Option (Nat × Bool)} {x y : Operand} {tys : Array TypeId} {l : Nat} {v : Value} {R : Ending → World → Prop}
    (hd : Nat.blt d n = true) (hw : want ops L ⟨some d, .call ⟨.value x, #[y], tys⟩, ty, pos, af, g⟩ = some true) (hk : (Op.call ⟨.value x, #[y], tys⟩).operands.toList.all (known L) = true)
    (hx : rho L x = .func (.yield l) #[] #[]) (hy : rho L y = v) (h : YieldAt Fence.wide 0 P l #[v] w R) (hR : ∀ e w', R e w' → ∃ u, e = .returned u ∧ SY P n ops Q rest ((d, u) :: L) w') : SY P n ops Q (⟨some d, .call ⟨.value x, #[y], tys⟩, ty, pos, af, g⟩ :: rest) L w := by
  obtain ⟨fn, tmps, assign, body, hrun, hround⟩ := h
  refine SY.op (R := fun u w' => R (.returned u) w') (by simpa using hd) hw hk (fun a he K hK => ?_) (fun u w' h => ?_)
  · refine ⟨fun f _ => trivial, ?_⟩
    rw [Oper.semAt_eq _ _ _ (not_defer rfl), ← execOp_congr ⟨some d, .call ⟨.value x, #[y], tys⟩, ty, pos, af, g⟩ (fun cs b e => by cases e) he]
    have : (execOp (rho L) ⟨some d, .call ⟨.value x, #[y], tys⟩, ty, pos, af, g⟩).run P w = .ok (.round l fn tmps assign body) w := by
      simp only [execOp, resolve, Deferred.ofValue, invoke, Sem.run_bind, Sem.run_pure, Result.andThen_ok, List.map_toArray, List.map_cons, List.map_nil, hx, hy]
      simpa using hrun
    rw [this, Oper.uponIn_round]
    refine ⟨fun hh => absurd hh Wf.wide.depth, RoundIn.mono hround (fun e w' he => ?_)⟩
    obtain ⟨u, rfl, _⟩ := hR e w' he
    exact hK _ _ he
  · obtain ⟨u', e1, e2⟩ := hR _ _ h
    cases e1
    exact e2
end
end Go.Proofs.YtajllbdeoopimaaGreat
namespace Go.Proofs.YtajllbdeoopimaaGreat
set_option linter.unusedVariables false
theorem Blk.walks {w w' : World} {b : Nat} {o : Obj} (h : Blk w b o) (hk : KeepsWalks w w') (ho : o.isWalk = true) : Blk w' b o := hk.same b o h ho
theorem IterAt.walks {κ ν : Type} {w w' : World} {r b : Nat} {enc : κ → Value} {V : ν → Value} {m left : List (κ × ν)} {cur : Option (κ × ν)} (h : IterAt w r b enc V m left cur) (hk : KeepsWalks w w') : IterAt w' r b enc V m left cur := by
  obtain ⟨es, c, seen, h1, h2, h3, h4, h5, h6⟩ := h
  exact ⟨es, c, seen, h1.walks hk rfl, h2, h3, h4.walks hk rfl, h5, h6⟩
theorem IterAt.isw {κ ν : Type} {w : World} {r b : Nat} {enc : κ → Value} {V : ν → Value} {m left : List (κ × ν)} {cur : Option (κ × ν)} (h : IterAt w r b enc V m left cur) : ∃ o, Blk w r o ∧ o.isWalk = true := by
  obtain ⟨es, c, seen, h1, h2, h3, h4, h5, h6⟩ := h
  exact ⟨_, h4, rfl⟩
/-- What an iterator keeps of its caller's. -/
structure Jk (n0 : Nat) (J : List Dg → World → Prop) : Prop where
  new : ∀ pre W W', J pre W → Kp [] W W' → J pre W'
  it : ∀ pre r W W', J pre W → n0 ≤ r → (∃ o, Blk W r o ∧ o.isWalk = true) → Kp [r] W W' → J pre W'
/-- A round. -/
def Rd (l N : Nat) (J : List Dg → World → Prop) : Prop := ∀ pre (x : Dg) W, J pre W → pre.length < N → YieldAt Fence.wide 0 Tryz.prog l #[dv x] W (fun e W' => e = .returned (.bool true) ∧ J (pre ++ [x]) W' ∧ KeepsWalks W W')
attribute [local irreducible] CG NG SG SY Vals Der Row Blk MapIs IterAt chkL DerR DerX
set_option maxHeartbeats 32000000 in
theorem keysP1_spec {w : World} {bm b l : Nat} {m : List (Dg × Pr)} (hc : Row w bm 0 [.map (some b)]) (hm : MapIs w b (dv (n := 8)) prv m) (J : List Dg → World → Prop) (hJ : Jk w.heap.size J) (hY : Rd l m.length J) (h0 : J [] w) :
    Calls Tryz.prog 71 #[.func (.yield l) #[] #[], .pointer (some ⟨bm, 0, none⟩)] w (fun e w' => (∃ v, e = .returned v) ∧ ∃ xs : List Dg, xs.Perm (m.map (·.1)) ∧ J xs w') := by
  refine enter2 Tryz.func71 rfl Tryz.ntmps71 rfl ?_
  repeat (first|apply cA|apply cB|refine cV rfl rfl rfl rfl (by first|(apply qlc<;>(first|exact rfl|assumption|exact List.not_mem_nil))|fail) ?_)
  refine SG.range rfl rfl rfl (by exact rho_of rfl) hm (fun r w2 hk2 hr2 hI => ?_)
  repeat (first|apply cD|apply cE|apply cG)
  refine CG.loop (X := List (Dg × Pr) × List (Dg × Pr) × Option (Dg × Pr)) (fun x => [(0, .func (.yield l) #[] #[]), (5, .pointer (some ⟨r, 0, none⟩))])
    (fun x w' => IterAt w' r b (dv (n := 8)) prv m x.2.1 x.2.2 ∧ (x.1 ++ x.2.1).Perm m ∧ J (x.1.map (·.1)) w') (fun x => x.2.1.length) ([], m, none) ⟨hI, by simp, hJ.new _ _ _ h0 hk2⟩ (by (repeat' (first | exact True.intro | exact rfl | refine And.intro ?_ ?_))) ?_
  rintro ⟨done, left, cur⟩ w3 ⟨hI, hp, hj⟩
  simp only at hI hp hj
  repeat (first|apply cA|apply cB)
  refine SG.next rfl rfl rfl (by exact rho_of rfl) hI (fun h0 => ?_) (fun pre x post w4 hl4 hk4 hI4 => ?_)
  · subst h0
    rw [List.append_nil] at hp
    repeat (first|apply cA|apply cD|apply cE|refine cV rfl rfl rfl rfl (by first|(apply qxt<;>(exact rfl))|fail) ?_)
    refine dB rfl (by exact rho_of rfl) rfl ?_
    repeat (first|apply cJ|apply cM|refine cN rfl ?_)
    refine ret0 (Or.inr rfl) Tryz.results71 ?_
    exact ⟨⟨_, rfl⟩, _, hp.map _, hj⟩
  · have hj4 : J (done.map (·.1)) w4 := hJ.it _ _ _ _ hj hr2 hI.isw hk4
    have hlen : (done.map (·.1)).length < m.length := by
      have := hp.length_eq
      rw [hl4] at this
      simp at this ⊢
      omega
    repeat (first|apply cA|apply cD|apply cE|refine cV rfl rfl rfl rfl (by first|(apply qxt<;>(exact rfl))|fail) ?_)
    refine dA rfl (by exact rho_of rfl) rfl ?_
    repeat (first|apply cA|apply cB|apply cE|apply cF|apply cG|refine cV rfl rfl rfl rfl (by first|((first|apply qen|apply qxt|apply qen)<;>(first|exact rfl|assumption|exact List.not_mem_nil))|fail) ?_)
    refine SG.alloc rfl rfl rfl (fun b3 w5 hk5 hb3 hB3 => ?_)
    refine SG.setAll (l := dc x.1) rfl rfl (by exact rho_of rfl) (by exact rho_of rfl) hB3 (dc_length _) rfl (dc_one _) (fun w6 hk6 hB3 => ?_)
    have k46 : Kp [] w4 w6 := hk5.trans_new hk6 (new1 (by omega))
    have hB3 : Blk w6 b3 (.cells (dc x.1).toArray 44) := hB3
    have hR3 : Row w6 b3 0 (dc x.1) := Row.all hB3 rfl
    have hI6 := hI4.kp0 k46
    refine cD ?_
    refine cE ?_
    repeat (first | refine CG.scope ?_ | refine cA ?_)
    refine CG.regionY ?_
    repeat (refine SY.val rfl rfl rfl rfl rfl (by first|((first|apply qmv|apply qla)<;>(first|exact rfl|assumption|exact List.not_mem_nil|apply dc_length))|fail) ?_)
    refine SY.yield rfl rfl rfl (by exact rho_of rfl) (by exact rho_of rfl) (hY _ x.1 w6 (hJ.new _ _ _ hj4 k46) hlen) (fun e w7 hh => ?_)
    obtain ⟨rfl, hj7, hk7⟩ := hh
    refine ⟨_, rfl, ?_⟩
    have hI7 := hI6.walks hk7
    clear hR3
    repeat (refine SY.val rfl rfl rfl rfl rfl (by first|(apply qnt<;>(exact rfl))|fail) ?_)
    refine SY.nil ?_
    repeat (first|apply cE)
    refine dB rfl (by exact rho_of rfl) rfl ?_
    repeat (first|apply cF|apply cU)
    refine NG.round (done ++ [x], pre ++ post, some x) (by (repeat' (first | exact True.intro | exact rfl | refine And.intro ?_ ?_))) ⟨hI7, ?_, ?_⟩ (by simp only; rw [hl4]; simp)
    · simp only
      rw [hl4] at hp
      refine List.Perm.trans ?_ hp
      rw [List.append_assoc, List.singleton_append]
      exact List.Perm.append_left _ List.perm_middle.symm
    · simp only [List.map_append, List.map_cons, List.map_nil]
      exact hj7
set_option maxHeartbeats 32000000 in
theorem keysP_spec {w : World} {b : Nat} {m : List (Dg × Pr)} (hm : MapIs w b (dv (n := 8)) prv m) : Calls Tryz.prog 46 #[.map (some b)] w (fun e w' => ∃ bm, e = .returned (fnv 71 [.pointer (some ⟨bm, 0, none⟩)]) ∧ Kp [] w w' ∧ w.heap.size ≤ bm ∧ Row w' bm 0 [.map (some b)]) := by
  refine enter1 Tryz.func46 rfl Tryz.ntmps46 rfl ?_
  repeat (first|apply cA|apply cB)
  refine SG.box rfl rfl rfl (by exact rho_of rfl) (fun b1 w1 hk1 hb1 hB1 => ?_)
  have hB1 : Blk w1 b1 (.cells #[.map (some b)] 60) := hB1
  repeat (first|apply cA|apply cB|apply cD|apply cE|refine cV rfl rfl rfl rfl (by first|(apply qas<;>(exact rfl))|fail) ?_)
  refine cV rfl rfl rfl rfl (qmf (vs := [.pointer (some ⟨b1, 0, none⟩)]) rfl) ?_
  repeat (first|apply cD|apply cE|apply cH|refine cV rfl rfl rfl rfl (by first|(apply qas<;>(exact rfl))|fail) ?_)
  refine ret1 (Or.inl rfl) Tryz.results46 (by first | exact ResV.tmp rfl | exact ResV.agg rfl rfl (by assumption) (by first | exact dc_length _ | exact nc_length _ | exact rc_length _ _ _ | exact ec_length _ | exact dl_length _ _ _ _ | rfl) | exact ResV.cell rfl rfl (by assumption)) ?_
  exact ⟨b1, rfl, hk1, hb1, Row.of hB1 [] [] rfl rfl⟩
set_option maxHeartbeats 32000000 in
theorem keysS1_spec {w : World} {bm b l : Nat} {m : List (Dg × Sh)} (hc : Row w bm 0 [.map (some b)]) (hm : MapIs w b (dv (n := 8)) shv m) (J : List Dg → World → Prop) (hJ : Jk w.heap.size J) (hY : Rd l m.length J) (h0 : J [] w) :
    Calls Tryz.prog 86 #[.func (.yield l) #[] #[], .pointer (some ⟨bm, 0, none⟩)] w (fun e w' => (∃ v, e = .returned v) ∧ ∃ xs : List Dg, xs.Perm (m.map (·.1)) ∧ J xs w') := by
  refine enter2 Tryz.func86 rfl Tryz.ntmps86 rfl ?_
  repeat (first|apply cA|apply cB|refine cV rfl rfl rfl rfl (by first|(apply qlc<;>(first|exact rfl|assumption|exact List.not_mem_nil))|fail) ?_)
  refine SG.range rfl rfl rfl (by exact rho_of rfl) hm (fun r w2 hk2 hr2 hI => ?_)
  repeat (first|apply cD|apply cE|apply cG)
  refine CG.loop (X := List (Dg × Sh) × List (Dg × Sh) × Option (Dg × Sh)) (fun x => [(0, .func (.yield l) #[] #[]), (5, .pointer (some ⟨r, 0, none⟩))])
    (fun x w' => IterAt w' r b (dv (n := 8)) shv m x.2.1 x.2.2 ∧ (x.1 ++ x.2.1).Perm m ∧ J (x.1.map (·.1)) w') (fun x => x.2.1.length) ([], m, none) ⟨hI, by simp, hJ.new _ _ _ h0 hk2⟩ (by (repeat' (first | exact True.intro | exact rfl | refine And.intro ?_ ?_))) ?_
  rintro ⟨done, left, cur⟩ w3 ⟨hI, hp, hj⟩
  simp only at hI hp hj
  repeat (first|apply cA|apply cB)
  refine SG.next rfl rfl rfl (by exact rho_of rfl) hI (fun h0 => ?_) (fun pre x post w4 hl4 hk4 hI4 => ?_)
  · subst h0
    rw [List.append_nil] at hp
    repeat (first|apply cA|apply cD|apply cE|refine cV rfl rfl rfl rfl (by first|(apply qxt<;>(exact rfl))|fail) ?_)
    refine dB rfl (by exact rho_of rfl) rfl ?_
    repeat (first|apply cJ|apply cM|refine cN rfl ?_)
    refine ret0 (Or.inr rfl) Tryz.results86 ?_
    exact ⟨⟨_, rfl⟩, _, hp.map _, hj⟩
  · have hj4 : J (done.map (·.1)) w4 := hJ.it _ _ _ _ hj hr2 hI.isw hk4
    have hlen : (done.map (·.1)).length < m.length := by
      have := hp.length_eq
      rw [hl4] at this
      simp at this ⊢
      omega
    repeat (first|apply cA|apply cD|apply cE|refine cV rfl rfl rfl rfl (by first|(apply qxt<;>(exact rfl))|fail) ?_)
    refine dA rfl (by exact rho_of rfl) rfl ?_
    repeat (first|apply cA|apply cB|apply cE|apply cF|apply cG|refine cV rfl rfl rfl rfl (by first|((first|apply qen|apply qxt|apply qen)<;>(first|exact rfl|assumption|exact List.not_mem_nil))|fail) ?_)
    refine SG.alloc rfl rfl rfl (fun b3 w5 hk5 hb3 hB3 => ?_)
    refine SG.setAll (l := dc x.1) rfl rfl (by exact rho_of rfl) (by exact rho_of rfl) hB3 (dc_length _) rfl (dc_one _) (fun w6 hk6 hB3 => ?_)
    have k46 : Kp [] w4 w6 := hk5.trans_new hk6 (new1 (by omega))
    have hB3 : Blk w6 b3 (.cells (dc x.1).toArray 44) := hB3
    have hR3 : Row w6 b3 0 (dc x.1) := Row.all hB3 rfl
    have hI6 := hI4.kp0 k46
    refine cD ?_
    refine cE ?_
    repeat (first | refine CG.scope ?_ | refine cA ?_)
    refine CG.regionY ?_
    repeat (refine SY.val rfl rfl rfl rfl rfl (by first|((first|apply qmv|apply qla)<;>(first|exact rfl|assumption|exact List.not_mem_nil|apply dc_length))|fail) ?_)
    refine SY.yield rfl rfl rfl (by exact rho_of rfl) (by exact rho_of rfl) (hY _ x.1 w6 (hJ.new _ _ _ hj4 k46) hlen) (fun e w7 hh => ?_)
    obtain ⟨rfl, hj7, hk7⟩ := hh
    refine ⟨_, rfl, ?_⟩
    have hI7 := hI6.walks hk7
    clear hR3
    repeat (refine SY.val rfl rfl rfl rfl rfl (by first|(apply qnt<;>(exact rfl))|fail) ?_)
    refine SY.nil ?_
    repeat (first|apply cE)
    refine dB rfl (by exact rho_of rfl) rfl ?_
    repeat (first|apply cF|apply cU)
    refine NG.round (done ++ [x], pre ++ post, some x) (by (repeat' (first | exact True.intro | exact rfl | refine And.intro ?_ ?_))) ⟨hI7, ?_, ?_⟩ (by simp only; rw [hl4]; simp)
    · simp only
      rw [hl4] at hp
      refine List.Perm.trans ?_ hp
      rw [List.append_assoc, List.singleton_append]
      exact List.Perm.append_left _ List.perm_middle.symm
    · simp only [List.map_append, List.map_cons, List.map_nil]
      exact hj7
set_option maxHeartbeats 32000000 in
theorem keysS_spec {w : World} {b : Nat} {m : List (Dg × Sh)} (hm : MapIs w b (dv (n := 8)) shv m) : Calls Tryz.prog 79 #[.map (some b)] w (fun e w' => ∃ bm, e = .returned (fnv 86 [.pointer (some ⟨bm, 0, none⟩)]) ∧ Kp [] w w' ∧ w.heap.size ≤ bm ∧ Row w' bm 0 [.map (some b)]) := by
  refine enter1 Tryz.func79 rfl Tryz.ntmps79 rfl ?_
  repeat (first|apply cA|apply cB)
  refine SG.box rfl rfl rfl (by exact rho_of rfl) (fun b1 w1 hk1 hb1 hB1 => ?_)
  have hB1 : Blk w1 b1 (.cells #[.map (some b)] 59) := hB1
  repeat (first|apply cA|apply cB|apply cD|apply cE|refine cV rfl rfl rfl rfl (by first|(apply qas<;>(exact rfl))|fail) ?_)
  refine cV rfl rfl rfl rfl (qmf (vs := [.pointer (some ⟨b1, 0, none⟩)]) rfl) ?_
  repeat (first|apply cD|apply cE|apply cH|refine cV rfl rfl rfl rfl (by first|(apply qas<;>(exact rfl))|fail) ?_)
  refine ret1 (Or.inl rfl) Tryz.results79 (by first | exact ResV.tmp rfl | exact ResV.agg rfl rfl (by assumption) (by first | exact dc_length _ | exact nc_length _ | exact rc_length _ _ _ | exact ec_length _ | exact dl_length _ _ _ _ | rfl) | exact ResV.cell rfl rfl (by assumption)) ?_
  exact ⟨b1, rfl, hk1, hb1, Row.of hB1 [] [] rfl rfl⟩
end Go.Proofs.YtajllbdeoopimaaGreat
open Go.RowKit
namespace Go.Proofs.YtajllbdeoopimaaGreat
set_option linter.unusedVariables false
section
variable {P : Program} {n : Nat} {Q : Exit → Act → World → Prop} {L : Env} {w : World}
theorem enterM {f : FuncId} {fn : Func} {c : Code} {args : List Value} {R : Ending → World → Prop} (hf : P.funcs[f]? = some fn) (hb : fn.body = some c) (hn : fn.ntmps = n) (hm : Nat.ble args.length n = true)
    (h : CG P n c (bodyPostM Fence.wide 0 P fn R) (argEnv 0 args) w) : Calls P f args.toArray w R := by
  refine callsIn_wide.1 (callsIn_of_wp_marks (n := 0) hf hb trivial (wpIn_wide.2 (h _ ⟨fun t v hv => ?_, ?_, rfl⟩)))
  · have := (look_argEnv args 0 t v hv).2
    have hlt : t < args.toArray.size := by
      have h2 := (List.getElem?_eq_some_iff.1 this).1
      simpa using h2
    simp only [Array.getElem?_append_left hlt]
    simpa using this
  · have := hm
    rw [Nat.ble_eq] at this
    simp [hn]
    omega
def lrec (a : Act) (fn : FuncId) (ps : Array Tmp) (assign body : Code) (D : Nat) (st : LoopState) (pe : Option Code) : Loop := { state := st, pending := pe, fn := fn, tmps := a.tmps, params := ps, assign := assign, body := body, defers := D }
theorem CG.rangeFunc {g : Operand} {ps : Array Tmp} {assign body : Code} {gf : FuncId} [F : Fnc P gf] {lb : Array Value} (hk : known L g = true) (hg : rho L g = .func (.func gf) #[] lb)
    (h : ∀ a, Fits n a L → ∀ (fn : FuncId) (rc : LoopState → Loop) (W1 : World), rc = (fun st => lrec a fn ps assign body w.heap.size st none) → Kp [] w W1 → W1.heap.size = w.heap.size + 2 → Blk W1 w.heap.size (.deferred (some [])) → Blk W1 (w.heap.size + 1) (.loop (rc .ready)) →
      Calls P gf (#[.func (.yield (w.heap.size + 1)) #[] #[]] ++ lb) W1 (fun e w3 => (∃ v, e = .returned v) ∧ Blk w3 (w.heap.size + 1) (.loop (rc .ready)) ∧
        Q .normal { a with defers := [{ target := .collected w.heap.size, args := #[] }] } (w3.putObj (w.heap.size + 1) (.loop (rc .exhausted))))) : CG P n (.rangeFunc g ps assign body) Q L w := by
  intro a ha
  refine (wpIn_wide (n := 0)).1 (wpIn_rangeFunc (fun fn hfn => ?_))
  have hev : a.eval g = .func (.func gf) #[] lb := by rw [ha.eval hk, hg]
  obtain ⟨W1, hW1⟩ : ∃ W1, (w.alloc (.deferred (some []))).alloc (.loop (lrec a fn ps assign body w.heap.size .ready none)) = W1 := ⟨_, rfl⟩
  have hk1 : Kp [] w W1 := by
    rw [← hW1]
    exact (Kp.push w (.deferred (some [])) rfl).trans (Kp.push (w.alloc (.deferred (some []))) (.loop (lrec a fn ps assign body w.heap.size .ready none)) rfl)
  have hs1 : W1.heap.size = w.heap.size + 2 := by rw [← hW1]; simp
  have hD1 : Blk W1 w.heap.size (.deferred (some [])) := by
    rw [← hW1]
    exact (Below.heap_alloc _ _ _ (by simp)).trans (World.alloc_heap_new w _)
  have hL1 : Blk W1 (w.heap.size + 1) (.loop (lrec a fn ps assign body w.heap.size .ready none)) := by
    rw [← hW1]
    have := World.alloc_heap_new (w.alloc (.deferred (some []))) (.loop (lrec a fn ps assign body w.heap.size .ready none))
    rwa [World.size_alloc] at this
  refine ⟨w.heap.size + 1, [{ target := .collected w.heap.size, args := #[] }], W1, { target := .fn (.func gf) lb, args := #[.func (.yield (w.heap.size + 1)) #[] #[]] }, W1, gf, #[.func (.yield (w.heap.size + 1)) #[] #[]] ++ lb, W1, ?_, ?_, fun f' hf' => trivial, ?_, fun hh => absurd hh Wf.wide.depth, ?_⟩
  · rw [← hW1]
    exact run_enterLoop_outer _ _ _ _ _
  · simp only [resolve, hev]
    simp [go_sem]
  · simp [invoke, go_sem, F.run]
  · have h0 : a.defers = [] := ha.defers
    rw [h0]
    refine callsIn_wide.2 ((h a ha fn _ W1 rfl hk1 hs1 hD1 hL1).mono (fun e w3 hh => ?_))
    obtain ⟨⟨v, rfl⟩, hL3, hQ⟩ := hh
    exact ⟨none, _, run_endLoop (P := P) hL3 (by simp [lrec]), hQ⟩
theorem NG.thenI {K : Act → World → Prop} (h : ∀ a, Fits n a L → K a w) : NG n .normal (Exit.then K Q) L w := fun a ha => h a ha
/-- A round, out of its two regions. -/
theorem round_of {l D id : Nat} {ops1 ops2 : List Oper} {i1 i2 : Nat} {fn : FuncId} {t : Nat} {a : Act} {v : Value} {R : Ending → World → Prop} {rc : LoopState → Loop} (hrc : rc = fun st => lrec a fn #[t] (.region i1 ops1.toArray false) (.block id (.region i2 ops2.toArray false)) D st none) (ha : Fits n a L) (ht : t < n) (hl : Blk w l (.loop (rc .ready)))
    (hd1 : ops1.all (fun o => !isDefer o.op) = true) (hd2 : ops2.all (fun o => !isDefer o.op) = true)
    (h : SG P n ops1 (Exit.then (fun a1 w1 => ∃ L1, Fits n a1 L1 ∧ Blk w1 l (.loop (rc .ready)) ∧ ∀ st, Kp [l] w1 st → Blk st l (.loop (rc .busy)) →
        SG P n ops2 (Exit.then (fun _ w2 => Blk w2 l (.loop (rc .busy)) ∧ ∀ w3, Kp [l] w2 w3 → Blk w3 l (.loop (rc .ready)) → R (.returned (.bool true)) w3) (fun _ _ _ => False)) ops2 L1 st) (fun _ _ _ => False)) ops1 ((t, v) :: L) w) :
    YieldAt Fence.wide 0 P l #[v] w R := by
  subst hrc
  refine ⟨fn, _, _, _, run_yield hl rfl, roundIn_of_wpIn trivial ?_⟩
  have hno : ∀ {K : Act → World → Prop}, ¬ LetsOut (Exit.then K (fun _ _ _ => False)) := fun h => by
    obtain ⟨a, w, h⟩ := h
    exact h
  have hfit : Fits n { tmps := a.tmps.setIfInBounds t v, defers := [] } ((t, v) :: L) := by
    have := ha.put t v ht
    refine ⟨fun u x hx => ?_, by simpa [Act.put] using this.size, rfl⟩
    have h1 := this.slot u x hx
    simpa [Act.put] using h1
  have hz : (Array.foldl (fun tmps x => match x with | (t, a) => Array.setIfInBounds tmps t a) a.tmps (#[t].zip #[v])) = a.tmps.setIfInBounds t v := by simp
  show (Code.region i1 ops1.toArray false).wpIn _ _ _ _ { tmps := Array.foldl (fun tmps x => match x with | (t, a) => Array.setIfInBounds tmps t a) a.tmps (#[t].zip #[v]), defers := [] } w
  rw [hz]
  refine wpIn_mono (wpIn_region_lit (wpList_in (Wf.round l) hno hd1 (h _ hfit))) (fun e a1 w1 hq => ?_)
  cases e <;> try exact False.elim hq
  obtain ⟨L1, hf, hl1, h2⟩ := hq
  refine ⟨_, run_beginRound hl1 rfl, wpIn_block (wpIn_mono (wpIn_region_lit (wpList_in (Wf.round l) hno hd2 (h2 _ (Kp.set w1 hl1 rfl rfl) (World.putObj_heap_same hl1.lt) a1 hf))) (fun e a2 w2 hq => ?_))⟩
  cases e <;> try exact False.elim hq
  obtain ⟨hl2, hR⟩ := hq
  exact ⟨_, _, run_endRound none hl2, hR _ (Kp.set w2 hl2 rfl rfl) (World.putObj_heap_same hl2.lt)⟩
structure FitsD (n : Nat) (ds : List Deferred) (a : Act) (L : Env) : Prop where
  fit : Fits n { a with defers := [] } L
  defers : a.defers = ds
theorem FitsD.mark {a : Act} {ds : List Deferred} (h : Fits n a L) : FitsD n ds { a with defers := ds } L := ⟨⟨h.slot, h.size, rfl⟩, rfl⟩
theorem FitsD.put {ds : List Deferred} {a : Act} (h : FitsD n ds a L) (d : Nat) (v : Value) (hd : d < n) : FitsD n ds (a.put (some d) v) ((d, v) :: L) := ⟨h.fit.put d v hd, h.defers⟩
def CD (P : Program) (n : Nat) (ds : List Deferred) (c : Code) (Q : Exit → Act → World → Prop) (L : Env) (w : World) : Prop := ∀ a, FitsD n ds a L → c.wp P Q a w
def SD (P : Program) (n : Nat) (ds : List Deferred) (ops : List Oper) (Q : Exit → Act → World → Prop) (rest : List Oper) (L : Env) (w : World) : Prop := ∀ a, FitsD n ds a L → wpList P ops.toArray Q rest a w
theorem CD.region {ds : List Deferred} {id : Nat} {ops : List Oper} {y : Code} (h : SD P n ds ops (Exit.then (y.wp P Q) Q) ops L w) : CD P n ds (.seq (.region id ops.toArray false) y) Q L w := fun a ha => wp_seq (wp_region_lit (h a ha))
theorem SD.nil {ds : List Deferred} {ops : List Oper} {y : Code} (h : CD P n ds y Q L w) : SD P n ds ops (Exit.then (y.wp P Q) Q) [] L w := fun a ha => wpList_nil (h a ha)
theorem SD.val {ds : List Deferred} {ops : List Oper} {rest : List Oper} {d : Nat} {op : Op} {ty : TypeId} {pos : String} {af : Array Edge} {g : Option (Nat × Bool)} {v : Value}
    (hd : Nat.blt d n = true) (hs : isSelect op = false) (hw : want ops L ⟨some d, op, ty, pos, af, g⟩ = some true) (hk : op.operands.toList.all (known L) = true) (hv : Vals P [] w (fun _ => True) L ⟨some d, op, ty, pos, af, g⟩ v)
    (hr : SD P n ds ops Q rest ((d, v) :: L) w) : SD P n ds ops Q (⟨some d, op, ty, pos, af, g⟩ :: rest) L w := by
  intro a ha
  have hlk : ∀ t ∈ lks ops ⟨some d, op, ty, pos, af, g⟩, ∀ v, look L t = some v → a.tmps[t]? = some v := fun t _ v hv => ha.fit.slot t v hv
  have hwn := wanted_of hlk hw
  refine wpList_step (fun K hK => ?_)
  rw [if_pos hwn]
  have hrun : OpRun P (rho L) ⟨some d, op, ty, pos, af, g⟩ w (fun v' w' => v' = v ∧ w' = w) := by
    unfold OpRun
    rw [hv w (Kp.refl _ _) trivial]
    exact ⟨rfl, rfl⟩
  refine (OpRun.congr hs (eval_of hlk hk) hrun).wp (fun v' w' h => ?_)
  obtain ⟨rfl, rfl⟩ := h
  exact hK _ _ (hr _ (ha.put d v' (by simpa [Nat.blt_eq] using hd)))
/-- The return past one mark. -/
theorem CD.ret1 {D : Nat} {fn : Func} {t : Nat} {v : Value} {R : Ending → World → Prop} (hrs : fn.results = #[.tmp t]) (hv : look L t = some v) (hD : Blk w D (.deferred (some []))) (hR : R (.returned v) (w.putObj D (.deferred none))) :
    CD P n [{ target := .collected D, args := #[] }] .ret (bodyPostM Fence.wide 0 P fn R) L w := by
  intro a ha
  refine wp_ret ?_
  show LeavesInM Fence.wide 0 P fn a.tmps R a.defers .returning w
  rw [ha.defers]
  refine ⟨by simp, .inl ⟨_, _, rfl, run_takeDeferred hD, ?_⟩⟩
  refine ⟨v, ?_, hR⟩
  rw [results_tmp hrs]
  have := ha.fit.slot t v hv
  simp only at this
  simp [Array.getD_eq_getD_getElem?, this]
end
end Go.Proofs.YtajllbdeoopimaaGreat
namespace Go.Proofs.YtajllbdeoopimaaGreat
set_option linter.unusedVariables false
/-- An iterator's value. -/
def Gv (g : FuncId) (lb : Array Value) (N : Nat) (S : List Dg → Prop) (w : World) : Prop := ∀ l J W, Kp [] w W → Jk W.heap.size J → Rd l N J → J [] W → Calls Tryz.prog g (#[.func (.yield l) #[] #[]] ++ lb) W (fun e w' => (∃ v, e = .returned v) ∧ ∃ xs, S xs ∧ J xs w')
theorem bsD' (w : World) (a0 a1 a2 a3 a4 a5 a6 a7 : UInt8) : (Instr.buildSlice 41 1 #[(0, .agg #[bv a0, bv a1, bv a2, bv a3, bv a4, bv a5, bv a6, bv a7])]).run Tryz.prog w = .ok (.slice (some ⟨w.heap.size, 0, none⟩) 1 1) { w with heap := w.heap.push (.cells #[bv a0, bv a1, bv a2, bv a3, bv a4, bv a5, bv a6, bv a7] 44) } := by kernel_rfl
theorem bsD (d : Dg) (w : World) : (Instr.buildSlice 41 1 #[(0, dv d)]).run Tryz.prog w = .ok (.slice (some ⟨w.heap.size, 0, none⟩) 1 1) { w with heap := w.heap.push (.cells (dc d).toArray 44) } := by
  obtain ⟨l, hl⟩ := d
  match l, hl with
  | [a0, a1, a2, a3, a4, a5, a6, a7], _ => exact bsD' w a0 a1 a2 a3 a4 a5 a6 a7
theorem own_cells {w : World} {base n sz z : Nat} {T : TypeId} {v : Value} {xs : List Value} (h : w.ownsRow base T sz v n xs) (hz : v.ownBlock = some z) : ∃ cs, Blk w z (.cells cs T) := by
  rcases h.2 with ⟨rfl, _⟩ | ⟨g, cap, cur, rfl, _, hgb, _⟩
  · cases hz
  · have : g = z := by simpa [Value.ownBlock] using hz
    subst this
    exact ⟨cur, hgb⟩
theorem kw_of {S : List Nat} {w w' : World} (hk : Kp S w w') (h : ∀ b ∈ S, ∃ o, Blk w b o ∧ o.isWalk = false) : KeepsWalks w w' := ⟨hk.size, fun b o hb ho => by
  refine (Blk.kp (o := o) hb hk (fun hm => ?_))
  obtain ⟨o', h1, h2⟩ := h b hm
  rw [h1.uniq hb, ho] at h2
  cases h2⟩
/-- What stands between two rounds. -/
structure Ap (w : World) (b2 D : Nat) (o : Obj) (xs : List Dg) (W : World) : Prop where
  box : ∃ v, Blk W b2 (.cells #[v] 41) ∧ W.ownsRow w.heap.size 44 8 v xs.length (flt dc xs)
  rc : Blk W (D + 1) o
  df : Blk W D (.deferred (some []))
  kp : Kp [] w W
theorem Ap.new {w : World} {b2 D : Nat} {o : Obj} {xs : List Dg} {W W' : World} (h : Ap w b2 D o xs W) (hk : Kp [] W W') : Ap w b2 D o xs W' := by
  obtain ⟨v, h1, h2⟩ := h.box
  exact ⟨⟨v, h1.kp0 hk, own_kp0 h2 hk⟩, h.rc.kp0 hk, h.df.kp0 hk, h.kp.trans hk⟩
theorem Ap.it {w : World} {b2 D n0 r : Nat} {o : Obj} {xs : List Dg} {W W' : World} (h : Ap w b2 D o xs W) (hn : w.heap.size ≤ n0) (hb : b2 < n0) (hD : D + 1 < n0) (hr : n0 ≤ r) (hw : ∃ o, Blk W r o ∧ o.isWalk = true) (hk : Kp [r] W W') : Ap w b2 D o xs W' := by
  obtain ⟨v, h1, h2⟩ := h.box
  refine ⟨⟨v, h1.kp hk (nm1 (by omega)), own_kp h2 hk (fun z hz hm => ?_)⟩, h.rc.kp hk (nm1 (by omega)), h.df.kp hk (nm1 (by omega)), h.kp.trans_new hk (new1 (by omega))⟩
  rw [List.mem_singleton] at hm
  subst hm
  obtain ⟨cs, hc⟩ := own_cells h2 hz
  obtain ⟨o', h3, h4⟩ := hw
  rw [h3.uniq hc] at h4
  cases h4
attribute [local irreducible] CG NG SG SY Vals Der Row Blk MapIs IterAt chkL DerR DerX
set_option maxHeartbeats 32000000 in
theorem appendSeq_spec {w : World} {g : FuncId} [F : Fnc Tryz.prog g] {lb : Array Value} {N : Nat} {S : List Dg → Prop} (hN : N ≤ 1000) (hG : Gv g lb N S w) :
    Calls Tryz.prog 83 #[.slice none 0 0, .func (.func g) #[] lb] w (fun e w' => ∃ v xs, e = .returned v ∧ S xs ∧ Kp [] w w' ∧ w'.ownsRow w.heap.size 44 8 v xs.length (flt dc xs)) := by
  refine enterM (args := [.slice none 0 0, .func (.func g) #[] lb]) Tryz.func83 rfl Tryz.ntmps83 rfl ?_
  repeat (first|apply cA|apply cB)
  refine SG.box rfl rfl rfl (by exact rho_of rfl) (fun b2 w1 hk1 hb2 hB2 => ?_)
  have hB2 : Blk w1 b2 (.cells #[.slice none 0 0] 41) := hB2
  repeat (first|apply cA|apply cB|apply cD|apply cE|apply cG|refine cV rfl rfl rfl rfl (by first|((first|apply qmv|apply qas)<;>(exact rfl))|fail) ?_)
  refine CG.rangeFunc rfl (by exact rho_of rfl) (fun a ha fn rc W1 hrc hkW hsW hDW hLW => ?_)
  have hB2W := hB2.kp0 hkW
  have lb2 := hB2.lt
  have s1 := hk1.size
  refine (hG (w1.heap.size + 1) (Ap w b2 w1.heap.size (.loop (rc .ready))) W1 (hk1.trans hkW) ⟨fun _ _ _ h hk => h.new hk, fun _ _ _ _ h hr hw hk => h.it (n0 := W1.heap.size) (by omega) (by omega) (by omega) hr hw hk⟩ ?_ ⟨⟨_, hB2W, own_nil⟩, hLW, hDW, hk1.trans hkW⟩).mono (fun e w3 hh => ?_)
  · rintro pre x W hA hlen
    obtain ⟨v, h1, h2⟩ := hA.box
    refine round_of (t := 7) hrc ha (by decide) hA.rc rfl rfl ?_
    clear hrc
    refine SG.alloc rfl rfl rfl (fun b5 W2 hk2 hb5 hB5 => ?_)
    refine SG.setAll (l := dc x) rfl rfl (by exact rho_of rfl) (by exact rho_of rfl) hB5 (dc_length _) rfl (dc_one _) (fun W3 hk3 hB5 => ?_)
    have k3 : Kp [] W W3 := hk2.trans_new hk3 (new1 (by omega))
    have hA3 := hA.new k3
    refine cD (NG.thenI (fun a1 ha1 => ⟨_, ha1, hA3.rc, fun W4 hk4 hL4 => ?_⟩))
    clear ha1 a1
    obtain ⟨v, h1, h2⟩ := hA3.box
    have lW := hA.rc.lt
    have noL : ∀ {W : World} {n : Nat} {v : Value} {xs : List Value} {o : Loop}, Blk W (w1.heap.size + 1) (.loop o) → W.ownsRow w.heap.size 44 8 v n xs → ∀ z, v.ownBlock = some z → z ∉ [w1.heap.size + 1] := fun hb ho z hz hm => by
      rw [List.mem_singleton] at hm
      subst hm
      obtain ⟨cs, hc⟩ := own_cells ho hz
      cases hb.uniq hc
    have hB24 : Blk W4 b2 (.cells #[v] 41) := h1.kp hk4 (nm1 (by omega))
    have ho4 := own_kp h2 hk4 (noL hA3.rc h2)
    have hD4 := hA3.df.kp hk4 (nm1 (by omega))
    have hB54 := hB5.kp hk4 (nm1 (by omega))
    have hR2 : Row W4 b2 0 [v] := Row.of hB24 [] [] rfl rfl
    have hR5 : Row W4 b5 0 (dc x) := Row.all hB54 rfl
    have s4 := (hA3.kp.size)
    have s4' := hk4.size
    repeat (first|refine cV rfl rfl rfl rfl (by first|((first|apply qlc|apply qla)<;>(first|exact rfl|assumption|exact List.not_mem_nil|apply dc_length))|fail) ?_)
    refine SG.buildSlice rfl rfl rfl rfl (bsD x) (fun b10 W5 hk5 hb10 hB10 => ?_)
    have s5 := hk5.size
    refine SG.appO (enc := dc (n := 8)) (base := w.heap.size) (xs := pre) (ys := [x]) rfl rfl rfl (by exact rho_of rfl) (by exact rho_of rfl) rfl rfl rfl rfl dc_length dc_one (own_kp0 ho4 hk5) (sl_one dc_length hB10) (by simp only [maxLen, List.length_cons, List.length_nil]; omega) (by show (pre.length + 1) * 8 ≤ _; omega) (by omega) (fun v' W6 hk6 ho6 hg6 => ?_)
    have hB25 := hB24.kp0 hk5
    have ho5 := own_kp0 ho4 hk5
    have hL5 := hL4.kp0 hk5
    have hD5 := hD4.kp0 hk5
    have nov : ∀ {z : Nat} {o : Obj}, Blk W5 z o → (∀ cs, o ≠ .cells cs 44) → z ∉ ownB v := fun hb hne hm => by
      obtain ⟨cs, hc⟩ := own_cells ho5 (ownB_mem hm)
      exact hne cs (hb.uniq hc)
    have hB26 := hB25.kp hk6 (nov hB25 (fun cs h => by cases h))
    have hL6 := hL5.kp hk6 (nov hL5 (fun cs h => by cases h))
    have hD6 := hD5.kp hk6 (nov hD5 (fun cs h => by cases h))
    obtain ⟨a', c', rfl, _, _⟩ := Sl.own dc_length ho6 rfl
    refine SG.setAll1 rfl rfl (by exact rho_of rfl) (by exact rho_of rfl) hB26 rfl rfl (fun W7 hk7 hB27 => ?_)
    have ho7 := own_kp ho6 hk7 (own_neb ho6 (by decide) hB26)
    have hL7 := hL6.kp hk7 (nm1 (by omega))
    have hD7 := hD6.kp hk7 (nm1 (by omega))
    refine cD (NG.thenI (fun a1 ha1 => ⟨hL7, fun W8 hk8 hL8 => ⟨rfl, ⟨⟨_, hB27.kp hk8 (nm1 (by omega)), own_kp ho7 hk8 (noL hL7 ho7)⟩, hL8, hD7.kp hk8 (nm1 (by omega)), ?_⟩, ?_⟩⟩))
    · have hov : ∀ z ∈ ownB v, w.heap.size ≤ z := fun z hz => own_geB ho5 z (ownB_mem hz)
      exact ((((hA3.kp.trans_new hk4 (new1 (by omega))).trans hk5).trans_new hk6 (fun z hz => Or.inr (hov z hz))).trans_new hk7 (new1 (by omega))).trans_new hk8 (new1 (by omega))
    · refine ((((kw_of k3 (by simp)).trans (kw_of hk4 (fun b hb => ?_))).trans (kw_of hk5 (by simp))).trans (kw_of hk6 (fun b hb => ?_))).trans ((kw_of hk7 (fun b hb => ?_)).trans (kw_of hk8 (fun b hb => ?_)))
      · rw [List.mem_singleton] at hb
        subst hb
        exact ⟨_, hA3.rc, rfl⟩
      · obtain ⟨cs, hc⟩ := own_cells ho5 (ownB_mem hb)
        exact ⟨_, hc, rfl⟩
      · rw [List.mem_singleton] at hb
        subst hb
        exact ⟨_, hB26, rfl⟩
      · rw [List.mem_singleton] at hb
        subst hb
        exact ⟨_, hL7, rfl⟩
  · obtain ⟨hv, xs, hS, hA⟩ := hh
    obtain ⟨v, h1, h2⟩ := hA.box
    refine ⟨hv, hA.rc, ?_⟩
    have noL : ∀ z, v.ownBlock = some z → z ∉ [w1.heap.size + 1] := fun z hz hm => by
      rw [List.mem_singleton] at hm
      subst hm
      obtain ⟨cs, hc⟩ := own_cells h2 hz
      cases hA.rc.uniq hc
    obtain ⟨w4, hw4⟩ : ∃ w4, w3.putObj (w1.heap.size + 1) (.loop (rc .exhausted)) = w4 := ⟨_, rfl⟩
    rw [hw4]
    have hk4 : Kp [w1.heap.size + 1] w3 w4 := by
      rw [← hw4]
      exact Kp.set w3 hA.rc rfl rfl
    have hB24 := h1.kp hk4 (nm1 (by omega))
    have ho4 := own_kp h2 hk4 noL
    have hD4 := hA.df.kp hk4 (nm1 (by omega))
    have k4 : Kp [] w w4 := hA.kp.trans_new hk4 (new1 (by omega))
    have hR2 : Row w4 b2 0 [v] := Row.of hB24 [] [] rfl rfl
    refine CD.region ?_ _ (FitsD.mark ha)
    refine SD.val rfl rfl rfl rfl (by first|(apply qlc<;>(first|exact rfl|assumption|exact List.not_mem_nil))|fail) ?_
    refine SD.val rfl rfl rfl rfl (by first|(apply qas<;>(exact rfl))|fail) ?_
    refine SD.nil ?_
    refine CD.ret1 (v := v) rfl (by rfl) hD4 ?_
    have hk5 : Kp [w1.heap.size] w4 (w4.putObj w1.heap.size (.deferred none)) := Kp.set w4 hD4 rfl rfl
    refine ⟨v, xs, rfl, hS, k4.trans_new hk5 (new1 (by omega)), own_kp ho4 hk5 (fun z hz hm => ?_)⟩
    rw [List.mem_singleton] at hm
    subst hm
    obtain ⟨cs, hc⟩ := own_cells ho4 hz
    cases hD4.uniq hc
end Go.Proofs.YtajllbdeoopimaaGreat
namespace Go.Proofs.YtajllbdeoopimaaGreat
open Go.Proofs Go.Shelf
set_option linter.unusedVariables false
def sortRen : Go.Shelf.Ren := ⟨fun | 6 => 70 | 15 => 85 | 14 => 84 | 28 => 95 | 29 => 96 | 20 => 87 | 21 => 88 | 22 => 89 | 23 => 90 | 24 => 91 | 25 => 92 | 26 => 93 | 27 => 94 | 46 => 97 | 47 => 98 | 48 => 99 | 49 => 100 | 50 => 101 | 57 => 102 | n => n, fun | 22 => 41 | 24 => 44 | 25 => 117 | 3 => 3 | 39 => 143 | 0 => 0 | 53 => 153 | 55 => 155 | 4 => 4 | 46 => 146 | 45 => 145 | 50 => 150 | 5 => 5 | 9 => 9 | 66 => 156 | 70 => 160 | 76 => 162 | 77 => 94 | n => n, fun n => n⟩
theorem sortL : SlLaysF0.n6 Tryz.prog sortRen where
  mixed := by kernel_rfl
  f6 := ⟨"slices.SortFunc[[]baize/hash.Digest,baize/hash.Digest]", by decide, Tryz.func70.trans (congrArg some (by kernel_rfl))⟩
  f14 := ⟨"slices.pdqsortCmpFunc[baize/hash.Digest]", by decide, Tryz.func84.trans (congrArg some (by kernel_rfl))⟩
  f15 := Tryz.func85.trans (congrArg some (by kernel_rfl))
  f20 := ⟨"slices.insertionSortCmpFunc[baize/hash.Digest]", by decide, Tryz.func87.trans (congrArg some (by kernel_rfl))⟩
  f21 := ⟨"slices.heapSortCmpFunc[baize/hash.Digest]", by decide, Tryz.func88.trans (congrArg some (by kernel_rfl))⟩
  f22 := ⟨"slices.breakPatternsCmpFunc[baize/hash.Digest]", by decide, Tryz.func89.trans (congrArg some (by kernel_rfl))⟩
  f23 := ⟨"slices.choosePivotCmpFunc[baize/hash.Digest]", by decide, Tryz.func90.trans (congrArg some (by kernel_rfl))⟩
  f24 := ⟨"slices.reverseRangeCmpFunc[baize/hash.Digest]", by decide, Tryz.func91.trans (congrArg some (by kernel_rfl))⟩
  f25 := ⟨"slices.partialInsertionSortCmpFunc[baize/hash.Digest]", by decide, Tryz.func92.trans (congrArg some (by kernel_rfl))⟩
  f26 := ⟨"slices.partitionEqualCmpFunc[baize/hash.Digest]", by decide, Tryz.func93.trans (congrArg some (by kernel_rfl))⟩
  f27 := ⟨"slices.partitionCmpFunc[baize/hash.Digest]", by decide, Tryz.func94.trans (congrArg some (by kernel_rfl))⟩
  f28 := Tryz.func95.trans (congrArg some (by kernel_rfl))
  f29 := Tryz.func96.trans (congrArg some (by kernel_rfl))
  f46 := ⟨"slices.siftDownCmpFunc[baize/hash.Digest]", by decide, Tryz.func97.trans (congrArg some (by kernel_rfl))⟩
  f47 := Tryz.func98.trans (congrArg some (by kernel_rfl))
  f48 := Tryz.func99.trans (congrArg some (by kernel_rfl))
  f49 := ⟨"slices.medianAdjacentCmpFunc[baize/hash.Digest]", by decide, Tryz.func100.trans (congrArg some (by kernel_rfl))⟩
  f50 := ⟨"slices.medianCmpFunc[baize/hash.Digest]", by decide, Tryz.func101.trans (congrArg some (by kernel_rfl))⟩
  f57 := ⟨"slices.order2CmpFunc[baize/hash.Digest]", by decide, Tryz.func102.trans (congrArg some (by kernel_rfl))⟩
  t0 := Tryz.underlying0
  a0 := Tryz.isAgg0
  z0 := Tryz.sizeOf0
  v0 := Tryz.zeroValue0
  t3 := Tryz.underlying3
  a3 := Tryz.isAgg3
  z3 := Tryz.sizeOf3
  v3 := Tryz.zeroValue3
  t4 := Tryz.underlying4
  a4 := Tryz.isAgg4
  z4 := Tryz.sizeOf4
  v4 := Tryz.zeroValue4
  t5 := Tryz.underlying5
  a5 := Tryz.isAgg5
  z5 := Tryz.sizeOf5
  v5 := Tryz.zeroValue5
  t9 := Tryz.underlying9
  a9 := Tryz.isAgg9
  z9 := Tryz.sizeOf9
  v9 := Tryz.zeroValue9
  t22 := Tryz.underlying41
  a22 := Tryz.isAgg41
  z22 := Tryz.sizeOf41
  v22 := Tryz.zeroValue41
  t25 := Tryz.underlying117
  a25 := Tryz.isAgg117
  z25 := Tryz.sizeOf117
  v25 := Tryz.zeroValue117
  t39 := Tryz.underlying143
  a39 := Tryz.isAgg143
  z39 := Tryz.sizeOf143
  v39 := Tryz.zeroValue143
  t45 := Tryz.underlying145
  a45 := Tryz.isAgg145
  z45 := Tryz.sizeOf145
  v45 := Tryz.zeroValue145
  t46 := Tryz.underlying146
  a46 := Tryz.isAgg146
  z46 := Tryz.sizeOf146
  v46 := Tryz.zeroValue146
  t50 := Tryz.underlying150
  a50 := Tryz.isAgg150
  z50 := Tryz.sizeOf150
  v50 := Tryz.zeroValue150
  t53 := Tryz.underlying153
  a53 := Tryz.isAgg153
  z53 := Tryz.sizeOf153
  v53 := Tryz.zeroValue153
  t55 := Tryz.underlying155
  a55 := Tryz.isAgg155
  z55 := Tryz.sizeOf155
  v55 := Tryz.zeroValue155
  t66 := Tryz.underlying156
  a66 := Tryz.isAgg156
  z66 := Tryz.sizeOf156
  v66 := Tryz.zeroValue156
  t70 := Tryz.underlying160
  a70 := Tryz.isAgg160
  z70 := Tryz.sizeOf160
  v70 := Tryz.zeroValue160
  t76 := Tryz.underlying162
  a76 := Tryz.isAgg162
  z76 := Tryz.sizeOf162
  v76 := Tryz.zeroValue162
  t77 := Tryz.underlying94
  a77 := Tryz.isAgg94
  z77 := Tryz.sizeOf94
  v77 := Tryz.zeroValue94
end Go.Proofs.YtajllbdeoopimaaGreat
namespace Go.Proofs.YtajllbdeoopimaaGreat
open Go.Proofs Go.Shelf Go.Sort
set_option linter.unusedVariables false
theorem Kp.grown {w w' : World} (h : Kp [] w w') : ∃ q os', w' = grow (w.drewN q) os' := by
  refine ⟨w'.drawn - w.drawn, w'.heap.extract w.heap.size w'.heap.size, ?_⟩
  obtain ⟨h1, h2, h3, h4, h5, h6, h7⟩ := h
  obtain ⟨hp, tp, dr, os, out⟩ := w
  obtain ⟨hp', tp', dr', os', out'⟩ := w'
  simp only at h1 h2 h3 h4 h5 h7
  subst h3
  subst h4
  subst h5
  have e1 : hp' = hp ++ hp'.extract hp.size hp'.size := by
    apply Array.ext_getElem?
    intro i
    rw [Array.getElem?_append]
    by_cases hi : i < hp.size
    · rw [if_pos hi]
      exact h2 i hi (by simp)
    · rw [if_neg hi, Array.getElem?_extract]
      by_cases hi2 : i < hp'.size
      · rw [if_pos (by omega), show hp.size + (i - hp.size) = i by omega]
      · rw [if_neg (by omega), Array.getElem?_eq_none (by omega)]
  have e2 : dr' = dr + (dr' - dr) := by omega
  simp only [grow, World.drewN, World.mk.injEq, true_and, and_true]
  exact ⟨e1, e2⟩
theorem Kp.grow (w : World) (os : Array Obj) : Kp [] w (grow w os) := by
  refine ⟨by simp, fun b hb _ => ?_, rfl, rfl, rfl, fun a ha => ?_, Nat.le_refl _⟩
  · show (w.heap ++ os)[b]? = _
    rw [Array.getElem?_append, if_pos hb]
  · refine frozen_same ?_
    show (w.heap ++ os)[a.block]? = _
    rw [Array.getElem?_append, if_pos ha]
theorem Kp.ahead (w : World) (n : Nat) : Kp [] w (Go.Sort.ahead w n) := ⟨Nat.le_refl _, fun _ _ _ => rfl, rfl, rfl, rfl, fun _ _ => rfl, Nat.le_add_right _ _⟩
theorem mapBlock_set {w : World} {g : Nat} {cs : Array Value} {T : TypeId} {fz : Nat × Nat} (h : Blk w g (.cells cs T fz)) (f : Array Value → Array Value) : mapBlock w g f = { w with heap := w.heap.setIfInBounds g (.cells (f cs) T fz) } := by
  unfold mapBlock
  congr 1
  apply Array.ext_getElem?
  intro i
  rw [Array.getElem?_modify, Array.getElem?_setIfInBounds]
  by_cases e : g = i
  · subst e
    rw [if_pos rfl, if_pos rfl, if_pos h.lt]
    have h' : w.heap[g]? = some (.cells cs T fz) := h
    rw [h']
    rfl
  · rw [if_neg e, if_neg e]
section
variable {α : Type} [Inhabited α] {enc : α → List Value} {k : Nat}
theorem flt_get (hk0 : 0 < k) (hk : ∀ x, (enc x).length = k) : ∀ (l : List α) (t : Nat), t < l.length * k → (flt enc l)[t]? = some ((enc l.toArray[t / k]!)[t % k]!) := by
  intro l
  induction l with
  | nil => intro t h; simp at h
  | cons x l ih =>
    intro t h
    have e : flt enc (x :: l) = enc x ++ flt enc l := by simp [flt]
    rw [e]
    by_cases ht : t < k
    · rw [List.getElem?_append_left (by rw [hk]; exact ht), Nat.div_eq_of_lt ht, Nat.mod_eq_of_lt ht]
      have : t < (enc x).length := by rw [hk]; exact ht
      simp [this]
    · rw [List.getElem?_append_right (by rw [hk]; omega), hk]
      have h' : t - k < l.length * k := by
        simp only [List.length_cons, Nat.add_mul, Nat.one_mul] at h
        omega
      rw [ih (t - k) h']
      have d1 : t / k = (t - k) / k + 1 := by
        rw [Nat.div_eq_sub_div hk0 (by omega)]
      have d2 : t % k = (t - k) % k := by rw [Nat.mod_eq_sub_mod (by omega)]
      rw [d1, d2]
      simp
theorem flatK_toList (hk0 : 0 < k) (hk : ∀ x, (enc x).length = k) (l : List α) : (flatK enc k l.toArray).toList = flt enc l := by
  apply List.ext_getElem?
  intro t
  by_cases ht : t < l.length * k
  · rw [flt_get hk0 hk l t ht]
    have hs : t < (flatK enc k l.toArray).size := by simpa using ht
    have := get_flatK enc k l.toArray t (by simpa using ht)
    rw [getElem!_pos _ t hs] at this
    rw [Array.getElem?_toList, Array.getElem?_eq_getElem hs, this]
  · rw [List.getElem?_eq_none (by simpa using Nat.le_of_not_lt ht), List.getElem?_eq_none (by rw [flt_length hk]; omega)]
theorem sort_own {P : Program} {ρ : Ren} (L : SlLaysF0.n6 P ρ) (aE : ∀ w, (isAgg (ρ.t 24)).run P w = .ok true w) (zE : ∀ w, (Go.sizeOf (ρ.t 24)).run P w = .ok k w) (hk0 : 0 < k) (hk : ∀ x, (enc x).length = k) (hone : ∀ x, allOne (enc x) = true)
    (cf : α → α → Int) (hO : SWO (ltOf cf)) (g : Nat) (eg : ∀ args w, (callFunc g args).run P w = .ok (.enter g args) w)
    (hcmp : ∀ x y W, Calls P g #[.agg (enc x).toArray, .agg (enc y).toArray] W (fun e w' => e = .returned (.int .i64 (cf x y)) ∧ Kp [] W w'))
    {w : World} {base : Nat} {T : TypeId} {v : Value} {l : List α} (ho : w.ownsRow base T k v l.length (flt enc l)) (hsz : l.length < 4611686018427387904) :
    Calls P (ρ.f 6) #[v, .func (.func g) #[] #[]] w (fun e w' => e = .returned (.tuple #[]) ∧ Kp (ownB v) w w' ∧ ∃ l', l'.Perm l ∧ l'.Pairwise (fun x y => ltOf cf y x = false) ∧ w'.ownsRow base T k v l.length (flt enc l')) := by
  have h1 : ∀ x, ∀ v ∈ enc x, v.oneCell' = true := fun x u hu => by rw [one_iff]; exact List.all_eq_true.1 (hone x) u hu
  have ho' := ho
  obtain ⟨hlen, ⟨rfl, h0⟩ | ⟨b, cap, cur, rfl, hb, hh, hc1, hc2, hc3, hc4⟩⟩ := ho
  · have hl : l = [] := by cases l with
      | nil => rfl
      | cons x l => simp at h0
    subst hl
    exact (AnyF.slices_SortFunc_none L none 0 _ w).mono (fun e w' ⟨he, hw⟩ => ⟨he, by rw [hw]; exact Kp.refl _ _, [], List.Perm.refl _, List.Pairwise.nil, by rw [hw]; exact ho'⟩)
  have hB : Blk w b (.cells cur T (0, 0)) := hh
  have hcur : ∀ t, t < l.length * k → cur[t]? = some ((enc l.toArray[t / k]!)[t % k]!) := fun t ht => by
    rw [← flt_get hk0 hk l t ht, ← hc4, List.getElem?_take_of_lt ht, Array.getElem?_toList]
  have hcell : ∀ (d : Array α), True := fun _ => trivial
  have hH : HoldsK enc k w b 0 l.toArray := fun j hj => by
    have hj' : j < l.length * k := by simpa using hj
    refine ⟨?_, frozen_soft (o := .cells cur T (0, 0)) hh rfl⟩
    unfold World.cell?
    simp only [hh, Nat.zero_add]
    rw [get_flatK enc k l.toArray j (by simpa using hj')]
    simpa using hcur j hj'
  have hcl : CmpLays P g #[] enc k cf b 0 l.toArray.size w := fun m os dk hdk x y => (hcmp x y _).mono (fun e w' ⟨he, hw⟩ => ⟨he, hw.grown⟩)
  have hc := AnyQ.slices_SortFunc L k aE zE enc hk h1 cf hO g #[] b 0 cap l.toArray w eg hcl hH hB.lt (by simpa using hsz)
  refine (show Calls P (ρ.f 6) #[.slice (some ⟨b, 0, none⟩) l.length cap, .func (.func g) #[] #[]] w _ from hc).mono (fun e w' hh' => ?_)
  obtain ⟨he, d', n, os, ⟨hp1, hp2, hp3⟩, hs, rfl⟩ := hh'
  have hd' : d'.size = l.length := by simpa using hp1
  have hperm : d'.toList.Perm l := by
    have e1 : (d'.extract 0 l.toArray.size).toList = d'.toList := by
      have : l.toArray.size = d'.size := hp1.symm
      rw [this]
      simp
    have e2 : (l.toArray.extract 0 l.toArray.size).toList = l := by simp
    rw [e1, e2] at hp3
    exact hp3
  have hBa : Blk (Go.Sort.ahead w n) b (.cells cur T (0, 0)) := hh
  have hset : putRowK enc k (Go.Sort.ahead w n) b 0 d' = { Go.Sort.ahead w n with heap := (Go.Sort.ahead w n).heap.setIfInBounds b (.cells (putCells id 0 (flatK enc k d') cur) T (0, 0)) } := mapBlock_set hBa _
  have hk1 : Kp [b] (Go.Sort.ahead w n) (putRowK enc k (Go.Sort.ahead w n) b 0 d') := by
    rw [hset]
    exact Kp.set _ hBa rfl rfl
  refine ⟨he, ?_, d'.toList, hperm, ?_, ?_⟩
  · show Kp [b] w _
    exact ((Kp.ahead w n).any.trans hk1).trans (Kp.grow _ _).any
  · rw [List.pairwise_iff_getElem]
    intro i j hi hj hij
    have := hs i j (Nat.zero_le _) hij (by simp at hj ⊢; omega)
    rw [getElem!_pos d' i (by simpa using hi), getElem!_pos d' j (by simpa using hj)] at this
    simpa using this
  · have hlist : d'.toList.length = l.length := by simpa using hd'
    refine ⟨by rw [flt_length hk, hlist], Or.inr ⟨b, cap, putCells id 0 (flatK enc k d') cur, rfl, hb, ?_, hc1, hc2, by simp [putCells, hc3], ?_⟩⟩
    · have : Blk (putRowK enc k (Go.Sort.ahead w n) b 0 d') b (.cells (putCells id 0 (flatK enc k d') cur) T (0, 0)) := by
        rw [hset]
        show ((Go.Sort.ahead w n).heap.setIfInBounds b _)[b]? = _
        rw [Array.getElem?_setIfInBounds, if_pos rfl, if_pos hBa.lt]
      exact this.kp0 (Kp.grow _ _)
    · have hcs : l.length * k ≤ cur.size := by rw [hc3]; exact Nat.mul_le_mul_right k hc1
      rw [← flatK_toList hk0 hk d'.toList]
      apply List.ext_getElem?
      intro t
      by_cases ht : t < l.length * k
      · have htc : t < cur.size := by omega
        have htf : t < (flatK enc k d').size := by simp [hd']; exact ht
        rw [List.getElem?_take_of_lt ht, Array.getElem?_toList, Array.getElem?_toList]
        simp only [putCells, Array.getElem?_mapIdx, Array.getElem?_eq_getElem htc, Option.map_some, Nat.zero_le, true_and, Nat.zero_add, Nat.sub_zero, id_eq]
        rw [if_pos htf, getElem!_pos _ t htf, Array.toArray_toList, Array.getElem?_eq_getElem htf]
      · rw [List.getElem?_eq_none (by simp; omega), List.getElem?_eq_none (by simp [hd']; omega)]
end
end Go.Proofs.YtajllbdeoopimaaGreat
namespace Go.Proofs.YtajllbdeoopimaaGreat
open Go.Proofs Go.Shelf Go.Sort
set_option linter.unusedVariables false
section
variable {α : Type} [Inhabited α] {enc : α → List Value} {k : Nat}
end
end Go.Proofs.YtajllbdeoopimaaGreat
namespace Go.Proofs.YtajllbdeoopimaaGreat
open Go.Proofs Go.Shelf Go.Sort
set_option linter.unusedVariables false
/-- An order by a number. -/
theorem swo_key {α : Type} (cf : α → α → Int) (key : α → Nat) (h : ∀ x y, cf x y < 0 ↔ key x < key y) : SWO (ltOf cf) where
  irrefl x := decide_eq_false (by rw [h]; omega)
  trans x y z h1 h2 := by
    have h1 := of_decide_eq_true h1
    have h2 := of_decide_eq_true h2
    rw [h] at h1 h2
    exact decide_eq_true (by rw [h]; omega)
  ntrans x y z h1 h2 := by
    have h1 := of_decide_eq_false h1
    have h2 := of_decide_eq_false h2
    rw [h] at h1 h2
    exact decide_eq_false (by rw [h]; omega)
theorem ltOf_false {α : Type} {cf : α → α → Int} {key : α → Nat} (h : ∀ x y, cf x y < 0 ↔ key x < key y) {x y : α} : ltOf cf y x = false ↔ key x ≤ key y := by
  constructor
  · intro h1
    have h1 := of_decide_eq_false h1
    rw [h] at h1
    omega
  · intro h1
    exact decide_eq_false (by rw [h]; omega)
/-- Put where it belongs, behind its likes; all put so. -/
def insK {α : Type} (key : α → Nat) (x : α) : List α → List α
  | [] => [x]
  | y :: r => if key y ≤ key x then y :: insK key x r else x :: y :: r
def sortK {α : Type} (key : α → Nat) (l : List α) : List α := l.foldl (fun acc x => insK key x acc) []
theorem insK_perm {α : Type} (key : α → Nat) (x : α) : ∀ l : List α, (insK key x l).Perm (x :: l)
  | [] => List.Perm.refl _
  | y :: r => by
    unfold insK
    split
    · exact ((insK_perm key x r).cons y).trans (List.Perm.swap x y r)
    · exact List.Perm.refl _
theorem insK_sorted {α : Type} (key : α → Nat) (x : α) : ∀ l : List α, l.Pairwise (fun a b => key a ≤ key b) → (insK key x l).Pairwise (fun a b => key a ≤ key b)
  | [], _ => by simp [insK]
  | y :: r, h => by
    have h' := List.pairwise_cons.1 h
    unfold insK
    split
    · rename_i hle
      refine List.pairwise_cons.2 ⟨fun z hz => ?_, insK_sorted key x r h'.2⟩
      rcases List.mem_cons.1 ((insK_perm key x r).mem_iff.1 hz) with rfl | hz
      · exact hle
      · exact h'.1 z hz
    · rename_i hle
      refine List.pairwise_cons.2 ⟨fun z hz => ?_, h⟩
      rcases List.mem_cons.1 hz with rfl | hz
      · omega
      · have := h'.1 z hz
        omega
theorem sortK_go {α : Type} (key : α → Nat) : ∀ (l acc : List α), acc.Pairwise (fun a b => key a ≤ key b) → (l.foldl (fun acc x => insK key x acc) acc).Perm (l ++ acc) ∧ (l.foldl (fun acc x => insK key x acc) acc).Pairwise (fun a b => key a ≤ key b)
  | [], acc, h => ⟨List.Perm.refl _, h⟩
  | x :: l, acc, h => by
    obtain ⟨h1, h2⟩ := sortK_go key l (insK key x acc) (insK_sorted key x acc h)
    refine ⟨h1.trans ?_, h2⟩
    exact ((insK_perm key x acc).append_left l).trans List.perm_middle
theorem sortK_perm {α : Type} (key : α → Nat) (l : List α) : (sortK key l).Perm l := by simpa [sortK] using (sortK_go key l [] List.Pairwise.nil).1
theorem sortK_sorted {α : Type} (key : α → Nat) (l : List α) : (sortK key l).Pairwise (fun a b => key a ≤ key b) := (sortK_go key l [] List.Pairwise.nil).2
/-- There is one such order. -/
theorem sorted_uniq {α : Type} {key : α → Nat} (hk : ∀ x y, key x = key y → x = y) {l l' m : List α} (h1 : l.Perm m) (h2 : l'.Perm m) (s1 : l.Pairwise (fun a b => key a ≤ key b)) (s2 : l'.Pairwise (fun a b => key a ≤ key b)) : l = l' :=
  (h1.trans h2.symm).eq_of_pairwise (fun a b _ _ h h' => hk a b (by omega)) s1 s2
end Go.Proofs.YtajllbdeoopimaaGreat
namespace Go.Proofs.YtajllbdeoopimaaGreat
open Go.Proofs Go.Shelf Go.Sort
set_option linter.unusedVariables false
theorem bytes_back (l : List UInt8) : Lib.bytesOf (l.map (fun u => (u.toNat : Int))) = l := by
  unfold Lib.bytesOf
  induction l with
  | nil => rfl
  | cons u l ih => simp_all
theorem load_key {w : World} {b off : Nat} {x : Dg} (hx : Row w b off (dc x)) : (Extern.Bytes.loadBytes ⟨b, off, none⟩ 8 .empty).run Tryz.prog w = .ok ⟨x.1.toArray⟩ w := by
  have h := Lib.run_loadBytesX (P := Tryz.prog) w (x.1.map (fun u => (u.toNat : Int))) ⟨b, off, none⟩ .empty (fun j z hj => by
    rw [List.getElem?_map, Option.map_eq_some_iff] at hj
    obtain ⟨u, hu, rfl⟩ := hj
    have e : (⟨b, off, none⟩ : Addr).add j = ⟨b, off + j, none⟩ := by unfold Addr.add; split <;> simp_all
    rw [e]
    exact hx.cell (by unfold dc; rw [List.getElem?_map, hu]; rfl))
  rw [List.length_map, x.2, bytes_back] at h
  have e0 : ByteArray.empty.data ++ x.1.toArray = x.1.toArray := by simp [ByteArray.empty, ByteArray.emptyWithCapacity]; rfl
  rw [e0] at h
  exact h
theorem compare_run {w : World} {b off c b' off' c' : Nat} {x y : Dg} (hx : Row w b off (dc x)) (hy : Row w b' off' (dc y)) :
    (Extern.BytealgCompare.compare #[.slice (some ⟨b, off, none⟩) 8 c, .slice (some ⟨b', off', none⟩) 8 c']).run Tryz.prog w = .ok (.int .i64 (Lib.compareBytes x.1 y.1)) w := by
  change Sem.run Tryz.prog (do pure (goInt (Extern.BytealgCompare.cmp (← Extern.Bytes.loadBytes ⟨b, off, none⟩ 8 .empty) (← Extern.Bytes.loadBytes ⟨b', off', none⟩ 8 .empty)))) w = _
  simp only [Sem.run_bind, load_key hx, load_key hy, Sem.run_pure, Result.andThen]
  rw [Lib.cmp_eq]
  rfl
theorem callC (args : Array Value) (w : World) : (callFunc 72 args).run Tryz.prog w = ((Extern.BytealgCompare.compare args).run Tryz.prog w).andThen fun v w' => .ok (.value v) w' :=
  run_callFunc_extern Tryz.func72 (by kernel_rfl) (by kernel_rfl) (by kernel_rfl) (e := Extern.BytealgCompare.compare) (by kernel_rfl) args w
theorem vals_cmp {S : List Nat} {w0 : World} {F : World → Prop} {L : Env} {d : Option Nat} {ty : TypeId} {pos : String} {af : Array Edge} {g : Option (Nat × Bool)} {p q : Operand} {tys : Array TypeId} {b off c b' off' c' : Nat} {x y : Dg} (hp : rho L p = .slice (some ⟨b, off, none⟩) 8 c) (hq : rho L q = .slice (some ⟨b', off', none⟩) 8 c') (hx : Row w0 b off (dc x)) (hy : Row w0 b' off' (dc y)) (hb : b ∉ S) (hb' : b' ∉ S) :
    Vals Tryz.prog S w0 F L ⟨d, .call ⟨.value (.func 72), #[p, q], tys⟩, ty, pos, af, g⟩ (.int .i64 (Lib.compareBytes x.1 y.1)) := fun w hk _ => by
  have : (execOp (rho L) ⟨d, .call ⟨.value (.func 72), #[p, q], tys⟩, ty, pos, af, g⟩).run Tryz.prog w = (callFunc 72 #[rho L p, rho L q]).run Tryz.prog w := by
    simp [execOp, resolve, invoke, rho_func, Deferred.ofValue]
  rw [this, hp, hq, callC, compare_run (hx.kp hk hb) (hy.kp hk hb')]
  rfl
/-- A whole array, as a slice. -/
theorem qx5 {P : Program} {S : List Nat} {w0 : World} {F : World → Prop} {L : Env} {d : Option Nat} {ty : TypeId} {pos : String} {af : Array Edge} {g : Option (Nat × Bool)} {T E : TypeId} {n sz : Nat} [u : Ut P T (.array n E)] [f : Sz P E sz] {x : Operand} {b off : Nat} (hx : ro L x = some (.pointer (some ⟨b, off, none⟩))) :
    Vals P S w0 F L ⟨d, .slice T x none none none, ty, pos, af, g⟩ (.slice (some ⟨b, off, none⟩) n n) := fun w _ _ => by
  obtain ⟨i, h2, h3⟩ := f.eq
  subst h3
  simp only [execOp, rho_of hx, Option.map_none, Instr.sliceAt, Sem.run_bind, run_underlying u.eq, Result.andThen, Instr.sureAddr, Instr.sliceBounds, Sem.run_pure, sizeOf, typeInfo, run_program, h2]
  simp [Addr.add]
def dkey (d : Dg) : Nat := d.1.foldl (fun n b => n * 256 + b.toNat) 0
def cfD (x y : Dg) : Int := Lib.compareBytes x.1 y.1
def vl (l : List UInt8) : Nat := l.foldl (fun n b => n * 256 + b.toNat) 0
theorem vl_go (n : Nat) : ∀ l : List UInt8, l.foldl (fun n b => n * 256 + b.toNat) n = n * 256 ^ l.length + vl l
  | [] => by simp [vl]
  | b :: l => by
    unfold vl
    rw [List.foldl_cons, List.foldl_cons, vl_go (n * 256 + b.toNat) l, vl_go (0 * 256 + b.toNat) l]
    simp only [List.length_cons, Nat.pow_succ]
    rw [Nat.zero_mul, Nat.zero_add, Nat.add_mul, Nat.mul_assoc, Nat.mul_comm 256, Nat.add_assoc]
theorem vl_cons (b : UInt8) (l : List UInt8) : vl (b :: l) = b.toNat * 256 ^ l.length + vl l := by
  show (b :: l).foldl _ 0 = _
  rw [List.foldl_cons, vl_go]
  simp
theorem vl_lt : ∀ l : List UInt8, vl l < 256 ^ l.length
  | [] => by simp [vl]
  | b :: l => by
    rw [vl_cons, List.length_cons, Nat.pow_succ]
    have h1 := vl_lt l
    have h2 := UInt8.toNat_lt b
    have h3 : b.toNat * 256 ^ l.length + 256 ^ l.length ≤ 256 ^ l.length * 256 := by
      rw [← Nat.succ_mul, Nat.mul_comm]
      exact Nat.mul_le_mul_left _ (by omega)
    omega
theorem mul_gap {a b m x y : Nat} (h : a < b) (hx : x < m) : a * m + x < b * m + y := by
  have : a * m + m ≤ b * m := by
    rw [← Nat.succ_mul]
    exact Nat.mul_le_mul_right _ h
  omega
theorem cb_vl : ∀ x y : List UInt8, x.length = y.length → (Lib.compareBytes x y < 0 ↔ vl x < vl y) ∧ (vl x = vl y → x = y)
  | [], [], _ => by simp [Lib.compareBytes, vl]
  | [], _ :: _, h => by cases h
  | _ :: _, [], h => by cases h
  | a :: x, b :: y, h => by
    have hl : x.length = y.length := by simpa using h
    obtain ⟨h1, h2⟩ := cb_vl x y hl
    have lx := vl_lt x
    have ly := vl_lt y
    rw [vl_cons, vl_cons]
    rw [← hl] at ly ⊢
    simp only [Lib.compareBytes, UInt8.lt_iff_toNat_lt]
    by_cases h3 : a.toNat < b.toNat
    · have := mul_gap (y := vl y) h3 lx
      rw [if_pos h3]
      exact ⟨⟨fun _ => this, fun _ => by decide⟩, fun e => absurd e (by omega)⟩
    · rw [if_neg h3]
      by_cases h4 : b.toNat < a.toNat
      · have := mul_gap (y := vl x) h4 ly
        rw [if_pos h4]
        exact ⟨⟨fun h => absurd h (by decide), fun h => absurd h (by omega)⟩, fun e => absurd e (by omega)⟩
      · have e : a = b := UInt8.toNat_inj.1 (by omega)
        subst e
        rw [if_neg h4]
        refine ⟨h1.trans ⟨fun h => by omega, fun h => by omega⟩, fun h => ?_⟩
        rw [h2 (by omega)]
theorem cfD_lt (x y : Dg) : cfD x y < 0 ↔ dkey x < dkey y := (cb_vl x.1 y.1 (by rw [x.2, y.2])).1
theorem dkey_inj (x y : Dg) (h : dkey x = dkey y) : x = y := Subtype.ext ((cb_vl x.1 y.1 (by rw [x.2, y.2])).2 h)
/-- The digests in order. -/
def srt (l : List Dg) : List Dg := sortK dkey l
theorem srt_perm (l : List Dg) : (srt l).Perm l := sortK_perm _ _
theorem srt_eq {l l' : List Dg} (h : l.Perm l') : srt l = srt l' := sorted_uniq dkey_inj ((srt_perm l).trans h) (srt_perm l') (sortK_sorted _ _) (sortK_sorted _ _)
attribute [local irreducible] CG NG SG Vals Der Row Blk MapIs IterAt DerX
set_option maxHeartbeats 8000000 in
theorem bcmp_spec {w : World} {b off c b' off' c' : Nat} {x y : Dg} (hx : Row w b off (dc x)) (hy : Row w b' off' (dc y)) : Ret Tryz.prog 48 #[.slice (some ⟨b, off, none⟩) 8 c, .slice (some ⟨b', off', none⟩) 8 c'] w (.int .i64 (cfD x y)) := by
  refine enter2 Tryz.func48 rfl Tryz.ntmps48 rfl ?_
  repeat (first|apply cA|apply cB|apply cD|apply cE|refine cV rfl rfl rfl rfl (by first|((first|apply qmv|apply qas)<;>(exact rfl))|fail) ?_)
  refine cV rfl rfl rfl rfl (vals_cmp (by exact rho_of rfl) (by exact rho_of rfl) hx hy List.not_mem_nil List.not_mem_nil) ?_
  repeat (first|apply cD|apply cE|apply cH|refine cV rfl rfl rfl rfl (by first|(apply qas<;>(exact rfl))|fail) ?_)
  refine ret1 (Or.inl rfl) Tryz.results48 (by first | exact ResV.tmp rfl | exact ResV.agg rfl rfl (by assumption) (by first | exact dc_length _ | exact nc_length _ | exact rc_length _ _ _ | exact ec_length _ | exact dl_length _ _ _ _ | rfl) | exact ResV.cell rfl rfl (by assumption)) ?_
  exact ⟨rfl, Kp.refl _ _⟩
set_option maxHeartbeats 8000000 in
theorem lessP_spec (x y : Dg) (w : World) : Ret Tryz.prog 47 #[dv x, dv y] w (.int .i64 (cfD x y)) := by
  refine enter2 Tryz.func47 rfl Tryz.ntmps47 rfl ?_
  repeat (first|apply cA|apply cB)
  refine SG.box rfl rfl rfl (by exact rho_of rfl) (fun b2 w1 hk1 hb2 hB2 => ?_)
  refine SG.box rfl rfl rfl (by exact rho_of rfl) (fun b3 w2 hk2 hb3 hB3 => ?_)
  have hB2 : Blk w1 b2 (.cells (dc x).toArray 44) := hB2
  have hB3 : Blk w2 b3 (.cells (dc y).toArray 44) := hB3
  have q0 : Row w2 b2 0 (dc x) := Row.all (hB2.kp0 hk2) rfl
  have r0 : Row w2 b3 0 (dc y) := Row.all hB3 rfl
  repeat (first|apply cA|apply cD|apply cE|refine cV rfl rfl rfl rfl (by first|(apply qas<;>(exact rfl))|fail) ?_)
  refine CG.draw0 mixed [0, 1, 2, 3] [] (by kernel_rfl) ?_
  repeat (refine cY rfl rfl rfl (by first|(apply qx5<;>(exact rfl))|fail) ?_)
  refine Der.call rfl rfl rfl (by repeat' (first | exact True.intro | exact rho_of rfl | refine And.intro ?_ ?_)) (fun w hk _ => bcmp_spec (x := x) (y := y) (q0.kp0 hk) (r0.kp0 hk)) ?_
  repeat (refine cY rfl rfl rfl (by first|(apply qas<;>(exact rfl))|fail) ?_)
  refine Der.fin (fun w3 hk3 _ _ => ?_)
  repeat (first|apply cE|apply cH)
  refine ret1 (Or.inl rfl) Tryz.results47 (by first | exact ResV.tmp rfl | exact ResV.agg rfl rfl (by assumption) (by first | exact dc_length _ | exact nc_length _ | exact rc_length _ _ _ | exact ec_length _ | exact dl_length _ _ _ _ | rfl) | exact ResV.cell rfl rfl (by assumption)) ?_
  exact ⟨rfl, (hk1.trans hk2).trans hk3⟩
end Go.Proofs.YtajllbdeoopimaaGreat
namespace Go.Proofs.YtajllbdeoopimaaGreat
open Go.Proofs Go.Shelf Go.Sort
set_option linter.unusedVariables false
instance : Inhabited Dg := ⟨zd⟩
attribute [local irreducible] CG NG SG Vals Der Row Blk MapIs IterAt DerX
set_option maxHeartbeats 8000000 in
theorem lessS_spec (x y : Dg) (w : World) : Ret Tryz.prog 80 #[dv x, dv y] w (.int .i64 (cfD x y)) := by
  refine enter2 Tryz.func80 rfl Tryz.ntmps80 rfl ?_
  repeat (first|apply cA|apply cB)
  refine SG.box rfl rfl rfl (by exact rho_of rfl) (fun b2 w1 hk1 hb2 hB2 => ?_)
  refine SG.box rfl rfl rfl (by exact rho_of rfl) (fun b3 w2 hk2 hb3 hB3 => ?_)
  have hB2 : Blk w1 b2 (.cells (dc x).toArray 44) := hB2
  have hB3 : Blk w2 b3 (.cells (dc y).toArray 44) := hB3
  have q0 : Row w2 b2 0 (dc x) := Row.all (hB2.kp0 hk2) rfl
  have r0 : Row w2 b3 0 (dc y) := Row.all hB3 rfl
  repeat (first|apply cA|apply cD|apply cE|refine cV rfl rfl rfl rfl (by first|(apply qas<;>(exact rfl))|fail) ?_)
  refine CG.draw0 mixed [0, 1, 2, 3] [] (by kernel_rfl) ?_
  repeat (refine cY rfl rfl rfl (by first|(apply qx5<;>(exact rfl))|fail) ?_)
  refine Der.call rfl rfl rfl (by repeat' (first | exact True.intro | exact rho_of rfl | refine And.intro ?_ ?_)) (fun w hk _ => bcmp_spec (x := x) (y := y) (q0.kp0 hk) (r0.kp0 hk)) ?_
  repeat (refine cY rfl rfl rfl (by first|(apply qas<;>(exact rfl))|fail) ?_)
  refine Der.fin (fun w3 hk3 _ _ => ?_)
  repeat (first|apply cE|apply cH)
  refine ret1 (Or.inl rfl) Tryz.results80 (by first | exact ResV.tmp rfl | exact ResV.agg rfl rfl (by assumption) (by first | exact dc_length _ | exact nc_length _ | exact rc_length _ _ _ | exact ec_length _ | exact dl_length _ _ _ _ | rfl) | exact ResV.cell rfl rfl (by assumption)) ?_
  exact ⟨rfl, (hk1.trans hk2).trans hk3⟩
set_option maxHeartbeats 8000000 in
theorem collect_spec {w : World} {g : FuncId} [F : Fnc Tryz.prog g] {lb : Array Value} {N : Nat} {S : List Dg → Prop} (hN : N ≤ 1000) (hG : Gv g lb N S w) :
    Calls Tryz.prog 69 #[.func (.func g) #[] lb] w (fun e w' => ∃ v xs, e = .returned v ∧ S xs ∧ Kp [] w w' ∧ w'.ownsRow w.heap.size 44 8 v xs.length (flt dc xs)) := by
  refine enter1 Tryz.func69 rfl Tryz.ntmps69 rfl ?_
  repeat (first|apply cA|apply cB|apply cD|apply cE|refine cV rfl rfl rfl rfl (by first|((first|apply qmv|apply qas)<;>(exact rfl))|fail) ?_)
  refine SG.call rfl rfl rfl (vs := [.slice none 0 0, .func (.func g) #[] lb]) (by repeat' (first | exact True.intro | exact rho_of rfl | refine And.intro ?_ ?_)) ((appendSeq_spec hN hG).mono (fun e w1 hh => ?_))
  obtain ⟨v, xs, he, hS, hk1, ho⟩ := hh
  refine ⟨v, he, ?_⟩
  obtain ⟨a, c, rfl, _, _⟩ := Sl.own dc_length ho rfl
  repeat (first|apply cD|apply cE|apply cH|refine cV rfl rfl rfl rfl (by first|(apply qas<;>(exact rfl))|fail) ?_)
  refine ret1 (Or.inl rfl) Tryz.results69 (by first | exact ResV.tmp rfl | exact ResV.agg rfl rfl (by assumption) (by first | exact dc_length _ | exact nc_length _ | exact rc_length _ _ _ | exact ec_length _ | exact dl_length _ _ _ _ | rfl) | exact ResV.cell rfl rfl (by assumption)) ?_
  exact ⟨_, xs, rfl, hS, hk1, ho⟩
/-- A row of digests, sorted where it lies. -/
theorem sortD_spec {w : World} {base : Nat} {v : Value} {l : List Dg} {f : FuncId} (hf : ∀ args w, (callFunc f args).run Tryz.prog w = .ok (.enter f args) w) (hc : ∀ x y W, Ret Tryz.prog f #[dv x, dv y] W (.int .i64 (cfD x y))) (ho : w.ownsRow base 44 8 v l.length (flt dc l)) (hl : l.length ≤ 1000000) : Calls Tryz.prog 70 #[v, .func (.func f) #[] #[]] w (fun e w' => e = .returned (.tuple #[]) ∧ Kp (ownB v) w w' ∧ w'.ownsRow base 44 8 v l.length (flt dc (srt l))) :=
  (sort_own sortL Tryz.isAgg44 Tryz.sizeOf44 (by omega) dc_length dc_one cfD (swo_key cfD dkey cfD_lt) f hf (fun x y W => hc x y W) ho (by omega)).mono (fun e w' ⟨h1, h2, l', h3, h4, h5⟩ => ⟨h1, h2, by
    have e : l' = srt l := sorted_uniq (key := dkey) dkey_inj h3 (srt_perm l) (h4.imp (fun h => (ltOf_false (cf := cfD) (key := dkey) cfD_lt).1 h)) (sortK_sorted _ l)
    rwa [e] at h5⟩)
set_option maxHeartbeats 8000000 in
theorem sortedF_spec {w : World} {g : FuncId} [F : Fnc Tryz.prog g] {lb : Array Value} {N : Nat} {m : List Dg} {f : FuncId} (hf : ∀ args w, (callFunc f args).run Tryz.prog w = .ok (.enter f args) w) (hc : ∀ x y W, Ret Tryz.prog f #[dv x, dv y] W (.int .i64 (cfD x y))) (hN : N ≤ 1000) (hm : m.length ≤ 1000) (hG : Gv g lb N (fun xs => xs.Perm m) w) :
    RetO Tryz.prog 44 dc 8 45 #[.func (.func g) #[] lb, .func (.func f) #[] #[]] w (srt m) := by
  refine enter2 Tryz.func45 rfl Tryz.ntmps45 rfl ?_
  repeat (first|apply cA|apply cB|apply cD|apply cE|refine cV rfl rfl rfl rfl (by first|((first|apply qmv|apply qas)<;>(exact rfl))|fail) ?_)
  refine SG.call rfl rfl rfl (vs := [.func (.func g) #[] lb]) (by repeat' (first | exact True.intro | exact rho_of rfl | refine And.intro ?_ ?_)) ((collect_spec hN hG).mono (fun e w1 hh => ?_))
  obtain ⟨v, xs, he, hS, hk1, ho⟩ := hh
  refine ⟨v, he, ?_⟩
  have hlen : xs.length = (srt m).length := by rw [(srt_perm m).length_eq, hS.length_eq]
  have hxm := hS.length_eq
  obtain ⟨a, c, rfl, _, _⟩ := Sl.own dc_length ho rfl
  repeat (first|apply cA|apply cB|apply cD|apply cE|refine cV rfl rfl rfl rfl (by first|((first|apply qmv|apply qas)<;>(exact rfl))|fail) ?_)
  refine SG.call rfl rfl rfl (vs := [.slice a xs.length c, .func (.func f) #[] #[]]) (by repeat' (first | exact True.intro | exact rho_of rfl | refine And.intro ?_ ?_)) ((sortD_spec hf hc ho (by omega)).mono (fun e w2 hh => ?_))
  obtain ⟨he, hk2, ho2⟩ := hh
  refine ⟨_, he, ?_⟩
  rw [srt_eq hS, hlen] at ho2
  rw [hlen]
  repeat (first|apply cA|apply cB|apply cD|apply cE|apply cH|refine cV rfl rfl rfl rfl (by first|((first|apply qmv|apply qas)<;>(exact rfl))|fail) ?_)
  refine ret1 (Or.inl rfl) Tryz.results45 (by first | exact ResV.tmp rfl | exact ResV.agg rfl rfl (by assumption) (by first | exact dc_length _ | exact nc_length _ | exact rc_length _ _ _ | exact ec_length _ | exact dl_length _ _ _ _ | rfl) | exact ResV.cell rfl rfl (by assumption)) ?_
  rw [hlen] at hk2
  exact ⟨_, rfl, ho2, hk1.trans_new hk2 (own_new ho2 (Nat.le_refl _))⟩
theorem gvP {w : World} {bm b : Nat} {m : List (Dg × Pr)} (hc : Row w bm 0 [.map (some b)]) (hm : MapIs w b (dv (n := 8)) prv m) : Gv 71 #[.pointer (some ⟨bm, 0, none⟩)] m.length (fun xs => xs.Perm (m.map (·.1))) w :=
  fun l J W hk hJ hR h0 => keysP1_spec (hc.kp0 hk) (hm.kp0 hk) J hJ hR h0
set_option maxHeartbeats 8000000 in
theorem sortedP_spec {w : World} {b : Nat} {m : List (Dg × Pr)} (hm : MapIs w b (dv (n := 8)) prv m) (hl : m.length ≤ 1000) : RetO Tryz.prog 44 dc 8 26 #[.map (some b)] w (srt (m.map (·.1))) := by
  refine enter1 Tryz.func26 rfl Tryz.ntmps26 rfl ?_
  repeat (first|apply cA|apply cB|apply cD|apply cE|refine cV rfl rfl rfl rfl (by first|((first|apply qmv|apply qas)<;>(exact rfl))|fail) ?_)
  refine SG.call rfl rfl rfl (vs := [.map (some b)]) (by repeat' (first | exact True.intro | exact rho_of rfl | refine And.intro ?_ ?_)) ((keysP_spec hm).mono (fun e w1 hh => ?_))
  obtain ⟨bm, he, hk1, hb1, hR1⟩ := hh
  refine ⟨_, he, ?_⟩
  skip
  refine SG.call rfl rfl rfl (vs := [.func (.func 71) #[] #[.pointer (some ⟨bm, 0, none⟩)], .func (.func 47) #[] #[]]) (by repeat' (first | exact True.intro | exact rho_of rfl | refine And.intro ?_ ?_)) ((sortedF_spec (fun args w => fn.i47.run w args) lessP_spec hl (by rw [List.length_map]; exact hl) (gvP hR1 (hm.kp0 hk1))).mono (fun e w2 hh => ?_))
  obtain ⟨v, he, ho, hk2⟩ := hh
  refine ⟨v, he, ?_⟩
  obtain ⟨a, c, rfl, _, _⟩ := Sl.own dc_length ho rfl
  repeat (first|apply cD|apply cE|apply cH|refine cV rfl rfl rfl rfl (by first|(apply qas<;>(exact rfl))|fail) ?_)
  refine ret1 (Or.inl rfl) Tryz.results26 (by first | exact ResV.tmp rfl | exact ResV.agg rfl rfl (by assumption) (by first | exact dc_length _ | exact nc_length _ | exact rc_length _ _ _ | exact ec_length _ | exact dl_length _ _ _ _ | rfl) | exact ResV.cell rfl rfl (by assumption)) ?_
  exact ⟨_, rfl, own_mono ho hk1.size, hk1.trans hk2⟩
theorem gvS {w : World} {bm b : Nat} {m : List (Dg × Sh)} (hc : Row w bm 0 [.map (some b)]) (hm : MapIs w b (dv (n := 8)) shv m) : Gv 86 #[.pointer (some ⟨bm, 0, none⟩)] m.length (fun xs => xs.Perm (m.map (·.1))) w :=
  fun l J W hk hJ hR h0 => keysS1_spec (hc.kp0 hk) (hm.kp0 hk) J hJ hR h0
set_option maxHeartbeats 8000000 in
theorem sortedS_spec {w : World} {b : Nat} {m : List (Dg × Sh)} (hm : MapIs w b (dv (n := 8)) shv m) (hl : m.length ≤ 1000) : RetO Tryz.prog 44 dc 8 63 #[.map (some b)] w (srt (m.map (·.1))) := by
  refine enter1 Tryz.func63 rfl Tryz.ntmps63 rfl ?_
  repeat (first|apply cA|apply cB|apply cD|apply cE|refine cV rfl rfl rfl rfl (by first|((first|apply qmv|apply qas)<;>(exact rfl))|fail) ?_)
  refine SG.call rfl rfl rfl (vs := [.map (some b)]) (by repeat' (first | exact True.intro | exact rho_of rfl | refine And.intro ?_ ?_)) ((keysS_spec hm).mono (fun e w1 hh => ?_))
  obtain ⟨bm, he, hk1, hb1, hR1⟩ := hh
  refine ⟨_, he, ?_⟩
  skip
  refine SG.call rfl rfl rfl (vs := [.func (.func 86) #[] #[.pointer (some ⟨bm, 0, none⟩)], .func (.func 80) #[] #[]]) (by repeat' (first | exact True.intro | exact rho_of rfl | refine And.intro ?_ ?_)) ((sortedF_spec (fun args w => fn.i80.run w args) lessS_spec hl (by rw [List.length_map]; exact hl) (gvS hR1 (hm.kp0 hk1))).mono (fun e w2 hh => ?_))
  obtain ⟨v, he, ho, hk2⟩ := hh
  refine ⟨v, he, ?_⟩
  obtain ⟨a, c, rfl, _, _⟩ := Sl.own dc_length ho rfl
  repeat (first|apply cD|apply cE|apply cH|refine cV rfl rfl rfl rfl (by first|(apply qas<;>(exact rfl))|fail) ?_)
  refine ret1 (Or.inl rfl) Tryz.results63 (by first | exact ResV.tmp rfl | exact ResV.agg rfl rfl (by assumption) (by first | exact dc_length _ | exact nc_length _ | exact rc_length _ _ _ | exact ec_length _ | exact dl_length _ _ _ _ | rfl) | exact ResV.cell rfl rfl (by assumption)) ?_
  exact ⟨_, rfl, own_mono ho hk1.size, hk1.trans hk2⟩
end Go.Proofs.YtajllbdeoopimaaGreat
namespace Go.Proofs.YtajllbdeoopimaaGreat
set_option linter.unusedVariables false
theorem bsP' (w : World) (a0 a1 a2 a3 a4 a5 a6 a7 b0 b1 b2 b3 b4 b5 b6 b7 c0 c1 c2 c3 c4 c5 c6 c7 : UInt8) (x y z : Int) : (Instr.buildSlice 65 1 #[(0, .agg #[bv a0, bv a1, bv a2, bv a3, bv a4, bv a5, bv a6, bv a7, bv b0, bv b1, bv b2, bv b3, bv b4, bv b5, bv b6, bv b7, bv c0, bv c1, bv c2, bv c3, bv c4, bv c5, bv c6, bv c7, .int .i64 x, .int .i64 y, .int .i64 z])]).run Tryz.prog w = .ok (.slice (some ⟨w.heap.size, 0, none⟩) 1 1) { w with heap := w.heap.push (.cells #[bv a0, bv a1, bv a2, bv a3, bv a4, bv a5, bv a6, bv a7, bv b0, bv b1, bv b2, bv b3, bv b4, bv b5, bv b6, bv b7, bv c0, bv c1, bv c2, bv c3, bv c4, bv c5, bv c6, bv c7, .int .i64 x, .int .i64 y, .int .i64 z] 68) } := by kernel_rfl
theorem bsP (r : Pr) (w : World) : (Instr.buildSlice 65 1 #[(0, prv r)]).run Tryz.prog w = .ok (.slice (some ⟨w.heap.size, 0, none⟩) 1 1) { w with heap := w.heap.push (.cells (flt prc [r]).toArray 68) } := by
  rw [flt_one]
  obtain ⟨⟨l, hl⟩, ⟨m, hm⟩, ⟨n, hn⟩, x, y, z⟩ := r
  match l, hl, m, hm, n, hn with
  | [a0, a1, a2, a3, a4, a5, a6, a7], _, [b0, b1, b2, b3, b4, b5, b6, b7], _, [c0, c1, c2, c3, c4, c5, c6, c7], _ => exact bsP' w a0 a1 a2 a3 a4 a5 a6 a7 b0 b1 b2 b3 b4 b5 b6 b7 c0 c1 c2 c3 c4 c5 c6 c7 x y z
/-- What is forwarded, in the order of the names. -/
def prsL (mp : Mp) : List Pr := (srt (mp.map (·.1))).filterMap (alook mp)
theorem fm_snoc {α β : Type} {f : α → Option β} {l : List α} {i : Nat} (h : i < l.length) {r : β} (hr : f l[i] = some r) : (l.take (i + 1)).filterMap f = (l.take i).filterMap f ++ [r] := by
  rw [List.take_succ_eq_append_getElem h, List.filterMap_append]
  simp [hr]
theorem alook_key {κ ν : Type} [DecidableEq κ] {m : List (κ × ν)} {k : κ} (h : k ∈ m.map (·.1)) : ∃ v, alook m k = some v := by
  cases e : alook m k with
  | some v => exact ⟨v, rfl⟩
  | none =>
    obtain ⟨p, h1, h2⟩ := List.mem_map.1 h
    exact absurd h2 (alook_none.1 e p h1)
theorem srt_look {ν : Type} (m : List (Dg × ν)) : ∀ k ∈ srt (m.map (·.1)), ∃ v, alook m k = some v := fun k hk => alook_key ((srt_perm _).mem_iff.1 hk)
attribute [local irreducible] CG NG SG Vals Der Row Blk MapIs IterAt DerX
set_option maxHeartbeats 8000000 in
theorem peers_spec {w : World} {bh bs bp : Nat} {win : Int} {ms : Ms} {mp : Mp} (hH : HubAt w bh bs bp win ms mp) (hl : ms.length ≤ 1000) : RetO Tryz.prog 44 dc 8 34 #[.pointer (some ⟨bh, 0, none⟩)] w (srt (ms.map (·.1))) := by
  refine enter1 Tryz.func34 rfl Tryz.ntmps34 rfl ?_
  obtain ⟨-, r1, -⟩ := hH.rows
  repeat (first|apply cA|apply cB|apply cD|apply cE|refine cV rfl rfl rfl rfl (by first|((first|apply qep|apply qmv|apply qas|apply qep)<;>(exact rfl))|fail) ?_)
  refine dB rfl (by exact rho_of rfl) rfl ?_
  repeat (first|apply cA|apply cB|apply cE|apply cF|refine cV rfl rfl rfl rfl (by first|((first|apply qmv|apply qlc|apply qfa|apply qnc)<;>(first|exact rfl|assumption|exact List.not_mem_nil))|fail) ?_)
  refine SG.call rfl rfl rfl (vs := [.map (some bs)]) (by repeat' (first | exact True.intro | exact rho_of rfl | refine And.intro ?_ ?_)) ((sortedS_spec hH.sh hl).mono (fun e w2 hh => ?_))
  obtain ⟨v, he, ho, hk2⟩ := hh
  refine ⟨v, he, ?_⟩
  obtain ⟨a, c, rfl, _, _⟩ := Sl.own dc_length ho rfl
  repeat (first|apply cD|apply cE|apply cH|refine cV rfl rfl rfl rfl (by first|(apply qas<;>(exact rfl))|fail) ?_)
  refine ret1 (Or.inl rfl) Tryz.results34 (by first | exact ResV.tmp rfl | exact ResV.agg rfl rfl (by assumption) (by first | exact dc_length _ | exact nc_length _ | exact rc_length _ _ _ | exact ec_length _ | exact dl_length _ _ _ _ | rfl) | exact ResV.cell rfl rfl (by assumption)) ?_
  exact ⟨_, rfl, ho, hk2⟩
set_option maxHeartbeats 16000000 in
theorem pairs_spec {w : World} {bh bs bp : Nat} {win : Int} {ms : Ms} {mp : Mp} (hH : HubAt w bh bs bp win ms mp) (hl : mp.length ≤ 1000) : RetO Tryz.prog 68 prc 27 18 #[.pointer (some ⟨bh, 0, none⟩)] w (prsL mp) := by
  refine enter1 Tryz.func18 rfl Tryz.ntmps18 rfl ?_
  obtain ⟨-, -, r2⟩ := hH.rows
  have hlk := srt_look mp
  have hsl : (srt (mp.map (·.1))).length = mp.length := by rw [(srt_perm _).length_eq, List.length_map]
  repeat (first|apply cA|apply cB|apply cD|apply cE|refine cV rfl rfl rfl rfl (by first|((first|apply qep|apply qmv|apply qas|apply qep)<;>(exact rfl))|fail) ?_)
  refine dB rfl (by exact rho_of rfl) rfl ?_
  repeat (first|apply cA|apply cB|apply cD|apply cE|apply cF|refine cV rfl rfl rfl rfl (by first|((first|apply qmv|apply qas|apply qlc|apply qfa|apply qnc)<;>(first|exact rfl|assumption|exact List.not_mem_nil))|fail) ?_)
  refine SG.call rfl rfl rfl (vs := [.map (some bp)]) (by repeat' (first | exact True.intro | exact rho_of rfl | refine And.intro ?_ ?_)) ((sortedP_spec hH.pr hl).mono (fun e w2 hh => ?_))
  obtain ⟨v, he, ho, hk2⟩ := hh
  refine ⟨v, he, ?_⟩
  obtain ⟨a, c, rfl, _, hS⟩ := Sl.own dc_length ho rfl
  have hH2 := hH.kp0 hk2
  clear r2 ho
  have e0 : prsL mp = (srt (mp.map (·.1))).filterMap (alook mp) := rfl
  rw [e0]
  generalize srt (mp.map (·.1)) = l at hlk hsl hS
  repeat (first|apply cD|apply cE|apply cG|refine cV rfl rfl rfl rfl (by first|((first|apply qmv|apply qln)<;>(exact rfl))|fail) ?_)
  refine CG.loop (X := Value × Nat) (fun x => [(0, .pointer (some ⟨bh, 0, none⟩)), (3, x.1), (12, .slice a l.length c), (13, .int .i64 (l.length : Int)), (14, .int .i64 (x.2 : Int))])
    (fun x w' => x.2 ≤ l.length ∧ Kp [] w2 w' ∧ w'.ownsRow w2.heap.size 68 27 x.1 ((l.take x.2).filterMap (alook mp)).length (flt prc ((l.take x.2).filterMap (alook mp)))) (fun x => l.length - x.2) (.slice none 0 0, 0) ⟨Nat.zero_le _, Kp.refl _ _, own_nil⟩ (by (repeat' (first | exact True.intro | exact rfl | refine And.intro ?_ ?_))) ?_
  rintro ⟨v3, i⟩ w3 ⟨hi, hk3, ho⟩
  simp only at hi ho
  refine CG.to [(0, .pointer (some ⟨bh, 0, none⟩)), (3, v3), (12, .slice a l.length c), (13, .int .i64 (l.length : Int)), (14, .int .i64 (i : Int))] (by (repeat' (first | exact True.intro | exact rfl | refine And.intro ?_ ?_))) ?_
  have k3 := hk2.trans hk3
  by_cases hlt : i < l.length
  · have g1 : (i : Int) < (l.length : Int) := by omega
    obtain ⟨ba, oa, rfl, hri⟩ := (hS.kp0 hk3).at hlt
    obtain ⟨r, hr⟩ := hlk l[i] (List.getElem_mem hlt)
    have hsn := fm_snoc (f := alook mp) hlt hr
    have hfl : ((l.take i).filterMap (alook mp)).length ≤ i := Nat.le_trans (List.length_filterMap_le _ _) (by rw [List.length_take]; omega)
    have hH3 := hH2.kp0 hk3
    repeat (first|apply cA|apply cB|apply cD|apply cE|refine cV rfl rfl rfl rfl (by first|(apply qls<;>(first|exact rfl|exact dct (by first|assumption|omega)|fail))|fail) ?_)
    refine dA rfl (by exact rho_of rfl) rfl ?_
    repeat (first|apply cA|apply cB|apply cE|apply cF|apply cG|refine cV rfl rfl rfl rfl (by first|((first|apply qla|apply qix)<;>(first|exact rfl|assumption|exact Ar.mk (by omega)|exact List.not_mem_nil|apply dc_length|fail))|fail) ?_)
    refine SG.alloc rfl rfl rfl (fun b5 w4 hk4 hb5 hB5 => ?_)
    refine SG.setAll (l := dc l[i]) rfl rfl (by exact rho_of rfl) (by exact rho_of rfl) hB5 (dc_length _) rfl (dc_one _) (fun w5 hk5 hB5 => ?_)
    have hB5 : Blk w5 b5 (.cells (dc l[i]).toArray 44) := hB5
    have k35 : Kp [] w3 w5 := hk4.trans_new hk5 (new1 (by omega))
    have hH5 := hH3.kp0 k35
    obtain ⟨-, -, r2⟩ := hH5.rows
    have hm5 := hH5.pr
    have hR5 : Row w5 b5 0 (dc l[i]) := Row.all hB5 rfl
    clear hri
    repeat (first|apply cD|apply cE)
    refine CG.free mixed 8 [0, 1, 2, 3, 4, 5, 6, 7] [(7, gS w5.heap.size prc 27 [r])] (by kernel_rfl) (by intro p hp y; simp at hp; subst hp; exact gS_stab y) ?_
    repeat (refine cZ rfl rfl rfl rfl (by first|((first|apply qmv|apply qlc|apply qla|apply qfa|apply qnc|apply qlv)<;>(first|exact rfl|assumption|exact List.not_mem_nil|apply dc_length|exact lk1 (by assumption)|fail))|fail) ?_)
    refine DerX.buildSlice [r] prc_length rfl rfl rfl rfl rfl rfl (Nat.le_refl _) (bsP r) (fun a7 c7 => ?_)
    refine DerX.tl (fun w6 hk6 hF => ?_)
    have hS7 : SlF w5.heap.size prc 27 w6 a7 c7 [r] := hF _ (.head _)
    have k6 := (hk3.trans k35).trans hk6
    have ho6 := own_kp0 ho (k35.trans hk6)
    clear hF r2 hm5 hR5
    skip
    refine SG.appO (enc := prc) (xs := (l.take i).filterMap (alook mp)) (ys := [r]) (base := w2.heap.size) rfl rfl rfl (by exact rho_of rfl) (by exact rho_of rfl) rfl rfl rfl rfl prc_length prc_one ho6 hS7.sl (by simp only [maxLen, List.length_cons, List.length_nil]; omega) (by show (((l.take i).filterMap (alook mp)).length + 1) * 48 ≤ _; omega) k6.size (fun v4 w7 hk7 ho7 _ => ?_)
    repeat (first|apply cB|apply cD|apply cE|apply cU|refine cV rfl rfl rfl rfl (by first|((first|apply qmv|apply qas|apply qad)<;>(first|exact rfl|exact Ar.mk (by omega)|fail))|fail) ?_)
    refine NG.round (v4, i + 1) (by (repeat' (first | exact True.intro | exact rfl | refine And.intro ?_ ?_))) ⟨by simp only; omega, k6.trans_new hk7 (own_new ho6 (Nat.le_refl _)), ?_⟩ (by simp only; omega)
    · simp only
      rw [hsn]
      exact ho7
  · have g1 : ¬ (i : Int) < (l.length : Int) := by omega
    rw [List.take_of_length_le (by omega)] at ho
    obtain ⟨a3, c3, rfl, _, _⟩ := Sl.own prc_length ho rfl
    repeat (first|apply cA|apply cB|apply cD|apply cE|refine cV rfl rfl rfl rfl (by first|(apply qls<;>(first|exact rfl|exact dcf (by first|assumption|omega)|fail))|fail) ?_)
    refine dB rfl (by exact rho_of rfl) rfl ?_
    repeat (first|apply cA|apply cB|apply cD|apply cE|apply cH|apply cJ|apply cM|refine cN rfl ?_|refine cV rfl rfl rfl rfl (by first|((first|apply qmv|apply qas)<;>(exact rfl))|fail) ?_)
    refine ret1 (Or.inl rfl) Tryz.results18 (by first | exact ResV.tmp rfl | exact ResV.agg rfl rfl (by assumption) (by first | exact dc_length _ | exact nc_length _ | exact rc_length _ _ _ | exact ec_length _ | exact dl_length _ _ _ _ | rfl) | exact ResV.cell rfl rfl (by assumption)) ?_
    exact ⟨_, rfl, own_mono ho hk2.size, hk2.trans hk3⟩
end Go.Proofs.YtajllbdeoopimaaGreat
namespace Go.Proofs.YtajllbdeoopimaaGreat
set_option linter.unusedVariables false
def dg1 (b : UInt8) : Dg := ⟨[b, 0, 0, 0, 0, 0, 0, 0], rfl⟩
theorem dg1_inj {a b : UInt8} (h : dg1 a = dg1 b) : a = b := by
  have := congrArg Subtype.val h
  simpa [dg1] using this
def twoP (nm : Dg) (e : Int) : Pu := ⟨nm, 0, e, e, []⟩
theorem checkZ_ok {p : Pu} (h : p.Ok) : checkZ p = 0 := by
  unfold checkZ
  rw [if_neg (fun k => k ⟨h.n, h.a, h.b⟩), if_neg (by have := h.l; omega), if_pos h.c, if_pos h.s]
theorem twoP_ok (nm : Dg) {e : Int} (h0 : 0 ≤ e) (h1 : e ≤ 1000000) : (twoP nm e).Ok :=
  ⟨by simp [twoP, farP], by simp only [twoP, amtP]; omega, by simp only [twoP, amtP]; omega, by simp [twoP], by simp only [twoP, amtP, sumP, sumH, List.foldl_nil]; omega, rfl⟩
theorem oneP_ok {p : Pu} {h : Hd} (e : p.held = [h]) (hh : h.Ok) (hn : farP p.num) (ha : amtP p.h0) (hb : amtP p.h1) (hs : amtP (p.h0 + p.h1 + h.amt)) : p.Ok :=
  ⟨hn, ha, hb, by simp [e], by simpa [sumP, sumH, e] using hs, by rw [e]; simp [chkL, hh]⟩
theorem open0 (k nm : Dg) {e s : Int} (h0 : 0 ≤ e) (h1 : e ≤ 1000000) (hs : s = 0 ∨ s = 1) : openE [] k (twoP nm e) s = 0 := by
  unfold openE
  rw [checkZ_ok (twoP_ok nm h0 h1), if_neg (fun h => h rfl), if_neg (by omega), if_neg (fun h => h rfl), if_neg (by simp [alook, namedB]), if_neg (by simp)]
theorem open1 {k1 k2 nm : Dg} {x : Sh} {e s : Int} (h0 : 0 ≤ e) (h1 : e ≤ 1000000) (hs : s = 0 ∨ s = 1) (hk : k1 ≠ k2) (hn : x.p.name ≠ nm) : openE [(k1, x)] k2 (twoP nm e) s = 0 := by
  unfold openE
  rw [checkZ_ok (twoP_ok nm h0 h1), if_neg (fun h => h rfl), if_neg (by omega), if_neg (fun h => h rfl), if_neg (by simp [alook, namedB, hk]; exact hn), if_neg (by simp)]
theorem aput1 {ν : Type} {k1 k2 : Dg} {x y : ν} (hk : k1 ≠ k2) : aput [(k1, x)] k2 y = [(k1, x), (k2, y)] := by simp [aput, hk]
theorem aput2 {ν : Type} {k1 k2 : Dg} {x y x' y' : ν} (hk : k1 ≠ k2) : aput (aput [(k1, x), (k2, y)] k1 x') k2 y' = [(k1, x'), (k2, y')] := by simp [aput, hk]
theorem aput2' {ν : Type} {k1 k2 : Dg} {x y x' y' : ν} (hk : k1 ≠ k2) : aput (aput [(k1, x), (k2, y)] k2 y') k1 x' = [(k1, x'), (k2, y')] := by simp [aput, hk]
theorem alook2 {ν : Type} {k1 k2 : Dg} {x y : ν} (hk : k1 ≠ k2) : alook [(k1, x), (k2, y)] k1 = some x ∧ alook [(k1, x), (k2, y)] k2 = some y := by simp [alook, hk]
/-- Two purses, one forwarded through. -/
structure Hop (k1 k2 n : Dg) (x y : Sh) (e now til amt : Int) : Prop where
  ne : k1 ≠ k2
  xp : ∃ nm, x.p = twoP nm e
  yp : ∃ nm, y.p = twoP nm e
  xs : x.side = 0 ∨ x.side = 1
  ys : y.side = 0 ∨ y.side = 1
  e0 : 0 ≤ e
  e1 : e ≤ 1000000
  n0 : 0 ≤ now
  n1 : now ≤ 1000000
  t0 : now + 5 ≤ til
  t1 : til ≤ 1000000
  a0 : 0 < amt
  a1 : amt ≤ e
theorem hold_two {x : Sh} {nm : Dg} {e : Int} (hx : x.p = twoP nm e) (h0 : 0 ≤ e) (h1 : e ≤ 1000000) {h : Hd} (hh : h.Ok) (ha : h.amt ≤ e) : chgZ x.p (holdE x.p h) = 0 := by
  have h2 : holdE x.p h = 0 := by
    unfold holdE
    have hv : haveP x.p h.side = e := by
      rw [hx]
      unfold haveP twoP
      split <;> rfl
    have := hh.s0
    have := hh.s1
    have := hh.a0
    have := hh.a1
    have := hh.t0
    have := hh.t1
    rw [if_neg (by omega), if_neg (by simp only [someP, farP, amtP]; omega), if_neg (by rw [hx]; simp [placeN, twoP]), if_neg (by rw [hx]; simp [twoP]), hv, if_neg (by omega)]
  unfold chgZ preZ
  rw [hx, checkZ_ok (twoP_ok nm h0 h1), ← hx, h2]
  simp [hx, twoP]
theorem Hop.hx {k1 k2 n : Dg} {x y : Sh} {e now til amt : Int} (h : Hop k1 k2 n x y e now til amt) : (nearH x n amt til).Ok := by
  obtain ⟨_, _, _, _, _, _, _, _, _, _, _, _, _⟩ := h
  constructor <;> simp only [nearH] <;> omega
theorem Hop.hy {k1 k2 n : Dg} {x y : Sh} {e now til amt : Int} (h : Hop k1 k2 n x y e now til amt) : (farH 5 y n amt til).Ok := by
  obtain ⟨_, _, _, _, _, _, _, _, _, _, _, _, _⟩ := h
  constructor <;> simp only [farH] <;> omega
theorem Hop.fwd {k1 k2 n : Dg} {x y : Sh} {e now til amt : Int} (h : Hop k1 k2 n x y e now til amt) : fwdE 5 [(k1, x), (k2, y)] [] now k1 k2 n amt til = 0 := by
  obtain ⟨nx, hx⟩ := h.xp
  obtain ⟨ny, hy⟩ := h.yp
  obtain ⟨l1, l2⟩ := alook2 (x := x) (y := y) h.ne
  have h1 := hold_two hx h.e0 h.e1 h.hx h.a1
  have h2 := hold_two hy h.e0 h.e1 h.hy h.a1
  unfold fwdE
  have := h.n0
  have := h.n1
  have := h.t0
  rw [if_neg (by omega), l1, l2]
  simp only
  rw [if_neg h.ne, if_neg (by simp [alook]), if_neg (by omega), h1, if_neg (fun h => h rfl), h2]
/-- What is held of one, parted again. -/
theorem free_one {p : Pu} {nm n : Dg} {e amt s til over : Int} (hp : p = nextP (holdQ (twoP nm e) ⟨n, amt, s, til⟩)) (hs : s = 0 ∨ s = 1) (h0 : 0 ≤ e) (h1 : e ≤ 1000000) (hh : (⟨n, amt, s, til⟩ : Hd).Ok) (ha : amt ≤ e) (o0 : 0 ≤ over) (o1 : over ≤ amt) :
    chgZ p (freeE p n over) = 0 ∧ (nextP (freeQ p n over)).held = [] ∧ haveP (nextP (freeQ p n over)) s = e - over ∧ haveP (nextP (freeQ p n over)) (1 - s) = e + over := by
  have a0 : 0 < amt := hh.a0
  have ok : p.Ok := by
    rcases hs with rfl | rfl
    · refine oneP_ok (h := ⟨n, amt, 0, til⟩) (by rw [hp]; rfl) hh (by rw [hp]; simp [nextP, holdQ, addP, twoP, farP]) (by rw [hp]; simp only [nextP, holdQ, addP, twoP, amtP, if_pos]; omega) (by rw [hp]; simp only [nextP, holdQ, addP, twoP, amtP, if_pos]; omega) (by rw [hp]; simp only [nextP, holdQ, addP, twoP, amtP, if_pos]; omega)
    · refine oneP_ok (h := ⟨n, amt, 1, til⟩) (by rw [hp]; rfl) hh (by rw [hp]; simp [nextP, holdQ, addP, twoP, farP]) (by rw [hp]; simp [nextP, holdQ, addP, twoP, amtP]; omega) (by rw [hp]; simp [nextP, holdQ, addP, twoP, amtP]; omega) (by rw [hp]; simp [nextP, holdQ, addP, twoP, amtP]; omega)
  have hat : atP p n = some ⟨n, amt, s, til⟩ := by
    rw [hp]
    rcases hs with rfl | rfl <;> simp [atP, placeN, nextP, holdQ, addP, twoP]
  have hpl : placeN p.held n = 0 := by
    rw [hp]
    rcases hs with rfl | rfl <;> simp [placeN, nextP, holdQ, addP, twoP]
  refine ⟨?_, ?_, ?_, ?_⟩
  · unfold chgZ preZ freeE
    rw [checkZ_ok ok, hat]
    have : p.num = 1 := by rw [hp]; rcases hs with rfl | rfl <;> rfl
    simp [this]
    omega
  all_goals
    unfold freeQ
    rw [hat]
    simp only [hpl]
    rw [hp]
    rcases hs with rfl | rfl <;> simp [partP, nextP, holdQ, addP, twoP, cutL, haveP]
  all_goals omega
end Go.Proofs.YtajllbdeoopimaaGreat
namespace Go.Proofs.YtajllbdeoopimaaGreat
set_option linter.unusedVariables false
theorem owf (z : Int) (h1 : -9223372036854775808 ≤ z) (h2 : z ≤ 9223372036854775807) : (Lit.int .i64 z).wf = true := by
  simp [Lit.wf, IntKind.min, IntKind.max, IntKind.signed, IntKind.bits]
  omega
theorem owb (u : UInt8) : (Lit.int .u8 (u.toNat : Int)).wf = true := by
  have := u.toNat_lt
  simp [Lit.wf, IntKind.min, IntKind.max, IntKind.signed, IntKind.bits]
  omega
theorem osz : ∃ m, Tryz.prog.types.size = m + 3 := ⟨Tryz.prog.types.size - 3, by kernel_rfl⟩
theorem oc5 : Tryz.prog.cellsOf 5 = 1 := by kernel_rfl
theorem oc3 : Tryz.prog.cellsOf 3 = 1 := by kernel_rfl
theorem ocD : Tryz.prog.cellsOf 44 = 8 := by kernel_rfl
theorem ocE : Tryz.prog.cellsOf 32 = 8 := by kernel_rfl
def fitZ (z : Int) : Prop := -9223372036854775808 ≤ z ∧ z ≤ 9223372036854775807
structure Hd.Fit (h : Hd) : Prop where
  a : fitZ h.amt
  b : fitZ h.side
  c : fitZ h.til
structure Pr.Fit (h : Pr) : Prop where
  a : fitZ h.amt
  b : fitZ h.inn
  c : fitZ h.out
theorem Hd.Ok.fit {h : Hd} (k : h.Ok) : h.Fit := by
  obtain ⟨_, _, _, _, _, _⟩ := k
  exact ⟨⟨by omega, by omega⟩, ⟨by omega, by omega⟩, ⟨by omega, by omega⟩⟩
theorem hc_inj {a b : Hd} (h : hc a = hc b) : a = b := by
  obtain ⟨n, x, y, z⟩ := a
  obtain ⟨n', x', y', z'⟩ := b
  have h' := List.append_inj h (by simp [dc_length])
  have h1 := dc_inj h'.1
  have h4 := h'.2
  simp at h4
  obtain ⟨rfl, rfl, rfl⟩ := h4
  simp only at h1
  subst h1
  rfl
theorem prc_inj {a b : Pr} (h : prc a = prc b) : a = b := by
  obtain ⟨p, q, r, x, y, z⟩ := a
  obtain ⟨p', q', r', x', y', z'⟩ := b
  have h' := List.append_inj h (by simp [dc_length])
  have h1 := dc_inj h'.1
  have h2 := List.append_inj h'.2 (by simp [dc_length])
  have h3 := dc_inj h2.1
  have h5 := List.append_inj h2.2 (by simp [dc_length])
  have h6 := dc_inj h5.1
  have h4 := h5.2
  simp at h4
  obtain ⟨rfl, rfl, rfl⟩ := h4
  simp only at h1 h3 h6
  subst h1
  subst h3
  subst h6
  rfl
instance : DecidableEq Hd := fun a b => decidable_of_iff (a.name = b.name ∧ a.amt = b.amt ∧ a.side = b.side ∧ a.til = b.til) ⟨fun ⟨h1, h2, h3, h4⟩ => by cases a; cases b; simp only at h1 h2 h3 h4; rw [h1, h2, h3, h4], fun h => by rw [h]; exact ⟨rfl, rfl, rfl, rfl⟩⟩
instance : DecidableEq Pr := fun a b => decidable_of_iff (a.name = b.name ∧ a.frm = b.frm ∧ a.to = b.to ∧ a.amt = b.amt ∧ a.inn = b.inn ∧ a.out = b.out) ⟨fun ⟨h1, h2, h3, h4, h5, h6⟩ => by cases a; cases b; simp only at h1 h2 h3 h4 h5 h6; rw [h1, h2, h3, h4, h5, h6], fun h => by rw [h]; exact ⟨rfl, rfl, rfl, rfl, rfl, rfl⟩⟩
/-- Two numbers in an array. -/
abbrev Z2 := Int × Int
def zc2 (p : Z2) : List Value := [.int .i64 p.1, .int .i64 p.2]
def zv2 (p : Z2) : Value := .agg (zc2 p).toArray
theorem zc2_length (p : Z2) : (zc2 p).length = 2 := rfl
theorem zc2_inj {a b : Z2} (h : zc2 a = zc2 b) : a = b := by
  obtain ⟨x, y⟩ := a
  obtain ⟨x', y'⟩ := b
  simp [zc2] at h
  obtain ⟨rfl, rfl⟩ := h
  rfl
def Z2.Fit (p : Z2) : Prop := fitZ p.1 ∧ fitZ p.2
theorem oc_hd : Tryz.prog.cellsOf 86 = 11 := by kernel_rfl
set_option maxHeartbeats 4000000 in
theorem lits_hd' (n : Nat) (a0 a1 a2 a3 a4 a5 a6 a7 : UInt8) (x y z : Int) (hx : (Lit.int .i64 x).wf = true) (hy : (Lit.int .i64 y).wf = true) (hz : (Lit.int .i64 z).wf = true) :
    (Tryz.prog.keyLits (n + 3 + 1) 86 [bv a0, bv a1, bv a2, bv a3, bv a4, bv a5, bv a6, bv a7, .int .i64 x, .int .i64 y, .int .i64 z]).isSome = true := by
  simp [Program.keyLits, Tryz.underlying86, Tryz.underlying44, Tryz.underlying5, Tryz.underlying3, oc5, oc3, ocD, ocE, oc_hd, owb, hx, hy, hz, List.range, List.range.loop]
theorem lits_hd (o : Hd) (h : Hd.Fit o) : (Tryz.prog.keyLits (Tryz.prog.types.size + 1) 86 (hc o)).isSome = true := by
  obtain ⟨m, hm⟩ := osz
  rw [hm]
  obtain ⟨⟨l0, hl0⟩, x, y, z⟩ := o
  obtain ⟨h1, h2, h3⟩ := h
  match l0, hl0 with
  | [a0, a1, a2, a3, a4, a5, a6, a7], _ => exact lits_hd' m a0 a1 a2 a3 a4 a5 a6 a7 x y z (owf x h1.1 h1.2) (owf y h2.1 h2.2) (owf z h3.1 h3.2)
theorem formed_hd (o : Hd) : (Value.agg (hc o).toArray).formed Tryz.prog 86 = true := by
  simp [Value.formed, Tryz.underlying86, oc_hd, hc_length]
theorem equal_hd {a b : Hd} (ha : Hd.Fit a) (hb : Hd.Fit b) (w : World) : (Op.equal 86 (.agg (hc a).toArray) (.agg (hc b).toArray)).run Tryz.prog w = .ok (decide (a = b)) w := by
  obtain ⟨r, h1, h2⟩ := equal_agg (P := Tryz.prog) (T := 86) 3 (by omega) (by kernel_rfl) (by kernel_rfl) (by rw [Tryz.underlying86]) (by kernel_rfl) (formed_hd a) (formed_hd b) (lits_hd a ha) (lits_hd b hb) w
  have h3 : r = decide (a = b) := by
    by_cases e : a = b
    · rw [decide_eq_true e]
      exact h2.2 (by rw [e])
    · rw [decide_eq_false e]
      cases r with
      | false => rfl
      | true => exact absurd (hc_inj (h2.1 rfl)) e
  rw [h3] at h1
  exact h1
theorem guard_hd : Tryz.prog.eqGuardType Tryz.prog.depth 86 = false := by kernel_rfl
theorem qn_hd {S : List Nat} {w0 : World} {F : World → Prop} {L : Env} {d : Option Nat} {ty : TypeId} {pos : String} {af : Array Edge} {g : Option (Nat × Bool)} {x y : Operand} {T' : TypeId} {a b : Hd} {c : Bool} (hx : ro L x = some (.agg (hc a).toArray)) (hy : ro L y = some (.agg (hc b).toArray)) (ha : Hd.Fit a) (hb : Hd.Fit b) (h : Dc (a = b) c) :
    Vals Tryz.prog S w0 F L ⟨d, .binOp .neq 86 x y T', ty, pos, af, g⟩ (.bool (!c)) := fun w _ _ => by
  rw [← h.eq]
  have hx' : rho L x = .agg (hc a).toArray := rho_of hx
  have hy' : rho L y = .agg (hc b).toArray := rho_of hy
  have he : ∀ w, (Op.equal 86 (.agg (hc a).toArray) (.agg (hc b).toArray)).run Tryz.prog w = .ok (decide (a = b)) w := fun w => equal_hd ha hb w
  simp [execOp, hx', hy', eqGuard, binOp, he, guard_hd]
theorem oc_rhd : Tryz.prog.cellsOf 84 = 11 := by kernel_rfl
set_option maxHeartbeats 4000000 in
theorem lits_rhd' (n : Nat) (a0 a1 a2 a3 a4 a5 a6 a7 : UInt8) (x y z : Int) (hx : (Lit.int .i64 x).wf = true) (hy : (Lit.int .i64 y).wf = true) (hz : (Lit.int .i64 z).wf = true) :
    (Tryz.prog.keyLits (n + 3 + 1) 84 [bv a0, bv a1, bv a2, bv a3, bv a4, bv a5, bv a6, bv a7, .int .i64 x, .int .i64 y, .int .i64 z]).isSome = true := by
  simp [Program.keyLits, Tryz.underlying84, Tryz.underlying32, Tryz.underlying5, Tryz.underlying3, oc5, oc3, ocD, ocE, oc_rhd, owb, hx, hy, hz, List.range, List.range.loop]
theorem lits_rhd (o : Hd) (h : Hd.Fit o) : (Tryz.prog.keyLits (Tryz.prog.types.size + 1) 84 (hc o)).isSome = true := by
  obtain ⟨m, hm⟩ := osz
  rw [hm]
  obtain ⟨⟨l0, hl0⟩, x, y, z⟩ := o
  obtain ⟨h1, h2, h3⟩ := h
  match l0, hl0 with
  | [a0, a1, a2, a3, a4, a5, a6, a7], _ => exact lits_rhd' m a0 a1 a2 a3 a4 a5 a6 a7 x y z (owf x h1.1 h1.2) (owf y h2.1 h2.2) (owf z h3.1 h3.2)
theorem formed_rhd (o : Hd) : (Value.agg (hc o).toArray).formed Tryz.prog 84 = true := by
  simp [Value.formed, Tryz.underlying84, oc_rhd, hc_length]
theorem equal_rhd {a b : Hd} (ha : Hd.Fit a) (hb : Hd.Fit b) (w : World) : (Op.equal 84 (.agg (hc a).toArray) (.agg (hc b).toArray)).run Tryz.prog w = .ok (decide (a = b)) w := by
  obtain ⟨r, h1, h2⟩ := equal_agg (P := Tryz.prog) (T := 84) 3 (by omega) (by kernel_rfl) (by kernel_rfl) (by rw [Tryz.underlying84]) (by kernel_rfl) (formed_rhd a) (formed_rhd b) (lits_rhd a ha) (lits_rhd b hb) w
  have h3 : r = decide (a = b) := by
    by_cases e : a = b
    · rw [decide_eq_true e]
      exact h2.2 (by rw [e])
    · rw [decide_eq_false e]
      cases r with
      | false => rfl
      | true => exact absurd (hc_inj (h2.1 rfl)) e
  rw [h3] at h1
  exact h1
theorem guard_rhd : Tryz.prog.eqGuardType Tryz.prog.depth 84 = false := by kernel_rfl
theorem qn_rhd {S : List Nat} {w0 : World} {F : World → Prop} {L : Env} {d : Option Nat} {ty : TypeId} {pos : String} {af : Array Edge} {g : Option (Nat × Bool)} {x y : Operand} {T' : TypeId} {a b : Hd} {c : Bool} (hx : ro L x = some (.agg (hc a).toArray)) (hy : ro L y = some (.agg (hc b).toArray)) (ha : Hd.Fit a) (hb : Hd.Fit b) (h : Dc (a = b) c) :
    Vals Tryz.prog S w0 F L ⟨d, .binOp .neq 84 x y T', ty, pos, af, g⟩ (.bool (!c)) := fun w _ _ => by
  rw [← h.eq]
  have hx' : rho L x = .agg (hc a).toArray := rho_of hx
  have hy' : rho L y = .agg (hc b).toArray := rho_of hy
  have he : ∀ w, (Op.equal 84 (.agg (hc a).toArray) (.agg (hc b).toArray)).run Tryz.prog w = .ok (decide (a = b)) w := fun w => equal_rhd ha hb w
  simp [execOp, hx', hy', eqGuard, binOp, he, guard_rhd]
theorem oc_pr : Tryz.prog.cellsOf 68 = 27 := by kernel_rfl
set_option maxHeartbeats 4000000 in
theorem lits_pr' (n : Nat) (a0 a1 a2 a3 a4 a5 a6 a7 b0 b1 b2 b3 b4 b5 b6 b7 c0 c1 c2 c3 c4 c5 c6 c7 : UInt8) (x y z : Int) (hx : (Lit.int .i64 x).wf = true) (hy : (Lit.int .i64 y).wf = true) (hz : (Lit.int .i64 z).wf = true) :
    (Tryz.prog.keyLits (n + 3 + 1) 68 [bv a0, bv a1, bv a2, bv a3, bv a4, bv a5, bv a6, bv a7, bv b0, bv b1, bv b2, bv b3, bv b4, bv b5, bv b6, bv b7, bv c0, bv c1, bv c2, bv c3, bv c4, bv c5, bv c6, bv c7, .int .i64 x, .int .i64 y, .int .i64 z]).isSome = true := by
  simp [Program.keyLits, Tryz.underlying68, Tryz.underlying44, Tryz.underlying5, Tryz.underlying3, oc5, oc3, ocD, ocE, oc_pr, owb, hx, hy, hz, List.range, List.range.loop]
theorem lits_pr (o : Pr) (h : Pr.Fit o) : (Tryz.prog.keyLits (Tryz.prog.types.size + 1) 68 (prc o)).isSome = true := by
  obtain ⟨m, hm⟩ := osz
  rw [hm]
  obtain ⟨⟨l0, hl0⟩, ⟨l1, hl1⟩, ⟨l2, hl2⟩, x, y, z⟩ := o
  obtain ⟨h1, h2, h3⟩ := h
  match l0, hl0, l1, hl1, l2, hl2 with
  | [a0, a1, a2, a3, a4, a5, a6, a7], _, [b0, b1, b2, b3, b4, b5, b6, b7], _, [c0, c1, c2, c3, c4, c5, c6, c7], _ => exact lits_pr' m a0 a1 a2 a3 a4 a5 a6 a7 b0 b1 b2 b3 b4 b5 b6 b7 c0 c1 c2 c3 c4 c5 c6 c7 x y z (owf x h1.1 h1.2) (owf y h2.1 h2.2) (owf z h3.1 h3.2)
theorem formed_pr (o : Pr) : (Value.agg (prc o).toArray).formed Tryz.prog 68 = true := by
  simp [Value.formed, Tryz.underlying68, oc_pr, prc_length]
theorem equal_pr {a b : Pr} (ha : Pr.Fit a) (hb : Pr.Fit b) (w : World) : (Op.equal 68 (.agg (prc a).toArray) (.agg (prc b).toArray)).run Tryz.prog w = .ok (decide (a = b)) w := by
  obtain ⟨r, h1, h2⟩ := equal_agg (P := Tryz.prog) (T := 68) 3 (by omega) (by kernel_rfl) (by kernel_rfl) (by rw [Tryz.underlying68]) (by kernel_rfl) (formed_pr a) (formed_pr b) (lits_pr a ha) (lits_pr b hb) w
  have h3 : r = decide (a = b) := by
    by_cases e : a = b
    · rw [decide_eq_true e]
      exact h2.2 (by rw [e])
    · rw [decide_eq_false e]
      cases r with
      | false => rfl
      | true => exact absurd (prc_inj (h2.1 rfl)) e
  rw [h3] at h1
  exact h1
theorem guard_pr : Tryz.prog.eqGuardType Tryz.prog.depth 68 = false := by kernel_rfl
theorem qn_pr {S : List Nat} {w0 : World} {F : World → Prop} {L : Env} {d : Option Nat} {ty : TypeId} {pos : String} {af : Array Edge} {g : Option (Nat × Bool)} {x y : Operand} {T' : TypeId} {a b : Pr} {c : Bool} (hx : ro L x = some (.agg (prc a).toArray)) (hy : ro L y = some (.agg (prc b).toArray)) (ha : Pr.Fit a) (hb : Pr.Fit b) (h : Dc (a = b) c) :
    Vals Tryz.prog S w0 F L ⟨d, .binOp .neq 68 x y T', ty, pos, af, g⟩ (.bool (!c)) := fun w _ _ => by
  rw [← h.eq]
  have hx' : rho L x = .agg (prc a).toArray := rho_of hx
  have hy' : rho L y = .agg (prc b).toArray := rho_of hy
  have he : ∀ w, (Op.equal 68 (.agg (prc a).toArray) (.agg (prc b).toArray)).run Tryz.prog w = .ok (decide (a = b)) w := fun w => equal_pr ha hb w
  simp [execOp, hx', hy', eqGuard, binOp, he, guard_pr]
theorem oc_z2 : Tryz.prog.cellsOf 33 = 2 := by kernel_rfl
set_option maxHeartbeats 4000000 in
theorem lits_z2' (n : Nat) (x y : Int) (hx : (Lit.int .i64 x).wf = true) (hy : (Lit.int .i64 y).wf = true) :
    (Tryz.prog.keyLits (n + 3 + 1) 33 [.int .i64 x, .int .i64 y]).isSome = true := by
  simp [Program.keyLits, Tryz.underlying33, Tryz.underlying5, Tryz.underlying3, oc5, oc3, ocD, ocE, oc_z2, owb, hx, hy, List.range, List.range.loop]
theorem lits_z2 (o : Z2) (h : Z2.Fit o) : (Tryz.prog.keyLits (Tryz.prog.types.size + 1) 33 (zc2 o)).isSome = true := by
  obtain ⟨m, hm⟩ := osz
  rw [hm]
  obtain ⟨x, y⟩ := o
  obtain ⟨h1, h2⟩ := h
  exact lits_z2' m x y (owf x h1.1 h1.2) (owf y h2.1 h2.2)
theorem formed_z2 (o : Z2) : (Value.agg (zc2 o).toArray).formed Tryz.prog 33 = true := by
  simp [Value.formed, Tryz.underlying33, oc_z2, zc2_length]
theorem equal_z2 {a b : Z2} (ha : Z2.Fit a) (hb : Z2.Fit b) (w : World) : (Op.equal 33 (.agg (zc2 a).toArray) (.agg (zc2 b).toArray)).run Tryz.prog w = .ok (decide (a = b)) w := by
  obtain ⟨r, h1, h2⟩ := equal_agg (P := Tryz.prog) (T := 33) 3 (by omega) (by kernel_rfl) (by kernel_rfl) (by rw [Tryz.underlying33]) (by kernel_rfl) (formed_z2 a) (formed_z2 b) (lits_z2 a ha) (lits_z2 b hb) w
  have h3 : r = decide (a = b) := by
    by_cases e : a = b
    · rw [decide_eq_true e]
      exact h2.2 (by rw [e])
    · rw [decide_eq_false e]
      cases r with
      | false => rfl
      | true => exact absurd (zc2_inj (h2.1 rfl)) e
  rw [h3] at h1
  exact h1
theorem guard_z2 : Tryz.prog.eqGuardType Tryz.prog.depth 33 = false := by kernel_rfl
theorem qe_z2 {S : List Nat} {w0 : World} {F : World → Prop} {L : Env} {d : Option Nat} {ty : TypeId} {pos : String} {af : Array Edge} {g : Option (Nat × Bool)} {x y : Operand} {T' : TypeId} {a b : Z2} {c : Bool} (hx : ro L x = some (.agg (zc2 a).toArray)) (hy : ro L y = some (.agg (zc2 b).toArray)) (ha : Z2.Fit a) (hb : Z2.Fit b) (h : Dc (a = b) c) :
    Vals Tryz.prog S w0 F L ⟨d, .binOp .eql 33 x y T', ty, pos, af, g⟩ (.bool c) := fun w _ _ => by
  rw [← h.eq]
  have hx' : rho L x = .agg (zc2 a).toArray := rho_of hx
  have hy' : rho L y = .agg (zc2 b).toArray := rho_of hy
  have he : ∀ w, (Op.equal 33 (.agg (zc2 a).toArray) (.agg (zc2 b).toArray)).run Tryz.prog w = .ok (decide (a = b)) w := fun w => equal_z2 ha hb w
  simp [execOp, hx', hy', eqGuard, binOp, he, guard_z2]
theorem qn_z2 {S : List Nat} {w0 : World} {F : World → Prop} {L : Env} {d : Option Nat} {ty : TypeId} {pos : String} {af : Array Edge} {g : Option (Nat × Bool)} {x y : Operand} {T' : TypeId} {a b : Z2} {c : Bool} (hx : ro L x = some (.agg (zc2 a).toArray)) (hy : ro L y = some (.agg (zc2 b).toArray)) (ha : Z2.Fit a) (hb : Z2.Fit b) (h : Dc (a = b) c) :
    Vals Tryz.prog S w0 F L ⟨d, .binOp .neq 33 x y T', ty, pos, af, g⟩ (.bool (!c)) := fun w _ _ => by
  rw [← h.eq]
  have hx' : rho L x = .agg (zc2 a).toArray := rho_of hx
  have hy' : rho L y = .agg (zc2 b).toArray := rho_of hy
  have he : ∀ w, (Op.equal 33 (.agg (zc2 a).toArray) (.agg (zc2 b).toArray)).run Tryz.prog w = .ok (decide (a = b)) w := fun w => equal_z2 ha hb w
  simp [execOp, hx', hy', eqGuard, binOp, he, guard_z2]
end Go.Proofs.YtajllbdeoopimaaGreat
