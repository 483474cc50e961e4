/-
  HubPlays answers true for every input, and leaves its arguments as they were. No conditions.
-/
import Derived.Test.YtajllbdeoopimaaGreatQp5
namespace Go.Proofs.YtajllbdeoopimaaGreat
set_option linter.unusedVariables false
section
variable {κ ν : Type} [DecidableEq κ]
theorem perm_of_sub {α : Type} : ∀ {a b : List α}, a.Nodup → (∀ x ∈ a, x ∈ b) → a.length = b.length → a.Perm b
  | [], b, _, _, hl => by
    rw [List.length_eq_zero_iff.1 hl.symm]
  | x :: a, b, hn, hs, hl => by
    have hn' := List.nodup_cons.1 hn
    obtain ⟨s, t, rfl⟩ := List.append_of_mem (hs x List.mem_cons_self)
    refine ((perm_of_sub (b := s ++ t) hn'.2 (fun y hy => ?_) ?_).cons x).trans List.perm_middle.symm
    · have := hs y (List.mem_cons_of_mem _ hy)
      rw [List.mem_append, List.mem_cons] at this
      rw [List.mem_append]
      rcases this with h | h | h
      · exact Or.inl h
      · exact absurd (h ▸ hy) hn'.1
      · exact Or.inr h
    · simp only [List.length_append, List.length_cons] at hl ⊢
      omega
/-- Two lists of pairs hold the same. -/
theorem perm_of_look {a b : List (κ × ν)} (hb : (b.map (·.1)).Nodup) (ha : (a.map (·.1)).Nodup) (hl : a.length = b.length) (h : ∀ p ∈ a, alook b p.1 = some p.2) : a.Perm b := by
  have hna : a.Nodup := by
    rw [List.nodup_iff_pairwise_ne]
    rw [List.nodup_iff_pairwise_ne, List.pairwise_map] at ha
    exact ha.imp (fun h e => h (by rw [e]))
  exact perm_of_sub hna (fun p hp => alook_mem (h p hp)) hl
theorem look_of_perm {a b : List (κ × ν)} (ha : (a.map (·.1)).Nodup) (h : a.Perm b) : ∀ p ∈ a, alook b p.1 = some p.2 := fun p hp => alook_of_mem ((h.map (·.1)).nodup_iff.1 ha) (h.mem_iff.1 hp)
theorem perm_look {a b : List (κ × ν)} (ha : (a.map (·.1)).Nodup) (h : a.Perm b) (k : κ) : alook a k = alook b k := by
  cases e : alook a k with
  | none => exact (alook_none.2 (fun p hp => alook_none.1 e p (h.mem_iff.2 hp))).symm
  | some v => exact (look_of_perm ha h (k, v) (alook_mem e)).symm
end
def zPr : Pr := ⟨zd, zd, zd, 0, 0, 0⟩
open Classical in
noncomputable def permB {α : Type} (a b : List α) : Bool := decide (a.Perm b)
theorem permB_t {α : Type} {a b : List α} (h : a.Perm b) : permB a b = true := by simp [permB, h]
theorem permB_f {α : Type} {a b : List α} (h : ¬ a.Perm b) : permB a b = false := by simp [permB, h]
attribute [local irreducible] CG NG SG Vals Der Row Blk MapIs IterAt DerX DerR
set_option maxHeartbeats 16000000 in
theorem mequal_spec {w : World} {b c : Nat} {m q : Mp} (hm : MapIs w b (dv (n := 8)) prv m) (hq : MapIs w c (dv (n := 8)) prv q) (fm : ∀ x ∈ m, x.2.Fit) (fq : ∀ x ∈ q, x.2.Fit) : Ret Tryz.prog 22 #[.map (some b), .map (some c)] w (.bool (permB m q)) := by
  refine enter2 Tryz.func22 rfl Tryz.ntmps22 rfl ?_
  have hnm := hm.nodup
  have hnq := hq.nodup
  have lb := hm.lt
  have lc := hq.lt
  have no : ∀ {w' : World}, Kp [] w w' → ¬ m.Perm q → (Ending.returned (.bool false) = .returned (.bool (permB m q)) ∧ Kp [] w w') := fun hk h => ⟨by rw [permB_f h], hk⟩
  by_cases hlen : m.length = q.length
  rotate_left
  · have g1 : ¬ (m.length : Int) = (q.length : Int) := by omega
    repeat (first|apply cA|apply cB|apply cD|apply cE|refine cV rfl rfl rfl rfl (by first|((first|apply qmv|apply qas|apply qni|apply qlm)<;>(first|exact rfl|assumption|exact dcf (by first|assumption|omega)|exact List.not_mem_nil|fail))|fail) ?_)
    refine dA rfl (by exact rho_of rfl) rfl ?_
    repeat (first|apply cA|apply cB|apply cD|apply cE|apply cH|apply cK|refine cV rfl rfl rfl rfl (by first|(apply qas<;>(exact rfl))|fail) ?_)
    refine ret1 (Or.inl rfl) Tryz.results22 (by first | exact ResV.tmp rfl | exact ResV.agg rfl rfl (by assumption) (by first | exact dc_length _ | exact nc_length _ | exact rc_length _ _ _ | exact ec_length _ | exact dl_length _ _ _ _ | rfl) | exact ResV.cell rfl rfl (by assumption)) ?_
    exact no (Kp.refl _ _) (fun h => hlen h.length_eq)
  have g1 : (m.length : Int) = (q.length : Int) := by omega
  repeat (first|apply cA|apply cB|apply cD|apply cE|refine cV rfl rfl rfl rfl (by first|((first|apply qmv|apply qas|apply qni|apply qlm)<;>(first|exact rfl|assumption|exact dct (by first|assumption|omega)|exact List.not_mem_nil|fail))|fail) ?_)
  refine dB rfl (by exact rho_of rfl) rfl ?_
  repeat (first|apply cA|apply cB|apply cE|apply cF|refine cV rfl rfl rfl rfl (by first|(apply qmv<;>(exact rfl))|fail) ?_)
  refine SG.range rfl rfl rfl (by exact rho_of rfl) hm (fun r w2 hk2 hr2 hI => ?_)
  repeat (first|apply cD|apply cE|apply cG)
  refine CG.loop (X := Mp × Mp × Option (Dg × Pr)) (fun x => [(1, .map (some c)), (15, .pointer (some ⟨r, 0, none⟩))])
    (fun x w' => Kp [r] w2 w' ∧ IterAt w' r b (dv (n := 8)) prv m x.2.1 x.2.2 ∧ (x.1 ++ x.2.1).Perm m ∧ ∀ p ∈ x.1, alook q p.1 = some p.2) (fun x => x.2.1.length) ([], m, none) ⟨Kp.refl _ _, hI, by simp, fun p hp => (by cases hp)⟩ (by (repeat' (first | exact True.intro | exact rfl | refine And.intro ?_ ?_))) ?_
  rintro ⟨done, left, cur⟩ w3 ⟨hk3, hI, hp, hd⟩
  simp only at hI hp hd
  refine CG.to [(1, .map (some c)), (15, .pointer (some ⟨r, 0, none⟩))] (by (repeat' (first | exact True.intro | exact rfl | refine And.intro ?_ ?_))) ?_
  have k3 : Kp [] w w3 := hk2.trans_new hk3 (new1 (by omega))
  repeat (first|apply cA|apply cB)
  refine SG.next rfl rfl rfl (by exact rho_of rfl) hI (fun h0 => ?_) (fun pre x post w4 hl4 hk4 hI4 => ?_)
  · subst h0
    rw [List.append_nil] at hp
    repeat (first|apply cA|apply cD|apply cE|refine cV rfl rfl rfl rfl (by first|(apply qxt<;>(exact rfl))|fail) ?_)
    refine dB rfl (by exact rho_of rfl) rfl ?_
    repeat (first|apply cA|apply cB|apply cD|apply cE|apply cH|apply cJ|apply cM|refine cN rfl ?_|refine cV rfl rfl rfl rfl (by first|(apply qas<;>(exact rfl))|fail) ?_)
    refine ret1 (Or.inl rfl) Tryz.results22 (by first | exact ResV.tmp rfl | exact ResV.agg rfl rfl (by assumption) (by first | exact dc_length _ | exact nc_length _ | exact rc_length _ _ _ | exact ec_length _ | exact dl_length _ _ _ _ | rfl) | exact ResV.cell rfl rfl (by assumption)) ?_
    exact ⟨by rw [permB_t (perm_of_look hnq hnm hlen (fun p h => hd p (hp.mem_iff.2 h)))], k3⟩
  · have hxm : x ∈ m := hp.mem_iff.1 (by rw [hl4]; simp)
    have fx := fm x hxm
    have k4 : Kp [] w w4 := k3.trans_new hk4 (new1 hr2)
    repeat (first|apply cA|apply cD|apply cE|refine cV rfl rfl rfl rfl (by first|(apply qxt<;>(exact rfl))|fail) ?_)
    refine dA rfl (by exact rho_of rfl) rfl ?_
    repeat (first|apply cA|apply cB|apply cE|apply cF|apply cG|refine cV rfl rfl rfl rfl (by first|((first|apply qen|apply qxt|apply qen)<;>(first|exact rfl|assumption|exact List.not_mem_nil))|fail) ?_)
    refine SG.alloc rfl rfl rfl (fun b5 w5 hk5 hb5 hB5 => ?_)
    refine SG.alloc rfl rfl rfl (fun b6 w6 hk6 hb6 hB6 => ?_)
    have l5 := hB5.lt
    refine SG.setAll (l := dc x.1) rfl rfl (by exact rho_of rfl) (by exact rho_of rfl) (hB5.kp0 hk6) (dc_length _) rfl (dc_one _) (fun w7 hk7 hB5 => ?_)
    refine SG.setAll (l := prc x.2) rfl rfl (by exact rho_of rfl) (by exact rho_of rfl) (hB6.kp hk7 (nm1 (by omega))) (prc_length _) rfl (prc_one _) (fun w8 hk8 hB6 => ?_)
    have hB5 : Blk w8 b5 (.cells (dc x.1).toArray 44) := hB5.kp hk8 (nm1 (by omega))
    have hB6 : Blk w8 b6 (.cells (prc x.2).toArray 68) := hB6
    have s5 := hk5.size
    have s6 := hk6.size
    have k48 : Kp [] w4 w8 := ((hk5.trans hk6).trans_new hk7 (new1 (by omega))).trans_new hk8 (new1 (by omega))
    have k8 := k4.trans k48
    have hR5 : Row w8 b5 0 (dc x.1) := Row.all hB5 rfl
    have hR6 : Row w8 b6 0 (prc x.2) := Row.all hB6 rfl
    have hq8 := hq.kp0 k8
    have s7 := k48.size
    clear hk5 hk6 hk7 hk8 hB5 hB6
    cases hx : alook q x.1 with
    | none =>
      repeat (first|apply cA|apply cB|apply cD|apply cE|refine cV rfl rfl rfl rfl (by first|((first|apply qmv|apply qla|apply qlk|apply qxt)<;>(first|exact rfl|assumption|exact List.not_mem_nil|apply dc_length|exact lk0 (by assumption)|fail))|fail) ?_)
      refine SG.alloc rfl rfl rfl (fun b7 w9 hk9 hb7 hB7 => ?_)
      refine SG.setAll (l := prc zPr) rfl rfl (by exact rho_of rfl) (by exact rho_of rfl) hB7 (prc_length _) rfl (prc_one _) (fun w10 hk10 hB7 => ?_)
      have k10 : Kp [] w8 w10 := hk9.trans_new hk10 (new1 (by omega))
      repeat (first | first|apply cA|apply cB|apply cD|apply cE|refine cV rfl rfl rfl rfl (by first|((first|apply qmv|apply qas|apply qpk|apply qnt)<;>(exact rfl))|fail) ?_ | refine cX rfl rfl ?_)
      refine dA rfl (by exact rho_of rfl) rfl ?_
      repeat (first|apply cA|apply cB|apply cD|apply cE|apply cH|apply cK|apply NG.ret_block|refine cV rfl rfl rfl rfl (by first|(apply qas<;>(exact rfl))|fail) ?_)
      refine ret1 (Or.inl rfl) Tryz.results22 (by first | exact ResV.tmp rfl | exact ResV.agg rfl rfl (by assumption) (by first | exact dc_length _ | exact nc_length _ | exact rc_length _ _ _ | exact ec_length _ | exact dl_length _ _ _ _ | rfl) | exact ResV.cell rfl rfl (by assumption)) ?_
      refine no (k8.trans k10) (fun h => ?_)
      have := look_of_perm hnm h x hxm
      rw [hx] at this
      cases this
    | some y =>
      have fy := fq (x.1, y) (alook_mem hx)
      simp only at fy
      repeat (first|apply cA|apply cB|apply cD|apply cE|refine cV rfl rfl rfl rfl (by first|((first|apply qmv|apply qla|apply qlk|apply qxt)<;>(first|exact rfl|assumption|exact List.not_mem_nil|apply dc_length|exact lk1 (by assumption)|fail))|fail) ?_)
      refine SG.alloc rfl rfl rfl (fun b7 w9 hk9 hb7 hB7 => ?_)
      refine SG.setAll (l := prc y) rfl rfl (by exact rho_of rfl) (by exact rho_of rfl) hB7 (prc_length _) rfl (prc_one _) (fun w10 hk10 hB7 => ?_)
      have hB7 : Blk w10 b7 (.cells (prc y).toArray 68) := hB7
      have hR7 : Row w10 b7 0 (prc y) := Row.all hB7 rfl
      have k10 : Kp [] w8 w10 := hk9.trans_new hk10 (new1 (by omega))
      have hR6 := hR6.kp0 k10
      clear hR5 hk9 hk10 hB7
      by_cases hxy : x.2 = y
      · repeat (first|apply cA|apply cB|apply cD|apply cE|refine cV rfl rfl rfl rfl (by first|((first|apply qn_pr|apply qmv|apply qas|apply qla|apply qpk|apply qnt)<;>(first|exact rfl|assumption|exact dct (by first|assumption|omega)|exact List.not_mem_nil|apply prc_length|fail))|fail) ?_)
        refine dB rfl (by exact rho_of rfl) rfl ?_
        repeat (first|apply cF|apply cU)
        refine NG.round (done ++ [x], pre ++ post, some x) (by (repeat' (first | exact True.intro | exact rfl | refine And.intro ?_ ?_))) ⟨(hk3.trans hk4).trans (k48.trans k10).any, hI4.kp0 (k48.trans k10), ?_, fun p hp => ?_⟩ (by simp only; rw [hl4]; simp)
        · simp only
          rw [hl4] at hp
          refine List.Perm.trans ?_ hp
          rw [List.append_assoc, List.singleton_append]
          exact List.Perm.append_left _ List.perm_middle.symm
        · rcases List.mem_append.1 hp with h | h
          · exact hd p h
          · rw [List.mem_singleton] at h
            rw [h, hx, hxy]
      · repeat (first|apply cA|apply cB|apply cD|apply cE|refine cV rfl rfl rfl rfl (by first|((first|apply qn_pr|apply qmv|apply qas|apply qla|apply qpk|apply qnt)<;>(first|exact rfl|assumption|exact dcf (by first|assumption|omega)|exact List.not_mem_nil|apply prc_length|fail))|fail) ?_)
        refine dA rfl (by exact rho_of rfl) rfl ?_
        repeat (first|apply cA|apply cB|apply cD|apply cE|apply cH|apply cK|apply NG.ret_block|refine cV rfl rfl rfl rfl (by first|(apply qas<;>(exact rfl))|fail) ?_)
        refine ret1 (Or.inl rfl) Tryz.results22 (by first | exact ResV.tmp rfl | exact ResV.agg rfl rfl (by assumption) (by first | exact dc_length _ | exact nc_length _ | exact rc_length _ _ _ | exact ec_length _ | exact dl_length _ _ _ _ | rfl) | exact ResV.cell rfl rfl (by assumption)) ?_
        refine no (k8.trans k10) (fun h => ?_)
        have := look_of_perm hnm h x hxm
        rw [hx] at this
        exact hxy (Option.some.inj this).symm
set_option maxHeartbeats 8000000 in
theorem same1_spec {w : World} {x y : Sh} (hx : x.At w) (hy : y.At w) (fx : x.p.Fit) (fy : y.p.Fit) (lx : x.p.held.length ≤ 1000) : Ret Tryz.prog 24 #[shv x, shv y] w (.bool (decide (x.ps = y.ps))) := by
  refine enter2 Tryz.func24 rfl Tryz.ntmps24 rfl ?_
  repeat (first|apply cA|apply cB)
  refine SG.box rfl rfl rfl (by exact rho_of rfl) (fun b1 w1 hk1 hb1 hB1 => ?_)
  refine SG.box rfl rfl rfl (by exact rho_of rfl) (fun b2 w2 hk2 hb2 hB2 => ?_)
  have hB1 : Blk w2 b1 (.cells (shc x).toArray 72) := hB1.kp0 hk2
  have hB2 : Blk w2 b2 (.cells (shc y).toArray 72) := hB2
  obtain ⟨-, q1, q2, -⟩ := shc_rows hB1
  obtain ⟨-, q3, q4, -⟩ := shc_rows hB2
  have k2 := hk1.trans hk2
  by_cases hs : x.side = y.side
  · have fin : ∀ {w' : World}, Kp [] w2 w' → (Ending.returned (.bool (decide (x.p = y.p))) = .returned (.bool (decide (x.ps = y.ps))) ∧ Kp [] w w') := fun hk => ⟨by
      have : (x.p = y.p) ↔ (x.ps = y.ps) := ⟨fun h => Prod.ext h hs, fun h => congrArg Prod.fst h⟩
      rw [decide_eq_decide.2 this], k2.trans hk⟩
    repeat (first|apply cA|apply cB|apply cD|apply cE|refine cV rfl rfl rfl rfl (by first|((first|apply qmv|apply qas|apply qlc|apply qla|apply qfa|apply qei)<;>(first|exact rfl|assumption|exact dct (by first|assumption|omega)|exact List.not_mem_nil|apply pc_length|fail))|fail) ?_)
    refine SG.ret rfl rfl rfl (vs := [pv x.p x.s, pv y.p y.s]) (by repeat' (first | exact True.intro | exact rho_of rfl | refine And.intro ?_ ?_)) (psame_spec x.p y.p fx fy (hx.kp0 k2).sl (hy.kp0 k2).sl (by omega)) (fun w3 hk3 => ?_)
    cases hh : decide (x.p = y.p)
    · rw [hh] at fin
      repeat (first|apply cD|apply cE|apply cH|refine cV rfl rfl rfl rfl (by first|((first|apply qas|apply qpk)<;>(exact rfl))|fail) ?_)
      refine ret1 (Or.inl rfl) Tryz.results24 (by first | exact ResV.tmp rfl | exact ResV.agg rfl rfl (by assumption) (by first | exact dc_length _ | exact nc_length _ | exact rc_length _ _ _ | exact ec_length _ | exact dl_length _ _ _ _ | rfl) | exact ResV.cell rfl rfl (by assumption)) ?_
      exact fin hk3
    · rw [hh] at fin
      repeat (first|apply cD|apply cE|apply cH|refine cV rfl rfl rfl rfl (by first|((first|apply qas|apply qpk)<;>(exact rfl))|fail) ?_)
      refine ret1 (Or.inl rfl) Tryz.results24 (by first | exact ResV.tmp rfl | exact ResV.agg rfl rfl (by assumption) (by first | exact dc_length _ | exact nc_length _ | exact rc_length _ _ _ | exact ec_length _ | exact dl_length _ _ _ _ | rfl) | exact ResV.cell rfl rfl (by assumption)) ?_
      exact fin hk3
  · repeat (first | first|apply cA|apply cB|apply cD|apply cE|apply cH|refine cV rfl rfl rfl rfl (by first|((first|apply qmv|apply qas|apply qlc|apply qfa|apply qpk|apply qei)<;>(first|exact rfl|assumption|exact dcf (by first|assumption|omega)|exact List.not_mem_nil|fail))|fail) ?_ | refine cX rfl rfl ?_)
    refine ret1 (Or.inl rfl) Tryz.results24 (by first | exact ResV.tmp rfl | exact ResV.agg rfl rfl (by assumption) (by first | exact dc_length _ | exact nc_length _ | exact rc_length _ _ _ | exact ec_length _ | exact dl_length _ _ _ _ | rfl) | exact ResV.cell rfl rfl (by assumption)) ?_
    exact ⟨by rw [decide_eq_false (fun h => hs (congrArg Prod.snd h))], k2⟩
theorem er_at {ms : Ms} {x : Dg × Sh} (h : x ∈ ms) : (x.1, x.2.ps) ∈ er ms := List.mem_map_of_mem (f := fun x => (x.1, x.2.ps)) h
def zSq : Sh := ⟨zPu, none, 0, 0⟩
set_option maxHeartbeats 16000000 in
theorem sequal_spec {w : World} {b c : Nat} {m q : Ms} (hm : MapIs w b (dv (n := 8)) shv m) (hq : MapIs w c (dv (n := 8)) shv q) (am : ∀ x ∈ m, x.2.At w ∧ x.2.p.Fit ∧ x.2.p.held.length ≤ 16) (aq : ∀ x ∈ q, x.2.At w ∧ x.2.p.Fit ∧ x.2.p.held.length ≤ 16) :
    Ret Tryz.prog 23 #[.map (some b), .map (some c), fnv 24 []] w (.bool (permB (er m) (er q))) := by
  refine enterL (args := [.map (some b), .map (some c), fnv 24 []]) Tryz.func23 rfl Tryz.ntmps23 rfl ?_
  have hnm : ((er m).map (·.1)).Nodup := by rw [er_keys]; exact hm.nodup
  have hnq : ((er q).map (·.1)).Nodup := by rw [er_keys]; exact hq.nodup
  have lb := hm.lt
  have lc := hq.lt
  have no : ∀ {w' : World}, Kp [] w w' → ¬ (er m).Perm (er q) → (Ending.returned (.bool false) = .returned (.bool (permB (er m) (er q))) ∧ Kp [] w w') := fun hk h => ⟨by rw [permB_f h], hk⟩
  by_cases hlen : m.length = q.length
  rotate_left
  · have g1 : ¬ (m.length : Int) = (q.length : Int) := by omega
    repeat (first|apply cA|apply cB|apply cD|apply cE|refine cV rfl rfl rfl rfl (by first|((first|apply qmv|apply qas|apply qni|apply qlm)<;>(first|exact rfl|assumption|exact dcf (by first|assumption|omega)|exact List.not_mem_nil|fail))|fail) ?_)
    refine dA rfl (by exact rho_of rfl) rfl ?_
    repeat (first|apply cA|apply cB|apply cD|apply cE|apply cH|apply cK|refine cV rfl rfl rfl rfl (by first|(apply qas<;>(exact rfl))|fail) ?_)
    refine ret1 (Or.inl rfl) Tryz.results23 (by first | exact ResV.tmp rfl | exact ResV.agg rfl rfl (by assumption) (by first | exact dc_length _ | exact nc_length _ | exact rc_length _ _ _ | exact ec_length _ | exact dl_length _ _ _ _ | rfl) | exact ResV.cell rfl rfl (by assumption)) ?_
    exact no (Kp.refl _ _) (fun h => hlen (by have := h.length_eq; rwa [er_len, er_len] at this))
  have g1 : (m.length : Int) = (q.length : Int) := by omega
  repeat (first|apply cA|apply cB|apply cD|apply cE|refine cV rfl rfl rfl rfl (by first|((first|apply qmv|apply qas|apply qni|apply qlm)<;>(first|exact rfl|assumption|exact dct (by first|assumption|omega)|exact List.not_mem_nil|fail))|fail) ?_)
  refine dB rfl (by exact rho_of rfl) rfl ?_
  repeat (first|apply cA|apply cB|apply cE|apply cF|refine cV rfl rfl rfl rfl (by first|(apply qmv<;>(exact rfl))|fail) ?_)
  refine SG.range rfl rfl rfl (by exact rho_of rfl) hm (fun r w2 hk2 hr2 hI => ?_)
  repeat (first|apply cD|apply cE|apply cG)
  refine CG.loop (X := Ms × Ms × Option (Dg × Sh)) (fun x => [(1, .map (some c)), (2, fnv 24 []), (17, .pointer (some ⟨r, 0, none⟩))])
    (fun x w' => Kp [r] w2 w' ∧ IterAt w' r b (dv (n := 8)) shv m x.2.1 x.2.2 ∧ (x.1 ++ x.2.1).Perm m ∧ ∀ p ∈ x.1, alook (er q) p.1 = some p.2.ps) (fun x => x.2.1.length) ([], m, none) ⟨Kp.refl _ _, hI, by simp, fun p hp => (by cases hp)⟩ (by (repeat' (first | exact True.intro | exact rfl | refine And.intro ?_ ?_))) ?_
  rintro ⟨done, left, cur⟩ w3 ⟨hk3, hI, hp, hd⟩
  simp only at hI hp hd
  refine CG.to [(1, .map (some c)), (2, fnv 24 []), (17, .pointer (some ⟨r, 0, none⟩))] (by (repeat' (first | exact True.intro | exact rfl | refine And.intro ?_ ?_))) ?_
  have k3 : Kp [] w w3 := hk2.trans_new hk3 (new1 (by omega))
  repeat (first|apply cA|apply cB)
  refine SG.next rfl rfl rfl (by exact rho_of rfl) hI (fun h0 => ?_) (fun pre x post w4 hl4 hk4 hI4 => ?_)
  · subst h0
    rw [List.append_nil] at hp
    repeat (first|apply cA|apply cD|apply cE|refine cV rfl rfl rfl rfl (by first|(apply qxt<;>(exact rfl))|fail) ?_)
    refine dB rfl (by exact rho_of rfl) rfl ?_
    repeat (first|apply cA|apply cB|apply cD|apply cE|apply cH|apply cJ|apply cM|refine cN rfl ?_|refine cV rfl rfl rfl rfl (by first|(apply qas<;>(exact rfl))|fail) ?_)
    refine ret1 (Or.inl rfl) Tryz.results23 (by first | exact ResV.tmp rfl | exact ResV.agg rfl rfl (by assumption) (by first | exact dc_length _ | exact nc_length _ | exact rc_length _ _ _ | exact ec_length _ | exact dl_length _ _ _ _ | rfl) | exact ResV.cell rfl rfl (by assumption)) ?_
    have hall : ∀ p ∈ er m, alook (er q) p.1 = some p.2 := fun p h => by
      obtain ⟨y, hy, rfl⟩ := List.mem_map.1 h
      exact hd y (hp.mem_iff.2 hy)
    exact ⟨by rw [permB_t (perm_of_look hnq hnm (by rw [er_len, er_len]; exact hlen) hall)], k3⟩
  · have hxm : x ∈ m := hp.mem_iff.1 (by rw [hl4]; simp)
    obtain ⟨ax, fx, lx⟩ := am x hxm
    have k4 : Kp [] w w4 := k3.trans_new hk4 (new1 hr2)
    repeat (first|apply cA|apply cD|apply cE|refine cV rfl rfl rfl rfl (by first|(apply qxt<;>(exact rfl))|fail) ?_)
    refine dA rfl (by exact rho_of rfl) rfl ?_
    repeat (first|apply cA|apply cB|apply cE|apply cF|apply cG|refine cV rfl rfl rfl rfl (by first|((first|apply qen|apply qxt|apply qen)<;>(first|exact rfl|assumption|exact List.not_mem_nil))|fail) ?_)
    refine SG.alloc rfl rfl rfl (fun b5 w5 hk5 hb5 hB5 => ?_)
    refine SG.alloc rfl rfl rfl (fun b6 w6 hk6 hb6 hB6 => ?_)
    have l5 := hB5.lt
    refine SG.setAll (l := dc x.1) rfl rfl (by exact rho_of rfl) (by exact rho_of rfl) (hB5.kp0 hk6) (dc_length _) rfl (dc_one _) (fun w7 hk7 hB5 => ?_)
    refine SG.setAll (l := shc x.2) rfl rfl (by exact rho_of rfl) (by exact rho_of rfl) (hB6.kp hk7 (nm1 (by omega))) (shc_length _) rfl (shc_one _) (fun w8 hk8 hB6 => ?_)
    have hB5 : Blk w8 b5 (.cells (dc x.1).toArray 44) := hB5.kp hk8 (nm1 (by omega))
    have hB6 : Blk w8 b6 (.cells (shc x.2).toArray 72) := hB6
    have s5 := hk5.size
    have s6 := hk6.size
    have k48 : Kp [] w4 w8 := ((hk5.trans hk6).trans_new hk7 (new1 (by omega))).trans_new hk8 (new1 (by omega))
    have k8 := k4.trans k48
    have hR5 : Row w8 b5 0 (dc x.1) := Row.all hB5 rfl
    have hR6 : Row w8 b6 0 (shc x.2) := Row.all hB6 rfl
    have hq8 := hq.kp0 k8
    have s7 := k48.size
    clear hk5 hk6 hk7 hk8 hB5 hB6
    cases hx : alook q x.1 with
    | none =>
      repeat (first|apply cA|apply cB|apply cD|apply cE|refine cV rfl rfl rfl rfl (by first|((first|apply qmv|apply qla|apply qlk|apply qxt)<;>(first|exact rfl|assumption|exact List.not_mem_nil|apply dc_length|exact lk0 (by assumption)|fail))|fail) ?_)
      refine SG.alloc rfl rfl rfl (fun b7 w9 hk9 hb7 hB7 => ?_)
      refine SG.setAll (l := shc zSq) rfl rfl (by exact rho_of rfl) (by exact rho_of rfl) hB7 (shc_length _) rfl (shc_one _) (fun w10 hk10 hB7 => ?_)
      have k10 : Kp [] w8 w10 := hk9.trans_new hk10 (new1 (by omega))
      repeat (first | first|apply cA|apply cB|apply cD|apply cE|refine cV rfl rfl rfl rfl (by first|((first|apply qmv|apply qas|apply qpk|apply qnt)<;>(exact rfl))|fail) ?_ | refine cX rfl rfl ?_)
      refine dA rfl (by exact rho_of rfl) rfl ?_
      repeat (first|apply cA|apply cB|apply cD|apply cE|apply cH|apply cK|apply NG.ret_block|refine cV rfl rfl rfl rfl (by first|(apply qas<;>(exact rfl))|fail) ?_)
      refine ret1 (Or.inl rfl) Tryz.results23 (by first | exact ResV.tmp rfl | exact ResV.agg rfl rfl (by assumption) (by first | exact dc_length _ | exact nc_length _ | exact rc_length _ _ _ | exact ec_length _ | exact dl_length _ _ _ _ | rfl) | exact ResV.cell rfl rfl (by assumption)) ?_
      refine no (k8.trans k10) (fun h => ?_)
      have := look_of_perm hnm h (x.1, x.2.ps) (er_at hxm)
      rw [er_look, hx] at this
      cases this
    | some y =>
      obtain ⟨ay, fy, ly⟩ := aq (x.1, y) (alook_mem hx)
      simp only at ay fy ly
      repeat (first|apply cA|apply cB|apply cD|apply cE|refine cV rfl rfl rfl rfl (by first|((first|apply qmv|apply qla|apply qlk|apply qxt)<;>(first|exact rfl|assumption|exact List.not_mem_nil|apply dc_length|exact lk1 (by assumption)|fail))|fail) ?_)
      refine SG.alloc rfl rfl rfl (fun b7 w9 hk9 hb7 hB7 => ?_)
      refine SG.setAll (l := shc y) rfl rfl (by exact rho_of rfl) (by exact rho_of rfl) hB7 (shc_length _) rfl (shc_one _) (fun w10 hk10 hB7 => ?_)
      have hB7 : Blk w10 b7 (.cells (shc y).toArray 72) := hB7
      have hR7 : Row w10 b7 0 (shc y) := Row.all hB7 rfl
      have k10 : Kp [] w8 w10 := hk9.trans_new hk10 (new1 (by omega))
      have hR6 := hR6.kp0 k10
      have ka := k8.trans k10
      clear hR5 hk9 hk10 hB7
      repeat (first|apply cA|apply cB|apply cD|apply cE|refine cV rfl rfl rfl rfl (by first|((first|apply qmv|apply qas|apply qla|apply qnt)<;>(first|exact rfl|assumption|exact List.not_mem_nil|apply shc_length))|fail) ?_)
      refine SG.retVC (Fn := by infer_instance) (vs := [shv x.2, shv y]) (caps := []) rfl rfl rfl (by exact rho_of rfl) (by repeat' (first | exact True.intro | exact rho_of rfl | refine And.intro ?_ ?_)) (same1_spec (ax.kp0 ka) (ay.kp0 ka) fx fy (by omega)) (fun w11 hk11 => ?_)
      have ka := ka.trans hk11
      by_cases hxy : x.2.ps = y.ps
      · rw [decide_eq_true hxy]
        repeat (first|apply cD|apply cE|refine cV rfl rfl rfl rfl (by first|((first|apply qpk|apply qnt)<;>(exact rfl))|fail) ?_)
        refine dB rfl (by exact rho_of rfl) rfl ?_
        repeat (first|apply cF|apply cU)
        refine NG.round (done ++ [x], pre ++ post, some x) (by (repeat' (first | exact True.intro | exact rfl | refine And.intro ?_ ?_))) ⟨(hk3.trans hk4).trans ((k48.trans k10).trans hk11).any, hI4.kp0 ((k48.trans k10).trans hk11), ?_, fun p hp => ?_⟩ (by simp only; rw [hl4]; simp)
        · simp only
          rw [hl4] at hp
          refine List.Perm.trans ?_ hp
          rw [List.append_assoc, List.singleton_append]
          exact List.Perm.append_left _ List.perm_middle.symm
        · rcases List.mem_append.1 hp with h | h
          · exact hd p h
          · rw [List.mem_singleton] at h
            rw [h, er_look, hx, hxy]
            rfl
      · rw [decide_eq_false hxy]
        repeat (first|apply cD|apply cE|refine cV rfl rfl rfl rfl (by first|((first|apply qpk|apply qnt)<;>(exact rfl))|fail) ?_)
        refine dA rfl (by exact rho_of rfl) rfl ?_
        repeat (first|apply cA|apply cB|apply cD|apply cE|apply cH|apply cK|apply NG.ret_block|refine cV rfl rfl rfl rfl (by first|(apply qas<;>(exact rfl))|fail) ?_)
        refine ret1 (Or.inl rfl) Tryz.results23 (by first | exact ResV.tmp rfl | exact ResV.agg rfl rfl (by assumption) (by first | exact dc_length _ | exact nc_length _ | exact rc_length _ _ _ | exact ec_length _ | exact dl_length _ _ _ _ | rfl) | exact ResV.cell rfl rfl (by assumption)) ?_
        refine no ka (fun h => ?_)
        have := look_of_perm hnm h (x.1, x.2.ps) (er_at hxm)
        rw [er_look, hx] at this
        exact hxy (Option.some.inj this).symm
theorem Inv.prfit {win : Int} {s : ST} (hi : Inv win s) (hw : 0 ≤ win ∧ win ≤ 1048576) : ∀ x ∈ s.m, x.2.Fit := fun x hx => by
  have hl := alook_of_mem hi.km hx
  obtain ⟨y, hy, ay⟩ := (hi.pr _ _ hl).x
  have k := (hi.ok _ y hy).1.all _ (atL_mem ay).1
  obtain ⟨z, hz, az⟩ := (hi.pr _ _ hl).y
  have k1 := k.a0
  have k2 := k.a1
  have k3 := k.t0
  have k4 := k.t1
  simp only at k1 k2 k3 k4
  refine ⟨⟨by omega, by omega⟩, ⟨by omega, by omega⟩, ?_⟩
  rcases az with ⟨h, _⟩ | ⟨h1, h2, _⟩
  · rw [h]; exact ⟨by decide, by decide⟩
  · exact ⟨by omega, by omega⟩
noncomputable def sameB (s t : ST) : Bool := permB s.m t.m && permB s.l t.l
set_option maxHeartbeats 16000000 in
theorem same_e {w : World} {bh bs bp ch cs cp : Nat} {win : Int} {s t : ST} (hH : HubE w bh bs bp win s) (hC : HubE w ch cs cp win t) (hi : Inv win s) (hj : Inv win t) (hw : 0 ≤ win ∧ win ≤ 1048576) : Ret Tryz.prog 7 #[.pointer (some ⟨bh, 0, none⟩), .pointer (some ⟨ch, 0, none⟩)] w (.bool (sameB s t)) := by
  have f1 := hi.prfit hw
  have f2 := hj.prfit hw
  obtain ⟨ms, e1, hH⟩ := hH
  obtain ⟨mt, e2, hC⟩ := hC
  have a1 : ∀ x ∈ ms, x.2.At w ∧ x.2.p.Fit ∧ x.2.p.held.length ≤ 16 := fun x hx => ⟨hH.at' x hx, (hi.ok x.1 x.2.ps (alook_of_mem hi.kl (by rw [← e1]; exact er_at hx))).1.fit, hH.few x hx⟩
  have a2 : ∀ x ∈ mt, x.2.At w ∧ x.2.p.Fit ∧ x.2.p.held.length ≤ 16 := fun x hx => ⟨hC.at' x hx, (hj.ok x.1 x.2.ps (alook_of_mem hj.kl (by rw [← e2]; exact er_at hx))).1.fit, hC.few x hx⟩
  obtain ⟨r0, r1, r2⟩ := hH.rows
  obtain ⟨r3, r4, r5⟩ := hC.rows
  have ew : win = win := rfl
  refine enter2 Tryz.func7 rfl Tryz.ntmps7 rfl ?_
  repeat (first|apply cA|apply cB|apply cD|apply cE|refine cV rfl rfl rfl rfl (by first|((first|apply qep|apply qmv|apply qas|apply qpk|apply qep)<;>(exact rfl))|fail) ?_)
  refine dB rfl (by exact rho_of rfl) rfl ?_
  repeat (first|apply cA|apply cE|apply cF)
  have fin : ∀ {w' : World}, Kp [] w w' → (Ending.returned (.bool (permB s.m t.m && permB s.l t.l)) = .returned (.bool (sameB s t)) ∧ Kp [] w w') := fun hk => ⟨rfl, hk⟩
  cases hp : permB s.m t.m with
  | false =>
    rw [hp] at fin
    refine CG.draw0 mixed [0, 1, 2, 3, 4, 5, 6, 7, 8, 9, 10, 11, 12, 13, 14, 15, 16, 17, 18, 19, 20, 21, 22, 23, 24, 25, 26, 27, 28, 29, 30, 31] [] (by kernel_rfl) ?_
    repeat (refine cY rfl rfl rfl (by first|((first|apply qmv|apply qlc|apply qfa|apply qnc|apply qei)<;>(first|exact rfl|assumption|exact dct (by first|assumption|omega)|exact List.not_mem_nil|fail))|fail) ?_)
    refine Der.call rfl rfl rfl (vs := [.map (some bp), .map (some cp)]) (v := .bool false) (by repeat' (first | exact True.intro | exact rho_of rfl | refine And.intro ?_ ?_)) (fun W hk _ => by rw [← hp]; exact mequal_spec (hH.pr.kp0 hk) (hC.pr.kp0 hk) f1 f2) ?_
    repeat (first | refine cY rfl rfl rfl (by first|((first|apply qmv|apply qas|apply qpk)<;>(exact rfl))|fail) ?_ | refine Der.skip rfl rfl ?_)
    refine Der.fin (fun w1 hk1 _ _ => ?_)
    repeat (first|apply cE|apply cH)
    refine ret1 (Or.inl rfl) Tryz.results7 (by first | exact ResV.tmp rfl | exact ResV.agg rfl rfl (by assumption) (by first | exact dc_length _ | exact nc_length _ | exact rc_length _ _ _ | exact ec_length _ | exact dl_length _ _ _ _ | rfl) | exact ResV.cell rfl rfl (by assumption)) ?_
    exact fin hk1
  | true =>
    rw [hp] at fin
    have hs := sequal_spec hH.sh hC.sh a1 a2
    rw [e1, e2] at hs
    cases hq : permB s.l t.l with
    | false =>
      rw [hq] at fin
      refine CG.draw0 mixed [0, 1, 2, 3, 4, 5, 6, 7, 8, 9, 10, 11, 12, 13, 14, 15, 16, 17, 18, 19, 20, 21, 22, 23, 24, 25, 26, 27, 28, 29, 30, 31] [] (by kernel_rfl) ?_
      repeat (refine cY rfl rfl rfl (by first|((first|apply qmv|apply qlc|apply qfa|apply qnc|apply qei)<;>(first|exact rfl|assumption|exact dct (by first|assumption|omega)|exact List.not_mem_nil|fail))|fail) ?_)
      refine Der.call rfl rfl rfl (vs := [.map (some bp), .map (some cp)]) (v := .bool true) (by repeat' (first | exact True.intro | exact rho_of rfl | refine And.intro ?_ ?_)) (fun W hk _ => by rw [← hp]; exact mequal_spec (hH.pr.kp0 hk) (hC.pr.kp0 hk) f1 f2) ?_
      repeat (refine cY rfl rfl rfl (by first|((first|apply qmv|apply qlc|apply qfa|apply qnc|apply qpk)<;>(first|exact rfl|assumption|exact List.not_mem_nil))|fail) ?_)
      refine Der.call rfl rfl rfl (vs := [.map (some bs), .map (some cs), fnv 24 []]) (v := .bool false) (by repeat' (first | exact True.intro | exact rho_of rfl | refine And.intro ?_ ?_)) (fun W hk _ => by
        rw [← hq, ← e1, ← e2]
        exact sequal_spec (hH.sh.kp0 hk) (hC.sh.kp0 hk) (fun x hx => ⟨(a1 x hx).1.kp0 hk, (a1 x hx).2⟩) (fun x hx => ⟨(a2 x hx).1.kp0 hk, (a2 x hx).2⟩)) ?_
      repeat (refine cY rfl rfl rfl (by first|((first|apply qas|apply qpk)<;>(exact rfl))|fail) ?_)
      refine Der.fin (fun w1 hk1 _ _ => ?_)
      repeat (first|apply cE|apply cH)
      refine ret1 (Or.inl rfl) Tryz.results7 (by first | exact ResV.tmp rfl | exact ResV.agg rfl rfl (by assumption) (by first | exact dc_length _ | exact nc_length _ | exact rc_length _ _ _ | exact ec_length _ | exact dl_length _ _ _ _ | rfl) | exact ResV.cell rfl rfl (by assumption)) ?_
      exact fin hk1
    | true =>
      rw [hq] at fin
      refine CG.draw0 mixed [0, 1, 2, 3, 4, 5, 6, 7, 8, 9, 10, 11, 12, 13, 14, 15, 16, 17, 18, 19, 20, 21, 22, 23, 24, 25, 26, 27, 28, 29, 30, 31] [] (by kernel_rfl) ?_
      repeat (refine cY rfl rfl rfl (by first|((first|apply qmv|apply qlc|apply qfa|apply qnc|apply qei)<;>(first|exact rfl|assumption|exact dct (by first|assumption|omega)|exact List.not_mem_nil|fail))|fail) ?_)
      refine Der.call rfl rfl rfl (vs := [.map (some bp), .map (some cp)]) (v := .bool true) (by repeat' (first | exact True.intro | exact rho_of rfl | refine And.intro ?_ ?_)) (fun W hk _ => by rw [← hp]; exact mequal_spec (hH.pr.kp0 hk) (hC.pr.kp0 hk) f1 f2) ?_
      repeat (refine cY rfl rfl rfl (by first|((first|apply qmv|apply qlc|apply qfa|apply qnc|apply qpk)<;>(first|exact rfl|assumption|exact List.not_mem_nil))|fail) ?_)
      refine Der.call rfl rfl rfl (vs := [.map (some bs), .map (some cs), fnv 24 []]) (v := .bool true) (by repeat' (first | exact True.intro | exact rho_of rfl | refine And.intro ?_ ?_)) (fun W hk _ => by
        rw [← hq, ← e1, ← e2]
        exact sequal_spec (hH.sh.kp0 hk) (hC.sh.kp0 hk) (fun x hx => ⟨(a1 x hx).1.kp0 hk, (a1 x hx).2⟩) (fun x hx => ⟨(a2 x hx).1.kp0 hk, (a2 x hx).2⟩)) ?_
      repeat (refine cY rfl rfl rfl (by first|((first|apply qas|apply qpk)<;>(exact rfl))|fail) ?_)
      refine Der.fin (fun w1 hk1 _ _ => ?_)
      repeat (first|apply cE|apply cH)
      refine ret1 (Or.inl rfl) Tryz.results7 (by first | exact ResV.tmp rfl | exact ResV.agg rfl rfl (by assumption) (by first | exact dc_length _ | exact nc_length _ | exact rc_length _ _ _ | exact ec_length _ | exact dl_length _ _ _ _ | rfl) | exact ResV.cell rfl rfl (by assumption)) ?_
      exact fin hk1
end Go.Proofs.YtajllbdeoopimaaGreat
namespace Go.Proofs.YtajllbdeoopimaaGreat
set_option linter.unusedVariables false
theorem sumA_perm {κ ν : Type} (f : ν → Int) {a b : List (κ × ν)} (h : a.Perm b) : sumA f a = sumA f b := by
  induction h with
  | nil => rfl
  | cons x _ ih => simp only [sumA, ih]
  | swap x y l => simp only [sumA]; omega
  | trans _ _ i1 i2 => exact i1.trans i2
theorem Inv.perm {win : Int} {s : ST} (hi : Inv win s) {l' : Pl} {m' : Mp} (hl : l'.Perm s.l) (hm : m'.Perm s.m) : Inv win ⟨l', m'⟩ := by
  have kl : (l'.map (·.1)).Nodup := (hl.map (·.1)).nodup_iff.2 hi.kl
  have km : (m'.map (·.1)).Nodup := (hm.map (·.1)).nodup_iff.2 hi.km
  have el : ∀ k, alook l' k = alook s.l k := perm_look kl hl
  have em : ∀ k, alook m' k = alook s.m k := perm_look km hm
  refine ⟨kl, km, by rw [hl.length_eq]; exact hi.len, fun k x h => hi.ok k x ?_, fun n r h => ?_, fun k x h y hy => ?_, ?_⟩
  · rw [← el]; exact h
  · have h' : alook s.m n = some r := by rw [← em]; exact h
    exact (hi.pr n r h').sim (fun k x hx => ⟨x, by show alook l' k = some x; rw [el, hx], rfl, rfl⟩)
  · have h' : alook s.l k = some x := by rw [← el]; exact h
    obtain ⟨r, h1, h2⟩ := hi.he k x h' y hy
    exact ⟨r, by show alook m' y.name = some r; rw [em, h1], h2⟩
  · show sumA onL l' = sumA backL l' + sumA passed m'
    rw [sumA_perm onL hl, sumA_perm backL hl, sumA_perm passed hm]
    exact hi.bal
theorem HubE.oth {w w' : World} {bh bs bp ch cs cp : Nat} {win win' : Int} {s t : ST} (hC : HubE w ch cs cp win' t) (hH : HubE w bh bs bp win s) (hk : Kp [bs, bp] w w') (n1 : cs ≠ bs) (n2 : cs ≠ bp) (n3 : cp ≠ bs) (n4 : cp ≠ bp) : HubE w' ch cs cp win' t := by
  obtain ⟨mt, e, hC⟩ := hC
  obtain ⟨ms, -, hH⟩ := hH
  exact ⟨mt, e, hC.other hH.sh hH.pr hk n1 n2 n3 n4⟩
theorem sameB_t {s t : ST} (hl : s.l.Perm t.l) (hm : s.m.Perm t.m) : sameB s t = true := by
  unfold sameB
  rw [permB_t hl, permB_t hm]
  rfl
attribute [local irreducible] CG NG SG Vals Der Row Blk MapIs IterAt chkL DerX DerR
end Go.Proofs.YtajllbdeoopimaaGreat
namespace Go.Proofs.YtajllbdeoopimaaGreat
set_option linter.unusedVariables false
theorem wic_sideO {w : World} {b off : Nat} {x : Wi} (h : Row w b off (wic x)) {j : Nat} (hj : j < 2) : Row w b (off + 8 + 9 + j * 1) [Value.int .i64 (haveP x.p (j : Int))] := by
  have l1 : (dc x.peer).length = 8 := dc_length _
  have l8 : (dc x.p.name).length = 8 := dc_length _
  rcases (show j = 0 ∨ j = 1 by omega) with rfl | rfl
  · have := h.part (dc x.peer ++ (dc x.p.name ++ [Value.int .i64 x.p.num])) [Value.int .i64 x.p.h0] ([Value.int .i64 x.p.h1, x.s] ++ [Value.int .i64 x.side]) (by simp [wic, pc])
    have e : (dc x.peer ++ (dc x.p.name ++ [Value.int .i64 x.p.num])).length = 17 := by simp [l1, l8]
    rw [e] at this
    exact this
  · have := h.part (dc x.peer ++ (dc x.p.name ++ [Value.int .i64 x.p.num, Value.int .i64 x.p.h0])) [Value.int .i64 x.p.h1] ([x.s] ++ [Value.int .i64 x.side]) (by simp [wic, pc])
    have e : (dc x.peer ++ (dc x.p.name ++ [Value.int .i64 x.p.num, Value.int .i64 x.p.h0])).length = 18 := by simp [l1, l8]
    rw [e] at this
    exact this
theorem wic_heldO {w : World} {b off : Nat} {x : Wi} (h : Row w b off (wic x)) : Row w b (off + 8 + 11) [.slice x.a x.p.held.length x.c] := by
  have l1 : (dc x.peer).length = 8 := dc_length _
  have l8 : (dc x.p.name).length = 8 := dc_length _
  have := h.part (dc x.peer ++ (dc x.p.name ++ [Value.int .i64 x.p.num, Value.int .i64 x.p.h0, Value.int .i64 x.p.h1])) [x.s] [Value.int .i64 x.side] (by simp [wic, pc])
  have e : (dc x.peer ++ (dc x.p.name ++ [Value.int .i64 x.p.num, Value.int .i64 x.p.h0, Value.int .i64 x.p.h1])).length = 19 := by simp [l1, l8]
  rw [e] at this
  exact this
theorem hc_rowsO {w : World} {b off : Nat} {h : Hd} (hr : Row w b off (hc h)) : Row w b (off + 8) [Value.int .i64 h.amt] ∧ Row w b (off + 9) [Value.int .i64 h.side] := by
  have l8 : (dc h.name).length = 8 := dc_length _
  have h1 := hr.part (dc h.name) [Value.int .i64 h.amt] [Value.int .i64 h.side, Value.int .i64 h.til] (by simp [hc])
  have h2 := hr.part (dc h.name ++ [Value.int .i64 h.amt]) [Value.int .i64 h.side] [Value.int .i64 h.til] (by simp [hc])
  have e : (dc h.name ++ [Value.int .i64 h.amt]).length = 9 := by simp [l8]
  rw [l8] at h1
  rw [e] at h2
  exact ⟨h1, h2⟩
/-- What the first ones of the document's purses come to. -/
def wsum (f : Ps → Int) (L : List Wi) : Int := sumA f (L.map Wi.kv)
theorem wsum_snoc (f : Ps → Int) {L : List Wi} {i : Nat} (h : i < L.length) : wsum f (L.take (i + 1)) = wsum f (L.take i) + f L[i].ps := by
  unfold wsum
  rw [List.take_succ_eq_append_getElem h, List.map_append]
  generalize (L.take i).map Wi.kv = a
  induction a with
  | nil => simp [sumA, Wi.kv]
  | cons x a ih => rw [List.cons_append, sumA, sumA, ih]; omega
theorem wi_ok {win : Int} {s : ST} (hi : Inv win s) {L : List Wi} (h : Srt (L.map Wi.kv) s.l) : ∀ x ∈ L, ShOk ⟨x.p, x.a, x.c, x.side⟩ := fun x hx => by
  have hm : (x.peer, x.ps) ∈ s.l := h.perm.mem_iff.1 (List.mem_map_of_mem (f := Wi.kv) hx)
  obtain ⟨h1, h2⟩ := hi.ok _ _ (alook_of_mem hi.kl hm)
  have e2 : x.ps.2 = x.side := rfl
  rw [e2] at h2
  exact ⟨h1, by show 0 ≤ x.side; omega, by show x.side ≤ 1; omega⟩
theorem wi_le {x : Wi} (h : ShOk ⟨x.p, x.a, x.c, x.side⟩) : 0 ≤ backL x.ps ∧ backL x.ps ≤ 19140298416324608 ∧ 0 ≤ onL x.ps ∧ onL x.ps ≤ 19140298416324608 := by
  have := sh_le h
  rw [backS_ps, onS_ps] at this
  exact this
theorem wsum_le (f : Ps → Int) {L : List Wi} (h : ∀ x ∈ L, 0 ≤ f x.ps ∧ f x.ps ≤ 19140298416324608) : 0 ≤ wsum f L ∧ wsum f L ≤ 19140298416324608 * L.length := by
  induction L with
  | nil => simp [wsum, sumA]
  | cons x L ih =>
    have h1 := h x List.mem_cons_self
    have h2 := ih (fun y hy => h y (List.mem_cons_of_mem _ hy))
    have e : wsum f (x :: L) = f x.ps + wsum f L := rfl
    rw [e]
    simp only [List.length_cons]
    omega
attribute [local irreducible] CG NG SG Vals Der Row Blk MapIs IterAt chkL DerX DerR
set_option maxHeartbeats 32000000 in
theorem rworth_e {w : World} {v : Value} {win : Int} {s : ST} (hD : DocE w v win s) (hi : Inv win s) : Ret Tryz.prog 36 #[v] w (.tuple #[.int .i64 (sumA backL s.l), .int .i64 (sumA onL s.l)]) := by
  obtain ⟨L, P, aL, aP, cL, cP, hD⟩ := hD
  have hv := hD.eq
  subst hv
  have hLl := hD.lenL
  have hl16 := hi.len
  have hwo := wi_ok hi hD.srL
  have hinn := hD.inn
  have hSL := hD.sl
  rw [← sumA_perm backL hD.srL.perm, ← sumA_perm onL hD.srL.perm]
  refine enter1 Tryz.func36 rfl Tryz.ntmps36 rfl ?_
  repeat (first|apply cA|apply cB)
  refine SG.box rfl rfl rfl (by exact rho_of rfl) (fun b1 w1 hk1 hb1 hB1 => ?_)
  have hB1 : Blk w1 b1 (.cells (dhc win (.slice aL L.length cL) (.slice aP P.length cP)).toArray 31) := hB1
  obtain ⟨-, r1, -, -⟩ := dhc_rows hB1
  have fin : (Ending.returned (.tuple #[.int .i64 (wsum backL L), .int .i64 (wsum onL L)])) = .returned (.tuple #[.int .i64 (sumA backL (L.map Wi.kv)), .int .i64 (sumA onL (L.map Wi.kv))]) := rfl
  clear hB1 hD
  repeat (first|apply cA|apply cB|apply cD|apply cE|apply cG|refine cV rfl rfl rfl rfl (by first|(apply qas<;>(exact rfl))|fail) ?_)
  refine CG.loop (X := Nat) (fun i => [(1, .pointer (some ⟨b1, 0, none⟩)), (4, .int .i64 (wsum backL (L.take i))), (5, .int .i64 (wsum onL (L.take i))), (6, .int .i64 (i : Int))])
    (fun i w' => i ≤ L.length ∧ Kp [] w1 w') (fun i => L.length - i) 0 ⟨Nat.zero_le _, Kp.refl _ _⟩ (by (repeat' (first | exact True.intro | exact rfl | refine And.intro ?_ ?_))) ?_
  rintro i w2 ⟨hi2, hk2⟩
  have r1 := r1.kp0 hk2
  have k2 := hk1.trans hk2
  by_cases hlt : i < L.length
  rotate_left
  · have g1 : ¬ (i : Int) < (L.length : Int) := by omega
    rw [List.take_of_length_le (by omega)]
    repeat (first|apply cA|apply cB|apply cD|apply cE|refine cV rfl rfl rfl rfl (by first|((first|apply qmv|apply qlc|apply qfa|apply qls|apply qln)<;>(first|exact rfl|assumption|exact dcf (by first|assumption|omega)|exact List.not_mem_nil|fail))|fail) ?_)
    refine dB rfl (by exact rho_of rfl) rfl ?_
    repeat (first|apply cA|apply cB|apply cD|apply cE|apply cH|apply cJ|apply cM|refine cN rfl ?_|refine cV rfl rfl rfl rfl (by first|((first|apply qmv|apply qas)<;>(exact rfl))|fail) ?_)
    refine ret2 (Or.inl rfl) Tryz.results36 (by first | exact ResV.tmp rfl | exact ResV.agg rfl rfl (by assumption) (by first | exact dc_length _ | exact nc_length _ | exact rc_length _ _ _ | exact ec_length _ | exact dl_length _ _ _ _ | rfl) | exact ResV.cell rfl rfl (by assumption)) (by first | exact ResV.tmp rfl | exact ResV.agg rfl rfl (by assumption) (by first | exact dc_length _ | exact nc_length _ | exact rc_length _ _ _ | exact ec_length _ | exact dl_length _ _ _ _ | rfl) | exact ResV.cell rfl rfl (by assumption)) ?_
    exact ⟨fin, k2⟩
  have g1 : (i : Int) < (L.length : Int) := by omega
  obtain ⟨ba, oa, rfl, hri⟩ := (hSL.kp0 k2).at hlt
  have e1 := wsum_snoc backL hlt
  have e2 := wsum_snoc onL hlt
  have hx := hwo _ (List.getElem_mem hlt)
  have hxi := (hinn _ (List.getElem_mem hlt)).kp0 k2
  have b0 := wi_le hx
  have b1' := wsum_le backL (L := L.take i) (fun x hx => by have := wi_le (hwo x (List.mem_of_mem_take hx)); exact ⟨this.1, this.2.1⟩)
  have b2' := wsum_le onL (L := L.take i) (fun x hx => by have := wi_le (hwo x (List.mem_of_mem_take hx)); exact ⟨this.2.2.1, this.2.2.2⟩)
  have tl : (L.take i).length ≤ 15 := by rw [List.length_take]; omega
  generalize hxe : L[i] = x at hri e1 e2 hx hxi b0
  have eb : backL x.ps = haveP x.p x.side + ownS x.side x.p.held := (backS_ps ⟨x.p, x.a, x.c, x.side⟩).symm
  have eo : onL x.ps = haveP x.p x.side + othS x.side x.p.held := (onS_ps ⟨x.p, x.a, x.c, x.side⟩).symm
  obtain ⟨j, hj, hj2⟩ : ∃ j : Nat, x.side = (j : Int) ∧ j < 2 := ⟨x.side.toNat, by have h : 0 ≤ x.side := hx.s0; omega, by have h : 0 ≤ x.side := hx.s0; have h' : x.side ≤ 1 := hx.s1; omega⟩
  have hv : 0 ≤ haveP x.p x.side ∧ haveP x.p x.side ≤ 1125899906842624 := have_amt hx.p x.side
  have hlx : x.p.held.length ≤ 16 := hx.p.l
  have hle : ∀ h ∈ x.p.held, 0 ≤ h.amt ∧ h.amt ≤ 1125899906842624 := held_le hx.p
  generalize hA : wsum backL (L.take i) = A at e1 b1'
  generalize hB : wsum onL (L.take i) = B at e2 b2'
  refine CG.to [(1, .pointer (some ⟨b1, 0, none⟩)), (4, .int .i64 A), (5, .int .i64 B), (6, .int .i64 (i : Int))] (by rw [← hA, ← hB]; (repeat' (first | exact True.intro | exact rfl | refine And.intro ?_ ?_))) ?_
  repeat (first|apply cA|apply cB|apply cD|apply cE|refine cV rfl rfl rfl rfl (by first|((first|apply qmv|apply qlc|apply qfa|apply qls|apply qln)<;>(first|exact rfl|assumption|exact dct (by first|assumption|omega)|exact List.not_mem_nil|fail))|fail) ?_)
  refine dA rfl (by exact rho_of rfl) rfl ?_
  repeat (first|apply cA|apply cB|apply cE|apply cF|apply cG|refine cV rfl rfl rfl rfl (by first|((first|apply qmv|apply qlc|apply qla|apply qfa|apply qix)<;>(first|exact rfl|exact Ar.mk (by omega)|assumption|exact List.not_mem_nil|apply wic_length|fail))|fail) ?_)
  refine SG.alloc rfl rfl rfl (fun b7 w3 hk3 hb7 hB7 => ?_)
  refine SG.setAll (l := wic x) rfl rfl (by exact rho_of rfl) (by exact rho_of rfl) hB7 (wic_length _) rfl (wic_one _) (fun w4 hk4 hB7 => ?_)
  have hB7 : Blk w4 b7 (.cells (wic x).toArray 98) := hB7
  have k24 : Kp [] w2 w4 := hk3.trans_new hk4 (new1 (by omega))
  have hR7 : Row w4 b7 0 (wic x) := Row.all hB7 rfl
  obtain ⟨-, -, q2⟩ := wic_rowsO hR7
  have q3 := wic_sideO hR7 hj2
  have q4 := wic_heldO hR7
  rw [← hj] at q3
  have hxi := hxi.kp0 k24
  have r1 := r1.kp0 k24
  clear hR7 hB7 hri hk3 hk4
  repeat (first|apply cA|apply cD|apply cE)
  refine CG.draw0 mixed [0, 1, 2, 3, 4, 5, 6, 7, 8, 9, 10, 11, 12, 13, 14, 15, 16, 17] [] (by kernel_rfl) ?_
  repeat (refine cY rfl rfl rfl (by first|((first|apply qia|apply qmv|apply qas|apply qlc|apply qfa|apply qad)<;>(first|exact rfl|exact Ar.mk (by omega)|assumption|exact List.not_mem_nil|fail))|fail) ?_)
  refine Der.fin (fun w5 hk5 _ _ => ?_)
  have q2 := q2.kp0 hk5
  have q4 := q4.kp0 hk5
  have r1 := r1.kp0 hk5
  have hxi := hxi.kp0 hk5
  clear q3
  repeat (first|apply cA|apply cB|apply cD|apply cE|apply cG|refine cV rfl rfl rfl rfl (by first|(apply qas<;>(exact rfl))|fail) ?_)
  refine CG.loop (X := Nat) (fun k => [(1, .pointer (some ⟨b1, 0, none⟩)), (4, .int .i64 (A + haveP x.p x.side + ownS x.side (x.p.held.take k))), (5, .int .i64 (B + haveP x.p x.side + othS x.side (x.p.held.take k))), (6, .int .i64 (i : Int)), (7, .pointer (some ⟨b7, 0, none⟩)), (8, .int .i64 (k : Int))]) (fun k w' => k ≤ x.p.held.length ∧ Kp [] w5 w') (fun k => x.p.held.length - k) 0 ⟨Nat.zero_le _, Kp.refl _ _⟩ ?_ ?_
  · refine ⟨rfl, ?_, ?_, rfl, rfl, rfl, True.intro⟩
    · show _ = some (Value.int .i64 (A + haveP x.p x.side + 0))
      rw [Int.add_zero]
      rfl
    · show _ = some (Value.int .i64 (B + haveP x.p x.side + 0))
      rw [Int.add_zero]
      rfl
  rintro k w6 ⟨hk, hk6⟩
  have q2 := q2.kp0 hk6
  have q4 := q4.kp0 hk6
  by_cases hlt2 : k < x.p.held.length
  · have g2 : (k : Int) < (x.p.held.length : Int) := by omega
    obtain ⟨bb, ob, hbb, hrk⟩ := (hxi.kp0 hk6).sl.at hlt2
    have hsn := ownS_snoc (s := x.side) hlt2
    have hsn' := othS_snoc (s := x.side) hlt2
    obtain ⟨s1, s2, s3, s4⟩ := sums_le x.side (l := x.p.held.take k) (fun h hm => hle h (List.mem_of_mem_take hm))
    have s5 := hle _ (List.getElem_mem hlt2)
    have s6 : (x.p.held.take k).length ≤ 16 := by rw [List.length_take]; omega
    obtain ⟨p1, p2⟩ := hc_rowsO hrk
    rw [hbb] at q4
    repeat (first|apply cA|apply cB|apply cD|apply cE|refine cV rfl rfl rfl rfl (by first|((first|apply qmv|apply qlc|apply qfa|apply qls|apply qln)<;>(first|exact rfl|assumption|exact dct (by first|assumption|omega)|exact List.not_mem_nil|fail))|fail) ?_)
    refine dA rfl (by exact rho_of rfl) rfl ?_
    by_cases hsd : x.p.held[k].side = x.side
    · rw [if_pos hsd] at hsn hsn'
      rw [Int.add_zero] at hsn'
      repeat (first|apply cA|apply cE|apply cF|apply cG)
      refine CG.draw0 mixed [0, 1, 2, 3, 4, 5, 6, 7, 8, 9] [] (by kernel_rfl) ?_
      repeat (refine cY rfl rfl rfl (by first|((first|apply qei|apply qmv|apply qlc|apply qfa|apply qix|apply qei)<;>(first|exact rfl|exact Ar.mk (by omega)|assumption|exact dct (by first|assumption|omega)|exact List.not_mem_nil|fail))|fail) ?_)
      refine Der.fin (fun w7 hk7 _ _ => ?_)
      have q4 := q4.kp0 hk7
      have p1 := p1.kp0 hk7
      repeat (first|apply cE)
      refine dA rfl (by exact rho_of rfl) rfl ?_
      repeat (first|apply cB|apply cD|apply cE|apply cU|refine cV rfl rfl rfl rfl (by first|((first|apply qmv|apply qas|apply qlc|apply qfa|apply qix|apply qad)<;>(first|exact rfl|exact Ar.mk (by omega)|assumption|exact List.not_mem_nil|fail))|fail) ?_)
      refine NG.round (k + 1) ?_ ⟨by omega, hk6.trans hk7⟩ (by omega)
      rw [hsn, hsn', ← Int.add_assoc]
      (repeat' (first | exact True.intro | exact rfl | refine And.intro ?_ ?_))
    · rw [if_neg hsd] at hsn hsn'
      rw [Int.add_zero] at hsn
      repeat (first|apply cA|apply cE|apply cF|apply cG)
      refine CG.draw0 mixed [0, 1, 2, 3, 4, 5, 6, 7, 8, 9] [] (by kernel_rfl) ?_
      repeat (refine cY rfl rfl rfl (by first|((first|apply qei|apply qmv|apply qlc|apply qfa|apply qix|apply qei)<;>(first|exact rfl|exact Ar.mk (by omega)|assumption|exact dcf (by first|assumption|omega)|exact List.not_mem_nil|fail))|fail) ?_)
      refine Der.fin (fun w7 hk7 _ _ => ?_)
      have q4 := q4.kp0 hk7
      have p1 := p1.kp0 hk7
      repeat (first|apply cE)
      refine dB rfl (by exact rho_of rfl) rfl ?_
      repeat (first|apply cB|apply cD|apply cE|apply cU|refine cV rfl rfl rfl rfl (by first|((first|apply qmv|apply qas|apply qlc|apply qfa|apply qix|apply qad)<;>(first|exact rfl|exact Ar.mk (by omega)|assumption|exact List.not_mem_nil|fail))|fail) ?_)
      refine NG.round (k + 1) ?_ ⟨by omega, hk6.trans hk7⟩ (by omega)
      rw [hsn, hsn', ← Int.add_assoc]
      (repeat' (first | exact True.intro | exact rfl | refine And.intro ?_ ?_))
  · have g2 : ¬ (k : Int) < (x.p.held.length : Int) := by omega
    rw [List.take_of_length_le (by omega)]
    repeat (first|apply cA|apply cB|apply cD|apply cE|refine cV rfl rfl rfl rfl (by first|((first|apply qmv|apply qlc|apply qfa|apply qls|apply qln)<;>(first|exact rfl|assumption|exact dcf (by first|assumption|omega)|exact List.not_mem_nil|fail))|fail) ?_)
    refine dB rfl (by exact rho_of rfl) rfl ?_
    repeat (first|apply cB|apply cD|apply cE|apply cJ|apply cM|refine cN rfl ?_|apply cU|refine cV rfl rfl rfl rfl (by first|((first|apply qmv|apply qas|apply qad)<;>(first|exact rfl|exact Ar.mk (by omega)|fail))|fail) ?_)
    refine NG.round (i + 1) ?_ ⟨by omega, ((hk2.trans k24).trans hk5).trans hk6⟩ (by omega)
    rw [e1, e2, eb, eo, ← Int.add_assoc, ← Int.add_assoc]
    (repeat' (first | exact True.intro | exact rfl | refine And.intro ?_ ?_))
end Go.Proofs.YtajllbdeoopimaaGreat
namespace Go.Proofs.YtajllbdeoopimaaGreat
set_option linter.unusedVariables false
theorem srt_of {ν : Type} {S l : List (Dg × ν)} (h : Srt S l) : srt (l.map (·.1)) = S.map (·.1) := by
  refine sorted_uniq (key := dkey) dkey_inj (srt_perm _) (h.perm.map (·.1)) (sortK_sorted _ _) ?_
  rw [List.pairwise_map]
  exact h.lt.imp (fun h => Nat.le_of_lt h)
theorem fm_self {m : Mp} : ∀ {P : List Pr}, (∀ r ∈ P, alook m r.name = some r) → (P.map (·.name)).filterMap (alook m) = P
  | [], _ => rfl
  | r :: P, h => by
    rw [List.map_cons, List.filterMap_cons, h r List.mem_cons_self, fm_self (fun q hq => h q (List.mem_cons_of_mem _ hq))]
theorem prs_of {s : ST} {P : List Pr} (h : Srt (P.map pk) s.m) : prsL s.m = P := by
  unfold prsL
  rw [srt_names h]
  exact fm_self (fun r hr => alook_of_mem (p := pk r) h.nd (h.perm.mem_iff.1 (List.mem_map_of_mem hr)))
theorem peers_of {s : ST} {L : List Wi} (h : Srt (L.map Wi.kv) s.l) : srt (s.l.map (·.1)) = L.map (·.peer) := by
  rw [srt_of h, List.map_map]
  rfl
attribute [local irreducible] CG NG SG Vals Der Row Blk MapIs IterAt chkL DerX DerR
set_option maxHeartbeats 64000000 in
theorem alike_e {w : World} {bh bs bp : Nat} {v : Value} {win : Int} {s : ST} (hH : HubE w bh bs bp win s) (hD : DocE w v win s) (hi : Inv win s) (hw : 0 ≤ win ∧ win ≤ 1048576) (hms : s.m.length ≤ 1000) : Ret Tryz.prog 13 #[.pointer (some ⟨bh, 0, none⟩), v] w (.bool true) := by
  obtain ⟨L, P, aL, aP, cL, cP, hD⟩ := hD
  have hv := hD.eq
  subst hv
  have hLl := hD.lenL
  have hPl := hD.lenP
  have hl16 := hi.len
  have wo := wi_ok hi hD.srL
  have fP : ∀ x ∈ P, x.Fit := fun x hx => hi.prfit hw (pk x) (hD.srP.perm.mem_iff.1 (List.mem_map_of_mem hx))
  have hkv : ∀ x ∈ L, alook s.l x.peer = some x.ps := fun x hx => alook_of_mem (p := x.kv) hi.kl (hD.srL.perm.mem_iff.1 (List.mem_map_of_mem (f := Wi.kv) hx))
  have hinn := hD.inn
  have sL := hD.sl
  have sP := hD.sp
  have epk := peers_of hD.srL
  have epr := prs_of hD.srP
  have hDE : DocE w (dhv win (.slice aL L.length cL) (.slice aP P.length cP)) win s := ⟨L, P, aL, aP, cL, cP, hD⟩
  clear hD
  refine enter2 Tryz.func13 rfl Tryz.ntmps13 rfl ?_
  repeat (first|apply cA|apply cB)
  refine SG.box rfl rfl rfl (by exact rho_of rfl) (fun b3 w1 hk1 hb3 hB3 => ?_)
  have hB3 : Blk w1 b3 (.cells (dhc win (.slice aL L.length cL) (.slice aP P.length cP)).toArray 31) := hB3
  repeat (first|apply cA|apply cB|apply cD|apply cE|refine cV rfl rfl rfl rfl (by first|((first|apply qmv|apply qas)<;>(exact rfl))|fail) ?_)
  refine SG.call rfl rfl rfl (vs := [.pointer (some ⟨bh, 0, none⟩)]) (by repeat' (first | exact True.intro | exact rho_of rfl | refine And.intro ?_ ?_)) ((peers_e (hH.kp0 hk1) (by omega)).mono (fun e w2 hh => ?_))
  obtain ⟨v5, he, ho5, hk2⟩ := hh
  refine ⟨_, he, ?_⟩
  clear he
  rw [epk] at ho5
  obtain ⟨a5, c5, rfl, -, hS5⟩ := Sl.own dc_length ho5 rfl
  have k2 := hk1.trans hk2
  repeat (first|refine cV rfl rfl rfl rfl (by first|(apply qmv<;>(exact rfl))|fail) ?_)
  refine SG.call rfl rfl rfl (vs := [.pointer (some ⟨bh, 0, none⟩)]) (by repeat' (first | exact True.intro | exact rho_of rfl | refine And.intro ?_ ?_)) ((pairs_e (hH.kp0 k2) hms).mono (fun e w3 hh => ?_))
  obtain ⟨v6, he, ho6, hk3⟩ := hh
  refine ⟨_, he, ?_⟩
  clear he
  rw [epr] at ho6
  obtain ⟨a6, c6, rfl, -, hS6⟩ := Sl.own prc_length ho6 rfl
  have k3 := k2.trans hk3
  have hS5 := hS5.kp0 hk3
  repeat (first|apply cA|apply cB|apply cD|apply cE|refine cV rfl rfl rfl rfl (by first|((first|apply qmv|apply qas)<;>(exact rfl))|fail) ?_)
  refine SG.ret rfl rfl rfl (vs := [.pointer (some ⟨bh, 0, none⟩)]) (by repeat' (first | exact True.intro | exact rho_of rfl | refine And.intro ?_ ?_)) (worth_e (hH.kp0 k3) hi) (fun w4 hk4 => ?_)
  have k4 := k3.trans hk4
  have hB4 := hB3.kp0 ((hk2.trans hk3).trans hk4)
  obtain ⟨-, -, -, r0⟩ := dhc_rows hB4
  generalize hA : sumA backL s.l = A
  generalize hB : sumA onL s.l = B
  repeat (first|apply cA|apply cB|apply cD|apply cE|refine cV rfl rfl rfl rfl (by first|((first|apply qmv|apply qas|apply qla|apply qxt)<;>(first|exact rfl|assumption|exact List.not_mem_nil))|fail) ?_)
  refine SG.ret rfl rfl rfl (vs := [dhv win (.slice aL L.length cL) (.slice aP P.length cP)]) (v := .tuple #[.int .i64 A, .int .i64 B]) (by repeat' (first | exact True.intro | exact rho_of rfl | refine And.intro ?_ ?_)) (by rw [← hA, ← hB]; exact rworth_e (hDE.kp0 k4) hi) (fun w5 hk5 => ?_)
  have k5 := k4.trans hk5
  obtain ⟨-, r1, r2, -⟩ := dhc_rows (hB4.kp0 hk5)
  have hH5 := hH.kp0 k5
  have hS5 := (hS5.kp0 hk4).kp0 hk5
  have hS6 := (hS6.kp0 hk4).kp0 hk5
  clear r0 ho5 ho6 hB3 hB4
  have hlm : (L.map (·.peer)).length = L.length := List.length_map _
  rw [hlm]
  have eL : (L.length : Int) = (L.length : Int) := rfl
  have eP : (P.length : Int) = (P.length : Int) := rfl
  have eA : A = A := rfl
  have eB : B = B := rfl
  repeat (first|apply cA|apply cB|apply cD|apply cE|refine cV rfl rfl rfl rfl (by first|((first|apply qni|apply qmv|apply qas|apply qlc|apply qfa|apply qpk|apply qni|apply qln|apply qxt)<;>(first|exact rfl|assumption|exact dct (by first|assumption|omega)|exact List.not_mem_nil|fail))|fail) ?_)
  refine dB rfl (by exact rho_of rfl) rfl ?_
  repeat (first|apply cA|apply cB|apply cD|apply cE|apply cF|apply cG|refine cV rfl rfl rfl rfl (by first|(apply qas<;>(exact rfl))|fail) ?_)
  refine CG.loop (X := Nat) (fun i => [(0, .pointer (some ⟨bh, 0, none⟩)), (3, .pointer (some ⟨b3, 0, none⟩)), (5, .slice a5 L.length c5), (6, .slice a6 P.length c6), (11, .int .i64 (i : Int))])
    (fun i w' => i ≤ L.length ∧ Kp [] w5 w') (fun i => L.length - i) 0 ⟨Nat.zero_le _, Kp.refl _ _⟩ (by (repeat' (first | exact True.intro | exact rfl | refine And.intro ?_ ?_))) ?_
  rintro i w6 ⟨hi6, hk6⟩
  have k6 := k5.trans hk6
  have r1 := r1.kp0 hk6
  have r2 := r2.kp0 hk6
  by_cases hlt : i < L.length
  · have g1 : (i : Int) < (L.length : Int) := by omega
    obtain ⟨ba, oa, rfl, hra⟩ := (sL.kp0 k6).at hlt
    obtain ⟨bb, ob, rfl, hrb⟩ := (hS5.kp0 hk6).at (show i < (L.map (·.peer)).length by rw [hlm]; exact hlt)
    rw [List.getElem_map] at hrb
    have ox := wo _ (List.getElem_mem hlt)
    have ix := (hinn _ (List.getElem_mem hlt)).kp0 k6
    have lx := hkv _ (List.getElem_mem hlt)
    generalize L[i] = x at hra hrb ox ix lx
    obtain ⟨p1, p2, p3⟩ := wic_rowsO hra
    have hlh : x.p.held.length ≤ 16 := ox.p.l
    clear r2
    repeat (first|apply cA|apply cB|apply cD|apply cE|refine cV rfl rfl rfl rfl (by first|((first|apply qmv|apply qls|apply qln)<;>(first|exact rfl|exact dct (by first|assumption|omega)|fail))|fail) ?_)
    refine dA rfl (by exact rho_of rfl) rfl ?_
    repeat (first|apply cA|apply cB|apply cE|apply cF|apply cG|refine cV rfl rfl rfl rfl (by first|((first|apply qmv|apply qlc|apply qla|apply qfa|apply qix)<;>(first|exact rfl|exact Ar.mk (by omega)|assumption|exact List.not_mem_nil|apply dc_length|fail))|fail) ?_)
    refine SG.call rfl rfl rfl (vs := [.pointer (some ⟨bh, 0, none⟩), dv x.peer]) (by repeat' (first | exact True.intro | exact rho_of rfl | refine And.intro ?_ ?_)) ((purse_e (hH5.kp0 hk6) x.peer lx).mono (fun e w7 hh => ?_))
    obtain ⟨v12, he, ⟨s12, rfl, ho12⟩, hk7⟩ := hh
    refine ⟨_, he, ?_⟩
    clear he
    obtain ⟨a12, c12, rfl, hc12, hS12⟩ := Sl.own hc_length ho12 rfl
    repeat (first|refine cV rfl rfl rfl rfl (by first|((first|apply qmv|apply qxt)<;>(exact rfl))|fail) ?_)
    refine SG.alloc rfl rfl rfl (fun b12 w8 hk8 hb12 hB12 => ?_)
    refine SG.setAll (l := pc x.p (.slice a12 x.p.held.length c12)) rfl rfl (by exact rho_of rfl) (by exact rho_of rfl) hB12 (pc_length _ _) rfl (pc_one _ _ _ _) (fun w9 hk9 hB12 => ?_)
    have hB12 : Blk w9 b12 (.cells (pc x.p (.slice a12 x.p.held.length c12)).toArray 47) := hB12
    have k79 : Kp [] w7 w9 := hk8.trans_new hk9 (new1 (by omega))
    have k69 := hk7.trans k79
    have hS12 : Sl hc 11 w9 a12 x.p.held := hS12.kp0 k79
    have hR12 : Row w9 b12 0 (pc x.p (.slice a12 x.p.held.length c12)) := Row.all hB12 rfl
    have r1 := r1.kp0 k69
    have p1 := p1.kp0 k69
    have p2 := p2.kp0 k69
    have hrb := hrb.kp0 k69
    have ix := ix.kp0 k69
    have exx : x.peer = x.peer := rfl
    clear hB12 hk8 hk9 ho12 p3 hra
    repeat (first|apply cA|apply cD|apply cE|refine cV rfl rfl rfl rfl (by first|(apply qas<;>(exact rfl))|fail) ?_)
    refine CG.draw mixed [0, 1, 2, 3, 4, 5, 6, 7, 8, 9, 10, 11, 12, 13, 14, 15, 16, 18, 19, 20, 21, 22, 23, 17, 24, 25, 26] [17] [] [] (fun _ => True) (by kernel_rfl) (by simp) (by simp) trivial (fun _ _ _ h => h) (Or.inl rfl) ?_
    repeat (refine cY rfl rfl rfl (by first|((first|apply qnd|apply qmv|apply qlc|apply qla|apply qfa|apply qix|apply qpk|apply qnd|apply qnt)<;>(first|exact rfl|exact Ar.mk (by omega)|assumption|exact dct (by first|assumption|omega)|exact List.not_mem_nil|apply dc_length|apply pc_length|fail))|fail) ?_)
    refine Der.callG (X := Option Addr × Nat) (vs := [pv x.p (.slice a12 x.p.held.length c12)]) (fun q => pv x.p (.slice q.1 x.p.held.length q.2)) (fun q w' => Sl hc 11 w' q.1 x.p.held) rfl rfl rfl rfl (by repeat' (first | exact True.intro | exact rho_of rfl | refine And.intro ?_ ?_)) (fun q w w' hk h => h.kp0 hk) (fun _ _ _ h => h) (fun W hk _ => (bck_spec (c := c12) x.p (hS12.kp0 hk) (by omega)).mono (fun e w' hh => ?_)) (fun q => ?_)
    · obtain ⟨s', he, ho, hk'⟩ := hh
      obtain ⟨a', c', rfl, -, hS'⟩ := Sl.own hc_length ho rfl
      exact ⟨(a', c'), he, hS', hk'⟩
    obtain ⟨q1, q2⟩ := q
    refine Der.call rfl rfl rfl (vs := [pv x.p (.slice q1 x.p.held.length q2), pv x.p x.s]) (v := .bool true) (by repeat' (first | exact True.intro | exact rho_of rfl | refine And.intro ?_ ?_)) (fun W hk hF => by
      have := rsame_spec (c := q2) (d := x.c) x.p x.p (Pu.Ok.fit ox.p) (Pu.Ok.fit ox.p) hF.2 (ix.kp0 hk).sl (by omega)
      rwa [decide_eq_true rfl] at this) ?_
    repeat (refine cY rfl rfl rfl (by first|((first|apply qpk|apply qnt)<;>(exact rfl))|fail) ?_)
    refine Der.fin (fun w10 hk10 _ _ => ?_)
    repeat (first|apply cE)
    refine dB rfl (by exact rho_of rfl) rfl ?_
    repeat (first|apply cB|apply cD|apply cE|apply cF|apply cU|refine cV rfl rfl rfl rfl (by first|((first|apply qmv|apply qas|apply qad)<;>(first|exact rfl|exact Ar.mk (by omega)|fail))|fail) ?_)
    refine NG.round (i + 1) (by (repeat' (first | exact True.intro | exact rfl | refine And.intro ?_ ?_))) ⟨by omega, (hk6.trans k69).trans hk10⟩ (by omega)
  have g1 : ¬ (i : Int) < (L.length : Int) := by omega
  clear r1
  repeat (first|apply cA|apply cB|apply cD|apply cE|refine cV rfl rfl rfl rfl (by first|((first|apply qmv|apply qls|apply qln)<;>(first|exact rfl|exact dcf (by first|assumption|omega)|fail))|fail) ?_)
  refine dB rfl (by exact rho_of rfl) rfl ?_
  repeat (first|apply cA|apply cB|apply cD|apply cE|apply cG|apply cJ|apply cM|refine cN rfl ?_|refine cV rfl rfl rfl rfl (by first|(apply qas<;>(exact rfl))|fail) ?_)
  refine CG.loop (X := Nat) (fun i => [(3, .pointer (some ⟨b3, 0, none⟩)), (6, .slice a6 P.length c6), (14, .int .i64 (i : Int))])
    (fun i w' => i ≤ P.length ∧ Kp [] w6 w') (fun i => P.length - i) 0 ⟨Nat.zero_le _, Kp.refl _ _⟩ (by (repeat' (first | exact True.intro | exact rfl | refine And.intro ?_ ?_))) ?_
  rintro n w7 ⟨hn7, hk7⟩
  have k7 := k6.trans hk7
  have r2 := r2.kp0 hk7
  by_cases hlt : n < P.length
  · have g2 : (n : Int) < (P.length : Int) := by omega
    obtain ⟨ba, oa, rfl, hra⟩ := (sP.kp0 k7).at hlt
    obtain ⟨bb, ob, rfl, hrb⟩ := ((hS6.kp0 hk6).kp0 hk7).at hlt
    have fr := fP _ (List.getElem_mem hlt)
    generalize P[n] = r at hra hrb fr
    repeat (first|apply cA|apply cB|apply cD|apply cE|refine cV rfl rfl rfl rfl (by first|((first|apply qmv|apply qls|apply qln)<;>(first|exact rfl|exact dct (by first|assumption|omega)|fail))|fail) ?_)
    refine dA rfl (by exact rho_of rfl) rfl ?_
    repeat (first|apply cA|apply cB|apply cE|apply cF|apply cG|refine cV rfl rfl rfl rfl (by first|((first|apply qmv|apply qlc|apply qla|apply qfa|apply qix)<;>(first|exact rfl|exact Ar.mk (by omega)|assumption|exact List.not_mem_nil|apply prc_length|fail))|fail) ?_)
    refine SG.alloc rfl rfl rfl (fun b15 w8 hk8 hb15 hB15 => ?_)
    refine SG.setAll (l := prc r) rfl rfl (by exact rho_of rfl) (by exact rho_of rfl) hB15 (prc_length _) rfl (prc_one _) (fun w9 hk9 hB15 => ?_)
    have hB15 : Blk w9 b15 (.cells (prc r).toArray 102) := hB15
    have k79 : Kp [] w7 w9 := hk8.trans_new hk9 (new1 (by omega))
    obtain ⟨q1, q2, q3, q4, q5⟩ := prc_rows hB15
    have q0 := prc_row0 hB15
    have hrb := hrb.kp0 k79
    have err : r = r := rfl
    clear hra hB15 hk8 hk9 r2
    repeat (first|apply cA|apply cD|apply cE)
    refine CG.draw0 mixed [0, 1, 2, 3, 4, 5, 6, 7, 8, 9, 10, 11, 12, 13, 14, 15, 16, 17] [] (by kernel_rfl) ?_
    repeat (refine cY rfl rfl rfl (by first|((first|apply qmv|apply qlc|apply qla|apply qfa|apply qix)<;>(first|exact rfl|exact Ar.mk (by omega)|assumption|exact List.not_mem_nil|apply dc_length|apply prc_length|fail))|fail) ?_)
    refine cY rfl rfl rfl (vals_build rfl (bpr r)) ?_
    repeat (refine cY rfl rfl rfl (by first|(apply qn_pr<;>(first|exact rfl|assumption|exact dct (by first|assumption|omega)|fail))|fail) ?_)
    refine Der.fin (fun w10 hk10 _ _ => ?_)
    repeat (first|apply cE)
    refine dB rfl (by exact rho_of rfl) rfl ?_
    repeat (first|apply cB|apply cD|apply cE|apply cF|apply cU|refine cV rfl rfl rfl rfl (by first|((first|apply qmv|apply qas|apply qad)<;>(first|exact rfl|exact Ar.mk (by omega)|fail))|fail) ?_)
    refine NG.round (n + 1) (by (repeat' (first | exact True.intro | exact rfl | refine And.intro ?_ ?_))) ⟨by omega, (hk7.trans k79).trans hk10⟩ (by omega)
  have g2 : ¬ (n : Int) < (P.length : Int) := by omega
  repeat (first|apply cA|apply cB|apply cD|apply cE|refine cV rfl rfl rfl rfl (by first|((first|apply qmv|apply qls|apply qln)<;>(first|exact rfl|exact dcf (by first|assumption|omega)|fail))|fail) ?_)
  refine dB rfl (by exact rho_of rfl) rfl ?_
  repeat (first|apply cA|apply cB|apply cD|apply cE|apply cH|apply cJ|apply cM|refine cN rfl ?_|refine cV rfl rfl rfl rfl (by first|(apply qas<;>(exact rfl))|fail) ?_)
  refine ret1 (Or.inl rfl) Tryz.results13 (by first | exact ResV.tmp rfl | exact ResV.agg rfl rfl (by assumption) (by first | exact dc_length _ | exact nc_length _ | exact rc_length _ _ _ | exact ec_length _ | exact dl_length _ _ _ _ | rfl) | exact ResV.cell rfl rfl (by assumption)) ?_
  exact ⟨rfl, k7⟩
end Go.Proofs.YtajllbdeoopimaaGreat
namespace Go.Proofs.YtajllbdeoopimaaGreat
set_option linter.unusedVariables false
theorem rbhW (z : Int) (w : World) : (Instr.build 31 #[(0, .int .i64 z)]).run Tryz.prog w = .ok (dhv z (.slice none 0 0) (.slice none 0 0)) w := by kernel_rfl
def d255 : Dg := ⟨[255, 1, 2, 0, 0, 0, 0, 0], rfl⟩
theorem bd255 (w : World) : (Instr.build 44 #[(0, .int .u8 255), (1, .int .u8 1), (2, .int .u8 2)]).run Tryz.prog w = .ok (dv d255) w := by kernel_rfl
theorem bd255' (w : World) : (Instr.build 32 #[(0, .int .u8 255), (1, .int .u8 1), (2, .int .u8 2)]).run Tryz.prog w = .ok (dv d255) w := by kernel_rfl
theorem docE0 (w : World) (win : Int) : DocE w (dhv win (.slice none 0 0) (.slice none 0 0)) win ⟨[], []⟩ := ⟨[], [], none, none, 0, 0, rfl, Sl.nil, Nat.le_refl _, Sl.nil, Nat.le_refl _, fun x hx => (by cases hx), Or.inl ⟨rfl, rfl⟩, Or.inl ⟨rfl, rfl⟩, Srt.nil, Srt.nil, fun h => absurd rfl h, fun h => absurd rfl h⟩
theorem DocE.perm {w : World} {v : Value} {win : Int} {s : ST} {l' : Pl} (h : DocE w v win s) (hp : l'.Perm s.l) : DocE w v win ⟨l', s.m⟩ := by
  obtain ⟨L, P, aL, aP, cL, cP, h⟩ := h
  exact ⟨L, P, aL, aP, cL, cP, h.eq, h.sl, h.cl, h.sp, h.cp, h.inn, h.nL, h.nP, ⟨h.srL.perm.trans hp.symm, h.srL.lt⟩, h.srP, h.tyL, h.tyP⟩
theorem DocE.form {w : World} {v : Value} {win : Int} {s : ST} (h : DocE w v win s) : ∃ aL nL cL aP nP cP, v = dhv win (.slice aL nL cL) (.slice aP nP cP) := by
  obtain ⟨L, P, aL, aP, cL, cP, h⟩ := h
  exact ⟨aL, _, cL, aP, _, cP, h.eq⟩
theorem doG_len (s : ST) (x : HA) : (doG s x).length ≤ s.m.length := by
  unfold doG
  split
  · have h := expF_len x.now (srt (s.m.map (·.1))) (s, [])
    have e : (srt (s.m.map (·.1))).length = s.m.length := by rw [(srt_perm _).length_eq, List.length_map]
    rw [e] at h
    simp only [List.length_nil, Nat.zero_add] at h
    exact h
  · exact Nat.zero_le _
/-- What stands in the loop. -/
structure Py' where
  i : Nat
  bh : Nat
  bs : Nat
  bp : Nat
  s : ST
structure PyAt (w0 w : World) (b7 : Nat) (win : Int) (n : Nat) (x : Py') : Prop where
  i24 : x.i ≤ 24
  il : x.i ≤ n
  kp : Kp [] w0 w
  hub : HubE w x.bh x.bs x.bp win x.s
  gh : w0.heap.size ≤ x.bh
  gs : w0.heap.size ≤ x.bs
  gp : w0.heap.size ≤ x.bp
  inv : Inv win x.s
  ml : x.s.m.length ≤ x.i
  doc : ∃ aL nL cL aP nP cP, Blk w b7 (.cells (dhc win (.slice aL nL cL) (.slice aP nP cP)).toArray 31) ∧ DocE w (dhv win (.slice aL nL cL) (.slice aP nP cP)) win x.s
attribute [local irreducible] CG NG SG Vals Der Row Blk MapIs IterAt chkL DerX DerR
set_option maxHeartbeats 64000000 in
theorem plays_walk (w : World) (win : Int) (a : Option Addr) (n c : Nat) (l : List HA) (hl : l.length = n) (hS : Sl hac 40 w a l) (hin : ∀ x ∈ l, x.In w) (hbig : ∀ x ∈ l, x.p.held.length ≤ 4398046511104) (hn : n ≤ maxLen) : Ret Tryz.prog 3 #[.int .i64 win, .slice a n c] w (.bool true) := by
  subst hl
  refine enter2 Tryz.func3 rfl Tryz.ntmps3 rfl ?_
  have hmax : Ar (l.length ≤ 9223372036854775807) := ⟨hn⟩
  clear hn
  by_cases hbad : win < 1 ∨ 1048576 < win
  · repeat (first|apply cA|apply cB|apply cD|apply cE|refine cV rfl rfl rfl rfl (by first|((first|apply qmv|apply qas)<;>(exact rfl))|fail) ?_)
    refine SG.ret rfl rfl rfl (vs := [.int .i64 win]) (by repeat' (first | exact True.intro | exact rho_of rfl | refine And.intro ?_ ?_)) (new_bad win hbad w) (fun w1 hk1 => ?_)
    have e2 : (2 : Int) = 2 := rfl
    by_cases g1 : win < 1
    · repeat (first | first|apply cA|apply cB|apply cD|apply cE|refine cV rfl rfl rfl rfl (by first|((first|apply qmv|apply qas|apply qpk|apply qls|apply qxt)<;>(first|exact rfl|exact dct (by first|assumption|omega)|fail))|fail) ?_ | refine cX rfl rfl ?_)
      refine dA rfl (by exact rho_of rfl) rfl ?_
      repeat (first|apply cA|apply cB)
      refine SG.ret rfl rfl rfl (vs := []) (by repeat' (first | exact True.intro | exact rho_of rfl | refine And.intro ?_ ?_)) (known_spec w1) (fun w2 hk2 => ?_)
      repeat (first|apply cD|apply cE|apply cH|apply cK|refine cV rfl rfl rfl rfl (by first|((first|apply qei|apply qep|apply qmv|apply qas|apply qpk|apply qei|apply qep)<;>(first|exact rfl|exact dct (by first|assumption|omega)|fail))|fail) ?_)
      refine ret1 (Or.inl rfl) Tryz.results3 (by first | exact ResV.tmp rfl | exact ResV.agg rfl rfl (by assumption) (by first | exact dc_length _ | exact nc_length _ | exact rc_length _ _ _ | exact ec_length _ | exact dl_length _ _ _ _ | rfl) | exact ResV.cell rfl rfl (by assumption)) ?_
      exact ⟨rfl, hk1.trans hk2⟩
    · have g2 : 1048576 < win := hbad.resolve_left g1
      repeat (first|apply cA|apply cB|apply cD|apply cE|refine cV rfl rfl rfl rfl (by first|((first|apply qmv|apply qas|apply qpk|apply qls|apply qgt|apply qxt)<;>(first|exact rfl|exact dct (by first|assumption|omega)|exact dcf (by first|assumption|omega)|fail))|fail) ?_)
      refine dA rfl (by exact rho_of rfl) rfl ?_
      repeat (first|apply cA|apply cB)
      refine SG.ret rfl rfl rfl (vs := []) (by repeat' (first | exact True.intro | exact rho_of rfl | refine And.intro ?_ ?_)) (known_spec w1) (fun w2 hk2 => ?_)
      repeat (first|apply cD|apply cE|apply cH|apply cK|refine cV rfl rfl rfl rfl (by first|((first|apply qei|apply qep|apply qmv|apply qas|apply qpk|apply qei|apply qep)<;>(first|exact rfl|exact dct (by first|assumption|omega)|fail))|fail) ?_)
      refine ret1 (Or.inl rfl) Tryz.results3 (by first | exact ResV.tmp rfl | exact ResV.agg rfl rfl (by assumption) (by first | exact dc_length _ | exact nc_length _ | exact rc_length _ _ _ | exact ec_length _ | exact dl_length _ _ _ _ | rfl) | exact ResV.cell rfl rfl (by assumption)) ?_
      exact ⟨rfl, hk1.trans hk2⟩
  have g1 : ¬ win < 1 := fun h => hbad (Or.inl h)
  have g2 : ¬ 1048576 < win := fun h => hbad (Or.inr h)
  have hw : 0 ≤ win ∧ win ≤ 1048576 := by omega
  clear hbad
  repeat (first|apply cA|apply cB|apply cD|apply cE|refine cV rfl rfl rfl rfl (by first|((first|apply qmv|apply qas)<;>(exact rfl))|fail) ?_)
  refine SG.call rfl rfl rfl (vs := [.int .i64 win]) (by repeat' (first | exact True.intro | exact rho_of rfl | refine And.intro ?_ ?_)) ((new_spec win (by omega) (by omega) w).mono (fun e w1 hh => ?_))
  obtain ⟨bh, bs, bp, he, hk1, gh, gs, gp, hH1⟩ := hh
  refine ⟨_, he, ?_⟩
  clear he
  have e0 : (0 : Int) = 0 := rfl
  repeat (first|apply cA|apply cB|apply cD|apply cE|refine cV rfl rfl rfl rfl (by first|((first|apply qmv|apply qas|apply qpk|apply qls|apply qgt|apply qxt)<;>(first|exact rfl|exact dcf (by first|assumption|omega)|fail))|fail) ?_)
  refine dB rfl (by exact rho_of rfl) rfl ?_
  repeat (first|apply cA|apply cB|apply cD|apply cE|apply cF|refine cV rfl rfl rfl rfl (by first|((first|apply qni|apply qep|apply qmv|apply qpk|apply qni|apply qep)<;>(first|exact rfl|exact dct (by first|assumption|omega)|fail))|fail) ?_)
  refine dB rfl (by exact rho_of rfl) rfl ?_
  repeat (first|apply cA|apply cB|apply cE|apply cF|refine cV rfl rfl rfl rfl (by first|(apply qmv<;>(exact rfl))|fail) ?_)
  refine cV rfl rfl rfl rfl (vals_build rfl (rbhW win)) ?_
  refine SG.alloc rfl rfl rfl (fun b7 w2 hk2 hb7 hB7 => ?_)
  refine SG.setAll (l := dhc win (.slice none 0 0) (.slice none 0 0)) rfl rfl (by exact rho_of rfl) (by exact rho_of rfl) hB7 rfl rfl rfl (fun w3 hk3 hB7 => ?_)
  have hB7 : Blk w3 b7 (.cells (dhc win (.slice none 0 0) (.slice none 0 0)).toArray 31) := hB7
  have k13 : Kp [] w1 w3 := hk2.trans_new hk3 (new1 (by omega))
  have k3 := hk1.trans k13
  have hH3 := (hubE_new hH1).kp0 k13
  have s1 := hk1.size
  have l7 : w.heap.size ≤ b7 := by omega
  clear hk2 hk3 hH1
  repeat (first|apply cA|apply cB|apply cD|apply cE|apply cG|refine cV rfl rfl rfl rfl (by first|(apply qas<;>(exact rfl))|fail) ?_)
  refine CG.loop (X := Py') (fun x => [(1, .slice a l.length c), (5, .pointer (some ⟨x.bh, 0, none⟩)), (7, .pointer (some ⟨b7, 0, none⟩)), (8, .int .i64 (x.i : Int))])
    (fun x w' => PyAt w w' b7 win l.length x) (fun x => 24 - x.i) ⟨0, bh, bs, bp, ⟨[], []⟩⟩ ⟨Nat.zero_le _, Nat.zero_le _, k3, hH3, gh, gs, gp, inv0 win, Nat.zero_le _, none, 0, 0, none, 0, 0, hB7, docE0 w3 win⟩ (by (repeat' (first | exact True.intro | exact rfl | refine And.intro ?_ ?_))) ?_
  clear hH3 hB7 gh gs gp
  clear bh bs bp
  rintro ⟨i, bh, bs, bp, s⟩ w4 hX
  obtain ⟨i24, il, hk4, hH4, gh, gs, gp, hinv, hml, aL, nL, cL, aP, nP, cP, hB7, hD4⟩ := hX
  simp only at i24 il hH4 gh gs gp hinv hml hD4
  refine CG.to [(1, .slice a l.length c), (5, .pointer (some ⟨bh, 0, none⟩)), (7, .pointer (some ⟨b7, 0, none⟩)), (8, .int .i64 (i : Int))] (by (repeat' (first | exact True.intro | exact rfl | refine And.intro ?_ ?_))) ?_
  obtain ⟨lh, ls, lp⟩ := hH4.lts
  have hl16 := hinv.len
  by_cases hgo : i < l.length ∧ i < 24
  rotate_left
  · have hcase : ¬ (i : Int) < (l.length : Int) ∨ ((i : Int) < (l.length : Int) ∧ ¬ (i : Int) < 24) := by omega
    obtain ⟨L, P, aL', aP', cL', cP', hDL⟩ := id hD4
    have hRd : Row w4 b7 0 (dhc win (.slice aL nL cL) (.slice aP nP cP)) := Row.all hB7 rfl
    have e1 : (-1 : Int) < 0 := by decide
    have hLl := hDL.lenL
    rcases hcase with g3 | ⟨g3, g4⟩
    all_goals
      repeat (first | first|apply cA|apply cB|apply cD|apply cE|refine cV rfl rfl rfl rfl (by first|((first|apply qmv|apply qpk|apply qls|apply qln)<;>(first|exact rfl|exact dct (by first|assumption|omega)|exact dcf (by first|assumption|omega)|fail))|fail) ?_ | refine cX rfl rfl ?_)
      refine dB rfl (by exact rho_of rfl) rfl ?_
      repeat (first|apply cA|apply cB|apply cE|apply cJ|apply cM|refine cN rfl ?_|refine cV rfl rfl rfl rfl (by first|(apply qmv<;>(exact rfl))|fail) ?_)
      refine cV rfl rfl rfl rfl (vals_build rfl bd255) ?_
      cases hk : alook s.l d255 with
      | some y =>
        refine SG.call rfl rfl rfl (vs := [.pointer (some ⟨bh, 0, none⟩), dv d255]) (by repeat' (first | exact True.intro | exact rho_of rfl | refine And.intro ?_ ?_)) ((purse_e hH4 d255 hk).mono (fun e w5 hh => ?_))
        obtain ⟨v17, he, ⟨s17, rfl, ho17⟩, hk5⟩ := hh
        refine ⟨_, he, ?_⟩
        clear he
        obtain ⟨a17, c17, rfl, -, -⟩ := Sl.own hc_length ho17 rfl
        repeat (first|refine cV rfl rfl rfl rfl (by first|((first|apply qmv|apply qxt)<;>(exact rfl))|fail) ?_)
        refine SG.alloc rfl rfl rfl (fun b17 w6 hk6 hb17 hB17 => ?_)
        refine SG.setAll (l := pc y.1 (.slice a17 y.1.held.length c17)) rfl rfl (by exact rho_of rfl) (by exact rho_of rfl) hB17 (pc_length _ _) rfl (pc_one _ _ _ _) (fun w7 hk7 hB17 => ?_)
        have k57 : Kp [] w5 w7 := hk6.trans_new hk7 (new1 (by omega))
        repeat (first|apply cA|apply cB|apply cD|apply cE|refine cV rfl rfl rfl rfl (by first|(apply qas<;>(exact rfl))|fail) ?_)
        refine SG.ret rfl rfl rfl (vs := []) (by repeat' (first | exact True.intro | exact rho_of rfl | refine And.intro ?_ ?_)) (known_spec w7) (fun w8 hk8 => ?_)
        repeat (first | first|apply cD|apply cE|apply cH|refine cV rfl rfl rfl rfl (by first|((first|apply qmv|apply qas|apply qpk)<;>(exact rfl))|fail) ?_ | refine cX rfl rfl ?_)
        refine ret1 (Or.inl rfl) Tryz.results3 (by first | exact ResV.tmp rfl | exact ResV.agg rfl rfl (by assumption) (by first | exact dc_length _ | exact nc_length _ | exact rc_length _ _ _ | exact ec_length _ | exact dl_length _ _ _ _ | rfl) | exact ResV.cell rfl rfl (by assumption)) ?_
        exact ⟨rfl, ((hk4.trans hk5).trans k57).trans hk8⟩
      | none =>
        refine SG.ret rfl rfl rfl (vs := [.pointer (some ⟨bh, 0, none⟩), dv d255]) (by repeat' (first | exact True.intro | exact rho_of rfl | refine And.intro ?_ ?_)) (purse_e0 hH4 d255 hk) (fun w5 hk5 => ?_)
        repeat (first|refine cV rfl rfl rfl rfl (by first|((first|apply qmv|apply qxt)<;>(exact rfl))|fail) ?_)
        refine SG.alloc rfl rfl rfl (fun b17 w6 hk6 hb17 hB17 => ?_)
        refine SG.setAll (l := pc zPu (.slice none 0 0)) rfl rfl (by exact rho_of rfl) (by exact rho_of rfl) hB17 (pc_length _ _) rfl (pc_one _ _ _ _) (fun w7 hk7 hB17 => ?_)
        have k57 : Kp [] w5 w7 := hk6.trans_new hk7 (new1 (by omega))
        repeat (first|apply cA|apply cB|apply cD|apply cE|refine cV rfl rfl rfl rfl (by first|(apply qas<;>(exact rfl))|fail) ?_)
        refine SG.ret rfl rfl rfl (vs := []) (by repeat' (first | exact True.intro | exact rho_of rfl | refine And.intro ?_ ?_)) (known_spec w7) (fun w8 hk8 => ?_)
        have k48 := (hk5.trans k57).trans hk8
        have hRd := hRd.kp0 k48
        repeat (first|refine cV rfl rfl rfl rfl (by first|((first|apply qmv|apply qla)<;>(first|exact rfl|assumption|exact List.not_mem_nil))|fail) ?_)
        refine cV rfl rfl rfl rfl (vals_build rfl bd255') ?_
        refine SG.ret rfl rfl rfl (vs := [dhv win (.slice aL nL cL) (.slice aP nP cP), dv d255]) (v := .int .i64 (-1)) (by repeat' (first | exact True.intro | exact rho_of rfl | refine And.intro ?_ ?_)) (by
          have h1 := rfind_spec (win := win) (aP := aP') (cL := cL') (cP := cP') (P := P) d255 (hDL.sl.kp0 k48) (by omega)
          have h2 : idxZ (fun x => decide (x.peer = d255)) L = -1 := (idx_of hDL.srL d255).1 hk
          rw [h2, ← hDL.eq] at h1
          exact h1) (fun w9 hk9 => ?_)
        repeat (first|apply cD|apply cE|apply cH|refine cV rfl rfl rfl rfl (by first|((first|apply qas|apply qpk|apply qls)<;>(first|exact rfl|exact dct (by first|assumption|omega)|fail))|fail) ?_)
        refine ret1 (Or.inl rfl) Tryz.results3 (by first | exact ResV.tmp rfl | exact ResV.agg rfl rfl (by assumption) (by first | exact dc_length _ | exact nc_length _ | exact rc_length _ _ _ | exact ec_length _ | exact dl_length _ _ _ _ | rfl) | exact ResV.cell rfl rfl (by assumption)) ?_
        exact ⟨rfl, (hk4.trans k48).trans hk9⟩
  obtain ⟨hlt, h24⟩ := hgo
  have g3 : (i : Int) < (l.length : Int) := by omega
  have g4 : (i : Int) < 24 := by omega
  obtain ⟨ba, oa, rfl, hri⟩ := (hS.kp0 hk4).at hlt
  have hxin := (hin _ (List.getElem_mem hlt)).kp0 hk4
  have hxb := hbig _ (List.getElem_mem hlt)
  generalize l[i] = x at hri hxin hxb
  repeat (first|apply cA|apply cB|apply cD|apply cE|refine cV rfl rfl rfl rfl (by first|((first|apply qmv|apply qpk|apply qls|apply qln)<;>(first|exact rfl|exact dct (by first|assumption|omega)|fail))|fail) ?_)
  refine dA rfl (by exact rho_of rfl) rfl ?_
  repeat (first|apply cA|apply cB|apply cE|apply cF|apply cG|refine cV rfl rfl rfl rfl (by first|((first|apply qmv|apply qla|apply qix)<;>(first|exact rfl|exact Ar.mk (by omega)|assumption|exact List.not_mem_nil|apply hac_length|fail))|fail) ?_)
  refine SG.alloc rfl rfl rfl (fun b9 w5 hk5 hb9 hB9 => ?_)
  refine SG.setAll (l := hac x) rfl rfl (by exact rho_of rfl) (by exact rho_of rfl) hB9 (hac_length _) rfl (hac_one _) (fun w6 hk6 hB9 => ?_)
  have hB9 : Blk w6 b9 (.cells (hac x).toArray 38) := hB9
  have k46 : Kp [] w4 w6 := hk5.trans_new hk6 (new1 (by omega))
  have k6 := hk4.trans k46
  have hH6 := hH4.kp0 k46
  have hD6 := hD4.kp0 k46
  have hB7 := hB7.kp0 k46
  have hxin := hxin.kp0 k46
  have s46 := k46.size
  obtain ⟨r0, -⟩ := hac_rows hB9
  clear hri hk5 hk6
  by_cases e4 : x.kind = 4
  · repeat (first|apply cA|apply cB|apply cD|apply cE|refine cV rfl rfl rfl rfl (by first|((first|apply qei|apply qlc|apply qfa|apply qei)<;>(first|exact rfl|assumption|exact dct (by first|assumption|omega)|exact List.not_mem_nil|fail))|fail) ?_)
    refine dA rfl (by exact rho_of rfl) rfl ?_
    repeat (first|apply cA|apply cB|refine cV rfl rfl rfl rfl (by first|(apply qmv<;>(exact rfl))|fail) ?_)
    refine SG.call rfl rfl rfl (vs := [.pointer (some ⟨bh, 0, none⟩)]) (by repeat' (first | exact True.intro | exact rho_of rfl | refine And.intro ?_ ?_)) ((clone_e hH6 (by omega)).mono (fun e w7 hh => ?_))
    obtain ⟨ch, cs, cp, l', he, hk7, gch, gcs, gcp, hC7, hperm⟩ := hh
    refine ⟨_, he, ?_⟩
    clear he
    have i2 : Inv win (⟨l', s.m⟩ : ST) := hinv.perm hperm (List.Perm.refl _)
    have hH7 := hH6.kp0 hk7
    repeat (first|apply cA|apply cB|apply cD|apply cE|refine cV rfl rfl rfl rfl (by first|((first|apply qep|apply qmv|apply qas|apply qep)<;>(exact rfl))|fail) ?_)
    refine SG.ret rfl rfl rfl (vs := [.pointer (some ⟨ch, 0, none⟩), .pointer (some ⟨bh, 0, none⟩)]) (v := .bool true) (by repeat' (first | exact True.intro | exact rho_of rfl | refine And.intro ?_ ?_)) (by
      have := same_e hC7 hH7 i2 hinv hw
      rwa [sameB_t (s := ⟨l', s.m⟩) (t := s) hperm (List.Perm.refl _)] at this) (fun w8 hk8 => ?_)
    repeat (first|refine cV rfl rfl rfl rfl (by first|((first|apply qmv|apply qpk|apply qnt)<;>(exact rfl))|fail) ?_)
    refine SG.ret rfl rfl rfl (vs := [.pointer (some ⟨bh, 0, none⟩), .pointer (some ⟨ch, 0, none⟩)]) (v := .bool true) (by repeat' (first | exact True.intro | exact rho_of rfl | refine And.intro ?_ ?_)) (by
      have := same_e (hH7.kp0 hk8) (hC7.kp0 hk8) hinv i2 hw
      rwa [sameB_t (s := s) (t := ⟨l', s.m⟩) hperm.symm (List.Perm.refl _)] at this) (fun w9 hk9 => ?_)
    have k79 := hk8.trans hk9
    have k69 := hk7.trans k79
    have hH9 := hH7.kp0 k79
    have hC9 := hC7.kp0 k79
    have hD9 := (hD6.kp0 k69).perm hperm
    have hB7 := hB7.kp0 k69
    have hB9 := hB9.kp0 k69
    repeat (first|apply cD|apply cE|refine cV rfl rfl rfl rfl (by first|((first|apply qpk|apply qnt)<;>(exact rfl))|fail) ?_)
    refine dB rfl (by exact rho_of rfl) rfl ?_
    repeat (first|apply cA|apply cB|apply cE|apply cF|refine cV rfl rfl rfl rfl (by first|(apply qmv<;>(exact rfl))|fail) ?_)
    refine SG.call rfl rfl rfl (vs := [.pointer (some ⟨bh, 0, none⟩), .int .i64 1099511627776]) (by repeat' (first | exact True.intro | exact rho_of rfl | refine And.intro ?_ ?_)) ((expire_e hH9 hinv (by omega) 1099511627776).mono (fun e w10 hh => ?_))
    obtain ⟨v81, he, -, hk10, hH10⟩ := hh
    refine ⟨_, he, ?_⟩
    clear he
    generalize (expAll 1099511627776 s).1 = s2 at hH10
    have hC10 := hC9.oth hH9 hk10 (by omega) (by omega) (by omega) (by omega)
    have hD10 := hD9.hub hH9 hk10
    have hB7 := hH9.blk hB7 hk10
    have hB9 := hH9.blk hB9 hk10
    obtain ⟨-, -, r2, -, -, -, -, r28, -⟩ := hac_rows hB9
    have k10 : Kp [] w w10 := (k6.trans k69).trans_new hk10 (new2 (by omega) (by omega))
    have hx10 : Sl hc 11 w10 x.a x.p.held := hH9.slk ((hxin.kp0 k69).sl) hk10
    clear r0
    repeat (first|apply cA|apply cD|apply cE)
    refine CG.tailg mixed 6 [0, 1, 2, 3, 4, 5] [5] [] (fun _ => True) (by kernel_rfl) trivial (fun _ _ _ h => h) ?_
    repeat (refine cY rfl rfl rfl (by first|((first|apply qmv|apply qla|apply qfa)<;>(first|exact rfl|assumption|exact List.not_mem_nil|apply dc_length|apply pc_length))|fail) ?_)
    refine Der.callG (X := Option Addr × Nat) (vs := [pv x.p (.slice x.a x.p.held.length x.c)]) (fun q => pv x.p (.slice q.1 x.p.held.length q.2)) (fun q w' => x.p.held.length ≤ q.2 ∧ Sl hc 11 w' q.1 x.p.held) rfl rfl rfl rfl (by repeat' (first | exact True.intro | exact rho_of rfl | refine And.intro ?_ ?_)) (fun q w w' hk h => ⟨h.1, h.2.kp0 hk⟩) (fun _ _ _ h => h) (fun W hk _ => (own_spec (c := x.c) x.p (hx10.kp0 hk) hxb).mono (fun e w' hh => ?_)) (fun q => ?_)
    · obtain ⟨s', he, ho, hk'⟩ := hh
      obtain ⟨a', c', rfl, hc', hS'⟩ := Sl.own hc_length ho rfl
      exact ⟨(a', c'), he, ⟨hc', hS'⟩, hk'⟩
    obtain ⟨q1, q2⟩ := q
    refine Der.tl (fun w11 hk11 hF _ => ?_)
    obtain ⟨-, hq2, hSq⟩ := hF
    have hH11 := hH10.kp0 hk11
    refine SG.call rfl rfl rfl (vs := [.pointer (some ⟨bh, 0, none⟩), dv x.frm, pv x.p (.slice q1 x.p.held.length q2), .int .i64 1]) (by repeat' (first | exact True.intro | exact rho_of rfl | refine And.intro ?_ ?_)) ((open_e hH11 x.frm x.p 1 hSq hxb hq2).mono (fun e w12 hh => ?_))
    obtain ⟨he, hk12, -⟩ := hh
    refine ⟨_, he, ?_⟩
    clear he
    have hC12 := (hC10.kp0 hk11).oth hH11 hk12 (by omega) (by omega) (by omega) (by omega)
    have hD12 := (hD10.kp0 hk11).hub hH11 hk12
    have hB7 := hH11.blk (hB7.kp0 hk11) hk12
    have k12 : Kp [] w w12 := (k10.trans hk11).trans_new hk12 (new2 (by omega) (by omega))
    repeat (first|apply cA|apply cB|apply cD|apply cE|apply cJ|apply cM|refine cN rfl ?_|refine cV rfl rfl rfl rfl (by first|((first|apply qmv|apply qas|apply qad)<;>(first|exact rfl|exact Ar.mk (by omega)|fail))|fail) ?_)
    refine NG.round ⟨i + 1, ch, cs, cp, ⟨l', s.m⟩⟩ (by (repeat' (first | exact True.intro | exact rfl | refine And.intro ?_ ?_))) ⟨by show i + 1 ≤ 24; omega, hlt, k12, hC12, by show w.heap.size ≤ ch; have := k6.size; omega, by show w.heap.size ≤ cs; have := k6.size; omega, by show w.heap.size ≤ cp; have := k6.size; omega, i2, by show s.m.length ≤ i + 1; omega, aL, nL, cL, aP, nP, cP, hB7, hD12⟩ (by show 24 - (i + 1) < 24 - i; omega)
  have dl := do_len win s x
  have d1 := (do_inv hinv hw.1 x).1
  have gl := doG_len s x
  have hR7 : Row w6 b7 0 (dhc win (.slice aL nL cL) (.slice aP nP cP)) := Row.all hB7 rfl
  have hR9 : Row w6 b9 0 (hac x) := Row.all hB9 rfl
  repeat (first|apply cA|apply cB|apply cD|apply cE|refine cV rfl rfl rfl rfl (by first|((first|apply qei|apply qlc|apply qfa|apply qei)<;>(first|exact rfl|assumption|exact dcf (by first|assumption|omega)|exact List.not_mem_nil|fail))|fail) ?_)
  refine dB rfl (by exact rho_of rfl) rfl ?_
  repeat (first|apply cA|apply cB|apply cE|apply cF|refine cV rfl rfl rfl rfl (by first|(apply qla<;>(first|exact rfl|assumption|exact List.not_mem_nil|apply hac_length))|fail) ?_)
  refine SG.call rfl rfl rfl (vs := [dhv win (.slice aL nL cL) (.slice aP nP cP), hav x]) (by repeat' (first | exact True.intro | exact rho_of rfl | refine And.intro ?_ ?_)) ((rstep_e hD6 hinv (by omega) hw x hxin).mono (fun e w7 hh => ?_))
  obtain ⟨v', vg, he, hk7, hD7, hog⟩ := hh
  refine ⟨_, he, ?_⟩
  clear he r0
  obtain ⟨aL2, nL2, cL2, aP2, nP2, cP2, rfl⟩ := hD7.form
  obtain ⟨ag, cg, rfl, -, -⟩ := Sl.own dc_length hog rfl
  repeat (first|refine cV rfl rfl rfl rfl (by first|((first|apply qmv|apply qxt)<;>(exact rfl))|fail) ?_)
  refine SG.alloc rfl rfl rfl (fun b11 w8 hk8 hb11 hB11 => ?_)
  refine SG.setAll (l := dhc win (.slice aL2 nL2 cL2) (.slice aP2 nP2 cP2)) rfl rfl (by exact rho_of rfl) (by exact rho_of rfl) hB11 rfl rfl rfl (fun w9 hk9 hB11 => ?_)
  have hB11 : Blk w9 b11 (.cells (dhc win (.slice aL2 nL2 cL2) (.slice aP2 nP2 cP2)).toArray 31) := hB11
  have k79 : Kp [] w7 w9 := hk8.trans_new hk9 (new1 (by omega))
  have k69 := hk7.trans k79
  have hH9 := hH6.kp0 k69
  have hD9 := hD7.kp0 k79
  have hog := own_kp0 hog k79
  have hB7 := hB7.kp0 k69
  have hR9 := hR9.kp0 k69
  have hx9 := hxin.kp0 k69
  have k9 := k6.trans k69
  clear hk8 hk9 hR7
  repeat (first|apply cA|apply cB|apply cD|apply cE|refine cV rfl rfl rfl rfl (by first|((first|apply qmv|apply qas|apply qla)<;>(first|exact rfl|assumption|exact List.not_mem_nil|apply hac_length))|fail) ?_)
  refine SG.call rfl rfl rfl (vs := [.pointer (some ⟨bh, 0, none⟩), hav x]) (by repeat' (first | exact True.intro | exact rho_of rfl | refine And.intro ?_ ?_)) ((do_e hH9 hinv (by omega) hw x hx9).mono (fun e w10 hh => ?_))
  obtain ⟨vl, he, hol, hk10, hH10⟩ := hh
  refine ⟨_, he, ?_⟩
  clear he hR9
  obtain ⟨al, cl, rfl, -, -⟩ := Sl.own dc_length hol rfl
  have hD10 := hD9.hub hH9 hk10
  have hB7 := hH9.blk hB7 hk10
  have hB11 := hH9.blk hB11 hk10
  have hog := hH9.own hog hk10
  have k10 : Kp [] w w10 := k9.trans_new hk10 (new2 (by omega) (by omega))
  have hR11 : Row w10 b11 0 (dhc win (.slice aL2 nL2 cL2) (.slice aP2 nP2 cP2)) := Row.all hB11 rfl
  generalize doE win s x = z
  generalize doG s x = gn at gl hog hol
  generalize doS win s x = s' at dl d1 hD10 hH10 hD7 hD9
  repeat (first|apply cA|apply cB|apply cD|apply cE|refine cV rfl rfl rfl rfl (by first|((first|apply qmv|apply qas|apply qla|apply qxt)<;>(first|exact rfl|assumption|exact List.not_mem_nil))|fail) ?_)
  refine SG.setAll (l := dhc win (.slice aL2 nL2 cL2) (.slice aP2 nP2 cP2)) rfl rfl (by exact rho_of rfl) (by exact rho_of rfl) hB7 rfl rfl rfl (fun w11 hk11 hB7z => ?_)
  have hB7z : Blk w11 b7 (.cells (dhc win (.slice aL2 nL2 cL2) (.slice aP2 nP2 cP2)).toArray 31) := hB7z
  have hH11 := hH10.cells hk11 hB7 (by decide) (by decide)
  have hD11 := hD10.kp hk11 hB7 (by decide) (by decide) (by decide)
  have k11 : Kp [] w w11 := k10.trans_new hk11 (new1 l7)
  have hog := own_kp hog hk11 (own_neb hog (by decide) hB7)
  have hol := own_kp hol hk11 (own_neb hol (by decide) hB7)
  obtain ⟨ag', cg', hvg, -, hSg⟩ := Sl.own dc_length hog rfl
  obtain ⟨al', cl', hvl, -, hSl⟩ := Sl.own dc_length hol rfl
  simp only [Value.slice.injEq, true_and] at hvg hvl
  obtain ⟨rfl, rfl⟩ := hvg
  obtain ⟨rfl, rfl⟩ := hvl
  have hR7 : Row w11 b7 0 (dhc win (.slice aL2 nL2 cL2) (.slice aP2 nP2 cP2)) := Row.all hB7z rfl
  have ez : z = z := rfl
  have eg : (gn.length : Int) = (gn.length : Int) := rfl
  clear hR11 hog hol hH9 hD9 hD7 hH10 hD10 hH6 hD6
  repeat (first|apply cA|apply cB|apply cD|apply cE|refine cV rfl rfl rfl rfl (by first|((first|apply qni|apply qmv|apply qla|apply qpk|apply qni|apply qln)<;>(first|exact rfl|assumption|exact dct (by first|assumption|omega)|exact List.not_mem_nil|fail))|fail) ?_)
  refine SG.ret rfl rfl rfl (vs := [.pointer (some ⟨bh, 0, none⟩), dhv win (.slice aL2 nL2 cL2) (.slice aP2 nP2 cP2)]) (v := .bool true) (by repeat' (first | exact True.intro | exact rho_of rfl | refine And.intro ?_ ?_)) (alike_e hH11 hD11 d1 hw (by omega)) (fun w12 hk12 => ?_)
  have k12 := k11.trans hk12
  have hH12 := hH11.kp0 hk12
  have hD12 := hD11.kp0 hk12
  have hB12 := hB7z.kp0 hk12
  have hSg := hSg.kp0 hk12
  have hSl := hSl.kp0 hk12
  clear hR7 hB7 hB7z hB11 hB9 hH11 hD11
  repeat (first|apply cD|apply cE|refine cV rfl rfl rfl rfl (by first|((first|apply qpk|apply qnt)<;>(exact rfl))|fail) ?_)
  refine dB rfl (by exact rho_of rfl) rfl ?_
  repeat (first|apply cA|apply cB|apply cD|apply cE|apply cF|apply cG|refine cV rfl rfl rfl rfl (by first|(apply qas<;>(exact rfl))|fail) ?_)
  refine CG.loop (X := Nat) (fun k => [(1, .slice (some ⟨ba, oa, none⟩) l.length c), (5, .pointer (some ⟨bh, 0, none⟩)), (7, .pointer (some ⟨b7, 0, none⟩)), (8, .int .i64 (i : Int)), (13, .slice ag gn.length cg), (15, .slice al gn.length cl), (16, .int .i64 (k : Int))])
    (fun k w' => k ≤ gn.length ∧ Kp [] w12 w') (fun k => gn.length - k) 0 ⟨Nat.zero_le _, Kp.refl _ _⟩ (by (repeat' (first | exact True.intro | exact rfl | refine And.intro ?_ ?_))) ?_
  rintro k w13 ⟨hk13a, hk13⟩
  by_cases hlt2 : k < gn.length
  · have g5 : (k : Int) < (gn.length : Int) := by omega
    obtain ⟨bg, og, rfl, hrg⟩ := (hSg.kp0 hk13).at hlt2
    obtain ⟨bl, ol, rfl, hrl⟩ := (hSl.kp0 hk13).at hlt2
    generalize gn[k] = d at hrg hrl
    have ed : d = d := rfl
    repeat (first|apply cA|apply cB|apply cD|apply cE|refine cV rfl rfl rfl rfl (by first|((first|apply qmv|apply qls|apply qln)<;>(first|exact rfl|exact dct (by first|assumption|omega)|fail))|fail) ?_)
    refine dA rfl (by exact rho_of rfl) rfl ?_
    repeat (first|apply cA|apply cE|apply cF|apply cG)
    refine CG.draw0 mixed [0, 1, 2, 3, 4, 5, 6, 7, 8] [] (by kernel_rfl) ?_
    repeat (refine cY rfl rfl rfl (by first|((first|apply qnd|apply qmv|apply qla|apply qix|apply qnd)<;>(first|exact rfl|exact Ar.mk (by omega)|assumption|exact dct (by first|assumption|omega)|exact List.not_mem_nil|apply dc_length|fail))|fail) ?_)
    refine Der.fin (fun w14 hk14 _ _ => ?_)
    repeat (first|apply cE)
    refine dB rfl (by exact rho_of rfl) rfl ?_
    repeat (first|apply cB|apply cD|apply cE|apply cF|apply cU|refine cV rfl rfl rfl rfl (by first|((first|apply qmv|apply qas|apply qad)<;>(first|exact rfl|exact Ar.mk (by omega)|fail))|fail) ?_)
    refine NG.round (k + 1) (by (repeat' (first | exact True.intro | exact rfl | refine And.intro ?_ ?_))) ⟨by omega, hk13.trans hk14⟩ (by omega)
  have g5 : ¬ (k : Int) < (gn.length : Int) := by omega
  repeat (first|apply cA|apply cB|apply cD|apply cE|refine cV rfl rfl rfl rfl (by first|((first|apply qmv|apply qls|apply qln)<;>(first|exact rfl|exact dcf (by first|assumption|omega)|fail))|fail) ?_)
  refine dB rfl (by exact rho_of rfl) rfl ?_
  repeat (first|apply cB|apply cD|apply cE|apply cJ|apply cM|refine cN rfl ?_|apply cU|refine cV rfl rfl rfl rfl (by first|((first|apply qmv|apply qas|apply qad)<;>(first|exact rfl|exact Ar.mk (by omega)|fail))|fail) ?_)
  refine NG.round ⟨i + 1, bh, bs, bp, s'⟩ (by (repeat' (first | exact True.intro | exact rfl | refine And.intro ?_ ?_))) ⟨by show i + 1 ≤ 24; omega, hlt, k12.trans hk13, hH12.kp0 hk13, gh, gs, gp, d1, by show s'.m.length ≤ i + 1; omega, aL2, nL2, cL2, aP2, nP2, cP2, hB12.kp0 hk13, hD12.kp0 hk13⟩ (by show 24 - (i + 1) < 24 - i; omega)
end Go.Proofs.YtajllbdeoopimaaGreat
namespace Go.Proofs.YtajllbdeoopimaaGreat
open Go.ChangeShapes Go.WideShapes Go.ChangeAt Go.RowKit
set_option linter.unusedVariables false
theorem cellsE : Tryz.prog.cellsOf 32 = 8 := by kernel_rfl
theorem cellsH : Tryz.prog.cellsOf 84 = 11 := by kernel_rfl
theorem cellsS : Tryz.prog.cellsOf 34 = 1 := by kernel_rfl
theorem cellsZ : Tryz.prog.cellsOf 33 = 2 := by kernel_rfl
theorem cellsP : Tryz.prog.cellsOf 36 = 12 := by kernel_rfl
theorem cellsA : Tryz.prog.cellsOf 38 = 40 := by kernel_rfl
theorem fit_of {n : Int} (h : (Lit.int .i64 n).wf = true) : fitZ n := i64_of h
/-- The elements of a slice, by how one is read. -/
theorem elems_of {H α : Type} {en : TypeId × Value → H} {P : Program} {w : World} {e : TypeId} {a : Option Addr} {n : Nat} (enc : α → List Value) (p : α → Prop) (h : SlOf en P w e a n)
    (rd : ∀ cs fuel y, DataW.trod en P w 0 (fun _ => true) true fuel e cs = some y → ∃ x : α, cs = enc x ∧ p x) : ∃ l : List α, l.length = n ∧ Sl enc (P.cellsOf e) w a l ∧ ∀ x ∈ l, p x := by
  have key : ∀ i : _root_.Fin n, ∃ x : α, (∃ b off, a = some ⟨b, off, none⟩ ∧ Row w b (off + i.1 * P.cellsOf e) (enc x)) ∧ p x := by
    intro i
    obtain ⟨b, off, cs, fuel, y, h1, h2, h3, h4⟩ := h.row i.1 i.2
    obtain ⟨x, rfl, hp⟩ := rd cs fuel y h4
    exact ⟨x, ⟨b, off, h1, h2⟩, hp⟩
  refine ⟨List.ofFn (fun i => Classical.choose (key i)), by simp, fun i x hx => ?_, fun x hx => ?_⟩
  · rw [List.getElem?_ofFn] at hx
    split at hx
    · rename_i hi
      cases hx
      exact (Classical.choose_spec (key ⟨i, hi⟩)).1
    · cases hx
  · obtain ⟨i, rfl⟩ := List.mem_ofFn.1 hx
    exact (Classical.choose_spec (key i)).2
theorem cut_drop {α : Type} (l : List α) (a n : Nat) : l.drop a = (l.drop a).take n ++ l.drop (a + n) := by
  rw [← List.drop_drop, List.take_append_drop]
theorem sl_cell {H : Type} {enc : TypeId × Value → H} {P : Program} {w : World} {t e : TypeId} {cs : List Value} {fuel : Nat} {y : DataW H × List MemPlace} (ht : P.underlying t = some (.slice e)) (he : 0 < P.cellsOf e)
    (hf : DataW.trod enc P w 0 (fun _ => true) true fuel t cs = some y) : ∃ a n c, cs = [.slice a n c] ∧ n ≤ c ∧ c ≤ maxLen ∧ SlOf enc P w e a n := by
  rcases Go.Deep.open_slice ht hf with ⟨hc, _⟩ | ⟨a, len, cap, m, n, D, Pl, hc, _, hl, hm, hmm, _, hall⟩
  · exact ⟨none, 0, 0, hc, by omega, by omega, ⟨fun i hi => by omega⟩⟩
  · subst hc
    have hmc : m = cap := by rw [hmm]; simp
    refine ⟨some a, len, cap, rfl, hl, hm, ⟨fun i hi => ?_⟩⟩
    obtain ⟨cs0, h10, _⟩ := hall 0 (by omega)
    obtain ⟨b, off, ha, _, _⟩ := row_of_cells h10 he
    have ha' : a = ⟨b, off, none⟩ := by simpa [Addr.add] using ha
    subst ha'
    obtain ⟨cs, h1, h2⟩ := hall i (by omega)
    rw [add_none] at h1
    obtain ⟨b2, off2, hb2, hr, hlen⟩ := row_of_cells h1 he
    cases hb2
    exact ⟨b, off, cs, n, _, rfl, hr, hlen, h2⟩
set_option maxRecDepth 100000 in
theorem hdc_of {H : Type} {enc : TypeId × Value → H} {w : World} {cs : List Value} {fuel : Nat} {y : DataW H × List MemPlace} (h : DataW.trod enc Tryz.prog w 0 (fun _ => true) true fuel 84 cs = some y) : ∃ o : Hd, cs = hc o := by
  obtain ⟨xs, m, _, _, hl, hlen, hf⟩ := DataW.trod_struct Tryz.underlying84 h
  rw [cellsH] at hl
  match xs, hlen with
  | [y0, y1, y2, y3], _ =>
    have h0 : DataW.trod enc Tryz.prog w 0 (fun _ => true) true m 32 ((cs.drop 0).take (Tryz.prog.cellsOf 32)) = some y0 := hf 0 _ rfl
    have h1 : DataW.trod enc Tryz.prog w 0 (fun _ => true) true m 3 ((cs.drop 8).take (Tryz.prog.cellsOf 3)) = some y1 := hf 1 _ rfl
    have h2 : DataW.trod enc Tryz.prog w 0 (fun _ => true) true m 3 ((cs.drop 9).take (Tryz.prog.cellsOf 3)) = some y2 := hf 2 _ rfl
    have h3 : DataW.trod enc Tryz.prog w 0 (fun _ => true) true m 3 ((cs.drop 10).take (Tryz.prog.cellsOf 3)) = some y3 := hf 3 _ rfl
    rw [cellsE] at h0
    rw [cells3] at h1 h2 h3
    obtain ⟨d0, e0⟩ := arr_bytes Tryz.underlying32 Tryz.underlying5 cells5 cellsE h0
    obtain ⟨n1, e1, _, _⟩ := DataW.trod_int Tryz.underlying3 h1
    obtain ⟨n2, e2, _, _⟩ := DataW.trod_int Tryz.underlying3 h2
    obtain ⟨n3, e3, _, _⟩ := DataW.trod_int Tryz.underlying3 h3
    refine ⟨⟨d0, n1, n2, n3⟩, ?_⟩
    have hd : cs.drop (10 + 1) = [] := List.drop_of_length_le (by omega)
    have e : cs = cs.drop 0 := rfl
    rw [e, cut_drop cs 0 8, e0, cut_drop cs (0 + 8) 1, e1, cut_drop cs (0 + 8 + 1) 1, e2, cut_drop cs (0 + 8 + 1 + 1) 1, e3, hd]
    rfl
theorem hds_of {H : Type} {enc : TypeId × Value → H} {w : World} {a : Option Addr} {n : Nat} (h : SlOf enc Tryz.prog w 84 a n) : ∃ l : List Hd, l.length = n ∧ Sl hc 11 w a l := by
  obtain ⟨l, h1, h2, h3⟩ := elems_of hc (fun _ => True) h (fun cs fuel y hy => by
    obtain ⟨o, e⟩ := hdc_of hy
    exact ⟨o, e, trivial⟩)
  rw [cellsH] at h2
  exact ⟨l, h1, h2⟩
set_option maxRecDepth 100000 in
theorem z2_of {H : Type} {enc : TypeId × Value → H} {w : World} {cs : List Value} {fuel : Nat} {y : DataW H × List MemPlace} (h : DataW.trod enc Tryz.prog w 0 (fun _ => true) true fuel 33 cs = some y) : ∃ p q : Int, cs = [.int .i64 p, .int .i64 q] ∧ fitZ p ∧ fitZ q := by
  obtain ⟨xs, m, _, _, hl, hxl, hat⟩ := DataW.trod_array Tryz.underlying33 h
  rw [cellsZ] at hl
  match cs, hl with
  | [c0, c1], _ =>
    have h0 := hat 0 (by omega)
    have h1 := hat 1 (by omega)
    rw [cells3] at h0 h1
    rw [List.getElem?_eq_getElem (by omega)] at h0 h1
    obtain ⟨n0, e0, _, w0⟩ := DataW.trod_int Tryz.underlying3 h0
    obtain ⟨n1, e1, _, w1⟩ := DataW.trod_int Tryz.underlying3 h1
    simp at e0 e1
    exact ⟨n0, n1, by rw [e0, e1], fit_of w0, fit_of w1⟩
set_option maxRecDepth 100000 in
theorem pur_of {H : Type} {enc : TypeId × Value → H} {w : World} {cs : List Value} {fuel : Nat} {y : DataW H × List MemPlace} (h : DataW.trod enc Tryz.prog w 0 (fun _ => true) true fuel 36 cs = some y) : ∃ (p : Pu) (a : Option Addr) (c : Nat), cs = pc p (.slice a p.held.length c) ∧ Sl hc 11 w a p.held ∧ p.held.length ≤ c ∧ c ≤ maxLen ∧ fitZ p.h0 ∧ fitZ p.h1 := by
  obtain ⟨xs, m, _, _, hl, hlen, hf⟩ := DataW.trod_struct Tryz.underlying36 h
  rw [cellsP] at hl
  match xs, hlen with
  | [y0, y1, y2, y3], _ =>
    have h0 : DataW.trod enc Tryz.prog w 0 (fun _ => true) true m 32 ((cs.drop 0).take (Tryz.prog.cellsOf 32)) = some y0 := hf 0 _ rfl
    have h1 : DataW.trod enc Tryz.prog w 0 (fun _ => true) true m 3 ((cs.drop 8).take (Tryz.prog.cellsOf 3)) = some y1 := hf 1 _ rfl
    have h2 : DataW.trod enc Tryz.prog w 0 (fun _ => true) true m 33 ((cs.drop 9).take (Tryz.prog.cellsOf 33)) = some y2 := hf 2 _ rfl
    have h3 : DataW.trod enc Tryz.prog w 0 (fun _ => true) true m 34 ((cs.drop 11).take (Tryz.prog.cellsOf 34)) = some y3 := hf 3 _ rfl
    rw [cellsE] at h0
    rw [cells3] at h1
    rw [cellsZ] at h2
    rw [cellsS] at h3
    obtain ⟨d0, e0⟩ := arr_bytes Tryz.underlying32 Tryz.underlying5 cells5 cellsE h0
    obtain ⟨n1, e1, _, _⟩ := DataW.trod_int Tryz.underlying3 h1
    obtain ⟨x, z, e2, f1, f2⟩ := z2_of h2
    obtain ⟨a, n, c, e3, hn, hc', hs⟩ := sl_cell Tryz.underlying34 (by rw [cellsH]; omega) h3
    obtain ⟨l, hll, hS⟩ := hds_of hs
    subst hll
    refine ⟨⟨d0, n1, x, z, l⟩, a, c, ?_, hS, hn, hc', f1, f2⟩
    have hd : cs.drop (11 + 1) = [] := List.drop_of_length_le (by omega)
    have e : cs = cs.drop 0 := rfl
    rw [e, cut_drop cs 0 8, e0, cut_drop cs (0 + 8) 1, e1, cut_drop cs (0 + 8 + 1) 2, e2, cut_drop cs (0 + 8 + 1 + 2) 1, e3, hd]
    rfl
set_option maxRecDepth 100000 in
theorem hac_of {H : Type} {enc : TypeId × Value → H} {w : World} {cs : List Value} {fuel : Nat} {y : DataW H × List MemPlace} (h : DataW.trod enc Tryz.prog w 0 (fun _ => true) true fuel 38 cs = some y) : ∃ x : HA, cs = hac x ∧ x.In w := by
  obtain ⟨xs, m, _, _, hl, hlen, hf⟩ := DataW.trod_struct Tryz.underlying38 h
  rw [cellsA] at hl
  match xs, hlen with
  | [y0, y1, y2, y3, y4, y5, y6, y7], _ =>
    have h0 : DataW.trod enc Tryz.prog w 0 (fun _ => true) true m 3 ((cs.drop 0).take (Tryz.prog.cellsOf 3)) = some y0 := hf 0 _ rfl
    have h1 : DataW.trod enc Tryz.prog w 0 (fun _ => true) true m 3 ((cs.drop 1).take (Tryz.prog.cellsOf 3)) = some y1 := hf 1 _ rfl
    have h2 : DataW.trod enc Tryz.prog w 0 (fun _ => true) true m 32 ((cs.drop 2).take (Tryz.prog.cellsOf 32)) = some y2 := hf 2 _ rfl
    have h3 : DataW.trod enc Tryz.prog w 0 (fun _ => true) true m 32 ((cs.drop 10).take (Tryz.prog.cellsOf 32)) = some y3 := hf 3 _ rfl
    have h4 : DataW.trod enc Tryz.prog w 0 (fun _ => true) true m 32 ((cs.drop 18).take (Tryz.prog.cellsOf 32)) = some y4 := hf 4 _ rfl
    have h5 : DataW.trod enc Tryz.prog w 0 (fun _ => true) true m 3 ((cs.drop 26).take (Tryz.prog.cellsOf 3)) = some y5 := hf 5 _ rfl
    have h6 : DataW.trod enc Tryz.prog w 0 (fun _ => true) true m 3 ((cs.drop 27).take (Tryz.prog.cellsOf 3)) = some y6 := hf 6 _ rfl
    have h7 : DataW.trod enc Tryz.prog w 0 (fun _ => true) true m 36 ((cs.drop 28).take (Tryz.prog.cellsOf 36)) = some y7 := hf 7 _ rfl
    rw [cellsE] at h2 h3 h4
    rw [cells3] at h0 h1 h5 h6
    rw [cellsP] at h7
    obtain ⟨n0, e0, _, w0⟩ := DataW.trod_int Tryz.underlying3 h0
    obtain ⟨n1, e1, _, w1⟩ := DataW.trod_int Tryz.underlying3 h1
    obtain ⟨d2, e2⟩ := arr_bytes Tryz.underlying32 Tryz.underlying5 cells5 cellsE h2
    obtain ⟨d3, e3⟩ := arr_bytes Tryz.underlying32 Tryz.underlying5 cells5 cellsE h3
    obtain ⟨d4, e4⟩ := arr_bytes Tryz.underlying32 Tryz.underlying5 cells5 cellsE h4
    obtain ⟨n5, e5, _, w5⟩ := DataW.trod_int Tryz.underlying3 h5
    obtain ⟨n6, e6, _, w6⟩ := DataW.trod_int Tryz.underlying3 h6
    obtain ⟨p, a, c, e7, hS, hn, hc', f1, f2⟩ := pur_of h7
    refine ⟨⟨n0, n1, d2, d3, d4, n5, n6, p, a, c⟩, ?_, ⟨hS, hn, Nat.le_trans hc' (Nat.le_of_eq rfl), fit_of w0, fit_of w1, fit_of w5, fit_of w6, f1, f2⟩⟩
    have hd : cs.drop (28 + 12) = [] := List.drop_of_length_le (by omega)
    have e : cs = cs.drop 0 := rfl
    rw [e, cut_drop cs 0 1, e0, cut_drop cs (0 + 1) 1, e1, cut_drop cs (0 + 1 + 1) 8, e2, cut_drop cs (0 + 1 + 1 + 8) 8, e3, cut_drop cs (0 + 1 + 1 + 8 + 8) 8, e4, cut_drop cs (0 + 1 + 1 + 8 + 8 + 8) 1, e5, cut_drop cs (0 + 1 + 1 + 8 + 8 + 8 + 1) 1, e6, cut_drop cs (0 + 1 + 1 + 8 + 8 + 8 + 1 + 1) 12, e7, hd]
    simp [hac, HA.s]
end Go.Proofs.YtajllbdeoopimaaGreat
namespace Go.Proofs.YtajllbdeoopimaaGreat
open Go.ChangeShapes Go.WideShapes Go.ChangeAt Go.RowKit
set_option linter.unusedVariables false
theorem wall_mem {H : Type} {P : Program} {e : TypeId} : ∀ {l : List (DataW H)} {d : DataW H}, d ∈ l → ∀ n ∈ d.weights P e, n ∈ DataW.weightsAll P e l
  | x :: l, d, hd, n, hn => by
    simp only [DataW.weightsAll, List.mem_append]
    rcases List.mem_cons.1 hd with rfl | h
    · exact Or.inl hn
    · exact Or.inr (wall_mem h n hn)
/-- A slice that comes, of a weight. -/
structure SlW {H : Type} (enc : TypeId × Value → H) (P : Program) (w : World) (e : TypeId) (a : Option Addr) (n B : Nat) : Prop where
  row : ∀ i, i < n → ∃ b off cs fuel y, a = some ⟨b, off, none⟩ ∧ Row w b (off + i * P.cellsOf e) cs ∧ DataW.trod enc P w 0 (fun _ => true) true fuel e cs = some y ∧ ∀ k ∈ y.1.weights P e, k ≤ B
theorem sl_cellW {H : Type} {enc : TypeId × Value → H} {P : Program} {w : World} {t e : TypeId} {cs : List Value} {fuel B : Nat} {y : DataW H × List MemPlace} (ht : P.underlying t = some (.slice e)) (he : 0 < P.cellsOf e)
    (hf : DataW.trod enc P w 0 (fun _ => true) true fuel t cs = some y) (hB : ∀ k ∈ y.1.weights P t, k ≤ B) : ∃ a n c, cs = [.slice a n c] ∧ n ≤ c ∧ c ≤ maxLen ∧ SlW enc P w e a n B ∧ n * P.bytesOf e ≤ B := by
  rcases Go.Deep.open_slice ht hf with ⟨hc, _⟩ | ⟨a, len, cap, m, n, D, Pl, hc, _, hl, hm, hmm, hx, hall⟩
  · exact ⟨none, 0, 0, hc, by omega, by omega, ⟨fun i hi => by omega⟩, by omega⟩
  · subst hc
    have hmc : m = cap := by rw [hmm]; simp
    have hw : ∀ k ∈ DataW.weights P t (.slice ((List.range len).map D) ((List.range (m - len)).map fun j => D (len + j))), k ≤ B := by
      rw [hx] at hB
      exact hB
    simp only [DataW.weights, ht, List.mem_cons, List.mem_append] at hw
    refine ⟨some a, len, cap, rfl, hl, hm, ⟨fun i hi => ?_⟩, ?_⟩
    · obtain ⟨cs0, h10, _⟩ := hall 0 (by omega)
      obtain ⟨b, off, ha, _, _⟩ := row_of_cells h10 he
      have ha' : a = ⟨b, off, none⟩ := by simpa [Addr.add] using ha
      subst ha'
      obtain ⟨cs, h1, h2⟩ := hall i (by omega)
      rw [add_none] at h1
      obtain ⟨b2, off2, hb2, hr, hlen⟩ := row_of_cells h1 he
      cases hb2
      exact ⟨b, off, cs, n, _, rfl, hr, h2, fun k hk => hw k (Or.inr (Or.inl (wall_mem (List.mem_map.2 ⟨i, List.mem_range.2 hi, rfl⟩) k hk)))⟩
    · have := hw _ (Or.inl rfl)
      refine Nat.le_trans (Nat.mul_le_mul_right _ ?_) this
      simp
theorem elems_ofW {H α : Type} {en : TypeId × Value → H} {P : Program} {w : World} {e : TypeId} {a : Option Addr} {n B : Nat} (enc : α → List Value) (p : α → Prop) (h : SlW en P w e a n B)
    (rd : ∀ cs fuel y, DataW.trod en P w 0 (fun _ => true) true fuel e cs = some y → (∀ k ∈ y.1.weights P e, k ≤ B) → ∃ x : α, cs = enc x ∧ p x) : ∃ l : List α, l.length = n ∧ Sl enc (P.cellsOf e) w a l ∧ ∀ x ∈ l, p x := by
  have key : ∀ i : _root_.Fin n, ∃ x : α, (∃ b off, a = some ⟨b, off, none⟩ ∧ Row w b (off + i.1 * P.cellsOf e) (enc x)) ∧ p x := by
    intro i
    obtain ⟨b, off, cs, fuel, y, h1, h2, h4, h5⟩ := h.row i.1 i.2
    obtain ⟨x, rfl, hp⟩ := rd cs fuel y h4 h5
    exact ⟨x, ⟨b, off, h1, h2⟩, hp⟩
  refine ⟨List.ofFn (fun i => Classical.choose (key i)), by simp, fun i x hx => ?_, fun x hx => ?_⟩
  · rw [List.getElem?_ofFn] at hx
    split at hx
    · rename_i hi
      cases hx
      exact (Classical.choose_spec (key ⟨i, hi⟩)).1
    · cases hx
  · obtain ⟨i, rfl⟩ := List.mem_ofFn.1 hx
    exact (Classical.choose_spec (key i)).2
/-- What a part of a struct weighs. -/
theorem part_w {H : Type} {P : Program} {t u : TypeId} {fs : Array Field} {parts : List (DataW H)} {B j : Nat} {d : DataW H} (ht : P.underlying t = some (.struct fs)) (hB : ∀ k ∈ DataW.weights P t (.agg parts), k ≤ B) (hu : (fs.toList.map (·.type))[j]? = some u) (hd : parts[j]? = some d) : ∀ k ∈ d.weights P u, k ≤ B := fun k hk => by
  simp only [DataW.weights, ht] at hB
  exact hB k (DataW.weights_mem_each hu hd k hk)
theorem bytesH : Tryz.prog.bytesOf 84 = 32 := by kernel_rfl
set_option maxRecDepth 100000 in
theorem pur_w {H : Type} {enc : TypeId × Value → H} {w : World} {cs : List Value} {fuel : Nat} {y : DataW H × List MemPlace} (h : DataW.trod enc Tryz.prog w 0 (fun _ => true) true fuel 36 cs = some y) (hB : ∀ k ∈ y.1.weights Tryz.prog 36, k ≤ reachBytes) : ∃ (a : Option Addr) (n c : Nat), (cs.drop 11).take 1 = [.slice a n c] ∧ n ≤ 4398046511104 := by
  obtain ⟨xs, m, _, hy, hl, hlen, hf⟩ := DataW.trod_struct Tryz.underlying36 h
  rw [hy] at hB
  match xs, hlen with
  | [y0, y1, y2, y3], _ =>
    have h3 : DataW.trod enc Tryz.prog w 0 (fun _ => true) true m 34 ((cs.drop 11).take (Tryz.prog.cellsOf 34)) = some y3 := hf 3 _ rfl
    rw [cellsS] at h3
    obtain ⟨a, n, c, e3, hn, hc', -, hb⟩ := sl_cellW Tryz.underlying34 (by rw [cellsH]; omega) h3 (part_w (j := 3) Tryz.underlying36 hB rfl rfl)
    refine ⟨a, n, c, e3, ?_⟩
    rw [bytesH] at hb
    have : reachBytes = 140737488351232 := rfl
    omega
set_option maxRecDepth 100000 in
theorem hac_w {H : Type} {enc : TypeId × Value → H} {w : World} {cs : List Value} {fuel : Nat} {y : DataW H × List MemPlace} (h : DataW.trod enc Tryz.prog w 0 (fun _ => true) true fuel 38 cs = some y) (hB : ∀ k ∈ y.1.weights Tryz.prog 38, k ≤ reachBytes) : ∃ x : HA, cs = hac x ∧ x.In w ∧ x.p.held.length ≤ 4398046511104 := by
  obtain ⟨x, hx, hin⟩ := hac_of h
  refine ⟨x, hx, hin, ?_⟩
  obtain ⟨xs, m, _, hy, hl, hlen, hf⟩ := DataW.trod_struct Tryz.underlying38 h
  rw [hy] at hB
  match xs, hlen with
  | [y0, y1, y2, y3, y4, y5, y6, y7], _ =>
    have h7 : DataW.trod enc Tryz.prog w 0 (fun _ => true) true m 36 ((cs.drop 28).take (Tryz.prog.cellsOf 36)) = some y7 := hf 7 _ rfl
    rw [cellsP] at h7
    obtain ⟨a, n, c, e, hn⟩ := pur_w h7 (part_w (j := 7) Tryz.underlying38 hB rfl rfl)
    have e2 : ((cs.drop 28).take 12) = pc x.p x.s := by
      rw [hx]
      have l1 : (dc x.frm).length = 8 := dc_length _
      have l2 : (dc x.to).length = 8 := dc_length _
      have l3 : (dc x.nm).length = 8 := dc_length _
      have hpre : hac x = ([Value.int .i64 x.kind] ++ ([Value.int .i64 x.now] ++ (dc x.frm ++ (dc x.to ++ (dc x.nm ++ [Value.int .i64 x.amt, Value.int .i64 x.til]))))) ++ pc x.p x.s := by simp [hac]
      have hlen : ([Value.int .i64 x.kind] ++ ([Value.int .i64 x.now] ++ (dc x.frm ++ (dc x.to ++ (dc x.nm ++ [Value.int .i64 x.amt, Value.int .i64 x.til]))))).length = 28 := by simp [l1, l2, l3]
      rw [hpre, ← hlen, List.drop_left, List.take_of_length_le (by rw [pc_length]; exact Nat.le_refl _)]
    rw [e2] at e
    have l4 : (dc x.p.name).length = 8 := dc_length _
    have e3 : (pc x.p x.s).drop 11 = [x.s] := by
      have hpre : pc x.p x.s = (dc x.p.name ++ [Value.int .i64 x.p.num, Value.int .i64 x.p.h0, Value.int .i64 x.p.h1]) ++ [x.s] := by simp [pc]
      have hlen : (dc x.p.name ++ [Value.int .i64 x.p.num, Value.int .i64 x.p.h0, Value.int .i64 x.p.h1]).length = 11 := by simp [l4]
      rw [hpre, ← hlen, List.drop_left]
    rw [e3] at e
    simp only [List.take_succ_cons, List.take_zero, HA.s, List.cons.injEq, Value.slice.injEq, and_true] at e
    rw [e.2.1]
    exact hn
theorem acts_w {H : Type} {enc : TypeId × Value → H} {w : World} {t : TypeId} {cs : List Value} {fuel : Nat} {y : DataW H × List MemPlace} (ht : Tryz.prog.underlying t = some (.slice 38)) (hf : DataW.trod enc Tryz.prog w 0 (fun _ => true) true fuel t cs = some y) (hB : ∀ k ∈ y.1.weights Tryz.prog t, k ≤ reachBytes) :
    ∃ a n c, cs = [.slice a n c] ∧ n ≤ c ∧ c ≤ maxLen ∧ ∃ l : List HA, l.length = n ∧ Sl hac 40 w a l ∧ (∀ x ∈ l, x.In w) ∧ ∀ x ∈ l, x.p.held.length ≤ 4398046511104 := by
  obtain ⟨a, n, c, e, hn, hc, hs, -⟩ := sl_cellW ht (by rw [cellsA]; omega) hf hB
  obtain ⟨l, h1, h2, h3⟩ := elems_ofW hac (fun x => x.In w ∧ x.p.held.length ≤ 4398046511104) hs (fun cs fuel y hy hb => hac_w hy hb)
  rw [cellsA] at h2
  exact ⟨a, n, c, e, hn, hc, l, h1, h2, fun x hx => (h3 x hx).1, fun x hx => (h3 x hx).2⟩
end Go.Proofs.YtajllbdeoopimaaGreat

namespace Go.Proofs.YtajllbdeoopimaaGreat
open Go.ChangeShapes Go.WideShapes Go.ChangeAt Go.RowKit
set_option linter.unusedVariables false
set_option maxRecDepth 100000 in
theorem hubPlays_lifted (os : Os) (started : os.Started) (H : Type) (enc : TypeId × Value → H) :
    ReturnsInHanded {} Tryz.checked os 3 .any (Rows.hubPlaysSpec.pre6 enc Tryz.prog Tryz.f3 Rows.hubPlaysRow.domain false) (Rows.hubPlaysSpec.post enc Tryz.prog Tryz.f3 false true false false) := by
  refine returnsInHanded_of_change_sized (C := Tryz.checked) own started (by kernel_rfl) Tryz.func3
    (ChangeSpec.witness6 (enc := enc) (C := Tryz.checked) false ⟨#[], #[.int .i64 0, .slice none 0 0], []⟩ 8 (by kernel_rfl) (by kernel_rfl) (by kernel_rfl) (by kernel_rfl)) ?_
  intro W base args ds gs before hval0 hW hcnd hsz _
  have hval : ∀ (j : Nat) t v, Tryz.f3.params[j]? = some t → args[j]? = some v → Value.okWide Tryz.prog W .any base t v := hval0
  have hW' : DataW.Whole enc Tryz.prog Tryz.f3.params.toList Rows.hubPlaysSpec.vars false W args.toList ds gs before := hW
  obtain ⟨p, q, hA0, hV, rfl, hfz, hnd⟩ := hW
  have hA : DataW.TrodAll enc Tryz.prog W 0 (fun _ => true) true Tryz.f3.params.toList args.toList ds p := hA0
  rw [Tryz.params3] at hA hval
  obtain ⟨v0, v1, d0, d1, p0, p1, rfl, rfl, rfl, h0, h1⟩ := trodAll_two hA
  obtain ⟨x0, rfl, hd0, _, wf0⟩ := open_int Tryz.underlying3 (hval 0 3 v0 rfl rfl) h0
  obtain ⟨a1, n1, c1, rfl⟩ := okWide_slice Tryz.underlying22 (hval 1 22 v1 rfl rfl)
  obtain ⟨fuel1, hf1⟩ := h1
  have hB1 : ∀ k ∈ d1.weights Tryz.prog 22, k ≤ reachBytes := fun k hk => by
    have := List.all_eq_true.1 hsz k (DataW.weights_mem_each (j := 1) (t := 22) (d := d1) rfl rfl k hk)
    simpa using this
  obtain ⟨a1', n1', c1', e1, hn1, hc1, l1, hl1, hS1, hin1, hbig1⟩ := acts_w Tryz.underlying22 hf1 hB1
  simp only [Value.cells, List.cons.injEq, Value.slice.injEq, and_true] at e1
  obtain ⟨rfl, rfl, rfl⟩ := e1
  refine (plays_walk W x0 a1 n1 c1 l1 hl1 hS1 hin1 hbig1 (Nat.le_trans hn1 hc1)).mono fun e W' ⟨he, hk⟩ => ⟨_, he, ?_⟩
  exact law_post laidOut (by rw [Tryz.params3]; exact of_decide_eq_true (by kernel_rfl)) rfl hW' rfl (by kernel_rfl) Tryz.underlying4 hk
theorem hubPlays_holds : Rows.HubPlaysSaid :=
  OpenClaim.holds_of_wide 3 Tryz.f3 rfl rfl rfl rfl rfl rfl rfl ⟨rfl, rfl, rfl, rfl, rfl⟩ rfl rfl rfl rfl rfl (by kernel_rfl) Tryz.func3 (by kernel_rfl)
    (of_decide_eq_true (by kernel_rfl)) (by unfold Func.isWrapper; first | (rw [if_pos (by decide +kernel)]; kernel_rfl) | (rw [if_neg (by decide +kernel)]; exact ⟨rfl, rfl⟩))
    (fun os started H enc _ => hubPlays_lifted os started H enc)
end Go.Proofs.YtajllbdeoopimaaGreat
