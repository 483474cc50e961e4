/-
  HubSame answers true for every input, and leaves its arguments as they were. No conditions.
-/
import Derived.Test.YtajllbdeoopimaaQs5
namespace Go.Proofs.Ytajllbdeoopimaa
set_option linter.unusedVariables false
section
variable {κ ν : Type} [DecidableEq κ]
theorem perm_of_sub {α : Type} : ∀ {a b : List α}, a.Nodup → (∀ x ∈ a, x ∈ b) → a.length = b.length → a.Perm b
  | [], b, _, _, hl => by
    rw [List.length_eq_zero_iff.1 hl.symm]
  | x :: a, b, hn, hs, hl => by
    have hn' := List.nodup_cons.1 hn
    obtain ⟨s, t, rfl⟩ := List.append_of_mem (hs x List.mem_cons_self)
    refine ((perm_of_sub (b := s ++ t) hn'.2 (fun y hy => ?_) ?_).cons x).trans List.perm_middle.symm
    · have := hs y (List.mem_cons_of_mem _ hy)
      rw [List.mem_append, List.mem_cons] at this
      rw [List.mem_append]
      rcases this with h | h | h
      · exact Or.inl h
      · exact absurd (h ▸ hy) hn'.1
      · exact Or.inr h
    · simp only [List.length_append, List.length_cons] at hl ⊢
      omega
/-- Two lists of pairs hold the same. -/
theorem perm_of_look {a b : List (κ × ν)} (hb : (b.map (·.1)).Nodup) (ha : (a.map (·.1)).Nodup) (hl : a.length = b.length) (h : ∀ p ∈ a, alook b p.1 = some p.2) : a.Perm b := by
  have hna : a.Nodup := by
    rw [List.nodup_iff_pairwise_ne]
    rw [List.nodup_iff_pairwise_ne, List.pairwise_map] at ha
    exact ha.imp (fun h e => h (by rw [e]))
  exact perm_of_sub hna (fun p hp => alook_mem (h p hp)) hl
theorem look_of_perm {a b : List (κ × ν)} (ha : (a.map (·.1)).Nodup) (h : a.Perm b) : ∀ p ∈ a, alook b p.1 = some p.2 := fun p hp => alook_of_mem ((h.map (·.1)).nodup_iff.1 ha) (h.mem_iff.1 hp)
end
def zPr : Pr := ⟨zd, zd, zd, 0, 0, 0⟩
open Classical in
noncomputable def permB {α : Type} (a b : List α) : Bool := decide (a.Perm b)
theorem permB_t {α : Type} {a b : List α} (h : a.Perm b) : permB a b = true := by simp [permB, h]
theorem permB_f {α : Type} {a b : List α} (h : ¬ a.Perm b) : permB a b = false := by simp [permB, h]
attribute [local irreducible] CG NG SG Vals Der Row Blk MapIs IterAt DerX DerR
set_option maxHeartbeats 16000000 in
theorem mequal_spec {w : World} {b c : Nat} {m q : Mp} (hm : MapIs w b (dv (n := 8)) prv m) (hq : MapIs w c (dv (n := 8)) prv q) (fm : ∀ x ∈ m, x.2.Fit) (fq : ∀ x ∈ q, x.2.Fit) : Ret Try.prog 49 #[.map (some b), .map (some c)] w (.bool (permB m q)) := by
  refine enter2 Try.func49 rfl Try.ntmps49 rfl ?_
  have hnm := hm.nodup
  have hnq := hq.nodup
  have lb := hm.lt
  have lc := hq.lt
  have no : ∀ {w' : World}, Kp [] w w' → ¬ m.Perm q → (Ending.returned (.bool false) = .returned (.bool (permB m q)) ∧ Kp [] w w') := fun hk h => ⟨by rw [permB_f h], hk⟩
  by_cases hlen : m.length = q.length
  rotate_left
  · have g1 : ¬ (m.length : Int) = (q.length : Int) := by omega
    repeat (first|apply cA|apply cB|apply cD|apply cE|refine cX rfl rfl rfl rfl (by first|((first|apply qmv|apply qas|apply qni|apply qlm)<;>(first|exact rfl|assumption|exact dcf (by first|assumption|omega)|exact List.not_mem_nil|fail))|fail) ?_)
    refine dB rfl (by exact rho_of rfl) rfl ?_
    repeat (first|apply cA|apply cB|apply cD|apply cE|apply cH|apply cK|refine cX rfl rfl rfl rfl (by first|(apply qas<;>(exact rfl))|fail) ?_)
    refine ret1 (Or.inl rfl) Try.results49 (by first | exact ResV.tmp rfl | exact ResV.agg rfl rfl (by assumption) (by first | exact dc_length _ | exact nc_length _ | exact rc_length _ _ _ | exact ec_length _ | exact dl_length _ _ _ _ | rfl) | exact ResV.cell rfl rfl (by assumption)) ?_
    exact no (Kp.refl _ _) (fun h => hlen h.length_eq)
  have g1 : (m.length : Int) = (q.length : Int) := by omega
  repeat (first|apply cA|apply cB|apply cD|apply cE|refine cX rfl rfl rfl rfl (by first|((first|apply qmv|apply qas|apply qni|apply qlm)<;>(first|exact rfl|assumption|exact dct (by first|assumption|omega)|exact List.not_mem_nil|fail))|fail) ?_)
  refine dD rfl (by exact rho_of rfl) rfl ?_
  repeat (first|apply cA|apply cB|apply cE|apply cF|refine cX rfl rfl rfl rfl (by first|(apply qmv<;>(exact rfl))|fail) ?_)
  refine SG.range rfl rfl rfl (by exact rho_of rfl) hm (fun r w2 hk2 hr2 hI => ?_)
  repeat (first|apply cD|apply cE|apply cG)
  refine CG.loop (X := Mp × Mp × Option (Dg × Pr)) (fun x => [(1, .map (some c)), (15, .pointer (some ⟨r, 0, none⟩))])
    (fun x w' => Kp [r] w2 w' ∧ IterAt w' r b (dv (n := 8)) prv m x.2.1 x.2.2 ∧ (x.1 ++ x.2.1).Perm m ∧ ∀ p ∈ x.1, alook q p.1 = some p.2) (fun x => x.2.1.length) ([], m, none) ⟨Kp.refl _ _, hI, by simp, fun p hp => (by cases hp)⟩ (by (repeat' (first | exact True.intro | exact rfl | refine And.intro ?_ ?_))) ?_
  rintro ⟨done, left, cur⟩ w3 ⟨hk3, hI, hp, hd⟩
  simp only at hI hp hd
  refine CG.to [(1, .map (some c)), (15, .pointer (some ⟨r, 0, none⟩))] (by (repeat' (first | exact True.intro | exact rfl | refine And.intro ?_ ?_))) ?_
  have k3 : Kp [] w w3 := hk2.trans_new hk3 (new1 (by omega))
  repeat (first|apply cA|apply cB)
  refine SG.next rfl rfl rfl (by exact rho_of rfl) hI (fun h0 => ?_) (fun pre x post w4 hl4 hk4 hI4 => ?_)
  · subst h0
    rw [List.append_nil] at hp
    repeat (first|apply cA|apply cD|apply cE|refine cX rfl rfl rfl rfl (by first|(apply qxt<;>(exact rfl))|fail) ?_)
    refine dD rfl (by exact rho_of rfl) rfl ?_
    repeat (first|apply cA|apply cB|apply cD|apply cE|apply cH|apply cJ|apply cN|refine cU rfl ?_|refine cX rfl rfl rfl rfl (by first|(apply qas<;>(exact rfl))|fail) ?_)
    refine ret1 (Or.inl rfl) Try.results49 (by first | exact ResV.tmp rfl | exact ResV.agg rfl rfl (by assumption) (by first | exact dc_length _ | exact nc_length _ | exact rc_length _ _ _ | exact ec_length _ | exact dl_length _ _ _ _ | rfl) | exact ResV.cell rfl rfl (by assumption)) ?_
    exact ⟨by rw [permB_t (perm_of_look hnq hnm hlen (fun p h => hd p (hp.mem_iff.2 h)))], k3⟩
  · have hxm : x ∈ m := hp.mem_iff.1 (by rw [hl4]; simp)
    have fx := fm x hxm
    have k4 : Kp [] w w4 := k3.trans_new hk4 (new1 hr2)
    repeat (first|apply cA|apply cD|apply cE|refine cX rfl rfl rfl rfl (by first|(apply qxt<;>(exact rfl))|fail) ?_)
    refine dB rfl (by exact rho_of rfl) rfl ?_
    repeat (first|apply cA|apply cB|apply cE|apply cF|apply cG|refine cX rfl rfl rfl rfl (by first|((first|apply qen|apply qxt|apply qen)<;>(first|exact rfl|assumption|exact List.not_mem_nil))|fail) ?_)
    refine SG.alloc rfl rfl rfl (fun b5 w5 hk5 hb5 hB5 => ?_)
    refine SG.alloc rfl rfl rfl (fun b6 w6 hk6 hb6 hB6 => ?_)
    have l5 := hB5.lt
    refine SG.setAll (l := dc x.1) rfl rfl (by exact rho_of rfl) (by exact rho_of rfl) (hB5.kp0 hk6) (dc_length _) rfl (dc_one _) (fun w7 hk7 hB5 => ?_)
    refine SG.setAll (l := prc x.2) rfl rfl (by exact rho_of rfl) (by exact rho_of rfl) (hB6.kp hk7 (nm1 (by omega))) (prc_length _) rfl (prc_one _) (fun w8 hk8 hB6 => ?_)
    have hB5 : Blk w8 b5 (.cells (dc x.1).toArray 25) := hB5.kp hk8 (nm1 (by omega))
    have hB6 : Blk w8 b6 (.cells (prc x.2).toArray 54) := hB6
    have s5 := hk5.size
    have s6 := hk6.size
    have k48 : Kp [] w4 w8 := ((hk5.trans hk6).trans_new hk7 (new1 (by omega))).trans_new hk8 (new1 (by omega))
    have k8 := k4.trans k48
    have hR5 : Row w8 b5 0 (dc x.1) := Row.all hB5 rfl
    have hR6 : Row w8 b6 0 (prc x.2) := Row.all hB6 rfl
    have hq8 := hq.kp0 k8
    have s7 := k48.size
    clear hk5 hk6 hk7 hk8 hB5 hB6
    cases hx : alook q x.1 with
    | none =>
      repeat (first|apply cA|apply cB|apply cD|apply cE|refine cX rfl rfl rfl rfl (by first|((first|apply qmv|apply qla|apply qlk|apply qxt)<;>(first|exact rfl|assumption|exact List.not_mem_nil|apply dc_length|exact lk0 (by assumption)|fail))|fail) ?_)
      refine SG.alloc rfl rfl rfl (fun b7 w9 hk9 hb7 hB7 => ?_)
      refine SG.setAll (l := prc zPr) rfl rfl (by exact rho_of rfl) (by exact rho_of rfl) hB7 (prc_length _) rfl (prc_one _) (fun w10 hk10 hB7 => ?_)
      have k10 : Kp [] w8 w10 := hk9.trans_new hk10 (new1 (by omega))
      repeat (first | first|apply cA|apply cB|apply cD|apply cE|refine cX rfl rfl rfl rfl (by first|((first|apply qmv|apply qas|apply qpk|apply qnt)<;>(exact rfl))|fail) ?_ | refine cY rfl rfl ?_)
      refine dB rfl (by exact rho_of rfl) rfl ?_
      repeat (first|apply cA|apply cB|apply cD|apply cE|apply cH|apply cK|apply NG.ret_block|refine cX rfl rfl rfl rfl (by first|(apply qas<;>(exact rfl))|fail) ?_)
      refine ret1 (Or.inl rfl) Try.results49 (by first | exact ResV.tmp rfl | exact ResV.agg rfl rfl (by assumption) (by first | exact dc_length _ | exact nc_length _ | exact rc_length _ _ _ | exact ec_length _ | exact dl_length _ _ _ _ | rfl) | exact ResV.cell rfl rfl (by assumption)) ?_
      refine no (k8.trans k10) (fun h => ?_)
      have := look_of_perm hnm h x hxm
      rw [hx] at this
      cases this
    | some y =>
      have fy := fq (x.1, y) (alook_mem hx)
      simp only at fy
      repeat (first|apply cA|apply cB|apply cD|apply cE|refine cX rfl rfl rfl rfl (by first|((first|apply qmv|apply qla|apply qlk|apply qxt)<;>(first|exact rfl|assumption|exact List.not_mem_nil|apply dc_length|exact lk1 (by assumption)|fail))|fail) ?_)
      refine SG.alloc rfl rfl rfl (fun b7 w9 hk9 hb7 hB7 => ?_)
      refine SG.setAll (l := prc y) rfl rfl (by exact rho_of rfl) (by exact rho_of rfl) hB7 (prc_length _) rfl (prc_one _) (fun w10 hk10 hB7 => ?_)
      have hB7 : Blk w10 b7 (.cells (prc y).toArray 54) := hB7
      have hR7 : Row w10 b7 0 (prc y) := Row.all hB7 rfl
      have k10 : Kp [] w8 w10 := hk9.trans_new hk10 (new1 (by omega))
      have hR6 := hR6.kp0 k10
      clear hR5 hk9 hk10 hB7
      by_cases hxy : x.2 = y
      · repeat (first|apply cA|apply cB|apply cD|apply cE|refine cX rfl rfl rfl rfl (by first|((first|apply qn_pr|apply qmv|apply qas|apply qla|apply qpk|apply qnt)<;>(first|exact rfl|assumption|exact dct (by first|assumption|omega)|exact List.not_mem_nil|apply prc_length|fail))|fail) ?_)
        refine dD rfl (by exact rho_of rfl) rfl ?_
        repeat (first|apply cF|apply cV)
        refine NG.round (done ++ [x], pre ++ post, some x) (by (repeat' (first | exact True.intro | exact rfl | refine And.intro ?_ ?_))) ⟨(hk3.trans hk4).trans (k48.trans k10).any, hI4.kp0 (k48.trans k10), ?_, fun p hp => ?_⟩ (by simp only; rw [hl4]; simp)
        · simp only
          rw [hl4] at hp
          refine List.Perm.trans ?_ hp
          rw [List.append_assoc, List.singleton_append]
          exact List.Perm.append_left _ List.perm_middle.symm
        · rcases List.mem_append.1 hp with h | h
          · exact hd p h
          · rw [List.mem_singleton] at h
            rw [h, hx, hxy]
      · repeat (first|apply cA|apply cB|apply cD|apply cE|refine cX rfl rfl rfl rfl (by first|((first|apply qn_pr|apply qmv|apply qas|apply qla|apply qpk|apply qnt)<;>(first|exact rfl|assumption|exact dcf (by first|assumption|omega)|exact List.not_mem_nil|apply prc_length|fail))|fail) ?_)
        refine dB rfl (by exact rho_of rfl) rfl ?_
        repeat (first|apply cA|apply cB|apply cD|apply cE|apply cH|apply cK|apply NG.ret_block|refine cX rfl rfl rfl rfl (by first|(apply qas<;>(exact rfl))|fail) ?_)
        refine ret1 (Or.inl rfl) Try.results49 (by first | exact ResV.tmp rfl | exact ResV.agg rfl rfl (by assumption) (by first | exact dc_length _ | exact nc_length _ | exact rc_length _ _ _ | exact ec_length _ | exact dl_length _ _ _ _ | rfl) | exact ResV.cell rfl rfl (by assumption)) ?_
        refine no (k8.trans k10) (fun h => ?_)
        have := look_of_perm hnm h x hxm
        rw [hx] at this
        exact hxy (Option.some.inj this).symm
set_option maxHeartbeats 8000000 in
theorem same1_spec {w : World} {x y : Sh} (hx : x.At w) (hy : y.At w) (fx : x.p.Fit) (fy : y.p.Fit) (lx : x.p.held.length ≤ 1000) : Ret Try.prog 51 #[shv x, shv y] w (.bool (decide (x.ps = y.ps))) := by
  refine enter2 Try.func51 rfl Try.ntmps51 rfl ?_
  repeat (first|apply cA|apply cB)
  refine SG.box rfl rfl rfl (by exact rho_of rfl) (fun b1 w1 hk1 hb1 hB1 => ?_)
  refine SG.box rfl rfl rfl (by exact rho_of rfl) (fun b2 w2 hk2 hb2 hB2 => ?_)
  have hB1 : Blk w2 b1 (.cells (shc x).toArray 89) := hB1.kp0 hk2
  have hB2 : Blk w2 b2 (.cells (shc y).toArray 89) := hB2
  obtain ⟨-, q1, q2, -⟩ := shc_rows hB1
  obtain ⟨-, q3, q4, -⟩ := shc_rows hB2
  have k2 := hk1.trans hk2
  by_cases hs : x.side = y.side
  · have fin : ∀ {w' : World}, Kp [] w2 w' → (Ending.returned (.bool (decide (x.p = y.p))) = .returned (.bool (decide (x.ps = y.ps))) ∧ Kp [] w w') := fun hk => ⟨by
      have : (x.p = y.p) ↔ (x.ps = y.ps) := ⟨fun h => Prod.ext h hs, fun h => congrArg Prod.fst h⟩
      rw [decide_eq_decide.2 this], k2.trans hk⟩
    repeat (first|apply cA|apply cB|apply cD|apply cE|refine cX rfl rfl rfl rfl (by first|((first|apply qmv|apply qas|apply qlc|apply qla|apply qfa|apply qei)<;>(first|exact rfl|assumption|exact dct (by first|assumption|omega)|exact List.not_mem_nil|apply pc_length|fail))|fail) ?_)
    refine SG.ret rfl rfl rfl (vs := [pv x.p x.s, pv y.p y.s]) (by repeat' (first | exact True.intro | exact rho_of rfl | refine And.intro ?_ ?_)) (psame_spec x.p y.p fx fy (hx.kp0 k2).sl (hy.kp0 k2).sl (by omega)) (fun w3 hk3 => ?_)
    cases hh : decide (x.p = y.p)
    · rw [hh] at fin
      repeat (first|apply cD|apply cE|apply cH|refine cX rfl rfl rfl rfl (by first|((first|apply qas|apply qpk)<;>(exact rfl))|fail) ?_)
      refine ret1 (Or.inl rfl) Try.results51 (by first | exact ResV.tmp rfl | exact ResV.agg rfl rfl (by assumption) (by first | exact dc_length _ | exact nc_length _ | exact rc_length _ _ _ | exact ec_length _ | exact dl_length _ _ _ _ | rfl) | exact ResV.cell rfl rfl (by assumption)) ?_
      exact fin hk3
    · rw [hh] at fin
      repeat (first|apply cD|apply cE|apply cH|refine cX rfl rfl rfl rfl (by first|((first|apply qas|apply qpk)<;>(exact rfl))|fail) ?_)
      refine ret1 (Or.inl rfl) Try.results51 (by first | exact ResV.tmp rfl | exact ResV.agg rfl rfl (by assumption) (by first | exact dc_length _ | exact nc_length _ | exact rc_length _ _ _ | exact ec_length _ | exact dl_length _ _ _ _ | rfl) | exact ResV.cell rfl rfl (by assumption)) ?_
      exact fin hk3
  · repeat (first | first|apply cA|apply cB|apply cD|apply cE|apply cH|refine cX rfl rfl rfl rfl (by first|((first|apply qmv|apply qas|apply qlc|apply qfa|apply qpk|apply qei)<;>(first|exact rfl|assumption|exact dcf (by first|assumption|omega)|exact List.not_mem_nil|fail))|fail) ?_ | refine cY rfl rfl ?_)
    refine ret1 (Or.inl rfl) Try.results51 (by first | exact ResV.tmp rfl | exact ResV.agg rfl rfl (by assumption) (by first | exact dc_length _ | exact nc_length _ | exact rc_length _ _ _ | exact ec_length _ | exact dl_length _ _ _ _ | rfl) | exact ResV.cell rfl rfl (by assumption)) ?_
    exact ⟨by rw [decide_eq_false (fun h => hs (congrArg Prod.snd h))], k2⟩
theorem er_at {ms : Ms} {x : Dg × Sh} (h : x ∈ ms) : (x.1, x.2.ps) ∈ er ms := List.mem_map_of_mem (f := fun x => (x.1, x.2.ps)) h
def zSq : Sh := ⟨zPu, none, 0, 0⟩
set_option maxHeartbeats 16000000 in
theorem sequal_spec {w : World} {b c : Nat} {m q : Ms} (hm : MapIs w b (dv (n := 8)) shv m) (hq : MapIs w c (dv (n := 8)) shv q) (am : ∀ x ∈ m, x.2.At w ∧ x.2.p.Fit ∧ x.2.p.held.length ≤ 16) (aq : ∀ x ∈ q, x.2.At w ∧ x.2.p.Fit ∧ x.2.p.held.length ≤ 16) :
    Ret Try.prog 50 #[.map (some b), .map (some c), fnv 51 []] w (.bool (permB (er m) (er q))) := by
  refine enterL (args := [.map (some b), .map (some c), fnv 51 []]) Try.func50 rfl Try.ntmps50 rfl ?_
  have hnm : ((er m).map (·.1)).Nodup := by rw [er_keys]; exact hm.nodup
  have hnq : ((er q).map (·.1)).Nodup := by rw [er_keys]; exact hq.nodup
  have lb := hm.lt
  have lc := hq.lt
  have no : ∀ {w' : World}, Kp [] w w' → ¬ (er m).Perm (er q) → (Ending.returned (.bool false) = .returned (.bool (permB (er m) (er q))) ∧ Kp [] w w') := fun hk h => ⟨by rw [permB_f h], hk⟩
  by_cases hlen : m.length = q.length
  rotate_left
  · have g1 : ¬ (m.length : Int) = (q.length : Int) := by omega
    repeat (first|apply cA|apply cB|apply cD|apply cE|refine cX rfl rfl rfl rfl (by first|((first|apply qmv|apply qas|apply qni|apply qlm)<;>(first|exact rfl|assumption|exact dcf (by first|assumption|omega)|exact List.not_mem_nil|fail))|fail) ?_)
    refine dB rfl (by exact rho_of rfl) rfl ?_
    repeat (first|apply cA|apply cB|apply cD|apply cE|apply cH|apply cK|refine cX rfl rfl rfl rfl (by first|(apply qas<;>(exact rfl))|fail) ?_)
    refine ret1 (Or.inl rfl) Try.results50 (by first | exact ResV.tmp rfl | exact ResV.agg rfl rfl (by assumption) (by first | exact dc_length _ | exact nc_length _ | exact rc_length _ _ _ | exact ec_length _ | exact dl_length _ _ _ _ | rfl) | exact ResV.cell rfl rfl (by assumption)) ?_
    exact no (Kp.refl _ _) (fun h => hlen (by have := h.length_eq; rwa [er_len, er_len] at this))
  have g1 : (m.length : Int) = (q.length : Int) := by omega
  repeat (first|apply cA|apply cB|apply cD|apply cE|refine cX rfl rfl rfl rfl (by first|((first|apply qmv|apply qas|apply qni|apply qlm)<;>(first|exact rfl|assumption|exact dct (by first|assumption|omega)|exact List.not_mem_nil|fail))|fail) ?_)
  refine dD rfl (by exact rho_of rfl) rfl ?_
  repeat (first|apply cA|apply cB|apply cE|apply cF|refine cX rfl rfl rfl rfl (by first|(apply qmv<;>(exact rfl))|fail) ?_)
  refine SG.range rfl rfl rfl (by exact rho_of rfl) hm (fun r w2 hk2 hr2 hI => ?_)
  repeat (first|apply cD|apply cE|apply cG)
  refine CG.loop (X := Ms × Ms × Option (Dg × Sh)) (fun x => [(1, .map (some c)), (2, fnv 51 []), (17, .pointer (some ⟨r, 0, none⟩))])
    (fun x w' => Kp [r] w2 w' ∧ IterAt w' r b (dv (n := 8)) shv m x.2.1 x.2.2 ∧ (x.1 ++ x.2.1).Perm m ∧ ∀ p ∈ x.1, alook (er q) p.1 = some p.2.ps) (fun x => x.2.1.length) ([], m, none) ⟨Kp.refl _ _, hI, by simp, fun p hp => (by cases hp)⟩ (by (repeat' (first | exact True.intro | exact rfl | refine And.intro ?_ ?_))) ?_
  rintro ⟨done, left, cur⟩ w3 ⟨hk3, hI, hp, hd⟩
  simp only at hI hp hd
  refine CG.to [(1, .map (some c)), (2, fnv 51 []), (17, .pointer (some ⟨r, 0, none⟩))] (by (repeat' (first | exact True.intro | exact rfl | refine And.intro ?_ ?_))) ?_
  have k3 : Kp [] w w3 := hk2.trans_new hk3 (new1 (by omega))
  repeat (first|apply cA|apply cB)
  refine SG.next rfl rfl rfl (by exact rho_of rfl) hI (fun h0 => ?_) (fun pre x post w4 hl4 hk4 hI4 => ?_)
  · subst h0
    rw [List.append_nil] at hp
    repeat (first|apply cA|apply cD|apply cE|refine cX rfl rfl rfl rfl (by first|(apply qxt<;>(exact rfl))|fail) ?_)
    refine dD rfl (by exact rho_of rfl) rfl ?_
    repeat (first|apply cA|apply cB|apply cD|apply cE|apply cH|apply cJ|apply cN|refine cU rfl ?_|refine cX rfl rfl rfl rfl (by first|(apply qas<;>(exact rfl))|fail) ?_)
    refine ret1 (Or.inl rfl) Try.results50 (by first | exact ResV.tmp rfl | exact ResV.agg rfl rfl (by assumption) (by first | exact dc_length _ | exact nc_length _ | exact rc_length _ _ _ | exact ec_length _ | exact dl_length _ _ _ _ | rfl) | exact ResV.cell rfl rfl (by assumption)) ?_
    have hall : ∀ p ∈ er m, alook (er q) p.1 = some p.2 := fun p h => by
      obtain ⟨y, hy, rfl⟩ := List.mem_map.1 h
      exact hd y (hp.mem_iff.2 hy)
    exact ⟨by rw [permB_t (perm_of_look hnq hnm (by rw [er_len, er_len]; exact hlen) hall)], k3⟩
  · have hxm : x ∈ m := hp.mem_iff.1 (by rw [hl4]; simp)
    obtain ⟨ax, fx, lx⟩ := am x hxm
    have k4 : Kp [] w w4 := k3.trans_new hk4 (new1 hr2)
    repeat (first|apply cA|apply cD|apply cE|refine cX rfl rfl rfl rfl (by first|(apply qxt<;>(exact rfl))|fail) ?_)
    refine dB rfl (by exact rho_of rfl) rfl ?_
    repeat (first|apply cA|apply cB|apply cE|apply cF|apply cG|refine cX rfl rfl rfl rfl (by first|((first|apply qen|apply qxt|apply qen)<;>(first|exact rfl|assumption|exact List.not_mem_nil))|fail) ?_)
    refine SG.alloc rfl rfl rfl (fun b5 w5 hk5 hb5 hB5 => ?_)
    refine SG.alloc rfl rfl rfl (fun b6 w6 hk6 hb6 hB6 => ?_)
    have l5 := hB5.lt
    refine SG.setAll (l := dc x.1) rfl rfl (by exact rho_of rfl) (by exact rho_of rfl) (hB5.kp0 hk6) (dc_length _) rfl (dc_one _) (fun w7 hk7 hB5 => ?_)
    refine SG.setAll (l := shc x.2) rfl rfl (by exact rho_of rfl) (by exact rho_of rfl) (hB6.kp hk7 (nm1 (by omega))) (shc_length _) rfl (shc_one _) (fun w8 hk8 hB6 => ?_)
    have hB5 : Blk w8 b5 (.cells (dc x.1).toArray 25) := hB5.kp hk8 (nm1 (by omega))
    have hB6 : Blk w8 b6 (.cells (shc x.2).toArray 89) := hB6
    have s5 := hk5.size
    have s6 := hk6.size
    have k48 : Kp [] w4 w8 := ((hk5.trans hk6).trans_new hk7 (new1 (by omega))).trans_new hk8 (new1 (by omega))
    have k8 := k4.trans k48
    have hR5 : Row w8 b5 0 (dc x.1) := Row.all hB5 rfl
    have hR6 : Row w8 b6 0 (shc x.2) := Row.all hB6 rfl
    have hq8 := hq.kp0 k8
    have s7 := k48.size
    clear hk5 hk6 hk7 hk8 hB5 hB6
    cases hx : alook q x.1 with
    | none =>
      repeat (first|apply cA|apply cB|apply cD|apply cE|refine cX rfl rfl rfl rfl (by first|((first|apply qmv|apply qla|apply qlk|apply qxt)<;>(first|exact rfl|assumption|exact List.not_mem_nil|apply dc_length|exact lk0 (by assumption)|fail))|fail) ?_)
      refine SG.alloc rfl rfl rfl (fun b7 w9 hk9 hb7 hB7 => ?_)
      refine SG.setAll (l := shc zSq) rfl rfl (by exact rho_of rfl) (by exact rho_of rfl) hB7 (shc_length _) rfl (shc_one _) (fun w10 hk10 hB7 => ?_)
      have k10 : Kp [] w8 w10 := hk9.trans_new hk10 (new1 (by omega))
      repeat (first | first|apply cA|apply cB|apply cD|apply cE|refine cX rfl rfl rfl rfl (by first|((first|apply qmv|apply qas|apply qpk|apply qnt)<;>(exact rfl))|fail) ?_ | refine cY rfl rfl ?_)
      refine dB rfl (by exact rho_of rfl) rfl ?_
      repeat (first|apply cA|apply cB|apply cD|apply cE|apply cH|apply cK|apply NG.ret_block|refine cX rfl rfl rfl rfl (by first|(apply qas<;>(exact rfl))|fail) ?_)
      refine ret1 (Or.inl rfl) Try.results50 (by first | exact ResV.tmp rfl | exact ResV.agg rfl rfl (by assumption) (by first | exact dc_length _ | exact nc_length _ | exact rc_length _ _ _ | exact ec_length _ | exact dl_length _ _ _ _ | rfl) | exact ResV.cell rfl rfl (by assumption)) ?_
      refine no (k8.trans k10) (fun h => ?_)
      have := look_of_perm hnm h (x.1, x.2.ps) (er_at hxm)
      rw [er_look, hx] at this
      cases this
    | some y =>
      obtain ⟨ay, fy, ly⟩ := aq (x.1, y) (alook_mem hx)
      simp only at ay fy ly
      repeat (first|apply cA|apply cB|apply cD|apply cE|refine cX rfl rfl rfl rfl (by first|((first|apply qmv|apply qla|apply qlk|apply qxt)<;>(first|exact rfl|assumption|exact List.not_mem_nil|apply dc_length|exact lk1 (by assumption)|fail))|fail) ?_)
      refine SG.alloc rfl rfl rfl (fun b7 w9 hk9 hb7 hB7 => ?_)
      refine SG.setAll (l := shc y) rfl rfl (by exact rho_of rfl) (by exact rho_of rfl) hB7 (shc_length _) rfl (shc_one _) (fun w10 hk10 hB7 => ?_)
      have hB7 : Blk w10 b7 (.cells (shc y).toArray 89) := hB7
      have hR7 : Row w10 b7 0 (shc y) := Row.all hB7 rfl
      have k10 : Kp [] w8 w10 := hk9.trans_new hk10 (new1 (by omega))
      have hR6 := hR6.kp0 k10
      have ka := k8.trans k10
      clear hR5 hk9 hk10 hB7
      repeat (first|apply cA|apply cB|apply cD|apply cE|refine cX rfl rfl rfl rfl (by first|((first|apply qmv|apply qas|apply qla|apply qnt)<;>(first|exact rfl|assumption|exact List.not_mem_nil|apply shc_length))|fail) ?_)
      refine SG.retVC (Fn := by infer_instance) (vs := [shv x.2, shv y]) (caps := []) rfl rfl rfl (by exact rho_of rfl) (by repeat' (first | exact True.intro | exact rho_of rfl | refine And.intro ?_ ?_)) (same1_spec (ax.kp0 ka) (ay.kp0 ka) fx fy (by omega)) (fun w11 hk11 => ?_)
      have ka := ka.trans hk11
      by_cases hxy : x.2.ps = y.ps
      · rw [decide_eq_true hxy]
        repeat (first|apply cD|apply cE|refine cX rfl rfl rfl rfl (by first|((first|apply qpk|apply qnt)<;>(exact rfl))|fail) ?_)
        refine dD rfl (by exact rho_of rfl) rfl ?_
        repeat (first|apply cF|apply cV)
        refine NG.round (done ++ [x], pre ++ post, some x) (by (repeat' (first | exact True.intro | exact rfl | refine And.intro ?_ ?_))) ⟨(hk3.trans hk4).trans ((k48.trans k10).trans hk11).any, hI4.kp0 ((k48.trans k10).trans hk11), ?_, fun p hp => ?_⟩ (by simp only; rw [hl4]; simp)
        · simp only
          rw [hl4] at hp
          refine List.Perm.trans ?_ hp
          rw [List.append_assoc, List.singleton_append]
          exact List.Perm.append_left _ List.perm_middle.symm
        · rcases List.mem_append.1 hp with h | h
          · exact hd p h
          · rw [List.mem_singleton] at h
            rw [h, er_look, hx, hxy]
            rfl
      · rw [decide_eq_false hxy]
        repeat (first|apply cD|apply cE|refine cX rfl rfl rfl rfl (by first|((first|apply qpk|apply qnt)<;>(exact rfl))|fail) ?_)
        refine dB rfl (by exact rho_of rfl) rfl ?_
        repeat (first|apply cA|apply cB|apply cD|apply cE|apply cH|apply cK|apply NG.ret_block|refine cX rfl rfl rfl rfl (by first|(apply qas<;>(exact rfl))|fail) ?_)
        refine ret1 (Or.inl rfl) Try.results50 (by first | exact ResV.tmp rfl | exact ResV.agg rfl rfl (by assumption) (by first | exact dc_length _ | exact nc_length _ | exact rc_length _ _ _ | exact ec_length _ | exact dl_length _ _ _ _ | rfl) | exact ResV.cell rfl rfl (by assumption)) ?_
        refine no ka (fun h => ?_)
        have := look_of_perm hnm h (x.1, x.2.ps) (er_at hxm)
        rw [er_look, hx] at this
        exact hxy (Option.some.inj this).symm
theorem Inv.prfit {win : Int} {s : ST} (hi : Inv win s) (hw : 0 ≤ win ∧ win ≤ 1048576) : ∀ x ∈ s.m, x.2.Fit := fun x hx => by
  have hl := alook_of_mem hi.km hx
  obtain ⟨y, hy, ay⟩ := (hi.pr _ _ hl).x
  have k := (hi.ok _ y hy).1.all _ (atL_mem ay).1
  obtain ⟨z, hz, az⟩ := (hi.pr _ _ hl).y
  have k1 := k.a0
  have k2 := k.a1
  have k3 := k.t0
  have k4 := k.t1
  simp only at k1 k2 k3 k4
  refine ⟨⟨by omega, by omega⟩, ⟨by omega, by omega⟩, ?_⟩
  rcases az with ⟨h, _⟩ | ⟨h1, h2, _⟩
  · rw [h]; exact ⟨by decide, by decide⟩
  · exact ⟨by omega, by omega⟩
noncomputable def sameB (s t : ST) : Bool := permB s.m t.m && permB s.l t.l
set_option maxHeartbeats 16000000 in
theorem same_e {w : World} {bh bs bp ch cs cp : Nat} {win : Int} {s t : ST} (hH : HubE w bh bs bp win s) (hC : HubE w ch cs cp win t) (hi : Inv win s) (hj : Inv win t) (hw : 0 ≤ win ∧ win ≤ 1048576) : Ret Try.prog 29 #[.pointer (some ⟨bh, 0, none⟩), .pointer (some ⟨ch, 0, none⟩)] w (.bool (sameB s t)) := by
  have f1 := hi.prfit hw
  have f2 := hj.prfit hw
  obtain ⟨ms, e1, hH⟩ := hH
  obtain ⟨mt, e2, hC⟩ := hC
  have a1 : ∀ x ∈ ms, x.2.At w ∧ x.2.p.Fit ∧ x.2.p.held.length ≤ 16 := fun x hx => ⟨hH.at' x hx, (hi.ok x.1 x.2.ps (alook_of_mem hi.kl (by rw [← e1]; exact er_at hx))).1.fit, hH.few x hx⟩
  have a2 : ∀ x ∈ mt, x.2.At w ∧ x.2.p.Fit ∧ x.2.p.held.length ≤ 16 := fun x hx => ⟨hC.at' x hx, (hj.ok x.1 x.2.ps (alook_of_mem hj.kl (by rw [← e2]; exact er_at hx))).1.fit, hC.few x hx⟩
  obtain ⟨r0, r1, r2⟩ := hH.rows
  obtain ⟨r3, r4, r5⟩ := hC.rows
  have ew : win = win := rfl
  refine enter2 Try.func29 rfl Try.ntmps29 rfl ?_
  repeat (first|apply cA|apply cB|apply cD|apply cE|refine cX rfl rfl rfl rfl (by first|((first|apply qep|apply qmv|apply qas|apply qpk|apply qep)<;>(exact rfl))|fail) ?_)
  refine dD rfl (by exact rho_of rfl) rfl ?_
  repeat (first|apply cA|apply cE|apply cF)
  have fin : ∀ {w' : World}, Kp [] w w' → (Ending.returned (.bool (permB s.m t.m && permB s.l t.l)) = .returned (.bool (sameB s t)) ∧ Kp [] w w') := fun hk => ⟨rfl, hk⟩
  cases hp : permB s.m t.m with
  | false =>
    rw [hp] at fin
    refine CG.draw0 mixed [0, 1, 2, 3, 4, 5, 6, 7, 8, 9, 10, 11, 12, 13, 14, 15, 16, 17, 18, 19, 20, 21, 22, 23, 24, 25, 26, 27, 28, 29, 30, 31] [] (by kernel_rfl) ?_
    repeat (refine cZ rfl rfl rfl (by first|((first|apply qmv|apply qlc|apply qfa|apply qnc|apply qei)<;>(first|exact rfl|assumption|exact dct (by first|assumption|omega)|exact List.not_mem_nil|fail))|fail) ?_)
    refine Der.call rfl rfl rfl (vs := [.map (some bp), .map (some cp)]) (v := .bool false) (by repeat' (first | exact True.intro | exact rho_of rfl | refine And.intro ?_ ?_)) (fun W hk _ => by rw [← hp]; exact mequal_spec (hH.pr.kp0 hk) (hC.pr.kp0 hk) f1 f2) ?_
    repeat (first | refine cZ rfl rfl rfl (by first|((first|apply qmv|apply qas|apply qpk)<;>(exact rfl))|fail) ?_ | refine Der.skip rfl rfl ?_)
    refine Der.fin (fun w1 hk1 _ _ => ?_)
    repeat (first|apply cE|apply cH)
    refine ret1 (Or.inl rfl) Try.results29 (by first | exact ResV.tmp rfl | exact ResV.agg rfl rfl (by assumption) (by first | exact dc_length _ | exact nc_length _ | exact rc_length _ _ _ | exact ec_length _ | exact dl_length _ _ _ _ | rfl) | exact ResV.cell rfl rfl (by assumption)) ?_
    exact fin hk1
  | true =>
    rw [hp] at fin
    have hs := sequal_spec hH.sh hC.sh a1 a2
    rw [e1, e2] at hs
    cases hq : permB s.l t.l with
    | false =>
      rw [hq] at fin
      refine CG.draw0 mixed [0, 1, 2, 3, 4, 5, 6, 7, 8, 9, 10, 11, 12, 13, 14, 15, 16, 17, 18, 19, 20, 21, 22, 23, 24, 25, 26, 27, 28, 29, 30, 31] [] (by kernel_rfl) ?_
      repeat (refine cZ rfl rfl rfl (by first|((first|apply qmv|apply qlc|apply qfa|apply qnc|apply qei)<;>(first|exact rfl|assumption|exact dct (by first|assumption|omega)|exact List.not_mem_nil|fail))|fail) ?_)
      refine Der.call rfl rfl rfl (vs := [.map (some bp), .map (some cp)]) (v := .bool true) (by repeat' (first | exact True.intro | exact rho_of rfl | refine And.intro ?_ ?_)) (fun W hk _ => by rw [← hp]; exact mequal_spec (hH.pr.kp0 hk) (hC.pr.kp0 hk) f1 f2) ?_
      repeat (refine cZ rfl rfl rfl (by first|((first|apply qmv|apply qlc|apply qfa|apply qnc|apply qpk)<;>(first|exact rfl|assumption|exact List.not_mem_nil))|fail) ?_)
      refine Der.call rfl rfl rfl (vs := [.map (some bs), .map (some cs), fnv 51 []]) (v := .bool false) (by repeat' (first | exact True.intro | exact rho_of rfl | refine And.intro ?_ ?_)) (fun W hk _ => by
        rw [← hq, ← e1, ← e2]
        exact sequal_spec (hH.sh.kp0 hk) (hC.sh.kp0 hk) (fun x hx => ⟨(a1 x hx).1.kp0 hk, (a1 x hx).2⟩) (fun x hx => ⟨(a2 x hx).1.kp0 hk, (a2 x hx).2⟩)) ?_
      repeat (refine cZ rfl rfl rfl (by first|((first|apply qas|apply qpk)<;>(exact rfl))|fail) ?_)
      refine Der.fin (fun w1 hk1 _ _ => ?_)
      repeat (first|apply cE|apply cH)
      refine ret1 (Or.inl rfl) Try.results29 (by first | exact ResV.tmp rfl | exact ResV.agg rfl rfl (by assumption) (by first | exact dc_length _ | exact nc_length _ | exact rc_length _ _ _ | exact ec_length _ | exact dl_length _ _ _ _ | rfl) | exact ResV.cell rfl rfl (by assumption)) ?_
      exact fin hk1
    | true =>
      rw [hq] at fin
      refine CG.draw0 mixed [0, 1, 2, 3, 4, 5, 6, 7, 8, 9, 10, 11, 12, 13, 14, 15, 16, 17, 18, 19, 20, 21, 22, 23, 24, 25, 26, 27, 28, 29, 30, 31] [] (by kernel_rfl) ?_
      repeat (refine cZ rfl rfl rfl (by first|((first|apply qmv|apply qlc|apply qfa|apply qnc|apply qei)<;>(first|exact rfl|assumption|exact dct (by first|assumption|omega)|exact List.not_mem_nil|fail))|fail) ?_)
      refine Der.call rfl rfl rfl (vs := [.map (some bp), .map (some cp)]) (v := .bool true) (by repeat' (first | exact True.intro | exact rho_of rfl | refine And.intro ?_ ?_)) (fun W hk _ => by rw [← hp]; exact mequal_spec (hH.pr.kp0 hk) (hC.pr.kp0 hk) f1 f2) ?_
      repeat (refine cZ rfl rfl rfl (by first|((first|apply qmv|apply qlc|apply qfa|apply qnc|apply qpk)<;>(first|exact rfl|assumption|exact List.not_mem_nil))|fail) ?_)
      refine Der.call rfl rfl rfl (vs := [.map (some bs), .map (some cs), fnv 51 []]) (v := .bool true) (by repeat' (first | exact True.intro | exact rho_of rfl | refine And.intro ?_ ?_)) (fun W hk _ => by
        rw [← hq, ← e1, ← e2]
        exact sequal_spec (hH.sh.kp0 hk) (hC.sh.kp0 hk) (fun x hx => ⟨(a1 x hx).1.kp0 hk, (a1 x hx).2⟩) (fun x hx => ⟨(a2 x hx).1.kp0 hk, (a2 x hx).2⟩)) ?_
      repeat (refine cZ rfl rfl rfl (by first|((first|apply qas|apply qpk)<;>(exact rfl))|fail) ?_)
      refine Der.fin (fun w1 hk1 _ _ => ?_)
      repeat (first|apply cE|apply cH)
      refine ret1 (Or.inl rfl) Try.results29 (by first | exact ResV.tmp rfl | exact ResV.agg rfl rfl (by assumption) (by first | exact dc_length _ | exact nc_length _ | exact rc_length _ _ _ | exact ec_length _ | exact dl_length _ _ _ _ | rfl) | exact ResV.cell rfl rfl (by assumption)) ?_
      exact fin hk1
end Go.Proofs.Ytajllbdeoopimaa
namespace Go.Proofs.Ytajllbdeoopimaa
set_option linter.unusedVariables false
theorem sumA_perm {κ ν : Type} (f : ν → Int) {a b : List (κ × ν)} (h : a.Perm b) : sumA f a = sumA f b := by
  induction h with
  | nil => rfl
  | cons x _ ih => simp only [sumA, ih]
  | swap x y l => simp only [sumA]; omega
  | trans _ _ i1 i2 => exact i1.trans i2
theorem sameB_t {s t : ST} (hl : s.l.Perm t.l) (hm : s.m.Perm t.m) : sameB s t = true := by
  unfold sameB
  rw [permB_t hl, permB_t hm]
  rfl
attribute [local irreducible] CG NG SG Vals Der Row Blk MapIs IterAt chkL DerX DerR
end Go.Proofs.Ytajllbdeoopimaa
namespace Go.Proofs.Ytajllbdeoopimaa
set_option linter.unusedVariables false
theorem wic_sideO {w : World} {b off : Nat} {x : Wi} (h : Row w b off (wic x)) {j : Nat} (hj : j < 2) : Row w b (off + 8 + 9 + j * 1) [Value.int .i64 (haveP x.p (j : Int))] := by
  have l1 : (dc x.peer).length = 8 := dc_length _
  have l8 : (dc x.p.name).length = 8 := dc_length _
  rcases (show j = 0 ∨ j = 1 by omega) with rfl | rfl
  · have := h.part (dc x.peer ++ (dc x.p.name ++ [Value.int .i64 x.p.num])) [Value.int .i64 x.p.h0] ([Value.int .i64 x.p.h1, x.s] ++ [Value.int .i64 x.side]) (by simp [wic, pc])
    have e : (dc x.peer ++ (dc x.p.name ++ [Value.int .i64 x.p.num])).length = 17 := by simp [l1, l8]
    rw [e] at this
    exact this
  · have := h.part (dc x.peer ++ (dc x.p.name ++ [Value.int .i64 x.p.num, Value.int .i64 x.p.h0])) [Value.int .i64 x.p.h1] ([x.s] ++ [Value.int .i64 x.side]) (by simp [wic, pc])
    have e : (dc x.peer ++ (dc x.p.name ++ [Value.int .i64 x.p.num, Value.int .i64 x.p.h0])).length = 18 := by simp [l1, l8]
    rw [e] at this
    exact this
theorem wic_heldO {w : World} {b off : Nat} {x : Wi} (h : Row w b off (wic x)) : Row w b (off + 8 + 11) [.slice x.a x.p.held.length x.c] := by
  have l1 : (dc x.peer).length = 8 := dc_length _
  have l8 : (dc x.p.name).length = 8 := dc_length _
  have := h.part (dc x.peer ++ (dc x.p.name ++ [Value.int .i64 x.p.num, Value.int .i64 x.p.h0, Value.int .i64 x.p.h1])) [x.s] [Value.int .i64 x.side] (by simp [wic, pc])
  have e : (dc x.peer ++ (dc x.p.name ++ [Value.int .i64 x.p.num, Value.int .i64 x.p.h0, Value.int .i64 x.p.h1])).length = 19 := by simp [l1, l8]
  rw [e] at this
  exact this
theorem hc_rowsO {w : World} {b off : Nat} {h : Hd} (hr : Row w b off (hc h)) : Row w b (off + 8) [Value.int .i64 h.amt] ∧ Row w b (off + 9) [Value.int .i64 h.side] := by
  have l8 : (dc h.name).length = 8 := dc_length _
  have h1 := hr.part (dc h.name) [Value.int .i64 h.amt] [Value.int .i64 h.side, Value.int .i64 h.til] (by simp [hc])
  have h2 := hr.part (dc h.name ++ [Value.int .i64 h.amt]) [Value.int .i64 h.side] [Value.int .i64 h.til] (by simp [hc])
  have e : (dc h.name ++ [Value.int .i64 h.amt]).length = 9 := by simp [l8]
  rw [l8] at h1
  rw [e] at h2
  exact ⟨h1, h2⟩
/-- What the first ones of the document's purses come to. -/
def wsum (f : Ps → Int) (L : List Wi) : Int := sumA f (L.map Wi.kv)
theorem wsum_snoc (f : Ps → Int) {L : List Wi} {i : Nat} (h : i < L.length) : wsum f (L.take (i + 1)) = wsum f (L.take i) + f L[i].ps := by
  unfold wsum
  rw [List.take_succ_eq_append_getElem h, List.map_append]
  generalize (L.take i).map Wi.kv = a
  induction a with
  | nil => simp [sumA, Wi.kv]
  | cons x a ih => rw [List.cons_append, sumA, sumA, ih]; omega
theorem wi_ok {win : Int} {s : ST} (hi : Inv win s) {L : List Wi} (h : Srt (L.map Wi.kv) s.l) : ∀ x ∈ L, ShOk ⟨x.p, x.a, x.c, x.side⟩ := fun x hx => by
  have hm : (x.peer, x.ps) ∈ s.l := h.perm.mem_iff.1 (List.mem_map_of_mem (f := Wi.kv) hx)
  obtain ⟨h1, h2⟩ := hi.ok _ _ (alook_of_mem hi.kl hm)
  have e2 : x.ps.2 = x.side := rfl
  rw [e2] at h2
  exact ⟨h1, by show 0 ≤ x.side; omega, by show x.side ≤ 1; omega⟩
theorem wi_le {x : Wi} (h : ShOk ⟨x.p, x.a, x.c, x.side⟩) : 0 ≤ backL x.ps ∧ backL x.ps ≤ 19140298416324608 ∧ 0 ≤ onL x.ps ∧ onL x.ps ≤ 19140298416324608 := by
  have := sh_le h
  rw [backS_ps, onS_ps] at this
  exact this
theorem wsum_le (f : Ps → Int) {L : List Wi} (h : ∀ x ∈ L, 0 ≤ f x.ps ∧ f x.ps ≤ 19140298416324608) : 0 ≤ wsum f L ∧ wsum f L ≤ 19140298416324608 * L.length := by
  induction L with
  | nil => simp [wsum, sumA]
  | cons x L ih =>
    have h1 := h x List.mem_cons_self
    have h2 := ih (fun y hy => h y (List.mem_cons_of_mem _ hy))
    have e : wsum f (x :: L) = f x.ps + wsum f L := rfl
    rw [e]
    simp only [List.length_cons]
    omega
attribute [local irreducible] CG NG SG Vals Der Row Blk MapIs IterAt chkL DerX DerR
set_option maxHeartbeats 32000000 in
theorem rworth_e {w : World} {v : Value} {win : Int} {s : ST} (hD : DocE w v win s) (hi : Inv win s) : Ret Try.prog 53 #[v] w (.tuple #[.int .i64 (sumA backL s.l), .int .i64 (sumA onL s.l)]) := by
  obtain ⟨L, P, aL, aP, cL, cP, hD⟩ := hD
  have hv := hD.eq
  subst hv
  have hLl := hD.lenL
  have hl16 := hi.len
  have hwo := wi_ok hi hD.srL
  have hinn := hD.inn
  have hSL := hD.sl
  rw [← sumA_perm backL hD.srL.perm, ← sumA_perm onL hD.srL.perm]
  refine enter1 Try.func53 rfl Try.ntmps53 rfl ?_
  repeat (first|apply cA|apply cB)
  refine SG.box rfl rfl rfl (by exact rho_of rfl) (fun b1 w1 hk1 hb1 hB1 => ?_)
  have hB1 : Blk w1 b1 (.cells (dhc win (.slice aL L.length cL) (.slice aP P.length cP)).toArray 50) := hB1
  obtain ⟨-, r1, -, -⟩ := dhc_rows hB1
  have fin : (Ending.returned (.tuple #[.int .i64 (wsum backL L), .int .i64 (wsum onL L)])) = .returned (.tuple #[.int .i64 (sumA backL (L.map Wi.kv)), .int .i64 (sumA onL (L.map Wi.kv))]) := rfl
  clear hB1 hD
  repeat (first|apply cA|apply cB|apply cD|apply cE|apply cG|refine cX rfl rfl rfl rfl (by first|(apply qas<;>(exact rfl))|fail) ?_)
  refine CG.loop (X := Nat) (fun i => [(1, .pointer (some ⟨b1, 0, none⟩)), (4, .int .i64 (wsum backL (L.take i))), (5, .int .i64 (wsum onL (L.take i))), (6, .int .i64 (i : Int))])
    (fun i w' => i ≤ L.length ∧ Kp [] w1 w') (fun i => L.length - i) 0 ⟨Nat.zero_le _, Kp.refl _ _⟩ (by (repeat' (first | exact True.intro | exact rfl | refine And.intro ?_ ?_))) ?_
  rintro i w2 ⟨hi2, hk2⟩
  have r1 := r1.kp0 hk2
  have k2 := hk1.trans hk2
  by_cases hlt : i < L.length
  rotate_left
  · have g1 : ¬ (i : Int) < (L.length : Int) := by omega
    rw [List.take_of_length_le (by omega)]
    repeat (first|apply cA|apply cB|apply cD|apply cE|refine cX rfl rfl rfl rfl (by first|((first|apply qmv|apply qlc|apply qfa|apply qls|apply qln)<;>(first|exact rfl|assumption|exact dcf (by first|assumption|omega)|exact List.not_mem_nil|fail))|fail) ?_)
    refine dD rfl (by exact rho_of rfl) rfl ?_
    repeat (first|apply cA|apply cB|apply cD|apply cE|apply cH|apply cJ|apply cN|refine cU rfl ?_|refine cX rfl rfl rfl rfl (by first|((first|apply qmv|apply qas)<;>(exact rfl))|fail) ?_)
    refine ret2 (Or.inl rfl) Try.results53 (by first | exact ResV.tmp rfl | exact ResV.agg rfl rfl (by assumption) (by first | exact dc_length _ | exact nc_length _ | exact rc_length _ _ _ | exact ec_length _ | exact dl_length _ _ _ _ | rfl) | exact ResV.cell rfl rfl (by assumption)) (by first | exact ResV.tmp rfl | exact ResV.agg rfl rfl (by assumption) (by first | exact dc_length _ | exact nc_length _ | exact rc_length _ _ _ | exact ec_length _ | exact dl_length _ _ _ _ | rfl) | exact ResV.cell rfl rfl (by assumption)) ?_
    exact ⟨fin, k2⟩
  have g1 : (i : Int) < (L.length : Int) := by omega
  obtain ⟨ba, oa, rfl, hri⟩ := (hSL.kp0 k2).at hlt
  have e1 := wsum_snoc backL hlt
  have e2 := wsum_snoc onL hlt
  have hx := hwo _ (List.getElem_mem hlt)
  have hxi := (hinn _ (List.getElem_mem hlt)).kp0 k2
  have b0 := wi_le hx
  have b1' := wsum_le backL (L := L.take i) (fun x hx => by have := wi_le (hwo x (List.mem_of_mem_take hx)); exact ⟨this.1, this.2.1⟩)
  have b2' := wsum_le onL (L := L.take i) (fun x hx => by have := wi_le (hwo x (List.mem_of_mem_take hx)); exact ⟨this.2.2.1, this.2.2.2⟩)
  have tl : (L.take i).length ≤ 15 := by rw [List.length_take]; omega
  generalize hxe : L[i] = x at hri e1 e2 hx hxi b0
  have eb : backL x.ps = haveP x.p x.side + ownS x.side x.p.held := (backS_ps ⟨x.p, x.a, x.c, x.side⟩).symm
  have eo : onL x.ps = haveP x.p x.side + othS x.side x.p.held := (onS_ps ⟨x.p, x.a, x.c, x.side⟩).symm
  obtain ⟨j, hj, hj2⟩ : ∃ j : Nat, x.side = (j : Int) ∧ j < 2 := ⟨x.side.toNat, by have h : 0 ≤ x.side := hx.s0; omega, by have h : 0 ≤ x.side := hx.s0; have h' : x.side ≤ 1 := hx.s1; omega⟩
  have hv : 0 ≤ haveP x.p x.side ∧ haveP x.p x.side ≤ 1125899906842624 := have_amt hx.p x.side
  have hlx : x.p.held.length ≤ 16 := hx.p.l
  have hle : ∀ h ∈ x.p.held, 0 ≤ h.amt ∧ h.amt ≤ 1125899906842624 := held_le hx.p
  generalize hA : wsum backL (L.take i) = A at e1 b1'
  generalize hB : wsum onL (L.take i) = B at e2 b2'
  refine CG.to [(1, .pointer (some ⟨b1, 0, none⟩)), (4, .int .i64 A), (5, .int .i64 B), (6, .int .i64 (i : Int))] (by rw [← hA, ← hB]; (repeat' (first | exact True.intro | exact rfl | refine And.intro ?_ ?_))) ?_
  repeat (first|apply cA|apply cB|apply cD|apply cE|refine cX rfl rfl rfl rfl (by first|((first|apply qmv|apply qlc|apply qfa|apply qls|apply qln)<;>(first|exact rfl|assumption|exact dct (by first|assumption|omega)|exact List.not_mem_nil|fail))|fail) ?_)
  refine dB rfl (by exact rho_of rfl) rfl ?_
  repeat (first|apply cA|apply cB|apply cE|apply cF|apply cG|refine cX rfl rfl rfl rfl (by first|((first|apply qmv|apply qlc|apply qla|apply qfa|apply qix)<;>(first|exact rfl|exact Ar.mk (by omega)|assumption|exact List.not_mem_nil|apply wic_length|fail))|fail) ?_)
  refine SG.alloc rfl rfl rfl (fun b7 w3 hk3 hb7 hB7 => ?_)
  refine SG.setAll (l := wic x) rfl rfl (by exact rho_of rfl) (by exact rho_of rfl) hB7 (wic_length _) rfl (wic_one _) (fun w4 hk4 hB7 => ?_)
  have hB7 : Blk w4 b7 (.cells (wic x).toArray 114) := hB7
  have k24 : Kp [] w2 w4 := hk3.trans_new hk4 (new1 (by omega))
  have hR7 : Row w4 b7 0 (wic x) := Row.all hB7 rfl
  obtain ⟨-, -, q2⟩ := wic_rowsO hR7
  have q3 := wic_sideO hR7 hj2
  have q4 := wic_heldO hR7
  rw [← hj] at q3
  have hxi := hxi.kp0 k24
  have r1 := r1.kp0 k24
  clear hR7 hB7 hri hk3 hk4
  repeat (first|apply cA|apply cD|apply cE)
  refine CG.draw0 mixed [0, 1, 2, 3, 4, 5, 6, 7, 8, 9, 10, 11, 12, 13, 14, 15, 16, 17] [] (by kernel_rfl) ?_
  repeat (refine cZ rfl rfl rfl (by first|((first|apply qia|apply qmv|apply qas|apply qlc|apply qfa|apply qad)<;>(first|exact rfl|exact Ar.mk (by omega)|assumption|exact List.not_mem_nil|fail))|fail) ?_)
  refine Der.fin (fun w5 hk5 _ _ => ?_)
  have q2 := q2.kp0 hk5
  have q4 := q4.kp0 hk5
  have r1 := r1.kp0 hk5
  have hxi := hxi.kp0 hk5
  clear q3
  repeat (first|apply cA|apply cB|apply cD|apply cE|apply cG|refine cX rfl rfl rfl rfl (by first|(apply qas<;>(exact rfl))|fail) ?_)
  refine CG.loop (X := Nat) (fun k => [(1, .pointer (some ⟨b1, 0, none⟩)), (4, .int .i64 (A + haveP x.p x.side + ownS x.side (x.p.held.take k))), (5, .int .i64 (B + haveP x.p x.side + othS x.side (x.p.held.take k))), (6, .int .i64 (i : Int)), (7, .pointer (some ⟨b7, 0, none⟩)), (8, .int .i64 (k : Int))]) (fun k w' => k ≤ x.p.held.length ∧ Kp [] w5 w') (fun k => x.p.held.length - k) 0 ⟨Nat.zero_le _, Kp.refl _ _⟩ ?_ ?_
  · refine ⟨rfl, ?_, ?_, rfl, rfl, rfl, True.intro⟩
    · show _ = some (Value.int .i64 (A + haveP x.p x.side + 0))
      rw [Int.add_zero]
      rfl
    · show _ = some (Value.int .i64 (B + haveP x.p x.side + 0))
      rw [Int.add_zero]
      rfl
  rintro k w6 ⟨hk, hk6⟩
  have q2 := q2.kp0 hk6
  have q4 := q4.kp0 hk6
  by_cases hlt2 : k < x.p.held.length
  · have g2 : (k : Int) < (x.p.held.length : Int) := by omega
    obtain ⟨bb, ob, hbb, hrk⟩ := (hxi.kp0 hk6).sl.at hlt2
    have hsn := ownS_snoc (s := x.side) hlt2
    have hsn' := othS_snoc (s := x.side) hlt2
    obtain ⟨s1, s2, s3, s4⟩ := sums_le x.side (l := x.p.held.take k) (fun h hm => hle h (List.mem_of_mem_take hm))
    have s5 := hle _ (List.getElem_mem hlt2)
    have s6 : (x.p.held.take k).length ≤ 16 := by rw [List.length_take]; omega
    obtain ⟨p1, p2⟩ := hc_rowsO hrk
    rw [hbb] at q4
    repeat (first|apply cA|apply cB|apply cD|apply cE|refine cX rfl rfl rfl rfl (by first|((first|apply qmv|apply qlc|apply qfa|apply qls|apply qln)<;>(first|exact rfl|assumption|exact dct (by first|assumption|omega)|exact List.not_mem_nil|fail))|fail) ?_)
    refine dB rfl (by exact rho_of rfl) rfl ?_
    by_cases hsd : x.p.held[k].side = x.side
    · rw [if_pos hsd] at hsn hsn'
      rw [Int.add_zero] at hsn'
      repeat (first|apply cA|apply cE|apply cF|apply cG)
      refine CG.draw0 mixed [0, 1, 2, 3, 4, 5, 6, 7, 8, 9] [] (by kernel_rfl) ?_
      repeat (refine cZ rfl rfl rfl (by first|((first|apply qei|apply qmv|apply qlc|apply qfa|apply qix|apply qei)<;>(first|exact rfl|exact Ar.mk (by omega)|assumption|exact dct (by first|assumption|omega)|exact List.not_mem_nil|fail))|fail) ?_)
      refine Der.fin (fun w7 hk7 _ _ => ?_)
      have q4 := q4.kp0 hk7
      have p1 := p1.kp0 hk7
      repeat (first|apply cE)
      refine dB rfl (by exact rho_of rfl) rfl ?_
      repeat (first|apply cB|apply cD|apply cE|apply cV|refine cX rfl rfl rfl rfl (by first|((first|apply qmv|apply qas|apply qlc|apply qfa|apply qix|apply qad)<;>(first|exact rfl|exact Ar.mk (by omega)|assumption|exact List.not_mem_nil|fail))|fail) ?_)
      refine NG.round (k + 1) ?_ ⟨by omega, hk6.trans hk7⟩ (by omega)
      rw [hsn, hsn', ← Int.add_assoc]
      (repeat' (first | exact True.intro | exact rfl | refine And.intro ?_ ?_))
    · rw [if_neg hsd] at hsn hsn'
      rw [Int.add_zero] at hsn
      repeat (first|apply cA|apply cE|apply cF|apply cG)
      refine CG.draw0 mixed [0, 1, 2, 3, 4, 5, 6, 7, 8, 9] [] (by kernel_rfl) ?_
      repeat (refine cZ rfl rfl rfl (by first|((first|apply qei|apply qmv|apply qlc|apply qfa|apply qix|apply qei)<;>(first|exact rfl|exact Ar.mk (by omega)|assumption|exact dcf (by first|assumption|omega)|exact List.not_mem_nil|fail))|fail) ?_)
      refine Der.fin (fun w7 hk7 _ _ => ?_)
      have q4 := q4.kp0 hk7
      have p1 := p1.kp0 hk7
      repeat (first|apply cE)
      refine dD rfl (by exact rho_of rfl) rfl ?_
      repeat (first|apply cB|apply cD|apply cE|apply cV|refine cX rfl rfl rfl rfl (by first|((first|apply qmv|apply qas|apply qlc|apply qfa|apply qix|apply qad)<;>(first|exact rfl|exact Ar.mk (by omega)|assumption|exact List.not_mem_nil|fail))|fail) ?_)
      refine NG.round (k + 1) ?_ ⟨by omega, hk6.trans hk7⟩ (by omega)
      rw [hsn, hsn', ← Int.add_assoc]
      (repeat' (first | exact True.intro | exact rfl | refine And.intro ?_ ?_))
  · have g2 : ¬ (k : Int) < (x.p.held.length : Int) := by omega
    rw [List.take_of_length_le (by omega)]
    repeat (first|apply cA|apply cB|apply cD|apply cE|refine cX rfl rfl rfl rfl (by first|((first|apply qmv|apply qlc|apply qfa|apply qls|apply qln)<;>(first|exact rfl|assumption|exact dcf (by first|assumption|omega)|exact List.not_mem_nil|fail))|fail) ?_)
    refine dD rfl (by exact rho_of rfl) rfl ?_
    repeat (first|apply cB|apply cD|apply cE|apply cJ|apply cN|refine cU rfl ?_|apply cV|refine cX rfl rfl rfl rfl (by first|((first|apply qmv|apply qas|apply qad)<;>(first|exact rfl|exact Ar.mk (by omega)|fail))|fail) ?_)
    refine NG.round (i + 1) ?_ ⟨by omega, ((hk2.trans k24).trans hk5).trans hk6⟩ (by omega)
    rw [e1, e2, eb, eo, ← Int.add_assoc, ← Int.add_assoc]
    (repeat' (first | exact True.intro | exact rfl | refine And.intro ?_ ?_))
theorem sameB_iff {s t : ST} {L M : List Wi} {P Q : List Pr} (h1 : Srt (L.map Wi.kv) s.l) (h2 : Srt (M.map Wi.kv) t.l) (h3 : Srt (P.map pk) s.m) (h4 : Srt (Q.map pk) t.m) : sameB s t = true ↔ (L.map Wi.kv = M.map Wi.kv ∧ P = Q) := by
  have e1 : permB s.l t.l = true ↔ L.map Wi.kv = M.map Wi.kv := by
    constructor
    · intro h
      have hp : s.l.Perm t.l := by simpa [permB] using h
      exact h1.uniq ⟨h2.perm.trans hp.symm, h2.lt⟩
    · intro h
      exact permB_t (h1.perm.symm.trans (h ▸ h2.perm))
  have e2 : permB s.m t.m = true ↔ P = Q := by
    constructor
    · intro h
      have hp : s.m.Perm t.m := by simpa [permB] using h
      have := h3.uniq ⟨h4.perm.trans hp.symm, h4.lt⟩
      exact (List.map_inj_right (fun a b h => congrArg Prod.snd h)).1 this
    · intro h
      exact permB_t (h3.perm.symm.trans (h ▸ h4.perm))
  unfold sameB
  rw [Bool.and_eq_true, e1, e2]
  exact ⟨fun ⟨a, b⟩ => ⟨b, a⟩, fun ⟨a, b⟩ => ⟨b, a⟩⟩
theorem kv_eq {L M : List Wi} (hl : L.length = M.length) (h : ∀ j (h1 : j < L.length) (h2 : j < M.length), L[j].kv = M[j].kv) : L.map Wi.kv = M.map Wi.kv := by
  refine List.ext_getElem (by simpa using hl) (fun j h1 h2 => ?_)
  rw [List.getElem_map, List.getElem_map]
  rw [List.length_map] at h1 h2
  exact h j h1 h2
theorem kv_ne {L M : List Wi} (h : L.map Wi.kv = M.map Wi.kv) {j : Nat} (h1 : j < L.length) (h2 : j < M.length) : L[j].kv = M[j].kv := by
  have e : (L.map Wi.kv)[j]? = (M.map Wi.kv)[j]? := by rw [h]
  rw [List.getElem?_map, List.getElem?_map, List.getElem?_eq_getElem h1, List.getElem?_eq_getElem h2] at e
  simpa using e
set_option maxHeartbeats 32000000 in
theorem rsm_e {w : World} {v u : Value} {win : Int} {s t : ST} (hD : DocE w v win s) (hE : DocE w u win t) (hi : Inv win s) (hj : Inv win t) (hw : 0 ≤ win ∧ win ≤ 1048576) (hms : s.m.length ≤ 1000) : Ret Try.prog 30 #[v, u] w (.bool (sameB s t)) := by
  obtain ⟨L, P, aL, aP, cL, cP, hD⟩ := hD
  obtain ⟨M, Q, aM, aQ, cM, cQ, hE⟩ := hE
  have hv := hD.eq
  have hu := hE.eq
  subst hv hu
  have hiff := sameB_iff hD.srL hE.srL hD.srP hE.srP
  have hLl := hD.lenL
  have hPl := hD.lenP
  have hl16 := hi.len
  have wo1 := wi_ok hi hD.srL
  have wo2 := wi_ok hj hE.srL
  have f1 : ∀ x ∈ P, x.Fit := fun x hx => hi.prfit hw (pk x) (hD.srP.perm.mem_iff.1 (List.mem_map_of_mem hx))
  have f2 : ∀ x ∈ Q, x.Fit := fun x hx => hj.prfit hw (pk x) (hE.srP.perm.mem_iff.1 (List.mem_map_of_mem hx))
  have i1 := hD.inn
  have i2 := hE.inn
  have sL := hD.sl
  have sM := hE.sl
  have sP := hD.sp
  have sQ := hE.sp
  have no : ∀ {w' : World}, Kp [] w w' → ¬ (L.map Wi.kv = M.map Wi.kv ∧ P = Q) → (Ending.returned (.bool false) = .returned (.bool (sameB s t)) ∧ Kp [] w w') := fun hk h => ⟨by rw [(Bool.eq_false_iff.2 (fun h2 => h (hiff.1 h2)) : sameB s t = false)], hk⟩
  clear hD hE
  refine enter2 Try.func30 rfl Try.ntmps30 rfl ?_
  repeat (first|apply cA|apply cB)
  refine SG.box rfl rfl rfl (by exact rho_of rfl) (fun b2 w1 hk1 hb2 hB2 => ?_)
  refine SG.box rfl rfl rfl (by exact rho_of rfl) (fun b3 w2 hk2 hb3 hB3 => ?_)
  have hB2 : Blk w2 b2 (.cells (dhc win (.slice aL L.length cL) (.slice aP P.length cP)).toArray 50) := hB2.kp0 hk2
  have hB3 : Blk w2 b3 (.cells (dhc win (.slice aM M.length cM) (.slice aQ Q.length cQ)).toArray 50) := hB3
  obtain ⟨r0, r1, r2, -⟩ := dhc_rows hB2
  obtain ⟨r3, r4, r5, -⟩ := dhc_rows hB3
  have k2 := hk1.trans hk2
  have ew : win = win := rfl
  clear hB2 hB3
  by_cases hlL : L.length = M.length
  rotate_left
  · have g1 : ¬ (L.length : Int) = (M.length : Int) := by omega
    repeat (first | first|apply cA|apply cB|apply cD|apply cE|refine cX rfl rfl rfl rfl (by first|((first|apply qni|apply qmv|apply qas|apply qlc|apply qfa|apply qpk|apply qni|apply qln)<;>(first|exact rfl|assumption|exact dct (by first|assumption|omega)|exact dcf (by first|assumption|omega)|exact List.not_mem_nil|fail))|fail) ?_ | refine cY rfl rfl ?_)
    refine dB rfl (by exact rho_of rfl) rfl ?_
    repeat (first|apply cA|apply cB|apply cD|apply cE|apply cH|apply cK|refine cX rfl rfl rfl rfl (by first|(apply qas<;>(exact rfl))|fail) ?_)
    refine ret1 (Or.inl rfl) Try.results30 (by first | exact ResV.tmp rfl | exact ResV.agg rfl rfl (by assumption) (by first | exact dc_length _ | exact nc_length _ | exact rc_length _ _ _ | exact ec_length _ | exact dl_length _ _ _ _ | rfl) | exact ResV.cell rfl rfl (by assumption)) ?_
    exact no k2 (fun h => hlL (by have := congrArg List.length h.1; simpa using this))
  have g1 : (L.length : Int) = (M.length : Int) := by omega
  by_cases hlP : P.length = Q.length
  rotate_left
  · have g2 : ¬ (P.length : Int) = (Q.length : Int) := by omega
    repeat (first|apply cA|apply cB|apply cD|apply cE|refine cX rfl rfl rfl rfl (by first|((first|apply qni|apply qmv|apply qas|apply qlc|apply qfa|apply qpk|apply qni|apply qln)<;>(first|exact rfl|assumption|exact dct (by first|assumption|omega)|exact dcf (by first|assumption|omega)|exact List.not_mem_nil|fail))|fail) ?_)
    refine dB rfl (by exact rho_of rfl) rfl ?_
    repeat (first|apply cA|apply cB|apply cD|apply cE|apply cH|apply cK|refine cX rfl rfl rfl rfl (by first|(apply qas<;>(exact rfl))|fail) ?_)
    refine ret1 (Or.inl rfl) Try.results30 (by first | exact ResV.tmp rfl | exact ResV.agg rfl rfl (by assumption) (by first | exact dc_length _ | exact nc_length _ | exact rc_length _ _ _ | exact ec_length _ | exact dl_length _ _ _ _ | rfl) | exact ResV.cell rfl rfl (by assumption)) ?_
    exact no k2 (fun h => hlP (by rw [h.2]))
  have g2 : (P.length : Int) = (Q.length : Int) := by omega
  repeat (first|apply cA|apply cB|apply cD|apply cE|refine cX rfl rfl rfl rfl (by first|((first|apply qni|apply qmv|apply qas|apply qlc|apply qfa|apply qpk|apply qni|apply qln)<;>(first|exact rfl|assumption|exact dct (by first|assumption|omega)|exact List.not_mem_nil|fail))|fail) ?_)
  refine dD rfl (by exact rho_of rfl) rfl ?_
  repeat (first|apply cA|apply cB|apply cD|apply cE|apply cF|apply cG|refine cX rfl rfl rfl rfl (by first|(apply qas<;>(exact rfl))|fail) ?_)
  refine CG.loop (X := Nat) (fun i => [(2, .pointer (some ⟨b2, 0, none⟩)), (3, .pointer (some ⟨b3, 0, none⟩)), (5, .int .i64 (i : Int))])
    (fun i w' => i ≤ L.length ∧ Kp [] w2 w' ∧ ∀ j (h1 : j < L.length) (h2 : j < M.length), j < i → L[j].kv = M[j].kv) (fun i => L.length - i) 0 ⟨Nat.zero_le _, Kp.refl _ _, fun j h1 h2 h => absurd h (Nat.not_lt_zero _)⟩ (by (repeat' (first | exact True.intro | exact rfl | refine And.intro ?_ ?_))) ?_
  rintro i w3 ⟨hi3, hk3, hall⟩
  have k3 := k2.trans hk3
  have r1 := r1.kp0 hk3
  have r2 := r2.kp0 hk3
  have r4 := r4.kp0 hk3
  have r5 := r5.kp0 hk3
  by_cases hlt : i < L.length
  · have g3 : (i : Int) < (L.length : Int) := by omega
    have hlt2 : i < M.length := by omega
    obtain ⟨ba, oa, rfl, hra⟩ := (sL.kp0 k3).at hlt
    obtain ⟨bb, ob, rfl, hrb⟩ := (sM.kp0 k3).at hlt2
    have ox := wo1 _ (List.getElem_mem hlt)
    have oy := wo2 _ (List.getElem_mem hlt2)
    have ix := (i1 _ (List.getElem_mem hlt)).kp0 k3
    have iy := (i2 _ (List.getElem_mem hlt2)).kp0 k3
    have hend : ¬ (L[i].kv = M[i].kv) → ∀ {w' : World}, Kp [] w3 w' → (Ending.returned (.bool false) = .returned (.bool (sameB s t)) ∧ Kp [] w w') := fun h w' hk => no (k3.trans hk) (fun h2 => h (kv_ne h2.1 hlt hlt2))
    have hcont : L[i].kv = M[i].kv → ∀ j (h1 : j < L.length) (h2 : j < M.length), j < i + 1 → L[j].kv = M[j].kv := fun h j h1 h2 h3 => by
      by_cases e : j = i
      · subst e; exact h
      · exact hall j h1 h2 (by omega)
    generalize hX : L[i] = x at hra ox ix hend hcont
    generalize hY : M[i] = y at hrb oy iy hend hcont
    obtain ⟨p1, p2, p3⟩ := wic_rowsO hra
    obtain ⟨q1, q2, q3⟩ := wic_rowsO hrb
    clear r2 r5
    by_cases e1 : x.peer = y.peer
    rotate_left
    · have hend := fun {w'} => hend (fun h => e1 (congrArg Prod.fst h)) (w' := w')
      repeat (first|apply cA|apply cB|apply cD|apply cE|refine cX rfl rfl rfl rfl (by first|((first|apply qmv|apply qlc|apply qfa|apply qls|apply qln)<;>(first|exact rfl|assumption|exact dct (by first|assumption|omega)|exact List.not_mem_nil|fail))|fail) ?_)
      refine dB rfl (by exact rho_of rfl) rfl ?_
      repeat (first|apply cA|apply cE|apply cF|apply cG)
      refine CG.draw0 mixed [0, 1, 2, 3, 4, 5, 6, 7, 8, 9, 10, 11, 12, 13, 14, 15, 16, 17, 18, 19, 20, 21, 22, 23, 24, 25, 26, 27, 28, 29, 30, 31, 32, 33, 34, 35, 36, 37, 38, 39, 40, 41, 42, 43] [] (by kernel_rfl) ?_
      repeat (first | refine cZ rfl rfl rfl (by first|((first|apply qnd|apply qmv|apply qlc|apply qla|apply qfa|apply qix|apply qpk|apply qnd)<;>(first|exact rfl|exact Ar.mk (by omega)|assumption|exact dcf (by first|assumption|omega)|exact List.not_mem_nil|apply dc_length|fail))|fail) ?_ | refine Der.skip rfl rfl ?_)
      refine Der.fin (fun w4 hk4 _ _ => ?_)
      repeat (first|apply cE)
      refine dB rfl (by exact rho_of rfl) rfl ?_
      repeat (first|apply cA|apply cB|apply cD|apply cE|apply cH|apply cK|apply NG.ret_block|refine cX rfl rfl rfl rfl (by first|(apply qas<;>(exact rfl))|fail) ?_)
      refine ret1 (Or.inl rfl) Try.results30 (by first | exact ResV.tmp rfl | exact ResV.agg rfl rfl (by assumption) (by first | exact dc_length _ | exact nc_length _ | exact rc_length _ _ _ | exact ec_length _ | exact dl_length _ _ _ _ | rfl) | exact ResV.cell rfl rfl (by assumption)) ?_
      exact hend hk4
    by_cases e2 : x.side = y.side
    rotate_left
    · have hend := fun {w'} => hend (fun h => e2 (congrArg (fun z => z.2.2) h)) (w' := w')
      repeat (first|apply cA|apply cB|apply cD|apply cE|refine cX rfl rfl rfl rfl (by first|((first|apply qmv|apply qlc|apply qfa|apply qls|apply qln)<;>(first|exact rfl|assumption|exact dct (by first|assumption|omega)|exact List.not_mem_nil|fail))|fail) ?_)
      refine dB rfl (by exact rho_of rfl) rfl ?_
      repeat (first|apply cA|apply cE|apply cF|apply cG)
      refine CG.draw0 mixed [0, 1, 2, 3, 4, 5, 6, 7, 8, 9, 10, 11, 12, 13, 14, 15, 16, 17, 18, 19, 20, 21, 22, 23, 24, 25, 26, 27, 28, 29, 30, 31, 32, 33, 34, 35, 36, 37, 38, 39, 40, 41, 42, 43] [] (by kernel_rfl) ?_
      repeat (first | refine cZ rfl rfl rfl (by first|((first|apply qni|apply qnd|apply qmv|apply qlc|apply qla|apply qfa|apply qix|apply qpk|apply qni|apply qnd)<;>(first|exact rfl|exact Ar.mk (by omega)|assumption|exact dct (by first|assumption|omega)|exact dcf (by first|assumption|omega)|exact List.not_mem_nil|apply dc_length|fail))|fail) ?_ | refine Der.skip rfl rfl ?_)
      refine Der.fin (fun w4 hk4 _ _ => ?_)
      repeat (first|apply cE)
      refine dB rfl (by exact rho_of rfl) rfl ?_
      repeat (first|apply cA|apply cB|apply cD|apply cE|apply cH|apply cK|apply NG.ret_block|refine cX rfl rfl rfl rfl (by first|(apply qas<;>(exact rfl))|fail) ?_)
      refine ret1 (Or.inl rfl) Try.results30 (by first | exact ResV.tmp rfl | exact ResV.agg rfl rfl (by assumption) (by first | exact dc_length _ | exact nc_length _ | exact rc_length _ _ _ | exact ec_length _ | exact dl_length _ _ _ _ | rfl) | exact ResV.cell rfl rfl (by assumption)) ?_
      exact hend hk4
    have hlh : x.p.held.length ≤ 16 := ox.p.l
    by_cases e3 : x.p = y.p
    · repeat (first|apply cA|apply cB|apply cD|apply cE|refine cX rfl rfl rfl rfl (by first|((first|apply qmv|apply qlc|apply qfa|apply qls|apply qln)<;>(first|exact rfl|assumption|exact dct (by first|assumption|omega)|exact List.not_mem_nil|fail))|fail) ?_)
      refine dB rfl (by exact rho_of rfl) rfl ?_
      repeat (first|apply cA|apply cE|apply cF|apply cG)
      refine CG.draw0 mixed [0, 1, 2, 3, 4, 5, 6, 7, 8, 9, 10, 11, 12, 13, 14, 15, 16, 17, 18, 19, 20, 21, 22, 23, 24, 25, 26, 27, 28, 29, 30, 31, 32, 33, 34, 35, 36, 37, 38, 39, 40, 41, 42, 43] [] (by kernel_rfl) ?_
      repeat (refine cZ rfl rfl rfl (by first|((first|apply qni|apply qnd|apply qmv|apply qlc|apply qla|apply qfa|apply qix|apply qpk|apply qni|apply qnd)<;>(first|exact rfl|exact Ar.mk (by omega)|assumption|exact dct (by first|assumption|omega)|exact List.not_mem_nil|apply dc_length|apply pc_length|fail))|fail) ?_)
      refine Der.call rfl rfl rfl (vs := [pv x.p x.s, pv y.p y.s]) (v := .bool true) (by repeat' (first | exact True.intro | exact rho_of rfl | refine And.intro ?_ ?_)) (fun W hk _ => by
        have := rsame_spec (c := x.c) (d := y.c) x.p y.p (Pu.Ok.fit ox.p) (Pu.Ok.fit oy.p) (ix.kp0 hk).sl (iy.kp0 hk).sl (by omega)
        rwa [decide_eq_true e3] at this) ?_
      repeat (refine cZ rfl rfl rfl (by first|((first|apply qpk|apply qnt)<;>(exact rfl))|fail) ?_)
      refine Der.fin (fun w4 hk4 _ _ => ?_)
      repeat (first|apply cE)
      refine dD rfl (by exact rho_of rfl) rfl ?_
      repeat (first|apply cB|apply cD|apply cE|apply cF|apply cV|refine cX rfl rfl rfl rfl (by first|((first|apply qmv|apply qas|apply qad)<;>(first|exact rfl|exact Ar.mk (by omega)|fail))|fail) ?_)
      refine NG.round (i + 1) (by (repeat' (first | exact True.intro | exact rfl | refine And.intro ?_ ?_))) ⟨by omega, hk3.trans hk4, hcont (Prod.ext e1 (Prod.ext e3 e2))⟩ (by omega)
    · have hend := fun {w'} => hend (fun h => e3 (congrArg (fun z => z.2.1) h)) (w' := w')
      repeat (first|apply cA|apply cB|apply cD|apply cE|refine cX rfl rfl rfl rfl (by first|((first|apply qmv|apply qlc|apply qfa|apply qls|apply qln)<;>(first|exact rfl|assumption|exact dct (by first|assumption|omega)|exact List.not_mem_nil|fail))|fail) ?_)
      refine dB rfl (by exact rho_of rfl) rfl ?_
      repeat (first|apply cA|apply cE|apply cF|apply cG)
      refine CG.draw0 mixed [0, 1, 2, 3, 4, 5, 6, 7, 8, 9, 10, 11, 12, 13, 14, 15, 16, 17, 18, 19, 20, 21, 22, 23, 24, 25, 26, 27, 28, 29, 30, 31, 32, 33, 34, 35, 36, 37, 38, 39, 40, 41, 42, 43] [] (by kernel_rfl) ?_
      repeat (refine cZ rfl rfl rfl (by first|((first|apply qni|apply qnd|apply qmv|apply qlc|apply qla|apply qfa|apply qix|apply qpk|apply qni|apply qnd)<;>(first|exact rfl|exact Ar.mk (by omega)|assumption|exact dct (by first|assumption|omega)|exact List.not_mem_nil|apply dc_length|apply pc_length|fail))|fail) ?_)
      refine Der.call rfl rfl rfl (vs := [pv x.p x.s, pv y.p y.s]) (v := .bool false) (by repeat' (first | exact True.intro | exact rho_of rfl | refine And.intro ?_ ?_)) (fun W hk _ => by
        have := rsame_spec (c := x.c) (d := y.c) x.p y.p (Pu.Ok.fit ox.p) (Pu.Ok.fit oy.p) (ix.kp0 hk).sl (iy.kp0 hk).sl (by omega)
        rwa [decide_eq_false e3] at this) ?_
      repeat (refine cZ rfl rfl rfl (by first|((first|apply qpk|apply qnt)<;>(exact rfl))|fail) ?_)
      refine Der.fin (fun w4 hk4 _ _ => ?_)
      repeat (first|apply cE)
      refine dB rfl (by exact rho_of rfl) rfl ?_
      repeat (first|apply cA|apply cB|apply cD|apply cE|apply cH|apply cK|apply NG.ret_block|refine cX rfl rfl rfl rfl (by first|(apply qas<;>(exact rfl))|fail) ?_)
      refine ret1 (Or.inl rfl) Try.results30 (by first | exact ResV.tmp rfl | exact ResV.agg rfl rfl (by assumption) (by first | exact dc_length _ | exact nc_length _ | exact rc_length _ _ _ | exact ec_length _ | exact dl_length _ _ _ _ | rfl) | exact ResV.cell rfl rfl (by assumption)) ?_
      exact hend hk4
  have g3 : ¬ (i : Int) < (L.length : Int) := by omega
  have hkv : L.map Wi.kv = M.map Wi.kv := kv_eq hlL (fun j h1 h2 => hall j h1 h2 (by omega))
  clear hall
  repeat (first|apply cA|apply cB|apply cD|apply cE|refine cX rfl rfl rfl rfl (by first|((first|apply qmv|apply qlc|apply qfa|apply qls|apply qln)<;>(first|exact rfl|assumption|exact dcf (by first|assumption|omega)|exact List.not_mem_nil|fail))|fail) ?_)
  refine dD rfl (by exact rho_of rfl) rfl ?_
  repeat (first|apply cA|apply cB|apply cD|apply cE|apply cG|apply cJ|apply cN|refine cU rfl ?_|refine cX rfl rfl rfl rfl (by first|(apply qas<;>(exact rfl))|fail) ?_)
  refine CG.loop (X := Nat) (fun i => [(2, .pointer (some ⟨b2, 0, none⟩)), (3, .pointer (some ⟨b3, 0, none⟩)), (6, .int .i64 (i : Int))])
    (fun i w' => i ≤ P.length ∧ Kp [] w3 w' ∧ ∀ j (h1 : j < i) (h2 : j < P.length) (h3 : j < Q.length), P[j] = Q[j]) (fun i => P.length - i) 0 ⟨Nat.zero_le _, Kp.refl _ _, fun j h => absurd h (Nat.not_lt_zero _)⟩ (by (repeat' (first | exact True.intro | exact rfl | refine And.intro ?_ ?_))) ?_
  rintro n w4 ⟨hn4, hk4, hall⟩
  have k4 := k3.trans hk4
  have r2 := r2.kp0 hk4
  have r5 := r5.kp0 hk4
  by_cases hlt : n < P.length
  · have g4 : (n : Int) < (P.length : Int) := by omega
    have hlt2 : n < Q.length := by omega
    obtain ⟨ba, oa, rfl, hra⟩ := (sP.kp0 k4).at hlt
    obtain ⟨bb, ob, rfl, hrb⟩ := (sQ.kp0 k4).at hlt2
    have fx := f1 _ (List.getElem_mem hlt)
    have fy := f2 _ (List.getElem_mem hlt2)
    by_cases e : P[n] = Q[n]
    · repeat (first|apply cA|apply cB|apply cD|apply cE|refine cX rfl rfl rfl rfl (by first|((first|apply qmv|apply qlc|apply qfa|apply qls|apply qln)<;>(first|exact rfl|assumption|exact dct (by first|assumption|omega)|exact List.not_mem_nil|fail))|fail) ?_)
      refine dB rfl (by exact rho_of rfl) rfl ?_
      repeat (first|apply cA|apply cE|apply cF|apply cG)
      refine CG.draw0 mixed [0, 1, 2, 3, 4, 5, 6, 7, 8, 9, 10] [] (by kernel_rfl) ?_
      repeat (refine cZ rfl rfl rfl (by first|((first|apply qn_rpr|apply qmv|apply qlc|apply qla|apply qfa|apply qix)<;>(first|exact rfl|exact Ar.mk (by omega)|assumption|exact dct (by first|assumption|omega)|exact List.not_mem_nil|apply prc_length|fail))|fail) ?_)
      refine Der.fin (fun w5 hk5 _ _ => ?_)
      repeat (first|apply cE)
      refine dD rfl (by exact rho_of rfl) rfl ?_
      repeat (first|apply cB|apply cD|apply cE|apply cF|apply cV|refine cX rfl rfl rfl rfl (by first|((first|apply qmv|apply qas|apply qad)<;>(first|exact rfl|exact Ar.mk (by omega)|fail))|fail) ?_)
      refine NG.round (n + 1) (by (repeat' (first | exact True.intro | exact rfl | refine And.intro ?_ ?_))) ⟨by omega, hk4.trans hk5, fun j h1 h2 h3 => ?_⟩ (by omega)
      by_cases e2 : j = n
      · subst e2; exact e
      · exact hall j (by omega) h2 h3
    · repeat (first|apply cA|apply cB|apply cD|apply cE|refine cX rfl rfl rfl rfl (by first|((first|apply qmv|apply qlc|apply qfa|apply qls|apply qln)<;>(first|exact rfl|assumption|exact dct (by first|assumption|omega)|exact List.not_mem_nil|fail))|fail) ?_)
      refine dB rfl (by exact rho_of rfl) rfl ?_
      repeat (first|apply cA|apply cE|apply cF|apply cG)
      refine CG.draw0 mixed [0, 1, 2, 3, 4, 5, 6, 7, 8, 9, 10] [] (by kernel_rfl) ?_
      repeat (refine cZ rfl rfl rfl (by first|((first|apply qn_rpr|apply qmv|apply qlc|apply qla|apply qfa|apply qix)<;>(first|exact rfl|exact Ar.mk (by omega)|assumption|exact dcf (by first|assumption|omega)|exact List.not_mem_nil|apply prc_length|fail))|fail) ?_)
      refine Der.fin (fun w5 hk5 _ _ => ?_)
      repeat (first|apply cE)
      refine dB rfl (by exact rho_of rfl) rfl ?_
      repeat (first|apply cA|apply cB|apply cD|apply cE|apply cH|apply cK|apply NG.ret_block|refine cX rfl rfl rfl rfl (by first|(apply qas<;>(exact rfl))|fail) ?_)
      refine ret1 (Or.inl rfl) Try.results30 (by first | exact ResV.tmp rfl | exact ResV.agg rfl rfl (by assumption) (by first | exact dc_length _ | exact nc_length _ | exact rc_length _ _ _ | exact ec_length _ | exact dl_length _ _ _ _ | rfl) | exact ResV.cell rfl rfl (by assumption)) ?_
      refine no (k4.trans hk5) (fun h => e ?_)
      have h2 := h.2
      subst h2
      rfl
  have g4 : ¬ (n : Int) < (P.length : Int) := by omega
  have hPQ : P = Q := eq_upto hall (by omega) hlP
  repeat (first|apply cA|apply cB|apply cD|apply cE|refine cX rfl rfl rfl rfl (by first|((first|apply qmv|apply qlc|apply qfa|apply qls|apply qln)<;>(first|exact rfl|assumption|exact dcf (by first|assumption|omega)|exact List.not_mem_nil|fail))|fail) ?_)
  refine dD rfl (by exact rho_of rfl) rfl ?_
  repeat (first|apply cA|apply cB|apply cD|apply cE|apply cH|apply cJ|apply cN|refine cU rfl ?_|refine cX rfl rfl rfl rfl (by first|(apply qas<;>(exact rfl))|fail) ?_)
  refine ret1 (Or.inl rfl) Try.results30 (by first | exact ResV.tmp rfl | exact ResV.agg rfl rfl (by assumption) (by first | exact dc_length _ | exact nc_length _ | exact rc_length _ _ _ | exact ec_length _ | exact dl_length _ _ _ _ | rfl) | exact ResV.cell rfl rfl (by assumption)) ?_
  exact ⟨by rw [hiff.2 ⟨hkv, hPQ⟩], k4⟩
end Go.Proofs.Ytajllbdeoopimaa
namespace Go.Proofs.Ytajllbdeoopimaa
set_option linter.unusedVariables false
theorem srt_of {ν : Type} {S l : List (Dg × ν)} (h : Srt S l) : srt (l.map (·.1)) = S.map (·.1) := by
  refine sorted_uniq (key := dkey) dkey_inj (srt_perm _) (h.perm.map (·.1)) (sortK_sorted _ _) ?_
  rw [List.pairwise_map]
  exact h.lt.imp (fun h => Nat.le_of_lt h)
theorem fm_self {m : Mp} : ∀ {P : List Pr}, (∀ r ∈ P, alook m r.name = some r) → (P.map (·.name)).filterMap (alook m) = P
  | [], _ => rfl
  | r :: P, h => by
    rw [List.map_cons, List.filterMap_cons, h r List.mem_cons_self, fm_self (fun q hq => h q (List.mem_cons_of_mem _ hq))]
theorem prs_of {s : ST} {P : List Pr} (h : Srt (P.map pk) s.m) : prsL s.m = P := by
  unfold prsL
  rw [srt_names h]
  exact fm_self (fun r hr => alook_of_mem (p := pk r) h.nd (h.perm.mem_iff.1 (List.mem_map_of_mem hr)))
theorem peers_of {s : ST} {L : List Wi} (h : Srt (L.map Wi.kv) s.l) : srt (s.l.map (·.1)) = L.map (·.peer) := by
  rw [srt_of h, List.map_map]
  rfl
attribute [local irreducible] CG NG SG Vals Der Row Blk MapIs IterAt chkL DerX DerR
set_option maxHeartbeats 64000000 in
theorem alike_e {w : World} {bh bs bp : Nat} {v : Value} {win : Int} {s : ST} (hH : HubE w bh bs bp win s) (hD : DocE w v win s) (hi : Inv win s) (hw : 0 ≤ win ∧ win ≤ 1048576) (hms : s.m.length ≤ 1000) : Ret Try.prog 31 #[.pointer (some ⟨bh, 0, none⟩), v] w (.bool true) := by
  obtain ⟨L, P, aL, aP, cL, cP, hD⟩ := hD
  have hv := hD.eq
  subst hv
  have hLl := hD.lenL
  have hPl := hD.lenP
  have hl16 := hi.len
  have wo := wi_ok hi hD.srL
  have fP : ∀ x ∈ P, x.Fit := fun x hx => hi.prfit hw (pk x) (hD.srP.perm.mem_iff.1 (List.mem_map_of_mem hx))
  have hkv : ∀ x ∈ L, alook s.l x.peer = some x.ps := fun x hx => alook_of_mem (p := x.kv) hi.kl (hD.srL.perm.mem_iff.1 (List.mem_map_of_mem (f := Wi.kv) hx))
  have hinn := hD.inn
  have sL := hD.sl
  have sP := hD.sp
  have epk := peers_of hD.srL
  have epr := prs_of hD.srP
  have hDE : DocE w (dhv win (.slice aL L.length cL) (.slice aP P.length cP)) win s := ⟨L, P, aL, aP, cL, cP, hD⟩
  clear hD
  refine enter2 Try.func31 rfl Try.ntmps31 rfl ?_
  repeat (first|apply cA|apply cB)
  refine SG.box rfl rfl rfl (by exact rho_of rfl) (fun b3 w1 hk1 hb3 hB3 => ?_)
  have hB3 : Blk w1 b3 (.cells (dhc win (.slice aL L.length cL) (.slice aP P.length cP)).toArray 50) := hB3
  repeat (first|apply cA|apply cB|apply cD|apply cE|refine cX rfl rfl rfl rfl (by first|((first|apply qmv|apply qas)<;>(exact rfl))|fail) ?_)
  refine SG.call rfl rfl rfl (vs := [.pointer (some ⟨bh, 0, none⟩)]) (by repeat' (first | exact True.intro | exact rho_of rfl | refine And.intro ?_ ?_)) ((peers_e (hH.kp0 hk1) (by omega)).mono (fun e w2 hh => ?_))
  obtain ⟨v5, he, ho5, hk2⟩ := hh
  refine ⟨_, he, ?_⟩
  clear he
  rw [epk] at ho5
  obtain ⟨a5, c5, rfl, -, hS5⟩ := Sl.own dc_length ho5 rfl
  have k2 := hk1.trans hk2
  repeat (first|refine cX rfl rfl rfl rfl (by first|(apply qmv<;>(exact rfl))|fail) ?_)
  refine SG.call rfl rfl rfl (vs := [.pointer (some ⟨bh, 0, none⟩)]) (by repeat' (first | exact True.intro | exact rho_of rfl | refine And.intro ?_ ?_)) ((pairs_e (hH.kp0 k2) hms).mono (fun e w3 hh => ?_))
  obtain ⟨v6, he, ho6, hk3⟩ := hh
  refine ⟨_, he, ?_⟩
  clear he
  rw [epr] at ho6
  obtain ⟨a6, c6, rfl, -, hS6⟩ := Sl.own prc_length ho6 rfl
  have k3 := k2.trans hk3
  have hS5 := hS5.kp0 hk3
  repeat (first|apply cA|apply cB|apply cD|apply cE|refine cX rfl rfl rfl rfl (by first|((first|apply qmv|apply qas)<;>(exact rfl))|fail) ?_)
  refine SG.ret rfl rfl rfl (vs := [.pointer (some ⟨bh, 0, none⟩)]) (by repeat' (first | exact True.intro | exact rho_of rfl | refine And.intro ?_ ?_)) (worth_e (hH.kp0 k3) hi) (fun w4 hk4 => ?_)
  have k4 := k3.trans hk4
  have hB4 := hB3.kp0 ((hk2.trans hk3).trans hk4)
  obtain ⟨-, -, -, r0⟩ := dhc_rows hB4
  generalize hA : sumA backL s.l = A
  generalize hB : sumA onL s.l = B
  repeat (first|apply cA|apply cB|apply cD|apply cE|refine cX rfl rfl rfl rfl (by first|((first|apply qmv|apply qas|apply qla|apply qxt)<;>(first|exact rfl|assumption|exact List.not_mem_nil))|fail) ?_)
  refine SG.ret rfl rfl rfl (vs := [dhv win (.slice aL L.length cL) (.slice aP P.length cP)]) (v := .tuple #[.int .i64 A, .int .i64 B]) (by repeat' (first | exact True.intro | exact rho_of rfl | refine And.intro ?_ ?_)) (by rw [← hA, ← hB]; exact rworth_e (hDE.kp0 k4) hi) (fun w5 hk5 => ?_)
  have k5 := k4.trans hk5
  obtain ⟨-, r1, r2, -⟩ := dhc_rows (hB4.kp0 hk5)
  have hH5 := hH.kp0 k5
  have hS5 := (hS5.kp0 hk4).kp0 hk5
  have hS6 := (hS6.kp0 hk4).kp0 hk5
  clear r0 ho5 ho6 hB3 hB4
  have hlm : (L.map (·.peer)).length = L.length := List.length_map _
  rw [hlm]
  have eL : (L.length : Int) = (L.length : Int) := rfl
  have eP : (P.length : Int) = (P.length : Int) := rfl
  have eA : A = A := rfl
  have eB : B = B := rfl
  repeat (first|apply cA|apply cB|apply cD|apply cE|refine cX rfl rfl rfl rfl (by first|((first|apply qni|apply qmv|apply qas|apply qlc|apply qfa|apply qpk|apply qni|apply qln|apply qxt)<;>(first|exact rfl|assumption|exact dct (by first|assumption|omega)|exact List.not_mem_nil|fail))|fail) ?_)
  refine dD rfl (by exact rho_of rfl) rfl ?_
  repeat (first|apply cA|apply cB|apply cD|apply cE|apply cF|apply cG|refine cX rfl rfl rfl rfl (by first|(apply qas<;>(exact rfl))|fail) ?_)
  refine CG.loop (X := Nat) (fun i => [(0, .pointer (some ⟨bh, 0, none⟩)), (3, .pointer (some ⟨b3, 0, none⟩)), (5, .slice a5 L.length c5), (6, .slice a6 P.length c6), (11, .int .i64 (i : Int))])
    (fun i w' => i ≤ L.length ∧ Kp [] w5 w') (fun i => L.length - i) 0 ⟨Nat.zero_le _, Kp.refl _ _⟩ (by (repeat' (first | exact True.intro | exact rfl | refine And.intro ?_ ?_))) ?_
  rintro i w6 ⟨hi6, hk6⟩
  have k6 := k5.trans hk6
  have r1 := r1.kp0 hk6
  have r2 := r2.kp0 hk6
  by_cases hlt : i < L.length
  · have g1 : (i : Int) < (L.length : Int) := by omega
    obtain ⟨ba, oa, rfl, hra⟩ := (sL.kp0 k6).at hlt
    obtain ⟨bb, ob, rfl, hrb⟩ := (hS5.kp0 hk6).at (show i < (L.map (·.peer)).length by rw [hlm]; exact hlt)
    rw [List.getElem_map] at hrb
    have ox := wo _ (List.getElem_mem hlt)
    have ix := (hinn _ (List.getElem_mem hlt)).kp0 k6
    have lx := hkv _ (List.getElem_mem hlt)
    generalize L[i] = x at hra hrb ox ix lx
    obtain ⟨p1, p2, p3⟩ := wic_rowsO hra
    have hlh : x.p.held.length ≤ 16 := ox.p.l
    clear r2
    repeat (first|apply cA|apply cB|apply cD|apply cE|refine cX rfl rfl rfl rfl (by first|((first|apply qmv|apply qls|apply qln)<;>(first|exact rfl|exact dct (by first|assumption|omega)|fail))|fail) ?_)
    refine dB rfl (by exact rho_of rfl) rfl ?_
    repeat (first|apply cA|apply cB|apply cE|apply cF|apply cG|refine cX rfl rfl rfl rfl (by first|((first|apply qmv|apply qlc|apply qla|apply qfa|apply qix)<;>(first|exact rfl|exact Ar.mk (by omega)|assumption|exact List.not_mem_nil|apply dc_length|fail))|fail) ?_)
    refine SG.call rfl rfl rfl (vs := [.pointer (some ⟨bh, 0, none⟩), dv x.peer]) (by repeat' (first | exact True.intro | exact rho_of rfl | refine And.intro ?_ ?_)) ((purse_e (hH5.kp0 hk6) x.peer lx).mono (fun e w7 hh => ?_))
    obtain ⟨v12, he, ⟨s12, rfl, ho12⟩, hk7⟩ := hh
    refine ⟨_, he, ?_⟩
    clear he
    obtain ⟨a12, c12, rfl, hc12, hS12⟩ := Sl.own hc_length ho12 rfl
    repeat (first|refine cX rfl rfl rfl rfl (by first|((first|apply qmv|apply qxt)<;>(exact rfl))|fail) ?_)
    refine SG.alloc rfl rfl rfl (fun b12 w8 hk8 hb12 hB12 => ?_)
    refine SG.setAll (l := pc x.p (.slice a12 x.p.held.length c12)) rfl rfl (by exact rho_of rfl) (by exact rho_of rfl) hB12 (pc_length _ _) rfl (pc_one _ _ _ _) (fun w9 hk9 hB12 => ?_)
    have hB12 : Blk w9 b12 (.cells (pc x.p (.slice a12 x.p.held.length c12)).toArray 34) := hB12
    have k79 : Kp [] w7 w9 := hk8.trans_new hk9 (new1 (by omega))
    have k69 := hk7.trans k79
    have hS12 : Sl hc 11 w9 a12 x.p.held := hS12.kp0 k79
    have hR12 : Row w9 b12 0 (pc x.p (.slice a12 x.p.held.length c12)) := Row.all hB12 rfl
    have r1 := r1.kp0 k69
    have p1 := p1.kp0 k69
    have p2 := p2.kp0 k69
    have hrb := hrb.kp0 k69
    have ix := ix.kp0 k69
    have exx : x.peer = x.peer := rfl
    clear hB12 hk8 hk9 ho12 p3 hra
    repeat (first|apply cA|apply cD|apply cE|refine cX rfl rfl rfl rfl (by first|(apply qas<;>(exact rfl))|fail) ?_)
    refine CG.draw mixed [0, 1, 2, 3, 4, 5, 6, 7, 8, 9, 10, 11, 12, 13, 14, 15, 16, 18, 19, 20, 21, 22, 23, 17, 24, 25, 26] [17] [] [] (fun _ => True) (by kernel_rfl) (by simp) (by simp) trivial (fun _ _ _ h => h) (Or.inl rfl) ?_
    repeat (refine cZ rfl rfl rfl (by first|((first|apply qnd|apply qmv|apply qlc|apply qla|apply qfa|apply qix|apply qpk|apply qnd|apply qnt)<;>(first|exact rfl|exact Ar.mk (by omega)|assumption|exact dct (by first|assumption|omega)|exact List.not_mem_nil|apply dc_length|apply pc_length|fail))|fail) ?_)
    refine Der.callG (X := Option Addr × Nat) (vs := [pv x.p (.slice a12 x.p.held.length c12)]) (fun q => pv x.p (.slice q.1 x.p.held.length q.2)) (fun q w' => Sl hc 11 w' q.1 x.p.held) rfl rfl rfl rfl (by repeat' (first | exact True.intro | exact rho_of rfl | refine And.intro ?_ ?_)) (fun q w w' hk h => h.kp0 hk) (fun _ _ _ h => h) (fun W hk _ => (bck_spec (c := c12) x.p (hS12.kp0 hk) (by omega)).mono (fun e w' hh => ?_)) (fun q => ?_)
    · obtain ⟨s', he, ho, hk'⟩ := hh
      obtain ⟨a', c', rfl, -, hS'⟩ := Sl.own hc_length ho rfl
      exact ⟨(a', c'), he, hS', hk'⟩
    obtain ⟨q1, q2⟩ := q
    refine Der.call rfl rfl rfl (vs := [pv x.p (.slice q1 x.p.held.length q2), pv x.p x.s]) (v := .bool true) (by repeat' (first | exact True.intro | exact rho_of rfl | refine And.intro ?_ ?_)) (fun W hk hF => by
      have := rsame_spec (c := q2) (d := x.c) x.p x.p (Pu.Ok.fit ox.p) (Pu.Ok.fit ox.p) hF.2 (ix.kp0 hk).sl (by omega)
      rwa [decide_eq_true rfl] at this) ?_
    repeat (refine cZ rfl rfl rfl (by first|((first|apply qpk|apply qnt)<;>(exact rfl))|fail) ?_)
    refine Der.fin (fun w10 hk10 _ _ => ?_)
    repeat (first|apply cE)
    refine dD rfl (by exact rho_of rfl) rfl ?_
    repeat (first|apply cB|apply cD|apply cE|apply cF|apply cV|refine cX rfl rfl rfl rfl (by first|((first|apply qmv|apply qas|apply qad)<;>(first|exact rfl|exact Ar.mk (by omega)|fail))|fail) ?_)
    refine NG.round (i + 1) (by (repeat' (first | exact True.intro | exact rfl | refine And.intro ?_ ?_))) ⟨by omega, (hk6.trans k69).trans hk10⟩ (by omega)
  have g1 : ¬ (i : Int) < (L.length : Int) := by omega
  clear r1
  repeat (first|apply cA|apply cB|apply cD|apply cE|refine cX rfl rfl rfl rfl (by first|((first|apply qmv|apply qls|apply qln)<;>(first|exact rfl|exact dcf (by first|assumption|omega)|fail))|fail) ?_)
  refine dD rfl (by exact rho_of rfl) rfl ?_
  repeat (first|apply cA|apply cB|apply cD|apply cE|apply cG|apply cJ|apply cN|refine cU rfl ?_|refine cX rfl rfl rfl rfl (by first|(apply qas<;>(exact rfl))|fail) ?_)
  refine CG.loop (X := Nat) (fun i => [(3, .pointer (some ⟨b3, 0, none⟩)), (6, .slice a6 P.length c6), (14, .int .i64 (i : Int))])
    (fun i w' => i ≤ P.length ∧ Kp [] w6 w') (fun i => P.length - i) 0 ⟨Nat.zero_le _, Kp.refl _ _⟩ (by (repeat' (first | exact True.intro | exact rfl | refine And.intro ?_ ?_))) ?_
  rintro n w7 ⟨hn7, hk7⟩
  have k7 := k6.trans hk7
  have r2 := r2.kp0 hk7
  by_cases hlt : n < P.length
  · have g2 : (n : Int) < (P.length : Int) := by omega
    obtain ⟨ba, oa, rfl, hra⟩ := (sP.kp0 k7).at hlt
    obtain ⟨bb, ob, rfl, hrb⟩ := ((hS6.kp0 hk6).kp0 hk7).at hlt
    have fr := fP _ (List.getElem_mem hlt)
    generalize P[n] = r at hra hrb fr
    repeat (first|apply cA|apply cB|apply cD|apply cE|refine cX rfl rfl rfl rfl (by first|((first|apply qmv|apply qls|apply qln)<;>(first|exact rfl|exact dct (by first|assumption|omega)|fail))|fail) ?_)
    refine dB rfl (by exact rho_of rfl) rfl ?_
    repeat (first|apply cA|apply cB|apply cE|apply cF|apply cG|refine cX rfl rfl rfl rfl (by first|((first|apply qmv|apply qlc|apply qla|apply qfa|apply qix)<;>(first|exact rfl|exact Ar.mk (by omega)|assumption|exact List.not_mem_nil|apply prc_length|fail))|fail) ?_)
    refine SG.alloc rfl rfl rfl (fun b15 w8 hk8 hb15 hB15 => ?_)
    refine SG.setAll (l := prc r) rfl rfl (by exact rho_of rfl) (by exact rho_of rfl) hB15 (prc_length _) rfl (prc_one _) (fun w9 hk9 hB15 => ?_)
    have hB15 : Blk w9 b15 (.cells (prc r).toArray 116) := hB15
    have k79 : Kp [] w7 w9 := hk8.trans_new hk9 (new1 (by omega))
    obtain ⟨q1, q2, q3, q4, q5⟩ := prc_rows hB15
    have q0 := prc_row0 hB15
    have hrb := hrb.kp0 k79
    have err : r = r := rfl
    clear hra hB15 hk8 hk9 r2
    repeat (first|apply cA|apply cD|apply cE)
    refine CG.draw0 mixed [0, 1, 2, 3, 4, 5, 6, 7, 8, 9, 10, 11, 12, 13, 14, 15, 16, 17] [] (by kernel_rfl) ?_
    repeat (refine cZ rfl rfl rfl (by first|((first|apply qmv|apply qlc|apply qla|apply qfa|apply qix)<;>(first|exact rfl|exact Ar.mk (by omega)|assumption|exact List.not_mem_nil|apply dc_length|apply prc_length|fail))|fail) ?_)
    refine cZ rfl rfl rfl (vals_build rfl (bpr r)) ?_
    repeat (refine cZ rfl rfl rfl (by first|(apply qn_pr<;>(first|exact rfl|assumption|exact dct (by first|assumption|omega)|fail))|fail) ?_)
    refine Der.fin (fun w10 hk10 _ _ => ?_)
    repeat (first|apply cE)
    refine dD rfl (by exact rho_of rfl) rfl ?_
    repeat (first|apply cB|apply cD|apply cE|apply cF|apply cV|refine cX rfl rfl rfl rfl (by first|((first|apply qmv|apply qas|apply qad)<;>(first|exact rfl|exact Ar.mk (by omega)|fail))|fail) ?_)
    refine NG.round (n + 1) (by (repeat' (first | exact True.intro | exact rfl | refine And.intro ?_ ?_))) ⟨by omega, (hk7.trans k79).trans hk10⟩ (by omega)
  have g2 : ¬ (n : Int) < (P.length : Int) := by omega
  repeat (first|apply cA|apply cB|apply cD|apply cE|refine cX rfl rfl rfl rfl (by first|((first|apply qmv|apply qls|apply qln)<;>(first|exact rfl|exact dcf (by first|assumption|omega)|fail))|fail) ?_)
  refine dD rfl (by exact rho_of rfl) rfl ?_
  repeat (first|apply cA|apply cB|apply cD|apply cE|apply cH|apply cJ|apply cN|refine cU rfl ?_|refine cX rfl rfl rfl rfl (by first|(apply qas<;>(exact rfl))|fail) ?_)
  refine ret1 (Or.inl rfl) Try.results31 (by first | exact ResV.tmp rfl | exact ResV.agg rfl rfl (by assumption) (by first | exact dc_length _ | exact nc_length _ | exact rc_length _ _ _ | exact ec_length _ | exact dl_length _ _ _ _ | rfl) | exact ResV.cell rfl rfl (by assumption)) ?_
  exact ⟨rfl, k7⟩
end Go.Proofs.Ytajllbdeoopimaa
namespace Go.Proofs.Ytajllbdeoopimaa
set_option linter.unusedVariables false
theorem qb8 {P : Program} {S : List Nat} {w0 : World} {F : World → Prop} {L : Env} {d : Option Nat} {ty : TypeId} {pos : String} {af : Array Edge} {g : Option (Nat × Bool)} {T T' : TypeId} [u : Ut P T (.int .u8)] {x y : Operand} {b : UInt8} (hx : ro L x = some (bv b)) (hy : ro L y = some (.int .u8 1)) : Vals P S w0 F L ⟨d, .binOp .add T x y T', ty, pos, af, g⟩ (bv (b + 1)) := fun w _ _ => by
  have e : IntKind.wrap .u8 ((b.toNat : Int) + 1) = ((b + 1).toNat : Int) := by
    have h1 := b.toNat_lt
    rw [UInt8.toNat_add]
    show _ = (((b.toNat + 1) % 256 : Nat) : Int)
    simp only [IntKind.wrap, IntKind.signed, IntKind.bits]
    simp
  simp [execOp, rho_of hx, rho_of hy, eqGuard, binOp, Op.intArith, e]
theorem qns {P : Program} {S : List Nat} {w0 : World} {F : World → Prop} {L : Env} {d : Option Nat} {ty : TypeId} {pos : String} {af : Array Edge} {g : Option (Nat × Bool)} {T T' : TypeId} [u : Ut P T .bool] {x y : Operand} {a : Bool} (hx : ro L x = some (.bool a)) (hy : ro L y = some (.bool a)) : Vals P S w0 F L ⟨d, .binOp .neq T x y T', ty, pos, af, g⟩ (.bool false) := by
  have := qnb (P := P) (S := S) (w0 := w0) (F := F) (d := d) (ty := ty) (pos := pos) (af := af) (g := g) (T' := T') (u := u) hx hy
  simpa using this
/-- The first byte, one more. -/
theorem dg_up (d : Dg) : ∃ (b : UInt8) (r : List UInt8) (y : Dg), dc d = [] ++ ([bv b] ++ r.map bv) ∧ dc y = [] ++ ([bv (b + 1)] ++ r.map bv) := by
  obtain ⟨l, hl⟩ := d
  match l, hl with
  | b :: r, hl => exact ⟨b, r, ⟨(b + 1) :: r, hl⟩, rfl, rfl⟩
theorem sameB_symm (s t : ST) : sameB s t = sameB t s := by
  unfold sameB
  have e : ∀ {α : Type} (a b : List α), permB a b = permB b a := fun a b => by
    by_cases h : a.Perm b
    · rw [permB_t h, permB_t h.symm]
    · rw [permB_f h, permB_f (fun h2 => h h2.symm)]
  rw [e s.m, e s.l]
theorem prc_amtO {w : World} {b off : Nat} {r : Pr} (h : Row w b off (prc r)) : Row w b (off + 24) [.int .i64 r.amt] := by
  have l1 : (dc r.name).length = 8 := dc_length _
  have l2 : (dc r.frm).length = 8 := dc_length _
  have l3 : (dc r.to).length = 8 := dc_length _
  have := h.part (dc r.name ++ (dc r.frm ++ dc r.to)) [.int .i64 r.amt] [.int .i64 r.inn, .int .i64 r.out] (by simp [prc])
  have e : (dc r.name ++ (dc r.frm ++ dc r.to)).length = 24 := by simp [l1, l2, l3]
  rw [e] at this
  exact this
theorem hd_up (h : Hd) : hc h = dc h.name ++ ([Value.int .i64 h.amt] ++ [Value.int .i64 h.side, .int .i64 h.til]) ∧ hc { h with amt := h.amt + 1 } = dc h.name ++ ([Value.int .i64 (h.amt + 1)] ++ [Value.int .i64 h.side, .int .i64 h.til]) := ⟨rfl, rfl⟩
theorem pr_up (r : Pr) : prc r = (dc r.name ++ (dc r.frm ++ dc r.to)) ++ ([Value.int .i64 r.amt] ++ [Value.int .i64 r.inn, .int .i64 r.out]) ∧ prc { r with amt := r.amt + 1 } = (dc r.name ++ (dc r.frm ++ dc r.to)) ++ ([Value.int .i64 (r.amt + 1)] ++ [Value.int .i64 r.inn, .int .i64 r.out]) := by
  constructor <;> simp [prc]
theorem pr_amt {win : Int} {s : ST} (hi : Inv win s) {n : Dg} {r : Pr} (h : alook s.m n = some r) : 0 ≤ r.amt ∧ r.amt ≤ 1125899906842624 := by
  obtain ⟨x, hx, ax⟩ := (hi.pr n r h).x
  have k := (hi.ok _ x hx).1.all _ (atL_mem ax).1
  have k1 := k.a0
  have k2 := k.a1
  simp only at k1 k2
  exact ⟨by omega, k2⟩
theorem prsL_mem2 {mp : Mp} {r : Pr} (h : r ∈ prsL mp) : ∃ n, alook mp n = some r := by
  obtain ⟨n, -, e⟩ := List.mem_filterMap.1 h
  exact ⟨n, e⟩
/-- Rows of other kinds stand in other blocks. -/
theorem own_neB {w : World} {base n sz base' n' sz' : Nat} {T T' : TypeId} {v : Value} {xs xs' : List Value} {g m c : Nat} (ho : w.ownsRow base T sz v n xs) (ho' : w.ownsRow base' T' sz' (.slice (some ⟨g, 0, none⟩) m c) n' xs') (hT : T' ≠ T) (hg : (Value.slice (some ⟨g, 0, none⟩) m c).ownBlock = some g) : ∀ b, v.ownBlock = some b → b ∉ [g] := by
  rcases ho'.2 with ⟨h, _⟩ | ⟨g', cap, cur, h, _, hB, _⟩
  · cases h
  · cases h
    exact own_neb ho hT hB
theorem get_set {α : Type} {l : List α} {i j : Nat} {y : α} (hne : j ≠ i) (h : j < (l.set i y).length) (h' : j < l.length) : (l.set i y)[j] = l[j] := List.getElem_set_ne (fun e => hne e.symm) _
attribute [local irreducible] CG NG SG Vals Der Row Blk MapIs IterAt chkL DerX DerR
set_option maxHeartbeats 64000000 in
theorem same_walk (w : World) (a : Option Addr) (n c : Nat) (l : List HA) (hl : l.length = n) (hS : Sl hac 40 w a l) (hin : ∀ x ∈ l, x.In w) (hn : n ≤ maxLen) (a' : Option Addr) (n' c' : Nat) (l' : List HA) (hl' : l'.length = n') (hS' : Sl hac 40 w a' l') (hin' : ∀ x ∈ l', x.In w) (hn' : n' ≤ maxLen) : Ret Try.prog 9 #[.slice a n c, .slice a' n' c'] w (.bool true) := by
  refine enter2 Try.func9 rfl Try.ntmps9 rfl ?_
  repeat (first|apply cA|apply cB|apply cD|apply cE|refine cX rfl rfl rfl rfl (by first|((first|apply qmv|apply qas)<;>(exact rfl))|fail) ?_)
  refine SG.call rfl rfl rfl (vs := [.slice a n c]) (by repeat' (first | exact True.intro | exact rho_of rfl | refine And.intro ?_ ?_)) ((made_e w a n c l hl hS hin hn).mono (fun e w1 hh => ?_))
  obtain ⟨bh, bs, bp, v, he, hk1, hM⟩ := hh
  refine ⟨_, he, ?_⟩
  clear he
  obtain ⟨hH1, hD, hinv, hml, gh, gs, gp⟩ := hM
  generalize madeS l = s at hH1 hinv hml hD
  have hDE := hD
  obtain ⟨Ld, Pd, ald, apd, cld, cpd, hD⟩ := hD
  have hv := hD.eq
  clear hD
  subst hv
  repeat (first|refine cX rfl rfl rfl rfl (by first|((first|apply qmv|apply qxt)<;>(exact rfl))|fail) ?_)
  refine SG.alloc rfl rfl rfl (fun b6 w2 hk2 hb6 hB6 => ?_)
  repeat (first|refine cX rfl rfl rfl rfl (by first|(apply qas<;>(exact rfl))|fail) ?_)
  refine SG.setAll (l := dhc 5 (.slice ald Ld.length cld) (.slice apd Pd.length cpd)) rfl rfl (by exact rho_of rfl) (by exact rho_of rfl) hB6 rfl rfl rfl (fun w3 hk3 hB6 => ?_)
  have hB6 : Blk w3 b6 (.cells (dhc 5 (.slice ald Ld.length cld) (.slice apd Pd.length cpd)).toArray 50) := hB6
  have k13 : Kp [] w1 w3 := hk2.trans_new hk3 (new1 (by omega))
  have hH3 := hH1.kp0 k13
  have hDE := hDE.kp0 k13
  have k3 := hk1.trans k13
  clear hk2 hk3 hk1 hH1 hb6
  repeat (first|apply cA|apply cB|apply cD|apply cE|refine cX rfl rfl rfl rfl (by first|(apply qmv<;>(exact rfl))|fail) ?_)
  refine SG.call rfl rfl rfl (vs := [.slice a' n' c']) (by repeat' (first | exact True.intro | exact rho_of rfl | refine And.intro ?_ ?_)) ((made_e w3 a' n' c' l' hl' (hS'.kp0 k3) (fun x hx => (hin' x hx).kp0 k3) hn').mono (fun e w4 hh => ?_))
  obtain ⟨dh, ds, dp, v2, he, hk4, hM⟩ := hh
  refine ⟨_, he, ?_⟩
  clear he
  obtain ⟨hG4, hE, hinv2, hml2, -, -, -⟩ := hM
  generalize madeS l' = t at hG4 hinv2 hml2 hE
  have hEE := hE
  obtain ⟨Le, Pe, ale, ape, cle, cpe, hE⟩ := hE
  have hv := hE.eq
  clear hE
  subst hv
  have hH4 := hH3.kp0 hk4
  have hDE := hDE.kp0 hk4
  have hB6 := hB6.kp0 hk4
  have k4 := k3.trans hk4
  repeat (first|refine cX rfl rfl rfl rfl (by first|((first|apply qmv|apply qxt)<;>(exact rfl))|fail) ?_)
  refine SG.alloc rfl rfl rfl (fun b8 w5 hk5 hb8 hB8 => ?_)
  repeat (first|refine cX rfl rfl rfl rfl (by first|(apply qas<;>(exact rfl))|fail) ?_)
  refine SG.setAll (l := dhc 5 (.slice ale Le.length cle) (.slice ape Pe.length cpe)) rfl rfl (by exact rho_of rfl) (by exact rho_of rfl) hB8 rfl rfl rfl (fun w6 hk6 hB8 => ?_)
  have hB8 : Blk w6 b8 (.cells (dhc 5 (.slice ale Le.length cle) (.slice ape Pe.length cpe)).toArray 50) := hB8
  have k46 : Kp [] w4 w6 := hk5.trans_new hk6 (new1 (by omega))
  have hH6 := hH4.kp0 k46
  have hG6 := hG4.kp0 k46
  have hDE := hDE.kp0 k46
  have hEE := hEE.kp0 k46
  have hB6 := hB6.kp0 k46
  have k6 := k4.trans k46
  have hR6 : Row w6 b6 0 (dhc 5 (.slice ald Ld.length cld) (.slice apd Pd.length cpd)) := Row.all hB6 rfl
  have hR8 : Row w6 b8 0 (dhc 5 (.slice ale Le.length cle) (.slice ape Pe.length cpe)) := Row.all hB8 rfl
  clear hk5 hk6 hH3 hH4 hG4 hb8
  have hl16 := hinv.len
  repeat (first|apply cA|apply cB|apply cD|apply cE|refine cX rfl rfl rfl rfl (by first|((first|apply qep|apply qmv|apply qpk|apply qep)<;>(exact rfl))|fail) ?_)
  refine dD rfl (by exact rho_of rfl) rfl ?_
  repeat (first|apply cA|apply cB|apply cE|apply cF|refine cX rfl rfl rfl rfl (by first|(apply qla<;>(first|exact rfl|assumption|exact List.not_mem_nil))|fail) ?_)
  generalize hsb : sameB s t = r
  refine SG.ret rfl rfl rfl (vs := [dhv 5 (.slice ald Ld.length cld) (.slice apd Pd.length cpd), dhv 5 (.slice ale Le.length cle) (.slice ape Pe.length cpe)]) (v := .bool r) (by repeat' (first | exact True.intro | exact rho_of rfl | refine And.intro ?_ ?_)) (by rw [← hsb]; exact rsm_e hDE hEE hinv hinv2 ⟨by decide, by decide⟩ (by omega)) (fun w7 hk7 => ?_)
  have hH7 := hH6.kp0 hk7
  have hG7 := hG6.kp0 hk7
  clear hR6 hR8
  repeat (first|apply cA|apply cB|apply cD|apply cE|refine cX rfl rfl rfl rfl (by first|((first|apply qmv|apply qas)<;>(exact rfl))|fail) ?_)
  refine SG.ret rfl rfl rfl (vs := [.pointer (some ⟨bh, 0, none⟩), .pointer (some ⟨dh, 0, none⟩)]) (v := .bool r) (by repeat' (first | exact True.intro | exact rho_of rfl | refine And.intro ?_ ?_)) (by rw [← hsb]; exact same_e hH7 hG7 hinv hinv2 ⟨by decide, by decide⟩) (fun w8 hk8 => ?_)
  have hH8 := hH7.kp0 hk8
  have hG8 := hG7.kp0 hk8
  repeat (first|refine cX rfl rfl rfl rfl (by first|((first|apply qns|apply qmv)<;>(exact rfl))|fail) ?_)
  refine SG.ret rfl rfl rfl (vs := [.pointer (some ⟨dh, 0, none⟩), .pointer (some ⟨bh, 0, none⟩)]) (v := .bool r) (by repeat' (first | exact True.intro | exact rho_of rfl | refine And.intro ?_ ?_)) (by rw [← hsb, sameB_symm]; exact same_e hG8 hH8 hinv2 hinv ⟨by decide, by decide⟩) (fun w9 hk9 => ?_)
  have hH9 := hH8.kp0 hk9
  repeat (first|refine cX rfl rfl rfl rfl (by first|((first|apply qns|apply qmv|apply qpk)<;>(exact rfl))|fail) ?_)
  refine SG.ret rfl rfl rfl (vs := [.pointer (some ⟨bh, 0, none⟩), .pointer (some ⟨bh, 0, none⟩)]) (v := .bool true) (by repeat' (first | exact True.intro | exact rho_of rfl | refine And.intro ?_ ?_)) (by
    have := same_e hH9 hH9 hinv hinv ⟨by decide, by decide⟩
    rwa [sameB_t (List.Perm.refl _) (List.Perm.refl _)] at this) (fun w10 hk10 => ?_)
  have hH10 := hH9.kp0 hk10
  have k710 : Kp [] w6 w10 := ((hk7.trans hk8).trans hk9).trans hk10
  have k10 := k6.trans k710
  have hDE := hDE.kp0 k710
  have hB6 := hB6.kp0 k710
  clear hH6 hH7 hH8 hH9 hG6 hG7 hG8 hB8 hEE
  repeat (first|apply cD|apply cE|refine cX rfl rfl rfl rfl (by first|((first|apply qpk|apply qnt)<;>(exact rfl))|fail) ?_)
  refine dD rfl (by exact rho_of rfl) rfl ?_
  repeat (first|apply cA|apply cB|apply cE|apply cF|refine cX rfl rfl rfl rfl (by first|(apply qmv<;>(exact rfl))|fail) ?_)
  refine SG.call rfl rfl rfl (vs := [.pointer (some ⟨bh, 0, none⟩)]) (by repeat' (first | exact True.intro | exact rho_of rfl | refine And.intro ?_ ?_)) ((peers_e hH10 (by omega)).mono (fun e w11 hh => ?_))
  obtain ⟨v10, he, ho10, hk11⟩ := hh
  refine ⟨_, he, ?_⟩
  clear he
  repeat (first|refine cX rfl rfl rfl rfl (by first|(apply qmv<;>(exact rfl))|fail) ?_)
  refine SG.call rfl rfl rfl (vs := [.pointer (some ⟨bh, 0, none⟩)]) (by repeat' (first | exact True.intro | exact rho_of rfl | refine And.intro ?_ ?_)) ((pairs_e (hH10.kp0 hk11) (by omega)).mono (fun e w12 hh => ?_))
  obtain ⟨v11, he, ho11, hk12⟩ := hh
  refine ⟨_, he, ?_⟩
  clear he
  have k1012 := hk11.trans hk12
  have ho10 := own_kp0 ho10 hk12
  have ho11 := own_mono ho11 hk11.size
  obtain ⟨a10, c10, rfl, -, -⟩ := Sl.own dc_length ho10 rfl
  obtain ⟨a11, c11, rfl, -, -⟩ := Sl.own prc_length ho11 rfl
  have hlk := srt_look s.l
  have hpr : ∀ r ∈ prsL s.m, 0 ≤ r.amt ∧ r.amt ≤ 1125899906842624 := fun r hr => by
    obtain ⟨m, hm⟩ := prsL_mem2 hr
    exact pr_amt hinv hm
  have hkl : (srt (s.l.map (·.1))).length ≤ 16 := by rw [(srt_perm _).length_eq, List.length_map]; exact hl16
  have hpl : (prsL s.m).length ≤ 20 := by rw [prsL_len]; exact hml
  generalize srt (s.l.map (·.1)) = ks at ho10 hlk hkl
  generalize prsL s.m = ps at ho11 hpr hpl
  have s1012 := k1012.size
  repeat (first|apply cA|apply cB|apply cD|apply cE|apply cG|refine cX rfl rfl rfl rfl (by first|(apply qas<;>(exact rfl))|fail) ?_)
  refine CG.loop (X := Nat × List Dg) (fun x => [(5, .pointer (some ⟨bh, 0, none⟩)), (6, .pointer (some ⟨b6, 0, none⟩)), (10, .slice a10 ks.length c10), (11, .slice a11 ps.length c11), (12, .int .i64 (x.1 : Int))])
    (fun x w' => x.1 ≤ ks.length ∧ Kp [] w10 w' ∧ w12.heap.size ≤ w'.heap.size ∧ x.2.length = ks.length ∧ w'.ownsRow w10.heap.size 25 8 (.slice a10 ks.length c10) ks.length (flt dc x.2) ∧ w'.ownsRow w10.heap.size 54 27 (.slice a11 ps.length c11) ps.length (flt prc ps) ∧ ∀ j (h1 : j < x.2.length) (h2 : j < ks.length), x.1 ≤ j → x.2[j] = ks[j]) (fun x => ks.length - x.1) (0, ks) ⟨Nat.zero_le _, k1012, Nat.le_refl _, rfl, ho10, ho11, fun j h1 h2 h => rfl⟩ (by (repeat' (first | exact True.intro | exact rfl | refine And.intro ?_ ?_))) ?_
  rintro ⟨i, ls⟩ w13 ⟨hi13, hk13, hs13, hll, ho10, ho11, hls⟩
  simp only at hi13 hll ho10 hls
  refine CG.to [(5, .pointer (some ⟨bh, 0, none⟩)), (6, .pointer (some ⟨b6, 0, none⟩)), (10, .slice a10 ks.length c10), (11, .slice a11 ps.length c11), (12, .int .i64 (i : Int))] (by (repeat' (first | exact True.intro | exact rfl | refine And.intro ?_ ?_))) ?_
  by_cases hlt : i < ks.length
  · have g1 : (i : Int) < (ks.length : Int) := by omega
    obtain ⟨g, cap, hv10, hcap⟩ := own_slice ho10 (by omega)
    simp only [Value.slice.injEq, true_and] at hv10
    obtain ⟨rfl, rfl⟩ := hv10
    have hgb : w10.heap.size ≤ g := own_geB ho10 g rfl
    have hlt' : i < ls.length := by omega
    have hri := own_at dc_length ho10 hll hlt'
    rw [hls i hlt' hlt (Nat.le_refl _)] at hri
    obtain ⟨x, hx⟩ := hlk _ (List.getElem_mem hlt)
    have hxo := (hinv.ok _ x hx).1
    have hx16 := hxo.l
    have hxa := held_le hxo
    have hdi : ls[i] = ks[i] := hls i hlt' hlt (Nat.le_refl _)
    repeat (first|apply cA|apply cB|apply cD|apply cE|refine cX rfl rfl rfl rfl (by first|((first|apply qmv|apply qls|apply qln)<;>(first|exact rfl|exact dct (by first|assumption|omega)|fail))|fail) ?_)
    refine dB rfl (by exact rho_of rfl) rfl ?_
    repeat (first|apply cA|apply cB|apply cE|apply cF|apply cG|refine cX rfl rfl rfl rfl (by first|((first|apply qmv|apply qla|apply qix)<;>(first|exact rfl|exact Ar.mk (by omega)|assumption|exact List.not_mem_nil|apply dc_length|fail))|fail) ?_)
    refine SG.call rfl rfl rfl (vs := [.pointer (some ⟨bh, 0, none⟩), dv ks[i]]) (by repeat' (first | exact True.intro | exact rho_of rfl | refine And.intro ?_ ?_)) ((purse_e (hH10.kp0 hk13) ks[i] hx).mono (fun e w14 hh => ?_))
    obtain ⟨v13, he, ⟨s13, rfl, ho13⟩, hk14⟩ := hh
    refine ⟨_, he, ?_⟩
    clear he hri
    obtain ⟨a13, c13, rfl, -, -⟩ := Sl.own hc_length ho13 rfl
    repeat (first|refine cX rfl rfl rfl rfl (by first|((first|apply qmv|apply qxt)<;>(exact rfl))|fail) ?_)
    refine SG.alloc rfl rfl rfl (fun b13 w15 hk15 hb13 hB13 => ?_)
    refine SG.setAll (l := pc x.1 (.slice a13 x.1.held.length c13)) rfl rfl (by exact rho_of rfl) (by exact rho_of rfl) hB13 (pc_length _ _) rfl (pc_one _ _ _ _) (fun w16 hk16 hB13 => ?_)
    have hB13 : Blk w16 b13 (.cells (pc x.1 (.slice a13 x.1.held.length c13)).toArray 34) := hB13
    have k1416 : Kp [] w14 w16 := hk15.trans_new hk16 (new1 (by omega))
    have ho13 := own_kp0 ho13 k1416
    have k1316 := hk14.trans k1416
    have s1316 := k1316.size
    have s1013 := hk13.size
    clear hk15 hk16
    repeat (first|apply cA|apply cB|apply cD|apply cE|apply cG|refine cX rfl rfl rfl rfl (by first|(apply qas<;>(exact rfl))|fail) ?_)
    refine CG.loop (X := Nat × List Hd) (fun y => [(5, .pointer (some ⟨bh, 0, none⟩)), (6, .pointer (some ⟨b6, 0, none⟩)), (10, .slice (some ⟨g, 0, none⟩) ks.length c10), (11, .slice a11 ps.length c11), (12, .int .i64 (i : Int)), (13, .pointer (some ⟨b13, 0, none⟩)), (15, .int .i64 (y.1 : Int))])
      (fun y w' => y.1 ≤ x.1.held.length ∧ Kp [] w13 w' ∧ w16.heap.size ≤ w'.heap.size ∧ y.2.length = x.1.held.length ∧ Blk w' b13 (.cells (pc x.1 (.slice a13 x.1.held.length c13)).toArray 34) ∧ w'.ownsRow w13.heap.size 56 11 (.slice a13 x.1.held.length c13) x.1.held.length (flt hc y.2) ∧ ∀ j (h1 : j < y.2.length) (h2 : j < x.1.held.length), y.1 ≤ j → y.2[j] = x.1.held[j]) (fun y => x.1.held.length - y.1) (0, x.1.held) ⟨Nat.zero_le _, k1316, Nat.le_refl _, rfl, hB13, ho13, fun j h1 h2 h => rfl⟩ (by (repeat' (first | exact True.intro | exact rfl | refine And.intro ?_ ?_))) ?_
    clear hB13 ho13
    rintro ⟨k, hs⟩ w17 ⟨hk17a, hk17, hs17, hhl, hB13, ho13, hhs⟩
    simp only at hk17a hhl ho13 hhs
    refine CG.to [(5, .pointer (some ⟨bh, 0, none⟩)), (6, .pointer (some ⟨b6, 0, none⟩)), (10, .slice (some ⟨g, 0, none⟩) ks.length c10), (11, .slice a11 ps.length c11), (12, .int .i64 (i : Int)), (13, .pointer (some ⟨b13, 0, none⟩)), (15, .int .i64 (k : Int))] (by (repeat' (first | exact True.intro | exact rfl | refine And.intro ?_ ?_))) ?_
    obtain ⟨-, -, -, -, r4, -⟩ := pc_rows hB13
    by_cases hlt2 : k < x.1.held.length
    · have g2 : (k : Int) < (x.1.held.length : Int) := by omega
      obtain ⟨h, caph, hv13, hcaph⟩ := own_slice ho13 (by omega)
      simp only [Value.slice.injEq, true_and] at hv13
      obtain ⟨rfl, rfl⟩ := hv13
      have hgh : w13.heap.size ≤ h := own_geB ho13 h rfl
      have hlt2' : k < hs.length := by omega
      have hrk := own_at hc_length ho13 hhl hlt2'
      have hek := hhs k hlt2' hlt2 (Nat.le_refl _)
      have hnh : b13 ≠ h := fun e => by
        have := own_neb ho13 (by decide) hB13 h rfl
        exact this (by rw [e]; exact List.mem_singleton.2 rfl)
      obtain ⟨p1, -⟩ := hc_rowsO hrk
      have ha := hxa hs[k] (by rw [hek]; exact List.getElem_mem hlt2)
      repeat (first|apply cA|apply cB|apply cD|apply cE|refine cX rfl rfl rfl rfl (by first|((first|apply qmv|apply qlc|apply qfa|apply qls|apply qln)<;>(first|exact rfl|assumption|exact dct (by first|assumption|omega)|exact List.not_mem_nil|fail))|fail) ?_)
      refine dB rfl (by exact rho_of rfl) rfl ?_
      repeat (first|apply cA|apply cB|apply cE|apply cF|apply cG|refine cX rfl rfl rfl rfl (by first|((first|apply qmv|apply qlc|apply qfa|apply qix|apply qad)<;>(first|exact rfl|exact Ar.mk (by omega)|assumption|exact List.not_mem_nil|fail))|fail) ?_)
      refine SG.storeP (y := { hs[k] with amt := hs[k].amt + 1 }) (k := k) (v := .int .i64 (hs[k].amt + 1)) (dc hs[k].name) [Value.int .i64 hs[k].amt] [Value.int .i64 (hs[k].amt + 1)] [Value.int .i64 hs[k].side, .int .i64 hs[k].til] hc_length rfl rfl (by exact rho_of rfl) (by rw [dc_length]) (by exact rho_of rfl) ho13 hhl hlt2' (hd_up _).1 (hd_up _).2 rfl rfl rfl rfl (fun w18 hk18 ho18 => ?_)
      repeat (first|apply cB|apply cD|apply cE|apply cV|refine cX rfl rfl rfl rfl (by first|((first|apply qmv|apply qas|apply qad)<;>(first|exact rfl|exact Ar.mk (by omega)|fail))|fail) ?_)
      refine NG.round (k + 1, hs.set k { hs[k] with amt := hs[k].amt + 1 }) (by (repeat' (first | exact True.intro | exact rfl | refine And.intro ?_ ?_))) ⟨by show k + 1 ≤ _; omega, hk17.trans_new hk18 (new1 hgh), Nat.le_trans hs17 hk18.size, by simp only [List.length_set]; exact hhl, hB13.kp hk18 (nm1 hnh), ho18, fun j h1 h2 h3 => ?_⟩ (by show x.1.held.length - (k + 1) < x.1.held.length - k; omega)
      simp only [List.length_set] at h1 h3
      simp only
      rw [get_set (by omega) (by rw [List.length_set]; exact h1) h1]
      exact hhs j h1 h2 (by omega)
    have g2 : ¬ (k : Int) < (x.1.held.length : Int) := by omega
    have ho10' : w17.ownsRow w10.heap.size 25 8 (.slice (some ⟨g, 0, none⟩) ks.length c10) ks.length (flt dc ls) := own_kp0 ho10 hk17
    have ho11' : w17.ownsRow w10.heap.size 54 27 (.slice a11 ps.length c11) ps.length (flt prc ps) := own_kp0 ho11 hk17
    have hri := own_at dc_length ho10' hll hlt'
    obtain ⟨u, rr, y, e1, e2⟩ := dg_up ls[i]
    rw [e1] at hri
    have hu : Row w17 g (0 + i * 8 + 0 * 1) [bv u] := hri.part [] [bv u] (rr.map bv) rfl
    clear hri
    repeat (first|apply cA|apply cB|apply cD|apply cE|refine cX rfl rfl rfl rfl (by first|((first|apply qmv|apply qlc|apply qfa|apply qls|apply qln)<;>(first|exact rfl|assumption|exact dcf (by first|assumption|omega)|exact List.not_mem_nil|fail))|fail) ?_)
    refine dD rfl (by exact rho_of rfl) rfl ?_
    repeat (first|apply cE|apply cJ|apply cN|refine cU rfl ?_)
    clear r4
    refine CG.tail mixed 8 [0, 1, 2, 3, 4, 5, 6, 7] (by kernel_rfl) ?_
    repeat (refine cZ rfl rfl rfl (by first|((first|apply qb8|apply qia0|apply qmv|apply qlc|apply qix)<;>(first|exact rfl|exact Ar.mk (by omega)|assumption|exact List.not_mem_nil|fail))|fail) ?_)
    refine Der.tl (fun w18 hk18 _ _ => ?_)
    refine SG.storeP (y := y) (k := i) (v := bv (u + 1)) [] [bv u] [bv (u + 1)] (rr.map bv) dc_length rfl rfl (by exact rho_of rfl) rfl (by exact rho_of rfl) (own_kp0 ho10' hk18) hll hlt' e1 e2 rfl rfl rfl rfl (fun w19 hk19 ho19 => ?_)
    have k1719 : Kp [g] w17 w19 := hk18.any.trans hk19
    have k1319 : Kp [g] w13 w19 := hk17.any.trans k1719
    repeat (first|apply cB|apply cD|apply cE|apply cV|refine cX rfl rfl rfl rfl (by first|((first|apply qmv|apply qas|apply qad)<;>(first|exact rfl|exact Ar.mk (by omega)|fail))|fail) ?_)
    refine NG.round (i + 1, ls.set i y) (by (repeat' (first | exact True.intro | exact rfl | refine And.intro ?_ ?_))) ⟨by show i + 1 ≤ _; omega, hk13.trans_new k1319 (new1 hgb), Nat.le_trans hs13 k1319.size, by simp only [List.length_set]; exact hll, ho19, ?_, fun j h1 h2 h3 => ?_⟩ (by show ks.length - (i + 1) < ks.length - i; omega)
    · refine own_kp (own_kp0 ho11' hk18) hk19 ?_
      exact own_neB (own_kp0 ho11' hk18) (own_kp0 ho10' hk18) (by decide) rfl
    · simp only [List.length_set] at h1 h3
      simp only
      rw [get_set (by omega) (by rw [List.length_set]; exact h1) h1]
      exact hls j h1 h2 (by omega)
  have g1 : ¬ (i : Int) < (ks.length : Int) := by omega
  clear ho10 hls hll
  repeat (first|apply cA|apply cB|apply cD|apply cE|refine cX rfl rfl rfl rfl (by first|((first|apply qmv|apply qls|apply qln)<;>(first|exact rfl|exact dcf (by first|assumption|omega)|fail))|fail) ?_)
  refine dD rfl (by exact rho_of rfl) rfl ?_
  repeat (first|apply cA|apply cB|apply cD|apply cE|apply cG|apply cJ|apply cN|refine cU rfl ?_|refine cX rfl rfl rfl rfl (by first|(apply qas<;>(exact rfl))|fail) ?_)
  refine CG.loop (X := Nat × List Pr) (fun x => [(5, .pointer (some ⟨bh, 0, none⟩)), (6, .pointer (some ⟨b6, 0, none⟩)), (11, .slice a11 ps.length c11), (16, .int .i64 (x.1 : Int))])
    (fun x w' => x.1 ≤ ps.length ∧ Kp [] w10 w' ∧ x.2.length = ps.length ∧ w'.ownsRow w10.heap.size 54 27 (.slice a11 ps.length c11) ps.length (flt prc x.2) ∧ ∀ j (h1 : j < x.2.length) (h2 : j < ps.length), x.1 ≤ j → x.2[j] = ps[j]) (fun x => ps.length - x.1) (0, ps) ⟨Nat.zero_le _, hk13, rfl, ho11, fun j h1 h2 h => rfl⟩ (by (repeat' (first | exact True.intro | exact rfl | refine And.intro ?_ ?_))) ?_
  clear ho11
  rintro ⟨m, qs⟩ w14 ⟨hm14, hk14, hql, ho11, hqs⟩
  simp only at hm14 hql ho11 hqs
  refine CG.to [(5, .pointer (some ⟨bh, 0, none⟩)), (6, .pointer (some ⟨b6, 0, none⟩)), (11, .slice a11 ps.length c11), (16, .int .i64 (m : Int))] (by (repeat' (first | exact True.intro | exact rfl | refine And.intro ?_ ?_))) ?_
  by_cases hlt3 : m < ps.length
  · have g2 : (m : Int) < (ps.length : Int) := by omega
    obtain ⟨g, capg, hv11, hcapg⟩ := own_slice ho11 (by omega)
    simp only [Value.slice.injEq, true_and] at hv11
    obtain ⟨rfl, rfl⟩ := hv11
    have hgb : w10.heap.size ≤ g := own_geB ho11 g rfl
    have hlt3' : m < qs.length := by omega
    have hrk := own_at prc_length ho11 hql hlt3'
    have hek := hqs m hlt3' hlt3 (Nat.le_refl _)
    have ha := hpr qs[m] (by rw [hek]; exact List.getElem_mem hlt3)
    have p1 := prc_amtO hrk
    have l1 : (dc qs[m].name ++ (dc qs[m].frm ++ dc qs[m].to)).length = 24 := by simp [dc_length]
    repeat (first|apply cA|apply cB|apply cD|apply cE|refine cX rfl rfl rfl rfl (by first|((first|apply qmv|apply qls|apply qln)<;>(first|exact rfl|exact dct (by first|assumption|omega)|fail))|fail) ?_)
    refine dB rfl (by exact rho_of rfl) rfl ?_
    repeat (first|apply cA|apply cB|apply cE|apply cF|apply cG|refine cX rfl rfl rfl rfl (by first|((first|apply qmv|apply qlc|apply qfa|apply qix|apply qad)<;>(first|exact rfl|exact Ar.mk (by omega)|assumption|exact List.not_mem_nil|fail))|fail) ?_)
    refine SG.storeP (y := { qs[m] with amt := qs[m].amt + 1 }) (k := m) (v := .int .i64 (qs[m].amt + 1)) (dc qs[m].name ++ (dc qs[m].frm ++ dc qs[m].to)) [Value.int .i64 qs[m].amt] [Value.int .i64 (qs[m].amt + 1)] [Value.int .i64 qs[m].inn, .int .i64 qs[m].out] prc_length rfl rfl (by exact rho_of rfl) (by rw [l1]) (by exact rho_of rfl) ho11 hql hlt3' (pr_up _).1 (pr_up _).2 rfl rfl rfl rfl (fun w15 hk15 ho15 => ?_)
    repeat (first|apply cB|apply cD|apply cE|apply cV|refine cX rfl rfl rfl rfl (by first|((first|apply qmv|apply qas|apply qad)<;>(first|exact rfl|exact Ar.mk (by omega)|fail))|fail) ?_)
    refine NG.round (m + 1, qs.set m { qs[m] with amt := qs[m].amt + 1 }) (by (repeat' (first | exact True.intro | exact rfl | refine And.intro ?_ ?_))) ⟨by show m + 1 ≤ _; omega, hk14.trans_new hk15 (new1 hgb), by simp only [List.length_set]; exact hql, ho15, fun j h1 h2 h3 => ?_⟩ (by show ps.length - (m + 1) < ps.length - m; omega)
    simp only [List.length_set] at h1 h3
    simp only
    rw [get_set (by omega) (by rw [List.length_set]; exact h1) h1]
    exact hqs j h1 h2 (by omega)
  have g2 : ¬ (m : Int) < (ps.length : Int) := by omega
  repeat (first|apply cA|apply cB|apply cD|apply cE|refine cX rfl rfl rfl rfl (by first|((first|apply qmv|apply qls|apply qln)<;>(first|exact rfl|exact dcf (by first|assumption|omega)|fail))|fail) ?_)
  refine dD rfl (by exact rho_of rfl) rfl ?_
  repeat (first|apply cA|apply cB|apply cE|apply cJ|apply cN|refine cU rfl ?_)
  refine SG.ret rfl rfl rfl (vs := []) (by repeat' (first | exact True.intro | exact rho_of rfl | refine And.intro ?_ ?_)) (known_spec w14) (fun w15 hk15 => ?_)
  have k1015 := hk14.trans hk15
  have hR6 : Row w15 b6 0 (dhc 5 (.slice ald Ld.length cld) (.slice apd Pd.length cpd)) := Row.all (hB6.kp0 k1015) rfl
  repeat (first|refine cX rfl rfl rfl rfl (by first|((first|apply qmv|apply qla)<;>(first|exact rfl|assumption|exact List.not_mem_nil))|fail) ?_)
  refine SG.ret rfl rfl rfl (vs := [.pointer (some ⟨bh, 0, none⟩), dhv 5 (.slice ald Ld.length cld) (.slice apd Pd.length cpd)]) (v := .bool true) (by repeat' (first | exact True.intro | exact rho_of rfl | refine And.intro ?_ ?_)) (alike_e (hH10.kp0 k1015) (hDE.kp0 k1015) hinv ⟨by decide, by decide⟩ (by omega)) (fun w16 hk16 => ?_)
  repeat (first|apply cD|apply cE|apply cH|refine cX rfl rfl rfl rfl (by first|((first|apply qas|apply qpk)<;>(exact rfl))|fail) ?_)
  refine ret1 (Or.inl rfl) Try.results9 (by first | exact ResV.tmp rfl | exact ResV.agg rfl rfl (by assumption) (by first | exact dc_length _ | exact nc_length _ | exact rc_length _ _ _ | exact ec_length _ | exact dl_length _ _ _ _ | rfl) | exact ResV.cell rfl rfl (by assumption)) ?_
  exact ⟨rfl, (k10.trans k1015).trans hk16⟩
end Go.Proofs.Ytajllbdeoopimaa
namespace Go.Proofs.Ytajllbdeoopimaa
open Go.ChangeShapes Go.WideShapes Go.ChangeAt Go.RowKit
set_option linter.unusedVariables false
theorem cellsE : Try.prog.cellsOf 24 = 8 := by kernel_rfl
theorem cellsH : Try.prog.cellsOf 104 = 11 := by kernel_rfl
theorem cellsS : Try.prog.cellsOf 61 = 1 := by kernel_rfl
theorem cellsZ : Try.prog.cellsOf 31 = 2 := by kernel_rfl
theorem cellsP : Try.prog.cellsOf 63 = 12 := by kernel_rfl
theorem cellsA : Try.prog.cellsOf 65 = 40 := by kernel_rfl
theorem fit_of {n : Int} (h : (Lit.int .i64 n).wf = true) : fitZ n := i64_of h
/-- The elements of a slice, by how one is read. -/
theorem elems_of {H α : Type} {en : TypeId × Value → H} {P : Program} {w : World} {e : TypeId} {a : Option Addr} {n : Nat} (enc : α → List Value) (p : α → Prop) (h : SlOf en P w e a n)
    (rd : ∀ cs fuel y, DataW.trod en P w 0 (fun _ => true) true fuel e cs = some y → ∃ x : α, cs = enc x ∧ p x) : ∃ l : List α, l.length = n ∧ Sl enc (P.cellsOf e) w a l ∧ ∀ x ∈ l, p x := by
  have key : ∀ i : _root_.Fin n, ∃ x : α, (∃ b off, a = some ⟨b, off, none⟩ ∧ Row w b (off + i.1 * P.cellsOf e) (enc x)) ∧ p x := by
    intro i
    obtain ⟨b, off, cs, fuel, y, h1, h2, h3, h4⟩ := h.row i.1 i.2
    obtain ⟨x, rfl, hp⟩ := rd cs fuel y h4
    exact ⟨x, ⟨b, off, h1, h2⟩, hp⟩
  refine ⟨List.ofFn (fun i => Classical.choose (key i)), by simp, fun i x hx => ?_, fun x hx => ?_⟩
  · rw [List.getElem?_ofFn] at hx
    split at hx
    · rename_i hi
      cases hx
      exact (Classical.choose_spec (key ⟨i, hi⟩)).1
    · cases hx
  · obtain ⟨i, rfl⟩ := List.mem_ofFn.1 hx
    exact (Classical.choose_spec (key i)).2
theorem cut_drop {α : Type} (l : List α) (a n : Nat) : l.drop a = (l.drop a).take n ++ l.drop (a + n) := by
  rw [← List.drop_drop, List.take_append_drop]
theorem sl_cell {H : Type} {enc : TypeId × Value → H} {P : Program} {w : World} {t e : TypeId} {cs : List Value} {fuel : Nat} {y : DataW H × List MemPlace} (ht : P.underlying t = some (.slice e)) (he : 0 < P.cellsOf e)
    (hf : DataW.trod enc P w 0 (fun _ => true) true fuel t cs = some y) : ∃ a n c, cs = [.slice a n c] ∧ n ≤ c ∧ c ≤ maxLen ∧ SlOf enc P w e a n := by
  rcases Go.Deep.open_slice ht hf with ⟨hc, _⟩ | ⟨a, len, cap, m, n, D, Pl, hc, _, hl, hm, hmm, _, hall⟩
  · exact ⟨none, 0, 0, hc, by omega, by omega, ⟨fun i hi => by omega⟩⟩
  · subst hc
    have hmc : m = cap := by rw [hmm]; simp
    refine ⟨some a, len, cap, rfl, hl, hm, ⟨fun i hi => ?_⟩⟩
    obtain ⟨cs0, h10, _⟩ := hall 0 (by omega)
    obtain ⟨b, off, ha, _, _⟩ := row_of_cells h10 he
    have ha' : a = ⟨b, off, none⟩ := by simpa [Addr.add] using ha
    subst ha'
    obtain ⟨cs, h1, h2⟩ := hall i (by omega)
    rw [add_none] at h1
    obtain ⟨b2, off2, hb2, hr, hlen⟩ := row_of_cells h1 he
    cases hb2
    exact ⟨b, off, cs, n, _, rfl, hr, hlen, h2⟩
set_option maxRecDepth 100000 in
theorem hdc_of {H : Type} {enc : TypeId × Value → H} {w : World} {cs : List Value} {fuel : Nat} {y : DataW H × List MemPlace} (h : DataW.trod enc Try.prog w 0 (fun _ => true) true fuel 104 cs = some y) : ∃ o : Hd, cs = hc o := by
  obtain ⟨xs, m, _, _, hl, hlen, hf⟩ := DataW.trod_struct Try.underlying104 h
  rw [cellsH] at hl
  match xs, hlen with
  | [y0, y1, y2, y3], _ =>
    have h0 : DataW.trod enc Try.prog w 0 (fun _ => true) true m 24 ((cs.drop 0).take (Try.prog.cellsOf 24)) = some y0 := hf 0 _ rfl
    have h1 : DataW.trod enc Try.prog w 0 (fun _ => true) true m 3 ((cs.drop 8).take (Try.prog.cellsOf 3)) = some y1 := hf 1 _ rfl
    have h2 : DataW.trod enc Try.prog w 0 (fun _ => true) true m 3 ((cs.drop 9).take (Try.prog.cellsOf 3)) = some y2 := hf 2 _ rfl
    have h3 : DataW.trod enc Try.prog w 0 (fun _ => true) true m 3 ((cs.drop 10).take (Try.prog.cellsOf 3)) = some y3 := hf 3 _ rfl
    rw [cellsE] at h0
    rw [cells3] at h1 h2 h3
    obtain ⟨d0, e0⟩ := arr_bytes Try.underlying24 Try.underlying5 cells5 cellsE h0
    obtain ⟨n1, e1, _, _⟩ := DataW.trod_int Try.underlying3 h1
    obtain ⟨n2, e2, _, _⟩ := DataW.trod_int Try.underlying3 h2
    obtain ⟨n3, e3, _, _⟩ := DataW.trod_int Try.underlying3 h3
    refine ⟨⟨d0, n1, n2, n3⟩, ?_⟩
    have hd : cs.drop (10 + 1) = [] := List.drop_of_length_le (by omega)
    have e : cs = cs.drop 0 := rfl
    rw [e, cut_drop cs 0 8, e0, cut_drop cs (0 + 8) 1, e1, cut_drop cs (0 + 8 + 1) 1, e2, cut_drop cs (0 + 8 + 1 + 1) 1, e3, hd]
    rfl
theorem hds_of {H : Type} {enc : TypeId × Value → H} {w : World} {a : Option Addr} {n : Nat} (h : SlOf enc Try.prog w 104 a n) : ∃ l : List Hd, l.length = n ∧ Sl hc 11 w a l := by
  obtain ⟨l, h1, h2, h3⟩ := elems_of hc (fun _ => True) h (fun cs fuel y hy => by
    obtain ⟨o, e⟩ := hdc_of hy
    exact ⟨o, e, trivial⟩)
  rw [cellsH] at h2
  exact ⟨l, h1, h2⟩
set_option maxRecDepth 100000 in
theorem z2_of {H : Type} {enc : TypeId × Value → H} {w : World} {cs : List Value} {fuel : Nat} {y : DataW H × List MemPlace} (h : DataW.trod enc Try.prog w 0 (fun _ => true) true fuel 31 cs = some y) : ∃ p q : Int, cs = [.int .i64 p, .int .i64 q] ∧ fitZ p ∧ fitZ q := by
  obtain ⟨xs, m, _, _, hl, hxl, hat⟩ := DataW.trod_array Try.underlying31 h
  rw [cellsZ] at hl
  match cs, hl with
  | [c0, c1], _ =>
    have h0 := hat 0 (by omega)
    have h1 := hat 1 (by omega)
    rw [cells3] at h0 h1
    rw [List.getElem?_eq_getElem (by omega)] at h0 h1
    obtain ⟨n0, e0, _, w0⟩ := DataW.trod_int Try.underlying3 h0
    obtain ⟨n1, e1, _, w1⟩ := DataW.trod_int Try.underlying3 h1
    simp at e0 e1
    exact ⟨n0, n1, by rw [e0, e1], fit_of w0, fit_of w1⟩
set_option maxRecDepth 100000 in
theorem pur_of {H : Type} {enc : TypeId × Value → H} {w : World} {cs : List Value} {fuel : Nat} {y : DataW H × List MemPlace} (h : DataW.trod enc Try.prog w 0 (fun _ => true) true fuel 63 cs = some y) : ∃ (p : Pu) (a : Option Addr) (c : Nat), cs = pc p (.slice a p.held.length c) ∧ Sl hc 11 w a p.held ∧ p.held.length ≤ c ∧ c ≤ maxLen ∧ fitZ p.h0 ∧ fitZ p.h1 := by
  obtain ⟨xs, m, _, _, hl, hlen, hf⟩ := DataW.trod_struct Try.underlying63 h
  rw [cellsP] at hl
  match xs, hlen with
  | [y0, y1, y2, y3], _ =>
    have h0 : DataW.trod enc Try.prog w 0 (fun _ => true) true m 24 ((cs.drop 0).take (Try.prog.cellsOf 24)) = some y0 := hf 0 _ rfl
    have h1 : DataW.trod enc Try.prog w 0 (fun _ => true) true m 3 ((cs.drop 8).take (Try.prog.cellsOf 3)) = some y1 := hf 1 _ rfl
    have h2 : DataW.trod enc Try.prog w 0 (fun _ => true) true m 31 ((cs.drop 9).take (Try.prog.cellsOf 31)) = some y2 := hf 2 _ rfl
    have h3 : DataW.trod enc Try.prog w 0 (fun _ => true) true m 61 ((cs.drop 11).take (Try.prog.cellsOf 61)) = some y3 := hf 3 _ rfl
    rw [cellsE] at h0
    rw [cells3] at h1
    rw [cellsZ] at h2
    rw [cellsS] at h3
    obtain ⟨d0, e0⟩ := arr_bytes Try.underlying24 Try.underlying5 cells5 cellsE h0
    obtain ⟨n1, e1, _, _⟩ := DataW.trod_int Try.underlying3 h1
    obtain ⟨x, z, e2, f1, f2⟩ := z2_of h2
    obtain ⟨a, n, c, e3, hn, hc', hs⟩ := sl_cell Try.underlying61 (by rw [cellsH]; omega) h3
    obtain ⟨l, hll, hS⟩ := hds_of hs
    subst hll
    refine ⟨⟨d0, n1, x, z, l⟩, a, c, ?_, hS, hn, hc', f1, f2⟩
    have hd : cs.drop (11 + 1) = [] := List.drop_of_length_le (by omega)
    have e : cs = cs.drop 0 := rfl
    rw [e, cut_drop cs 0 8, e0, cut_drop cs (0 + 8) 1, e1, cut_drop cs (0 + 8 + 1) 2, e2, cut_drop cs (0 + 8 + 1 + 2) 1, e3, hd]
    rfl
set_option maxRecDepth 100000 in
theorem hac_of {H : Type} {enc : TypeId × Value → H} {w : World} {cs : List Value} {fuel : Nat} {y : DataW H × List MemPlace} (h : DataW.trod enc Try.prog w 0 (fun _ => true) true fuel 65 cs = some y) : ∃ x : HA, cs = hac x ∧ x.In w := by
  obtain ⟨xs, m, _, _, hl, hlen, hf⟩ := DataW.trod_struct Try.underlying65 h
  rw [cellsA] at hl
  match xs, hlen with
  | [y0, y1, y2, y3, y4, y5, y6, y7], _ =>
    have h0 : DataW.trod enc Try.prog w 0 (fun _ => true) true m 3 ((cs.drop 0).take (Try.prog.cellsOf 3)) = some y0 := hf 0 _ rfl
    have h1 : DataW.trod enc Try.prog w 0 (fun _ => true) true m 3 ((cs.drop 1).take (Try.prog.cellsOf 3)) = some y1 := hf 1 _ rfl
    have h2 : DataW.trod enc Try.prog w 0 (fun _ => true) true m 24 ((cs.drop 2).take (Try.prog.cellsOf 24)) = some y2 := hf 2 _ rfl
    have h3 : DataW.trod enc Try.prog w 0 (fun _ => true) true m 24 ((cs.drop 10).take (Try.prog.cellsOf 24)) = some y3 := hf 3 _ rfl
    have h4 : DataW.trod enc Try.prog w 0 (fun _ => true) true m 24 ((cs.drop 18).take (Try.prog.cellsOf 24)) = some y4 := hf 4 _ rfl
    have h5 : DataW.trod enc Try.prog w 0 (fun _ => true) true m 3 ((cs.drop 26).take (Try.prog.cellsOf 3)) = some y5 := hf 5 _ rfl
    have h6 : DataW.trod enc Try.prog w 0 (fun _ => true) true m 3 ((cs.drop 27).take (Try.prog.cellsOf 3)) = some y6 := hf 6 _ rfl
    have h7 : DataW.trod enc Try.prog w 0 (fun _ => true) true m 63 ((cs.drop 28).take (Try.prog.cellsOf 63)) = some y7 := hf 7 _ rfl
    rw [cellsE] at h2 h3 h4
    rw [cells3] at h0 h1 h5 h6
    rw [cellsP] at h7
    obtain ⟨n0, e0, _, w0⟩ := DataW.trod_int Try.underlying3 h0
    obtain ⟨n1, e1, _, w1⟩ := DataW.trod_int Try.underlying3 h1
    obtain ⟨d2, e2⟩ := arr_bytes Try.underlying24 Try.underlying5 cells5 cellsE h2
    obtain ⟨d3, e3⟩ := arr_bytes Try.underlying24 Try.underlying5 cells5 cellsE h3
    obtain ⟨d4, e4⟩ := arr_bytes Try.underlying24 Try.underlying5 cells5 cellsE h4
    obtain ⟨n5, e5, _, w5⟩ := DataW.trod_int Try.underlying3 h5
    obtain ⟨n6, e6, _, w6⟩ := DataW.trod_int Try.underlying3 h6
    obtain ⟨p, a, c, e7, hS, hn, hc', f1, f2⟩ := pur_of h7
    refine ⟨⟨n0, n1, d2, d3, d4, n5, n6, p, a, c⟩, ?_, ⟨hS, hn, Nat.le_trans hc' (Nat.le_of_eq rfl), fit_of w0, fit_of w1, fit_of w5, fit_of w6, f1, f2⟩⟩
    have hd : cs.drop (28 + 12) = [] := List.drop_of_length_le (by omega)
    have e : cs = cs.drop 0 := rfl
    rw [e, cut_drop cs 0 1, e0, cut_drop cs (0 + 1) 1, e1, cut_drop cs (0 + 1 + 1) 8, e2, cut_drop cs (0 + 1 + 1 + 8) 8, e3, cut_drop cs (0 + 1 + 1 + 8 + 8) 8, e4, cut_drop cs (0 + 1 + 1 + 8 + 8 + 8) 1, e5, cut_drop cs (0 + 1 + 1 + 8 + 8 + 8 + 1) 1, e6, cut_drop cs (0 + 1 + 1 + 8 + 8 + 8 + 1 + 1) 12, e7, hd]
    simp [hac, HA.s]
theorem acts_of {H : Type} {enc : TypeId × Value → H} {w : World} {a : Option Addr} {n : Nat} (h : SlOf enc Try.prog w 65 a n) : ∃ l : List HA, l.length = n ∧ Sl hac 40 w a l ∧ ∀ x ∈ l, x.In w := by
  obtain ⟨l, h1, h2, h3⟩ := elems_of hac (fun x => x.In w) h (fun cs fuel y hy => hac_of hy)
  rw [cellsA] at h2
  exact ⟨l, h1, h2, h3⟩
end Go.Proofs.Ytajllbdeoopimaa

namespace Go.Proofs.Ytajllbdeoopimaa
open Go.ChangeShapes Go.WideShapes Go.ChangeAt Go.RowKit
set_option linter.unusedVariables false
set_option maxRecDepth 100000 in
theorem hubSame_lifted (os : Os) (started : os.Started) (H : Type) (enc : TypeId × Value → H) :
    ReturnsInHanded {} Try.checked os 9 .any (Rows.hubSameSpec.pre6 enc Try.prog Try.f9 Rows.hubSameRow.domain false) (Rows.hubSameSpec.post enc Try.prog Try.f9 false true false false) := by
  refine returnsInHanded_of_change (C := Try.checked) own started (by kernel_rfl) Try.func9
    (ChangeSpec.witness6 (enc := enc) (C := Try.checked) false ⟨#[], #[.slice none 0 0, .slice none 0 0], []⟩ 8 (by kernel_rfl) (by kernel_rfl) (by kernel_rfl) (by kernel_rfl)) ?_
  intro W base args ds gs before hval0 hW hcnd _
  have hval : ∀ (j : Nat) t v, Try.f9.params[j]? = some t → args[j]? = some v → Value.okWide Try.prog W .any base t v := hval0
  have hW' : DataW.Whole enc Try.prog Try.f9.params.toList Rows.hubSameSpec.vars false W args.toList ds gs before := hW
  obtain ⟨p, q, hA0, hV, rfl, hfz, hnd⟩ := hW
  have hA : DataW.TrodAll enc Try.prog W 0 (fun _ => true) true Try.f9.params.toList args.toList ds p := hA0
  rw [Try.params9] at hA hval
  obtain ⟨v0, v1, d0, d1, p0, p1, rfl, rfl, rfl, h0, h1⟩ := trodAll_two hA
  obtain ⟨a0, n0, c0, rfl, hn0, hc0, hs0⟩ := open_sl Try.underlying46 (by rw [cellsA]; omega) (hval 0 46 v0 rfl rfl) h0
  obtain ⟨l0, hl0, hS0, hin0⟩ := acts_of hs0
  obtain ⟨a1, n1, c1, rfl, hn1, hc1, hs1⟩ := open_sl Try.underlying46 (by rw [cellsA]; omega) (hval 1 46 v1 rfl rfl) h1
  obtain ⟨l1, hl1, hS1, hin1⟩ := acts_of hs1
  refine (same_walk W a0 n0 c0 l0 hl0 hS0 hin0 (Nat.le_trans hn0 hc0) a1 n1 c1 l1 hl1 hS1 hin1 (Nat.le_trans hn1 hc1)).mono fun e W' ⟨he, hk⟩ => ⟨_, he, ?_⟩
  exact law_post laidOut (by rw [Try.params9]; exact of_decide_eq_true (by kernel_rfl)) rfl hW' rfl (by kernel_rfl) Try.underlying4 hk
theorem hubSame_holds : Rows.HubSameSaid :=
  OpenClaim.holds_of_wide 9 Try.f9 rfl rfl rfl rfl rfl rfl rfl ⟨rfl, rfl, rfl, rfl, rfl⟩ rfl rfl rfl rfl rfl (by kernel_rfl) Try.func9 (by kernel_rfl)
    (of_decide_eq_true (by kernel_rfl)) (by unfold Func.isWrapper; first | (rw [if_pos (by decide +kernel)]; kernel_rfl) | (rw [if_neg (by decide +kernel)]; exact ⟨rfl, rfl⟩))
    (fun os started H enc _ => hubSame_lifted os started H enc)
end Go.Proofs.Ytajllbdeoopimaa
