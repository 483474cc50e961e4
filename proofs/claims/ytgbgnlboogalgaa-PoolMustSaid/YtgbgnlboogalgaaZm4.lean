import Derived.Test.YtgbgnlboogalgaaZm3
namespace Go.Proofs.Ytgbgnlboogalgaa
open Go.Proofs Go.Shelf Go.Sort
set_option linter.unusedVariables false
theorem aput_keys {m : List (Dg × Value)} {k : Dg} {v : Value} {z : Dg} {u : Value} (h : alook (aput m k v) z = some u) : (z = k ∧ u = v) ∨ (z ≠ k ∧ alook m z = some u) := by
  rw [alook_put] at h
  by_cases e : k = z
  · rw [if_pos e] at h
    cases h
    exact Or.inl ⟨e.symm, rfl⟩
  · rw [if_neg e] at h
    exact Or.inr ⟨fun h' => e h'.symm, h⟩
theorem alook_mem : ∀ {m : List (Dg × Value)} {k : Dg} {v : Value}, alook m k = some v → (k, v) ∈ m
  | [], _, _, h => by cases h
  | (k', v') :: m, k, v, h => by
    unfold alook at h
    by_cases e : k' = k
    · rw [if_pos e] at h
      cases h
      subst e
      exact List.mem_cons_self
    · rw [if_neg e] at h
      exact List.mem_cons_of_mem _ (alook_mem h)
/-- One more place in its key's row. -/
theorem Kr.add {w w' : World} {base i : Nat} {m : List (Dg × Value)} {K : Nat → Dg} {v0 v' : Value} (h : Kr w base m (cN K i)) (hv0 : alook m (K i) = some v0 ∨ (alook m (K i) = none ∧ v0 = .slice none 0 0)) (hk : Kp (ownB v0) w w') (ho : w'.ownsRow base 3 1 v' (cN K i (K i) ++ [i]).length (flt nI (cN K i (K i) ++ [i])))
    (hv' : ∀ g, v'.ownBlock = some g → v0.ownBlock = some g ∨ g = w.heap.size) : Kr w' base (aput m (K i) v') (cN K (i + 1)) := by
  have hsz : ∀ k v, alook m k = some v → ∀ b, v.ownBlock = some b → b < w.heap.size := fun k v hv => own_lt (h.rows k v hv)
  have hap : ∀ k v, k ≠ K i → alook m k = some v → ∀ b, v.ownBlock = some b → b ∉ ownB v0 := fun k v hne hv b hb hm => by
    rcases hv0 with h0 | ⟨_, rfl⟩
    · exact h.sep k (K i) v v0 hv h0 hne b hb (ownB_mem hm)
    · cases ownB_mem hm
  refine ⟨fun k v hv => ?_, fun k k' v u hv hu hne b hb => ?_⟩
  · rcases aput_keys hv with ⟨rfl, rfl⟩ | ⟨hne, hv⟩
    · rw [cN_succ, if_pos rfl]
      exact ho
    · rw [cN_succ, if_neg (fun e => hne e.symm)]
      exact own_kpB (h.rows k v hv) hk (hap k v hne hv)
  · have key : ∀ k u, k ≠ K i → alook m k = some u → ∀ b, v'.ownBlock = some b → u.ownBlock ≠ some b := fun k u hne hu b hb hb2 => by
      rcases hv' b hb with hh | hh
      · exact hap k u hne hu b hb2 (ownB_of hh)
      · have := hsz k u hu b hb2
        omega
    rcases aput_keys hv with ⟨e1, e2⟩ | ⟨h1, hv2⟩
    · rcases aput_keys hu with ⟨e3, e4⟩ | ⟨h2, hu2⟩
      · exact absurd (e1.trans e3.symm) hne
      · rw [e2] at hb
        exact key k' u h2 hu2 b hb
    · rcases aput_keys hu with ⟨e3, e4⟩ | ⟨h2, hu2⟩
      · intro hb2
        rw [e4] at hb2
        exact key k v h1 hv2 b hb2 hb
      · exact h.sep k k' v u hv2 hu2 hne b hb
attribute [local irreducible] CG NG SG Vals Der Row Blk MapIs IterAt nameT wrongT
set_option maxHeartbeats 16000000 in
theorem keys_spec {w : World} {base p : Nat} {v : Value} {room : Int} {ms : List Em} (hP : Pl w base p v room ms) (hb : Nb ms) (hl : ms.length ≤ 100000) :
    Calls Try.prog 72 #[.pointer (some ⟨p, 0, none⟩)] w (fun e w' => ∃ bm m C, e = .returned (.map (some bm)) ∧ Kp [] w w' ∧ MapIs w' bm (dv (n := 8)) (fun v : Value => v) m ∧ Kr w' w.heap.size m C ∧ (∀ k, (C k).Perm (cN (pK ms) ms.length k)) ∧ (∀ k v, alook m k = some v → (C k).Pairwise (fun x y => pN ms x ≤ pN ms y)) ∧ (∀ j, j < ms.length → ∃ v, alook m (pK ms j) = some v) ∧ (∀ k v, alook m k = some v → cN (pK ms) ms.length k ≠ [])) := by
  refine enter1 Try.func72 rfl Try.ntmps72 rfl ?_
  have hlp := hP.blk.lt
  have hvp : ∀ b, v.ownBlock = some b → b < w.heap.size := own_lt hP.own
  repeat (first|apply cA|apply cB)
  refine SG.box rfl rfl rfl (by exact rho_of rfl) (fun b1 w1 hk1 hb1 hB1 => ?_)
  have hB1 : Blk w1 b1 (.cells #[.pointer (some ⟨p, 0, none⟩)] 23) := hB1
  have lt1 := hB1.lt
  repeat (first|apply cA|apply cB|apply cD|apply cE|refine cV rfl rfl rfl rfl (by first|(apply qas<;>(exact rfl))|fail) ?_)
  refine SG.makeMap (dv (n := 8)) (fun v : Value => v) rfl rfl (fun bm w2 hk2 hbm hM => ?_)
  have k2 := hk1.trans hk2
  have ltm := hM.lt
  have hP2 := hP.kp0 k2
  obtain ⟨a, c, rfl, hc, hS⟩ := hP2.sl
  obtain ⟨-, q1⟩ := hP2.rows
  have r1 : Row w2 b1 0 [.pointer (some ⟨p, 0, none⟩)] := (Row.all (l := [.pointer (some ⟨p, 0, none⟩)]) hB1 rfl).kp0 hk2
  repeat (first|apply cA|apply cB|apply cD|apply cE|apply cG|refine cV rfl rfl rfl rfl (by first|((first|apply qmv|apply qas|apply qlc|apply qfa|apply qnc|apply qln)<;>(first|exact rfl|assumption|exact List.not_mem_nil))|fail) ?_)
  clear q1 r1
  have s1 := hk1.size
  have s2 := hk2.size
  refine CG.loop (X := Nat × List (Dg × Value)) (fun x => [(1, .pointer (some ⟨b1, 0, none⟩)), (3, .map (some bm)), (12, .slice a ms.length c), (13, .int .i64 (ms.length : Int)), (14, .int .i64 (x.1 : Int))])
    (fun x w' => x.1 ≤ ms.length ∧ Kp [bm] w2 w' ∧ MapIs w' bm (dv (n := 8)) (fun v : Value => v) x.2 ∧ Kr w' w2.heap.size x.2 (cN (pK ms) x.1) ∧ (∀ j, j < x.1 → ∃ v, alook x.2 (pK ms j) = some v) ∧ (∀ k v, alook x.2 k = some v → cN (pK ms) x.1 k ≠ [])) (fun x => ms.length - x.1) (0, []) ⟨Nat.zero_le _, Kp.refl _ _, hM, ⟨fun _ _ h => (by cases h), fun _ _ _ _ h => (by cases h)⟩, fun j h => absurd h (Nat.not_lt_zero j), fun _ _ h => (by cases h)⟩ (by (repeat' (first | exact True.intro | exact rfl | refine And.intro ?_ ?_))) ?_
  rintro ⟨i, m⟩ w3 ⟨hi, hk3, hM3, hR, hcov, hne⟩
  simp only at hi hM3 hR hcov hne
  refine CG.to [(1, .pointer (some ⟨b1, 0, none⟩)), (3, .map (some bm)), (12, .slice a ms.length c), (13, .int .i64 (ms.length : Int)), (14, .int .i64 (i : Int))] (by (repeat' (first | exact True.intro | exact rfl | refine And.intro ?_ ?_))) ?_
  have s3 := hk3.size
  have nbm : ∀ b, b < w.heap.size → b ∉ [bm] := fun b h => nm1 (by omega)
  have hO : Oth base w2 [bm] := hM.noth (by have := hP.base_le; have := hk1.size; omega)
  have hP3 : Pl w3 base p (.slice a ms.length c) room ms := hP2.kp hk3 (nbm p hlp) (fun b hb => nbm b (hvp b hb)) hO
  have k3 : Kp [] w w3 := k2.trans_new hk3 (new1 (by omega))
  have r1 : Row w3 b1 0 [.pointer (some ⟨p, 0, none⟩)] := ((Row.all (l := [.pointer (some ⟨p, 0, none⟩)]) hB1 rfl).kp0 hk2).kp hk3 (nm1 (by omega))
  by_cases hlt : i < ms.length
  · have g1 : (i : Int) < (ms.length : Int) := by omega
    obtain ⟨a', c', e', -, hS3⟩ := hP3.sl
    cases e'
    obtain ⟨g, o1, rfl, hri⟩ := hS3.at hlt
    repeat (first|apply cA|apply cB|apply cD|apply cE|refine cV rfl rfl rfl rfl (by first|(apply qls<;>(first|exact rfl|exact dct (by first|assumption|omega)|fail))|fail) ?_)
    refine cZ rfl (by exact rho_of rfl) rfl ?_
    repeat (first|apply cA|apply cB|apply cE|apply cF|apply cG|refine cV rfl rfl rfl rfl (by first|((first|apply qmv|apply qla|apply qix)<;>(first|exact rfl|exact Ar.mk (by omega)|assumption|exact List.not_mem_nil|apply ec_length|fail))|fail) ?_)
    refine SG.alloc rfl rfl rfl (fun b5 w4 hk4 hb5 hB5 => ?_)
    repeat (first|refine cV rfl rfl rfl rfl (by first|(apply qas<;>(exact rfl))|fail) ?_)
    refine SG.setAll (l := ec ms[i]) rfl rfl (by exact rho_of rfl) (by exact rho_of rfl) hB5 (ec_length _) rfl (ec_one _) (fun w5 hk5 hB5 => ?_)
    have hB5 : Blk w5 b5 (.cells (ec ms[i]).toArray 78) := hB5
    have k35 : Kp [] w3 w5 := hk4.trans_new hk5 (new1 (by omega))
    have hM5 := hM3.kp0 k35
    have hR5 := hR.kp0 k35
    clear hri
    obtain ⟨-, u0, -⟩ := ec_rows (Row.all hB5 rfl)
    rw [← pK_at hlt] at u0
    repeat (first|apply cB|apply cD|apply cE|refine cV rfl rfl rfl rfl (by first|((first|apply qmv|apply qla|apply qfa)<;>(first|exact rfl|assumption|exact List.not_mem_nil|apply dc_length))|fail) ?_)
    refine SG.buildSlice rfl rfl rfl rfl (bsi (i : Int)) (fun b6 w6 hk6 hb6 hB6 => ?_)
    have hM6 := hM5.kp0 hk6
    have hR6 := hR5.kp0 hk6
    have k36 := k35.trans hk6
    have ltb6 := hB6.lt
    have hS6 : Sl nI 1 w6 (some ⟨b6, 0, none⟩) [i] := Sl.of_blk (pre := []) (post := []) nI_len (l := [i]) (T := 3) hB6
    obtain ⟨v0, hv0, hv0'⟩ : ∃ v0, (alook m (pK ms i)).elim (Value.slice none 0 0) (fun v : Value => v) = v0 ∧ (alook m (pK ms i) = some v0 ∨ (alook m (pK ms i) = none ∧ v0 = .slice none 0 0)) := by
      cases h : alook m (pK ms i) with
      | none => exact ⟨_, rfl, Or.inr ⟨rfl, rfl⟩⟩
      | some u => exact ⟨_, rfl, Or.inl rfl⟩
    refine SG.mapEntry (enc := dv (n := 8)) (V := fun v : Value => v) (kx := pK ms i) (z := .slice none 0 0) rfl rfl rfl (by exact rho_of rfl) (by exact rho_of rfl) hM6 BArr.key rfl (fun st o' w7 hk7 hBo hmo hE => ?_)
    rw [hv0]
    have s7 := hk7.size
    have s36 := k36.size
    have hR7 : Kr w7 w2.heap.size m (cN (pK ms) i) := hR6.kp hk7 (fun b hb => by
      rw [List.mem_singleton] at hb
      subst hb
      exact Or.inl hM6.nint)
    have ho6 : w6.ownsRow w2.heap.size 3 1 v0 (cN (pK ms) i (pK ms i)).length (flt nI (cN (pK ms) i (pK ms i))) := by
      rcases hv0' with h | ⟨h, rfl⟩
      · exact hR6.rows _ _ h
      · have : cN (pK ms) i (pK ms i) = [] := by
          apply List.eq_nil_iff_forall_not_mem.2
          intro j hj
          obtain ⟨h1, h2⟩ := cN_mem.1 hj
          obtain ⟨u, hu⟩ := hcov j h1
          rw [h2, h] at hu
          cases hu
        rw [this]
        exact own_nil
    have hnm : bm ∉ ownB v0 := hM6.nown ho6
    have ho7 := own_kpB ho6 hk7 (fun b hb hm => by
      rw [List.mem_singleton] at hm
      subst hm
      exact hnm (ownB_of hb))
    have s35 := k35.size
    have hlc := cN_len (pK ms) i (pK ms i)
    repeat (first|refine cV rfl rfl rfl rfl (by first|(apply qxt<;>(exact rfl))|fail) ?_)
    refine SG.appO (enc := nI) (xs := cN (pK ms) i (pK ms i)) (ys := [i]) (base := w2.heap.size) rfl rfl rfl (by exact rho_of rfl) (by exact rho_of rfl) rfl rfl rfl rfl nI_len nI_one ho7 (hS6.kp hk7 (fun b off e => by cases e; exact nm1 (by omega))) (by simp only [maxLen, List.length_cons, List.length_nil]; omega) (by simp only [List.length_cons, List.length_nil]; show (_ + _) * 8 ≤ _; omega) (by omega) (fun v' w8 hk8 ho8 hv8 => ?_)
    have hR8 := hR7.add hv0' hk8 ho8 hv8
    repeat (first|refine cV rfl rfl rfl rfl (by first|(apply qxt<;>(exact rfl))|fail) ?_)
    refine SG.entryStore (enc := dv (n := 8)) (V := fun v : Value => v) (kx := pK ms i) (vy := v') rfl rfl (by exact rho_of rfl) (by exact rho_of rfl) (by exact rho_of rfl) hE (hBo.kp hk8 hnm) (fun w9 hk9 hM9 => ?_)
    have hB8 := hBo.kp hk8 hnm
    have hR9 : Kr w9 w2.heap.size (aput m (pK ms i) v') (cN (pK ms) (i + 1)) := hR8.kp hk9 (fun b hb => by
      rw [List.mem_singleton] at hb
      subst hb
      obtain ⟨es, cl, rfl⟩ := hmo
      exact Or.inl (Blk.nint hB8))
    have k29 : Kp [bm] w2 w9 := (((hk3.trans k36.any).trans hk7).trans_new hk8 (fun z hz => by
      exact Or.inr (own_geB ho7 z (ownB_mem hz)))).trans hk9
    repeat (first|apply cB|apply cD|apply cE|apply cU|refine cV rfl rfl rfl rfl (by first|((first|apply qmv|apply qad)<;>(first|exact rfl|exact Ar.mk (by omega)|fail))|fail) ?_)
    refine NG.round (i + 1, aput m (pK ms i) v') (by (repeat' (first | exact True.intro | exact rfl | refine And.intro ?_ ?_))) ⟨by simp only; omega, k29, hM9, hR9, fun j hj => ?_, fun k v hv => ?_⟩ (by simp only; omega)
    · simp only at hj
      rw [alook_put]
      by_cases e : pK ms i = pK ms j
      · exact ⟨v', by rw [if_pos e]⟩
      · rw [if_neg e]
        exact hcov j (by
          have : j ≠ i := fun h => e (by rw [h])
          omega)
    · rw [cN_succ]
      rcases aput_keys hv with ⟨e1, e2⟩ | ⟨e1, h2⟩
      · rw [if_pos e1.symm]
        simp
      · rw [if_neg (fun e => e1 e.symm)]
        exact hne k v h2
  · have g1 : ¬ (i : Int) < (ms.length : Int) := by omega
    have hin : i = ms.length := by omega
    subst hin
    have hM3' := hM3
    repeat (first|apply cA|apply cB|apply cD|apply cE|refine cV rfl rfl rfl rfl (by first|(apply qls<;>(first|exact rfl|exact dcf (by first|assumption|omega)|fail))|fail) ?_)
    refine dA rfl (by exact rho_of rfl) rfl ?_
    repeat (first|apply cA|apply cB|apply cE|apply cJ|apply cM|refine cQ rfl ?_|refine cV rfl rfl rfl rfl (by first|(apply qmv<;>(exact rfl))|fail) ?_)
    refine SG.range rfl rfl rfl (by exact rho_of rfl) hM3 (fun r w4 hk4 hr4 hI => ?_)
    have k4 := k3.trans hk4
    have s4 := hk4.size
    have hK0 : (Kp [] w w4) := k4
    repeat (first|apply cD|apply cE|apply cG)
    refine CG.loop (X := (Dg → List Nat) × List (Dg × Value) × Option (Dg × Value)) (fun x => [(1, .pointer (some ⟨b1, 0, none⟩)), (3, .map (some bm)), (31, .pointer (some ⟨r, 0, none⟩))])
      (fun x w' => Kp [] w w' ∧ r < w'.heap.size ∧ IterAt w' r bm (dv (n := 8)) (fun v : Value => v) m x.2.1 x.2.2 ∧ Kr w' w2.heap.size m x.1 ∧ (∀ k, (x.1 k).Perm (cN (pK ms) ms.length k)) ∧ (∀ k v, alook m k = some v → (k, v) ∉ x.2.1 → (x.1 k).Pairwise (fun x y => pN ms x ≤ pN ms y)) ∧ Row w' b1 0 [.pointer (some ⟨p, 0, none⟩)] ∧ (∀ q ∈ x.2.1, q ∈ m))
      (fun x => x.2.1.length) (cN (pK ms) ms.length, m, none) ⟨k4, hI.ltr, hI, hR.kp0 hk4, fun k => List.Perm.refl _, fun k v hv hn => absurd (alook_mem hv) hn, r1.kp0 hk4, fun _ h => h⟩ (by (repeat' (first | exact True.intro | exact rfl | refine And.intro ?_ ?_))) ?_
    rintro ⟨C, left, cur⟩ w5 ⟨hk5, hrs, hI5, hR5, hC, hsd, hr5, hsub⟩
    simp only at hI5 hR5 hC hsd hsub
    refine CG.to [(1, .pointer (some ⟨b1, 0, none⟩)), (3, .map (some bm)), (31, .pointer (some ⟨r, 0, none⟩))] (by (repeat' (first | exact True.intro | exact rfl | refine And.intro ?_ ?_))) ?_
    repeat (first|apply cA|apply cB)
    refine SG.next rfl rfl rfl (by exact rho_of rfl) hI5 (fun h0 => ?_) (fun pre q post w6 hl6 hk6 hI6 => ?_)
    · subst h0
      repeat (first|apply cA|apply cD|apply cE|refine cV rfl rfl rfl rfl (by first|(apply qxt<;>(exact rfl))|fail) ?_)
      refine dA rfl (by exact rho_of rfl) rfl ?_
      repeat (first|apply cA|apply cB|apply cD|apply cE|apply cH|apply cJ|apply cM|refine cQ rfl ?_|refine cV rfl rfl rfl rfl (by first|((first|apply qmv|apply qas)<;>(exact rfl))|fail) ?_)
      refine ret1 (Or.inl rfl) Try.results72 (by first | exact ResV.tmp rfl | exact ResV.agg rfl rfl (by assumption) (by first | exact dc_length _ | exact nc_length _ | exact rc_length _ _ _ | exact ec_length _ | exact dl_length _ _ _ _ | rfl) | exact ResV.cell rfl rfl (by assumption)) ?_
      exact ⟨bm, m, C, rfl, hk5, hI5.map, hR5.mono (by omega), hC, fun k v hv => hsd k v hv List.not_mem_nil, hcov, hne⟩
    · repeat (first|apply cA|apply cD|apply cE|refine cV rfl rfl rfl rfl (by first|(apply qxt<;>(exact rfl))|fail) ?_)
      refine cZ rfl (by exact rho_of rfl) rfl ?_
      have hqm : q ∈ m := hsub q (by rw [hl6]; simp)
      have hqa : alook m q.1 = some q.2 := alook_of_mem hM3.nodup hqm
      have s5 := hk5.size
      have k6 : Kp [] w w6 := hk5.trans_new hk6 (new1 (by omega))
      have hR6 : Kr w6 w2.heap.size m C := hR5.kp hk6 (fun b hb => by
        rw [List.mem_singleton] at hb
        subst hb
        exact Or.inl (IterAt.nint hI5))
      have hP6 := hP.kp0 k6
      have ho6 := hR6.rows _ _ hqa
      have hr6 : Row w6 b1 0 [.pointer (some ⟨p, 0, none⟩)] := hr5.kp hk6 (nm1 (by omega))
      have hge := own_geB ho6
      have hbO : ∀ b, b < w2.heap.size → b ∉ ownB q.2 := fun b hlt hm => by
        have := hge b (ownB_mem hm)
        omega
      have hcl : (C q.1).length ≤ 100000 := by
        rw [(hC q.1).length_eq]
        have := cN_len (pK ms) ms.length q.1
        omega
      repeat (first|apply cA|apply cB|apply cD|apply cE|apply cF|apply cG|refine cV rfl rfl rfl rfl (by first|((first|apply qmv|apply qas|apply qxt|apply qen)<;>(first|exact rfl|assumption|exact List.not_mem_nil))|fail) ?_)
      refine cV rfl rfl rfl rfl (qmf (vs := [.pointer (some ⟨b1, 0, none⟩)]) rfl) ?_
      refine SG.call rfl rfl rfl (vs := [q.2, fnv 87 [.pointer (some ⟨b1, 0, none⟩)]]) (by repeat' (first | exact True.intro | exact rho_of rfl | refine And.intro ?_ ?_)) ((sorti_spec hP6 hr6 hb ho6 (fun j hj => (cN_mem.1 ((hC q.1).mem_iff.1 hj)).1) (by
        have := hne q.1 q.2 hqa
        obtain ⟨j, hj⟩ := List.exists_mem_of_ne_nil _ this
        have := (cN_mem.1 hj).1
        omega) (by omega) (by have := hP.base_le; have := hk2.size; have := hk1.size; omega) (hbO b1 (by omega)) (hbO p (by omega)) (fun b hb => hbO b (by have := hvp b hb; omega))).mono (fun e w7 hh => ?_))
      obtain ⟨he, hk7, l', hp', hs', ho7⟩ := hh
      refine ⟨_, he, ?_⟩
      repeat (first|apply cD|apply cU)
      have hI7 := hI6.kp hk7 (IterAt.nown hI6 ho6) (MapIs.nown hI6.map ho6)
      refine NG.round (fun k => if k = q.1 then l' else C k, pre ++ post, some q) (by (repeat' (first | exact True.intro | exact rfl | refine And.intro ?_ ?_))) ⟨k6.trans_new hk7 (fun z hz => Or.inr (by have := hge z (ownB_mem hz); omega)), hI7.ltr, hI7, ⟨fun k v hv => ?_, hR6.sep⟩, fun k => ?_, fun k v hv hn => ?_, hr6.kp hk7 (hbO b1 (by omega)), fun x hx => ?_⟩ ?_
      · simp only
        by_cases e : k = q.1
        · subst e
          rw [hqa] at hv
          cases hv
          rw [if_pos rfl]
          exact ho7
        · rw [if_neg e]
          exact own_kpB (hR6.rows k v hv) hk7 (fun b hb hm => hR6.sep k q.1 v q.2 hv hqa e b hb (ownB_mem hm))
      · simp only
        by_cases e : k = q.1
        · subst e
          rw [if_pos rfl]
          exact hp'.trans (hC _)
        · rw [if_neg e]
          exact hC k
      · simp only at hn ⊢
        by_cases e : k = q.1
        · rw [if_pos e]
          exact hs'
        · rw [if_neg e]
          refine hsd k v hv (fun hm => hn ?_)
          rw [hl6] at hm
          rcases List.mem_append.1 hm with h | h
          · exact List.mem_append.2 (Or.inl h)
          · rcases List.mem_cons.1 h with h | h
            · exact absurd (congrArg Prod.fst h) e
            · exact List.mem_append.2 (Or.inr h)
      · refine hsub x ?_
        rw [hl6]
        rcases List.mem_append.1 hx with h | h
        · exact List.mem_append.2 (Or.inl h)
        · exact List.mem_append.2 (Or.inr (List.mem_cons_of_mem _ h))
      · simp only
        rw [hl6]
        simp only [List.length_append, List.length_cons]
        omega
end Go.Proofs.Ytgbgnlboogalgaa
namespace Go.Proofs.Ytgbgnlboogalgaa
set_option linter.unusedVariables false
section
variable {κ : Type} {K : Nat → κ} {N F : Nat → Int}
/-- What is so of rows of places that are still to be taken (R), some being taken (out). -/
structure Stp (K : Nat → κ) (N F : Nat → Int) (n : Nat) (Ls : List (List Nat)) (R out : List Nat) : Prop where
  asc : R.Pairwise (· < ·)
  lt : ∀ j ∈ R, j < n
  len : R.length + out.length = n
  ord : ∀ r, Ord K N F R r → Ord K N F (List.range n) (out ++ r)
  srt : ∀ l ∈ Ls, l.Pairwise (fun x y => N x < N y ∧ K x = K y)
  sep : ∀ (i j : Nat) (l l' : List Nat), Ls[i]? = some l → Ls[j]? = some l' → i ≠ j → ∀ x ∈ l, ∀ y ∈ l', K x ≠ K y
  mem : ∀ j, j ∈ R ↔ ∃ l ∈ Ls, j ∈ l
def aheadP (F : Nat → Int) (a x : Nat) : Prop := F x < F a ∨ (F a = F x ∧ a < x)
/-- Of the first k rows, the one with the best head. -/
inductive InB (F : Nat → Int) (Ls : List (List Nat)) (k : Nat) : Int → Prop
  | no : (∀ (i : Nat) (l : List Nat), i < k → Ls[i]? = some l → l = []) → InB F Ls k (-1)
  | att (b a : Nat) (t : List Nat) : b < k → Ls[b]? = some (a :: t) → (∀ (i x : Nat) (t' : List Nat), i < k → Ls[i]? = some (x :: t') → x = a ∨ aheadP F a x) → InB F Ls k (b : Int)
theorem aheadP.trans {a x y : Nat} (h : aheadP F a x) (h2 : aheadP F x y) : aheadP F a y := by
  unfold aheadP at *
  omega
theorem aheadP.tot {a x : Nat} (h : ¬ aheadP F a x) : x = a ∨ aheadP F x a := by
  unfold aheadP at *
  omega
theorem InB.init (Ls : List (List Nat)) : InB F Ls 0 (-1) := .no (fun i l h => absurd h (Nat.not_lt_zero i))
theorem InB.skip {Ls : List (List Nat)} {k : Nat} {z : Int} (h : InB F Ls k z) (hk : Ls[k]? = some []) : InB F Ls (k + 1) z := by
  cases h with
  | no h => exact .no (fun i l hi hl => by
      by_cases e : i = k
      · subst e; rw [hk] at hl; cases hl; rfl
      · exact h i l (by omega) hl)
  | att b a t h1 h2 h3 => exact .att b a t (by omega) h2 (fun i x t' hi hl => by
      by_cases e : i = k
      · subst e; rw [hk] at hl; cases hl
      · exact h3 i x t' (by omega) hl)
theorem InB.first {Ls : List (List Nat)} {k x : Nat} {t : List Nat} (h : InB F Ls k (-1)) (hk : Ls[k]? = some (x :: t)) : InB F Ls (k + 1) (k : Int) := by
  generalize hz : (-1 : Int) = z at h
  cases h with
  | no h => exact .att k x t (by omega) hk (fun i y t' hi hl => by
      by_cases e : i = k
      · subst e; rw [hk] at hl; cases hl; exact Or.inl rfl
      · have := h i _ (by omega) hl
        cases this)
  | att b a t h1 h2 h3 => omega
theorem InB.keep {Ls : List (List Nat)} {k b a x : Nat} {t t2 : List Nat} (h : InB F Ls k (b : Int)) (hb : Ls[b]? = some (a :: t2)) (hk : Ls[k]? = some (x :: t)) (hn : ¬ aheadP F x a) : InB F Ls (k + 1) (b : Int) := by
  generalize hz : (b : Int) = z at h
  cases h with
  | no h => omega
  | att b' a' t' h1 h2 h3 =>
    have : b' = b := by omega
    subst this
    rw [hb] at h2
    cases h2
    refine .att b' a t2 (by omega) hb (fun i y t3 hi hl => ?_)
    by_cases e : i = k
    · subst e
      rw [hk] at hl
      cases hl
      rcases aheadP.tot hn with h | h
      · exact Or.inl h.symm
      · exact Or.inr h
    · exact h3 i y t3 (by omega) hl
theorem InB.turn {Ls : List (List Nat)} {k b a x : Nat} {t t2 : List Nat} (h : InB F Ls k (b : Int)) (hb : Ls[b]? = some (a :: t2)) (hk : Ls[k]? = some (x :: t)) (hn : aheadP F x a) : InB F Ls (k + 1) (k : Int) := by
  generalize hz : (b : Int) = z at h
  cases h with
  | no h => omega
  | att b' a' t' h1 h2 h3 =>
    have : b' = b := by omega
    subst this
    rw [hb] at h2
    cases h2
    refine .att k x t (by omega) hk (fun i y t3 hi hl => ?_)
    by_cases e : i = k
    · subst e
      rw [hk] at hl
      cases hl
      exact Or.inl rfl
    · rcases h3 i y t3 (by omega) hl with h | h
      · rw [h]; exact Or.inr hn
      · exact Or.inr (hn.trans h)
theorem InB.get {Ls : List (List Nat)} {z : Int} (h : InB F Ls Ls.length z) (hne : ∃ l ∈ Ls, l ≠ []) : ∃ (b a : Nat) (t : List Nat), z = (b : Int) ∧ Ls[b]? = some (a :: t) ∧ ∀ l ∈ Ls, ∀ x t', l = x :: t' → x = a ∨ aheadP F a x := by
  cases h with
  | no h =>
    obtain ⟨l, hl, hn⟩ := hne
    obtain ⟨i, hi, rfl⟩ := List.getElem_of_mem hl
    exact absurd (h i _ hi (List.getElem?_eq_getElem hi)) hn
  | att b a t h1 h2 h3 =>
    refine ⟨b, a, t, rfl, h2, fun l hl x t' e => ?_⟩
    subst e
    obtain ⟨i, hi, e⟩ := List.getElem_of_mem hl
    exact h3 i x t' hi (by rw [List.getElem?_eq_getElem hi, e])
theorem asc_mid {X Y : List Nat} {a : Nat} (h : (X ++ a :: Y).Pairwise (· < ·)) : (X ++ Y).Pairwise (· < ·) ∧ (∀ x ∈ X, x < a) ∧ (∀ y ∈ Y, a < y) := by
  rw [List.pairwise_append, List.pairwise_cons] at h
  obtain ⟨h1, ⟨h2, h3⟩, h4⟩ := h
  exact ⟨List.pairwise_append.2 ⟨h1, h3, fun x hx y hy => h4 x hx y (List.mem_cons_of_mem _ hy)⟩, fun x hx => h4 x hx a List.mem_cons_self, h2⟩
theorem Stp.step {n : Nat} {Ls : List (List Nat)} {R out : List Nat} (h : Stp K N F n Ls R out) {b a : Nat} {t : List Nat} (hb : Ls[b]? = some (a :: t)) (hbest : ∀ l ∈ Ls, ∀ x t', l = x :: t' → x = a ∨ aheadP F a x) :
    ∃ R', Stp K N F n (Ls.set b t) R' (out ++ [a]) ∧ R'.length + 1 = R.length := by
  have hbl : b < Ls.length := (List.getElem?_eq_some_iff.1 hb).1
  have hbm : a :: t ∈ Ls := List.mem_of_getElem? hb
  have haR : a ∈ R := (h.mem a).2 ⟨_, hbm, List.mem_cons_self⟩
  obtain ⟨X, Y, rfl⟩ := List.append_of_mem haR
  obtain ⟨g1, g2, g3⟩ := asc_mid h.asc
  have hsa := List.pairwise_cons.1 (h.srt _ hbm)
  have hmemR : ∀ j, j ∈ X ++ Y ↔ (j ∈ X ++ a :: Y ∧ j ≠ a) := fun j => by
    rw [List.mem_append, List.mem_append, List.mem_cons]
    constructor
    · rintro (hj | hj)
      · exact ⟨Or.inl hj, by have := g2 j hj; omega⟩
      · exact ⟨Or.inr (Or.inr hj), by have := g3 j hj; omega⟩
    · rintro ⟨hj | hj | hj, hn⟩
      · exact Or.inl hj
      · exact absurd hj hn
      · exact Or.inr hj
  -- the first of its key is its row's head
  have hhead : ∀ e ∈ X ++ a :: Y, Frst K N (X ++ a :: Y) e → ∃ l ∈ Ls, ∃ t', l = e :: t' := fun e he hf => by
    obtain ⟨l, hl, hel⟩ := (h.mem e).1 he
    cases l with
    | nil => cases hel
    | cons x t' =>
      rcases List.mem_cons.1 hel with rfl | hel
      · exact ⟨_, hl, t', rfl⟩
      · have hs := (List.pairwise_cons.1 (h.srt _ hl)).1 e hel
        have hx : x ∈ X ++ a :: Y := (h.mem x).2 ⟨_, hl, List.mem_cons_self⟩
        have := hf x hx hs.2
        omega
  have hbestS : BestS K N F X a Y := by
    refine ⟨fun o ho hk => ?_, fun e he hf => ?_, fun e he hf => ?_⟩
    · obtain ⟨l, hl, hol⟩ := (h.mem o).1 ho
      obtain ⟨i, hi⟩ := List.getElem?_of_mem hl
      by_cases e : i = b
      · subst e
        rw [hb] at hi
        cases hi
        rcases List.mem_cons.1 hol with rfl | hol
        · exact Int.le_refl _
        · have := (hsa.1 o hol).1
          omega
      · exact absurd hk (h.sep i b l (a :: t) hi hb e o hol a List.mem_cons_self)
    · obtain ⟨l, hl, t', e2⟩ := hhead e he hf
      rcases hbest l hl e t' e2 with rfl | hh
      · exact Int.le_refl _
      · unfold aheadP at hh
        omega
    · have hm : e ∈ X ++ a :: Y := List.mem_append.2 (Or.inl he)
      obtain ⟨l, hl, t', e2⟩ := hhead e hm hf
      have := g2 e he
      rcases hbest l hl e t' e2 with rfl | hh
      · omega
      · unfold aheadP at hh
        omega
  refine ⟨X ++ Y, ⟨g1, fun j hj => h.lt j ((hmemR j).1 hj).1, ?_, fun r hr => ?_, fun l hl => ?_, fun i j l l' hi hj hne x hx y hy => ?_, fun j => ?_⟩, ?_⟩
  · have := h.len
    simp only [List.length_append, List.length_cons, List.length_nil] at this ⊢
    omega
  · have := h.ord _ (Ord.step X a Y r hbestS hr)
    rw [List.append_assoc]
    exact this
  · rcases List.mem_or_eq_of_mem_set hl with hl | rfl
    · exact h.srt l hl
    · exact hsa.2
  · have key : ∀ (i : Nat) (l : List Nat) (x : Nat), (Ls.set b t)[i]? = some l → x ∈ l → ∃ l2, Ls[i]? = some l2 ∧ x ∈ l2 := fun i l x hi hx => by
      rw [List.getElem?_set] at hi
      by_cases e : b = i
      · subst e
        rw [if_pos rfl, if_pos hbl] at hi
        cases hi
        exact ⟨_, hb, List.mem_cons_of_mem _ hx⟩
      · rw [if_neg e] at hi
        exact ⟨l, hi, hx⟩
    obtain ⟨l2, q1, q2⟩ := key i l x hi hx
    obtain ⟨l3, q3, q4⟩ := key j l' y hj hy
    exact h.sep i j l2 l3 q1 q3 hne x q2 y q4
  · rw [hmemR, h.mem]
    constructor
    · rintro ⟨⟨l, hl, hjl⟩, hne⟩
      obtain ⟨i, hi⟩ := List.getElem?_of_mem hl
      by_cases e : i = b
      · subst e
        rw [hb] at hi
        cases hi
        rcases List.mem_cons.1 hjl with rfl | hjl
        · exact absurd rfl hne
        · exact ⟨t, List.mem_of_getElem? (i := i) (by rw [List.getElem?_set, if_pos rfl, if_pos hbl]), hjl⟩
      · exact ⟨l, List.mem_of_getElem? (i := i) (by rw [List.getElem?_set, if_neg (fun h => e h.symm)]; exact hi), hjl⟩
    · rintro ⟨l, hl, hjl⟩
      obtain ⟨i, hi⟩ := List.getElem?_of_mem hl
      rw [List.getElem?_set] at hi
      by_cases e : b = i
      · subst e
        rw [if_pos rfl, if_pos hbl] at hi
        cases hi
        refine ⟨⟨_, hbm, List.mem_cons_of_mem _ hjl⟩, fun e2 => ?_⟩
        subst e2
        have := (hsa.1 j hjl).1
        omega
      · rw [if_neg e] at hi
        refine ⟨⟨l, List.mem_of_getElem? hi, hjl⟩, fun e2 => ?_⟩
        subst e2
        exact h.sep b i (j :: t) l hb hi e j List.mem_cons_self j hjl rfl
  · simp only [List.length_append, List.length_cons]
    omega
theorem Stp.full {n : Nat} {Ls : List (List Nat)} {R out : List Nat} (h : Stp K N F n Ls R out) (hl : out.length < n) : ∃ l ∈ Ls, l ≠ [] := by
  have := h.len
  cases R with
  | nil => simp at this; omega
  | cons x R =>
    obtain ⟨l, hl, hx⟩ := (h.mem x).1 List.mem_cons_self
    exact ⟨l, hl, fun e => by rw [e] at hx; cases hx⟩
theorem Stp.last {n : Nat} {Ls : List (List Nat)} {R out : List Nat} (h : Stp K N F n Ls R out) (hl : ¬ out.length < n) : Ord K N F (List.range n) out := by
  have := h.len
  have hR : R = [] := List.eq_nil_of_length_eq_zero (by omega)
  subst hR
  have := h.ord [] .nil
  simpa using this
end
end Go.Proofs.Ytgbgnlboogalgaa
namespace Go.Proofs.Ytgbgnlboogalgaa
set_option linter.unusedVariables false
section
variable {α : Type} {enc : α → List Value} {sz : Nat}
/-- One is written over. -/
theorem own_storeV {P : Program} {w : World} {base cap g n : Nat} {T : TypeId} {inf : TypeInfo} [f : Inf P T inf] {l : List α} (he : ∀ x, (enc x).length = inf.size) (hone : ∀ x, allOne (enc x) = true) (ho : w.ownsRow base T inf.size (.slice (some ⟨g, 0, none⟩) n cap) n (flt enc l)) (hn : l.length = n) {k : Nat} (hk : k < l.length) (x : α) {vx : Value} (hcells : vx.cells.toList = enc x) :
    ∃ w', (Instr.storeAt T (.pointer (some ⟨g, 0 + k * inf.size, none⟩)) vx).run P w = .ok () w' ∧ w'.ownsRow base T inf.size (.slice (some ⟨g, 0, none⟩) n cap) n (flt enc (l.set k x)) ∧ Kp [g] w w' := by
  rcases ho with ⟨h1, ⟨h2, _⟩ | ⟨g', cap', cur, h2, hb, hg, hc1, hc2, hc3, hc4⟩⟩
  · cases h2
  · cases h2
    have hB : Blk w g (.cells cur T) := hg
    have hlt : k * inf.size + inf.size ≤ n * inf.size := by
      have : (k + 1) * inf.size ≤ n * inf.size := Nat.mul_le_mul_right _ (by omega)
      rwa [Nat.add_mul, Nat.one_mul] at this
    have hle : n * inf.size ≤ cap * inf.size := Nat.mul_le_mul_right _ hc1
    have hrun := run_storeAt (P := P) (T := T) (off := 0 + k * inf.size) (v := vx) hB (by rw [hcells]; exact he x) (by rw [hcells, he x]; omega) (by rw [hcells]; exact hone x)
    rw [hcells] at hrun
    refine ⟨_, hrun, ⟨by rw [flt_length he, List.length_set, hn], Or.inr ⟨g, cap, _, rfl, hb, hB.set _, hc1, hc2, ?_, ?_⟩⟩, Kp.set w hB rfl rfl⟩
    · have := spl_length (cs := cur.toList) (off := 0 + k * inf.size) (l := enc x) (by rw [he x]; simp; omega)
      rw [List.size_toArray, this]
      simpa using hc3
    · have hsplit : cur.toList = [] ++ (flt enc l ++ cur.toList.drop (n * inf.size)) := by
        rw [List.nil_append]
        conv => lhs; rw [← List.take_append_drop (n * inf.size) cur.toList]
        rw [hc4]
      have hset := flt_set he l k hk x [] (cur.toList.drop (n * inf.size))
      rw [← hsplit, List.length_nil, List.nil_append] at hset
      rw [List.toList_toArray, hset]
      refine (List.take_append_of_le_length ?_).trans (List.take_of_length_le ?_)
      · rw [flt_length he, List.length_set, hn]; exact Nat.le_refl _
      · rw [flt_length he, List.length_set, hn]; exact Nat.le_refl _
end
section
variable {P : Program} {α : Type} {enc : α → List Value} {m : Nat} {Q : Exit → Act → World → Prop} {ops rest : List Oper} {L : Env} {w : World} {ty : TypeId} {pos : String} {af : Array Edge} {q : Option (Nat × Bool)}
/-- .. in text order. -/
theorem SG.storeV {base cap g n : Nat} {T : TypeId} {inf : TypeInfo} [f : Inf P T inf] {l : List α} {a x : Operand} {y : α} {k o : Nat} (he : ∀ x, (enc x).length = inf.size) (hone : ∀ x, allOne (enc x) = true) (hw : want ops L ⟨none, .store T a x, ty, pos, af, q⟩ = some true) (hk : (known L a && known L x) = true)
    (ha : rho L a = .pointer (some ⟨g, o, none⟩)) (ho' : o = 0 + k * inf.size) {vy : Value} (hx : rho L x = vy) (hcells : vy.cells.toList = enc y) (ho : w.ownsRow base T inf.size (.slice (some ⟨g, 0, none⟩) n cap) n (flt enc l)) (hn : l.length = n) (hkl : k < l.length)
    (h : ∀ w', Kp [g] w w' → w'.ownsRow base T inf.size (.slice (some ⟨g, 0, none⟩) n cap) n (flt enc (l.set k y)) → SG P m ops Q rest L w') : SG P m ops Q (⟨none, .store T a x, ty, pos, af, q⟩ :: rest) L w := by
  subst ho'
  refine SG.op rfl rfl hw (by simpa [Op.operands] using hk) ?_
  obtain ⟨w', h1, h2, h3⟩ := own_storeV (P := P) he hone ho hn hkl y hcells
  unfold OpRun
  have : (execOp (rho L) ⟨none, .store T a x, ty, pos, af, q⟩).run P w = .ok .skip w' := by
    simp only [execOp, hx, ha, Sem.run_bind, h1, Result.andThen, Sem.run_pure]
  rw [this]
  exact h w' h3 h2
end
end Go.Proofs.Ytgbgnlboogalgaa
namespace Go.Proofs.Ytgbgnlboogalgaa
open Go.Proofs Go.Shelf Go.Sort
set_option linter.unusedVariables false
/-- A row of places, as it lies. -/
structure Hw where
  a : Option Addr
  c : Nat
  l : List Nat
def hwv (h : Hw) : Value := .slice h.a h.l.length h.c
def hwc (h : Hw) : List Value := [hwv h]
theorem hwc_len (h : Hw) : (hwc h).length = 1 := rfl
theorem hwc_one (h : Hw) : allOne (hwc h) = true := rfl
theorem bsh (a : Option Addr) (n c : Nat) (w : World) : (Instr.buildSlice 121 1 #[(0, .slice a n c)]).run Try.prog w = .ok (.slice (some ⟨w.heap.size, 0, none⟩) 1 1) { w with heap := w.heap.push (.cells #[.slice a n c] 105) } := by kernel_rfl
noncomputable def ordP (ms : List Em) : List Nat := ordL (pK ms) (pN ms) (pF ms) (List.range ms.length)
theorem dst_at {room : Int} {ms : List Em} (hI : PInv room (ms.map Em.en)) {i j : Nat} (hi : i < ms.length) (hj : j < ms.length) (hij : i ≠ j) (hk : pK ms i = pK ms j) : pN ms i ≠ pN ms j := by
  have key : ∀ {i j : Nat} (hi : i < ms.length) (hj : j < ms.length), i < j → pK ms i = pK ms j → pN ms i ≠ pN ms j := fun {i j} hi hj hlt hk => by
    have h := List.pairwise_iff_getElem.1 hI.dst i j (by simpa using hi) (by simpa using hj) hlt
    rw [pK_at hi, pK_at hj] at hk
    rw [pN_at hi, pN_at hj]
    intro hn
    refine h ⟨?_, ?_⟩
    · simp only [List.getElem_map]
      exact hk
    · simp only [List.getElem_map]
      exact hn
  rcases Nat.lt_or_gt_of_ne hij with h | h
  · exact key hi hj h hk
  · exact fun e => key hj hi h hk.symm e.symm
theorem strict_of {K : Nat → Dg} {N : Nat → Int} {n : Nat} {k : Dg} (hd : ∀ i j, i < n → j < n → i ≠ j → K i = K j → N i ≠ N j) {l : List Nat} (hp : l.Perm (cN K n k)) (hs : l.Pairwise (fun x y => N x ≤ N y)) : l.Pairwise (fun x y => N x < N y ∧ K x = K y) := by
  have hn : l.Nodup := hp.nodup_iff.2 (cN_nodup K n k)
  refine (List.Pairwise.and hs hn).imp_of_mem (fun {x y} hx hy h => ?_)
  have q1 := cN_mem.1 (hp.mem_iff.1 hx)
  have q2 := cN_mem.1 (hp.mem_iff.1 hy)
  have hk : K x = K y := q1.2.trans q2.2.symm
  have := hd x y q1.1 q2.1 h.2 hk
  have := h.1
  exact ⟨by omega, hk⟩
/-- The rows by key, to begin with. -/
theorem stp_init {K : Nat → Dg} {N F : Nat → Int} {n : Nat} {m : List (Dg × Value)} {C : Dg → List Nat} {dn : List (Dg × Hw)} (hd : ∀ i j, i < n → j < n → i ≠ j → K i = K j → N i ≠ N j) (hm : (m.map (·.1)).Nodup)
    (hC : ∀ k, (C k).Perm (cN K n k)) (hs : ∀ k v, alook m k = some v → (C k).Pairwise (fun x y => N x ≤ N y)) (hcov : ∀ j, j < n → ∃ v, alook m (K j) = some v) (hp : (dn.map (fun y => (y.1, hwv y.2))).Perm m) (hl : ∀ y ∈ dn, y.2.l = C y.1) :
    Stp K N F n (dn.map (fun y => y.2.l)) (List.range n) [] := by
  have hnd : (dn.map (fun y => y.1)).Nodup := by
    have h1 : ((dn.map (fun y => (y.1, hwv y.2))).map (·.1)).Perm (m.map (·.1)) := hp.map _
    rw [List.map_map] at h1
    exact h1.nodup_iff.2 hm
  have hin : ∀ y ∈ dn, alook m y.1 = some (hwv y.2) := fun y hy => by
    have : (y.1, hwv y.2) ∈ m := hp.mem_iff.1 (List.mem_map.2 ⟨y, hy, rfl⟩)
    exact alook_of_mem hm this
  refine ⟨List.pairwise_lt_range, fun j hj => List.mem_range.1 hj, by simp, fun r h => h, fun l hlm => ?_, fun i j l l' hi hj hne x hx y hy => ?_, fun j => ?_⟩
  · obtain ⟨y, hy, rfl⟩ := List.mem_map.1 hlm
    rw [hl y hy]
    exact strict_of hd (hC y.1) (hs y.1 _ (hin y hy))
  · rw [List.getElem?_map] at hi hj
    obtain ⟨y1, h1, rfl⟩ := Option.map_eq_some_iff.1 hi
    obtain ⟨y2, h2, rfl⟩ := Option.map_eq_some_iff.1 hj
    have m1 := List.mem_of_getElem? h1
    have m2 := List.mem_of_getElem? h2
    rw [hl y1 m1] at hx
    rw [hl y2 m2] at hy
    have k1 := (cN_mem.1 ((hC _).mem_iff.1 hx)).2
    have k2 := (cN_mem.1 ((hC _).mem_iff.1 hy)).2
    rw [k1, k2]
    intro e
    obtain ⟨l1, g1⟩ := List.getElem?_eq_some_iff.1 h1
    obtain ⟨l2, g2⟩ := List.getElem?_eq_some_iff.1 h2
    have := (List.getElem_inj (xs := dn.map (fun y => y.1)) (i := i) (j := j) (h₀ := by simpa using l1) (h₁ := by simpa using l2) hnd).1 (by simp only [List.getElem_map, g1, g2]; exact e)
    exact hne this
  · rw [List.mem_range]
    constructor
    · intro hj
      obtain ⟨v, hv⟩ := hcov j hj
      have hvm := hp.mem_iff.2 (alook_mem hv)
      obtain ⟨y, hy, e⟩ := List.mem_map.1 hvm
      refine ⟨y.2.l, List.mem_map.2 ⟨y, hy, rfl⟩, ?_⟩
      rw [hl y hy]
      have : y.1 = K j := congrArg Prod.fst e
      rw [this]
      exact (hC _).mem_iff.2 (cN_mem.2 ⟨hj, rfl⟩)
    · rintro ⟨l, hlm, hj⟩
      obtain ⟨y, hy, rfl⟩ := List.mem_map.1 hlm
      rw [hl y hy] at hj
      exact (cN_mem.1 ((hC _).mem_iff.1 hj)).1
attribute [local irreducible] CG NG SG Vals Der Row Blk MapIs IterAt nameT wrongT
set_option maxHeartbeats 16000000 in
theorem ahead_spec {w : World} {base p : Nat} {v : Value} {room : Int} {ms : List Em} (hP : Pl w base p v room ms) {x y : Nat} (hx : x < ms.length) (hy : y < ms.length) :
    ∃ r : Bool, (r = true ↔ aheadP (pF ms) x y) ∧ Ret Try.prog 73 #[.pointer (some ⟨p, 0, none⟩), .int .i64 (x : Int), .int .i64 (y : Int)] w (.bool r) := by
  refine ⟨(decide (pF ms y < pF ms x)) || ((decide (pF ms x = pF ms y)) && decide (x < y)), by unfold aheadP; simp, ?_⟩
  refine enter3 Try.func73 rfl Try.ntmps73 rfl ?_
  obtain ⟨a, c, rfl, hc, hS⟩ := hP.sl
  obtain ⟨-, q1⟩ := hP.rows
  obtain ⟨g, o1, rfl, hrx⟩ := hS.at hx
  have hry : Row w g (o1 + y * 22) (ec ms[y]) := hS.row (List.getElem?_eq_getElem hy)
  obtain ⟨-, -, -, rx, -⟩ := ec_rows hrx
  obtain ⟨-, -, -, ry, -⟩ := ec_rows hry
  rw [pF_at hx, pF_at hy]
  repeat (first|apply cA|apply cB|apply cD|apply cE|refine cV rfl rfl rfl rfl (by first|(apply qas<;>(exact rfl))|fail) ?_)
  refine CG.tail mixed 19 [0, 1, 2, 3, 4, 5, 6, 7, 8, 9, 10, 11, 12, 13, 14, 15, 16, 17, 18] (by kernel_rfl) ?_
  repeat (refine cY rfl rfl rfl (by first|((first|apply qmv|apply qas|apply qlc|apply qfa|apply qnc|apply qix)<;>(first|exact rfl|exact Ar.mk (by omega)|assumption|exact List.not_mem_nil|fail))|fail) ?_)
  refine Der.tl (fun w1 hk1 _ _ => ?_)
  clear rx ry q1 hrx hry
  generalize ms[x].x.t.fee = f1
  generalize ms[y].x.t.fee = f2
  by_cases g1 : f2 < f1
  · have e : ((decide (f2 < f1)) || ((decide (f1 = f2)) && decide (x < y))) = true := by simp [g1]
    rw [e]
    repeat (first | first|apply cA|apply cB|apply cD|apply cE|apply cH|refine cV rfl rfl rfl rfl (by first|((first|apply qmv|apply qas|apply qpk|apply qgt)<;>(first|exact rfl|exact dct (by first|assumption|omega)|fail))|fail) ?_ | refine cX rfl rfl ?_)
    refine ret1 (Or.inl rfl) Try.results73 (by first | exact ResV.tmp rfl | exact ResV.agg rfl rfl (by assumption) (by first | exact dc_length _ | exact nc_length _ | exact rc_length _ _ _ | exact ec_length _ | exact dl_length _ _ _ _ | rfl) | exact ResV.cell rfl rfl (by assumption)) ?_
    exact ⟨rfl, hk1⟩
  · by_cases g2 : f1 = f2
    · by_cases g3 : (x : Int) < (y : Int)
      · have g4 : x < y := by omega
        have e : ((decide (f2 < f1)) || ((decide (f1 = f2)) && decide (x < y))) = true := by simp [g2, g4]
        rw [e]
        repeat (first|apply cA|apply cB|apply cD|apply cE|apply cH|refine cV rfl rfl rfl rfl (by first|((first|apply qmv|apply qas|apply qpk|apply qls|apply qei|apply qgt)<;>(first|exact rfl|exact dct (by first|assumption|omega)|exact dcf (by first|assumption|omega)|fail))|fail) ?_)
        refine ret1 (Or.inl rfl) Try.results73 (by first | exact ResV.tmp rfl | exact ResV.agg rfl rfl (by assumption) (by first | exact dc_length _ | exact nc_length _ | exact rc_length _ _ _ | exact ec_length _ | exact dl_length _ _ _ _ | rfl) | exact ResV.cell rfl rfl (by assumption)) ?_
        exact ⟨rfl, hk1⟩
      · have g4 : ¬ x < y := by omega
        have e : ((decide (f2 < f1)) || ((decide (f1 = f2)) && decide (x < y))) = false := by simp only [decide_eq_false g1, decide_eq_false g4, Bool.and_false, Bool.or_false]
        rw [e]
        repeat (first|apply cA|apply cB|apply cD|apply cE|apply cH|refine cV rfl rfl rfl rfl (by first|((first|apply qmv|apply qas|apply qpk|apply qls|apply qei|apply qgt)<;>(first|exact rfl|exact dct (by first|assumption|omega)|exact dcf (by first|assumption|omega)|fail))|fail) ?_)
        refine ret1 (Or.inl rfl) Try.results73 (by first | exact ResV.tmp rfl | exact ResV.agg rfl rfl (by assumption) (by first | exact dc_length _ | exact nc_length _ | exact rc_length _ _ _ | exact ec_length _ | exact dl_length _ _ _ _ | rfl) | exact ResV.cell rfl rfl (by assumption)) ?_
        exact ⟨rfl, hk1⟩
    · have e : ((decide (f2 < f1)) || ((decide (f1 = f2)) && decide (x < y))) = false := by simp only [decide_eq_false g1, decide_eq_false g2, Bool.false_and, Bool.or_false]
      rw [e]
      repeat (first | first|apply cA|apply cB|apply cD|apply cE|apply cH|refine cV rfl rfl rfl rfl (by first|((first|apply qmv|apply qas|apply qpk|apply qei|apply qgt)<;>(first|exact rfl|exact dcf (by first|assumption|omega)|fail))|fail) ?_ | refine cX rfl rfl ?_)
      refine ret1 (Or.inl rfl) Try.results73 (by first | exact ResV.tmp rfl | exact ResV.agg rfl rfl (by assumption) (by first | exact dc_length _ | exact nc_length _ | exact rc_length _ _ _ | exact ec_length _ | exact dl_length _ _ _ _ | rfl) | exact ResV.cell rfl rfl (by assumption)) ?_
      exact ⟨rfl, hk1⟩
end Go.Proofs.Ytgbgnlboogalgaa
namespace Go.Proofs.Ytgbgnlboogalgaa
open Go.Proofs Go.Shelf Go.Sort
set_option linter.unusedVariables false
theorem nodup_sub {α : Type} : ∀ {l u : List α}, l.Nodup → (∀ x ∈ l, x ∈ u) → l.length ≤ u.length
  | [], u, _, _ => Nat.zero_le _
  | x :: l, u, hn, hs => by
    obtain ⟨X, Y, rfl⟩ := List.append_of_mem (hs x List.mem_cons_self)
    have hn' := List.nodup_cons.1 hn
    have := nodup_sub (l := l) (u := X ++ Y) hn'.2 (fun z hz => by
      have h1 := hs z (List.mem_cons_of_mem _ hz)
      rw [List.mem_append, List.mem_cons] at h1
      rw [List.mem_append]
      rcases h1 with h | rfl | h
      · exact Or.inl h
      · exact absurd hz hn'.1
      · exact Or.inr h)
    simp only [List.length_append, List.length_cons] at this ⊢
    omega
theorem blk_of {w : World} {b : Nat} {o : Obj} (h : w.heap[b]? = some o) : Blk w b o := h
attribute [local irreducible] CG NG SG Vals Der Row Blk MapIs IterAt nameT wrongT
set_option maxHeartbeats 32000000 in
theorem order_spec {w : World} {base p : Nat} {v : Value} {room : Int} {ms : List Em} (hP : Pl w base p v room ms) (hI : PInv room (ms.map Em.en)) (hr : room ≤ 1024) :
    RetO Try.prog 3 nI 1 56 #[.pointer (some ⟨p, 0, none⟩)] w (ordP ms) := by
  refine enter1 Try.func56 rfl Try.ntmps56 rfl ?_
  have hll : ms.length ≤ 1024 := by have := hI.len; rw [List.length_map] at this; omega
  have hb := hI.nb
  repeat (first|apply cA|apply cB|apply cD|apply cE|refine cV rfl rfl rfl rfl (by first|((first|apply qmv|apply qas)<;>(exact rfl))|fail) ?_)
  refine SG.call rfl rfl rfl (vs := [.pointer (some ⟨p, 0, none⟩)]) (by repeat' (first | exact True.intro | exact rho_of rfl | refine And.intro ?_ ?_)) ((keys_spec hP hb (by omega)).mono (fun e w1 hh => ?_))
  obtain ⟨bm, m, C, he, hk1, hM, hR, hC, hsd, hcov, hne⟩ := hh
  refine ⟨_, he, ?_⟩
  clear he
  refine SG.range rfl rfl rfl (by exact rho_of rfl) hM (fun r w2 hk2 hr2 hIt => ?_)
  have s1 := hk1.size
  repeat (first|apply cD|apply cE|apply cG)
  refine CG.loop (X := Value × List (Dg × Hw) × List (Dg × Value) × Option (Dg × Value)) (fun x => [(0, .pointer (some ⟨p, 0, none⟩)), (3, x.1), (12, .pointer (some ⟨r, 0, none⟩))])
    (fun x w' => Kp [] w1 w' ∧ r < w'.heap.size ∧ IterAt w' r bm (dv (n := 8)) (fun v : Value => v) m x.2.2.1 x.2.2.2 ∧ (x.2.1.map (fun y => (y.1, hwv y.2)) ++ x.2.2.1).Perm m ∧ (∀ y ∈ x.2.1, y.2.l = C y.1 ∧ Sl nI 1 w1 y.2.a y.2.l ∧ y.2.l.length ≤ y.2.c) ∧ w'.ownsRow w1.heap.size 105 1 x.1 (x.2.1.map (·.2)).length (flt hwc (x.2.1.map (·.2))))
    (fun x => x.2.2.1.length) (.slice none 0 0, [], m, none) ⟨hk2, hIt.ltr, hIt, by simp, fun y hy => (by cases hy), own_nil⟩ (by (repeat' (first | exact True.intro | exact rfl | refine And.intro ?_ ?_))) ?_
  rintro ⟨hv, dn, left, cur⟩ w3 ⟨hk3, hrs, hI3, hp, hdn, ho3⟩
  simp only at hI3 hp hdn ho3
  refine CG.to [(0, .pointer (some ⟨p, 0, none⟩)), (3, hv), (12, .pointer (some ⟨r, 0, none⟩))] (by (repeat' (first | exact True.intro | exact rfl | refine And.intro ?_ ?_))) ?_
  have s3 := hk3.size
  have hml : m.length ≤ 1024 := by
    have h1 : (m.map (·.1)).Nodup := hM.nodup
    have h2 : ∀ k ∈ m.map (·.1), k ∈ (List.range ms.length).map (pK ms) := fun k hk => by
      obtain ⟨q, hq, rfl⟩ := List.mem_map.1 hk
      have := hne q.1 q.2 (alook_of_mem h1 hq)
      obtain ⟨j, hj⟩ := List.exists_mem_of_ne_nil _ this
      have := cN_mem.1 hj
      exact List.mem_map.2 ⟨j, List.mem_range.2 this.1, this.2⟩
    have h3 := nodup_sub h1 h2
    simp only [List.length_map, List.length_range] at h3
    omega
  have hlen := hp.length_eq
  rw [List.length_append, List.length_map] at hlen
  repeat (first|apply cA|apply cB)
  refine SG.next rfl rfl rfl (by exact rho_of rfl) hI3 (fun h0 => ?_) (fun pre q post w4 hl4 hk4 hI4 => ?_)
  rotate_left
  · have hqm : q ∈ m := hp.mem_iff.1 (by rw [hl4]; simp)
    have hqa : alook m q.1 = some q.2 := alook_of_mem hM.nodup hqm
    obtain ⟨a', c', e', hc', hS'⟩ := Sl.own nI_len (hR.rows _ _ hqa) rfl
    have k4 : Kp [] w1 w4 := hk3.trans_new hk4 (new1 (by have := hk2.size; omega))
    have ho4 := own_kpB ho3 hk4 (fun b hb hm => by
      rw [List.mem_singleton] at hm
      subst hm
      exact IterAt.nown hI3 ho3 (ownB_of hb))
    have s4 := hk4.size
    rw [hl4] at hlen
    simp only [List.length_append, List.length_cons] at hlen
    repeat (first|apply cA|apply cD|apply cE|refine cV rfl rfl rfl rfl (by first|(apply qxt<;>(exact rfl))|fail) ?_)
    refine cZ rfl (by exact rho_of rfl) rfl ?_
    repeat (first|apply cA|apply cB|apply cD|apply cE|apply cF|apply cG|refine cV rfl rfl rfl rfl (by first|((first|apply qmv|apply qas|apply qxt|apply qen)<;>(first|exact rfl|assumption|exact List.not_mem_nil))|fail) ?_)
    rw [e']
    refine SG.buildSlice rfl rfl rfl rfl (bsh a' (C q.1).length c') (fun b6 w5 hk5 hb6 hB6 => ?_)
    have hS6 : Sl hwc 1 w5 (some ⟨b6, 0, none⟩) [(⟨a', c', C q.1⟩ : Hw)] := Sl.of_blk (pre := []) (post := []) hwc_len (l := [(⟨a', c', C q.1⟩ : Hw)]) (T := 105) hB6
    have ho5 := own_kp0 ho4 hk5
    skip
    refine SG.appO (enc := hwc) (xs := dn.map (·.2)) (ys := [(⟨a', c', C q.1⟩ : Hw)]) (base := w1.heap.size) rfl rfl rfl (by exact rho_of rfl) (by exact rho_of rfl) rfl rfl rfl rfl hwc_len hwc_one ho5 hS6 (by simp only [maxLen, List.length_cons, List.length_nil, List.length_map]; omega) (by simp only [List.length_cons, List.length_nil, List.length_map]; show (_ + _) * 24 ≤ _; omega) (by have := hk5.size; omega) (fun v' w6 hk6 ho6 hv6 => ?_)
    have hI5 := hI4.kp0 hk5
    have hI6 := hI5.kp hk6 (IterAt.nown hI5 ho5) (MapIs.nown hI5.map ho5)
    repeat (first|apply cD|apply cU|refine cV rfl rfl rfl rfl (by first|(apply qas<;>(exact rfl))|fail) ?_)
    refine NG.round (v', dn ++ [(q.1, ⟨a', c', C q.1⟩)], pre ++ post, some q) (by (repeat' (first | exact True.intro | exact rfl | refine And.intro ?_ ?_))) ⟨(k4.trans hk5).trans_new hk6 (own_new ho5 (Nat.le_refl _)), hI6.ltr, hI6, ?_, fun y hy => ?_, ?_⟩ ?_
    · simp only [List.map_append, List.map_cons, List.map_nil]
      have e2 : (q.1, hwv ⟨a', c', C q.1⟩) = q := by
        have : hwv ⟨a', c', C q.1⟩ = q.2 := e'.symm
        rw [this]
      rw [e2, List.append_assoc]
      refine List.Perm.trans ?_ hp
      rw [hl4]
      refine List.Perm.append_left _ ?_
      exact (List.perm_middle (l₁ := pre) (l₂ := post) (a := q)).symm
    · simp only at hy
      rcases List.mem_append.1 hy with hy | hy
      · exact hdn y hy
      · rw [List.mem_singleton] at hy
        subst hy
        exact ⟨rfl, hS', hc'⟩
    · simp only [List.map_append, List.map_cons, List.map_nil]
      exact ho6
    · simp only
      rw [hl4]
      simp only [List.length_append, List.length_cons]
      omega
  subst h0
  rw [List.append_nil] at hp
  repeat (first|apply cA|apply cD|apply cE|refine cV rfl rfl rfl rfl (by first|(apply qxt<;>(exact rfl))|fail) ?_)
  refine dA rfl (by exact rho_of rfl) rfl ?_
  have hst := stp_init (F := pF ms) (fun i j hi hj hij hk => dst_at hI hi hj hij hk) hM.nodup hC hsd hcov hp (fun y hy => (hdn y hy).1)
  obtain ⟨H0, hH0⟩ : ∃ H0, H0 = dn.map (·.2) := ⟨_, rfl⟩
  rw [← hH0] at ho3
  have hst : Stp (pK ms) (pN ms) (pF ms) ms.length (H0.map (·.l)) (List.range ms.length) [] := by
    rw [hH0, List.map_map]
    exact hst
  have hH : ∀ h ∈ H0, Sl nI 1 w1 h.a h.l ∧ h.l.length ≤ h.c := fun h hm => by
    rw [hH0] at hm
    obtain ⟨y, hy, rfl⟩ := List.mem_map.1 hm
    exact (hdn y hy).2
  have hH0l : H0.length ≤ 1024 := by
    rw [hH0, List.length_map]
    simp only [List.length_nil] at hlen
    omega
  clear hI3 hR hC hsd hcov hdn hp hM hlen hml hH0 hrs
  have k3 : Kp [] w w3 := hk1.trans hk3
  repeat (first|apply cA|apply cB|apply cD|apply cE|apply cG|apply cJ|apply cM|refine cQ rfl ?_|refine cV rfl rfl rfl rfl (by first|(apply qas<;>(exact rfl))|fail) ?_)
  refine CG.loop (X := (Value × List Hw) × (Value × List Nat) × List Nat) (fun x => [(0, .pointer (some ⟨p, 0, none⟩)), (3, x.1.1), (6, x.2.1.1)])
    (fun x w' => Kp [] w1 w' ∧ Stp (pK ms) (pN ms) (pF ms) ms.length (x.1.2.map (·.l)) x.2.2 x.2.1.2 ∧ w'.ownsRow w1.heap.size 105 1 x.1.1 x.1.2.length (flt hwc x.1.2) ∧ w'.ownsRow w1.heap.size 3 1 x.2.1.1 x.2.1.2.length (flt nI x.2.1.2) ∧ (∀ h ∈ x.1.2, Sl nI 1 w1 h.a h.l ∧ h.l.length ≤ h.c) ∧ x.1.2.length ≤ 1024)
    (fun x => x.2.2.length) ((hv, H0), (.slice none 0 0, []), List.range ms.length) ⟨hk3, hst, ho3, own_nil, hH, hH0l⟩ (by (repeat' (first | exact True.intro | exact rfl | refine And.intro ?_ ?_))) ?_
  clear hst hH hH0l ho3 k3 hk3 s3
  rintro ⟨⟨hv, H⟩, ⟨ov, out⟩, R⟩ w3 ⟨hk3, hst, ho3, hoo3, hH, hHl⟩
  simp only at hst ho3 hoo3 hH hHl
  refine CG.to [(0, .pointer (some ⟨p, 0, none⟩)), (3, hv), (6, ov)] (by (repeat' (first | exact True.intro | exact rfl | refine And.intro ?_ ?_))) ?_
  have k3 : Kp [] w w3 := hk1.trans hk3
  have s3 := hk3.size
  have hP3 := hP.kp0 k3
  obtain ⟨a, c, rfl, hc, hS⟩ := hP3.sl
  obtain ⟨-, q1⟩ := hP3.rows
  obtain ⟨ao, co, rfl, hco, hSo⟩ := Sl.own nI_len hoo3 rfl
  by_cases hlt : out.length < ms.length
  rotate_left
  · have g1 : ¬ (out.length : Int) < (ms.length : Int) := by omega
    have hord := (hst.last hlt).eq
    repeat (first|apply cA|apply cB|apply cD|apply cE|refine cV rfl rfl rfl rfl (by first|((first|apply qmv|apply qlc|apply qfa|apply qnc|apply qls|apply qln)<;>(first|exact rfl|assumption|exact dcf (by first|assumption|omega)|exact List.not_mem_nil|fail))|fail) ?_)
    refine dA rfl (by exact rho_of rfl) rfl ?_
    repeat (first|apply cA|apply cB|apply cD|apply cE|apply cH|apply cJ|apply cM|refine cQ rfl ?_|refine cV rfl rfl rfl rfl (by first|((first|apply qmv|apply qas)<;>(exact rfl))|fail) ?_)
    refine ret1 (Or.inl rfl) Try.results56 (by first | exact ResV.tmp rfl | exact ResV.agg rfl rfl (by assumption) (by first | exact dc_length _ | exact nc_length _ | exact rc_length _ _ _ | exact ec_length _ | exact dl_length _ _ _ _ | rfl) | exact ResV.cell rfl rfl (by assumption)) ?_
    refine ⟨_, rfl, ?_, k3⟩
    unfold ordP
    rw [hord]
    exact own_mono hoo3 s1
  have g1 : (out.length : Int) < (ms.length : Int) := by omega
  have hful := hst.full hlt
  have hHpos : 0 < H.length := by
    obtain ⟨l, hl, _⟩ := hful
    obtain ⟨h, hh, _⟩ := List.mem_map.1 hl
    exact List.length_pos_of_mem hh
  obtain ⟨gh, caph, rfl, hch⟩ := own_slice ho3 hHpos
  repeat (first|apply cA|apply cB|apply cD|apply cE|refine cV rfl rfl rfl rfl (by first|((first|apply qmv|apply qlc|apply qfa|apply qnc|apply qls|apply qln)<;>(first|exact rfl|assumption|exact dct (by first|assumption|omega)|exact List.not_mem_nil|fail))|fail) ?_)
  refine cZ rfl (by exact rho_of rfl) rfl ?_
  repeat (first|apply cA|apply cB|apply cD|apply cE|apply cF|apply cG|refine cV rfl rfl rfl rfl (by first|((first|apply qmv|apply qas|apply qln)<;>(exact rfl))|fail) ?_)
  clear q1
  refine CG.loop (X := Nat × Int) (fun x => [(0, .pointer (some ⟨p, 0, none⟩)), (3, .slice (some ⟨gh, 0, none⟩) H.length caph), (6, .slice ao out.length co), (7, .int .i64 x.2), (29, .slice (some ⟨gh, 0, none⟩) H.length caph), (30, .int .i64 (H.length : Int)), (31, .int .i64 (x.1 : Int))])
    (fun x w' => x.1 ≤ H.length ∧ Kp [] w3 w' ∧ InB (pF ms) (H.map (·.l)) x.1 x.2) (fun x => H.length - x.1) (0, -1) ⟨Nat.zero_le _, Kp.refl _ _, InB.init _⟩ (by (repeat' (first | exact True.intro | exact rfl | refine And.intro ?_ ?_))) ?_
  rintro ⟨k, z⟩ w4 ⟨hk, hk4, hin⟩
  simp only at hk hin
  refine CG.to [(0, .pointer (some ⟨p, 0, none⟩)), (3, .slice (some ⟨gh, 0, none⟩) H.length caph), (6, .slice ao out.length co), (7, .int .i64 z), (29, .slice (some ⟨gh, 0, none⟩) H.length caph), (30, .int .i64 (H.length : Int)), (31, .int .i64 (k : Int))] (by (repeat' (first | exact True.intro | exact rfl | refine And.intro ?_ ?_))) ?_
  have k14 := hk3.trans hk4
  have ho4 := own_kp0 ho3 hk4
  have hP4 := hP3.kp0 hk4
  have hrow : ∀ j (hj : j < H.length), Row w4 gh (0 + j * 1) [hwv H[j]] := fun j hj => own_at hwc_len ho4 rfl hj
  by_cases hkl : k < H.length
  · have g2 : (k : Int) < (H.length : Int) := by omega
    have hrk := hrow k hkl
    have hgk : (H.map (·.l))[k]? = some H[k].l := by rw [List.getElem?_map, List.getElem?_eq_getElem hkl]; rfl
    obtain ⟨hSk, hck⟩ := hH _ (List.getElem_mem hkl)
    have hSk := hSk.kp0 k14
    unfold hwv at hrk
    rcases hHk : H[k] with ⟨ak, ck, lk⟩
    rw [hHk] at hrk hgk hSk
    simp only at hrk hgk hSk
    repeat (first|apply cA|apply cB|apply cD|apply cE|refine cV rfl rfl rfl rfl (by first|(apply qls<;>(first|exact rfl|exact dct (by first|assumption|omega)|fail))|fail) ?_)
    refine cZ rfl (by exact rho_of rfl) rfl ?_
    repeat (first|apply cA|apply cB|apply cD|apply cE|apply cF|apply cG|refine cV rfl rfl rfl rfl (by first|((first|apply qmv|apply qas|apply qlc|apply qix)<;>(first|exact rfl|exact Ar.mk (by omega)|assumption|exact List.not_mem_nil|fail))|fail) ?_)
    cases lk with
    | nil =>
      have g3 : ¬ (0 : Int) < (([] : List Nat).length : Int) := by simp
      refine CG.tail mixed 17 [0, 1, 2, 3, 4, 5, 6, 7, 8, 9, 10, 11, 12, 13, 14, 15, 16] (by kernel_rfl) ?_
      repeat (first | refine cY rfl rfl rfl (by first|((first|apply qmv|apply qln|apply qgt)<;>(first|exact rfl|exact dcf (by first|assumption|omega)|fail))|fail) ?_ | refine Der.skip rfl rfl ?_)
      refine Der.tl (fun w5 hk5 _ _ => ?_)
      repeat (first | first|apply cD|apply cE|refine cV rfl rfl rfl rfl (by first|(apply qpk<;>(exact rfl))|fail) ?_ | refine cX rfl rfl ?_)
      refine dA rfl (by exact rho_of rfl) rfl ?_
      repeat (first|apply cB|apply cD|apply cE|apply cF|apply cU|refine cV rfl rfl rfl rfl (by first|((first|apply qmv|apply qad)<;>(first|exact rfl|exact Ar.mk (by omega)|fail))|fail) ?_)
      refine NG.round (k + 1, z) (by (repeat' (first | exact True.intro | exact rfl | refine And.intro ?_ ?_))) ⟨by simp only; omega, hk4.trans hk5, hin.skip hgk⟩ (by simp only; omega)
    | cons x tk =>
      have g3 : (0 : Int) < ((x :: tk).length : Int) := by simp only [List.length_cons]; omega
      obtain ⟨gk, ok, rfl, hr0⟩ := hSk.at (i := 0) (by simp)
      simp only [List.getElem_cons_zero] at hr0
      have hxm : x < ms.length := hst.lt x ((hst.mem x).2 ⟨_, List.mem_of_getElem? hgk, List.mem_cons_self⟩)
      have hcase : z = -1 ∨ ∃ (b a : Nat) (t : List Nat), z = (b : Int) ∧ (H.map (·.l))[b]? = some (a :: t) := by
        cases hin with
        | no h => exact Or.inl rfl
        | att b a t h1 h2 h3 => exact Or.inr ⟨b, a, t, rfl, h2⟩
      rcases hcase with rfl | ⟨b, aa, t, rfl, hgb⟩
      · have g4 : (-1 : Int) < 0 := by omega
        refine CG.tail mixed 17 [0, 1, 2, 3, 4, 5, 6, 7, 8, 9, 10, 11, 12, 13, 14, 15, 16] (by kernel_rfl) ?_
        repeat (first | refine cY rfl rfl rfl (by first|((first|apply qmv|apply qls|apply qln|apply qgt)<;>(first|exact rfl|exact dct (by first|assumption|omega)|fail))|fail) ?_ | refine Der.skip rfl rfl ?_)
        refine Der.tl (fun w5 hk5 _ _ => ?_)
        repeat (first | first|apply cD|apply cE|refine cV rfl rfl rfl rfl (by first|(apply qpk<;>(exact rfl))|fail) ?_ | refine cX rfl rfl ?_)
        refine cZ rfl (by exact rho_of rfl) rfl ?_
        repeat (first|apply cB|apply cD|apply cE|apply cU|refine cV rfl rfl rfl rfl (by first|((first|apply qmv|apply qas|apply qad)<;>(first|exact rfl|exact Ar.mk (by omega)|fail))|fail) ?_)
        refine NG.round (k + 1, (k : Int)) (by (repeat' (first | exact True.intro | exact rfl | refine And.intro ?_ ?_))) ⟨by simp only; omega, hk4.trans hk5, hin.first hgk⟩ (by simp only; omega)
      · have hbl : b < H.length := by
          have := (List.getElem?_eq_some_iff.1 hgb).1
          simpa using this
        have g4 : ¬ (b : Int) < 0 := by omega
        have g5 : (b : Int) < (H.length : Int) := by omega
        have hrb := hrow b hbl
        obtain ⟨hSb, -⟩ := hH _ (List.getElem_mem hbl)
        have hSb := hSb.kp0 k14
        have hgb' : H[b].l = aa :: t := by
          rw [List.getElem?_map, List.getElem?_eq_getElem hbl] at hgb
          simpa using hgb
        unfold hwv at hrb
        rcases hHb : H[b] with ⟨ab, cb, lb⟩
        rw [hHb] at hrb hgb' hSb
        simp only at hrb hgb' hSb
        subst hgb'
        obtain ⟨gb, ob, rfl, hs0⟩ := hSb.at (i := 0) (by simp)
        simp only [List.getElem_cons_zero] at hs0
        have ham : aa < ms.length := hst.lt aa ((hst.mem aa).2 ⟨_, List.mem_of_getElem? hgb, List.mem_cons_self⟩)
        have g6 : (0 : Int) < ((aa :: t).length : Int) := by simp only [List.length_cons]; omega
        refine CG.tail mixed 17 [0, 1, 2, 3, 4, 5, 6, 7, 8, 9, 10, 11, 12, 13, 14, 15, 16] (by kernel_rfl) ?_
        repeat (refine cY rfl rfl rfl (by first|((first|apply qmv|apply qlc|apply qic|apply qix|apply qls|apply qln|apply qgt)<;>(first|exact rfl|exact Ar.mk (by omega)|assumption|exact dct (by first|assumption|omega)|exact dcf (by first|assumption|omega)|exact List.not_mem_nil|fail))|fail) ?_)
        refine Der.tl (fun w5 hk5 _ _ => ?_)
        obtain ⟨rr, hrr, hret⟩ := ahead_spec (hP4.kp0 hk5) hxm ham
        skip
        refine SG.ret rfl rfl rfl (vs := [.pointer (some ⟨p, 0, none⟩), .int .i64 (x : Int), .int .i64 (aa : Int)]) (by repeat' (first | exact True.intro | exact rho_of rfl | refine And.intro ?_ ?_)) hret (fun w6 hk6 => ?_)
        have k46 := (hk4.trans hk5).trans hk6
        cases rr with
        | true =>
          repeat (first|apply cD|apply cE|refine cV rfl rfl rfl rfl (by first|(apply qpk<;>(exact rfl))|fail) ?_)
          refine cZ rfl (by exact rho_of rfl) rfl ?_
          repeat (first|apply cB|apply cD|apply cE|apply cU|refine cV rfl rfl rfl rfl (by first|((first|apply qmv|apply qas|apply qad)<;>(first|exact rfl|exact Ar.mk (by omega)|fail))|fail) ?_)
          refine NG.round (k + 1, (k : Int)) (by (repeat' (first | exact True.intro | exact rfl | refine And.intro ?_ ?_))) ⟨by simp only; omega, k46, hin.turn hgb hgk (hrr.1 rfl)⟩ (by simp only; omega)
        | false =>
          repeat (first|apply cD|apply cE|refine cV rfl rfl rfl rfl (by first|(apply qpk<;>(exact rfl))|fail) ?_)
          refine dA rfl (by exact rho_of rfl) rfl ?_
          repeat (first|apply cB|apply cD|apply cE|apply cF|apply cU|refine cV rfl rfl rfl rfl (by first|((first|apply qmv|apply qad)<;>(first|exact rfl|exact Ar.mk (by omega)|fail))|fail) ?_)
          refine NG.round (k + 1, (b : Int)) (by (repeat' (first | exact True.intro | exact rfl | refine And.intro ?_ ?_))) ⟨by simp only; omega, k46, hin.keep hgb hgk (fun h => by have := hrr.2 h; cases this)⟩ (by simp only; omega)
  · have hke : k = (H.map (·.l)).length := by rw [List.length_map]; omega
    have g2 : ¬ (k : Int) < (H.length : Int) := by omega
    have hin' := hin
    rw [hke] at hin'
    obtain ⟨b, aa, t, rfl, hgb, hbest⟩ := hin'.get hful
    have hbl : b < H.length := by
      have := (List.getElem?_eq_some_iff.1 hgb).1
      simpa using this
    obtain ⟨R', hst', hR'⟩ := hst.step hgb hbest
    have g5 : (b : Int) < (H.length : Int) := by omega
    have hrb := hrow b hbl
    obtain ⟨hSb, hcb⟩ := hH _ (List.getElem_mem hbl)
    have hgb' : H[b].l = aa :: t := by
      rw [List.getElem?_map, List.getElem?_eq_getElem hbl] at hgb
      simpa using hgb
    unfold hwv at hrb
    rcases hHb : H[b] with ⟨ab, cb, lb⟩
    rw [hHb] at hrb hgb' hSb hcb
    simp only at hrb hgb' hSb hcb
    subst hgb'
    have hSb4 := hSb.kp0 k14
    obtain ⟨gb, ob, rfl, hs0⟩ := hSb4.at (i := 0) (by simp)
    simp only [List.getElem_cons_zero] at hs0
    have g6 : (0 : Int) < ((aa :: t).length : Int) := by simp only [List.length_cons]; omega
    have hol : out.length ≤ 1024 := by have := hst.len; omega
    have hoo4 := own_kp0 hoo3 hk4
    repeat (first|apply cA|apply cB|apply cD|apply cE|refine cV rfl rfl rfl rfl (by first|(apply qls<;>(first|exact rfl|exact dcf (by first|assumption|omega)|fail))|fail) ?_)
    refine dA rfl (by exact rho_of rfl) rfl ?_
    repeat (first|apply cA|apply cB|apply cE|apply cJ|apply cM|refine cQ rfl ?_|refine cV rfl rfl rfl rfl (by first|((first|apply qmv|apply qlc|apply qic|apply qix)<;>(first|exact rfl|exact Ar.mk (by omega)|assumption|exact List.not_mem_nil|fail))|fail) ?_)
    refine SG.buildSlice rfl rfl rfl rfl (bsi (aa : Int)) (fun b6 w5 hk5 hb6 hB6 => ?_)
    have hS6 : Sl nI 1 w5 (some ⟨b6, 0, none⟩) [aa] := Sl.of_blk (pre := []) (post := []) nI_len (l := [aa]) (T := 3) hB6
    clear hrb hs0
    skip
    refine SG.appO (enc := nI) (xs := out) (ys := [aa]) (base := w1.heap.size) rfl rfl rfl (by exact rho_of rfl) (by exact rho_of rfl) rfl rfl rfl rfl nI_len nI_one (own_kp0 hoo4 hk5) hS6 (by simp only [maxLen, List.length_cons, List.length_nil]; omega) (by simp only [List.length_cons, List.length_nil]; show (_ + _) * 8 ≤ _; omega) (by have := (k14.trans hk5).size; omega) (fun v' w6 hk6 ho6 hv6 => ?_)
    have hdis : ∀ g, (Value.slice (some ⟨gh, 0, none⟩) H.length caph).ownBlock = some g → g ∉ ownB (.slice ao out.length co) := fun g hg hm => by
      obtain ⟨cs, T, hT, hB⟩ : ∃ cs T, T = 105 ∧ Blk w4 g (.cells cs T) := by
        rcases ho4.2 with ⟨e, _⟩ | ⟨g', cap, cur, e, _, hg', _⟩
        · cases e
        · cases e
          cases hg
          exact ⟨_, _, rfl, blk_of hg'⟩
      subst hT
      exact own_neb hoo4 (by decide) hB g (ownB_mem hm) List.mem_cons_self
    have ho5 := own_kp0 ho4 hk5
    have ho6h := own_kpB ho5 hk6 hdis
    have k16 : Kp [] w1 w6 := (k14.trans hk5).trans_new hk6 (own_new hoo4 (Nat.le_refl _))
    have hrb6 : Row w6 gh (0 + b * 1) (hwc H[b]) := own_at hwc_len ho6h rfl hbl
    rw [hHb] at hrb6
    unfold hwc hwv at hrb6
    simp only at hrb6
    repeat (first|apply cB|apply cD|apply cE|refine cV rfl rfl rfl rfl (by first|((first|apply qmv|apply qas|apply qlc|apply qix)<;>(first|exact rfl|exact Ar.mk (by omega)|assumption|exact List.not_mem_nil|fail))|fail) ?_)
    refine cV rfl rfl rfl rfl (qfr (j := 1) rfl rfl rfl (Ar.mk (by simp only [List.length_cons]; omega))) ?_
    repeat (first|refine cV rfl rfl rfl rfl (by first|(apply qix<;>(first|exact rfl|exact Ar.mk (by omega)|fail))|fail) ?_)
    obtain ⟨y, hy⟩ : ∃ y : Hw, y = ⟨some ⟨gb, if cb = 1 then ob else ob + 1 * 1, none⟩, cb - 1, t⟩ := ⟨_, rfl⟩
    refine SG.storeV (k := b) (y := y) (vy := .slice (some ⟨gb, if cb = 1 then ob else ob + 1 * 1, none⟩) t.length (cb - 1)) hwc_len hwc_one rfl rfl (by exact rho_of rfl) rfl (by exact rho_of rfl) (by rw [hy]; rfl) ho6h rfl hbl (fun w7 hk7 ho7 => ?_)
    repeat (first|apply cD|apply cU)
    refine NG.round ((.slice (some ⟨gh, 0, none⟩) H.length caph, H.set b y), (v', out ++ [aa]), R') (by (repeat' (first | exact True.intro | exact rfl | refine And.intro ?_ ?_))) ⟨k16.trans_new hk7 (fun z hz => ?_), ?_, ?_, ?_, fun h hh => ?_, ?_⟩ (by simp only; omega)
    · rw [List.mem_singleton] at hz
      subst hz
      exact Or.inr (own_geB ho4 _ rfl)
    · simp only
      rw [List.map_set, hy]
      exact hst'
    · simp only
      rw [List.length_set]
      exact ho7
    · simp only
      refine own_kpB ho6 hk7 (fun g hg hm => ?_)
      rw [List.mem_singleton] at hm
      subst hm
      obtain ⟨cs, T, hT, hB⟩ : ∃ cs T, T = 105 ∧ Blk w6 g (.cells cs T) := by
        rcases ho6h.2 with ⟨e, _⟩ | ⟨g', cap, cur, e, _, hg', _⟩
        · cases e
        · cases e
          exact ⟨_, _, rfl, blk_of hg'⟩
      subst hT
      exact own_neb ho6 (by decide) hB g hg List.mem_cons_self
    · simp only at hh
      rcases List.mem_or_eq_of_mem_set hh with hh | rfl
      · exact hH h hh
      · rw [hy]
        refine ⟨drop_sl hSb hcb, ?_⟩
        simp only [List.length_cons] at hcb ⊢
        omega
    · simp only [List.length_set]
      exact hHl
end Go.Proofs.Ytgbgnlboogalgaa
namespace Go.Proofs.Ytgbgnlboogalgaa
set_option linter.unusedVariables false
def noE : En := ⟨⟨zd, 0, 0, 0, [], []⟩, 0⟩
def enA (l : List En) (j : Nat) : En := (l[j]?).getD noE
theorem enA_at {l : List En} {j : Nat} (h : j < l.length) : enA l j = l[j] := by unfold enA; rw [List.getElem?_eq_getElem h]; rfl
noncomputable def ordE (l : List En) : List En := ordL En.key En.non En.fee l
theorem range_enA (l : List En) : (List.range l.length).map (enA l) = l := by
  apply List.ext_getElem?
  intro i
  rw [List.getElem?_map]
  by_cases h : i < l.length
  · rw [List.getElem?_eq_getElem (by simpa using h), List.getElem_range, List.getElem?_eq_getElem h, Option.map_some, enA_at h]
  · rw [List.getElem?_eq_none (by simpa using h), List.getElem?_eq_none (by omega)]
    rfl
theorem pK_enA (ms : List Em) : pK ms = fun j => En.key (enA (ms.map Em.en) j) := by
  funext j
  unfold pK enA
  rw [List.getElem?_map]
  cases ms[j]? <;> rfl
theorem pN_enA (ms : List Em) : pN ms = fun j => En.non (enA (ms.map Em.en) j) := by
  funext j
  unfold pN enA
  rw [List.getElem?_map]
  cases ms[j]? <;> rfl
theorem pF_enA (ms : List Em) : pF ms = fun j => En.fee (enA (ms.map Em.en) j) := by
  funext j
  unfold pF enA
  rw [List.getElem?_map]
  cases ms[j]? <;> rfl
theorem ordP_map (ms : List Em) : (ordP ms).map (enA (ms.map Em.en)) = ordE (ms.map Em.en) := by
  have h : Ord (pK ms) (pN ms) (pF ms) (List.range ms.length) (ordP ms) := ordL_spec _
  rw [pK_enA, pN_enA, pF_enA] at h
  have h2 := Ord.map (key := En.key) (non := En.non) (fee := En.fee) (enA (ms.map Em.en)) h
  have e : (List.range ms.length).map (enA (ms.map Em.en)) = ms.map Em.en := by
    have := range_enA (ms.map Em.en)
    rwa [List.length_map] at this
  rw [e] at h2
  exact h2.eq.symm
theorem ordP_perm (ms : List Em) : (ordP ms).Perm (List.range ms.length) := ordL_perm _
theorem ordP_lt {ms : List Em} {j : Nat} (h : j ∈ ordP ms) : j < ms.length := List.mem_range.1 ((ordP_perm ms).mem_iff.1 h)
theorem ordP_length (ms : List Em) : (ordP ms).length = ms.length := by rw [(ordP_perm ms).length_eq, List.length_range]
theorem ordE_perm (l : List En) : (ordE l).Perm l := ordL_perm l
theorem ordE_length (l : List En) : (ordE l).length = l.length := ordL_length l
def pickL (g : List Nat → Nat → Bool) : List Nat → List Nat → List Nat
  | _, [] => []
  | pre, j :: r => if g pre j then j :: pickL g (pre ++ [j]) r else pickL g (pre ++ [j]) r
theorem pickL_append (g : List Nat → Nat → Bool) : ∀ (pre a b : List Nat), pickL g pre (a ++ b) = pickL g pre a ++ pickL g (pre ++ a) b
  | pre, [], b => by simp [pickL]
  | pre, j :: a, b => by
    simp only [List.cons_append, pickL]
    rw [pickL_append g (pre ++ [j]) a b]
    have e : pre ++ [j] ++ a = pre ++ j :: a := by simp
    rw [e]
    split <;> simp
theorem pickL_one (g : List Nat → Nat → Bool) (pre : List Nat) (j : Nat) : pickL g pre [j] = if g pre j then [j] else [] := by
  simp only [pickL]
theorem pickL_filter (q : Nat → Bool) : ∀ (pre l : List Nat), pickL (fun _ j => q j) pre l = l.filter q
  | pre, [] => rfl
  | pre, j :: l => by
    simp only [pickL]
    rw [pickL_filter q]
    by_cases h : q j = true
    · rw [if_pos h, List.filter_cons_of_pos h]
    · rw [if_neg h, List.filter_cons_of_neg h]
theorem pickL_le (g : List Nat → Nat → Bool) : ∀ (pre l : List Nat), (pickL g pre l).length ≤ l.length
  | pre, [] => Nat.le_refl _
  | pre, j :: l => by
    have := pickL_le g (pre ++ [j]) l
    simp only [pickL]
    split <;> simp only [List.length_cons] <;> omega
theorem map_filter {ms : List Em} (q : En → Bool) : ((ordP ms).filter (fun j => q (enA (ms.map Em.en) j))).map (enA (ms.map Em.en)) = (ordE (ms.map Em.en)).filter q := by
  rw [← ordP_map, List.filter_map]
  rfl
section
variable {κ : Type} [DecidableEq κ]
def MaxM (m : List (κ × Int)) (L : List (κ × Int)) : Prop := ∀ k z, (∃ n, alook m k = some n ∧ z ≤ n) ↔ ∃ p ∈ L, p.1 = k ∧ z ≤ p.2
def MinM (m : List (κ × Int)) (L : List (κ × Int)) : Prop := ∀ k z, (∃ n, alook m k = some n ∧ n ≤ z) ↔ ∃ p ∈ L, p.1 = k ∧ p.2 ≤ z
theorem MaxM.nil : MaxM ([] : List (κ × Int)) [] := fun k z => by
  constructor
  · rintro ⟨n, h, _⟩; cases h
  · rintro ⟨p, h, _⟩; cases h
theorem MaxM.keep {m L : List (κ × Int)} {k : κ} {z n : Int} (h : MaxM m L) (hk : alook m k = some n) (hn : ¬ n < z) : MaxM m (L ++ [(k, z)]) := fun k' z' => by
  rw [h k' z']
  constructor
  · rintro ⟨p, h1, h2⟩; exact ⟨p, List.mem_append_left _ h1, h2⟩
  · rintro ⟨p, h1, h2, h3⟩
    rcases List.mem_append.1 h1 with h1 | h1
    · exact ⟨p, h1, h2, h3⟩
    · rw [List.mem_singleton] at h1
      subst h1
      simp only at h2 h3
      subst h2
      exact (h k z').1 ⟨n, hk, by omega⟩
theorem MaxM.put {m L : List (κ × Int)} {k : κ} {z : Int} (h : MaxM m L) (hn : ∀ n, alook m k = some n → n < z) : MaxM (aput m k z) (L ++ [(k, z)]) := fun k' z' => by
  rw [alook_put]
  by_cases e : k = k'
  · subst e
    rw [if_pos rfl]
    constructor
    · rintro ⟨n, h1, h2⟩
      cases h1
      exact ⟨(k, z), by simp, rfl, h2⟩
    · rintro ⟨p, h1, h2, h3⟩
      rcases List.mem_append.1 h1 with h1 | h1
      · obtain ⟨n, g1, g2⟩ := (h k z').2 ⟨p, h1, h2, h3⟩
        have := hn n g1
        exact ⟨z, rfl, by omega⟩
      · rw [List.mem_singleton] at h1
        subst h1
        exact ⟨z, rfl, h3⟩
  · rw [if_neg e, h k' z']
    constructor
    · rintro ⟨p, h1, h2⟩; exact ⟨p, List.mem_append_left _ h1, h2⟩
    · rintro ⟨p, h1, h2, h3⟩
      rcases List.mem_append.1 h1 with h1 | h1
      · exact ⟨p, h1, h2, h3⟩
      · rw [List.mem_singleton] at h1
        subst h1
        exact absurd h2 e
end
def hasN (d : Dg) (e : En) : Bool := decide (nameT e.t = d)
noncomputable def findE (l : List En) (d : Dg) : Option En := (ordE l).find? (hasN d)
def nmP (ms : List Em) (d : Dg) (j : Nat) : Bool := hasN d (enA (ms.map Em.en) j)
/-- The place of the first one of a name in the order. -/
noncomputable def namedZ (ms : List Em) (d : Dg) : Int := ((ordP ms).find? (nmP ms d)).elim (-1) (fun j => (j : Int))
end Go.Proofs.Ytgbgnlboogalgaa
namespace Go.Proofs.Ytgbgnlboogalgaa
open Go.Proofs
set_option linter.unusedVariables false
def isN (d : Dg) (e : Em) : Bool := decide (nameT e.x.t = d)
/-- One has gone. -/
noncomputable def dropN (l : List En) (d : Dg) : List En := match findE l d with
  | some e => l.eraseIdx (likeN l e.key e.non)
  | none => l
attribute [local irreducible] CG NG SG Vals Der Row Blk MapIs IterAt nameT wrongT
end Go.Proofs.Ytgbgnlboogalgaa
namespace Go.Proofs.Ytgbgnlboogalgaa
open Go.Proofs
set_option linter.unusedVariables false
/-- Transactions that a caller may dispose of. -/
structure TxsO (w : World) (base : Nat) (v : Value) (xs : List Tm) : Prop where
  own : w.ownsRow base 35 13 v xs.length (flt txc xs)
  ins : ∀ x ∈ xs, x.In 0 w
theorem TxsO.nil {w : World} {base : Nat} : TxsO w base (.slice none 0 0) [] := ⟨own_nil, fun x h => (by cases h)⟩
theorem TxsO.kp {w w' : World} {base : Nat} {v : Value} {xs : List Tm} {S : List Nat} (h : TxsO w base v xs) (hk : Kp S w w') (hv : ∀ b, v.ownBlock = some b → b ∉ S) (hO : Oth 0 w S) : TxsO w' base v xs :=
  ⟨own_kpB h.own hk hv, fun x hx => (h.ins x hx).kpO hk hO⟩
theorem TxsO.kp0 {w w' : World} {base : Nat} {v : Value} {xs : List Tm} (h : TxsO w base v xs) (hk : Kp [] w w') : TxsO w' base v xs := h.kp hk (fun _ _ => List.not_mem_nil) Oth.nil
theorem TxsO.sl {w : World} {base : Nat} {v : Value} {xs : List Tm} (h : TxsO w base v xs) : ∃ a c, v = .slice a xs.length c ∧ xs.length ≤ c ∧ Sl txc 13 w a xs := Sl.own txc_length h.own rfl
theorem own_apT {w : World} {base base' n n' sz sz' : Nat} {T T' : TypeId} {v v' : Value} {xs xs' : List Value} (ho : w.ownsRow base T sz v n xs) (ho' : w.ownsRow base' T' sz' v' n' xs') (hT : T ≠ T') : ∀ b, v.ownBlock = some b → b ∉ ownB v' := fun b hb hm => by
  have hm := ownB_mem hm
  rcases ho.2 with ⟨rfl, _⟩ | ⟨g, cap, cur, rfl, _, hg, _⟩
  · cases hb
  · cases hb
    rcases ho'.2 with ⟨rfl, _⟩ | ⟨g', cap', cur', rfl, _, hg', _⟩
    · cases hm
    · cases hm
      rw [hg] at hg'
      cases hg'
      exact hT rfl
set_option maxHeartbeats 4000000 in
theorem bstx' (w : World) (a0 a1 a2 a3 a4 a5 a6 a7 : UInt8) (n f k : Int) (x1 x2 : Option Addr) (m1 m2 c1' c2' : Nat) :
    (Instr.buildSlice 22 1 #[(0, .agg #[bv a0, bv a1, bv a2, bv a3, bv a4, bv a5, bv a6, bv a7, .int .i64 n, .int .i64 f, .int .i64 k, .slice x1 m1 c1', .slice x2 m2 c2'])]).run Try.prog w = .ok (.slice (some ⟨w.heap.size, 0, none⟩) 1 1) { w with heap := w.heap.push (.cells #[bv a0, bv a1, bv a2, bv a3, bv a4, bv a5, bv a6, bv a7, .int .i64 n, .int .i64 f, .int .i64 k, .slice x1 m1 c1', .slice x2 m2 c2'] 35) } := by kernel_rfl
theorem bstx (x : Tm) (w : World) : (Instr.buildSlice 22 1 #[(0, txv x)]).run Try.prog w = .ok (.slice (some ⟨w.heap.size, 0, none⟩) 1 1) { w with heap := w.heap.push (.cells (txc x).toArray 35) } := by
  obtain ⟨⟨⟨l, hl⟩, n, f, k, b, g⟩, a1, c1, a2, c2⟩ := x
  match l, hl with
  | [x0, x1, x2, x3, x4, x5, x6, x7], _ => exact bstx' w x0 x1 x2 x3 x4 x5 x6 x7 n f k a1 a2 b.length g.length c1 c2
attribute [local irreducible] CG NG SG Vals Der Row Blk MapIs IterAt nameT wrongT
set_option maxHeartbeats 16000000 in
theorem pick_spec {w : World} {base p : Nat} {v : Value} {room : Int} {ms : List Em} (hP : Pl w base p v room ms) (hI : PInv room (ms.map Em.en)) (hr : room ≤ 1024) {f : FuncId} [Fn : Fnc Try.prog f] {caps : List Value} {g : List Nat → Nat → Bool} {S : List Nat} (J : List Nat → World → Prop)
    (hJ0 : J [] w) (hJk : ∀ pre W W' T, (∀ b ∈ T, w.heap.size ≤ b) → Kp T W W' → J pre W → J pre W') (hPS : ∀ W, Kp S w W → Pl W base p v room ms) (hSlt : ∀ b ∈ S, b < w.heap.size) (hSO : ∀ pre W, J pre W → Oth 0 W S)
    (hcall : ∀ pre j (hj : j < ms.length) W, ordP ms = pre ++ j :: (ordP ms).drop (pre.length + 1) → Kp S w W → J pre W → Calls Try.prog f (ev ms[j] :: caps).toArray W (fun e w' => e = .returned (.bool (g pre j)) ∧ Kp S W w' ∧ J (pre ++ [j]) w')) :
    Calls Try.prog 33 #[.pointer (some ⟨p, 0, none⟩), fnv f caps] w (fun e w' => ∃ v' xs, e = .returned v' ∧ Kp S w w' ∧ TxsO w' w.heap.size v' xs ∧ xs.map (·.t) = (pickL g [] (ordP ms)).map (fun j => (enA (ms.map Em.en) j).t) ∧ J (ordP ms) w') := by
  refine enter2 Try.func33 rfl Try.ntmps33 rfl ?_
  have hll : ms.length ≤ 1024 := by have := hI.len; rw [List.length_map] at this; omega
  repeat (first|apply cA|apply cB|apply cD|apply cE|refine cV rfl rfl rfl rfl (by first|((first|apply qmv|apply qas)<;>(exact rfl))|fail) ?_)
  refine SG.call rfl rfl rfl (vs := [.pointer (some ⟨p, 0, none⟩)]) (by repeat' (first | exact True.intro | exact rho_of rfl | refine And.intro ?_ ?_)) ((order_spec hP hI hr).mono (fun e w1 hh => ?_))
  obtain ⟨vo, he, ho1, hk1⟩ := hh
  refine ⟨_, he, ?_⟩
  clear he
  have hol := ordP_length ms
  obtain ⟨ao, co, rfl, hco, -⟩ := Sl.own nI_len ho1 rfl
  have hJ1 := hJk [] w w1 [] (fun b hb => by cases hb) hk1 hJ0
  have s1 := hk1.size
  repeat (first|apply cD|apply cE|apply cG|refine cV rfl rfl rfl rfl (by first|((first|apply qmv|apply qln)<;>(exact rfl))|fail) ?_)
  refine CG.loop (X := Nat × (Value × List Tm)) (fun x => [(0, .pointer (some ⟨p, 0, none⟩)), (1, fnv f caps), (5, x.2.1), (9, .slice ao (ordP ms).length co), (10, .int .i64 ((ordP ms).length : Int)), (11, .int .i64 (x.1 : Int))])
    (fun x w' => x.1 ≤ (ordP ms).length ∧ Kp S w w' ∧ J ((ordP ms).take x.1) w' ∧ TxsO w' w.heap.size x.2.1 x.2.2 ∧ x.2.2.map (·.t) = (pickL g [] ((ordP ms).take x.1)).map (fun j => (enA (ms.map Em.en) j).t) ∧ w'.ownsRow w.heap.size 3 1 (.slice ao (ordP ms).length co) (ordP ms).length (flt nI (ordP ms)))
    (fun x => (ordP ms).length - x.1) (0, (.slice none 0 0, [])) ⟨Nat.zero_le _, hk1.any, hJ1, TxsO.nil, rfl, ho1⟩ (by (repeat' (first | exact True.intro | exact rfl | refine And.intro ?_ ?_))) ?_
  rintro ⟨k, vr, xs⟩ w2 ⟨hk, hk2, hJ2, hX, hxs, ho2⟩
  simp only at hk hJ2 hX hxs
  refine CG.to [(0, .pointer (some ⟨p, 0, none⟩)), (1, fnv f caps), (5, vr), (9, .slice ao (ordP ms).length co), (10, .int .i64 ((ordP ms).length : Int)), (11, .int .i64 (k : Int))] (by (repeat' (first | exact True.intro | exact rfl | refine And.intro ?_ ?_))) ?_
  have s2 := hk2.size
  by_cases hlt : k < (ordP ms).length
  rotate_left
  · have g2 : ¬ (k : Int) < ((ordP ms).length : Int) := by omega
    rw [List.take_of_length_le (by omega)] at hJ2 hxs
    repeat (first|apply cA|apply cB|apply cD|apply cE|refine cV rfl rfl rfl rfl (by first|(apply qls<;>(first|exact rfl|exact dcf (by first|assumption|omega)|fail))|fail) ?_)
    refine dA rfl (by exact rho_of rfl) rfl ?_
    repeat (first|apply cA|apply cB|apply cD|apply cE|apply cH|apply cJ|apply cM|refine cQ rfl ?_|refine cV rfl rfl rfl rfl (by first|((first|apply qmv|apply qas)<;>(exact rfl))|fail) ?_)
    refine ret1 (Or.inl rfl) Try.results33 (by first | exact ResV.tmp rfl | exact ResV.agg rfl rfl (by assumption) (by first | exact dc_length _ | exact nc_length _ | exact rc_length _ _ _ | exact ec_length _ | exact dl_length _ _ _ _ | rfl) | exact ResV.cell rfl rfl (by assumption)) ?_
    exact ⟨_, xs, rfl, hk2, hX, hxs, hJ2⟩
  have g2 : (k : Int) < ((ordP ms).length : Int) := by omega
  obtain ⟨bo, cpo, eo, -⟩ := own_slice ho2 (by omega)
  cases eo
  have hro := own_at nI_len ho2 rfl hlt
  have hjm : (ordP ms)[k] < ms.length := ordP_lt (List.getElem_mem hlt)
  have htk : (ordP ms).take (k + 1) = (ordP ms).take k ++ [(ordP ms)[k]] := List.take_succ_eq_append_getElem hlt
  have hsplit : ordP ms = (ordP ms).take k ++ (ordP ms)[k] :: (ordP ms).drop (((ordP ms).take k).length + 1) := by
    rw [List.length_take, Nat.min_eq_left (by omega), ← List.drop_eq_getElem_cons hlt, List.take_append_drop]
  have hpl : pickL g [] ((ordP ms).take (k + 1)) = pickL g [] ((ordP ms).take k) ++ if g ((ordP ms).take k) (ordP ms)[k] then [(ordP ms)[k]] else [] := by
    rw [htk, pickL_append, pickL_one]
    rfl
  have hple := pickL_le g [] ((ordP ms).take k)
  rw [List.length_take, Nat.min_eq_left (by omega)] at hple
  have hxl : xs.length ≤ 1024 := by
    have := congrArg List.length hxs
    simp only [List.length_map] at this
    omega
  generalize hpre : (ordP ms).take k = pre at hJ2 hxs hpl htk hsplit
  generalize (ordP ms)[k] = jj at hro hjm hpl htk hsplit
  have g3 : (jj : Int) < (ms.length : Int) := by omega
  have g4 : (0 : Int) ≤ (jj : Int) := by omega
  have hP2 := hPS w2 hk2
  obtain ⟨a, c, rfl, hc, hS2⟩ := hP2.sl
  obtain ⟨-, q2⟩ := hP2.rows
  obtain ⟨b1, o1, rfl, hrj⟩ := hS2.at hjm
  have hen : (enA (ms.map Em.en) jj).t = ms[jj].x.t := by rw [enA_at (by simpa using hjm), List.getElem_map]; rfl
  repeat (first|apply cA|apply cB|apply cD|apply cE|refine cV rfl rfl rfl rfl (by first|(apply qls<;>(first|exact rfl|exact dct (by first|assumption|omega)|fail))|fail) ?_)
  refine cZ rfl (by exact rho_of rfl) rfl ?_
  repeat (first|apply cA|apply cB|apply cD|apply cE|apply cF|apply cG|refine cV rfl rfl rfl rfl (by first|((first|apply qmv|apply qas|apply qlc|apply qla|apply qfa|apply qnc|apply qix)<;>(first|exact rfl|exact Ar.mk (by omega)|assumption|exact List.not_mem_nil|apply ec_length|fail))|fail) ?_)
  refine SG.callV (Fn := Fn) (f := f) (vs := [ev ms[jj]]) (caps := caps) rfl rfl rfl (by exact rho_of rfl) (by repeat' (first | exact True.intro | exact rho_of rfl | refine And.intro ?_ ?_)) ((hcall pre jj hjm w2 hsplit hk2 hJ2).mono (fun e w3 hh => ?_))
  obtain ⟨he, hk3, hJ3⟩ := hh
  refine ⟨_, he, ?_⟩
  clear he q2 hrj hS2
  rw [← htk] at hJ3
  have k3 := hk2.trans hk3
  have hX3 := hX.kp hk3 (fun b hb hm => by have := own_geB hX.own b hb; have := hSlt b hm; omega) (hSO _ _ hJ2)
  have ho3 := own_kpB ho2 hk3 (fun b hb hm => by have := own_geB ho2 b hb; have := hSlt b hm; omega)
  have s3 := hk3.size
  cases hg : g pre jj with
  | false =>
    rw [hg] at hpl
    simp only [Bool.false_eq_true, if_false, List.append_nil] at hpl
    repeat (first|apply cD|apply cE)
    refine dA rfl (by exact rho_of rfl) rfl ?_
    repeat (first|apply cB|apply cD|apply cE|apply cF|apply cU|refine cV rfl rfl rfl rfl (by first|((first|apply qmv|apply qad)<;>(first|exact rfl|exact Ar.mk (by omega)|fail))|fail) ?_)
    refine NG.round (k + 1, (vr, xs)) (by (repeat' (first | exact True.intro | exact rfl | refine And.intro ?_ ?_))) ⟨by simp only; omega, k3, hJ3, hX3, by simp only; rw [hpl]; exact hxs, ho3⟩ (by simp only; omega)
  | true =>
    rw [hg] at hpl
    simp only [if_true] at hpl
    have hP3 := hPS w3 k3
    obtain ⟨a3, c3, e3, -, hS3⟩ := hP3.sl
    cases e3
    obtain ⟨-, q3⟩ := hP3.rows
    have hrj3 : Row w3 b1 (o1 + jj * 22) (ec ms[jj]) := hS3.row (List.getElem?_eq_getElem hjm)
    obtain ⟨rx, -⟩ := ec_rows hrj3
    repeat (first|apply cD|apply cE)
    refine cZ rfl (by exact rho_of rfl) rfl ?_
    repeat (first|apply cB|refine cV rfl rfl rfl rfl (by first|((first|apply qmv|apply qlc|apply qla|apply qfa|apply qnc|apply qix)<;>(first|exact rfl|exact Ar.mk (by omega)|assumption|exact List.not_mem_nil|apply txc_length|fail))|fail) ?_)
    refine SG.call rfl rfl rfl (vs := [txv ms[jj].x]) (by repeat' (first | exact True.intro | exact rho_of rfl | refine And.intro ?_ ?_)) ((tclone_spec (hP3.ins _ (List.getElem_mem hjm))).mono (fun e w4 hh => ?_))
    obtain ⟨y, hy, he, hin, hk4, -, -⟩ := hh
    refine ⟨_, he, ?_⟩
    clear he q3 hrj3 rx
    refine SG.buildSlice rfl rfl rfl rfl (bstx y) (fun b6 w5 hk5 hb6 hB6 => ?_)
    have hS6 : Sl txc 13 w5 (some ⟨b6, 0, none⟩) [y] := sl_one txc_length hB6
    have k35 : Kp [] w3 w5 := hk4.trans hk5
    have hX5 := hX3.kp0 k35
    have ho5 := own_kp0 ho3 k35
    have hin5 := hin.kp0 hk5
    have s5 := k35.size
    skip
    refine SG.appO (enc := txc) (xs := xs) (ys := [y]) (base := w.heap.size) rfl rfl rfl (by exact rho_of rfl) (by exact rho_of rfl) rfl rfl rfl rfl txc_length txc_one hX5.own hS6 (by simp only [maxLen, List.length_cons, List.length_nil]; omega) (by simp only [List.length_cons, List.length_nil]; show (_ + _) * 80 ≤ _; omega) (by omega) (fun v' w6 hk6 ho6 hv6 => ?_)
    have hO6 : Oth 0 w5 (ownB vr) := Oth.own hX5.own (Nat.zero_le _) (by decide)
    have hnew : ∀ b ∈ ownB vr, w.heap.size ≤ b := fun b hb => own_geB hX5.own b (ownB_mem hb)
    have hJ6 := hJk _ w5 w6 _ hnew hk6 (hJk _ w3 w5 [] (fun b hb => by cases hb) k35 hJ3)
    repeat (first|apply cB|apply cD|apply cE|apply cU|refine cV rfl rfl rfl rfl (by first|((first|apply qmv|apply qas|apply qad)<;>(first|exact rfl|exact Ar.mk (by omega)|fail))|fail) ?_)
    refine NG.round (k + 1, (v', xs ++ [y])) (by (repeat' (first | exact True.intro | exact rfl | refine And.intro ?_ ?_))) ⟨by simp only; omega, (k3.trans k35.any).trans_new hk6 (fun b hb => Or.inr (hnew b hb)), hJ6, ⟨ho6, fun x hx => ?_⟩, ?_, own_kpB ho5 hk6 (own_apT ho5 hX5.own (by decide))⟩ (by simp only; omega)
    · rcases List.mem_append.1 hx with hx | hx
      · exact (hX5.ins x hx).kpO hk6 hO6
      · rw [List.mem_singleton] at hx
        subst hx
        exact hin5.kpO hk6 hO6
    · simp only
      rw [hpl, List.map_append, List.map_append, hxs, List.map_cons, List.map_cons, hy, hen]
      rfl
/-- .. where what is told hangs on nothing else. -/
theorem pickF_spec {w : World} {base p : Nat} {v : Value} {room : Int} {ms : List Em} (hP : Pl w base p v room ms) (hI : PInv room (ms.map Em.en)) (hr : room ≤ 1024) {f : FuncId} [Fn : Fnc Try.prog f] {caps : List Value} (q : En → Bool)
    (hcall : ∀ (e : Em) W T, (∀ b ∈ T, w.heap.size ≤ b) → Kp T w W → Ret Try.prog f (ev e :: caps).toArray W (.bool (q e.en))) :
    Calls Try.prog 33 #[.pointer (some ⟨p, 0, none⟩), fnv f caps] w (fun e w' => ∃ v' xs, e = .returned v' ∧ Kp [] w w' ∧ TxsO w' w.heap.size v' xs ∧ xs.map (·.t) = ((ordE (ms.map Em.en)).filter q).map (·.t)) := by
  refine (pick_spec (g := fun _ j => q (enA (ms.map Em.en) j)) (S := []) (Fn := Fn) hP hI hr (fun _ W => ∃ T, (∀ b ∈ T, w.heap.size ≤ b) ∧ Kp T w W) ⟨[], fun b hb => (by cases hb), Kp.refl _ _⟩ (fun pre W W' T hT hk ⟨T2, h1, h2⟩ => ⟨T2 ++ T, fun b hb => (by rcases List.mem_append.1 hb with h | h; exact h1 b h; exact hT b h), (h2.mono (fun b hb => List.mem_append_left _ hb)).trans (hk.mono (fun b hb => List.mem_append_right _ hb))⟩) (fun W hk => hP.kp0 hk) (fun b hb => by cases hb) (fun _ _ _ => Oth.nil) (fun pre j hj W _ hk ⟨T, h1, h2⟩ => (hcall ms[j] W T h1 h2).mono (fun e w' ⟨he, hk'⟩ => ⟨?_, hk', T, h1, h2.trans hk'.any⟩))).mono (fun e w' hh => ?_)
  · obtain ⟨v', xs, he, hk, hX, hxs, -⟩ := hh
    refine ⟨v', xs, he, hk, hX, ?_⟩
    rw [hxs, pickL_filter (fun j => q (enA (ms.map Em.en) j)), ← map_filter, List.map_map]
    rfl
  · rw [he, enA_at (by simpa using hj), List.getElem_map]
set_option maxHeartbeats 16000000 in
theorem allc_spec {w : World} (e : Em) : Ret Try.prog 34 #[ev e] w (.bool true) := by
  refine enterL (args := [ev e]) Try.func34 rfl Try.ntmps34 rfl ?_
  repeat (first|apply cA|apply cB)
  refine SG.box rfl rfl rfl (by exact rho_of rfl) (fun b1 w1 hk1 hb1 hB1 => ?_)
  repeat (first|apply cA|apply cB|apply cD|apply cE|apply cH|refine cV rfl rfl rfl rfl (by first|(apply qas<;>(exact rfl))|fail) ?_)
  refine ret1 (Or.inl rfl) Try.results34 (by first | exact ResV.tmp rfl | exact ResV.agg rfl rfl (by assumption) (by first | exact dc_length _ | exact nc_length _ | exact rc_length _ _ _ | exact ec_length _ | exact dl_length _ _ _ _ | rfl) | exact ResV.cell rfl rfl (by assumption)) ?_
  exact ⟨rfl, hk1⟩
set_option maxHeartbeats 16000000 in
theorem all_spec {w : World} {base p : Nat} {v : Value} {room : Int} {ms : List Em} (hP : Pl w base p v room ms) (hI : PInv room (ms.map Em.en)) (hr : room ≤ 1024) :
    Calls Try.prog 11 #[.pointer (some ⟨p, 0, none⟩)] w (fun e w' => ∃ v' xs, e = .returned v' ∧ Kp [] w w' ∧ TxsO w' w.heap.size v' xs ∧ xs.map (·.t) = (ordE (ms.map Em.en)).map (·.t)) := by
  refine enter1 Try.func11 rfl Try.ntmps11 rfl ?_
  repeat (first|apply cA|apply cB|apply cD|apply cE|refine cV rfl rfl rfl rfl (by first|((first|apply qep|apply qmv|apply qas|apply qep)<;>(exact rfl))|fail) ?_)
  refine dA rfl (by exact rho_of rfl) rfl ?_
  repeat (first|apply cA|apply cB|apply cE|apply cF|refine cV rfl rfl rfl rfl (by first|(apply qmv<;>(exact rfl))|fail) ?_)
  refine SG.call rfl rfl rfl (vs := [.pointer (some ⟨p, 0, none⟩), fnv 34 []]) (by repeat' (first | exact True.intro | exact rho_of rfl | refine And.intro ?_ ?_)) ((pickF_spec (Fn := by infer_instance) hP hI hr (fun _ => true) (fun e W T _ _ => allc_spec e)).mono (fun e w1 hh => ?_))
  obtain ⟨v', xs, he, hk, hX, hxs⟩ := hh
  refine ⟨_, he, ?_⟩
  repeat (first|apply cD|apply cE|apply cH|refine cV rfl rfl rfl rfl (by first|(apply qas<;>(exact rfl))|fail) ?_)
  refine ret1 (Or.inl rfl) Try.results11 (by first | exact ResV.tmp rfl | exact ResV.agg rfl rfl (by assumption) (by first | exact dc_length _ | exact nc_length _ | exact rc_length _ _ _ | exact ec_length _ | exact dl_length _ _ _ _ | rfl) | exact ResV.cell rfl rfl (by assumption)) ?_
  refine ⟨v', xs, rfl, hk, hX, ?_⟩
  rw [hxs, List.filter_eq_self.2 (fun _ _ => rfl)]
end Go.Proofs.Ytgbgnlboogalgaa
namespace Go.Proofs.Ytgbgnlboogalgaa
open Go.Proofs
set_option linter.unusedVariables false
abbrev zcv (z : Int) : Value := .int .i64 z
/-- Up to the number of one of its key. -/
def upB (L : List (Dg × Int)) (e : En) : Bool := L.any (fun p => decide (p.1 = e.key ∧ e.non ≤ p.2))
theorem upB_iff {m L : List (Dg × Int)} {e : En} (h : MaxM m L) : upB L e = true ↔ ∃ n, alook m e.key = some n ∧ e.non ≤ n := by
  rw [h e.key e.non]
  unfold upB
  rw [List.any_eq_true]
  constructor
  · rintro ⟨p, h1, h2⟩; exact ⟨p, h1, of_decide_eq_true h2⟩
  · rintro ⟨p, h1, h2⟩; exact ⟨p, h1, decide_eq_true h2⟩
def pairE (e : En) : Dg × Int := (e.key, e.non)
/-- Whether a block of a height has to have what waits since another one. -/
def dueB (h leave : Int) (e : En) : Bool := decide (leave ≤ h - e.since - 1)
def dueL (l : List En) (h leave : Int) : List (Dg × Int) := (l.filter (dueB h leave)).map pairE
theorem dueL_succ {l : List En} {h leave : Int} {i : Nat} (hi : i < l.length) : dueL (l.take (i + 1)) h leave = if dueB h leave l[i] then dueL (l.take i) h leave ++ [pairE l[i]] else dueL (l.take i) h leave := by
  unfold dueL
  rw [List.take_succ_eq_append_getElem hi, List.filter_append, List.map_append]
  by_cases g : dueB h leave l[i] = true
  · rw [if_pos g, List.filter_cons_of_pos g]
    rfl
  · rw [if_neg g, List.filter_cons_of_neg g]
    simp
def fit64 (n : Int) : Prop := -9223372036854775808 ≤ n ∧ n ≤ 9223372036854775807
attribute [local irreducible] CG NG SG Vals Der Row Blk MapIs IterAt nameT wrongT
set_option maxHeartbeats 16000000 in
theorem due_spec {w : World} {h s l : Int} (hh : fit64 h) (h0 : 0 ≤ s) (h1 : s ≤ 1099511627776) (hl : fit64 l) : Ret Try.prog 36 #[.int .i64 h, .int .i64 s, .int .i64 l] w (.bool (decide (l ≤ h - s - 1))) := by
  refine enter3 Try.func36 rfl Try.ntmps36 rfl ?_
  obtain ⟨a1, a2⟩ := hh
  obtain ⟨a3, a4⟩ := hl
  by_cases g : h < -9223372036854775808 + s + 1
  · have e : decide (l ≤ h - s - 1) = false := decide_eq_false (by omega)
    rw [e]
    repeat (first|apply cA|apply cB|apply cD|apply cE|refine cV rfl rfl rfl rfl (by first|((first|apply qmv|apply qas|apply qls|apply qad)<;>(first|exact rfl|exact Ar.mk (by omega)|exact dct (by first|assumption|omega)|fail))|fail) ?_)
    refine cZ rfl (by exact rho_of rfl) rfl ?_
    repeat (first|apply cA|apply cB|apply cD|apply cE|apply cH|apply cK|refine cV rfl rfl rfl rfl (by first|(apply qas<;>(exact rfl))|fail) ?_)
    refine ret1 (Or.inl rfl) Try.results36 (by first | exact ResV.tmp rfl | exact ResV.agg rfl rfl (by assumption) (by first | exact dc_length _ | exact nc_length _ | exact rc_length _ _ _ | exact ec_length _ | exact dl_length _ _ _ _ | rfl) | exact ResV.cell rfl rfl (by assumption)) ?_
    exact ⟨rfl, Kp.refl _ _⟩
  · by_cases g2 : l ≤ h - s - 1
    · have e : decide (l ≤ h - s - 1) = true := decide_eq_true g2
      rw [e]
      repeat (first|apply cA|apply cB|apply cD|apply cE|refine cV rfl rfl rfl rfl (by first|((first|apply qmv|apply qas|apply qls|apply qad)<;>(first|exact rfl|exact Ar.mk (by omega)|exact dcf (by first|assumption|omega)|fail))|fail) ?_)
      refine dA rfl (by exact rho_of rfl) rfl ?_
      repeat (first|apply cA|apply cB|apply cD|apply cE|apply cF|apply cH|refine cV rfl rfl rfl rfl (by first|((first|apply qmv|apply qas|apply qge|apply qsb)<;>(first|exact rfl|exact Ar.mk (by omega)|exact dct (by first|assumption|omega)|fail))|fail) ?_)
      refine ret1 (Or.inl rfl) Try.results36 (by first | exact ResV.tmp rfl | exact ResV.agg rfl rfl (by assumption) (by first | exact dc_length _ | exact nc_length _ | exact rc_length _ _ _ | exact ec_length _ | exact dl_length _ _ _ _ | rfl) | exact ResV.cell rfl rfl (by assumption)) ?_
      exact ⟨rfl, Kp.refl _ _⟩
    · have e : decide (l ≤ h - s - 1) = false := decide_eq_false g2
      rw [e]
      repeat (first|apply cA|apply cB|apply cD|apply cE|refine cV rfl rfl rfl rfl (by first|((first|apply qmv|apply qas|apply qls|apply qad)<;>(first|exact rfl|exact Ar.mk (by omega)|exact dcf (by first|assumption|omega)|fail))|fail) ?_)
      refine dA rfl (by exact rho_of rfl) rfl ?_
      repeat (first|apply cA|apply cB|apply cD|apply cE|apply cF|apply cH|refine cV rfl rfl rfl rfl (by first|((first|apply qmv|apply qas|apply qge|apply qsb)<;>(first|exact rfl|exact Ar.mk (by omega)|exact dcf (by first|assumption|omega)|fail))|fail) ?_)
      refine ret1 (Or.inl rfl) Try.results36 (by first | exact ResV.tmp rfl | exact ResV.agg rfl rfl (by assumption) (by first | exact dc_length _ | exact nc_length _ | exact rc_length _ _ _ | exact ec_length _ | exact dl_length _ _ _ _ | rfl) | exact ResV.cell rfl rfl (by assumption)) ?_
      exact ⟨rfl, Kp.refl _ _⟩
set_option maxHeartbeats 16000000 in
theorem must1_spec {w : World} {b7 bm : Nat} {m L : List (Dg × Int)} (e : Em) (h7 : Row w b7 0 [.map (some bm)]) (hm : MapIs w bm (dv (n := 8)) zcv m) (hM : MaxM m L) : Ret Try.prog 37 #[ev e, .pointer (some ⟨b7, 0, none⟩)] w (.bool (upB L e.en)) := by
  refine enterL (args := [ev e, .pointer (some ⟨b7, 0, none⟩)]) Try.func37 rfl Try.ntmps37 rfl ?_
  repeat (first|apply cA|apply cB)
  refine SG.box rfl rfl rfl (by exact rho_of rfl) (fun b1 w1 hk1 hb1 hB1 => ?_)
  have hB1 : Blk w1 b1 (.cells (ec e).toArray 78) := hB1
  obtain ⟨-, q0, q1, -⟩ := ec_rows (Row.all hB1 rfl)
  simp only [Nat.zero_add] at q1
  have h7 := h7.kp0 hk1
  have hm := hm.kp0 hk1
  have hup := upB_iff (e := e.en) hM
  cases hl : alook m e.x.t.frm with
  | none =>
    have e1 : upB L e.en = false := by
      cases hb : upB L e.en with
      | false => rfl
      | true =>
        obtain ⟨n, h1, h2⟩ := hup.1 hb
        have h1 : alook m e.x.t.frm = some n := h1
        rw [hl] at h1
        cases h1
    rw [e1]
    repeat (first | first|apply cA|apply cB|apply cD|apply cE|apply cH|refine cV rfl rfl rfl rfl (by first|((first|apply qmv|apply qas|apply qlc|apply qla|apply qfa|apply qpk|apply qlk|apply qxt)<;>(first|exact rfl|assumption|exact List.not_mem_nil|apply dc_length|exact lk0 (by assumption)|fail))|fail) ?_ | refine cX rfl rfl ?_)
    refine ret1 (Or.inl rfl) Try.results37 (by first | exact ResV.tmp rfl | exact ResV.agg rfl rfl (by assumption) (by first | exact dc_length _ | exact nc_length _ | exact rc_length _ _ _ | exact ec_length _ | exact dl_length _ _ _ _ | rfl) | exact ResV.cell rfl rfl (by assumption)) ?_
    exact ⟨rfl, hk1⟩
  | some n =>
    by_cases g : e.x.t.non ≤ n
    · have e1 : upB L e.en = true := hup.2 ⟨n, hl, g⟩
      rw [e1]
      repeat (first|apply cA|apply cB|apply cD|apply cE|apply cH|refine cV rfl rfl rfl rfl (by first|((first|apply qmv|apply qas|apply qlc|apply qla|apply qfa|apply qpk|apply qle|apply qlk|apply qxt)<;>(first|exact rfl|assumption|exact dct (by first|assumption|omega)|exact List.not_mem_nil|apply dc_length|exact lk1 (by assumption)|fail))|fail) ?_)
      refine ret1 (Or.inl rfl) Try.results37 (by first | exact ResV.tmp rfl | exact ResV.agg rfl rfl (by assumption) (by first | exact dc_length _ | exact nc_length _ | exact rc_length _ _ _ | exact ec_length _ | exact dl_length _ _ _ _ | rfl) | exact ResV.cell rfl rfl (by assumption)) ?_
      exact ⟨rfl, hk1⟩
    · have e1 : upB L e.en = false := by
        cases hb : upB L e.en with
        | false => rfl
        | true =>
          obtain ⟨n', h1, h2⟩ := hup.1 hb
          have h1 : alook m e.x.t.frm = some n' := h1
          rw [hl] at h1
          cases h1
          exact absurd h2 g
      rw [e1]
      repeat (first|apply cA|apply cB|apply cD|apply cE|apply cH|refine cV rfl rfl rfl rfl (by first|((first|apply qmv|apply qas|apply qlc|apply qla|apply qfa|apply qpk|apply qle|apply qlk|apply qxt)<;>(first|exact rfl|assumption|exact dcf (by first|assumption|omega)|exact List.not_mem_nil|apply dc_length|exact lk1 (by assumption)|fail))|fail) ?_)
      refine ret1 (Or.inl rfl) Try.results37 (by first | exact ResV.tmp rfl | exact ResV.agg rfl rfl (by assumption) (by first | exact dc_length _ | exact nc_length _ | exact rc_length _ _ _ | exact ec_length _ | exact dl_length _ _ _ _ | rfl) | exact ResV.cell rfl rfl (by assumption)) ?_
      exact ⟨rfl, hk1⟩
set_option maxHeartbeats 32000000 in
theorem must_spec {w : World} {base p : Nat} {v : Value} {room : Int} {ms : List Em} (hP : Pl w base p v room ms) (hI : PInv room (ms.map Em.en)) (hr : room ≤ 1024) {h f l s : Int} (hh : fit64 h) (hl : fit64 l) :
    Calls Try.prog 14 #[.pointer (some ⟨p, 0, none⟩), .int .i64 h, .agg #[.int .i64 f, .int .i64 l, .int .i64 s]] w (fun e w' => ∃ v' xs, e = .returned v' ∧ Kp [] w w' ∧ TxsO w' w.heap.size v' xs ∧ xs.map (·.t) = ((ordE (ms.map Em.en)).filter (upB (dueL (ms.map Em.en) h l))).map (·.t)) := by
  refine enter3 Try.func14 rfl Try.ntmps14 rfl ?_
  have hll : ms.length ≤ 1024 := by have := hI.len; rw [List.length_map] at this; omega
  have hlp := hP.blk.lt
  have hvp : ∀ b, v.ownBlock = some b → b < w.heap.size := own_lt hP.own
  repeat (first|apply cA|apply cB)
  refine SG.box rfl rfl rfl (by exact rho_of rfl) (fun b5 w1 hk1 hb5 hB5 => ?_)
  have hB5 : Blk w1 b5 (.cells #[.int .i64 f, .int .i64 l, .int .i64 s] 42) := hB5
  have r5 : Row w1 b5 1 [.int .i64 l] := Row.of hB5 [.int .i64 f] [.int .i64 s] rfl rfl
  have lt5 := hB5.lt
  clear hB5
  repeat (first|apply cA|apply cB|apply cD|apply cE|refine cV rfl rfl rfl rfl (by first|((first|apply qep|apply qmv|apply qas|apply qep)<;>(exact rfl))|fail) ?_)
  refine dA rfl (by exact rho_of rfl) rfl ?_
  repeat (first|apply cA|apply cB|apply cE|apply cF)
  refine SG.makeMap (dv (n := 8)) zcv rfl rfl (fun bm w2 hk2 hbm hm => ?_)
  refine SG.alloc rfl rfl rfl (fun b7 w3 hk3 hb7 hB7 => ?_)
  have k3 := (hk1.trans hk2).trans hk3
  have s1 := hk1.size
  have s2 := hk2.size
  have ltm := hm.lt
  have hm := hm.kp0 hk3
  refine SG.setAll1 rfl rfl (by exact rho_of rfl) (by exact rho_of rfl) hB7 rfl rfl (fun w4 hk4 hB7 => ?_)
  have hm : MapIs w4 bm (dv (n := 8)) zcv [] := hm.kp hk4 (nm1 (by omega))
  have r7 : Row w4 b7 0 [.map (some bm)] := Row.all hB7 rfl
  have k4 : Kp [] w w4 := k3.trans_new hk4 (new1 (by omega))
  have lt7 := hB7.lt
  have hP4 := hP.kp0 k4
  have r5 : Row w4 b5 1 [.int .i64 l] := ((r5.kp0 hk2).kp0 hk3).kp hk4 (nm1 (by omega))
  obtain ⟨a, c, rfl, hc, hS⟩ := hP4.sl
  obtain ⟨-, q1⟩ := hP4.rows
  have s4 := k4.size
  clear hB7
  repeat (first|apply cA|apply cB|apply cD|apply cE|apply cG|refine cV rfl rfl rfl rfl (by first|((first|apply qmv|apply qlc|apply qfa|apply qnc|apply qln)<;>(first|exact rfl|assumption|exact List.not_mem_nil))|fail) ?_)
  refine CG.loop (X := Nat × List (Dg × Int)) (fun x => [(0, .pointer (some ⟨p, 0, none⟩)), (1, .int .i64 h), (5, .pointer (some ⟨b5, 0, none⟩)), (7, .pointer (some ⟨b7, 0, none⟩)), (18, .slice a ms.length c), (19, .int .i64 (ms.length : Int)), (20, .int .i64 (x.1 : Int))])
    (fun x w' => x.1 ≤ ms.length ∧ Kp [bm] w4 w' ∧ MapIs w' bm (dv (n := 8)) zcv x.2 ∧ MaxM x.2 (dueL ((ms.map Em.en).take x.1) h l)) (fun x => ms.length - x.1) (0, []) ⟨Nat.zero_le _, Kp.refl _ _, hm, MaxM.nil⟩ (by (repeat' (first | exact True.intro | exact rfl | refine And.intro ?_ ?_))) ?_
  clear q1
  rintro ⟨i, m⟩ w5 ⟨hi, hk5, hm5, hM⟩
  simp only at hi hm5 hM
  refine CG.to [(0, .pointer (some ⟨p, 0, none⟩)), (1, .int .i64 h), (5, .pointer (some ⟨b5, 0, none⟩)), (7, .pointer (some ⟨b7, 0, none⟩)), (18, .slice a ms.length c), (19, .int .i64 (ms.length : Int)), (20, .int .i64 (i : Int))] (by (repeat' (first | exact True.intro | exact rfl | refine And.intro ?_ ?_))) ?_
  have k5 : Kp [] w w5 := k4.trans_new hk5 (new1 (by omega))
  have hP5 := hP.kp0 k5
  have r5' : Row w5 b5 1 [.int .i64 l] := r5.kp hk5 (nm1 (by omega))
  have r7' : Row w5 b7 0 [.map (some bm)] := r7.kp hk5 (nm1 (by omega))
  have s5 := hk5.size
  by_cases hlt : i < ms.length
  rotate_left
  · have g1 : ¬ (i : Int) < (ms.length : Int) := by omega
    rw [List.take_of_length_le (by rw [List.length_map]; omega)] at hM
    repeat (first|apply cA|apply cB|apply cD|apply cE|refine cV rfl rfl rfl rfl (by first|(apply qls<;>(first|exact rfl|exact dcf (by first|assumption|omega)|fail))|fail) ?_)
    refine dA rfl (by exact rho_of rfl) rfl ?_
    repeat (first|apply cA|apply cB|apply cE|apply cJ|apply cM|refine cQ rfl ?_|refine cV rfl rfl rfl rfl (by first|(apply qmv<;>(exact rfl))|fail) ?_)
    refine cV rfl rfl rfl rfl (qmf (vs := [.pointer (some ⟨b7, 0, none⟩)]) rfl) ?_
    refine SG.call rfl rfl rfl (vs := [.pointer (some ⟨p, 0, none⟩), fnv 37 [.pointer (some ⟨b7, 0, none⟩)]]) (by repeat' (first | exact True.intro | exact rho_of rfl | refine And.intro ?_ ?_)) ((pickF_spec (Fn := by infer_instance) hP5 hI hr (upB (dueL (ms.map Em.en) h l)) (fun e W T hT hk => must1_spec e (r7'.kp hk (fun hm => by have := hT _ hm; omega)) (hm5.kp hk (fun hm => by have := hT _ hm; omega)) hM)).mono (fun e w6 hh => ?_))
    obtain ⟨v', xs, he, hk6, hX, hxs⟩ := hh
    refine ⟨_, he, ?_⟩
    repeat (first|apply cD|apply cE|apply cH|refine cV rfl rfl rfl rfl (by first|(apply qas<;>(exact rfl))|fail) ?_)
    refine ret1 (Or.inl rfl) Try.results14 (by first | exact ResV.tmp rfl | exact ResV.agg rfl rfl (by assumption) (by first | exact dc_length _ | exact nc_length _ | exact rc_length _ _ _ | exact ec_length _ | exact dl_length _ _ _ _ | rfl) | exact ResV.cell rfl rfl (by assumption)) ?_
    exact ⟨v', xs, rfl, k5.trans hk6, ⟨own_mono hX.own k5.size, hX.ins⟩, hxs⟩
  have g1 : (i : Int) < (ms.length : Int) := by omega
  obtain ⟨a', c', e', -, hS5⟩ := hP5.sl
  cases e'
  obtain ⟨g, o1, rfl, hri⟩ := hS5.at hlt
  have hsu := dueL_succ (l := ms.map Em.en) (h := h) (leave := l) (i := i) (by simpa using hlt)
  rw [List.getElem_map] at hsu
  have hsc := hI.sc _ (List.mem_map.2 ⟨ms[i], List.getElem_mem hlt, rfl⟩)
  have hsc : 0 ≤ ms[i].since ∧ ms[i].since ≤ 1099511627776 := hsc
  repeat (first|apply cA|apply cB|apply cD|apply cE|refine cV rfl rfl rfl rfl (by first|(apply qls<;>(first|exact rfl|exact dct (by first|assumption|omega)|fail))|fail) ?_)
  refine cZ rfl (by exact rho_of rfl) rfl ?_
  repeat (first|apply cA|apply cB|apply cE|apply cF|apply cG|refine cV rfl rfl rfl rfl (by first|((first|apply qla|apply qix)<;>(first|exact rfl|exact Ar.mk (by omega)|assumption|exact List.not_mem_nil|apply ec_length|fail))|fail) ?_)
  refine SG.alloc rfl rfl rfl (fun b9 w6 hk6 hb9 hB9 => ?_)
  refine SG.setAll (l := ec ms[i]) rfl rfl (by exact rho_of rfl) (by exact rho_of rfl) hB9 (ec_length _) rfl (ec_one _) (fun w7 hk7 hB9 => ?_)
  have k57 : Kp [] w5 w7 := hk6.trans_new hk7 (new1 (by omega))
  have r9 : Row w7 b9 0 (ec ms[i]) := Row.all hB9 rfl
  obtain ⟨-, q0, q1, -, -, q5⟩ := ec_rows r9
  simp only [Nat.zero_add] at q0 q1 q5
  have r5' := r5'.kp0 k57
  have r7' := r7'.kp0 k57
  have hm7 := hm5.kp0 k57
  clear hri r9
  repeat (first|apply cA|apply cB|apply cD|apply cE|refine cV rfl rfl rfl rfl (by first|((first|apply qmv|apply qlc|apply qfa)<;>(first|exact rfl|assumption|exact List.not_mem_nil))|fail) ?_)
  refine SG.ret rfl rfl rfl (vs := [.int .i64 h, .int .i64 ms[i].since, .int .i64 l]) (by repeat' (first | exact True.intro | exact rho_of rfl | refine And.intro ?_ ?_)) (due_spec hh hsc.1 hsc.2 hl) (fun w8 hk8 => ?_)
  have k58 := k57.trans hk8
  have q0 := q0.kp0 hk8
  have q1 := q1.kp0 hk8
  have r7' := r7'.kp0 hk8
  have hm8 := hm7.kp0 hk8
  have hdd : dueB h l ms[i].en = decide (l ≤ h - ms[i].since - 1) := rfl
  rw [hdd] at hsu
  by_cases hd : l ≤ h - ms[i].since - 1
  rotate_left
  · rw [decide_eq_false hd] at hsu ⊢
    rw [if_neg (by decide)] at hsu
    repeat (first|apply cD|apply cE)
    refine dA rfl (by exact rho_of rfl) rfl ?_
    repeat (first|apply cB|apply cD|apply cE|apply cF|apply cU|refine cV rfl rfl rfl rfl (by first|((first|apply qmv|apply qad)<;>(first|exact rfl|exact Ar.mk (by omega)|fail))|fail) ?_)
    refine NG.round (i + 1, m) (by (repeat' (first | exact True.intro | exact rfl | refine And.intro ?_ ?_))) ⟨by simp only; omega, hk5.trans k58.any, hm8, by simp only; rw [hsu]; exact hM⟩ (by simp only; omega)
  rw [decide_eq_true hd] at hsu ⊢
  rw [if_pos rfl] at hsu
  have hpe : pairE ms[i].en = (ms[i].x.t.frm, ms[i].x.t.non) := rfl
  rw [hpe] at hsu
  have put : (∀ n, alook m ms[i].x.t.frm = some n → n < ms[i].x.t.non) → MaxM (aput m ms[i].x.t.frm ms[i].x.t.non) (dueL ((ms.map Em.en).take (i + 1)) h l) := fun hn => by rw [hsu]; exact hM.put hn
  cases hlk : alook m ms[i].x.t.frm with
  | none =>
    have hput := put (fun n hn => by rw [hlk] at hn; cases hn)
    repeat (first|apply cD|apply cE)
    refine cZ rfl (by exact rho_of rfl) rfl ?_
    repeat (first | first|apply cA|apply cB|apply cD|apply cE|refine cV rfl rfl rfl rfl (by first|((first|apply qmv|apply qas|apply qlc|apply qla|apply qfa|apply qpk|apply qlk|apply qxt|apply qnt)<;>(first|exact rfl|assumption|exact List.not_mem_nil|apply dc_length|exact lk0 (by assumption)|fail))|fail) ?_ | refine cX rfl rfl ?_)
    refine cZ rfl (by exact rho_of rfl) rfl ?_
    repeat (first|apply cB|refine cV rfl rfl rfl rfl (by first|((first|apply qlc|apply qla|apply qfa)<;>(first|exact rfl|assumption|exact List.not_mem_nil|apply dc_length))|fail) ?_)
    refine SG.mapUpdate (enc := dv (n := 8)) (V := zcv) (kx := ms[i].x.t.frm) (vy := ms[i].x.t.non) rfl rfl (by exact rho_of rfl) (by exact rho_of rfl) (by exact rho_of rfl) hm8 BArr.key (fun w9 hk9 hm9 => ?_)
    repeat (first|apply cB|apply cD|apply cE|apply cU|refine cV rfl rfl rfl rfl (by first|((first|apply qmv|apply qad)<;>(first|exact rfl|exact Ar.mk (by omega)|fail))|fail) ?_)
    refine NG.round (i + 1, _) (by (repeat' (first | exact True.intro | exact rfl | refine And.intro ?_ ?_))) ⟨by simp only; omega, (hk5.trans k58.any).trans hk9, hm9, hput⟩ (by simp only; omega)
  | some n =>
    by_cases hlt2 : n < ms[i].x.t.non
    · have hput := put (fun n' hn => by rw [hlk] at hn; cases hn; exact hlt2)
      repeat (first|apply cD|apply cE)
      refine cZ rfl (by exact rho_of rfl) rfl ?_
      repeat (first|apply cA|apply cB|apply cD|apply cE|refine cV rfl rfl rfl rfl (by first|((first|apply qmv|apply qas|apply qlc|apply qla|apply qfa|apply qpk|apply qls|apply qlk|apply qxt|apply qnt)<;>(first|exact rfl|assumption|exact dct (by first|assumption|omega)|exact List.not_mem_nil|apply dc_length|exact lk1 (by assumption)|fail))|fail) ?_)
      refine cZ rfl (by exact rho_of rfl) rfl ?_
      repeat (first|apply cB|refine cV rfl rfl rfl rfl (by first|((first|apply qlc|apply qla|apply qfa)<;>(first|exact rfl|assumption|exact List.not_mem_nil|apply dc_length))|fail) ?_)
      refine SG.mapUpdate (enc := dv (n := 8)) (V := zcv) (kx := ms[i].x.t.frm) (vy := ms[i].x.t.non) rfl rfl (by exact rho_of rfl) (by exact rho_of rfl) (by exact rho_of rfl) hm8 BArr.key (fun w9 hk9 hm9 => ?_)
      repeat (first|apply cB|apply cD|apply cE|apply cU|refine cV rfl rfl rfl rfl (by first|((first|apply qmv|apply qad)<;>(first|exact rfl|exact Ar.mk (by omega)|fail))|fail) ?_)
      refine NG.round (i + 1, _) (by (repeat' (first | exact True.intro | exact rfl | refine And.intro ?_ ?_))) ⟨by simp only; omega, (hk5.trans k58.any).trans hk9, hm9, hput⟩ (by simp only; omega)
    · have hkeep : MaxM m (dueL ((ms.map Em.en).take (i + 1)) h l) := by rw [hsu]; exact hM.keep hlk hlt2
      repeat (first|apply cD|apply cE)
      refine cZ rfl (by exact rho_of rfl) rfl ?_
      repeat (first|apply cA|apply cB|apply cD|apply cE|refine cV rfl rfl rfl rfl (by first|((first|apply qmv|apply qas|apply qlc|apply qla|apply qfa|apply qpk|apply qls|apply qlk|apply qxt|apply qnt)<;>(first|exact rfl|assumption|exact dcf (by first|assumption|omega)|exact List.not_mem_nil|apply dc_length|exact lk1 (by assumption)|fail))|fail) ?_)
      refine dA rfl (by exact rho_of rfl) rfl ?_
      repeat (first|apply cB|apply cD|apply cE|apply cF|apply cU|refine cV rfl rfl rfl rfl (by first|((first|apply qmv|apply qad)<;>(first|exact rfl|exact Ar.mk (by omega)|fail))|fail) ?_)
      refine NG.round (i + 1, m) (by (repeat' (first | exact True.intro | exact rfl | refine And.intro ?_ ?_))) ⟨by simp only; omega, hk5.trans k58.any, hm8, hkeep⟩ (by simp only; omega)
end Go.Proofs.Ytgbgnlboogalgaa
namespace Go.Proofs.Ytgbgnlboogalgaa
open Go.Proofs
set_option linter.unusedVariables false
/-- None of S holds cells of a type, none is older than n. -/
def NoT (T : TypeId) (n : Nat) (w : World) (S : List Nat) : Prop := ∀ b ∈ S, n ≤ b ∧ ∀ cs f, w.heap[b]? ≠ some (.cells cs T f)
/-- The block of a slice is of a type, or is older than n. -/
def Tg {α : Type} (T : TypeId) (n : Nat) (w : World) (a : Option Addr) (l : List α) : Prop := Ty T w a l ∨ ∀ b off, a = some ⟨b, off, none⟩ → b < n
theorem Sl.kpT {α : Type} {enc : α → List Value} {sz n : Nat} {T : TypeId} {S : List Nat} {w w' : World} {a : Option Addr} {l : List α} (h : Sl enc sz w a l) (ht : Tg T n w a l) (hk : Kp S w w') (hS : NoT T n w S) : Sl enc sz w' a l ∧ Tg T n w' a l := by
  have key : l ≠ [] → ∀ b off, a = Option.some ⟨b, off, Option.none⟩ → b ∉ S := fun hn b off e hm => by
    rcases ht with ht | ht
    · obtain ⟨cs, f, hc⟩ := ht hn b off e
      exact (hS b hm).2 cs f hc
    · have := ht b off e
      have := (hS b hm).1
      omega
  exact ⟨h.kpN hk key, ht.elim (fun h => Or.inl (h.kp hk key)) Or.inr⟩
theorem NoT.cells {T T' : TypeId} {w : World} {b : Nat} {cs : Array Value} (h : Blk w b (.cells cs T')) (hT : T' ≠ T) : ∀ cs f, w.heap[b]? ≠ some (.cells cs T f) := fun cs' f e => by
  have := h.uniq e
  simp only [Obj.cells.injEq] at this
  exact hT this.2.1
theorem NoT.own {T T' : TypeId} {w : World} {n0 base n sz : Nat} {v : Value} {xs : List Value} (ho : w.ownsRow base T' sz v n xs) (hn : n0 ≤ base) (hT : T' ≠ T) : NoT T n0 w (ownB v) := fun b hb => by
  have hb' := ownB_mem hb
  refine ⟨Nat.le_trans hn (own_geB ho b hb'), ?_⟩
  rcases ho.2 with ⟨rfl, _⟩ | ⟨g, cap, cur, rfl, _, hg, _⟩
  · cases hb'
  · cases hb'
    exact NoT.cells hg hT
theorem NoT.cons {T : TypeId} {n : Nat} {w : World} {b : Nat} {S : List Nat} (hb : n ≤ b) (h : ∀ cs f, w.heap[b]? ≠ some (.cells cs T f)) (hS : NoT T n w S) : NoT T n w (b :: S) := fun z hz => by
  rcases List.mem_cons.1 hz with rfl | hz
  · exact ⟨hb, h⟩
  · exact hS z hz
theorem NoT.nil {T : TypeId} {n : Nat} {w : World} : NoT T n w [] := fun z hz => (by cases hz)
theorem Pl.noT {w : World} {base p : Nat} {v : Value} {room : Int} {ms : List Em} (h : Pl w base p v room ms) {T : TypeId} (h1 : 84 ≠ T) (h2 : 78 ≠ T) : NoT T base w (p :: ownB v) := NoT.cons h.bp (NoT.cells h.blk h1) (NoT.own h.own (Nat.le_refl _) h2)
/-- Transactions that come, in memory. -/
structure TxsI (w : World) (n : Nat) (a : Option Addr) (xs : List Tm) : Prop where
  sl : Sl txc 13 w a xs
  tg : Tg 35 n w a xs
  ins : ∀ x ∈ xs, x.In n w
theorem TxsI.kp {w w' : World} {n : Nat} {a : Option Addr} {xs : List Tm} {S : List Nat} (h : TxsI w n a xs) (hk : Kp S w w') (hO : Oth n w S) (hT : NoT 35 n w S) : TxsI w' n a xs :=
  ⟨(h.sl.kpT h.tg hk hT).1, (h.sl.kpT h.tg hk hT).2, fun x hx => (h.ins x hx).kpO hk hO⟩
theorem TxsI.kp0 {w w' : World} {n : Nat} {a : Option Addr} {xs : List Tm} (h : TxsI w n a xs) (hk : Kp [] w w') : TxsI w' n a xs := h.kp hk Oth.nil NoT.nil
theorem TxsI.kpP {w w' : World} {base p : Nat} {v : Value} {room : Int} {ms : List Em} {a : Option Addr} {xs : List Tm} (h : TxsI w base a xs) (hP : Pl w base p v room ms) (hk : Kp (p :: ownB v) w w') : TxsI w' base a xs := h.kp hk hP.oth (hP.noT (by decide) (by decide))
def pairT (t : Tx) : Dg × Int := (t.frm, t.non)
/-- What stays behind a block of some. -/
def doneL (l : List En) (ts : List Tx) : List En := l.filter (fun e => !upB (ts.map pairT) e)
attribute [local irreducible] CG NG SG Vals Der Row Blk MapIs IterAt nameT wrongT
end Go.Proofs.Ytgbgnlboogalgaa
namespace Go.Proofs.Ytgbgnlboogalgaa
open Go.Proofs
set_option linter.unusedVariables false
/-- One that waits, in the document's memory. -/
structure Wm where
  x : Tm
  since : Int
def Wm.en (e : Wm) : En := ⟨e.x.t, e.since⟩
def wc (e : Wm) : List Value := txc e.x ++ [.int .i64 e.since]
theorem wc_length (e : Wm) : (wc e).length = 14 := by simp [wc, txc_length]
theorem wc_one (e : Wm) : allOne (wc e) = true := by
  have h1 := txc_one e.x
  simp only [wc, allOne, List.all_append, Bool.and_eq_true] at *
  exact ⟨h1, rfl⟩
def wv (e : Wm) : Value := .agg (wc e).toArray
theorem wc_rows {w : World} {b off : Nat} {e : Wm} (h : Row w b off (wc e)) : Row w b off (txc e.x) ∧ Row w b off (dc e.x.t.frm) ∧ Row w b (off + 8) [.int .i64 e.x.t.non] ∧ Row w b (off + 9) [.int .i64 e.x.t.fee] ∧ Row w b (off + 13) [.int .i64 e.since] := by
  have h0 := h.part [] (txc e.x) [Value.int .i64 e.since] (by simp [wc])
  have h1 := h.part (txc e.x) [Value.int .i64 e.since] [] (by simp [wc])
  simp only [List.length_append, txc_length, List.length_nil, Nat.add_zero] at h0 h1
  obtain ⟨q0, q1, q2, -⟩ := txc_rowsO h0
  exact ⟨h0, q0, q1, q2, h1⟩
/-- The document's list of what waits, in memory. -/
structure PD (w : World) (n : Nat) (a : Option Addr) (c : Nat) (ws : List Wm) : Prop where
  sl : Sl wc 14 w a ws
  tg : Tg 88 n w a ws
  cap : ws.length ≤ c
  sm : a = none ∧ ws = [] ∨ ∃ b off, a = some ⟨b, off, none⟩
  ins : ∀ e ∈ ws, e.x.In n w
def pdc (room : Int) (a : Option Addr) (m c : Nat) : List Value := [.int .i64 room, .slice a m c]
theorem pdc_length (room : Int) (a : Option Addr) (m c : Nat) : (pdc room a m c).length = 2 := rfl
theorem pdc_rows {w : World} {b : Nat} {T : TypeId} {room : Int} {a : Option Addr} {m c : Nat} (h : Blk w b (.cells (pdc room a m c).toArray T)) : Row w b 0 (pdc room a m c) ∧ Row w b 0 [.int .i64 room] ∧ Row w b 1 [.slice a m c] :=
  ⟨Row.all h rfl, Row.of h [] [.slice a m c] rfl rfl, Row.of h [.int .i64 room] [] rfl rfl⟩
theorem PD.nil {w : World} {n c : Nat} : PD w n none c [] := ⟨Sl.nil, Or.inr (fun b off e => (by cases e)), Nat.zero_le _, Or.inl ⟨rfl, rfl⟩, fun e h => (by cases h)⟩
theorem PD.kp {w w' : World} {n : Nat} {a : Option Addr} {c : Nat} {ws : List Wm} {S : List Nat} (h : PD w n a c ws) (hk : Kp S w w') (hO : Oth n w S) (hT : NoT 88 n w S) : PD w' n a c ws :=
  ⟨(h.sl.kpT h.tg hk hT).1, (h.sl.kpT h.tg hk hT).2, h.cap, h.sm, fun e he => (h.ins e he).kpO hk hO⟩
theorem PD.kp0 {w w' : World} {n : Nat} {a : Option Addr} {c : Nat} {ws : List Wm} (h : PD w n a c ws) (hk : Kp [] w w') : PD w' n a c ws := h.kp hk Oth.nil NoT.nil
theorem PD.own {w : World} {n base : Nat} {v : Value} {ws : List Wm} (ho : w.ownsRow base 88 14 v ws.length (flt wc ws)) (hi : ∀ e ∈ ws, e.x.In n w) : ∃ a c, v = .slice a ws.length c ∧ PD w n a c ws := by
  obtain ⟨a, c, rfl, hc, hS⟩ := Sl.own wc_length ho rfl
  refine ⟨a, c, rfl, hS, Or.inl (Ty.own ho), hc, ?_, hi⟩
  rcases ho.2 with ⟨e, h0⟩ | ⟨g, cap, cur, e, _⟩
  · simp only [Value.slice.injEq] at e
    exact Or.inl ⟨e.1, List.eq_nil_of_length_eq_zero h0⟩
  · cases e
    exact Or.inr ⟨g, 0, rfl⟩
theorem bsw0 (w : World) : (Instr.buildSlice 24 0 #[]).run Try.prog w = .ok (.slice (some ⟨w.heap.size, 0, none⟩) 0 0) { w with heap := w.heap.push (.cells (flt wc []).toArray 88) } := by kernel_rfl
set_option maxHeartbeats 4000000 in
theorem bsw' (w : World) (a0 a1 a2 a3 a4 a5 a6 a7 : UInt8) (n f k s : Int) (x1 x2 : Option Addr) (m1 m2 c1' c2' : Nat) :
    (Instr.buildSlice 24 1 #[(0, .agg #[bv a0, bv a1, bv a2, bv a3, bv a4, bv a5, bv a6, bv a7, .int .i64 n, .int .i64 f, .int .i64 k, .slice x1 m1 c1', .slice x2 m2 c2', .int .i64 s])]).run Try.prog w = .ok (.slice (some ⟨w.heap.size, 0, none⟩) 1 1) { w with heap := w.heap.push (.cells #[bv a0, bv a1, bv a2, bv a3, bv a4, bv a5, bv a6, bv a7, .int .i64 n, .int .i64 f, .int .i64 k, .slice x1 m1 c1', .slice x2 m2 c2', .int .i64 s] 88) } := by kernel_rfl
theorem bsw (e : Wm) (w : World) : (Instr.buildSlice 24 1 #[(0, wv e)]).run Try.prog w = .ok (.slice (some ⟨w.heap.size, 0, none⟩) 1 1) { w with heap := w.heap.push (.cells (wc e).toArray 88) } := by
  obtain ⟨⟨⟨⟨l, hl⟩, n, f, k, b, g⟩, a1, c1, a2, c2⟩, s⟩ := e
  match l, hl with
  | [x0, x1, x2, x3, x4, x5, x6, x7], _ => exact bsw' w x0 x1 x2 x3 x4 x5 x6 x7 n f k s a1 a2 b.length g.length c1 c2
set_option maxHeartbeats 4000000 in
theorem bw' (w : World) (a0 a1 a2 a3 a4 a5 a6 a7 : UInt8) (n f k s : Int) (x1 x2 : Option Addr) (m1 m2 d1 d2 : Nat) :
    (Instr.build 88 #[(0, .agg #[bv a0, bv a1, bv a2, bv a3, bv a4, bv a5, bv a6, bv a7, .int .i64 n, .int .i64 f, .int .i64 k, .slice x1 m1 d1, .slice x2 m2 d2]), (1, .int .i64 s)]).run Try.prog w = .ok (.agg #[bv a0, bv a1, bv a2, bv a3, bv a4, bv a5, bv a6, bv a7, .int .i64 n, .int .i64 f, .int .i64 k, .slice x1 m1 d1, .slice x2 m2 d2, .int .i64 s]) w := by kernel_rfl
theorem bw (w : World) (x : Tm) (s : Int) : (Instr.build 88 #[(0, txv x), (1, .int .i64 s)]).run Try.prog w = .ok (wv ⟨x, s⟩) w := by
  obtain ⟨⟨⟨l, hl⟩, n, f, k, b, g⟩, a1, c1, a2, c2⟩ := x
  match l, hl with
  | [x0, x1, x2, x3, x4, x5, x6, x7], _ => exact bw' w x0 x1 x2 x3 x4 x5 x6 x7 n f k s a1 a2 b.length g.length c1 c2
abbrev oW (base : Nat) (l : List Wm) := oP base 88 14 wc l
theorem likeW_lt {ws : List Wm} {k : Dg} {n : Int} : likeN (ws.map Wm.en) k n = ws.findIdx (fun e => isK k n e.en) := by
  unfold likeN
  rw [List.findIdx_map]
  rfl
theorem cutW (ws : List Wm) (i : Nat) : ws.take i ++ ws.drop (i + 1) = ws.eraseIdx i := (List.eraseIdx_eq_take_drop_succ ws i).symm
attribute [local irreducible] CG NG SG Vals Der Row Blk MapIs IterAt DerX DerR wrongT
set_option maxHeartbeats 16000000 in
theorem like_spec {w : World} {n : Nat} {a : Option Addr} {c : Nat} {ws : List Wm} {room : Int} {x : Tm} (hP : PD w n a c ws) (hl : ws.length ≤ 100000) : Ret Try.prog 54 #[.agg (pdc room a ws.length c).toArray, txv x] w (.int .i64 (idxZ (fun e : Wm => isK x.t.frm x.t.non e.en) ws)) := by
  refine enter2 Try.func54 rfl Try.ntmps54 rfl ?_
  repeat (first|apply cA|apply cB)
  refine SG.box rfl rfl rfl (by exact rho_of rfl) (fun b2 w1 hk1 hb2 hB2 => ?_)
  refine SG.box rfl rfl rfl (by exact rho_of rfl) (fun b3 w2 hk2 hb3 hB3 => ?_)
  have hB2 : Blk w1 b2 (.cells (pdc room a ws.length c).toArray 26) := hB2
  have hB3 : Blk w2 b3 (.cells (txc x).toArray 73) := hB3
  have hB2 := hB2.kp0 hk2
  obtain ⟨-, -, q⟩ := pdc_rows hB2
  obtain ⟨-, r0, r1, -⟩ := txc_rows hB3
  have k2 := hk1.trans hk2
  clear hB2 hB3
  repeat (first|apply cA|apply cB|apply cD|apply cE|apply cG|refine cV rfl rfl rfl rfl (by first|(apply qas<;>(exact rfl))|fail) ?_)
  refine CG.loop (X := Nat) (fun i => [(2, .pointer (some ⟨b2, 0, none⟩)), (3, .pointer (some ⟨b3, 0, none⟩)), (5, .int .i64 (i : Int))]) (fun i w' => i ≤ ws.length ∧ Kp [] w2 w' ∧ ∀ j (h : j < ws.length), j < i → isK x.t.frm x.t.non ws[j].en = false) (fun i => ws.length - i) 0 ⟨Nat.zero_le _, Kp.refl _ _, fun j _ h => absurd h (Nat.not_lt_zero j)⟩ (by (repeat' (first | exact True.intro | exact rfl | refine And.intro ?_ ?_))) ?_
  rintro i w3 ⟨hi, hk3, hno⟩
  refine CG.to [(2, .pointer (some ⟨b2, 0, none⟩)), (3, .pointer (some ⟨b3, 0, none⟩)), (5, .int .i64 (i : Int))] (by (repeat' (first | exact True.intro | exact rfl | refine And.intro ?_ ?_))) ?_
  have q := q.kp0 hk3
  have r0 := r0.kp0 hk3
  have r1 := r1.kp0 hk3
  have k3 := k2.trans hk3
  by_cases hlt : i < ws.length
  rotate_left
  · have g1 : ¬ (i : Int) < (ws.length : Int) := by omega
    have e2 : idxZ (fun e : Wm => isK x.t.frm x.t.non e.en) ws = -1 := idxZ_no (fun h => by
      have h1 := List.findIdx_getElem (w := h)
      rw [hno _ h (by omega)] at h1
      cases h1)
    rw [e2]
    repeat (first|apply cA|apply cB|apply cD|apply cE|refine cV rfl rfl rfl rfl (by first|((first|apply qmv|apply qlc|apply qfa|apply qls|apply qln)<;>(first|exact rfl|assumption|exact dcf (by first|assumption|omega)|exact List.not_mem_nil|fail))|fail) ?_)
    refine dA rfl (by exact rho_of rfl) rfl ?_
    repeat (first|apply cA|apply cB|apply cD|apply cE|apply cH|apply cJ|apply cM|refine cQ rfl ?_|refine cV rfl rfl rfl rfl (by first|(apply qas<;>(exact rfl))|fail) ?_)
    refine ret1 (Or.inl rfl) Try.results54 (by first | exact ResV.tmp rfl | exact ResV.agg rfl rfl (by assumption) (by first | exact dc_length _ | exact nc_length _ | exact rc_length _ _ _ | exact ec_length _ | exact dl_length _ _ _ _ | rfl) | exact ResV.cell rfl rfl (by assumption)) ?_
    exact ⟨rfl, k3⟩
  have g1 : (i : Int) < (ws.length : Int) := by omega
  obtain ⟨b1, o1, rfl, hri⟩ := (hP.sl.kp0 k3).at hlt
  obtain ⟨-, s0, s1, -⟩ := wc_rows hri
  repeat (first|apply cA|apply cB|apply cD|apply cE|refine cV rfl rfl rfl rfl (by first|((first|apply qmv|apply qlc|apply qfa|apply qls|apply qln)<;>(first|exact rfl|assumption|exact dct (by first|assumption|omega)|exact List.not_mem_nil|fail))|fail) ?_)
  refine cZ rfl (by exact rho_of rfl) rfl ?_
  by_cases h0 : ws[i].x.t.frm = x.t.frm
  case neg =>
    have e : isK x.t.frm x.t.non ws[i].en = false := by
      cases hh : isK x.t.frm x.t.non ws[i].en with
      | false => rfl
      | true => exact absurd (isK_iff.1 hh).1 h0
    repeat (first|apply cA|apply cE|apply cF|apply cG)
    refine CG.tail mixed 20 [0, 1, 2, 3, 4, 5, 6, 7, 8, 9, 10, 11, 12, 13, 14, 15, 16, 17, 18, 19] (by kernel_rfl) ?_
    repeat (first | refine cY rfl rfl rfl (by first|((first|apply qmv|apply qlc|apply qla|apply qfa|apply qix|apply qed)<;>(first|exact rfl|exact Ar.mk (by omega)|assumption|exact dcf (by first|assumption|omega)|exact List.not_mem_nil|apply dc_length|fail))|fail) ?_ | refine Der.skip rfl rfl ?_)
    refine Der.tl (fun w4 hk4 _ _ => ?_)
    repeat (first | first|apply cD|apply cE|refine cV rfl rfl rfl rfl (by first|(apply qpk<;>(exact rfl))|fail) ?_ | refine cX rfl rfl ?_)
    refine dA rfl (by exact rho_of rfl) rfl ?_
    repeat (first|apply cB|apply cD|apply cE|apply cF|apply cU|refine cV rfl rfl rfl rfl (by first|((first|apply qmv|apply qas|apply qad)<;>(first|exact rfl|exact Ar.mk (by omega)|fail))|fail) ?_)
    refine NG.round (i + 1) (by (repeat' (first | exact True.intro | exact rfl | refine And.intro ?_ ?_))) ⟨by omega, hk3.trans hk4, fun j h hj => ?_⟩ (by omega)
    by_cases e' : j = i
    · subst e'; exact e
    · exact hno j h (by omega)
  by_cases h1 : ws[i].x.t.non = x.t.non
  case neg =>
    have e : isK x.t.frm x.t.non ws[i].en = false := by
      cases hh : isK x.t.frm x.t.non ws[i].en with
      | false => rfl
      | true => exact absurd (isK_iff.1 hh).2 h1
    repeat (first|apply cA|apply cE|apply cF|apply cG)
    refine CG.tail mixed 20 [0, 1, 2, 3, 4, 5, 6, 7, 8, 9, 10, 11, 12, 13, 14, 15, 16, 17, 18, 19] (by kernel_rfl) ?_
    repeat (refine cY rfl rfl rfl (by first|((first|apply qmv|apply qlc|apply qla|apply qfa|apply qix|apply qed)<;>(first|exact rfl|exact Ar.mk (by omega)|assumption|exact dct (by first|assumption|omega)|exact List.not_mem_nil|apply dc_length|fail))|fail) ?_)
    refine Der.tl (fun w4 hk4 _ _ => ?_)
    repeat (first|apply cD|apply cE|refine cV rfl rfl rfl rfl (by first|((first|apply qpk|apply qei)<;>(first|exact rfl|exact dcf (by first|assumption|omega)|fail))|fail) ?_)
    refine dA rfl (by exact rho_of rfl) rfl ?_
    repeat (first|apply cB|apply cD|apply cE|apply cF|apply cU|refine cV rfl rfl rfl rfl (by first|((first|apply qmv|apply qas|apply qad)<;>(first|exact rfl|exact Ar.mk (by omega)|fail))|fail) ?_)
    refine NG.round (i + 1) (by (repeat' (first | exact True.intro | exact rfl | refine And.intro ?_ ?_))) ⟨by omega, hk3.trans hk4, fun j h hj => ?_⟩ (by omega)
    by_cases e' : j = i
    · subst e'; exact e
    · exact hno j h (by omega)
  have e : isK x.t.frm x.t.non ws[i].en = true := isK_iff.2 ⟨h0, h1⟩
  have ef : ws.findIdx (fun e : Wm => isK x.t.frm x.t.non e.en) = i := (List.findIdx_eq hlt).2 ⟨e, fun j hj => by rw [hno j (by omega) hj]⟩
  have e2 : idxZ (fun e : Wm => isK x.t.frm x.t.non e.en) ws = (i : Int) := by
    unfold idxZ
    rw [ef, if_pos hlt]
  rw [e2]
  repeat (first|apply cA|apply cE|apply cF|apply cG)
  refine CG.tail mixed 20 [0, 1, 2, 3, 4, 5, 6, 7, 8, 9, 10, 11, 12, 13, 14, 15, 16, 17, 18, 19] (by kernel_rfl) ?_
  repeat (refine cY rfl rfl rfl (by first|((first|apply qmv|apply qlc|apply qla|apply qfa|apply qix|apply qed)<;>(first|exact rfl|exact Ar.mk (by omega)|assumption|exact dct (by first|assumption|omega)|exact List.not_mem_nil|apply dc_length|fail))|fail) ?_)
  refine Der.tl (fun w4 hk4 _ _ => ?_)
  repeat (first|apply cD|apply cE|refine cV rfl rfl rfl rfl (by first|((first|apply qpk|apply qei)<;>(first|exact rfl|exact dct (by first|assumption|omega)|fail))|fail) ?_)
  refine cZ rfl (by exact rho_of rfl) rfl ?_
  repeat (first|apply cA|apply cB|apply cD|apply cE|apply cH|apply cK|apply NG.ret_block|refine cV rfl rfl rfl rfl (by first|((first|apply qmv|apply qas)<;>(exact rfl))|fail) ?_)
  refine ret1 (Or.inl rfl) Try.results54 (by first | exact ResV.tmp rfl | exact ResV.agg rfl rfl (by assumption) (by first | exact dc_length _ | exact nc_length _ | exact rc_length _ _ _ | exact ec_length _ | exact dl_length _ _ _ _ | rfl) | exact ResV.cell rfl rfl (by assumption)) ?_
  exact ⟨rfl, k3.trans hk4⟩
set_option maxHeartbeats 16000000 in
theorem without_spec {w : World} {n : Nat} {a : Option Addr} {c i : Nat} {ws : List Wm} (hP : PD w n a c ws) (hl : ws.length ≤ 100000) (hi : i < ws.length) : RetO Try.prog 88 wc 14 55 #[.slice a ws.length c, .int .i64 (i : Int)] w (ws.eraseIdx i) := by
  refine enter2 Try.func55 rfl Try.ntmps55 rfl ?_
  obtain ⟨b, off, rfl⟩ : ∃ b off, a = some ⟨b, off, none⟩ := by
    rcases hP.sm with ⟨_, rfl⟩ | h
    · simp at hi
    · exact h
  have hcap := hP.cap
  have e1 : (i : Int) + 1 = ((i + 1 : Nat) : Int) := by omega
  have htl : (ws.take i).length = i := by rw [List.length_take]; omega
  have hdl : (ws.drop (i + 1)).length = ws.length - (i + 1) := List.length_drop
  have gi : (i : Int) ≤ (ws.length : Int) := by omega
  repeat (first|apply cA|apply cB|apply cD|apply cE|refine cV rfl rfl rfl rfl (by first|(apply qas<;>(exact rfl))|fail) ?_)
  refine CG.rows mixed 9 [1, 2, 3, 5, 6, 7, 8, 0, 4] [⟨0, 0, oW w.heap.size []⟩, ⟨4, 0, oW w.heap.size ([] ++ ws.take i)⟩] (by kernel_rfl) (by kernel_rfl) (by kernel_rfl) (OkL.all (by repeat' (first | exact OkL.nil | refine OkL.cons ?_ ?_ | exact oP_ok | exact bP_ok))) ?_
  repeat (refine DerR.val rfl rfl rfl rfl (by first|((first|apply qmv|apply qad|apply qto)<;>(first|exact rfl|exact Ar.mk (by omega)|fail))|fail) ?_)
  rw [e1]
  repeat (refine DerR.val rfl rfl rfl rfl (by first|(apply qfr<;>(first|exact rfl|exact Ar.mk (by omega)|fail))|fail) ?_)
  refine DerR.buildO [] wc_length rfl rfl rfl rfl rfl (by repeat' (first | exact OkL.nil | refine OkL.cons ?_ ?_ | exact oP_ok | exact bP_ok)) rfl (Nat.le_refl _) (by simp) bsw0 (fun v0 => ?_)
  refine DerR.append (src := 0) [] (ws.take i) [(0, [])] wc_length wc_one rfl rfl (by kernel_rfl) ⟨Nat.le_refl _, trivial⟩ rfl rfl rfl (by repeat' (first | exact OkL.nil | refine OkL.cons ?_ ?_ | exact oP_ok | exact bP_ok)) (by exact rho_of rfl) (by exact rho_of rfl) rfl rfl rfl (by simp only [maxLen, List.length_nil]; omega) (by rw [htl]; show (0 + i) * 88 ≤ _; omega) (Nat.le_refl _) (.head _) (by kernel_rfl) (fun w hk hF => ⟨_, _, by rw [htl], (hP.sl.kp0 hk).take i⟩) (fun v4 => ?_)
  refine DerR.tl (fun w4 V hok hV => ?_)
  have ho4 : w4.ownsRow w.heap.size 88 14 v4 (ws.take i).length (flt wc (ws.take i)) := hok.get hV (.head _) rfl
  have hk4 := hok.kp
  have hSd := sl_drop (j := i + 1) (hP.sl.kp0 hk4) hcap
  refine SG.appO (enc := wc) (xs := ws.take i) (ys := ws.drop (i + 1)) (base := w.heap.size) rfl rfl rfl (by exact rho_of rfl) (by exact rho_of rfl) hdl.symm rfl rfl rfl wc_length wc_one ho4 hSd (by rw [htl, hdl]; simp only [maxLen]; omega) (by rw [htl, hdl]; show (i + (ws.length - (i + 1))) * 88 ≤ _; omega) hk4.size (fun v10 w5 hk5 ho10 _ => ?_)
  have k5 : Kp [] w w5 := hk4.trans_new hk5 (own_new ho4 (Nat.le_refl _))
  rw [cutW] at ho10
  repeat (first|apply cD|apply cE|apply cH|refine cV rfl rfl rfl rfl (by first|(apply qas<;>(exact rfl))|fail) ?_)
  refine ret1 (Or.inl rfl) Try.results55 (by first | exact ResV.tmp rfl | exact ResV.agg rfl rfl (by assumption) (by first | exact dc_length _ | exact nc_length _ | exact rc_length _ _ _ | exact ec_length _ | exact dl_length _ _ _ _ | rfl) | exact ResV.cell rfl rfl (by assumption)) ?_
  exact ⟨_, rfl, ho10, k5⟩
end Go.Proofs.Ytgbgnlboogalgaa
namespace Go.Proofs.Ytgbgnlboogalgaa
open Go.Proofs
set_option linter.unusedVariables false
attribute [local irreducible] CG NG SG Vals Der Row Blk MapIs IterAt DerX DerR wrongT nameT
theorem erase_en (ws : List Wm) (i : Nat) : (ws.eraseIdx i).map Wm.en = (ws.map Wm.en).eraseIdx i := by
  rw [List.eraseIdx_eq_take_drop_succ, List.eraseIdx_eq_take_drop_succ, List.map_append, List.map_take, List.map_drop]
theorem PD.kpb {w w' : World} {n : Nat} {a : Option Addr} {c b : Nat} {ws : List Wm} {cs : Array Value} {T : TypeId} (h : PD w n a c ws) (hk : Kp [b] w w') (hB : Blk w b (.cells cs T)) (h1 : T ≠ 5) (h2 : T ≠ 88) (hn : n ≤ b) : PD w' n a c ws :=
  h.kp hk (Oth.cons hn (Oth.cells hB h1) Oth.nil) (NoT.cons hn (NoT.cells hB h2) NoT.nil)
set_option maxHeartbeats 32000000 in
theorem radd_spec {w : World} {n : Nat} {a : Option Addr} {c : Nat} {ws : List Wm} {room h : Int} {x : Tm} (hP : PD w n a c ws) (hx : x.In n w) (hl : (ws.length : Int) ≤ room) (hr : room ≤ 1024) (hn0 : n ≤ w.heap.size) :
    Calls Try.prog 30 #[.agg (pdc room a ws.length c).toArray, .int .i64 h, txv x] w (fun e w' => ∃ a' c' ws', e = .returned (.tuple #[.agg (pdc room a' ws'.length c').toArray, .int .i64 (addZ room (ws.map Wm.en) h x.t)]) ∧ Kp [] w w' ∧ PD w' n a' c' ws' ∧ ws'.map Wm.en = addE room (ws.map Wm.en) h x.t) := by
  refine enter3 Try.func30 rfl Try.ntmps30 rfl ?_
  have hno : ∀ {w' : World} {z : Int}, Kp [] w w' → addZ room (ws.map Wm.en) h x.t = z → z ≠ 0 → ∃ a' c' ws', Ending.returned (.tuple #[.agg (pdc room a ws.length c).toArray, .int .i64 z]) = .returned (.tuple #[.agg (pdc room a' ws'.length c').toArray, .int .i64 (addZ room (ws.map Wm.en) h x.t)]) ∧ Kp [] w w' ∧ PD w' n a' c' ws' ∧ ws'.map Wm.en = addE room (ws.map Wm.en) h x.t := fun hk hz hz0 => by
    refine ⟨a, c, ws, by rw [hz], hk, hP.kp0 hk, ?_⟩
    unfold addE
    rw [if_neg (by rw [hz]; exact hz0)]
  repeat (first|apply cA|apply cB)
  refine SG.box rfl rfl rfl (by exact rho_of rfl) (fun b3 w1 hk1 hb3 hB3 => ?_)
  refine SG.box rfl rfl rfl (by exact rho_of rfl) (fun b5 w2 hk2 hb5 hB5 => ?_)
  refine SG.alloc rfl rfl rfl (fun b6 w3 hk3 hb6 hB6 => ?_)
  have hB3 : Blk w1 b3 (.cells (pdc room a ws.length c).toArray 26) := hB3
  have hB5 : Blk w2 b5 (.cells (txc x).toArray 73) := hB5
  have hB6 : Blk w3 b6 (.cells (pdc 0 none 0 0).toArray 26) := hB6
  have l3 := hB3.lt
  have l5 := hB5.lt
  have hB3 := (hB3.kp0 hk2).kp0 hk3
  have hB5 := hB5.kp0 hk3
  have k3 := (hk1.trans hk2).trans hk3
  have s1 := hk1.size
  have s2 := hk2.size
  obtain ⟨p0, p1, p2⟩ := pdc_rows hB3
  by_cases h1 : h < 0
  · have hz : addZ room (ws.map Wm.en) h x.t = 2 := addZ_low (Or.inl h1)
    repeat (first | first|apply cA|apply cB|apply cD|apply cE|refine cV rfl rfl rfl rfl (by first|((first|apply qmv|apply qas|apply qpk|apply qls)<;>(first|exact rfl|exact dct (by first|assumption|omega)|fail))|fail) ?_ | refine cX rfl rfl ?_)
    refine cZ rfl (by exact rho_of rfl) rfl ?_
    clear p1
    repeat (first|apply cA|apply cB|refine cV rfl rfl rfl rfl (by first|(apply qla<;>(first|exact rfl|assumption|exact List.not_mem_nil))|fail) ?_)
    refine SG.setAll (l := pdc room a ws.length c) rfl rfl (by exact rho_of rfl) (by exact rho_of rfl) hB6 rfl rfl rfl (fun w4 hk4 hB6 => ?_)
    have hr6 : Row w4 b6 0 (pdc room a ws.length c) := Row.all hB6 rfl
    repeat (first|apply cD|apply cE|apply cH|apply cK|refine cV rfl rfl rfl rfl (by first|(apply qas<;>(exact rfl))|fail) ?_)
    refine ret2 (Or.inl rfl) Try.results30 (ResV.agg rfl rfl hr6 (pdc_length _ _ _ _)) (by first | exact ResV.tmp rfl | exact ResV.agg rfl rfl (by assumption) (by first | exact dc_length _ | exact nc_length _ | exact rc_length _ _ _ | exact ec_length _ | exact dl_length _ _ _ _ | rfl) | exact ResV.cell rfl rfl (by assumption)) ?_
    exact hno (k3.trans_new hk4 (new1 (by omega))) hz (by decide)
  by_cases h2 : 1099511627776 < h
  · have hz : addZ room (ws.map Wm.en) h x.t = 2 := addZ_low (Or.inr h2)
    repeat (first|apply cA|apply cB|apply cD|apply cE|refine cV rfl rfl rfl rfl (by first|((first|apply qmv|apply qas|apply qpk|apply qls|apply qgt)<;>(first|exact rfl|exact dct (by first|assumption|omega)|exact dcf (by first|assumption|omega)|fail))|fail) ?_)
    refine cZ rfl (by exact rho_of rfl) rfl ?_
    clear p1
    repeat (first|apply cA|apply cB|refine cV rfl rfl rfl rfl (by first|(apply qla<;>(first|exact rfl|assumption|exact List.not_mem_nil))|fail) ?_)
    refine SG.setAll (l := pdc room a ws.length c) rfl rfl (by exact rho_of rfl) (by exact rho_of rfl) hB6 rfl rfl rfl (fun w4 hk4 hB6 => ?_)
    have hr6 : Row w4 b6 0 (pdc room a ws.length c) := Row.all hB6 rfl
    repeat (first|apply cD|apply cE|apply cH|apply cK|refine cV rfl rfl rfl rfl (by first|(apply qas<;>(exact rfl))|fail) ?_)
    refine ret2 (Or.inl rfl) Try.results30 (ResV.agg rfl rfl hr6 (pdc_length _ _ _ _)) (by first | exact ResV.tmp rfl | exact ResV.agg rfl rfl (by assumption) (by first | exact dc_length _ | exact nc_length _ | exact rc_length _ _ _ | exact ec_length _ | exact dl_length _ _ _ _ | rfl) | exact ResV.cell rfl rfl (by assumption)) ?_
    exact hno (k3.trans_new hk4 (new1 (by omega))) hz (by decide)
  have hh : ¬ (h < 0 ∨ 1099511627776 < h) := by omega
  repeat (first|apply cA|apply cB|apply cD|apply cE|refine cV rfl rfl rfl rfl (by first|((first|apply qmv|apply qas|apply qpk|apply qls|apply qgt)<;>(first|exact rfl|exact dcf (by first|assumption|omega)|fail))|fail) ?_)
  refine dA rfl (by exact rho_of rfl) rfl ?_
  clear h1 h2
  obtain ⟨r0, -⟩ := txc_rows hB5
  have hx3 := hx.kp0 k3
  repeat (first|apply cA|apply cB|apply cE|apply cF|refine cV rfl rfl rfl rfl (by first|(apply qla<;>(first|exact rfl|assumption|exact List.not_mem_nil|apply txc_length))|fail) ?_)
  refine SG.ret rfl rfl rfl (vs := [txv x]) (by repeat' (first | exact True.intro | exact rho_of rfl | refine And.intro ?_ ?_)) (rcheck_spec hx3) (fun w4 hk4 => ?_)
  have k4 := k3.trans hk4
  have r0 := r0.kp0 hk4
  have p0 := p0.kp0 hk4
  by_cases h3 : wrongT x.t = 0
  rotate_left
  · have hz := addZ_bad (room := room) (l := ws.map Wm.en) hh h3
    have hck := fun W hk => rcheck_spec (hx3.kp0 (w' := W) hk)
    generalize wrongT x.t = z at h3 hz hck
    repeat (first|apply cD|apply cE|refine cV rfl rfl rfl rfl (by first|(apply qni<;>(first|exact rfl|exact dcf (by first|assumption|omega)|fail))|fail) ?_)
    refine cZ rfl (by exact rho_of rfl) rfl ?_
    repeat (first|apply cA)
    refine CG.tail mixed 3 [0, 1, 2] (by kernel_rfl) ?_
    repeat (refine cY rfl rfl rfl (by first|(apply qla<;>(first|exact rfl|assumption|exact List.not_mem_nil|apply txc_length))|fail) ?_)
    refine Der.call rfl rfl rfl (vs := [txv x]) (by repeat' (first | exact True.intro | exact rho_of rfl | refine And.intro ?_ ?_)) (fun W hk _ => hck W (hk4.trans hk)) ?_
    refine Der.tl (fun w5 hk5 _ _ => ?_)
    refine SG.setAll (l := pdc room a ws.length c) rfl rfl (by exact rho_of rfl) (by exact rho_of rfl) ((hB6.kp0 hk4).kp0 hk5) rfl rfl rfl (fun w6 hk6 hB6 => ?_)
    have hr6 : Row w6 b6 0 (pdc room a ws.length c) := Row.all hB6 rfl
    repeat (first|apply cD|apply cE|apply cH|apply cK|refine cV rfl rfl rfl rfl (by first|(apply qas<;>(exact rfl))|fail) ?_)
    refine ret2 (Or.inl rfl) Try.results30 (ResV.agg rfl rfl hr6 (pdc_length _ _ _ _)) (by first | exact ResV.tmp rfl | exact ResV.agg rfl rfl (by assumption) (by first | exact dc_length _ | exact nc_length _ | exact rc_length _ _ _ | exact ec_length _ | exact dl_length _ _ _ _ | rfl) | exact ResV.cell rfl rfl (by assumption)) ?_
    exact hno ((k4.trans hk5).trans_new hk6 (new1 (by omega))) hz h3
  rw [h3]
  have h00 : (0 : Int) = 0 := rfl
  repeat (first|apply cD|apply cE|refine cV rfl rfl rfl rfl (by first|(apply qni<;>(first|exact rfl|exact dct (by first|assumption|omega)|fail))|fail) ?_)
  refine dA rfl (by exact rho_of rfl) rfl ?_
  have hP4 := hP.kp0 k4
  have hlen : ws.length ≤ 1024 := by omega
  repeat (first|apply cA|apply cB|apply cE|apply cF|refine cV rfl rfl rfl rfl (by first|(apply qla<;>(first|exact rfl|assumption|exact List.not_mem_nil|apply txc_length))|fail) ?_)
  refine SG.ret rfl rfl rfl (vs := [.agg (pdc room a ws.length c).toArray, txv x]) (by repeat' (first | exact True.intro | exact rho_of rfl | refine And.intro ?_ ?_)) (like_spec hP4 (by omega)) (fun w5 hk5 => ?_)
  have k5 := k4.trans hk5
  have k35 := hk4.trans hk5
  have hB3 := hB3.kp0 k35
  have hB5 := hB5.kp0 k35
  have hB6 := hB6.kp0 k35
  have hx5 := hx3.kp0 k35
  have hP5 := hP4.kp0 hk5
  clear r0 p0 p1 p2
  obtain ⟨p0, p1, p2⟩ := pdc_rows hB3
  obtain ⟨r0, -, -, r2, -⟩ := txc_rows hB5
  have s5 := k5.size
  have hfi := find_idx (l := ws.map Wm.en) (k := x.t.frm) (n := x.t.non)
  have hli := likeW_lt (ws := ws) (k := x.t.frm) (n := x.t.non)
  by_cases hf : ws.findIdx (fun e : Wm => isK x.t.frm x.t.non e.en) < ws.length
  · rw [idxZ_lt hf]
    generalize hi : ws.findIdx (fun e : Wm => isK x.t.frm x.t.non e.en) = i at hf hli
    rw [hli, List.getElem?_eq_getElem (by simpa using hf), List.getElem_map] at hfi
    have gi : (0 : Int) ≤ (i : Int) := by omega
    have gi2 : (i : Int) < (ws.length : Int) := by omega
    obtain ⟨b1, o1, rfl, hri⟩ := hP5.sl.at hf
    obtain ⟨u0, -, -, u2, -⟩ := wc_rows hri
    have hxi := hP5.ins _ (List.getElem_mem hf)
    repeat (first|apply cA|apply cB|apply cD|apply cE|refine cV rfl rfl rfl rfl (by first|((first|apply qmv|apply qas|apply qge)<;>(first|exact rfl|exact dct (by first|assumption|omega)|fail))|fail) ?_)
    refine cZ rfl (by exact rho_of rfl) rfl ?_
    clear hri
    repeat (first|apply cA)
    refine CG.tail mixed 7 [0, 1, 2, 3, 4, 5, 6] (by kernel_rfl) ?_
    repeat (refine cY rfl rfl rfl (by first|((first|apply qmv|apply qlc|apply qla|apply qfa|apply qix)<;>(first|exact rfl|exact Ar.mk (by omega)|assumption|exact List.not_mem_nil|apply txc_length|fail))|fail) ?_)
    refine Der.tl (fun w6 hk6 _ _ => ?_)
    refine SG.ret rfl rfl rfl (vs := [txv ws[i].x, txv x]) (by repeat' (first | exact True.intro | exact rho_of rfl | refine And.intro ?_ ?_)) (rtsame_spec (hxi.kp0 hk6) (hx5.kp0 hk6)) (fun w7 hk7 => ?_)
    have k57 := hk6.trans hk7
    have k7 := k5.trans k57
    have hB6 := hB6.kp0 k57
    have p0 := p0.kp0 k57
    have p1 := p1.kp0 k57
    have p2 := p2.kp0 k57
    have r0 := r0.kp0 k57
    have r2 := r2.kp0 k57
    have u2 := u2.kp0 k57
    by_cases hsame : ws[i].x.t = x.t
    · have hz := addZ_same (room := room) hh h3 hfi hsame
      rw [txEq_t hsame]
      repeat (first|apply cD|apply cE)
      refine cZ rfl (by exact rho_of rfl) rfl ?_
      clear p1
      repeat (first|apply cA|apply cB|refine cV rfl rfl rfl rfl (by first|(apply qla<;>(first|exact rfl|assumption|exact List.not_mem_nil))|fail) ?_)
      refine SG.setAll (l := pdc room (some ⟨b1, o1, none⟩) ws.length c) rfl rfl (by exact rho_of rfl) (by exact rho_of rfl) hB6 rfl rfl rfl (fun w8 hk8 hB6 => ?_)
      have hr6 : Row w8 b6 0 (pdc room (some ⟨b1, o1, none⟩) ws.length c) := Row.all hB6 rfl
      repeat (first|apply cD|apply cE|apply cH|apply cK|refine cV rfl rfl rfl rfl (by first|(apply qas<;>(exact rfl))|fail) ?_)
      refine ret2 (Or.inl rfl) Try.results30 (ResV.agg rfl rfl hr6 (pdc_length _ _ _ _)) (by first | exact ResV.tmp rfl | exact ResV.agg rfl rfl (by assumption) (by first | exact dc_length _ | exact nc_length _ | exact rc_length _ _ _ | exact ec_length _ | exact dl_length _ _ _ _ | rfl) | exact ResV.cell rfl rfl (by assumption)) ?_
      exact hno (k7.trans_new hk8 (new1 (by omega))) hz (by decide)
    rw [txEq_f hsame]
    repeat (first|apply cD|apply cE)
    refine dA rfl (by exact rho_of rfl) rfl ?_
    by_cases hfee : x.t.fee ≤ ws[i].x.t.fee
    · have hz := addZ_old (room := room) hh h3 hfi hsame hfee
      repeat (first|apply cA|apply cE|apply cF)
      refine CG.tail mixed 9 [0, 1, 2, 3, 4, 5, 6, 7, 8] (by kernel_rfl) ?_
      repeat (refine cY rfl rfl rfl (by first|((first|apply qmv|apply qlc|apply qfa|apply qix)<;>(first|exact rfl|exact Ar.mk (by omega)|assumption|exact List.not_mem_nil|fail))|fail) ?_)
      refine Der.tl (fun w8 hk8 _ _ => ?_)
      have p0 := p0.kp0 hk8
      repeat (first|apply cD|apply cE|refine cV rfl rfl rfl rfl (by first|(apply qle<;>(first|exact rfl|exact dct (by first|assumption|omega)|fail))|fail) ?_)
      refine cZ rfl (by exact rho_of rfl) rfl ?_
      repeat (first|apply cA|apply cB|refine cV rfl rfl rfl rfl (by first|(apply qla<;>(first|exact rfl|assumption|exact List.not_mem_nil))|fail) ?_)
      refine SG.setAll (l := pdc room (some ⟨b1, o1, none⟩) ws.length c) rfl rfl (by exact rho_of rfl) (by exact rho_of rfl) (hB6.kp0 hk8) rfl rfl rfl (fun w9 hk9 hB6 => ?_)
      have hr6 : Row w9 b6 0 (pdc room (some ⟨b1, o1, none⟩) ws.length c) := Row.all hB6 rfl
      repeat (first|apply cD|apply cE|apply cH|apply cK|refine cV rfl rfl rfl rfl (by first|(apply qas<;>(exact rfl))|fail) ?_)
      refine ret2 (Or.inl rfl) Try.results30 (ResV.agg rfl rfl hr6 (pdc_length _ _ _ _)) (by first | exact ResV.tmp rfl | exact ResV.agg rfl rfl (by assumption) (by first | exact dc_length _ | exact nc_length _ | exact rc_length _ _ _ | exact ec_length _ | exact dl_length _ _ _ _ | rfl) | exact ResV.cell rfl rfl (by assumption)) ?_
      exact hno ((k7.trans hk8).trans_new hk9 (new1 (by omega))) hz (by decide)
    have hz := addZ_new (room := room) hh h3 hfi hsame hfee
    repeat (first|apply cA|apply cE|apply cF)
    refine CG.tail mixed 9 [0, 1, 2, 3, 4, 5, 6, 7, 8] (by kernel_rfl) ?_
    repeat (refine cY rfl rfl rfl (by first|((first|apply qmv|apply qlc|apply qfa|apply qix)<;>(first|exact rfl|exact Ar.mk (by omega)|assumption|exact List.not_mem_nil|fail))|fail) ?_)
    refine Der.tl (fun w8 hk8 _ _ => ?_)
    have k58 := k57.trans hk8
    have k8 := k5.trans k58
    have hP8 := hP5.kp0 k58
    have hB3 := hB3.kp0 k58
    have hB6 := hB6.kp0 hk8
    have hx8 := hx5.kp0 k58
    have r0 := r0.kp0 hk8
    have p2 := p2.kp0 hk8
    have hel : (ws.eraseIdx i).length ≤ ws.length := (List.eraseIdx_sublist _ _).length_le
    clear p0 p1 r2 u2 u0
    repeat (first|apply cD|apply cE|refine cV rfl rfl rfl rfl (by first|(apply qle<;>(first|exact rfl|exact dcf (by first|assumption|omega)|fail))|fail) ?_)
    refine dA rfl (by exact rho_of rfl) rfl ?_
    repeat (first|apply cA|apply cE|apply cF)
    refine CG.rows mixed 8 [0, 1, 2, 4, 5, 6, 3, 7] [⟨3, 0, oW w8.heap.size (ws.eraseIdx i)⟩, ⟨7, 1, oW w8.heap.size [(⟨x, h⟩ : Wm)]⟩] (by kernel_rfl) (by kernel_rfl) (by kernel_rfl) (OkL.all (by repeat' (first | exact OkL.nil | refine OkL.cons ?_ ?_ | exact oP_ok | exact bP_ok))) ?_
    repeat (refine DerR.val rfl rfl rfl rfl (by first|((first|apply qmv|apply qlc|apply qla|apply qfa)<;>(first|exact rfl|assumption|exact List.not_mem_nil|apply txc_length))|fail) ?_)
    refine DerR.val rfl rfl rfl rfl (vals_build (vs := [(0, txv x), (1, .int .i64 h)]) rfl (fun W => bw W x h)) ?_
    skip
    refine DerR.callO (ws.eraseIdx i) rfl rfl rfl rfl (by repeat' (first | exact OkL.nil | refine OkL.cons ?_ ?_ | exact oP_ok | exact bP_ok)) (vs := [.slice (some ⟨b1, o1, none⟩) ws.length c, .int .i64 (i : Int)]) (by repeat' (first | exact True.intro | exact rho_of rfl | refine And.intro ?_ ?_)) (Nat.le_refl _) (fun W hk hF => without_spec (hP8.kp0 hk) (by omega) hf) (fun v3 => ?_)
    refine DerR.buildO [(⟨x, h⟩ : Wm)] wc_length rfl rfl rfl rfl rfl (by repeat' (first | exact OkL.nil | refine OkL.cons ?_ ?_ | exact oP_ok | exact bP_ok)) rfl (Nat.le_refl _) (by simp [maxLen]) (fun W => by rw [flt_one]; exact bsw ⟨x, h⟩ W) (fun v7 => ?_)
    refine DerR.tl (fun w9 V hok hV => ?_)
    have ho3 : w9.ownsRow w8.heap.size 88 14 v3 (ws.eraseIdx i).length (flt wc (ws.eraseIdx i)) := hok.get hV (.tail _ (.head _)) rfl
    have ho7 : w9.ownsRow w8.heap.size 88 14 v7 ([(⟨x, h⟩ : Wm)] : List Wm).length (flt wc [(⟨x, h⟩ : Wm)]) := hok.get hV (.head _) rfl
    have hk9 := hok.kp
    obtain ⟨a7, c7, rfl, -, hS7⟩ := Sl.own wc_length ho7 rfl
    refine SG.appO (enc := wc) (xs := ws.eraseIdx i) (ys := [(⟨x, h⟩ : Wm)]) (base := w8.heap.size) rfl rfl rfl (by exact rho_of rfl) (by exact rho_of rfl) rfl rfl rfl rfl wc_length wc_one ho3 hS7 (by simp only [maxLen, List.length_cons, List.length_nil]; omega) (by simp only [List.length_cons, List.length_nil]; show (_ + _) * 88 ≤ _; omega) hk9.size (fun v10 w10 hk10 ho10 _ => ?_)
    have k810 : Kp [] w8 w10 := hk9.trans_new hk10 (own_new ho3 (Nat.le_refl _))
    have hin : ∀ e ∈ ws.eraseIdx i ++ [(⟨x, h⟩ : Wm)], e.x.In n w10 := fun e he => by
      rcases List.mem_append.1 he with he | he
      · exact (hP8.ins e (List.mem_of_mem_eraseIdx he)).kp0 k810
      · rw [List.mem_singleton] at he
        rw [he]
        exact hx8.kp0 k810
    obtain ⟨a10, c10, rfl, hP10⟩ := PD.own ho10 hin
    have hB3' := hB3
    have hB6' := hB6
    clear hok hV ho3 ho7 hS7 p2
    repeat (first|refine cV rfl rfl rfl rfl (by first|(apply qfa<;>(exact rfl))|fail) ?_)
    refine SG.setMid [.int .i64 room] [.slice (some ⟨b1, o1, none⟩) ws.length c] [] rfl rfl (by exact rho_of rfl) (by exact rho_of rfl) (hB3.kp0 k810) rfl rfl rfl rfl rfl (fun w11 hk11 hB3 => ?_)
    have hB3 : Blk w11 b3 (.cells (pdc room a10 (ws.eraseIdx i ++ [(⟨x, h⟩ : Wm)]).length c10).toArray 26) := hB3
    obtain ⟨p0, -, -⟩ := pdc_rows hB3
    clear r0
    repeat (first|apply cA|apply cB|apply cD|apply cE|refine cV rfl rfl rfl rfl (by first|(apply qla<;>(first|exact rfl|assumption|exact List.not_mem_nil))|fail) ?_)
    refine SG.setAll (l := pdc room a10 (ws.eraseIdx i ++ [(⟨x, h⟩ : Wm)]).length c10) rfl rfl (by exact rho_of rfl) (by exact rho_of rfl) ((hB6.kp0 k810).kp hk11 (nm1 (by omega))) rfl rfl rfl (fun w12 hk12 hB6 => ?_)
    have hr6 : Row w12 b6 0 (pdc room a10 (ws.eraseIdx i ++ [(⟨x, h⟩ : Wm)]).length c10) := Row.all hB6 rfl
    repeat (first|apply cD|apply cE|apply cH|apply cK|refine cV rfl rfl rfl rfl (by first|(apply qas<;>(exact rfl))|fail) ?_)
    refine ret2 (Or.inl rfl) Try.results30 (ResV.agg rfl rfl hr6 (pdc_length _ _ _ _)) (by first | exact ResV.tmp rfl | exact ResV.agg rfl rfl (by assumption) (by first | exact dc_length _ | exact nc_length _ | exact rc_length _ _ _ | exact ec_length _ | exact dl_length _ _ _ _ | rfl) | exact ResV.cell rfl rfl (by assumption)) ?_
    have s10 := k810.size
    have k1012 : Kp [] w10 w10 := Kp.refl _ _
    refine ⟨a10, c10, ws.eraseIdx i ++ [(⟨x, h⟩ : Wm)], by rw [hz], ((k8.trans k810).trans_new hk11 (new1 hb3)).trans_new hk12 (new1 (by omega)), ?_, ?_⟩
    · exact (hP10.kpb hk11 (hB3'.kp0 k810) (by decide) (by decide) (by omega)).kpb hk12 ((hB6'.kp0 k810).kp hk11 (nm1 (by omega))) (by decide) (by decide) (by omega)
    · rw [List.map_append, erase_en]
      unfold addE
      rw [if_pos hz]
      unfold addL
      rw [hli]
      rfl
  rw [idxZ_no hf]
  rw [hli, List.getElem?_eq_none (by rw [List.length_map]; omega)] at hfi
  have gi : ¬ (0 : Int) ≤ -1 := by omega
  repeat (first|apply cA|apply cB|apply cD|apply cE|refine cV rfl rfl rfl rfl (by first|((first|apply qmv|apply qas|apply qge)<;>(first|exact rfl|exact dcf (by first|assumption|omega)|fail))|fail) ?_)
  refine dA rfl (by exact rho_of rfl) rfl ?_
  by_cases hfull : (ws.length : Int) = room
  · have hz := addZ_full (room := room) hh h3 hfi (by rw [List.length_map]; omega)
    repeat (first|apply cA|apply cB|apply cD|apply cE|apply cF|refine cV rfl rfl rfl rfl (by first|((first|apply qlc|apply qfa|apply qei|apply qln)<;>(first|exact rfl|assumption|exact dct (by first|assumption|omega)|exact List.not_mem_nil|fail))|fail) ?_)
    refine cZ rfl (by exact rho_of rfl) rfl ?_
    clear p1
    repeat (first|apply cA|apply cB|refine cV rfl rfl rfl rfl (by first|(apply qla<;>(first|exact rfl|assumption|exact List.not_mem_nil))|fail) ?_)
    refine SG.setAll (l := pdc room a ws.length c) rfl rfl (by exact rho_of rfl) (by exact rho_of rfl) hB6 rfl rfl rfl (fun w6 hk6 hB6 => ?_)
    have hr6 : Row w6 b6 0 (pdc room a ws.length c) := Row.all hB6 rfl
    repeat (first|apply cD|apply cE|apply cH|apply cK|refine cV rfl rfl rfl rfl (by first|(apply qas<;>(exact rfl))|fail) ?_)
    refine ret2 (Or.inl rfl) Try.results30 (ResV.agg rfl rfl hr6 (pdc_length _ _ _ _)) (by first | exact ResV.tmp rfl | exact ResV.agg rfl rfl (by assumption) (by first | exact dc_length _ | exact nc_length _ | exact rc_length _ _ _ | exact ec_length _ | exact dl_length _ _ _ _ | rfl) | exact ResV.cell rfl rfl (by assumption)) ?_
    exact hno (k5.trans_new hk6 (new1 (by omega))) hz (by decide)
  have hz := addZ_ok (room := room) hh h3 hfi (by rw [List.length_map]; omega)
  repeat (first|apply cA|apply cB|apply cD|apply cE|apply cF|refine cV rfl rfl rfl rfl (by first|((first|apply qlc|apply qfa|apply qei|apply qln)<;>(first|exact rfl|assumption|exact dcf (by first|assumption|omega)|exact List.not_mem_nil|fail))|fail) ?_)
  refine dA rfl (by exact rho_of rfl) rfl ?_
  clear p0 p1 r2
  repeat (first|apply cA|apply cE|apply cF)
  refine CG.rows mixed 8 [1, 2, 4, 5, 6, 0, 3, 7] [⟨0, 0, oW w5.heap.size []⟩, ⟨3, 0, oW w5.heap.size ([] ++ ws)⟩, ⟨7, 1, oW w5.heap.size [(⟨x, h⟩ : Wm)]⟩] (by kernel_rfl) (by kernel_rfl) (by kernel_rfl) (OkL.all (by repeat' (first | exact OkL.nil | refine OkL.cons ?_ ?_ | exact oP_ok | exact bP_ok))) ?_
  repeat (refine DerR.val rfl rfl rfl rfl (by first|((first|apply qmv|apply qlc|apply qla|apply qfa)<;>(first|exact rfl|assumption|exact List.not_mem_nil|apply txc_length))|fail) ?_)
  refine DerR.val rfl rfl rfl rfl (vals_build (vs := [(0, txv x), (1, .int .i64 h)]) rfl (fun W => bw W x h)) ?_
  skip
  refine DerR.buildO [] wc_length rfl rfl rfl rfl rfl (by repeat' (first | exact OkL.nil | refine OkL.cons ?_ ?_ | exact oP_ok | exact bP_ok)) rfl (Nat.le_refl _) (by simp) bsw0 (fun v0 => ?_)
  refine DerR.append (src := 0) [] ws [(0, [])] wc_length wc_one rfl rfl (by kernel_rfl) ⟨Nat.le_refl _, trivial⟩ rfl rfl rfl (by repeat' (first | exact OkL.nil | refine OkL.cons ?_ ?_ | exact oP_ok | exact bP_ok)) (by exact rho_of rfl) (by exact rho_of rfl) rfl rfl rfl (by simp only [maxLen, List.length_nil]; omega) (by show (0 + _) * 88 ≤ _; omega) (Nat.le_refl _) (.head _) (by kernel_rfl) (fun W hk hF => ⟨_, _, rfl, hP5.sl.kp0 hk⟩) (fun v3 => ?_)
  refine DerR.buildO [(⟨x, h⟩ : Wm)] wc_length rfl rfl rfl rfl rfl (by repeat' (first | exact OkL.nil | refine OkL.cons ?_ ?_ | exact oP_ok | exact bP_ok)) rfl (Nat.le_refl _) (by simp [maxLen]) (fun W => by rw [flt_one]; exact bsw ⟨x, h⟩ W) (fun v7 => ?_)
  refine DerR.tl (fun w9 V hok hV => ?_)
  have ho3 : w9.ownsRow w5.heap.size 88 14 v3 ws.length (flt wc ws) := hok.get hV (.tail _ (.head _)) rfl
  have ho7 : w9.ownsRow w5.heap.size 88 14 v7 ([(⟨x, h⟩ : Wm)] : List Wm).length (flt wc [(⟨x, h⟩ : Wm)]) := hok.get hV (.head _) rfl
  have hk9 := hok.kp
  obtain ⟨a7, c7, rfl, -, hS7⟩ := Sl.own wc_length ho7 rfl
  refine SG.appO (enc := wc) (xs := ws) (ys := [(⟨x, h⟩ : Wm)]) (base := w5.heap.size) rfl rfl rfl (by exact rho_of rfl) (by exact rho_of rfl) rfl rfl rfl rfl wc_length wc_one ho3 hS7 (by simp only [maxLen, List.length_cons, List.length_nil]; omega) (by simp only [List.length_cons, List.length_nil]; show (_ + _) * 88 ≤ _; omega) hk9.size (fun v10 w10 hk10 ho10 _ => ?_)
  have k810 : Kp [] w5 w10 := hk9.trans_new hk10 (own_new ho3 (Nat.le_refl _))
  have hin : ∀ e ∈ ws ++ [(⟨x, h⟩ : Wm)], e.x.In n w10 := fun e he => by
    rcases List.mem_append.1 he with he | he
    · exact (hP5.ins e he).kp0 k810
    · rw [List.mem_singleton] at he
      rw [he]
      exact hx5.kp0 k810
  obtain ⟨a10, c10, rfl, hP10⟩ := PD.own ho10 hin
  have hB3' := hB3
  have hB6' := hB6
  clear hok hV ho3 ho7 hS7 p2
  repeat (first|refine cV rfl rfl rfl rfl (by first|(apply qfa<;>(exact rfl))|fail) ?_)
  refine SG.setMid [.int .i64 room] [.slice a ws.length c] [] rfl rfl (by exact rho_of rfl) (by exact rho_of rfl) (hB3.kp0 k810) rfl rfl rfl rfl rfl (fun w11 hk11 hB3 => ?_)
  have hB3 : Blk w11 b3 (.cells (pdc room a10 (ws ++ [(⟨x, h⟩ : Wm)]).length c10).toArray 26) := hB3
  obtain ⟨p0, -, -⟩ := pdc_rows hB3
  clear r0
  repeat (first|apply cA|apply cB|apply cD|apply cE|refine cV rfl rfl rfl rfl (by first|(apply qla<;>(first|exact rfl|assumption|exact List.not_mem_nil))|fail) ?_)
  refine SG.setAll (l := pdc room a10 (ws ++ [(⟨x, h⟩ : Wm)]).length c10) rfl rfl (by exact rho_of rfl) (by exact rho_of rfl) ((hB6.kp0 k810).kp hk11 (nm1 (by omega))) rfl rfl rfl (fun w12 hk12 hB6 => ?_)
  have hr6 : Row w12 b6 0 (pdc room a10 (ws ++ [(⟨x, h⟩ : Wm)]).length c10) := Row.all hB6 rfl
  repeat (first|apply cD|apply cE|apply cH|refine cV rfl rfl rfl rfl (by first|(apply qas<;>(exact rfl))|fail) ?_)
  refine ret2 (Or.inl rfl) Try.results30 (ResV.agg rfl rfl hr6 (pdc_length _ _ _ _)) (by first | exact ResV.tmp rfl | exact ResV.agg rfl rfl (by assumption) (by first | exact dc_length _ | exact nc_length _ | exact rc_length _ _ _ | exact ec_length _ | exact dl_length _ _ _ _ | rfl) | exact ResV.cell rfl rfl (by assumption)) ?_
  have s10 := k810.size
  refine ⟨a10, c10, ws ++ [(⟨x, h⟩ : Wm)], by rw [hz], ((k5.trans k810).trans_new hk11 (new1 hb3)).trans_new hk12 (new1 (by omega)), ?_, ?_⟩
  · exact (hP10.kpb hk11 (hB3'.kp0 k810) (by decide) (by decide) (by omega)).kpb hk12 ((hB6'.kp0 k810).kp hk11 (nm1 (by omega))) (by decide) (by decide) (by omega)
  · rw [List.map_append]
    unfold addE
    rw [if_pos hz]
    unfold addL
    rw [hli, List.eraseIdx_of_length_le (by rw [List.length_map]; omega)]
    rfl
end Go.Proofs.Ytgbgnlboogalgaa
namespace Go.Proofs.Ytgbgnlboogalgaa
set_option linter.unusedVariables false
section
variable {P : Program} {L : Env} {ty : TypeId} {pos : String} {af : Array Edge} {g : Option (Nat × Bool)} {S : List Nat} {w0 : World} {ops : List Oper} {gh : List Nat} {K : Env → (World → Prop) → (World → Prop) → Prop} {i : Nat} {ord : List Nat} {F R : World → Prop}
theorem Der.loadCR {d : Nat} {T : TypeId} [c : CelT P T] {x : Operand} {b off : Nat} {v : Value}
    (ho : ops[i]? = some ⟨some d, .load T x, ty, pos, af, g⟩) (hw : want ops L ⟨some d, .load T x, ty, pos, af, g⟩ = some true) (hg : gh.elem (i + 1000) = true) (hk : known L x = true) (hx : ro L x = some (.pointer (some ⟨b, off, none⟩))) (hr : ∀ w, R w → Row w b off [v])
    (hd : Der P S w0 ops gh K ord ((d, v) :: L) F R) : Der P S w0 ops gh K (i :: ord) L F R :=
  Der.valR ho hw hg (by simpa [Op.operands] using hk) (fun w _ _ hR => qlc (S := []) (w0 := w) (F := fun _ => True) hx (hr w hR) List.not_mem_nil w (Kp.refl _ _) trivial) hd
theorem Der.storeMid {T T' : TypeId} {inf : TypeInfo} [f : Inf P T inf] {a x : Operand} {b off : Nat} (pre old post : List Value) {v : Value}
    (ho : ops[i]? = some ⟨none, .store T a x, ty, pos, af, g⟩) (hw : want ops L ⟨none, .store T a x, ty, pos, af, g⟩ = some true) (hg : gh.elem i = true) (hk : (known L a && known L x) = true) (ha : rho L a = .pointer (some ⟨b, off, none⟩)) (hx : rho L x = v)
    (hn : v.cells.toList.length = inf.size) (hold : old.length = inf.size) (hp : pre.length = off) (hone : allOne v.cells.toList = true) (hb : b ∈ S) (hFs : Stab S F)
    (hd : Der P S w0 ops gh K ord L (fun w => F w ∧ True) (fun w => Blk w b (.cells (pre ++ (v.cells.toList ++ post)).toArray T'))) : Der P S w0 ops gh K (i :: ord) L F (fun w => Blk w b (.cells (pre ++ (old ++ post)).toArray T')) := by
  refine Der.storeR (fun w => Blk w b (.cells (pre ++ (v.cells.toList ++ post)).toArray T')) ho hw hg hk ha hx hFs (fun w w' hk h => h.kp0 hk) (fun w h => ?_) hd
  have hrun := run_storeAt (P := P) (f := f) (off := off) (v := v) h hn (by simp only [List.size_toArray, List.length_append]; omega) hone
  refine ⟨_, hrun, ?_, (Kp.set w h rfl rfl).mono (by intro z hz; simp at hz; subst hz; exact hb)⟩
  have := h.set (.cells (spl (pre ++ (old ++ post)).toArray.toList off v.cells.toList).toArray T')
  rw [List.toList_toArray, ← hp, spl_mid (by omega)] at this
  rw [List.toList_toArray, ← hp, spl_mid (by omega)]
  exact this
end
end Go.Proofs.Ytgbgnlboogalgaa
namespace Go.Proofs.Ytgbgnlboogalgaa
open Go.Proofs
set_option linter.unusedVariables false
/-- A transaction that comes, of any length. -/
structure Tm.Rd (x : Tm) (n : Nat) (w : World) : Prop where
  b : Bs w x.a1 x.c1 x.t.body
  s : Bs w x.a2 x.c2 x.t.sig
  t1 : Tb n w x.a1 x.t.body
  t2 : Tb n w x.a2 x.t.sig
theorem Tm.Rd.kp0 {x : Tm} {n : Nat} {w w' : World} (h : x.Rd n w) (hk : Kp [] w w') : x.Rd n w' := ⟨h.b.kp0 hk, h.s.kp0 hk, h.t1.kp0 hk, h.t2.kp0 hk⟩
def cutT (t : Tx) : Tx := ⟨t.frm, t.non, t.fee, t.kind, t.body.take 400, t.sig.take 1100⟩
def cutM (x : Tm) : Tm := ⟨cutT x.t, x.a1, x.c1, x.a2, x.c2⟩
theorem Bs.take {w : World} {a : Option Addr} {c : Nat} {l : List UInt8} (h : Bs w a c l) (j : Nat) : Bs w a c (l.take j) := by
  refine ⟨h.sl.take j, Nat.le_trans (List.length_take_le' j l) h.len, ?_, fun hn b off e => h.lt (fun h0 => hn (by rw [h0, List.take_nil])) b off e⟩
  rcases h.some with ⟨rfl, h2⟩ | h2 | ⟨rfl, h2⟩
  · exact Or.inl ⟨List.take_nil, h2⟩
  · exact Or.inr (Or.inl h2)
  · exact Or.inr (Or.inr ⟨List.take_nil, h2⟩)
theorem Tb.take {n : Nat} {w : World} {a : Option Addr} {l : List UInt8} (h : Tb n w a l) (j : Nat) : Tb n w a (l.take j) := by
  rcases h with h | h
  · exact Or.inl (fun hn => h (fun h0 => hn (by rw [h0, List.take_nil])))
  · exact Or.inr h
theorem cutM_in {x : Tm} {n : Nat} {w : World} (h : x.Rd n w) : (cutM x).In n w :=
  ⟨h.b.take 400, h.s.take 1100, h.t1.take 400, h.t2.take 1100, by show (x.t.body.take 400).length ≤ _; rw [List.length_take]; omega, by show (x.t.sig.take 1100).length ≤ _; rw [List.length_take]; omega⟩
theorem mn_tk (n : Nat) (l : List UInt8) : (if (n : Int) < (l.length : Int) then (n : Int) else (l.length : Int)) = ((l.take n).length : Int) := by
  rw [List.length_take]
  split <;> omega
set_option maxHeartbeats 4000000 in
theorem bT' (w : World) (a0 a1 a2 a3 a4 a5 a6 a7 : UInt8) (n f k : Int) (x1 x2 : Option Addr) (m1 m2 d1 d2 : Nat) :
    (Instr.build 73 #[(0, .agg #[bv a0, bv a1, bv a2, bv a3, bv a4, bv a5, bv a6, bv a7]), (1, .int .i64 n), (2, .int .i64 f), (3, .int .i64 k), (4, .slice x1 m1 d1), (5, .slice x2 m2 d2)]).run Try.prog w = .ok (.agg #[bv a0, bv a1, bv a2, bv a3, bv a4, bv a5, bv a6, bv a7, .int .i64 n, .int .i64 f, .int .i64 k, .slice x1 m1 d1, .slice x2 m2 d2]) w := by kernel_rfl
theorem bT (w : World) (x : Tm) : (Instr.build 73 #[(0, dv x.t.frm), (1, .int .i64 x.t.non), (2, .int .i64 x.t.fee), (3, .int .i64 x.t.kind), (4, x.b), (5, x.s)]).run Try.prog w = .ok (txv x) w := by
  obtain ⟨⟨⟨l, hl⟩, n, f, k, b, g⟩, a1, c1, a2, c2⟩ := x
  match l, hl with
  | [x0, x1, x2, x3, x4, x5, x6, x7], _ => exact bT' w x0 x1 x2 x3 x4 x5 x6 x7 n f k a1 a2 b.length g.length c1 c2
def p11 (t : Tx) : List Value := dc t.frm ++ [.int .i64 t.non, .int .i64 t.fee, .int .i64 t.kind]
def p12 (t : Tx) (v : Value) : List Value := dc t.frm ++ [.int .i64 t.non, .int .i64 t.fee, .int .i64 t.kind, v]
theorem txc_p11 (t : Tx) (a1 a2 : Option Addr) (c1 c2 : Nat) : txc ⟨t, a1, c1, a2, c2⟩ = p11 t ++ ([.slice a1 t.body.length c1] ++ [.slice a2 t.sig.length c2]) := txc_mid4 t a1 a2 c1 c2
attribute [local irreducible] CG NG SG Vals Der Row Blk MapIs IterAt DerX DerR wrongT nameT
set_option maxHeartbeats 16000000 in
theorem tof_spec {w : World} (x : Tm) : Ret Try.prog 31 #[txv x] w (txv x) := by
  refine enter1 Try.func31 rfl Try.ntmps31 rfl ?_
  repeat (first|apply cA|apply cB)
  refine SG.box rfl rfl rfl (by exact rho_of rfl) (fun b1 w1 hk1 hb1 hB1 => ?_)
  have hB1 : Blk w1 b1 (.cells (txc x).toArray 35) := hB1
  refine SG.alloc rfl rfl rfl (fun b2 w2 hk2 hb2 hB2 => ?_)
  have hB2 : Blk w2 b2 (.cells (txc ⟨⟨zd, 0, 0, 0, [], []⟩, none, 0, none, 0⟩).toArray 73) := hB2
  obtain ⟨-, r0, r1, r2, r3, r4, r5⟩ := txc_rows (hB1.kp0 hk2)
  have s1 := hk1.size
  repeat (first|apply cA|apply cB|apply cD|apply cE|refine cV rfl rfl rfl rfl (by first|((first|apply qlc|apply qla|apply qfa)<;>(first|exact rfl|assumption|exact List.not_mem_nil|apply dc_length))|fail) ?_)
  refine cV rfl rfl rfl rfl (vals_build (vs := [(0, dv x.t.frm), (1, .int .i64 x.t.non), (2, .int .i64 x.t.fee), (3, .int .i64 x.t.kind), (4, x.b), (5, x.s)]) rfl (fun W => bT W x)) ?_
  refine SG.setAll (l := txc x) rfl rfl (by exact rho_of rfl) (by exact rho_of rfl) hB2 (txc_length _) rfl (txc_one _) (fun w3 hk3 hB2 => ?_)
  have hr : Row w3 b2 0 (txc x) := Row.all hB2 rfl
  repeat (first|apply cD|apply cE|apply cH)
  refine ret1 (Or.inl rfl) Try.results31 (ResV.agg rfl rfl hr (txc_length _)) ?_
  exact ⟨rfl, (hk1.trans hk2).trans_new hk3 (new1 (by omega))⟩
set_option maxHeartbeats 16000000 in
theorem cut_spec {w : World} {n : Nat} {x : Tm} (hx : x.Rd n w) : Ret Try.prog 32 #[txv x] w (txv (cutM x)) := by
  refine enter1 Try.func32 rfl Try.ntmps32 rfl ?_
  have c1 := hx.b.len
  have c2 := hx.s.len
  have m1 : (if (400 : Int) < (x.t.body.length : Int) then (400 : Int) else (x.t.body.length : Int)) = ((x.t.body.take 400).length : Int) := mn_tk 400 x.t.body
  have m2 : (if (1100 : Int) < (x.t.sig.length : Int) then (1100 : Int) else (x.t.sig.length : Int)) = ((x.t.sig.take 1100).length : Int) := mn_tk 1100 x.t.sig
  have m1l : (x.t.body.take 400).length ≤ x.t.body.length := List.length_take_le' _ _
  have m2l : (x.t.sig.take 1100).length ≤ x.t.sig.length := List.length_take_le' _ _
  repeat (first|apply cA|apply cB)
  refine SG.box rfl rfl rfl (by exact rho_of rfl) (fun b1 w1 hk1 hb1 hB1 => ?_)
  have hB1 : Blk w1 b1 (.cells (txc x).toArray 35) := hB1
  have l1 := hB1.lt
  refine SG.alloc rfl rfl rfl (fun b2 w2 hk2 hb2 hB2 => ?_)
  have hB2 : Blk w2 b2 (.cells (txc ⟨⟨zd, 0, 0, 0, [], []⟩, none, 0, none, 0⟩).toArray 35) := hB2
  have hB1 := hB1.kp0 hk2
  have s1 := hk1.size
  rw [show txc x = p11 x.t ++ ([Value.slice x.a1 x.t.body.length x.c1] ++ [Value.slice x.a2 x.t.sig.length x.c2]) from txc_p11 x.t x.a1 x.a2 x.c1 x.c2] at hB1
  have hrow : ∀ {W : World}, Blk W b1 (.cells (p11 x.t ++ ([Value.slice x.a1 x.t.body.length x.c1] ++ [Value.slice x.a2 x.t.sig.length x.c2])).toArray 35) → Row W b1 11 [Value.slice x.a1 x.t.body.length x.c1] ∧ Row W b1 12 [Value.slice x.a2 x.t.sig.length x.c2] := fun {W} h => by
    rw [← txc_p11] at h
    obtain ⟨-, -, -, -, -, r4, r5⟩ := txc_rows h
    exact ⟨r4, r5⟩
  repeat (first|apply cA|apply cD|apply cE)
  refine CG.tailg mixed 16 [0, 1, 2, 3, 4, 5, 6, 7, 8, 9, 10, 11, 12, 13, 14, 15] [15, 1001, 1003, 1008, 1010] [b1] (fun W => Blk W b1 (.cells (p11 x.t ++ ([Value.slice x.a1 x.t.body.length x.c1] ++ [Value.slice x.a2 x.t.sig.length x.c2])).toArray 35)) (by kernel_rfl) hB1 (fun _ _ hk h => h.kp0 hk) ?_
  repeat (refine cY rfl rfl rfl (by first|(apply qfa<;>(exact rfl))|fail) ?_)
  refine Der.loadCR rfl rfl rfl rfl rfl (fun W h => (hrow h).1) ?_
  repeat (refine cY rfl rfl rfl (by first|(apply qfa<;>(exact rfl))|fail) ?_)
  refine Der.loadCR rfl rfl rfl rfl rfl (fun W h => (hrow h).1) ?_
  repeat (refine cY rfl rfl rfl (by first|((first|apply qmn|apply qfa|apply qln|apply qto)<;>(first|exact rfl|exact Ar.mk (by omega)|assumption|fail))|fail) ?_)
  rw [m1]
  skip
  refine Der.loadCR rfl rfl rfl rfl rfl (fun W h => (hrow h).2) ?_
  repeat (refine cY rfl rfl rfl (by first|(apply qfa<;>(exact rfl))|fail) ?_)
  refine Der.loadCR rfl rfl rfl rfl rfl (fun W h => (hrow h).2) ?_
  repeat (refine cY rfl rfl rfl (by first|((first|apply qmn|apply qfa|apply qln|apply qto)<;>(first|exact rfl|exact Ar.mk (by omega)|assumption|fail))|fail) ?_)
  rw [m2]
  skip
  refine Der.storeMid (p11 x.t) [Value.slice x.a1 x.t.body.length x.c1] [Value.slice x.a2 x.t.sig.length x.c2] rfl rfl rfl rfl (by exact rho_of rfl) (by exact rho_of rfl) rfl rfl (tx_len1 x.t) rfl (by simp) (fun _ _ _ _ => trivial) ?_
  refine Der.tl (fun w3 hk3 _ hB3 => ?_)
  have hB3 : Blk w3 b1 (.cells (p12 x.t (.slice x.a1 (x.t.body.take 400).length x.c1) ++ ([Value.slice x.a2 x.t.sig.length x.c2] ++ [])).toArray 35) := by
    have e : p12 x.t (.slice x.a1 (x.t.body.take 400).length x.c1) ++ ([Value.slice x.a2 x.t.sig.length x.c2] ++ []) = p11 x.t ++ ((Value.slice x.a1 (x.t.body.take 400).length x.c1).cells.toList ++ [Value.slice x.a2 x.t.sig.length x.c2]) := by simp [Value.cells, p11, p12]
    rw [e]
    exact hB3
  have s2 := hk2.size
  refine cV rfl rfl rfl rfl (by first|(apply qfa<;>(exact rfl))|fail) ?_
  refine SG.setMid (p12 x.t (.slice x.a1 (x.t.body.take 400).length x.c1)) [Value.slice x.a2 x.t.sig.length x.c2] [] rfl rfl (by exact rho_of rfl) (by exact rho_of rfl) hB3 rfl rfl rfl (tx_len2 x.t _) rfl (fun w4 hk4 hB4 => ?_)
  have hB4 : Blk w4 b1 (.cells (txc (cutM x)).toArray 35) := by
    have e : txc (cutM x) = p12 x.t (.slice x.a1 (x.t.body.take 400).length x.c1) ++ ((Value.slice x.a2 (x.t.sig.take 1100).length x.c2).cells.toList ++ []) := by
      rw [show txc (cutM x) = _ from txc_mid5 (cutT x.t) x.a1 x.a2 x.c1 x.c2]
      simp [cutT, Value.cells, p12]
    rw [e]
    exact hB4
  obtain ⟨r, -⟩ := txc_rows hB4
  repeat (first|apply cA|apply cB|apply cD|apply cE|refine cV rfl rfl rfl rfl (by first|(apply qla<;>(first|exact rfl|assumption|exact List.not_mem_nil|apply txc_length))|fail) ?_)
  refine SG.setAll (l := txc (cutM x)) rfl rfl (by exact rho_of rfl) (by exact rho_of rfl) ((hB2.kp hk3 (nm1 (by omega))).kp hk4 (nm1 (by omega))) (txc_length _) rfl (txc_one _) (fun w5 hk5 hB2 => ?_)
  have hr : Row w5 b2 0 (txc (cutM x)) := Row.all hB2 rfl
  repeat (first|apply cD|apply cE|apply cH)
  refine ret1 (Or.inl rfl) Try.results32 (ResV.agg rfl rfl hr (txc_length _)) ?_
  exact ⟨rfl, (((hk1.trans hk2).trans_new hk3 (new1 (by omega))).trans_new hk4 (new1 (by omega))).trans_new hk5 (new1 (by omega))⟩
end Go.Proofs.Ytgbgnlboogalgaa
namespace Go.Proofs.Ytgbgnlboogalgaa
open Go.Proofs
set_option linter.unusedVariables false
/-- Transactions that come in, of any length. -/
structure TxsR (w : World) (n : Nat) (a : Option Addr) (xs : List Tm) : Prop where
  sl : Sl txc 13 w a xs
  rd : ∀ x ∈ xs, x.Rd n w
theorem TxsR.kp0 {w w' : World} {n : Nat} {a : Option Addr} {xs : List Tm} (h : TxsR w n a xs) (hk : Kp [] w w') : TxsR w' n a xs := ⟨h.sl.kp0 hk, fun x hx => (h.rd x hx).kp0 hk⟩
structure TxsN (w : World) (base n : Nat) (v : Value) (xs : List Tm) : Prop where
  own : w.ownsRow base 35 13 v xs.length (flt txc xs)
  ins : ∀ x ∈ xs, x.In n w
theorem TxsN.nil {w : World} {base n : Nat} : TxsN w base n (.slice none 0 0) [] := ⟨own_nil, fun x h => (by cases h)⟩
theorem TxsN.toI {w : World} {base n : Nat} {v : Value} {xs : List Tm} (h : TxsN w base n v xs) : ∃ a c, v = .slice a xs.length c ∧ xs.length ≤ c ∧ TxsI w n a xs := by
  obtain ⟨a, c, rfl, hc, hS⟩ := Sl.own txc_length h.own rfl
  exact ⟨a, c, rfl, hc, hS, Or.inl (Ty.own h.own), h.ins⟩
/-- A pool that comes to be filled. -/
noncomputable def fillL (ts : List Tx) : Nat → List En
  | 0 => []
  | i + 1 => match ts[i]? with
    | some t => addE 30 (fillL ts i) ((i / 3 : Nat) : Int) t
    | none => fillL ts i
theorem fillL_inv (ts : List Tx) : ∀ i, PInv 30 (fillL ts i)
  | 0 => inv_nil (by decide)
  | i + 1 => by
    unfold fillL
    split
    · exact addE_inv (fillL_inv ts i)
    · exact fillL_inv ts i
noncomputable def fill (ts : List Tx) : List En := fillL ts ts.length
theorem bPz (room : Int) (w : World) : (Instr.build 26 #[(0, .int .i64 room)]).run Try.prog w = .ok (.agg #[.int .i64 room, .slice none 0 0]) w := by kernel_rfl
attribute [local irreducible] CG NG SG Vals Der Row Blk MapIs IterAt DerX DerR wrongT nameT
set_option maxHeartbeats 16000000 in
theorem cuts_spec {w : World} {n : Nat} {a : Option Addr} {c : Nat} {xs : List Tm} (hX : TxsR w n a xs) {most : Nat} (hm : most ≤ 1000) (hn : n ≤ w.heap.size) :
    Calls Try.prog 10 #[.slice a xs.length c, .int .i64 (most : Int)] w (fun e w' => ∃ v', e = .returned v' ∧ Kp [] w w' ∧ TxsN w' w.heap.size n v' ((xs.take most).map cutM)) := by
  refine enter2 Try.func10 rfl Try.ntmps10 rfl ?_
  repeat (first|apply cA|apply cB|apply cD|apply cE|apply cG|refine cV rfl rfl rfl rfl (by first|(apply qas<;>(exact rfl))|fail) ?_)
  refine CG.loop (X := Nat × Value) (fun x => [(0, .slice a xs.length c), (1, .int .i64 (most : Int)), (5, x.2), (6, .int .i64 (x.1 : Int))])
    (fun x w' => x.1 ≤ xs.length ∧ x.1 ≤ most ∧ Kp [] w w' ∧ TxsN w' w.heap.size n x.2 ((xs.take x.1).map cutM)) (fun x => xs.length - x.1) (0, .slice none 0 0) ⟨Nat.zero_le _, Nat.zero_le _, Kp.refl _ _, TxsN.nil⟩ (by (repeat' (first | exact True.intro | exact rfl | refine And.intro ?_ ?_))) ?_
  rintro ⟨i, vr⟩ w1 ⟨hi, him, hk1, hN⟩
  simp only at hi him hN
  refine CG.to [(0, .slice a xs.length c), (1, .int .i64 (most : Int)), (5, vr), (6, .int .i64 (i : Int))] (by (repeat' (first | exact True.intro | exact rfl | refine And.intro ?_ ?_))) ?_
  by_cases h1 : i < xs.length
  rotate_left
  · have g1 : ¬ (i : Int) < (xs.length : Int) := by omega
    have e : xs.take most = xs.take i := by rw [List.take_of_length_le (by omega), List.take_of_length_le (by omega)]
    rw [e]
    repeat (first | first|apply cA|apply cB|apply cD|apply cE|refine cV rfl rfl rfl rfl (by first|((first|apply qmv|apply qpk|apply qls|apply qln)<;>(first|exact rfl|exact dcf (by first|assumption|omega)|fail))|fail) ?_ | refine cX rfl rfl ?_)
    refine dA rfl (by exact rho_of rfl) rfl ?_
    repeat (first|apply cA|apply cB|apply cD|apply cE|apply cH|apply cJ|apply cM|refine cQ rfl ?_|refine cV rfl rfl rfl rfl (by first|((first|apply qmv|apply qas)<;>(exact rfl))|fail) ?_)
    refine ret1 (Or.inl rfl) Try.results10 (by first | exact ResV.tmp rfl | exact ResV.agg rfl rfl (by assumption) (by first | exact dc_length _ | exact nc_length _ | exact rc_length _ _ _ | exact ec_length _ | exact dl_length _ _ _ _ | rfl) | exact ResV.cell rfl rfl (by assumption)) ?_
    exact ⟨vr, rfl, hk1, hN⟩
  have g1 : (i : Int) < (xs.length : Int) := by omega
  by_cases h2 : i < most
  rotate_left
  · have g2 : ¬ (i : Int) < (most : Int) := by omega
    have e : i = most := by omega
    subst e
    repeat (first|apply cA|apply cB|apply cD|apply cE|refine cV rfl rfl rfl rfl (by first|((first|apply qmv|apply qpk|apply qls|apply qln)<;>(first|exact rfl|exact dct (by first|assumption|omega)|exact dcf (by first|assumption|omega)|fail))|fail) ?_)
    refine dA rfl (by exact rho_of rfl) rfl ?_
    repeat (first|apply cA|apply cB|apply cD|apply cE|apply cH|apply cJ|apply cM|refine cQ rfl ?_|refine cV rfl rfl rfl rfl (by first|((first|apply qmv|apply qas)<;>(exact rfl))|fail) ?_)
    refine ret1 (Or.inl rfl) Try.results10 (by first | exact ResV.tmp rfl | exact ResV.agg rfl rfl (by assumption) (by first | exact dc_length _ | exact nc_length _ | exact rc_length _ _ _ | exact ec_length _ | exact dl_length _ _ _ _ | rfl) | exact ResV.cell rfl rfl (by assumption)) ?_
    exact ⟨vr, rfl, hk1, hN⟩
  have g2 : (i : Int) < (most : Int) := by omega
  have hX1 := hX.kp0 hk1
  obtain ⟨b1, o1, rfl, hri⟩ := hX1.sl.at h1
  have hrd := hX1.rd _ (List.getElem_mem h1)
  have hlen : ((xs.take i).map cutM).length = i := by rw [List.length_map, List.length_take]; omega
  have hsu : (xs.take (i + 1)).map cutM = (xs.take i).map cutM ++ [cutM xs[i]] := by
    rw [List.take_succ_eq_append_getElem h1, List.map_append]
    rfl
  have s1 := hk1.size
  repeat (first|apply cA|apply cB|apply cD|apply cE|refine cV rfl rfl rfl rfl (by first|((first|apply qmv|apply qpk|apply qls|apply qln)<;>(first|exact rfl|exact dct (by first|assumption|omega)|fail))|fail) ?_)
  refine cZ rfl (by exact rho_of rfl) rfl ?_
  repeat (first|apply cA|apply cB|apply cE|apply cF|apply cG|refine cV rfl rfl rfl rfl (by first|((first|apply qmv|apply qla|apply qix)<;>(first|exact rfl|exact Ar.mk (by omega)|assumption|exact List.not_mem_nil|apply txc_length|fail))|fail) ?_)
  refine SG.ret rfl rfl rfl (vs := [txv xs[i]]) (by repeat' (first | exact True.intro | exact rho_of rfl | refine And.intro ?_ ?_)) (cut_spec hrd) (fun w2 hk2 => ?_)
  refine SG.buildSlice rfl rfl rfl rfl (bstx (cutM xs[i])) (fun b6 w3 hk3 hb6 hB6 => ?_)
  have hS6 : Sl txc 13 w3 (some ⟨b6, 0, none⟩) [cutM xs[i]] := sl_one txc_length hB6
  have k13 := hk2.trans hk3
  clear hri
  skip
  refine SG.appO (enc := txc) (xs := (xs.take i).map cutM) (ys := [cutM xs[i]]) (base := w.heap.size) rfl rfl rfl (by exact rho_of rfl) (by exact rho_of rfl) rfl rfl rfl rfl txc_length txc_one (own_kp0 hN.own k13) hS6 (by rw [hlen]; simp only [maxLen, List.length_cons, List.length_nil]; omega) (by rw [hlen]; simp only [List.length_cons, List.length_nil]; show (_ + _) * 80 ≤ _; omega) (by have := k13.size; omega) (fun v' w4 hk4 ho4 hv4 => ?_)
  have hO : Oth n w3 (ownB vr) := Oth.own (own_kp0 hN.own k13) hn (by decide)
  repeat (first|apply cB|apply cD|apply cE|apply cU|refine cV rfl rfl rfl rfl (by first|((first|apply qmv|apply qas|apply qad)<;>(first|exact rfl|exact Ar.mk (by omega)|fail))|fail) ?_)
  refine NG.round (i + 1, v') (by (repeat' (first | exact True.intro | exact rfl | refine And.intro ?_ ?_))) ⟨by simp only; omega, by simp only; omega, (hk1.trans k13).trans_new hk4 (fun z hz => Or.inr (own_geB hN.own z (ownB_mem hz))), ?_⟩ (by simp only; omega)
  simp only
  rw [hsu]
  refine ⟨ho4, fun y hy => ?_⟩
  rcases List.mem_append.1 hy with hy | hy
  · exact ((hN.ins y hy).kp0 k13).kpO hk4 hO
  · rw [List.mem_singleton] at hy
    subst hy
    exact ((cutM_in hrd).kp0 k13).kpO hk4 hO
set_option maxHeartbeats 32000000 in
theorem filled_spec {w : World} {n : Nat} {a : Option Addr} {c : Nat} {xs : List Tm} (hX : TxsI w n a xs) (hl : xs.length ≤ 1000) (hn : n ≤ w.heap.size) :
    Calls Try.prog 9 #[.slice a xs.length c] w (fun e w' => ∃ p v ms a' c' ws, e = .returned (.tuple #[.pointer (some ⟨p, 0, none⟩), .agg (pdc 30 a' ws.length c').toArray]) ∧ Kp [] w w' ∧ Pl w' n p v 30 ms ∧ w.heap.size ≤ p ∧ (∀ b, v.ownBlock = some b → w.heap.size ≤ b) ∧ PD w' n a' c' ws ∧ ms.map Em.en = fill (xs.map (·.t)) ∧ ws.map Wm.en = fill (xs.map (·.t))) := by
  refine enter1 Try.func9 rfl Try.ntmps9 rfl ?_
  repeat (first|apply cA|apply cB|refine cV rfl rfl rfl rfl (by first|(apply qas<;>(exact rfl))|fail) ?_)
  refine SG.alloc rfl rfl rfl (fun b3 w1 hk1 hb3 hB3 => ?_)
  have hB3 : Blk w1 b3 (.cells (pdc 0 none 0 0).toArray 26) := hB3
  have l3 := hB3.lt
  repeat (first|apply cA|apply cB|apply cD|apply cE)
  refine SG.call rfl rfl rfl (vs := [.int .i64 30]) (by repeat' (first | exact True.intro | exact rho_of rfl | refine And.intro ?_ ?_)) ((new_spec (w := w1) (room := 30) (by omega) (by omega)).mono (fun e w2 hh => ?_))
  obtain ⟨p, he, hp, hk2, hP⟩ := hh
  refine ⟨_, he, ?_⟩
  clear he
  have s1 := hk1.size
  have hP := hP n (by omega)
  have lp := hP.blk.lt
  repeat (first|apply cA|apply cB|apply cD|apply cE|refine cV rfl rfl rfl rfl (by first|((first|apply qmv|apply qas|apply qxt)<;>(exact rfl))|fail) ?_)
  refine cV rfl rfl rfl rfl (vals_build rfl (bPz 30)) ?_
  refine SG.alloc rfl rfl rfl (fun b6 w3 hk3 hb6 hB6 => ?_)
  have hB6 : Blk w3 b6 (.cells (pdc 0 none 0 0).toArray 26) := hB6
  have l6 := hB6.lt
  refine SG.setAll (l := pdc 30 none 0 0) rfl rfl (by exact rho_of rfl) (by exact rho_of rfl) hB6 rfl rfl rfl (fun w4 hk4 hB6 => ?_)
  have hB6 : Blk w4 b6 (.cells (pdc 30 none 0 0).toArray 26) := hB6
  have k24 : Kp [] w2 w4 := hk3.trans_new hk4 (new1 (by omega))
  have s2 := hk2.size
  have hB3 := (hB3.kp0 hk2).kp0 k24
  have hP4 := hP.kp0 k24
  have k4 := (hk1.trans hk2).trans k24
  have s24 := k24.size
  repeat (first|apply cA|apply cB|apply cD|apply cE|apply cG|refine cV rfl rfl rfl rfl (by first|(apply qas<;>(exact rfl))|fail) ?_)
  refine CG.loop (X := Nat × (Value × List Em) × (Option Addr × Nat × List Wm)) (fun x => [(0, .slice a xs.length c), (3, .pointer (some ⟨b3, 0, none⟩)), (4, .pointer (some ⟨p, 0, none⟩)), (6, .pointer (some ⟨b6, 0, none⟩)), (7, .int .i64 (x.1 : Int))])
    (fun x w' => x.1 ≤ xs.length ∧ Kp [] w w' ∧ Pl w' n p x.2.1.1 30 x.2.1.2 ∧ (∀ b, x.2.1.1.ownBlock = some b → w.heap.size ≤ b) ∧ PD w' n x.2.2.1 x.2.2.2.1 x.2.2.2.2 ∧ x.2.1.2.map Em.en = fillL (xs.map (·.t)) x.1 ∧ x.2.2.2.2.map Wm.en = fillL (xs.map (·.t)) x.1 ∧ Blk w' b3 (.cells (pdc 0 none 0 0).toArray 26) ∧ Blk w' b6 (.cells (pdc 30 x.2.2.1 x.2.2.2.2.length x.2.2.2.1).toArray 26))
    (fun x => xs.length - x.1) (0, (.slice none 0 0, []), (none, 0, [])) ⟨Nat.zero_le _, k4, hP4, fun b hb => (by cases hb), PD.nil, rfl, rfl, hB3, hB6⟩ (by (repeat' (first | exact True.intro | exact rfl | refine And.intro ?_ ?_))) ?_
  clear hB3 hB6 hP4 hP k24 k4 hk4 hk3
  rintro ⟨i, ⟨v, ms⟩, ⟨a', c', ws⟩⟩ w5 ⟨hi, hk5, hP5, hv5, hD5, hms, hws, hB3, hB6⟩
  simp only at hi hP5 hv5 hD5 hms hws hB6
  refine CG.to [(0, .slice a xs.length c), (3, .pointer (some ⟨b3, 0, none⟩)), (4, .pointer (some ⟨p, 0, none⟩)), (6, .pointer (some ⟨b6, 0, none⟩)), (7, .int .i64 (i : Int))] (by (repeat' (first | exact True.intro | exact rfl | refine And.intro ?_ ?_))) ?_
  have s5 := hk5.size
  by_cases hlt : i < xs.length
  rotate_left
  · have g1 : ¬ (i : Int) < (xs.length : Int) := by omega
    have ei : i = xs.length := by omega
    subst ei
    have hmf : ms.map Em.en = fill (xs.map (·.t)) := by unfold fill; rw [List.length_map]; exact hms
    have hwf : ws.map Wm.en = fill (xs.map (·.t)) := by unfold fill; rw [List.length_map]; exact hws
    obtain ⟨p0, -, -⟩ := pdc_rows hB6
    repeat (first|apply cA|apply cB|apply cD|apply cE|refine cV rfl rfl rfl rfl (by first|((first|apply qmv|apply qls|apply qln)<;>(first|exact rfl|exact dcf (by first|assumption|omega)|fail))|fail) ?_)
    refine dA rfl (by exact rho_of rfl) rfl ?_
    repeat (first|apply cA|apply cE|apply cJ|apply cM|refine cQ rfl ?_)
    refine CG.tail mixed 3 [0, 1, 2] (by kernel_rfl) ?_
    repeat (refine cY rfl rfl rfl (by first|((first|apply qmv|apply qas|apply qla)<;>(first|exact rfl|assumption|exact List.not_mem_nil))|fail) ?_)
    refine Der.tl (fun w6 hk6 _ _ => ?_)
    refine SG.setAll (l := pdc 30 a' ws.length c') rfl rfl (by exact rho_of rfl) (by exact rho_of rfl) (hB3.kp0 hk6) rfl rfl rfl (fun w7 hk7 hB37 => ?_)
    have hr : Row w7 b3 0 (pdc 30 a' ws.length c') := Row.all hB37 rfl
    have hB36 := hB3.kp0 hk6
    have hP6 := hP5.kp0 hk6
    repeat (first|apply cD|apply cE|apply cH)
    refine ret2 (Or.inl rfl) Try.results9 (by first | exact ResV.tmp rfl | exact ResV.agg rfl rfl (by assumption) (by first | exact dc_length _ | exact nc_length _ | exact rc_length _ _ _ | exact ec_length _ | exact dl_length _ _ _ _ | rfl) | exact ResV.cell rfl rfl (by assumption)) (ResV.agg rfl rfl hr (pdc_length _ _ _ _)) ?_
    have hO3 : Oth n w6 [b3] := Oth.cons (by omega) (Oth.cells hB36 (by decide)) Oth.nil
    refine ⟨p, v, ms, a', c', ws, rfl, (hk5.trans hk6).trans_new hk7 (new1 (by omega)), hP6.kp hk7 (nm1 (by omega)) (own_neb hP6.own (by decide) hB36) hO3, by omega, hv5, (hD5.kp0 hk6).kpb hk7 hB36 (by decide) (by decide) (by omega), hmf, hwf⟩
  have g1 : (i : Int) < (xs.length : Int) := by omega
  have hX5 := hX.kp0 hk5
  obtain ⟨b1, o1, rfl, hri⟩ := hX5.sl.at hlt
  have hxi := hX5.ins _ (List.getElem_mem hlt)
  have e3 : (i : Int) / 3 = ((i / 3 : Nat) : Int) := by omega
  have hI5 : PInv 30 (ms.map Em.en) := by rw [hms]; exact fillL_inv _ _
  have hfs : fillL (xs.map (·.t)) (i + 1) = addE 30 (fillL (xs.map (·.t)) i) ((i / 3 : Nat) : Int) xs[i].t := by
    have e : (xs.map (fun x : Tm => x.t))[i]? = some xs[i].t := by rw [List.getElem?_map, List.getElem?_eq_getElem hlt]; rfl
    rw [fillL, e]
  repeat (first|apply cA|apply cB|apply cD|apply cE|refine cV rfl rfl rfl rfl (by first|((first|apply qmv|apply qls|apply qln)<;>(first|exact rfl|exact dct (by first|assumption|omega)|fail))|fail) ?_)
  refine cZ rfl (by exact rho_of rfl) rfl ?_
  repeat (first|apply cA|apply cB|apply cE|apply cF|apply cG|refine cV rfl rfl rfl rfl (by first|((first|apply qqi|apply qmv|apply qla|apply qix)<;>(first|exact rfl|exact Ar.mk (by omega)|assumption|exact List.not_mem_nil|apply txc_length|fail))|fail) ?_)
  rw [e3]
  refine SG.call rfl rfl rfl (vs := [.pointer (some ⟨p, 0, none⟩), .int .i64 ((i / 3 : Nat) : Int), txv xs[i]]) (by repeat' (first | exact True.intro | exact rho_of rfl | refine And.intro ?_ ?_)) ((add_spec (h := ((i / 3 : Nat) : Int)) hP5 hxi hI5 (by omega)).mono (fun e w6 hh => ?_))
  obtain ⟨he, v6, ms6, hP6, hm6, hk6, hv6⟩ := hh
  refine ⟨_, he, ?_⟩
  clear he
  have hnb : ∀ b, b ∉ p :: ownB v ∨ True := fun _ => Or.inr trivial
  have lb3 : b3 ∉ p :: ownB v := fun hm => by
    rcases List.mem_cons.1 hm with e | hm
    · omega
    · exact own_neb hP5.own (by decide) hB3 b3 (ownB_mem hm) List.mem_cons_self
  have lb6 : b6 ∉ p :: ownB v := fun hm => by
    rcases List.mem_cons.1 hm with e | hm
    · omega
    · exact own_neb hP5.own (by decide) hB6 b6 (ownB_mem hm) List.mem_cons_self
  have hX6 := hX5.kpP hP5 hk6
  have hD6 := hD5.kp hk6 hP5.oth (hP5.noT (by decide) (by decide))
  have hB36 := hB3.kp hk6 lb3
  have hB66 := hB6.kp hk6 lb6
  have k6 : Kp [] w w6 := hk5.trans_new hk6 (fun z hz => by
    rcases List.mem_cons.1 hz with rfl | hz
    · exact Or.inr (by omega)
    · exact Or.inr (hv5 z (ownB_mem hz)))
  have s6 := k6.size
  clear hri
  have hri : Row w6 b1 (o1 + i * 13) (txc xs[i]) := hX6.sl.row (List.getElem?_eq_getElem hlt)
  have hx6 := hX6.ins _ (List.getElem_mem hlt)
  have lt1 := hri.lt
  have l66 := hB66.lt
  have hne1 : b1 ≠ b6 := by
    have h0 : b1 < w.heap.size := (hX.sl.row (List.getElem?_eq_getElem hlt)).lt
    omega
  have nb1 : b1 ∉ [b6] := nm1 hne1
  have hwl : (ws.length : Int) ≤ 30 := by
    have h := hI5.len
    rw [hms, ← hws, List.length_map] at h
    exact h
  repeat (first|apply cD|apply cE)
  refine CG.draw mixed [1, 2, 3, 4, 5, 6, 0, 7, 8, 9, 10, 11, 12] [8, 12, 1000] [] [b6] (fun W => Blk W b6 (.cells (pdc 30 a' ws.length c').toArray 26)) (by kernel_rfl) (by simpa using l66) (by simp) hB66 (fun _ _ hk h => h.kp0 hk) (Or.inl rfl) ?_
  repeat (refine cY rfl rfl rfl (by first|((first|apply qqi|apply qmv|apply qla|apply qix)<;>(first|exact rfl|exact Ar.mk (by omega)|assumption|apply txc_length|fail))|fail) ?_)
  rw [e3]
  skip
  refine Der.loadR (l := pdc 30 a' ws.length c') rfl rfl rfl rfl (by exact rho_of rfl) rfl (fun W h => Row.all h rfl) rfl ?_
  refine Der.call rfl rfl rfl (vs := [txv xs[i]]) (by repeat' (first | exact True.intro | exact rho_of rfl | refine And.intro ?_ ?_)) (fun W hk _ => tof_spec xs[i]) ?_
  refine Der.callGR (X := Option Addr × Nat × { ws' : List Wm // ws'.map Wm.en = addE 30 (ws.map Wm.en) ((i / 3 : Nat) : Int) xs[i].t }) (vs := [.agg (pdc 30 a' ws.length c').toArray, .int .i64 ((i / 3 : Nat) : Int), txv xs[i]]) (fun q => .tuple #[.agg (pdc 30 q.1 q.2.2.1.length q.2.1).toArray, .int .i64 (addZ 30 (ws.map Wm.en) ((i / 3 : Nat) : Int) xs[i].t)]) (fun q W => ∀ W', Kp [b6] W W' → PD W' n q.1 q.2.1 q.2.2.1) (fun q W => Blk W b6 (.cells (pdc 30 a' ws.length c').toArray 26)) rfl rfl rfl rfl (by repeat' (first | exact True.intro | exact rho_of rfl | refine And.intro ?_ ?_)) (fun q W W' hk h W'' hk'' => h W'' (hk.trans hk'')) (fun q W W' hk h => h.kp0 hk) (fun _ _ _ h => h) (fun W hk _ hR => ?_) (fun q => ?_)
  · have hO6 : Oth n w6 [b6] := Oth.cons (by omega) (Oth.cells hB66 (by decide)) Oth.nil
    refine (radd_spec (hD6.kpb hk hB66 (by decide) (by decide) (by omega)) (hx6.kpO hk hO6) hwl (by omega) (by have := hk.size; omega)).mono (fun e W' hh => ?_)
    obtain ⟨a2, c2, ws2, he, hk2, hD2, hw2⟩ := hh
    refine ⟨(a2, c2, ⟨ws2, hw2⟩), he, fun W'' hk'' => hD2.kpb hk'' (hR.kp0 hk2) (by decide) (by decide) (by omega), hR.kp0 hk2, hk2.any⟩
  obtain ⟨a2, c2, ⟨ws2, hw2⟩⟩ := q
  repeat (refine cY rfl rfl rfl (by first|((first|apply qmv|apply qxt)<;>(exact rfl))|fail) ?_)
  refine Der.storeAll (old := pdc 30 a' ws.length c') (v := .agg (pdc 30 a2 ws2.length c2).toArray) (b := b6) rfl rfl rfl rfl (by exact rho_of rfl) (by exact rho_of rfl) rfl rfl rfl (by simp) (fun W W' hk h => ⟨trivial, fun W'' hk'' => h.2 W'' (hk.trans hk'')⟩) ?_
  refine Der.fin (fun w7 hk7 hF hR => ?_)
  have hB67 : Blk w7 b6 (.cells (pdc 30 a2 ws2.length c2).toArray 26) := hR
  have hD7 : PD w7 n a2 c2 ws2 := hF.1.2 w7 (Kp.refl _ _)
  have hO6 : Oth n w6 [b6] := Oth.cons (by omega) (Oth.cells hB66 (by decide)) Oth.nil
  have s7 := hk7.size
  repeat (first|apply cB|apply cD|apply cE|apply cU|refine cV rfl rfl rfl rfl (by first|((first|apply qmv|apply qas|apply qad)<;>(first|exact rfl|exact Ar.mk (by omega)|fail))|fail) ?_)
  refine NG.round (i + 1, (v6, ms6), (a2, c2, ws2)) (by (repeat' (first | exact True.intro | exact rfl | refine And.intro ?_ ?_))) ⟨by simp only; omega, k6.trans_new hk7 (new1 (by omega)), hP6.kp hk7 (nm1 (by omega)) (own_neb hP6.own (by decide) hB66) hO6, fun b hb => ?_, hD7, ?_, ?_, hB36.kp hk7 (nm1 (by omega)), hB67⟩ (by simp only; omega)
  · rcases hv6 b hb with h | h
    · exact hv5 b h
    · omega
  · simp only
    rw [hm6, hfs, hms]
  · simp only
    rw [hw2, hfs, hws]
end Go.Proofs.Ytgbgnlboogalgaa
namespace Go.Proofs.Ytgbgnlboogalgaa
open Go.ChangeShapes Go.WideShapes Go.ChangeAt Go.RowKit
set_option linter.unusedVariables false
theorem own : ownKnob Try.prog.godebug = none := by kernel_rfl
theorem laidOut : laidOutB Try.prog = true := by kernel_rfl
theorem cells5 : Try.prog.cellsOf 5 = 1 := by kernel_rfl
theorem cells3 : Try.prog.cellsOf 3 = 1 := by kernel_rfl
theorem cellsD : Try.prog.cellsOf 32 = 8 := by kernel_rfl
theorem cellsB : Try.prog.cellsOf 33 = 1 := by kernel_rfl
theorem cellsT : Try.prog.cellsOf 35 = 13 := by kernel_rfl
theorem fit_of {n : Int} (h : (Lit.int .i64 n).wf = true) : fit64 n := i64_of h
/-- The elements of a slice, by how one is read. -/
theorem elems_of {H α : Type} {en : TypeId × Value → H} {P : Program} {w : World} {e : TypeId} {a : Option Addr} {n : Nat} (enc : α → List Value) (p : α → Prop) (h : SlOf en P w e a n)
    (rd : ∀ cs fuel y, DataW.trod en P w 0 (fun _ => true) true fuel e cs = some y → ∃ x : α, cs = enc x ∧ p x) : ∃ l : List α, l.length = n ∧ Sl enc (P.cellsOf e) w a l ∧ ∀ x ∈ l, p x := by
  have key : ∀ i : _root_.Fin n, ∃ x : α, (∃ b off, a = some ⟨b, off, none⟩ ∧ Row w b (off + i.1 * P.cellsOf e) (enc x)) ∧ p x := by
    intro i
    obtain ⟨b, off, cs, fuel, y, h1, h2, h3, h4⟩ := h.row i.1 i.2
    obtain ⟨x, rfl, hp⟩ := rd cs fuel y h4
    exact ⟨x, ⟨b, off, h1, h2⟩, hp⟩
  refine ⟨List.ofFn (fun i => Classical.choose (key i)), by simp, fun i x hx => ?_, fun x hx => ?_⟩
  · rw [List.getElem?_ofFn] at hx
    split at hx
    · rename_i hi
      cases hx
      exact (Classical.choose_spec (key ⟨i, hi⟩)).1
    · cases hx
  · obtain ⟨i, rfl⟩ := List.mem_ofFn.1 hx
    exact (Classical.choose_spec (key i)).2
theorem cut_drop {α : Type} (l : List α) (a n : Nat) : l.drop a = (l.drop a).take n ++ l.drop (a + n) := by
  rw [← List.drop_drop, List.take_append_drop]
theorem sl_cell {H : Type} {enc : TypeId × Value → H} {P : Program} {w : World} {t e : TypeId} {cs : List Value} {fuel : Nat} {y : DataW H × List MemPlace} (ht : P.underlying t = some (.slice e)) (he : 0 < P.cellsOf e)
    (hf : DataW.trod enc P w 0 (fun _ => true) true fuel t cs = some y) : ∃ a n c, cs = [.slice a n c] ∧ n ≤ c ∧ c ≤ maxLen ∧ SlOf enc P w e a n ∧ (n = 0 ∧ a = none ∨ (∃ b off, a = some ⟨b, off, none⟩) ∨ (n = 0 ∧ c = 0)) := by
  rcases Go.Deep.open_slice ht hf with ⟨hc, _⟩ | ⟨a, len, cap, m, n, D, Pl, hc, _, hl, hm, hmm, _, hall⟩
  · exact ⟨none, 0, 0, hc, by omega, by omega, ⟨fun i hi => by omega⟩, Or.inl ⟨rfl, rfl⟩⟩
  · subst hc
    have hmc : m = cap := by rw [hmm]; simp
    by_cases h0 : cap = 0
    · exact ⟨some a, len, cap, rfl, hl, hm, ⟨fun i hi => by omega⟩, Or.inr (Or.inr ⟨by omega, h0⟩)⟩
    obtain ⟨cs0, h10, _⟩ := hall 0 (by omega)
    obtain ⟨b, off, ha, _, _⟩ := row_of_cells h10 he
    have ha' : a = ⟨b, off, none⟩ := by simpa [Addr.add] using ha
    subst ha'
    refine ⟨some ⟨b, off, none⟩, len, cap, rfl, hl, hm, ⟨fun i hi => ?_⟩, Or.inr (Or.inl ⟨b, off, rfl⟩)⟩
    obtain ⟨cs, h1, h2⟩ := hall i (by omega)
    rw [add_none] at h1
    obtain ⟨b2, off2, hb2, hr, hlen⟩ := row_of_cells h1 he
    cases hb2
    exact ⟨b, off, cs, n, _, rfl, hr, hlen, h2⟩
theorem bytes_of {H : Type} {enc : TypeId × Value → H} {w : World} {a : Option Addr} {n : Nat} (h : SlOf enc Try.prog w 5 a n) : ∃ l : List UInt8, l.length = n ∧ Sl by1 1 w a l := by
  obtain ⟨l, h1, h2, _⟩ := elems_of (fun u : UInt8 => [bv u]) (fun _ => True) h (fun cs fuel y hy => by
    obtain ⟨u, hu⟩ := one_byte Try.underlying5 hy
    exact ⟨u, hu, trivial⟩)
  rw [cells5] at h2
  exact ⟨l, h1, h2⟩
theorem bs_of {H : Type} {enc : TypeId × Value → H} {w : World} {cs : List Value} {fuel : Nat} {y : DataW H × List MemPlace} (hf : DataW.trod enc Try.prog w 0 (fun _ => true) true fuel 33 cs = some y) : ∃ a c l, cs = [.slice a l.length c] ∧ Bs w a c l ∧ Tb w.heap.size w a l := by
  obtain ⟨a, n, c, e, hn, hc, hs, hsp⟩ := sl_cell Try.underlying33 (by rw [cells5]; omega) hf
  obtain ⟨l, hl, hS⟩ := bytes_of hs
  subst hl
  have hlt : l ≠ [] → ∀ b off, a = some ⟨b, off, none⟩ → b < w.heap.size := fun hne b off e => hS.ltN hne b off e
  refine ⟨a, c, l, e, ⟨hS, hn, ?_, hlt⟩, ?_⟩
  · rcases hsp with ⟨h1, h2⟩ | h | ⟨h1, h2⟩
    · exact Or.inl ⟨List.eq_nil_of_length_eq_zero h1, h2⟩
    · exact Or.inr (Or.inl h)
    · exact Or.inr (Or.inr ⟨List.eq_nil_of_length_eq_zero h1, h2⟩)
  · by_cases h : l = []
    · exact Or.inl (fun hne => absurd h hne)
    · exact Or.inr (hlt h)
set_option maxRecDepth 100000 in
theorem tx_of {H : Type} {enc : TypeId × Value → H} {w : World} {cs : List Value} {fuel : Nat} {y : DataW H × List MemPlace} (h : DataW.trod enc Try.prog w 0 (fun _ => true) true fuel 35 cs = some y) : ∃ x : Tm, cs = txc x ∧ x.Rd w.heap.size w ∧ fit64 x.t.non ∧ fit64 x.t.fee ∧ fit64 x.t.kind := by
  obtain ⟨xs, m, _, _, hl, hlen, hf⟩ := DataW.trod_struct Try.underlying35 h
  rw [cellsT] at hl
  match xs, hlen with
  | [y0, y1, y2, y3, y4, y5], _ =>
    have h0 : DataW.trod enc Try.prog w 0 (fun _ => true) true m 32 ((cs.drop 0).take (Try.prog.cellsOf 32)) = some y0 := hf 0 _ rfl
    have h1 : DataW.trod enc Try.prog w 0 (fun _ => true) true m 3 ((cs.drop 8).take (Try.prog.cellsOf 3)) = some y1 := hf 1 _ rfl
    have h2 : DataW.trod enc Try.prog w 0 (fun _ => true) true m 3 ((cs.drop 9).take (Try.prog.cellsOf 3)) = some y2 := hf 2 _ rfl
    have h3 : DataW.trod enc Try.prog w 0 (fun _ => true) true m 3 ((cs.drop 10).take (Try.prog.cellsOf 3)) = some y3 := hf 3 _ rfl
    have h4 : DataW.trod enc Try.prog w 0 (fun _ => true) true m 33 ((cs.drop 11).take (Try.prog.cellsOf 33)) = some y4 := hf 4 _ rfl
    have h5 : DataW.trod enc Try.prog w 0 (fun _ => true) true m 33 ((cs.drop 12).take (Try.prog.cellsOf 33)) = some y5 := hf 5 _ rfl
    rw [cellsD] at h0
    rw [cells3] at h1 h2 h3
    rw [cellsB] at h4 h5
    obtain ⟨d0, e0⟩ := arr_bytes Try.underlying32 Try.underlying5 cells5 cellsD h0
    obtain ⟨n1, e1, _, f1⟩ := DataW.trod_int Try.underlying3 h1
    obtain ⟨n2, e2, _, f2⟩ := DataW.trod_int Try.underlying3 h2
    obtain ⟨n3, e3, _, f3⟩ := DataW.trod_int Try.underlying3 h3
    obtain ⟨a4, c4, l4, e4, hB4, hT4⟩ := bs_of h4
    obtain ⟨a5, c5, l5, e5, hB5, hT5⟩ := bs_of h5
    refine ⟨⟨⟨d0, n1, n2, n3, l4, l5⟩, a4, c4, a5, c5⟩, ?_, ⟨hB4, hB5, hT4, hT5⟩, fit_of f1, fit_of f2, fit_of f3⟩
    have hd : cs.drop (12 + 1) = [] := List.drop_of_length_le (by omega)
    have e : cs = cs.drop 0 := rfl
    rw [e, cut_drop cs 0 8, e0, cut_drop cs (0 + 8) 1, e1, cut_drop cs (0 + 8 + 1) 1, e2, cut_drop cs (0 + 8 + 1 + 1) 1, e3, cut_drop cs (0 + 8 + 1 + 1 + 1) 1, e4, cut_drop cs (0 + 8 + 1 + 1 + 1 + 1) 1, e5, hd]
    simp [txc, Tm.b, Tm.s]
theorem txs_of {H : Type} {enc : TypeId × Value → H} {w : World} {a : Option Addr} {n : Nat} (h : SlOf enc Try.prog w 35 a n) : ∃ l : List Tm, l.length = n ∧ TxsR w w.heap.size a l := by
  obtain ⟨l, h1, h2, h3⟩ := elems_of txc (fun x => x.Rd w.heap.size w) h (fun cs fuel y hy => by
    obtain ⟨x, e, hr, -⟩ := tx_of hy
    exact ⟨x, e, hr⟩)
  rw [cellsT] at h2
  exact ⟨l, h1, h2, h3⟩
end Go.Proofs.Ytgbgnlboogalgaa
namespace Go.Proofs.Ytgbgnlboogalgaa
open Go.Proofs
set_option linter.unusedVariables false
open Classical in
noncomputable def backS (room h : Int) (s : List En × Int) (t : Tx) : List En × Int := if (s.1.find? (isK t.frm t.non)).isSome then s else (addE room s.1 h t, if addZ room s.1 h t = 0 then s.2 + 1 else s.2)
noncomputable def backL (room : Int) (l : List En) (h : Int) (ts : List Tx) : List En × Int := ts.foldl (backS room h) (l, 0)
attribute [local irreducible] CG NG SG Vals Der Row Blk MapIs IterAt nameT wrongT
end Go.Proofs.Ytgbgnlboogalgaa
namespace Go.Proofs.Ytgbgnlboogalgaa
open Go.Proofs
set_option linter.unusedVariables false
open Classical in
noncomputable def enEq (a b : En) : Bool := decide (a = b)
open Classical in
noncomputable def ensEq (a b : List En) : Bool := decide (a = b)
attribute [local irreducible] CG NG SG Vals Der Row Blk MapIs IterAt nameT wrongT
end Go.Proofs.Ytgbgnlboogalgaa
namespace Go.Proofs.Ytgbgnlboogalgaa
open Go.Proofs
set_option linter.unusedVariables false
abbrev bcv (b : Bool) : Value := .bool b
/-- Left out: of a key, from a number on. -/
def exB (L : List (Dg × Int)) (e : En) : Bool := L.any (fun p => decide (p.1 = e.key ∧ p.2 ≤ e.non))
def outL (l : List En) (ns : List Dg) : List (Dg × Int) := (l.filter (fun e => decide (nameT e.t ∈ ns))).map pairE
/-- How many are left to be taken, when so many might have been. -/
def leftZ (most : Int) (c : Nat) : Int := if most ≤ c then (if most ≤ 0 then most else 0) else most - c
def cntN (q : Nat → Bool) (pre : List Nat) : Nat := (pre.filter q).length
def takeG (q : Nat → Bool) (most : Int) (pre : List Nat) (j : Nat) : Bool := q j && decide ((cntN q pre : Int) < most)
attribute [local irreducible] CG NG SG Vals Der Row Blk MapIs IterAt nameT wrongT
end Go.Proofs.Ytgbgnlboogalgaa
namespace Go.Proofs.Ytgbgnlboogalgaa
open Go.Proofs
set_option linter.unusedVariables false
def keyD (k : UInt8) : Dg := ⟨[k, 0, 0, 0, 0, 0, 0, 0], rfl⟩
def oneT (k : UInt8) (n f : Int) : Tx := ⟨keyD k, n, f, 2, [], []⟩
def oneM (k : UInt8) (n f : Int) : Tm := ⟨oneT k n f, none, 0, none, 0⟩
theorem oneM_in (k : UInt8) (n f : Int) (m : Nat) (w : World) : (oneM k n f).In m w :=
  ⟨Bs.nil, Bs.nil, Or.inr (fun _ _ e => by cases e), Or.inr (fun _ _ e => by cases e), Nat.zero_le _, Nat.zero_le _⟩
theorem wrong_one {k : UInt8} {n f : Int} (h0 : 0 ≤ n) (h1 : n ≤ 1099511627776) (h2 : 0 ≤ f) (h3 : f ≤ 1125899906842624) : wrongT (oneT k n f) = 0 := by
  unfold wrongT
  rw [if_pos ⟨h0, h1, h2, h3, (by show (0 : Int) ≤ 2; decide), (by show (2 : Int) ≤ 2; decide), Nat.zero_le _, Nat.zero_le _⟩, if_neg (by show ¬ (2 : Int) = 0; decide)]
theorem addE_new {room h : Int} {l : List En} {t : Tx} (h1 : ¬ (h < 0 ∨ 1099511627776 < h)) (h2 : wrongT t = 0) (h3 : l.find? (isK t.frm t.non) = none) (h4 : (l.length : Int) < room) : addZ room l h t = 0 ∧ addE room l h t = l ++ [⟨t, h⟩] := by
  have hz := addZ_ok (room := room) h1 h2 h3 (by omega)
  refine ⟨hz, ?_⟩
  unfold addE
  rw [if_pos hz]
  unfold addL
  rw [erase_none h3]
def e1 : En := ⟨oneT 1 0 1, 3⟩
def e2 : En := ⟨oneT 1 1 9, 3⟩
def e3 : En := ⟨oneT 2 0 5, 3⟩
theorem ord_known : ordE [e1, e2, e3] = [e3, e1, e2] := by
  refine Ord.eq ?_
  have hb : ∀ l, e1 ∈ l → ¬ Frst En.key En.non l e2 := fun l h hf => by
    have := hf e1 h (by decide)
    revert this
    decide
  refine .step [e1, e2] e3 [] _ ⟨fun o ho hk => ?_, fun o ho hf => ?_, fun o ho hf => ?_⟩ (.step [] e1 [e2] _ ⟨fun o ho hk => ?_, fun o ho hf => ?_, fun o ho hf => (by cases ho)⟩ (.step [] e2 [] _ ⟨fun o ho hk => ?_, fun o ho hf => ?_, fun o ho hf => (by cases ho)⟩ .nil))
  · simp only [List.cons_append, List.nil_append, List.mem_cons, List.not_mem_nil, or_false] at ho
    rcases ho with rfl | rfl | rfl
    · exact absurd hk (by decide)
    · exact absurd hk (by decide)
    · exact Int.le_refl _
  · have ho' := ho
    simp only [List.cons_append, List.nil_append, List.mem_cons, List.not_mem_nil, or_false] at ho
    rcases ho with rfl | rfl | rfl
    · decide
    · exact absurd hf (hb _ (by simp))
    · exact Int.le_refl _
  · simp only [List.mem_cons, List.not_mem_nil, or_false] at ho
    rcases ho with rfl | rfl
    · decide
    · exact absurd hf (hb _ (by simp))
  · simp only [List.nil_append, List.mem_cons, List.not_mem_nil, or_false] at ho
    rcases ho with rfl | rfl
    · exact Int.le_refl _
    · decide
  · simp only [List.nil_append, List.mem_cons, List.not_mem_nil, or_false] at ho
    rcases ho with rfl | rfl
    · exact Int.le_refl _
    · exact absurd hf (hb _ (by simp))
  · simp only [List.nil_append, List.mem_cons, List.not_mem_nil, or_false] at ho
    subst ho
    exact Int.le_refl _
  · simp only [List.nil_append, List.mem_cons, List.not_mem_nil, or_false] at ho
    subst ho
    exact Int.le_refl _
theorem map3 {xs : List Tm} {a b c : Tx} (h : xs.map (·.t) = [a, b, c]) : ∃ x y z, xs = [x, y, z] ∧ x.t = a ∧ y.t = b ∧ z.t = c := by
  cases xs with
  | nil => cases h
  | cons x xs =>
    cases xs with
    | nil => cases h
    | cons y xs =>
      cases xs with
      | nil => cases h
      | cons z xs =>
        cases xs with
        | nil =>
          simp only [List.map_cons, List.map_nil, List.cons.injEq, and_true] at h
          exact ⟨x, y, z, rfl, h.1, h.2.1, h.2.2⟩
        | cons u xs => simp at h
theorem must5 : (([e3, e1, e2].filter (upB (dueL [e1, e2, e3] 5 2))).map (·.t)).length = 0 := by rw [List.length_map]; decide
theorem must6 : (([e3, e1, e2].filter (upB (dueL [e1, e2, e3] 6 2))).map (·.t)).length = 3 := by rw [List.length_map]; decide
theorem bkey (k : UInt8) (w : World) : (Instr.build 32 #[(0, bv k)]).run Try.prog w = .ok (dv (keyD k)) w := by kernel_rfl
theorem bone (k : UInt8) (n f : Int) (w : World) : (Instr.build 35 #[(0, dv (keyD k)), (1, .int .i64 n), (2, .int .i64 f), (3, .int .i64 2)]).run Try.prog w = .ok (txv (oneM k n f)) w := by kernel_rfl
theorem bbnd (l : Int) (w : World) : (Instr.build 42 #[(1, .int .i64 l)]).run Try.prog w = .ok (.agg #[.int .i64 0, .int .i64 l, .int .i64 0]) w := by kernel_rfl
attribute [local irreducible] CG NG SG Vals Der Row Blk MapIs IterAt DerX DerR wrongT nameT
set_option maxHeartbeats 16000000 in
theorem one_spec (k : UInt8) (n f : Int) (w : World) : Ret Try.prog 19 #[bv k, .int .i64 n, .int .i64 f] w (txv (oneM k n f)) := by
  refine enter3 Try.func19 rfl Try.ntmps19 rfl ?_
  repeat (first|apply cA|apply cB)
  refine SG.alloc rfl rfl rfl (fun b2 w2 hk2 hb2 hB2 => ?_)
  have hB2 : Blk w2 b2 (.cells (txc ⟨⟨zd, 0, 0, 0, [], []⟩, none, 0, none, 0⟩).toArray 35) := hB2
  repeat (first|apply cA|apply cB|apply cD|apply cE|refine cV rfl rfl rfl rfl (by first|(apply qmv<;>(exact rfl))|fail) ?_)
  refine cV rfl rfl rfl rfl (vals_build rfl (bkey k)) ?_
  repeat (first|refine cV rfl rfl rfl rfl (by first|(apply qmv<;>(exact rfl))|fail) ?_)
  refine cV rfl rfl rfl rfl (vals_build rfl (bone k n f)) ?_
  refine SG.setAll (l := txc (oneM k n f)) rfl rfl (by exact rho_of rfl) (by exact rho_of rfl) hB2 (txc_length _) rfl (txc_one _) (fun w3 hk3 hB2 => ?_)
  have hr : Row w3 b2 0 (txc (oneM k n f)) := Row.all hB2 rfl
  repeat (first|apply cD|apply cE|apply cH)
  refine ret1 (Or.inl rfl) Try.results19 (ResV.agg rfl rfl hr (txc_length _)) ?_
  exact ⟨rfl, hk2.trans_new hk3 (new1 (by omega))⟩
set_option maxHeartbeats 32000000 in
theorem known_spec (w : World) : Ret Try.prog 12 #[] w (.bool true) := by
  refine enter0 Try.func12 rfl Try.ntmps12 ?_
  have h00 : (0 : Int) = 0 := rfl
  have hnn : ∀ (b : Nat), True := fun _ => trivial
  have a1 := addE_new (room := 4) (h := 3) (l := []) (t := oneT 1 0 1) (by decide) (wrong_one (by decide) (by decide) (by decide) (by decide)) rfl (by decide)
  have a2 := addE_new (room := 4) (h := 3) (l := [e1]) (t := oneT 1 1 9) (by decide) (wrong_one (by decide) (by decide) (by decide) (by decide)) rfl (by decide)
  have a3 := addE_new (room := 4) (h := 3) (l := [e1, e2]) (t := oneT 2 0 5) (by decide) (wrong_one (by decide) (by decide) (by decide) (by decide)) rfl (by decide)
  have i0 : PInv 4 [] := inv_nil (by decide)
  have i1 : PInv 4 [e1] := by
    have := addE_inv (h := 3) (t := oneT 1 0 1) i0
    rw [a1.2] at this
    exact this
  have i2 : PInv 4 [e1, e2] := by
    have := addE_inv (h := 3) (t := oneT 1 1 9) i1
    rw [a2.2] at this
    exact this
  have i3 : PInv 4 [e1, e2, e3] := by
    have := addE_inv (h := 3) (t := oneT 2 0 5) i2
    rw [a3.2] at this
    exact this
  repeat (first|apply cA|apply cB|apply cD|apply cE|refine cV rfl rfl rfl rfl (by first|(apply qas<;>(exact rfl))|fail) ?_)
  refine SG.call rfl rfl rfl (vs := [.int .i64 4]) (by repeat' (first | exact True.intro | exact rho_of rfl | refine And.intro ?_ ?_)) ((new_spec (w := w) (room := 4) (by omega) (by omega)).mono (fun e w1 hh => ?_))
  obtain ⟨p, he, hp, hk1, hP⟩ := hh
  refine ⟨_, he, ?_⟩
  clear he
  have hP := hP w.heap.size (Nat.le_refl _)
  repeat (first|apply cA|apply cB|apply cD|apply cE|refine cV rfl rfl rfl rfl (by first|((first|apply qep|apply qmv|apply qas|apply qpk|apply qni|apply qxt|apply qep)<;>(first|exact rfl|exact dct (by first|assumption|omega)|fail))|fail) ?_)
  refine SG.ret rfl rfl rfl (vs := [bv 1, .int .i64 0, .int .i64 1]) (by repeat' (first | exact True.intro | exact rho_of rfl | refine And.intro ?_ ?_)) (one_spec 1 0 1 w1) (fun w2 hk2 => ?_)
  have hP2 := hP.kp0 hk2
  refine SG.call rfl rfl rfl (vs := [.pointer (some ⟨p, 0, none⟩), .int .i64 3, txv (oneM 1 0 1)]) (by repeat' (first | exact True.intro | exact rho_of rfl | refine And.intro ?_ ?_)) ((add_spec (h := 3) hP2 (oneM_in 1 0 1 _ _) i0 (by omega)).mono (fun e w3 hh => ?_))
  obtain ⟨he, v3, ms3, hP3, hm3, hk3, hv3⟩ := hh
  rw [show addZ 4 (List.map Em.en []) 3 (oneM 1 0 1).t = 0 from a1.1] at he
  rw [show addE 4 (List.map Em.en []) 3 (oneM 1 0 1).t = [e1] from a1.2] at hm3
  refine ⟨_, he, ?_⟩
  clear he
  have k3 : Kp [] w w3 := (hk1.trans hk2).trans_new hk3 (fun z hz => by
    rcases List.mem_cons.1 hz with rfl | hz
    · exact Or.inr hp
    · exact absurd (ownB_mem hz) (fun h => by cases h))
  have g3 : ∀ g, v3.ownBlock = some g → w.heap.size ≤ g := fun g hg => own_geB hP3.own g hg
  repeat (first|refine cV rfl rfl rfl rfl (by first|((first|apply qmv|apply qpk|apply qni)<;>(first|exact rfl|exact dct (by first|assumption|omega)|fail))|fail) ?_)
  refine SG.ret rfl rfl rfl (vs := [bv 1, .int .i64 1, .int .i64 9]) (by repeat' (first | exact True.intro | exact rho_of rfl | refine And.intro ?_ ?_)) (one_spec 1 1 9 w3) (fun w4 hk4 => ?_)
  have hP4 := hP3.kp0 hk4
  refine SG.call rfl rfl rfl (vs := [.pointer (some ⟨p, 0, none⟩), .int .i64 3, txv (oneM 1 1 9)]) (by repeat' (first | exact True.intro | exact rho_of rfl | refine And.intro ?_ ?_)) ((add_spec (h := 3) hP4 (oneM_in 1 1 9 _ _) (by rw [hm3]; exact i1) (by omega)).mono (fun e w5 hh => ?_))
  obtain ⟨he, v5, ms5, hP5, hm5, hk5, hv5⟩ := hh
  rw [hm3, show addZ 4 [e1] 3 (oneM 1 1 9).t = 0 from a2.1] at he
  rw [hm3, show addE 4 [e1] 3 (oneM 1 1 9).t = [e1, e2] from a2.2] at hm5
  refine ⟨_, he, ?_⟩
  clear he
  have k5 : Kp [] w w5 := (k3.trans hk4).trans_new hk5 (fun z hz => by
    rcases List.mem_cons.1 hz with rfl | hz
    · exact Or.inr hp
    · exact Or.inr (g3 z (ownB_mem hz)))
  have g5 : ∀ g, v5.ownBlock = some g → w.heap.size ≤ g := fun g hg => own_geB hP5.own g hg
  repeat (first|refine cV rfl rfl rfl rfl (by first|((first|apply qmv|apply qpk|apply qni)<;>(first|exact rfl|exact dct (by first|assumption|omega)|fail))|fail) ?_)
  refine SG.ret rfl rfl rfl (vs := [bv 2, .int .i64 0, .int .i64 5]) (by repeat' (first | exact True.intro | exact rho_of rfl | refine And.intro ?_ ?_)) (one_spec 2 0 5 w5) (fun w6 hk6 => ?_)
  have hP6 := hP5.kp0 hk6
  refine SG.call rfl rfl rfl (vs := [.pointer (some ⟨p, 0, none⟩), .int .i64 3, txv (oneM 2 0 5)]) (by repeat' (first | exact True.intro | exact rho_of rfl | refine And.intro ?_ ?_)) ((add_spec (h := 3) hP6 (oneM_in 2 0 5 _ _) (by rw [hm5]; exact i2) (by omega)).mono (fun e w7 hh => ?_))
  obtain ⟨he, v7, ms7, hP7, hm7, hk7, hv7⟩ := hh
  rw [hm5, show addZ 4 [e1, e2] 3 (oneM 2 0 5).t = 0 from a3.1] at he
  rw [hm5, show addE 4 [e1, e2] 3 (oneM 2 0 5).t = [e1, e2, e3] from a3.2] at hm7
  refine ⟨_, he, ?_⟩
  clear he
  have k7 : Kp [] w w7 := (k5.trans hk6).trans_new hk7 (fun z hz => by
    rcases List.mem_cons.1 hz with rfl | hz
    · exact Or.inr hp
    · exact Or.inr (g5 z (ownB_mem hz)))
  have i7 : PInv 4 (ms7.map Em.en) := by rw [hm7]; exact i3
  repeat (first|apply cD|apply cE|refine cV rfl rfl rfl rfl (by first|((first|apply qpk|apply qni)<;>(first|exact rfl|exact dct (by first|assumption|omega)|fail))|fail) ?_)
  refine dA rfl (by exact rho_of rfl) rfl ?_
  repeat (first|apply cA|apply cB|apply cE|apply cF|refine cV rfl rfl rfl rfl (by first|(apply qmv<;>(exact rfl))|fail) ?_)
  refine SG.call rfl rfl rfl (vs := [.pointer (some ⟨p, 0, none⟩)]) (by repeat' (first | exact True.intro | exact rho_of rfl | refine And.intro ?_ ?_)) ((all_spec hP7 i7 (by omega)).mono (fun e w8 hh => ?_))
  obtain ⟨v8, xs, he, hk8, hX, hxs⟩ := hh
  refine ⟨_, he, ?_⟩
  clear he
  rw [hm7, ord_known] at hxs
  obtain ⟨x1, x2, x3, rfl, t1, t2, t3⟩ := map3 hxs
  have t1 : x1.t = (oneM 2 0 5).t := t1
  have t2 : x2.t = (oneM 1 0 1).t := t2
  have t3 : x3.t = (oneM 1 1 9).t := t3
  obtain ⟨a, c, rfl, hc, hS⟩ := hX.sl
  have in1 := hX.ins x1 (by simp)
  have in2 := hX.ins x2 (by simp)
  have in3 := hX.ins x3 (by simp)
  obtain ⟨b, o, rfl, r1⟩ := hS.at (i := 0) (by simp)
  have r2 : Row w8 b (o + 1 * 13) (txc x2) := hS.row (i := 1) rfl
  have r3 : Row w8 b (o + 2 * 13) (txc x3) := hS.row (i := 2) rfl
  have r1 : Row w8 b (o + 0 * 13) (txc x1) := r1
  have gl : (([x1, x2, x3] : List Tm).length : Int) = 3 := rfl
  have hP8 := hP7.kp0 hk8
  repeat (first|apply cA|apply cD|apply cE|refine cV rfl rfl rfl rfl (by first|(apply qas<;>(exact rfl))|fail) ?_)
  refine CG.tailg mixed 34 [0, 1, 2, 3, 4, 5, 6, 7, 8, 9, 10, 11, 12, 13, 14, 15, 16, 17, 18, 19, 20, 21, 22, 23, 24, 25, 26, 27, 28, 29, 30, 31, 32, 33] [27] [] (fun _ => True) (by kernel_rfl) trivial (fun _ _ _ _ => trivial) ?_
  repeat (refine cY rfl rfl rfl (by first|((first|apply qmv|apply qla|apply qic|apply qei|apply qln)<;>(first|exact rfl|exact Ar.mk (by omega)|assumption|exact dct (by first|assumption|omega)|exact List.not_mem_nil|apply txc_length|fail))|fail) ?_)
  refine Der.call rfl rfl rfl (vs := [bv 2, .int .i64 0, .int .i64 5]) (by repeat' (first | exact True.intro | exact rho_of rfl | refine And.intro ?_ ?_)) (fun W hk _ => one_spec 2 0 5 W) ?_
  refine Der.call rfl rfl rfl (vs := [txv x1, txv (oneM 2 0 5)]) (v := .bool true) (by repeat' (first | exact True.intro | exact rho_of rfl | refine And.intro ?_ ?_)) (fun W hk _ => by have := tsame_spec (in1.kp0 hk) (oneM_in 2 0 5 0 W); rw [txEq_t t1] at this; exact this) ?_
  repeat (refine cY rfl rfl rfl (by first|((first|apply qmv|apply qla|apply qic|apply qpk)<;>(first|exact rfl|exact Ar.mk (by omega)|assumption|exact List.not_mem_nil|apply txc_length|fail))|fail) ?_)
  refine Der.call rfl rfl rfl (vs := [bv 1, .int .i64 0, .int .i64 1]) (by repeat' (first | exact True.intro | exact rho_of rfl | refine And.intro ?_ ?_)) (fun W hk _ => one_spec 1 0 1 W) ?_
  refine Der.call rfl rfl rfl (vs := [txv x2, txv (oneM 1 0 1)]) (v := .bool true) (by repeat' (first | exact True.intro | exact rho_of rfl | refine And.intro ?_ ?_)) (fun W hk _ => by have := tsame_spec (in2.kp0 hk) (oneM_in 1 0 1 0 W); rw [txEq_t t2] at this; exact this) ?_
  repeat (refine cY rfl rfl rfl (by first|((first|apply qmv|apply qla|apply qic|apply qpk)<;>(first|exact rfl|exact Ar.mk (by omega)|assumption|exact List.not_mem_nil|apply txc_length|fail))|fail) ?_)
  refine Der.call rfl rfl rfl (vs := [bv 1, .int .i64 1, .int .i64 9]) (by repeat' (first | exact True.intro | exact rho_of rfl | refine And.intro ?_ ?_)) (fun W hk _ => one_spec 1 1 9 W) ?_
  refine Der.call rfl rfl rfl (vs := [txv x3, txv (oneM 1 1 9)]) (v := .bool true) (by repeat' (first | exact True.intro | exact rho_of rfl | refine And.intro ?_ ?_)) (fun W hk _ => by have := tsame_spec (in3.kp0 hk) (oneM_in 1 1 9 0 W); rw [txEq_t t3] at this; exact this) ?_
  repeat (refine cY rfl rfl rfl (by first|((first|apply qmv|apply qpk)<;>(exact rfl))|fail) ?_)
  refine cY rfl rfl rfl (vals_build rfl (bbnd 2)) ?_
  refine Der.callG (X := Option Addr × Nat) (vs := [.pointer (some ⟨p, 0, none⟩), .int .i64 5, .agg #[.int .i64 0, .int .i64 2, .int .i64 0]]) (fun q => .slice q.1 0 q.2) (fun _ _ => True) rfl rfl rfl rfl (by repeat' (first | exact True.intro | exact rho_of rfl | refine And.intro ?_ ?_)) (fun _ _ _ _ _ => trivial) (fun _ _ _ _ => trivial) (fun W hk _ => (must_spec (h := 5) (f := 0) (l := 2) (s := 0) (hP8.kp0 hk) i7 (by omega) ⟨by decide, by decide⟩ ⟨by decide, by decide⟩).mono (fun e W' hh => ?_)) (fun q => ?_)
  · obtain ⟨v', ys, he, hk', hY, hys⟩ := hh
    have hyl : ys.length = 0 := by
      have := congrArg List.length hys
      rw [hm7, ord_known, must5, List.length_map] at this
      exact this
    obtain ⟨a', c', rfl, -, -⟩ := hY.sl
    rw [hyl] at he
    exact ⟨(a', c'), he, trivial, hk'⟩
  repeat (refine cY rfl rfl rfl (by first|((first|apply qmv|apply qpk|apply qei|apply qln)<;>(first|exact rfl|exact dct (by first|assumption|omega)|fail))|fail) ?_)
  refine cY rfl rfl rfl (vals_build rfl (bbnd 2)) ?_
  refine Der.tl (fun w9 hk9 _ _ => ?_)
  refine SG.call rfl rfl rfl (vs := [.pointer (some ⟨p, 0, none⟩), .int .i64 6, .agg #[.int .i64 0, .int .i64 2, .int .i64 0]]) (by repeat' (first | exact True.intro | exact rho_of rfl | refine And.intro ?_ ?_)) ((must_spec (h := 6) (f := 0) (l := 2) (s := 0) (hP8.kp0 hk9) i7 (by omega) ⟨by decide, by decide⟩ ⟨by decide, by decide⟩).mono (fun e w10 hh => ?_))
  obtain ⟨v', ys, he, hk', hY, hys⟩ := hh
  have hyl : ys.length = 3 := by
    have := congrArg List.length hys
    rw [hm7, ord_known, must6, List.length_map] at this
    exact this
  obtain ⟨a', c', rfl, -, -⟩ := hY.sl
  rw [hyl] at he
  refine ⟨_, he, ?_⟩
  repeat (first|apply cD|apply cE|apply cH|refine cV rfl rfl rfl rfl (by first|((first|apply qas|apply qpk|apply qei|apply qln)<;>(first|exact rfl|exact dct (by first|assumption|omega)|fail))|fail) ?_)
  refine ret1 (Or.inl rfl) Try.results12 (by first | exact ResV.tmp rfl | exact ResV.agg rfl rfl (by assumption) (by first | exact dc_length _ | exact nc_length _ | exact rc_length _ _ _ | exact ec_length _ | exact dl_length _ _ _ _ | rfl) | exact ResV.cell rfl rfl (by assumption)) ?_
  exact ⟨rfl, ((k7.trans hk8).trans hk9).trans hk'⟩
end Go.Proofs.Ytgbgnlboogalgaa
namespace Go.Proofs.Ytgbgnlboogalgaa
open Go.Proofs
set_option linter.unusedVariables false
attribute [local irreducible] CG NG SG Vals Der Row Blk MapIs IterAt DerX DerR wrongT nameT
end Go.Proofs.Ytgbgnlboogalgaa
namespace Go.Proofs.Ytgbgnlboogalgaa
set_option linter.unusedVariables false
def isT (k : Dg) (n : Int) (t : Tx) : Bool := decide (t.frm = k ∧ t.non = n)
noncomputable def ordT (ts : List Tx) : List Tx := ordL Tx.frm Tx.non Tx.fee ts
open Classical in
noncomputable def goodT (room : Int) (L : List Tx) (t : Tx) : Prop := wrongT t = 0 ∧ match L.find? (isT t.frm t.non) with
  | some o => ¬ o = t ∧ ¬ t.fee ≤ o.fee
  | none => ¬ room ≤ L.length
open Classical in
noncomputable def addT (room : Int) (L : List Tx) (t : Tx) : List Tx := if goodT room L t then L.filter (fun x => !isT t.frm t.non x) ++ [t] else L
noncomputable def fillT (ts : List Tx) : List Tx := ts.foldl (addT 30) []
def nk (k : Dg) (t : Tx) : Bool := decide (t.frm ≠ k)
end Go.Proofs.Ytgbgnlboogalgaa
namespace Go.Proofs.Ytgbgnlboogalgaa
set_option linter.unusedVariables false
section
variable {l : List En} {m : Nat}
noncomputable def firstX (l : List En) (m : Nat) : List Tx := ((ordE l).take m).map (·.t)
noncomputable def backX (l : List En) (m : Nat) : List En := doneL l (firstX l m) ++ (firstX l m).map (fun t => ⟨t, 5⟩)
end
theorem mod_n (z : Int) (n : Nat) (hn : 0 < n) (hn2 : n ≤ 1000000) : ∃ m : Nat, IntKind.wrap .i64 (IntKind.wrap .u64 z % (n : Int)) = (m : Int) ∧ m < n := by
  have h1 := wrap64_bd z
  generalize IntKind.wrap .u64 z = y at h1
  have h2 : 0 ≤ y % (n : Int) := Int.emod_nonneg _ (by omega)
  have h3 : y % (n : Int) < (n : Int) := Int.emod_lt_of_pos _ (by omega)
  generalize y % (n : Int) = x at h2 h3
  refine ⟨x.toNat, ?_, by omega⟩
  simp only [IntKind.wrap, IntKind.signed, IntKind.bits]
  simp
  omega
end Go.Proofs.Ytgbgnlboogalgaa
namespace Go.Proofs.Ytgbgnlboogalgaa
set_option linter.unusedVariables false
def wK (e : Wm) : Dg := e.x.t.frm
def wN (e : Wm) : Int := e.x.t.non
def wF (e : Wm) : Int := e.x.t.fee
theorem ordW_E {ws r : List Wm} (h : Ord wK wN wF ws r) : r.map Wm.en = ordE (ws.map Wm.en) := by
  have h2 := Ord.map (key := En.key) (non := En.non) (fee := En.fee) Wm.en (l := ws) (r := r) h
  exact h2.eq.symm
/-- None of the first k of the same key has a smaller number. -/
def FstK (l : List Wm) (e : Wm) (k : Nat) : Prop := ∀ j (hj : j < l.length), j < k → ¬ (wK l[j] = wK e ∧ wN l[j] < wN e)
theorem FstK.zero (l : List Wm) (e : Wm) : FstK l e 0 := fun j _ h => absurd h (Nat.not_lt_zero j)
theorem FstK.succ {l : List Wm} {e : Wm} {k : Nat} (hk : k < l.length) : FstK l e (k + 1) ↔ FstK l e k ∧ ¬ (wK l[k] = wK e ∧ wN l[k] < wN e) := by
  constructor
  · intro h
    exact ⟨fun j hj hlt => h j hj (by omega), h k hk (by omega)⟩
  · rintro ⟨h1, h2⟩ j hj hlt
    by_cases e' : j = k
    · subst e'; exact h2
    · exact h1 j hj (by omega)
theorem FstK.full {l : List Wm} {e : Wm} : FstK l e l.length ↔ Frst wK wN l e := by
  constructor
  · intro h o ho hk
    obtain ⟨j, hj, rfl⟩ := List.getElem_of_mem ho
    have := h j hj hj
    by_cases hn : wN l[j] < wN e
    · exact absurd ⟨hk, hn⟩ this
    · omega
  · intro h j hj _ hh
    have := h l[j] (List.getElem_mem hj) hh.1
    omega
/-- Of the first i, the one that is taken first. -/
inductive InW (l : List Wm) (i : Nat) : Int → Prop
  | no : (∀ j (hj : j < l.length), j < i → ¬ Frst wK wN l l[j]) → InW l i (-1)
  | att (b : Nat) (hb : b < l.length) : b < i → Frst wK wN l l[b] → (∀ j (hj : j < l.length), j < i → Frst wK wN l l[j] → wF l[j] ≤ wF l[b] ∧ (j < b → wF l[j] < wF l[b])) → InW l i (b : Int)
theorem InW.init (l : List Wm) : InW l 0 (-1) := .no (fun j _ h => absurd h (Nat.not_lt_zero j))
theorem InW.skip {l : List Wm} {i : Nat} {z : Int} (h : InW l i z) (hi : i < l.length) (hf : ¬ Frst wK wN l l[i]) : InW l (i + 1) z := by
  cases h with
  | no h => exact .no (fun j hj hlt => by
      by_cases e : j = i
      · subst e; exact hf
      · exact h j hj (by omega))
  | att b hb h1 h2 h3 => exact .att b hb (by omega) h2 (fun j hj hlt hfj => by
      by_cases e : j = i
      · subst e; exact absurd hfj hf
      · exact h3 j hj (by omega) hfj)
theorem InW.first {l : List Wm} {i : Nat} (h : InW l i (-1)) (hi : i < l.length) (hf : Frst wK wN l l[i]) : InW l (i + 1) (i : Int) := by
  generalize hz : (-1 : Int) = z at h
  cases h with
  | no h => exact .att i hi (by omega) hf (fun j hj hlt hfj => by
      by_cases e : j = i
      · subst e; exact ⟨Int.le_refl _, fun h => absurd h (Nat.lt_irrefl _)⟩
      · exact absurd hfj (h j hj (by omega)))
  | att b hb h1 h2 h3 => omega
theorem InW.turn {l : List Wm} {i b : Nat} (h : InW l i (b : Int)) (hb : b < l.length) (hi : i < l.length) (hf : Frst wK wN l l[i]) (hg : wF l[b] < wF l[i]) : InW l (i + 1) (i : Int) := by
  generalize hz : (b : Int) = z at h
  cases h with
  | no h => omega
  | att b' hb' h1 h2 h3 =>
    have : b' = b := by omega
    subst this
    exact .att i hi (by omega) hf (fun j hj hlt hfj => by
      by_cases e : j = i
      · subst e; exact ⟨Int.le_refl _, fun h => absurd h (Nat.lt_irrefl _)⟩
      · have := (h3 j hj (by omega) hfj).1
        exact ⟨by omega, fun _ => by omega⟩)
theorem InW.keep {l : List Wm} {i b : Nat} (h : InW l i (b : Int)) (hb : b < l.length) (hi : i < l.length) (hg : ¬ wF l[b] < wF l[i]) : InW l (i + 1) (b : Int) := by
  generalize hz : (b : Int) = z at h
  cases h with
  | no h => omega
  | att b' hb' h1 h2 h3 =>
    have : b' = b := by omega
    subst this
    exact .att b' hb' (by omega) h2 (fun j hj hlt hfj => by
      by_cases e : j = i
      · subst e; exact ⟨by omega, fun h => by omega⟩
      · exact h3 j hj (by omega) hfj)
theorem InW.cases {l : List Wm} {i : Nat} {z : Int} (h : InW l i z) : z = -1 ∨ ∃ (b : Nat) (hb : b < l.length), z = (b : Int) := by
  cases h with
  | no h => exact Or.inl rfl
  | att b hb h1 h2 h3 => exact Or.inr ⟨b, hb, rfl⟩
theorem InW.best {l : List Wm} {z : Int} (h : InW l l.length z) (hne : 0 < l.length) : ∃ (b : Nat) (hb : b < l.length), z = (b : Int) ∧ BestS wK wN wF (l.take b) l[b] (l.drop (b + 1)) := by
  obtain ⟨e, he, hmin⟩ := min_ex wN (l := l) (by intro h; rw [h] at hne; simp at hne)
  cases h with
  | no h =>
    obtain ⟨j, hj, rfl⟩ := List.getElem_of_mem he
    exact absurd (fun o ho _ => hmin o ho) (h j hj hj)
  | att b hb h1 h2 h3 =>
    have hsp : l.take b ++ l[b] :: l.drop (b + 1) = l := by rw [← List.drop_eq_getElem_cons hb, List.take_append_drop]
    refine ⟨b, hb, rfl, ?_, fun e he hf => ?_, fun e he hf => ?_⟩
    · rw [hsp]; exact h2
    · rw [hsp] at he hf
      obtain ⟨j, hj, rfl⟩ := List.getElem_of_mem he
      exact (h3 j hj hj hf).1
    · rw [hsp] at hf
      obtain ⟨j, hj, rfl⟩ := List.getElem_of_mem he
      rw [List.length_take] at hj
      rw [List.getElem_take] at hf ⊢
      exact (h3 j (by omega) (by omega) hf).2 (by omega)
theorem ord_step {ws l out : List Wm} (h : ∀ r, Ord wK wN wF l r → Ord wK wN wF ws (out ++ r)) {b : Nat} (hb : b < l.length) (hB : BestS wK wN wF (l.take b) l[b] (l.drop (b + 1))) : ∀ r, Ord wK wN wF (l.eraseIdx b) r → Ord wK wN wF ws ((out ++ [l[b]]) ++ r) := fun r hr => by
  have hsp : l.take b ++ l[b] :: l.drop (b + 1) = l := by rw [← List.drop_eq_getElem_cons hb, List.take_append_drop]
  have h1 : Ord wK wN wF (l.take b ++ l[b] :: l.drop (b + 1)) (l[b] :: r) := .step _ _ _ _ hB (by rw [← List.eraseIdx_eq_take_drop_succ]; exact hr)
  rw [hsp] at h1
  have h2 := h _ h1
  rw [List.append_assoc]
  exact h2
theorem up_perm {L L' : List (Dg × Int)} (h : L.Perm L') (e : En) : upB L e = upB L' e := by
  unfold upB
  cases hb : L'.any (fun p => decide (p.1 = e.key ∧ e.non ≤ p.2)) with
  | true =>
    obtain ⟨p, h1, h2⟩ := List.any_eq_true.1 hb
    exact List.any_eq_true.2 ⟨p, h.mem_iff.2 h1, h2⟩
  | false =>
    rw [List.any_eq_false] at hb ⊢
    exact fun p hp => hb p (h.mem_iff.1 hp)
theorem due_perm {l l' : List En} (h : l.Perm l') (z leave : Int) : (dueL l z leave).Perm (dueL l' z leave) := (h.filter _).map _
theorem filt_le {α : Type} {p q : α → Bool} (h : ∀ x, p x = true → q x = true) : ∀ l : List α, (l.filter p).length ≤ (l.filter q).length
  | [] => Nat.le_refl _
  | x :: l => by
    have ih := filt_le h l
    by_cases hp : p x = true
    · rw [List.filter_cons_of_pos hp, List.filter_cons_of_pos (h x hp), List.length_cons, List.length_cons]
      omega
    · rw [List.filter_cons_of_neg hp]
      by_cases hq : q x = true
      · rw [List.filter_cons_of_pos hq, List.length_cons]
        omega
      · rw [List.filter_cons_of_neg hq]
        exact ih
theorem must_more (l : List En) (z leave : Int) : ((ordE l).filter (upB (dueL l z leave))).length ≤ ((ordE l).filter (upB (dueL l (z + 1) leave))).length := by
  refine filt_le (fun e h => ?_) _
  unfold upB at h ⊢
  obtain ⟨p, h1, h2⟩ := List.any_eq_true.1 h
  refine List.any_eq_true.2 ⟨p, ?_, h2⟩
  unfold dueL at h1 ⊢
  obtain ⟨o, ho, rfl⟩ := List.mem_map.1 h1
  refine List.mem_map.2 ⟨o, List.mem_filter.2 ⟨(List.mem_filter.1 ho).1, ?_⟩, rfl⟩
  have h3 := of_decide_eq_true (List.mem_filter.1 ho).2
  exact decide_eq_true (by omega)
theorem must_all {l : List En} {leave : Int} (h : ∀ e ∈ l, e.since ≤ 9) : ((ordE l).filter (upB (dueL l (10 + leave) leave))).length = l.length := by
  rw [List.filter_eq_self.2 (fun e he => ?_), ordE_length]
  have he := (ordE_perm l).mem_iff.1 he
  unfold upB
  refine List.any_eq_true.2 ⟨pairE e, List.mem_map.2 ⟨e, List.mem_filter.2 ⟨he, decide_eq_true ?_⟩, rfl⟩, decide_eq_true ⟨rfl, Int.le_refl _⟩⟩
  have := h e he
  omega
theorem must_none {l : List En} {leave : Int} (h : ∀ e ∈ l, 0 ≤ e.since) : ((ordE l).filter (upB (dueL l leave leave))).length = 0 := by
  have : dueL l leave leave = [] := by
    unfold dueL
    rw [List.map_eq_nil_iff, List.filter_eq_nil_iff]
    intro e he hh
    have h1 := of_decide_eq_true hh
    have := h e he
    omega
  rw [this]
  rw [List.length_eq_zero_iff, List.filter_eq_nil_iff]
  intro e _
  simp [upB]
theorem fill_since (ts : List Tx) : ∀ i, ∀ e ∈ fillL ts i, 0 ≤ e.since ∧ e.since * 3 ≤ (i : Int)
  | 0, e, h => by cases h
  | i + 1, e, h => by
    have ih := fill_since ts i
    unfold fillL at h
    have key : ∀ e ∈ fillL ts i, 0 ≤ e.since ∧ e.since * 3 ≤ ((i + 1 : Nat) : Int) := fun e he => by have := ih e he; omega
    split at h
    · rename_i t _
      unfold addE at h
      split at h
      · unfold addL at h
        rcases List.mem_append.1 h with h | h
        · exact key e (List.mem_of_mem_eraseIdx h)
        · rw [List.mem_singleton] at h
          subst h
          simp only
          omega
      · exact key e h
    · exact key e h
end Go.Proofs.Ytgbgnlboogalgaa
namespace Go.Proofs.Ytgbgnlboogalgaa
open Go.Proofs
set_option linter.unusedVariables false
/-- All that waits, in the order. -/
noncomputable def ordW (ws : List Wm) : List Wm := ordL wK wN wF ws
theorem ordW_spec (ws : List Wm) : Ord wK wN wF ws (ordW ws) := ordL_spec ws
theorem ordW_perm (ws : List Wm) : (ordW ws).Perm ws := ordL_perm ws
theorem ordW_len (ws : List Wm) : (ordW ws).length = ws.length := ordL_length ws
theorem ordW_en (ws : List Wm) : (ordW ws).map Wm.en = ordE (ws.map Wm.en) := ordW_E (ordW_spec ws)
theorem own_nilB {w : World} {b base : Nat} (hB : Blk w b (.cells (flt wc []).toArray 88)) (hb : base ≤ b) : w.ownsRow base 88 14 (.slice (some ⟨b, 0, none⟩) 0 0) ([] : List Wm).length (flt wc []) := own_made wc_length hB hb rfl (by simp [maxLen])
attribute [local irreducible] CG NG SG Vals Der Row Blk MapIs IterAt DerX DerR wrongT nameT
set_option maxHeartbeats 32000000 in
theorem rorder_spec {w : World} {n : Nat} {a : Option Addr} {c : Nat} {ws : List Wm} {room : Int} (hP : PD w n a c ws) (hl : ws.length ≤ 1024) : RetO Try.prog 88 wc 14 39 #[.agg (pdc room a ws.length c).toArray] w (ordW ws) := by
  refine enter1 Try.func39 rfl Try.ntmps39 rfl ?_
  repeat (first|apply cA|apply cB)
  refine SG.box rfl rfl rfl (by exact rho_of rfl) (fun b1 w1 hk1 hb1 hB1 => ?_)
  have hB1 : Blk w1 b1 (.cells (pdc room a ws.length c).toArray 26) := hB1
  obtain ⟨-, -, q⟩ := pdc_rows hB1
  have s1 := hk1.size
  clear hB1
  repeat (first|apply cA|apply cB|apply cD|apply cE|refine cV rfl rfl rfl rfl (by first|(apply qas<;>(exact rfl))|fail) ?_)
  refine SG.buildSlice rfl rfl rfl rfl bsw0 (fun b9 w2 hk2 hb9 hB9 => ?_)
  have q := q.kp0 hk2
  have k2 := hk1.trans hk2
  have s2 := k2.size
  repeat (first|refine cV rfl rfl rfl rfl (by first|((first|apply qlc|apply qfa)<;>(first|exact rfl|assumption|exact List.not_mem_nil))|fail) ?_)
  refine SG.appO (enc := wc) (xs := []) (ys := ws) (base := w.heap.size) rfl rfl rfl (by exact rho_of rfl) (by exact rho_of rfl) rfl rfl rfl rfl wc_length wc_one (own_nilB hB9 (by omega)) (hP.sl.kp0 k2) (by simp only [maxLen, List.length_nil]; omega) (by simp only [List.length_nil]; show (_ + _) * 88 ≤ _; omega) s2 (fun v3 w3 hk3 ho3 _ => ?_)
  have ho3 : w3.ownsRow w.heap.size 88 14 v3 ws.length (flt wc ws) := ho3
  have k3 : Kp [] w w3 := k2.trans_new hk3 (own_new (own_nilB hB9 (base := w.heap.size) (by omega)) (Nat.le_refl _))
  clear q hB9
  repeat (first|apply cA|apply cB|apply cD|apply cE|apply cG|refine cV rfl rfl rfl rfl (by first|(apply qas<;>(exact rfl))|fail) ?_)
  refine CG.loop (X := (Value × List Wm) × (Value × List Wm)) (fun x => [(3, x.2.1), (4, x.1.1)])
    (fun x w' => Kp [] w w' ∧ w'.ownsRow w.heap.size 88 14 x.1.1 x.1.2.length (flt wc x.1.2) ∧ w'.ownsRow w.heap.size 88 14 x.2.1 x.2.2.length (flt wc x.2.2) ∧ Apart x.1.1 x.2.1 ∧ (∀ e ∈ x.2.2, e ∈ ws) ∧ x.1.2.length + x.2.2.length = ws.length ∧ ∀ r, Ord wK wN wF x.2.2 r → Ord wK wN wF ws (x.1.2 ++ r))
    (fun x => x.2.2.length) ((.slice none 0 0, []), (v3, ws)) ⟨k3, own_nil, ho3, fun b hb => (by cases hb), fun e h => h, by simp, fun r h => h⟩ (by (repeat' (first | exact True.intro | exact rfl | refine And.intro ?_ ?_))) ?_
  clear ho3 k3 hk3
  rintro ⟨⟨vo, out⟩, ⟨vl, left⟩⟩ w4 ⟨hk4, ho4, hl4, hap, hmem, hlen, hord⟩
  simp only at ho4 hl4 hap hmem hlen hord
  refine CG.to [(3, vl), (4, vo)] (by (repeat' (first | exact True.intro | exact rfl | refine And.intro ?_ ?_))) ?_
  obtain ⟨al, cl, rfl, hcl, hSl⟩ := Sl.own wc_length hl4 rfl
  have s4 := hk4.size
  by_cases h0 : left.length = 0
  · have g1 : ¬ (0 : Int) < (left.length : Int) := by omega
    have e0 : left = [] := List.eq_nil_of_length_eq_zero h0
    have e1 : ordW ws = out := by
      have := hord [] (by rw [e0]; exact .nil)
      rw [List.append_nil] at this
      exact this.eq
    repeat (first|apply cA|apply cB|apply cD|apply cE|refine cV rfl rfl rfl rfl (by first|((first|apply qmv|apply qln|apply qgt)<;>(first|exact rfl|exact dcf (by first|assumption|omega)|fail))|fail) ?_)
    refine dA rfl (by exact rho_of rfl) rfl ?_
    repeat (first|apply cA|apply cB|apply cD|apply cE|apply cH|apply cJ|apply cM|refine cQ rfl ?_|refine cV rfl rfl rfl rfl (by first|((first|apply qmv|apply qas)<;>(exact rfl))|fail) ?_)
    refine ret1 (Or.inl rfl) Try.results39 (by first | exact ResV.tmp rfl | exact ResV.agg rfl rfl (by assumption) (by first | exact dc_length _ | exact nc_length _ | exact rc_length _ _ _ | exact ec_length _ | exact dl_length _ _ _ _ | rfl) | exact ResV.cell rfl rfl (by assumption)) ?_
    exact ⟨vo, rfl, by rw [e1]; exact ho4, hk4⟩
  have g1 : (0 : Int) < (left.length : Int) := by omega
  repeat (first|apply cA|apply cB|apply cD|apply cE|refine cV rfl rfl rfl rfl (by first|((first|apply qmv|apply qln|apply qgt)<;>(first|exact rfl|exact dct (by first|assumption|omega)|fail))|fail) ?_)
  refine cZ rfl (by exact rho_of rfl) rfl ?_
  repeat (first|apply cA|apply cB|apply cD|apply cE|apply cF|apply cG|refine cV rfl rfl rfl rfl (by first|(apply qas<;>(exact rfl))|fail) ?_)
  refine CG.loop (X := Nat × Int) (fun x => [(3, .slice al left.length cl), (4, vo), (5, .int .i64 x.2), (6, .int .i64 (x.1 : Int))]) (fun x w' => x.1 ≤ left.length ∧ Kp [] w4 w' ∧ InW left x.1 x.2) (fun x => left.length - x.1) (0, -1) ⟨Nat.zero_le _, Kp.refl _ _, InW.init _⟩ (by (repeat' (first | exact True.intro | exact rfl | refine And.intro ?_ ?_))) ?_
  rintro ⟨i, z⟩ w5 ⟨hi, hk5, hIn⟩
  simp only at hi hIn
  refine CG.to [(3, .slice al left.length cl), (4, vo), (5, .int .i64 z), (6, .int .i64 (i : Int))] (by (repeat' (first | exact True.intro | exact rfl | refine And.intro ?_ ?_))) ?_
  by_cases hlt : i < left.length
  rotate_left
  · have g2 : ¬ (i : Int) < (left.length : Int) := by omega
    have ei : i = left.length := by omega
    subst ei
    obtain ⟨b, hb, rfl, hB⟩ := hIn.best (by omega)
    obtain ⟨bl, ol, rfl, rb⟩ := (hSl.kp0 hk5).at hb
    have gb : (b : Int) < (left.length : Int) := by omega
    repeat (first|apply cA|apply cB|apply cD|apply cE|refine cV rfl rfl rfl rfl (by first|((first|apply qmv|apply qls|apply qln)<;>(first|exact rfl|exact dcf (by first|assumption|omega)|fail))|fail) ?_)
    refine dA rfl (by exact rho_of rfl) rfl ?_
    repeat (first|apply cA|apply cB|apply cE|apply cJ|apply cM|refine cQ rfl ?_|refine cV rfl rfl rfl rfl (by first|((first|apply qmv|apply qla|apply qix)<;>(first|exact rfl|exact Ar.mk (by omega)|assumption|exact List.not_mem_nil|apply wc_length|fail))|fail) ?_)
    refine SG.buildSlice rfl rfl rfl rfl (bsw left[b]) (fun b6 w6 hk6 hb6 hB6 => ?_)
    have hS6 : Sl wc 14 w6 (some ⟨b6, 0, none⟩) [left[b]] := sl_one wc_length hB6
    have k46 := hk5.trans hk6
    have ho6 := own_kp0 ho4 k46
    have hl6 := own_kp0 hl4 k46
    have k6 := hk4.trans k46
    clear rb
    skip
    refine SG.appO (enc := wc) (xs := out) (ys := [left[b]]) (base := w.heap.size) rfl rfl rfl (by exact rho_of rfl) (by exact rho_of rfl) rfl rfl rfl rfl wc_length wc_one ho6 hS6 (by simp only [maxLen, List.length_cons, List.length_nil]; omega) (by simp only [List.length_cons, List.length_nil]; show (_ + _) * 88 ≤ _; omega) k6.size (fun v' w7 hk7 ho7 hv7 => ?_)
    have hl7 := own_apart hap hl6 hk7
    have k7 : Kp [] w w7 := k6.trans_new hk7 (own_new ho6 (Nat.le_refl _))
    obtain ⟨a', c', e', hD7⟩ := PD.own hl7 (fun e he => (hP.ins e (hmem e he)).kp0 k7)
    cases e'
    repeat (first|apply cB|apply cD|apply cE|refine cV rfl rfl rfl rfl (by first|((first|apply qmv|apply qas)<;>(exact rfl))|fail) ?_)
    refine SG.call rfl rfl rfl (vs := [.slice (some ⟨bl, ol, none⟩) left.length cl, .int .i64 (b : Int)]) (by repeat' (first | exact True.intro | exact rho_of rfl | refine And.intro ?_ ?_)) ((without_spec hD7 (by omega) hb).mono (fun e w8 hh => ?_))
    obtain ⟨v8, he, ho8, hk8⟩ := hh
    refine ⟨_, he, ?_⟩
    clear he
    have hel : (left.eraseIdx b).length = left.length - 1 := by rw [List.length_eraseIdx, if_pos hb]
    repeat (first|apply cD|apply cU|refine cV rfl rfl rfl rfl (by first|(apply qas<;>(exact rfl))|fail) ?_)
    refine NG.round ((v', out ++ [left[b]]), (v8, left.eraseIdx b)) (by (repeat' (first | exact True.intro | exact rfl | refine And.intro ?_ ?_))) ⟨k7.trans hk8, own_kp0 ho7 hk8, own_mono ho8 k7.size, fun b h1 h2 => ?_, fun e he => hmem e (List.mem_of_mem_eraseIdx he), ?_, ord_step hord hb hB⟩ (by simp only; omega)
    · have h3 := own_lt ho7 b h1
      have h4 := own_geB ho8 b h2
      omega
    · simp only [List.length_append, List.length_cons, List.length_nil]
      omega
  have g2 : (i : Int) < (left.length : Int) := by omega
  repeat (first|apply cA|apply cB|apply cD|apply cE|refine cV rfl rfl rfl rfl (by first|((first|apply qmv|apply qls|apply qln)<;>(first|exact rfl|exact dct (by first|assumption|omega)|fail))|fail) ?_)
  refine cZ rfl (by exact rho_of rfl) rfl ?_
  repeat (first|apply cA|apply cB|apply cD|apply cE|apply cF|apply cG|refine cV rfl rfl rfl rfl (by first|(apply qas<;>(exact rfl))|fail) ?_)
  refine CG.loop (X := Nat × Bool) (fun x => [(3, .slice al left.length cl), (4, vo), (5, .int .i64 z), (6, .int .i64 (i : Int)), (7, .bool x.2), (8, .int .i64 (x.1 : Int))]) (fun x w' => x.1 ≤ left.length ∧ Kp [] w4 w' ∧ (x.2 = true ↔ FstK left left[i] x.1)) (fun x => left.length - x.1) (0, true) ⟨Nat.zero_le _, hk5, iff_of_true rfl (FstK.zero _ _)⟩ (by (repeat' (first | exact True.intro | exact rfl | refine And.intro ?_ ?_))) ?_
  clear hk5
  rintro ⟨k, fb⟩ w5 ⟨hk, hk5, hF⟩
  simp only at hk hF
  refine CG.to [(3, .slice al left.length cl), (4, vo), (5, .int .i64 z), (6, .int .i64 (i : Int)), (7, .bool fb), (8, .int .i64 (k : Int))] (by (repeat' (first | exact True.intro | exact rfl | refine And.intro ?_ ?_))) ?_
  have hS5 := hSl.kp0 hk5
  obtain ⟨bl, ol, rfl, ri⟩ := hS5.at hlt
  obtain ⟨-, i0, i1, i2, -⟩ := wc_rows ri
  clear ri
  by_cases hkl : k < left.length
  · have g3 : (k : Int) < (left.length : Int) := by omega
    have rk : Row w5 bl (ol + k * 14) (wc left[k]) := hS5.row (List.getElem?_eq_getElem hkl)
    obtain ⟨-, k0, k1, -, -⟩ := wc_rows rk
    clear rk i2
    have hsu := FstK.succ (e := left[i]) hkl
    repeat (first|apply cA|apply cB|apply cD|apply cE|refine cV rfl rfl rfl rfl (by first|((first|apply qmv|apply qls|apply qln)<;>(first|exact rfl|exact dct (by first|assumption|omega)|fail))|fail) ?_)
    refine cZ rfl (by exact rho_of rfl) rfl ?_
    cases fb with
    | false =>
      have hno : ¬ FstK left left[i] k := fun h => Bool.noConfusion (hF.2 h)
      repeat (first|apply cA|apply cE|apply cF|apply cG)
      refine CG.tail mixed 32 [0, 1, 2, 3, 4, 5, 6, 7, 8, 9, 10, 11, 12, 13, 14, 15, 16, 17, 18, 19, 20, 21, 22, 23, 24, 25, 26, 27, 28, 29, 30, 31] (by kernel_rfl) ?_
      repeat (first | refine cY rfl rfl rfl (by first|((first|apply qmv|apply qpk)<;>(exact rfl))|fail) ?_ | refine Der.skip rfl rfl ?_)
      refine Der.tl (fun w6 hk6 _ _ => ?_)
      repeat (first|apply cB|apply cD|apply cE|apply cU|refine cV rfl rfl rfl rfl (by first|((first|apply qmv|apply qas|apply qad)<;>(first|exact rfl|exact Ar.mk (by omega)|fail))|fail) ?_)
      refine NG.round (k + 1, false) (by (repeat' (first | exact True.intro | exact rfl | refine And.intro ?_ ?_))) ⟨by simp only; omega, hk5.trans hk6, by simp only; rw [hsu]; exact iff_of_false (by decide) (fun h => hno h.1)⟩ (by simp only; omega)
    | true =>
      have hyes := hF.1 rfl
      by_cases he : left[k].x.t.frm = left[i].x.t.frm
      · by_cases hn : left[k].x.t.non < left[i].x.t.non
        · repeat (first|apply cA|apply cE|apply cF|apply cG)
          refine CG.tail mixed 32 [0, 1, 2, 3, 4, 5, 6, 7, 8, 9, 10, 11, 12, 13, 14, 15, 16, 17, 18, 19, 20, 21, 22, 23, 24, 25, 26, 27, 28, 29, 30, 31] (by kernel_rfl) ?_
          repeat (refine cY rfl rfl rfl (by first|((first|apply qmv|apply qlc|apply qla|apply qfa|apply qix|apply qpk|apply qls|apply qed|apply qnt)<;>(first|exact rfl|exact Ar.mk (by omega)|assumption|exact dct (by first|assumption|omega)|exact List.not_mem_nil|apply dc_length|fail))|fail) ?_)
          refine Der.tl (fun w6 hk6 _ _ => ?_)
          repeat (first|apply cB|apply cD|apply cE|apply cU|refine cV rfl rfl rfl rfl (by first|((first|apply qmv|apply qas|apply qad)<;>(first|exact rfl|exact Ar.mk (by omega)|fail))|fail) ?_)
          refine NG.round (k + 1, false) (by (repeat' (first | exact True.intro | exact rfl | refine And.intro ?_ ?_))) ⟨by simp only; omega, hk5.trans hk6, by simp only; rw [hsu]; exact iff_of_false (by decide) (fun h => h.2 ⟨he, hn⟩)⟩ (by simp only; omega)
        · repeat (first|apply cA|apply cE|apply cF|apply cG)
          refine CG.tail mixed 32 [0, 1, 2, 3, 4, 5, 6, 7, 8, 9, 10, 11, 12, 13, 14, 15, 16, 17, 18, 19, 20, 21, 22, 23, 24, 25, 26, 27, 28, 29, 30, 31] (by kernel_rfl) ?_
          repeat (refine cY rfl rfl rfl (by first|((first|apply qmv|apply qlc|apply qla|apply qfa|apply qix|apply qpk|apply qls|apply qed|apply qnt)<;>(first|exact rfl|exact Ar.mk (by omega)|assumption|exact dct (by first|assumption|omega)|exact dcf (by first|assumption|omega)|exact List.not_mem_nil|apply dc_length|fail))|fail) ?_)
          refine Der.tl (fun w6 hk6 _ _ => ?_)
          repeat (first|apply cB|apply cD|apply cE|apply cU|refine cV rfl rfl rfl rfl (by first|((first|apply qmv|apply qas|apply qad)<;>(first|exact rfl|exact Ar.mk (by omega)|fail))|fail) ?_)
          refine NG.round (k + 1, true) (by (repeat' (first | exact True.intro | exact rfl | refine And.intro ?_ ?_))) ⟨by simp only; omega, hk5.trans hk6, iff_of_true rfl (hsu.2 ⟨hyes, fun h => hn h.2⟩)⟩ (by simp only; omega)
      · repeat (first|apply cA|apply cE|apply cF|apply cG)
        refine CG.tail mixed 32 [0, 1, 2, 3, 4, 5, 6, 7, 8, 9, 10, 11, 12, 13, 14, 15, 16, 17, 18, 19, 20, 21, 22, 23, 24, 25, 26, 27, 28, 29, 30, 31] (by kernel_rfl) ?_
        repeat (first | refine cY rfl rfl rfl (by first|((first|apply qmv|apply qla|apply qfa|apply qix|apply qpk|apply qed|apply qnt)<;>(first|exact rfl|exact Ar.mk (by omega)|assumption|exact dcf (by first|assumption|omega)|exact List.not_mem_nil|apply dc_length|fail))|fail) ?_ | refine Der.skip rfl rfl ?_)
        refine Der.tl (fun w6 hk6 _ _ => ?_)
        repeat (first|apply cB|apply cD|apply cE|apply cU|refine cV rfl rfl rfl rfl (by first|((first|apply qmv|apply qas|apply qad)<;>(first|exact rfl|exact Ar.mk (by omega)|fail))|fail) ?_)
        refine NG.round (k + 1, true) (by (repeat' (first | exact True.intro | exact rfl | refine And.intro ?_ ?_))) ⟨by simp only; omega, hk5.trans hk6, iff_of_true rfl (hsu.2 ⟨hyes, fun h => he h.1⟩)⟩ (by simp only; omega)
  have g3 : ¬ (k : Int) < (left.length : Int) := by omega
  have ek : k = left.length := by omega
  subst ek
  rw [FstK.full] at hF
  clear i0 i1
  repeat (first|apply cA|apply cB|apply cD|apply cE|refine cV rfl rfl rfl rfl (by first|((first|apply qmv|apply qls|apply qln)<;>(first|exact rfl|exact dcf (by first|assumption|omega)|fail))|fail) ?_)
  refine dA rfl (by exact rho_of rfl) rfl ?_
  cases fb with
  | false =>
    have hno : ¬ Frst wK wN left left[i] := fun h => Bool.noConfusion (hF.2 h)
    repeat (first|apply cA|apply cE|apply cJ|apply cM|refine cQ rfl ?_)
    refine CG.tail mixed 19 [0, 1, 2, 3, 4, 5, 6, 7, 8, 9, 10, 11, 12, 13, 14, 15, 16, 17, 18] (by kernel_rfl) ?_
    repeat (first | refine cY rfl rfl rfl (by first|(apply qmv<;>(exact rfl))|fail) ?_ | refine Der.skip rfl rfl ?_)
    refine Der.tl (fun w6 hk6 _ _ => ?_)
    repeat (first|apply cD|apply cE|refine cV rfl rfl rfl rfl (by first|(apply qpk<;>(exact rfl))|fail) ?_)
    refine dA rfl (by exact rho_of rfl) rfl ?_
    repeat (first|apply cB|apply cD|apply cE|apply cF|apply cU|refine cV rfl rfl rfl rfl (by first|((first|apply qmv|apply qas|apply qad)<;>(first|exact rfl|exact Ar.mk (by omega)|fail))|fail) ?_)
    refine NG.round (i + 1, z) (by (repeat' (first | exact True.intro | exact rfl | refine And.intro ?_ ?_))) ⟨by simp only; omega, hk5.trans hk6, hIn.skip hlt hno⟩ (by simp only; omega)
  | true =>
    have hyes := hF.1 rfl
    rcases hIn.cases with rfl | ⟨b, hb, rfl⟩
    · have g4 : (-1 : Int) < 0 := by omega
      repeat (first|apply cA|apply cE|apply cJ|apply cM|refine cQ rfl ?_)
      refine CG.tail mixed 19 [0, 1, 2, 3, 4, 5, 6, 7, 8, 9, 10, 11, 12, 13, 14, 15, 16, 17, 18] (by kernel_rfl) ?_
      repeat (first | refine cY rfl rfl rfl (by first|((first|apply qmv|apply qpk|apply qls)<;>(first|exact rfl|exact dct (by first|assumption|omega)|fail))|fail) ?_ | refine Der.skip rfl rfl ?_)
      refine Der.tl (fun w6 hk6 _ _ => ?_)
      repeat (first|apply cD|apply cE|refine cV rfl rfl rfl rfl (by first|(apply qpk<;>(exact rfl))|fail) ?_)
      refine cZ rfl (by exact rho_of rfl) rfl ?_
      repeat (first|apply cB|apply cD|apply cE|apply cU|refine cV rfl rfl rfl rfl (by first|((first|apply qmv|apply qas|apply qad)<;>(first|exact rfl|exact Ar.mk (by omega)|fail))|fail) ?_)
      refine NG.round (i + 1, (i : Int)) (by (repeat' (first | exact True.intro | exact rfl | refine And.intro ?_ ?_))) ⟨by simp only; omega, hk5.trans hk6, hIn.first hlt hyes⟩ (by simp only; omega)
    · have g4 : ¬ (b : Int) < 0 := by omega
      have g5 : (b : Int) < (left.length : Int) := by omega
      have rb : Row w5 bl (ol + b * 14) (wc left[b]) := hS5.row (List.getElem?_eq_getElem hb)
      obtain ⟨-, -, -, b2, -⟩ := wc_rows rb
      clear rb
      by_cases hg : left[b].x.t.fee < left[i].x.t.fee
      · repeat (first|apply cA|apply cE|apply cJ|apply cM|refine cQ rfl ?_)
        refine CG.tail mixed 19 [0, 1, 2, 3, 4, 5, 6, 7, 8, 9, 10, 11, 12, 13, 14, 15, 16, 17, 18] (by kernel_rfl) ?_
        repeat (refine cY rfl rfl rfl (by first|((first|apply qmv|apply qlc|apply qfa|apply qix|apply qpk|apply qls|apply qgt)<;>(first|exact rfl|exact Ar.mk (by omega)|assumption|exact dct (by first|assumption|omega)|exact dcf (by first|assumption|omega)|exact List.not_mem_nil|fail))|fail) ?_)
        refine Der.tl (fun w6 hk6 _ _ => ?_)
        repeat (first|apply cD|apply cE|refine cV rfl rfl rfl rfl (by first|(apply qpk<;>(exact rfl))|fail) ?_)
        refine cZ rfl (by exact rho_of rfl) rfl ?_
        repeat (first|apply cB|apply cD|apply cE|apply cU|refine cV rfl rfl rfl rfl (by first|((first|apply qmv|apply qas|apply qad)<;>(first|exact rfl|exact Ar.mk (by omega)|fail))|fail) ?_)
        refine NG.round (i + 1, (i : Int)) (by (repeat' (first | exact True.intro | exact rfl | refine And.intro ?_ ?_))) ⟨by simp only; omega, hk5.trans hk6, hIn.turn hb hlt hyes hg⟩ (by simp only; omega)
      · repeat (first|apply cA|apply cE|apply cJ|apply cM|refine cQ rfl ?_)
        refine CG.tail mixed 19 [0, 1, 2, 3, 4, 5, 6, 7, 8, 9, 10, 11, 12, 13, 14, 15, 16, 17, 18] (by kernel_rfl) ?_
        repeat (refine cY rfl rfl rfl (by first|((first|apply qmv|apply qlc|apply qfa|apply qix|apply qpk|apply qls|apply qgt)<;>(first|exact rfl|exact Ar.mk (by omega)|assumption|exact dcf (by first|assumption|omega)|exact List.not_mem_nil|fail))|fail) ?_)
        refine Der.tl (fun w6 hk6 _ _ => ?_)
        repeat (first|apply cD|apply cE|refine cV rfl rfl rfl rfl (by first|(apply qpk<;>(exact rfl))|fail) ?_)
        refine dA rfl (by exact rho_of rfl) rfl ?_
        repeat (first|apply cB|apply cD|apply cE|apply cF|apply cU|refine cV rfl rfl rfl rfl (by first|((first|apply qmv|apply qas|apply qad)<;>(first|exact rfl|exact Ar.mk (by omega)|fail))|fail) ?_)
        refine NG.round (i + 1, (b : Int)) (by (repeat' (first | exact True.intro | exact rfl | refine And.intro ?_ ?_))) ⟨by simp only; omega, hk5.trans hk6, hIn.keep hb hlt hg⟩ (by simp only; omega)
end Go.Proofs.Ytgbgnlboogalgaa
namespace Go.Proofs.Ytgbgnlboogalgaa
open Go.Proofs
set_option linter.unusedVariables false
/-- Of the first k one that is late, of the same key, with no smaller number. -/
def MustK (r : List Wm) (h lv : Int) (e : Wm) (k : Nat) : Prop := ∃ (j : Nat) (hj : j < r.length), j < k ∧ r[j].since + lv + 1 ≤ h ∧ wK r[j] = wK e ∧ wN e ≤ wN r[j]
theorem MustK.zero {r : List Wm} {h lv : Int} {e : Wm} : ¬ MustK r h lv e 0 := fun ⟨_, _, h, _⟩ => absurd h (Nat.not_lt_zero _)
theorem MustK.succ {r : List Wm} {h lv : Int} {e : Wm} {k : Nat} (hk : k < r.length) : MustK r h lv e (k + 1) ↔ MustK r h lv e k ∨ (r[k].since + lv + 1 ≤ h ∧ wK r[k] = wK e ∧ wN e ≤ wN r[k]) := by
  constructor
  · rintro ⟨j, hj, h1, h2⟩
    by_cases e' : j = k
    · subst e'; exact Or.inr h2
    · exact Or.inl ⟨j, hj, by omega, h2⟩
  · rintro (⟨j, hj, h1, h2⟩ | h2)
    · exact ⟨j, hj, by omega, h2⟩
    · exact ⟨k, hk, by omega, h2⟩
def mustB (ws : List Wm) (h lv : Int) (e : Wm) : Bool := upB (dueL (ws.map Wm.en) h lv) e.en
theorem MustK.full {r ws : List Wm} {h lv : Int} {e : Wm} (hr : r.Perm ws) : MustK r h lv e r.length ↔ mustB ws h lv e = true := by
  unfold mustB
  rw [← up_perm (due_perm (hr.map Wm.en) h lv) e.en]
  unfold upB
  rw [List.any_eq_true]
  constructor
  · rintro ⟨j, hj, _, h1, h2, h3⟩
    refine ⟨pairE r[j].en, List.mem_map.2 ⟨r[j].en, List.mem_filter.2 ⟨List.mem_map.2 ⟨r[j], List.getElem_mem hj, rfl⟩, decide_eq_true ?_⟩, rfl⟩, decide_eq_true ⟨h2, h3⟩⟩
    show lv ≤ h - r[j].since - 1
    omega
  · rintro ⟨p, h1, h2⟩
    have h2 := of_decide_eq_true h2
    obtain ⟨o, h3, rfl⟩ := List.mem_map.1 h1
    obtain ⟨h3, h4⟩ := List.mem_filter.1 h3
    obtain ⟨o, h5, rfl⟩ := List.mem_map.1 h3
    have h4 : lv ≤ h - o.since - 1 := of_decide_eq_true h4
    obtain ⟨j, hj, rfl⟩ := List.getElem_of_mem h5
    exact ⟨j, hj, hj, by omega, h2.1, h2.2⟩
theorem filt_succ {α : Type} (p : α → Bool) {l : List α} {i : Nat} (hi : i < l.length) : (l.take (i + 1)).filter p = if p l[i] = true then (l.take i).filter p ++ [l[i]] else (l.take i).filter p := by
  rw [List.take_succ_eq_append_getElem hi, List.filter_append]
  by_cases h : p l[i] = true
  · rw [if_pos h, List.filter_cons_of_pos h]; rfl
  · rw [if_neg h, List.filter_cons_of_neg h]; simp
attribute [local irreducible] CG NG SG Vals Der Row Blk MapIs IterAt DerX DerR wrongT nameT
set_option maxHeartbeats 32000000 in
theorem rmust_spec {w : World} {n : Nat} {a : Option Addr} {c : Nat} {ws : List Wm} {room h lv : Int} (hP : PD w n a c ws) (hl : ws.length ≤ 1024) (hsc : ∀ e ∈ ws, 0 ≤ e.since ∧ e.since ≤ 1099511627776) (h0 : 0 ≤ lv) (h1 : lv ≤ 1000000) : RetO Try.prog 88 wc 14 16 #[.agg (pdc room a ws.length c).toArray, .int .i64 h, .int .i64 lv] w ((ordW ws).filter (mustB ws h lv)) := by
  refine enter3 Try.func16 rfl Try.ntmps16 rfl ?_
  repeat (first|apply cA|apply cB)
  refine SG.box rfl rfl rfl (by exact rho_of rfl) (fun b1 w1 hk1 hb1 hB1 => ?_)
  have hB1 : Blk w1 b1 (.cells (pdc room a ws.length c).toArray 26) := hB1
  obtain ⟨q, -, -⟩ := pdc_rows hB1
  have hln := ordW_len ws
  have hpm := ordW_perm ws
  clear hB1
  repeat (first|apply cA|apply cB|apply cD|apply cE|refine cV rfl rfl rfl rfl (by first|((first|apply qas|apply qla)<;>(first|exact rfl|assumption|exact List.not_mem_nil))|fail) ?_)
  refine SG.call rfl rfl rfl (vs := [.agg (pdc room a ws.length c).toArray]) (by repeat' (first | exact True.intro | exact rho_of rfl | refine And.intro ?_ ?_)) ((rorder_spec (hP.kp0 hk1) hl).mono (fun e w2 hh => ?_))
  obtain ⟨v2, he, ho2, hk2⟩ := hh
  refine ⟨_, he, ?_⟩
  clear he q
  have hsR : ∀ e ∈ ordW ws, 0 ≤ e.since ∧ e.since ≤ 1099511627776 := fun e he => hsc e (hpm.mem_iff.1 he)
  generalize ordW ws = r at hln hpm ho2 hsR
  have k2 := hk1.trans hk2
  have s1 := hk1.size
  obtain ⟨ar, cr, rfl, hcr, hS2⟩ := Sl.own wc_length ho2 rfl
  have ho2 := own_mono ho2 s1
  repeat (first|apply cA|apply cB|apply cD|apply cE|apply cG|refine cV rfl rfl rfl rfl (by first|(apply qas<;>(exact rfl))|fail) ?_)
  refine CG.loop (X := Nat × Value) (fun x => [(1, .int .i64 h), (2, .int .i64 lv), (7, .slice ar r.length cr), (8, x.2), (9, .int .i64 (x.1 : Int))])
    (fun x w' => x.1 ≤ r.length ∧ Kp [] w w' ∧ Sl wc 14 w' ar r ∧ w'.ownsRow w.heap.size 88 14 x.2 ((r.take x.1).filter (mustB ws h lv)).length (flt wc ((r.take x.1).filter (mustB ws h lv))) ∧ (∀ b, x.2.ownBlock = some b → ∀ o, ar ≠ some ⟨b, o, none⟩))
    (fun x => r.length - x.1) (0, .slice none 0 0) ⟨Nat.zero_le _, k2, hS2, own_nil, fun b hb => (by cases hb)⟩ (by (repeat' (first | exact True.intro | exact rfl | refine And.intro ?_ ?_))) ?_
  clear k2 hk2 ho2 hS2
  rintro ⟨i, vo⟩ w3 ⟨hi, hk3, hS3, ho3, hap⟩
  simp only at hi ho3 hap
  refine CG.to [(1, .int .i64 h), (2, .int .i64 lv), (7, .slice ar r.length cr), (8, vo), (9, .int .i64 (i : Int))] (by (repeat' (first | exact True.intro | exact rfl | refine And.intro ?_ ?_))) ?_
  have s3 := hk3.size
  by_cases hlt : i < r.length
  rotate_left
  · have g1 : ¬ (i : Int) < (r.length : Int) := by omega
    rw [List.take_of_length_le (by omega)] at ho3
    repeat (first|apply cA|apply cB|apply cD|apply cE|refine cV rfl rfl rfl rfl (by first|((first|apply qmv|apply qls|apply qln)<;>(first|exact rfl|exact dcf (by first|assumption|omega)|fail))|fail) ?_)
    refine dA rfl (by exact rho_of rfl) rfl ?_
    repeat (first|apply cA|apply cB|apply cD|apply cE|apply cH|apply cJ|apply cM|refine cQ rfl ?_|refine cV rfl rfl rfl rfl (by first|((first|apply qmv|apply qas)<;>(exact rfl))|fail) ?_)
    refine ret1 (Or.inl rfl) Try.results16 (by first | exact ResV.tmp rfl | exact ResV.agg rfl rfl (by assumption) (by first | exact dc_length _ | exact nc_length _ | exact rc_length _ _ _ | exact ec_length _ | exact dl_length _ _ _ _ | rfl) | exact ResV.cell rfl rfl (by assumption)) ?_
    exact ⟨vo, rfl, ho3, hk3⟩
  have g1 : (i : Int) < (r.length : Int) := by omega
  repeat (first|apply cA|apply cB|apply cD|apply cE|refine cV rfl rfl rfl rfl (by first|((first|apply qmv|apply qls|apply qln)<;>(first|exact rfl|exact dct (by first|assumption|omega)|fail))|fail) ?_)
  refine cZ rfl (by exact rho_of rfl) rfl ?_
  repeat (first|apply cA|apply cB|apply cD|apply cE|apply cF|apply cG|refine cV rfl rfl rfl rfl (by first|(apply qas<;>(exact rfl))|fail) ?_)
  refine CG.loop (X := Nat × Bool) (fun x => [(1, .int .i64 h), (2, .int .i64 lv), (7, .slice ar r.length cr), (8, vo), (9, .int .i64 (i : Int)), (10, .bool x.2), (11, .int .i64 (x.1 : Int))]) (fun x w' => x.1 ≤ r.length ∧ Kp [] w3 w' ∧ (x.2 = true ↔ MustK r h lv r[i] x.1)) (fun x => r.length - x.1) (0, false) ⟨Nat.zero_le _, Kp.refl _ _, iff_of_false (by decide) MustK.zero⟩ (by (repeat' (first | exact True.intro | exact rfl | refine And.intro ?_ ?_))) ?_
  rintro ⟨k, fb⟩ w4 ⟨hk, hk4, hM⟩
  simp only at hk hM
  refine CG.to [(1, .int .i64 h), (2, .int .i64 lv), (7, .slice ar r.length cr), (8, vo), (9, .int .i64 (i : Int)), (10, .bool fb), (11, .int .i64 (k : Int))] (by (repeat' (first | exact True.intro | exact rfl | refine And.intro ?_ ?_))) ?_
  have hS4 := hS3.kp0 hk4
  obtain ⟨bl, ol, rfl, ri⟩ := hS4.at hlt
  by_cases hkl : k < r.length
  · have g3 : (k : Int) < (r.length : Int) := by omega
    obtain ⟨-, i0, i1, -, -⟩ := wc_rows ri
    have rk : Row w4 bl (ol + k * 14) (wc r[k]) := hS4.row (List.getElem?_eq_getElem hkl)
    obtain ⟨-, k0, k1, -, k4⟩ := wc_rows rk
    clear rk ri
    have hsu := MustK.succ (h := h) (lv := lv) (e := r[i]) hkl
    have hsk := hsR _ (List.getElem_mem hkl)
    repeat (first|apply cA|apply cB|apply cD|apply cE|refine cV rfl rfl rfl rfl (by first|((first|apply qmv|apply qls|apply qln)<;>(first|exact rfl|exact dct (by first|assumption|omega)|fail))|fail) ?_)
    refine cZ rfl (by exact rho_of rfl) rfl ?_
    cases fb with
    | true =>
      have hyes := hM.1 rfl
      by_cases hd : r[k].since + lv + 1 ≤ h
      · repeat (first|apply cA|apply cB|apply cD|apply cE|apply cF|apply cG|refine cV rfl rfl rfl rfl (by first|((first|apply qmv|apply qas|apply qlc|apply qfa|apply qix|apply qad|apply qge)<;>(first|exact rfl|exact Ar.mk (by omega)|assumption|exact dct (by first|assumption|omega)|exact List.not_mem_nil|fail))|fail) ?_)
        refine CG.tail mixed 34 [0, 1, 2, 3, 4, 5, 6, 7, 8, 9, 10, 11, 12, 13, 14, 15, 16, 17, 18, 19, 20, 21, 22, 23, 24, 25, 26, 27, 28, 29, 30, 31, 32, 33] (by kernel_rfl) ?_
        repeat (first | refine cY rfl rfl rfl (by first|((first|apply qmv|apply qpk)<;>(exact rfl))|fail) ?_ | refine Der.skip rfl rfl ?_)
        refine Der.tl (fun w6 hk6 _ _ => ?_)
        repeat (first|apply cB|apply cD|apply cE|apply cU|refine cV rfl rfl rfl rfl (by first|((first|apply qmv|apply qas|apply qad)<;>(first|exact rfl|exact Ar.mk (by omega)|fail))|fail) ?_)
        refine NG.round (k + 1, true) (by (repeat' (first | exact True.intro | exact rfl | refine And.intro ?_ ?_))) ⟨by simp only; omega, hk4.trans hk6, iff_of_true rfl (hsu.2 (Or.inl hyes))⟩ (by simp only; omega)
      · repeat (first|apply cA|apply cB|apply cD|apply cE|apply cF|apply cG|refine cV rfl rfl rfl rfl (by first|((first|apply qmv|apply qas|apply qlc|apply qfa|apply qix|apply qad|apply qge)<;>(first|exact rfl|exact Ar.mk (by omega)|assumption|exact dcf (by first|assumption|omega)|exact List.not_mem_nil|fail))|fail) ?_)
        refine CG.tail mixed 34 [0, 1, 2, 3, 4, 5, 6, 7, 8, 9, 10, 11, 12, 13, 14, 15, 16, 17, 18, 19, 20, 21, 22, 23, 24, 25, 26, 27, 28, 29, 30, 31, 32, 33] (by kernel_rfl) ?_
        repeat (first | refine cY rfl rfl rfl (by first|((first|apply qmv|apply qpk)<;>(exact rfl))|fail) ?_ | refine Der.skip rfl rfl ?_)
        refine Der.tl (fun w6 hk6 _ _ => ?_)
        repeat (first|apply cB|apply cD|apply cE|apply cU|refine cV rfl rfl rfl rfl (by first|((first|apply qmv|apply qas|apply qad)<;>(first|exact rfl|exact Ar.mk (by omega)|fail))|fail) ?_)
        refine NG.round (k + 1, true) (by (repeat' (first | exact True.intro | exact rfl | refine And.intro ?_ ?_))) ⟨by simp only; omega, hk4.trans hk6, iff_of_true rfl (hsu.2 (Or.inl hyes))⟩ (by simp only; omega)
    | false =>
      have hno : ¬ MustK r h lv r[i] k := fun h => Bool.noConfusion (hM.2 h)
      by_cases hd : r[k].since + lv + 1 ≤ h
      · by_cases he : r[k].x.t.frm = r[i].x.t.frm
        · by_cases hn : r[i].x.t.non ≤ r[k].x.t.non
          · repeat (first|apply cA|apply cB|apply cD|apply cE|apply cF|apply cG|refine cV rfl rfl rfl rfl (by first|((first|apply qmv|apply qas|apply qlc|apply qfa|apply qix|apply qad|apply qge)<;>(first|exact rfl|exact Ar.mk (by omega)|assumption|exact dct (by first|assumption|omega)|exact List.not_mem_nil|fail))|fail) ?_)
            refine CG.tail mixed 34 [0, 1, 2, 3, 4, 5, 6, 7, 8, 9, 10, 11, 12, 13, 14, 15, 16, 17, 18, 19, 20, 21, 22, 23, 24, 25, 26, 27, 28, 29, 30, 31, 32, 33] (by kernel_rfl) ?_
            repeat (refine cY rfl rfl rfl (by first|((first|apply qmv|apply qlc|apply qla|apply qfa|apply qix|apply qpk|apply qed|apply qge)<;>(first|exact rfl|exact Ar.mk (by omega)|assumption|exact dct (by first|assumption|omega)|exact List.not_mem_nil|apply dc_length|fail))|fail) ?_)
            refine Der.tl (fun w6 hk6 _ _ => ?_)
            repeat (first|apply cB|apply cD|apply cE|apply cU|refine cV rfl rfl rfl rfl (by first|((first|apply qmv|apply qas|apply qad)<;>(first|exact rfl|exact Ar.mk (by omega)|fail))|fail) ?_)
            refine NG.round (k + 1, true) (by (repeat' (first | exact True.intro | exact rfl | refine And.intro ?_ ?_))) ⟨by simp only; omega, hk4.trans hk6, iff_of_true rfl (hsu.2 (Or.inr ⟨hd, he, hn⟩))⟩ (by simp only; omega)
          · repeat (first|apply cA|apply cB|apply cD|apply cE|apply cF|apply cG|refine cV rfl rfl rfl rfl (by first|((first|apply qmv|apply qas|apply qlc|apply qfa|apply qix|apply qad|apply qge)<;>(first|exact rfl|exact Ar.mk (by omega)|assumption|exact dct (by first|assumption|omega)|exact List.not_mem_nil|fail))|fail) ?_)
            refine CG.tail mixed 34 [0, 1, 2, 3, 4, 5, 6, 7, 8, 9, 10, 11, 12, 13, 14, 15, 16, 17, 18, 19, 20, 21, 22, 23, 24, 25, 26, 27, 28, 29, 30, 31, 32, 33] (by kernel_rfl) ?_
            repeat (refine cY rfl rfl rfl (by first|((first|apply qmv|apply qlc|apply qla|apply qfa|apply qix|apply qpk|apply qed|apply qge)<;>(first|exact rfl|exact Ar.mk (by omega)|assumption|exact dct (by first|assumption|omega)|exact dcf (by first|assumption|omega)|exact List.not_mem_nil|apply dc_length|fail))|fail) ?_)
            refine Der.tl (fun w6 hk6 _ _ => ?_)
            repeat (first|apply cB|apply cD|apply cE|apply cU|refine cV rfl rfl rfl rfl (by first|((first|apply qmv|apply qas|apply qad)<;>(first|exact rfl|exact Ar.mk (by omega)|fail))|fail) ?_)
            refine NG.round (k + 1, false) (by (repeat' (first | exact True.intro | exact rfl | refine And.intro ?_ ?_))) ⟨by simp only; omega, hk4.trans hk6, iff_of_false Bool.false_ne_true (fun h => (hsu.1 h).elim hno (fun h => hn h.2.2))⟩ (by simp only; omega)
        · repeat (first|apply cA|apply cB|apply cD|apply cE|apply cF|apply cG|refine cV rfl rfl rfl rfl (by first|((first|apply qmv|apply qas|apply qlc|apply qfa|apply qix|apply qad|apply qge)<;>(first|exact rfl|exact Ar.mk (by omega)|assumption|exact dct (by first|assumption|omega)|exact List.not_mem_nil|fail))|fail) ?_)
          refine CG.tail mixed 34 [0, 1, 2, 3, 4, 5, 6, 7, 8, 9, 10, 11, 12, 13, 14, 15, 16, 17, 18, 19, 20, 21, 22, 23, 24, 25, 26, 27, 28, 29, 30, 31, 32, 33] (by kernel_rfl) ?_
          repeat (first | refine cY rfl rfl rfl (by first|((first|apply qmv|apply qla|apply qfa|apply qix|apply qpk|apply qed)<;>(first|exact rfl|exact Ar.mk (by omega)|assumption|exact dcf (by first|assumption|omega)|exact List.not_mem_nil|apply dc_length|fail))|fail) ?_ | refine Der.skip rfl rfl ?_)
          refine Der.tl (fun w6 hk6 _ _ => ?_)
          repeat (first|apply cB|apply cD|apply cE|apply cU|refine cV rfl rfl rfl rfl (by first|((first|apply qmv|apply qas|apply qad)<;>(first|exact rfl|exact Ar.mk (by omega)|fail))|fail) ?_)
          refine NG.round (k + 1, false) (by (repeat' (first | exact True.intro | exact rfl | refine And.intro ?_ ?_))) ⟨by simp only; omega, hk4.trans hk6, iff_of_false Bool.false_ne_true (fun h => (hsu.1 h).elim hno (fun h => he h.2.1))⟩ (by simp only; omega)
      · repeat (first|apply cA|apply cB|apply cD|apply cE|apply cF|apply cG|refine cV rfl rfl rfl rfl (by first|((first|apply qmv|apply qas|apply qlc|apply qfa|apply qix|apply qad|apply qge)<;>(first|exact rfl|exact Ar.mk (by omega)|assumption|exact dcf (by first|assumption|omega)|exact List.not_mem_nil|fail))|fail) ?_)
        refine CG.tail mixed 34 [0, 1, 2, 3, 4, 5, 6, 7, 8, 9, 10, 11, 12, 13, 14, 15, 16, 17, 18, 19, 20, 21, 22, 23, 24, 25, 26, 27, 28, 29, 30, 31, 32, 33] (by kernel_rfl) ?_
        repeat (first | refine cY rfl rfl rfl (by first|((first|apply qmv|apply qpk)<;>(exact rfl))|fail) ?_ | refine Der.skip rfl rfl ?_)
        refine Der.tl (fun w6 hk6 _ _ => ?_)
        repeat (first|apply cB|apply cD|apply cE|apply cU|refine cV rfl rfl rfl rfl (by first|((first|apply qmv|apply qas|apply qad)<;>(first|exact rfl|exact Ar.mk (by omega)|fail))|fail) ?_)
        refine NG.round (k + 1, false) (by (repeat' (first | exact True.intro | exact rfl | refine And.intro ?_ ?_))) ⟨by simp only; omega, hk4.trans hk6, iff_of_false Bool.false_ne_true (fun h => (hsu.1 h).elim hno (fun h => hd h.1))⟩ (by simp only; omega)
  have g3 : ¬ (k : Int) < (r.length : Int) := by omega
  have ek : k = r.length := by omega
  subst ek
  rw [MustK.full hpm] at hM
  have hsf := filt_succ (mustB ws h lv) hlt
  have k4 := hk3.trans hk4
  repeat (first|apply cA|apply cB|apply cD|apply cE|refine cV rfl rfl rfl rfl (by first|((first|apply qmv|apply qls|apply qln)<;>(first|exact rfl|exact dcf (by first|assumption|omega)|fail))|fail) ?_)
  refine dA rfl (by exact rho_of rfl) rfl ?_
  cases fb with
  | false =>
    have hno : ¬ mustB ws h lv r[i] = true := fun h => Bool.noConfusion (hM.2 h)
    rw [if_neg hno] at hsf
    repeat (first|apply cA|apply cB|apply cD|apply cE|apply cJ|apply cM|refine cQ rfl ?_|refine cV rfl rfl rfl rfl (by first|(apply qmv<;>(exact rfl))|fail) ?_)
    refine dA rfl (by exact rho_of rfl) rfl ?_
    repeat (first|apply cB|apply cD|apply cE|apply cF|apply cU|refine cV rfl rfl rfl rfl (by first|((first|apply qmv|apply qas|apply qad)<;>(first|exact rfl|exact Ar.mk (by omega)|fail))|fail) ?_)
    refine NG.round (i + 1, vo) (by (repeat' (first | exact True.intro | exact rfl | refine And.intro ?_ ?_))) ⟨by simp only; omega, k4, hS4, ?_, hap⟩ (by simp only; omega)
    simp only
    rw [hsf]
    exact own_kp0 ho3 hk4
  | true =>
    rw [if_pos (hM.1 rfl)] at hsf
    have hml : ((r.take i).filter (mustB ws h lv)).length ≤ 1024 := Nat.le_trans (List.length_filter_le _ _) (by rw [List.length_take]; omega)
    repeat (first|apply cA|apply cB|apply cD|apply cE|apply cJ|apply cM|refine cQ rfl ?_|refine cV rfl rfl rfl rfl (by first|(apply qmv<;>(exact rfl))|fail) ?_)
    refine cZ rfl (by exact rho_of rfl) rfl ?_
    repeat (first|apply cB|refine cV rfl rfl rfl rfl (by first|((first|apply qmv|apply qla|apply qix)<;>(first|exact rfl|exact Ar.mk (by omega)|assumption|exact List.not_mem_nil|apply wc_length|fail))|fail) ?_)
    refine SG.buildSlice rfl rfl rfl rfl (bsw r[i]) (fun b6 w6 hk6 hb6 hB6 => ?_)
    have hS6 : Sl wc 14 w6 (some ⟨b6, 0, none⟩) [r[i]] := sl_one wc_length hB6
    have k6 := k4.trans hk6
    have ho6 := own_kp0 (own_kp0 ho3 hk4) hk6
    clear ri
    skip
    refine SG.appO (enc := wc) (xs := (r.take i).filter (mustB ws h lv)) (ys := [r[i]]) (base := w.heap.size) rfl rfl rfl (by exact rho_of rfl) (by exact rho_of rfl) rfl rfl rfl rfl wc_length wc_one ho6 hS6 (by simp only [maxLen, List.length_cons, List.length_nil]; omega) (by simp only [List.length_cons, List.length_nil]; show (_ + _) * 88 ≤ _; omega) k6.size (fun v' w7 hk7 ho7 hv7 => ?_)
    have hS6' := hS4.kp0 hk6
    have k7 : Kp [] w w7 := k6.trans_new hk7 (own_new ho6 (Nat.le_refl _))
    have lbl := (hS6'.at hlt)
    have hS7 : Sl wc 14 w7 (some ⟨bl, ol, none⟩) r := hS6'.kp hk7 (fun b off e hb => hap b (ownB_mem hb) off e)
    have hne : bl < w6.heap.size := (hS6'.row (List.getElem?_eq_getElem hlt)).lt
    repeat (first|apply cB|apply cD|apply cE|apply cU|refine cV rfl rfl rfl rfl (by first|((first|apply qmv|apply qas|apply qad)<;>(first|exact rfl|exact Ar.mk (by omega)|fail))|fail) ?_)
    refine NG.round (i + 1, v') (by (repeat' (first | exact True.intro | exact rfl | refine And.intro ?_ ?_))) ⟨by simp only; omega, k7, hS7, ?_, fun b hb o e => ?_⟩ (by simp only; omega)
    · simp only
      rw [hsf]
      exact ho7
    · simp only at hb
      rcases hv7 b hb with h | h
      · exact hap b h o e
      · cases e
        omega
set_option maxHeartbeats 16000000 in
theorem wsame_spec {w : World} {n m : Nat} {a a2 : Option Addr} (c c2 : Nat) {xs : List Tm} {ws : List Wm} (hX : Sl txc 13 w a xs) (hW : Sl wc 14 w a2 ws) (hx : ∀ x ∈ xs, x.In n w) (hw : ∀ e ∈ ws, e.x.In m w) (hl : xs.length ≤ 100000) (h : xs.map (·.t) = ws.map (fun e => e.x.t)) : Ret Try.prog 15 #[.slice a xs.length c, .slice a2 ws.length c2] w (.bool true) := by
  refine enter2 Try.func15 rfl Try.ntmps15 rfl ?_
  have hlen : xs.length = ws.length := by have := congrArg List.length h; rwa [List.length_map, List.length_map] at this
  have g0 : (xs.length : Int) = (ws.length : Int) := by omega
  repeat (first|apply cA|apply cB|apply cD|apply cE|refine cV rfl rfl rfl rfl (by first|((first|apply qmv|apply qas|apply qni|apply qln)<;>(first|exact rfl|exact dct (by first|assumption|omega)|fail))|fail) ?_)
  refine dA rfl (by exact rho_of rfl) rfl ?_
  repeat (first|apply cA|apply cB|apply cD|apply cE|apply cF|apply cG|refine cV rfl rfl rfl rfl (by first|(apply qas<;>(exact rfl))|fail) ?_)
  refine CG.loop (X := Nat) (fun i => [(0, .slice a xs.length c), (1, .slice a2 ws.length c2), (5, .int .i64 (i : Int))]) (fun i w' => i ≤ xs.length ∧ Kp [] w w') (fun i => xs.length - i) 0 ⟨Nat.zero_le _, Kp.refl _ _⟩ (by (repeat' (first | exact True.intro | exact rfl | refine And.intro ?_ ?_))) ?_
  rintro i w1 ⟨hi, hk1⟩
  refine CG.to [(0, .slice a xs.length c), (1, .slice a2 ws.length c2), (5, .int .i64 (i : Int))] (by (repeat' (first | exact True.intro | exact rfl | refine And.intro ?_ ?_))) ?_
  by_cases hlt : i < xs.length
  · have g1 : (i : Int) < (xs.length : Int) := by omega
    have hlt2 : i < ws.length := by omega
    have heq : xs[i].t = ws[i].x.t := by
      have := congrArg (fun l => l[i]?) h
      simp only [List.getElem?_map, List.getElem?_eq_getElem hlt, List.getElem?_eq_getElem hlt2, Option.map_some, Option.some.injEq] at this
      exact this
    obtain ⟨b1, o1, rfl, r1⟩ := (hX.kp0 hk1).at hlt
    obtain ⟨b2, o2, rfl, r2⟩ := (hW.kp0 hk1).at hlt2
    obtain ⟨q2, -, -, -, -⟩ := wc_rows r2
    clear r2
    repeat (first|apply cA|apply cB|apply cD|apply cE|refine cV rfl rfl rfl rfl (by first|((first|apply qmv|apply qls|apply qln)<;>(first|exact rfl|exact dct (by first|assumption|omega)|fail))|fail) ?_)
    refine cZ rfl (by exact rho_of rfl) rfl ?_
    repeat (first|apply cA|apply cE|apply cF|apply cG)
    refine CG.tail mixed 10 [0, 1, 2, 3, 4, 5, 6, 7, 8, 9] (by kernel_rfl) ?_
    repeat (refine cY rfl rfl rfl (by first|((first|apply qmv|apply qla|apply qix)<;>(first|exact rfl|exact Ar.mk (by omega)|assumption|exact List.not_mem_nil|apply txc_length|fail))|fail) ?_)
    refine Der.call rfl rfl rfl (vs := [txv xs[i]]) (by repeat' (first | exact True.intro | exact rho_of rfl | refine And.intro ?_ ?_)) (fun W hk _ => tof_spec xs[i]) ?_
    repeat (refine cY rfl rfl rfl (by first|((first|apply qmv|apply qla|apply qfa|apply qix)<;>(first|exact rfl|exact Ar.mk (by omega)|assumption|exact List.not_mem_nil|apply txc_length|fail))|fail) ?_)
    refine Der.tl (fun w2 hk2 _ _ => ?_)
    have ts := rtsame_spec (((hx _ (List.getElem_mem hlt)).kp0 hk1).kp0 hk2) (((hw _ (List.getElem_mem hlt2)).kp0 hk1).kp0 hk2)
    rw [txEq_t heq] at ts
    refine SG.ret rfl rfl rfl (vs := [txv xs[i], txv ws[i].x]) (by repeat' (first | exact True.intro | exact rho_of rfl | refine And.intro ?_ ?_)) ts (fun w3 hk3 => ?_)
    repeat (first|apply cD|apply cE|refine cV rfl rfl rfl rfl (by first|(apply qnt<;>(exact rfl))|fail) ?_)
    refine dA rfl (by exact rho_of rfl) rfl ?_
    repeat (first|apply cB|apply cD|apply cE|apply cF|apply cU|refine cV rfl rfl rfl rfl (by first|((first|apply qmv|apply qas|apply qad)<;>(first|exact rfl|exact Ar.mk (by omega)|fail))|fail) ?_)
    refine NG.round (i + 1) (by (repeat' (first | exact True.intro | exact rfl | refine And.intro ?_ ?_))) ⟨by omega, (hk1.trans hk2).trans hk3⟩ (by omega)
  have g1 : ¬ (i : Int) < (xs.length : Int) := by omega
  repeat (first|apply cA|apply cB|apply cD|apply cE|refine cV rfl rfl rfl rfl (by first|((first|apply qmv|apply qls|apply qln)<;>(first|exact rfl|exact dcf (by first|assumption|omega)|fail))|fail) ?_)
  refine dA rfl (by exact rho_of rfl) rfl ?_
  repeat (first|apply cA|apply cB|apply cD|apply cE|apply cH|apply cJ|apply cM|refine cQ rfl ?_|refine cV rfl rfl rfl rfl (by first|(apply qas<;>(exact rfl))|fail) ?_)
  refine ret1 (Or.inl rfl) Try.results15 (by first | exact ResV.tmp rfl | exact ResV.agg rfl rfl (by assumption) (by first | exact dc_length _ | exact nc_length _ | exact rc_length _ _ _ | exact ec_length _ | exact dl_length _ _ _ _ | rfl) | exact ResV.cell rfl rfl (by assumption)) ?_
  exact ⟨rfl, hk1⟩
end Go.Proofs.Ytgbgnlboogalgaa
namespace Go.Proofs.Ytgbgnlboogalgaa
open Go.Proofs
set_option linter.unusedVariables false
theorem must_doc {ws : List Wm} {h lv : Int} : ((ordW ws).filter (mustB ws h lv)).map (fun e => e.x.t) = ((ordE (ws.map Wm.en)).filter (upB (dueL (ws.map Wm.en) h lv))).map (·.t) := by
  rw [← ordW_en, List.filter_map, List.map_map]
  rfl
theorem len_must {xs : List Tm} {l : List En} (h : xs.map (·.t) = l.map (·.t)) : xs.length = l.length := by
  have := congrArg List.length h
  rwa [List.length_map, List.length_map] at this
def bdc (l : Int) : List Value := [.int .i64 0, .int .i64 l, .int .i64 0]
theorem fit_nat {n : Nat} (h : n < 1000000) : fit64 (n : Int) := ⟨by omega, by omega⟩
attribute [local irreducible] CG NG SG Vals Der Row Blk MapIs IterAt DerX DerR wrongT nameT
set_option maxHeartbeats 64000000 in
theorem must_walk (w : World) (a : Option Addr) (c : Nat) (xs : List Tm) (hX : TxsR w w.heap.size a xs) (z : Int) (lv : UInt8) : Ret Try.prog 5 #[.slice a xs.length c, .int .i64 z, bv lv] w (.bool true) := by
  refine enter3 Try.func5 rfl Try.ntmps5 rfl ?_
  have hlv : lv.toNat < 256 := lv.toNat_lt
  generalize hq : lv.toNat = q at hlv
  repeat (first|apply cA|apply cB|apply cD|apply cE|refine cV rfl rfl rfl rfl (by first|((first|apply qmv|apply qas)<;>(exact rfl))|fail) ?_)
  refine SG.call rfl rfl rfl (vs := [.slice a xs.length c, .int .i64 ((20 : Nat) : Int)]) (by repeat' (first | exact True.intro | exact rho_of rfl | refine And.intro ?_ ?_)) ((cuts_spec (c := c) hX (most := 20) (by omega) (Nat.le_refl _)).mono (fun e w1 hh => ?_))
  obtain ⟨v1, he, hk1, hN⟩ := hh
  refine ⟨_, he, ?_⟩
  clear he
  obtain ⟨a1, c1, rfl, hc1, hXI⟩ := hN.toI
  generalize hys : (xs.take 20).map cutM = ys at hXI hc1
  have hyl : ys.length ≤ 20 := by rw [← hys, List.length_map, List.length_take]; omega
  clear hN hys
  refine SG.call rfl rfl rfl (vs := [.slice a1 ys.length c1]) (by repeat' (first | exact True.intro | exact rho_of rfl | refine And.intro ?_ ?_)) ((filled_spec hXI (by omega) hk1.size).mono (fun e w2 hh => ?_))
  obtain ⟨p, v, ms, a', c', ws, he, hk2, hP, hp, hv, hD, hms, hws⟩ := hh
  refine ⟨_, he, ?_⟩
  clear he
  have k2 := hk1.trans hk2
  have hI : PInv 30 (ms.map Em.en) := by rw [hms]; exact fillL_inv _ _
  have hsi : ∀ e ∈ ms.map Em.en, 0 ≤ e.since ∧ e.since ≤ 9 := fun e he => by
    rw [hms] at he
    unfold fill at he
    have := fill_since (ys.map (·.t)) _ e he
    rw [List.length_map] at this
    omega
  rw [← hms] at hws
  generalize hl : ms.map Em.en = l at hI hsi hws
  have hlen := hI.len
  have hml : ms.length = l.length := by rw [← hl, List.length_map]
  have hwl : ws.length = l.length := by rw [← hws, List.length_map]
  have hsc : ∀ e ∈ ws, 0 ≤ e.since ∧ e.since ≤ 1099511627776 := fun e he => by
    have := hsi e.en (by rw [← hws]; exact List.mem_map.2 ⟨e, he, rfl⟩)
    have h1 : 0 ≤ e.since ∧ e.since ≤ 9 := this
    omega
  repeat (first|refine cV rfl rfl rfl rfl (by first|((first|apply qmv|apply qxt)<;>(exact rfl))|fail) ?_)
  refine SG.alloc rfl rfl rfl (fun b8 w3 hk3 hb8 hB8 => ?_)
  have hB8 : Blk w3 b8 (.cells (pdc 0 none 0 0).toArray 26) := hB8
  repeat (first|refine cV rfl rfl rfl rfl (by first|(apply qas<;>(exact rfl))|fail) ?_)
  refine SG.setAll (l := pdc 30 a' ws.length c') rfl rfl (by exact rho_of rfl) (by exact rho_of rfl) hB8 rfl rfl rfl (fun w4 hk4 hB8 => ?_)
  have k24 : Kp [] w2 w4 := hk3.trans_new hk4 (new1 (by omega))
  have k4 := k2.trans k24
  have hP := hP.kp0 k24
  have hD := hD.kp0 k24
  have r8 : Row w4 b8 0 (pdc 30 a' ws.length c') := Row.all hB8 rfl
  repeat (first|apply cA|apply cB|apply cD|apply cE|refine cV rfl rfl rfl rfl (by first|((first|apply qep|apply qmv|apply qep)<;>(exact rfl))|fail) ?_)
  refine dA rfl (by exact rho_of rfl) rfl ?_
  obtain ⟨m, hm, hm20⟩ := mod_n z 400 (by omega) (by omega)
  have hm : IntKind.wrap .i64 (IntKind.wrap .u64 z % 400) = (m : Int) := hm
  have hw0 : 0 ≤ IntKind.wrap .u64 z := (wrap64_bd z).1
  repeat (first|apply cA|apply cB|apply cD|apply cE|apply cF|refine cV rfl rfl rfl rfl (by first|((first|apply qb3|apply qru|apply qmv|apply qas|apply qcv)<;>(first|exact rfl|exact Ar.mk (by omega)|fail))|fail) ?_)
  rw [hm, hq]
  refine cV rfl rfl rfl rfl (vals_build rfl (bbnd (q : Int))) ?_
  refine SG.alloc rfl rfl rfl (fun b9 w5 hk5 hb9 hB9 => ?_)
  have hB9 : Blk w5 b9 (.cells (bdc 0).toArray 42) := hB9
  refine SG.setAll (l := bdc (q : Int)) rfl rfl (by exact rho_of rfl) (by exact rho_of rfl) hB9 rfl rfl rfl (fun w6 hk6 hB9 => ?_)
  have k46 : Kp [] w4 w6 := hk5.trans_new hk6 (new1 (by omega))
  have k6 := k4.trans k46
  have hP := hP.kp0 k46
  have hD := hD.kp0 k46
  have r8 := r8.kp0 k46
  have r9 : Row w6 b9 0 (bdc (q : Int)) := Row.all hB9 rfl
  have fq := fit_nat (n := q) (by omega)
  clear hB8 hB9
  repeat (first|apply cA|apply cB|apply cD|apply cE|refine cV rfl rfl rfl rfl (by first|((first|apply qmv|apply qla)<;>(first|exact rfl|assumption|exact List.not_mem_nil))|fail) ?_)
  refine SG.call rfl rfl rfl (vs := [.pointer (some ⟨p, 0, none⟩), .int .i64 (m : Int), .agg (bdc (q : Int)).toArray]) (by repeat' (first | exact True.intro | exact rho_of rfl | refine And.intro ?_ ?_)) ((must_spec hP (by rw [hl]; exact hI) (by omega) (fit_nat (n := m) (by omega)) fq).mono (fun e w7 hh => ?_))
  obtain ⟨v7, us, he, hk7, hU, hus⟩ := hh
  refine ⟨_, he, ?_⟩
  clear he
  rw [hl] at hus
  have k7 := k6.trans hk7
  have hP := hP.kp0 hk7
  have hD := hD.kp0 hk7
  have r8 := r8.kp0 hk7
  have r9 := r9.kp0 hk7
  obtain ⟨au, cu, rfl, hcu, hSu⟩ := hU.sl
  repeat (first|apply cA|apply cB|apply cD|apply cE|refine cV rfl rfl rfl rfl (by first|((first|apply qb3|apply qmv|apply qas|apply qla)<;>(first|exact rfl|assumption|exact List.not_mem_nil))|fail) ?_)
  rw [hq]
  refine SG.call rfl rfl rfl (vs := [.agg (pdc 30 a' ws.length c').toArray, .int .i64 (m : Int), .int .i64 (q : Int)]) (by repeat' (first | exact True.intro | exact rho_of rfl | refine And.intro ?_ ?_)) ((rmust_spec hD (by omega) hsc (by omega) (by omega)).mono (fun e w8 hh => ?_))
  obtain ⟨v8, he, ho8, hk8⟩ := hh
  refine ⟨_, he, ?_⟩
  clear he
  obtain ⟨ao, co, rfl, hco, hSo⟩ := Sl.own wc_length ho8 rfl
  have k8 := k7.trans hk8
  have hP := hP.kp0 hk8
  have hD := hD.kp0 hk8
  have r9 := r9.kp0 hk8
  have heq : us.map (·.t) = ((ordW ws).filter (mustB ws (m : Int) (q : Int))).map (fun e => e.x.t) := by rw [must_doc, hws, hus]
  have hul := len_must hus
  have hfl : ((ordE l).filter (upB (dueL l (m : Int) (q : Int)))).length ≤ l.length := Nat.le_trans (List.length_filter_le _ _) (Nat.le_of_eq (ordE_length l))
  refine SG.ret rfl rfl rfl (vs := [.slice au us.length cu, .slice ao ((ordW ws).filter (mustB ws (m : Int) (q : Int))).length co]) (by repeat' (first | exact True.intro | exact rho_of rfl | refine And.intro ?_ ?_)) (wsame_spec cu co (hSu.kp0 hk8) hSo (fun x hx => (hU.ins x hx).kp0 hk8) (fun e he => hD.ins e ((ordW_perm ws).mem_iff.1 (List.mem_filter.1 he).1)) (by omega) heq) (fun w9 hk9 => ?_)
  have k9 := k8.trans hk9
  have hP := hP.kp0 hk9
  have r9 := r9.kp0 hk9
  clear r8 hD hSo ho8 heq hSu
  repeat (first|refine cV rfl rfl rfl rfl (by first|((first|apply qmv|apply qla|apply qad|apply qnt)<;>(first|exact rfl|exact Ar.mk (by omega)|assumption|exact List.not_mem_nil|fail))|fail) ?_)
  refine SG.call rfl rfl rfl (vs := [.pointer (some ⟨p, 0, none⟩), .int .i64 ((m : Int) + 1), .agg (bdc (q : Int)).toArray]) (by repeat' (first | exact True.intro | exact rho_of rfl | refine And.intro ?_ ?_)) ((must_spec hP (by rw [hl]; exact hI) (by omega) ⟨by omega, by omega⟩ fq).mono (fun e w10 hh => ?_))
  obtain ⟨v10, us2, he, hk10, hU2, hus2⟩ := hh
  refine ⟨_, he, ?_⟩
  clear he
  rw [hl] at hus2
  have k10 := k9.trans hk10
  have hP := hP.kp0 hk10
  have r9 := r9.kp0 hk10
  obtain ⟨a2, c2, rfl, -, -⟩ := hU2.sl
  have hul2 := len_must hus2
  have hmm := must_more l (m : Int) (q : Int)
  have g1 : ¬ (us2.length : Int) < (us.length : Int) := by omega
  repeat (first|apply cD|apply cE|refine cV rfl rfl rfl rfl (by first|((first|apply qmv|apply qpk|apply qls|apply qln)<;>(first|exact rfl|exact dcf (by first|assumption|omega)|fail))|fail) ?_)
  refine dA rfl (by exact rho_of rfl) rfl ?_
  repeat (first|apply cA|apply cB|apply cE|apply cF)
  refine SG.ret rfl rfl rfl (vs := []) (by repeat' (first | exact True.intro | exact rho_of rfl | refine And.intro ?_ ?_)) (known_spec w10) (fun w11 hk11 => ?_)
  have k11 := k10.trans hk11
  have hP := hP.kp0 hk11
  have r9 := r9.kp0 hk11
  repeat (first|refine cV rfl rfl rfl rfl (by first|((first|apply qb3|apply qmv|apply qla|apply qad)<;>(first|exact rfl|exact Ar.mk (by omega)|assumption|exact List.not_mem_nil|fail))|fail) ?_)
  rw [hq]
  skip
  refine SG.call rfl rfl rfl (vs := [.pointer (some ⟨p, 0, none⟩), .int .i64 (10 + (q : Int)), .agg (bdc (q : Int)).toArray]) (by repeat' (first | exact True.intro | exact rho_of rfl | refine And.intro ?_ ?_)) ((must_spec hP (by rw [hl]; exact hI) (by omega) ⟨by omega, by omega⟩ fq).mono (fun e w12 hh => ?_))
  obtain ⟨v12, us3, he, hk12, hU3, hus3⟩ := hh
  refine ⟨_, he, ?_⟩
  clear he
  rw [hl] at hus3
  have k12 := k11.trans hk12
  have hP := hP.kp0 hk12
  have r9 := r9.kp0 hk12
  obtain ⟨a3, c3, rfl, -, -⟩ := hU3.sl
  have hul3 := len_must hus3
  rw [must_all (fun e he => (hsi e he).2)] at hul3
  have hln := len_spec hP
  repeat (first|refine cV rfl rfl rfl rfl (by first|((first|apply qmv|apply qln)<;>(exact rfl))|fail) ?_)
  refine SG.ret rfl rfl rfl (vs := [.pointer (some ⟨p, 0, none⟩)]) (by repeat' (first | exact True.intro | exact rho_of rfl | refine And.intro ?_ ?_)) hln (fun w13 hk13 => ?_)
  have k13 := k12.trans hk13
  have hP := hP.kp0 hk13
  have r9 := r9.kp0 hk13
  have g2 : (us3.length : Int) = (ms.length : Int) := by omega
  repeat (first|refine cV rfl rfl rfl rfl (by first|((first|apply qb3|apply qmv|apply qla|apply qpk|apply qei)<;>(first|exact rfl|assumption|exact dct (by first|assumption|omega)|exact List.not_mem_nil|fail))|fail) ?_)
  rw [hq]
  skip
  refine SG.call rfl rfl rfl (vs := [.pointer (some ⟨p, 0, none⟩), .int .i64 (q : Int), .agg (bdc (q : Int)).toArray]) (by repeat' (first | exact True.intro | exact rho_of rfl | refine And.intro ?_ ?_)) ((must_spec hP (by rw [hl]; exact hI) (by omega) fq fq).mono (fun e w14 hh => ?_))
  obtain ⟨v14, us4, he, hk14, hU4, hus4⟩ := hh
  refine ⟨_, he, ?_⟩
  clear he
  rw [hl] at hus4
  have k14 := k13.trans hk14
  obtain ⟨a4, c4, rfl, -, -⟩ := hU4.sl
  have hul4 := len_must hus4
  rw [must_none (fun e he => (hsi e he).1)] at hul4
  have g3 : (us4.length : Int) = 0 := by omega
  repeat (first|apply cD|apply cE|apply cH|refine cV rfl rfl rfl rfl (by first|((first|apply qas|apply qpk|apply qei|apply qln)<;>(first|exact rfl|exact dct (by first|assumption|omega)|fail))|fail) ?_)
  refine ret1 (Or.inl rfl) Try.results5 (by first | exact ResV.tmp rfl | exact ResV.agg rfl rfl (by assumption) (by first | exact dc_length _ | exact nc_length _ | exact rc_length _ _ _ | exact ec_length _ | exact dl_length _ _ _ _ | rfl) | exact ResV.cell rfl rfl (by assumption)) ?_
  exact ⟨rfl, k14⟩
end Go.Proofs.Ytgbgnlboogalgaa
