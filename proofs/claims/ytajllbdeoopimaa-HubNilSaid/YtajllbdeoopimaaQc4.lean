/-
  HubNil answers true for every input, and leaves its arguments as they were. No conditions.
-/
import Derived.Test.YtajllbdeoopimaaQc3
namespace Go.Proofs.Ytajllbdeoopimaa
set_option linter.unusedVariables false
/-- An iterator's value. -/
def Gv (g : FuncId) (lb : Array Value) (N : Nat) (S : List Dg → Prop) (w : World) : Prop := ∀ l J W, Kp [] w W → Jk W.heap.size J → Rd l N J → J [] W → Calls Try.prog g (#[.func (.yield l) #[] #[]] ++ lb) W (fun e w' => (∃ v, e = .returned v) ∧ ∃ xs, S xs ∧ J xs w')
theorem bsD' (w : World) (a0 a1 a2 a3 a4 a5 a6 a7 : UInt8) : (Instr.buildSlice 66 1 #[(0, .agg #[bv a0, bv a1, bv a2, bv a3, bv a4, bv a5, bv a6, bv a7])]).run Try.prog w = .ok (.slice (some ⟨w.heap.size, 0, none⟩) 1 1) { w with heap := w.heap.push (.cells #[bv a0, bv a1, bv a2, bv a3, bv a4, bv a5, bv a6, bv a7] 25) } := by kernel_rfl
theorem bsD (d : Dg) (w : World) : (Instr.buildSlice 66 1 #[(0, dv d)]).run Try.prog w = .ok (.slice (some ⟨w.heap.size, 0, none⟩) 1 1) { w with heap := w.heap.push (.cells (dc d).toArray 25) } := by
  obtain ⟨l, hl⟩ := d
  match l, hl with
  | [a0, a1, a2, a3, a4, a5, a6, a7], _ => exact bsD' w a0 a1 a2 a3 a4 a5 a6 a7
theorem own_cells {w : World} {base n sz z : Nat} {T : TypeId} {v : Value} {xs : List Value} (h : w.ownsRow base T sz v n xs) (hz : v.ownBlock = some z) : ∃ cs, Blk w z (.cells cs T) := by
  rcases h.2 with ⟨rfl, _⟩ | ⟨g, cap, cur, rfl, _, hgb, _⟩
  · cases hz
  · have : g = z := by simpa [Value.ownBlock] using hz
    subst this
    exact ⟨cur, hgb⟩
theorem kw_of {S : List Nat} {w w' : World} (hk : Kp S w w') (h : ∀ b ∈ S, ∃ o, Blk w b o ∧ o.isWalk = false) : KeepsWalks w w' := ⟨hk.size, fun b o hb ho => by
  refine (Blk.kp (o := o) hb hk (fun hm => ?_))
  obtain ⟨o', h1, h2⟩ := h b hm
  rw [h1.uniq hb, ho] at h2
  cases h2⟩
/-- What stands between two rounds. -/
structure Ap (w : World) (b2 D : Nat) (o : Obj) (xs : List Dg) (W : World) : Prop where
  box : ∃ v, Blk W b2 (.cells #[v] 66) ∧ W.ownsRow w.heap.size 25 8 v xs.length (flt dc xs)
  rc : Blk W (D + 1) o
  df : Blk W D (.deferred (some []))
  kp : Kp [] w W
theorem Ap.new {w : World} {b2 D : Nat} {o : Obj} {xs : List Dg} {W W' : World} (h : Ap w b2 D o xs W) (hk : Kp [] W W') : Ap w b2 D o xs W' := by
  obtain ⟨v, h1, h2⟩ := h.box
  exact ⟨⟨v, h1.kp0 hk, own_kp0 h2 hk⟩, h.rc.kp0 hk, h.df.kp0 hk, h.kp.trans hk⟩
theorem Ap.it {w : World} {b2 D n0 r : Nat} {o : Obj} {xs : List Dg} {W W' : World} (h : Ap w b2 D o xs W) (hn : w.heap.size ≤ n0) (hb : b2 < n0) (hD : D + 1 < n0) (hr : n0 ≤ r) (hw : ∃ o, Blk W r o ∧ o.isWalk = true) (hk : Kp [r] W W') : Ap w b2 D o xs W' := by
  obtain ⟨v, h1, h2⟩ := h.box
  refine ⟨⟨v, h1.kp hk (nm1 (by omega)), own_kp h2 hk (fun z hz hm => ?_)⟩, h.rc.kp hk (nm1 (by omega)), h.df.kp hk (nm1 (by omega)), h.kp.trans_new hk (new1 (by omega))⟩
  rw [List.mem_singleton] at hm
  subst hm
  obtain ⟨cs, hc⟩ := own_cells h2 hz
  obtain ⟨o', h3, h4⟩ := hw
  rw [h3.uniq hc] at h4
  cases h4
attribute [local irreducible] CG NG SG SY Vals Der Row Blk MapIs IterAt chkL DerR DerX
set_option maxHeartbeats 32000000 in
theorem appendSeq_spec {w : World} {g : FuncId} [F : Fnc Try.prog g] {lb : Array Value} {N : Nat} {S : List Dg → Prop} (hN : N ≤ 1000) (hG : Gv g lb N S w) :
    Calls Try.prog 90 #[.slice none 0 0, .func (.func g) #[] lb] w (fun e w' => ∃ v xs, e = .returned v ∧ S xs ∧ Kp [] w w' ∧ w'.ownsRow w.heap.size 25 8 v xs.length (flt dc xs)) := by
  refine enterM (args := [.slice none 0 0, .func (.func g) #[] lb]) Try.func90 rfl Try.ntmps90 rfl ?_
  repeat (first|apply cA|apply cB|apply cD|apply cE|apply cG|refine cY rfl rfl rfl rfl (by first|((first|apply qmv|apply qas|apply qlc|apply qla)<;>(first|exact rfl|assumption|exact List.not_mem_nil|apply dc_length|exact nm1 (by omega)|fail))|fail) ?_)
  refine SG.box rfl rfl rfl (by exact rho_of rfl) (fun b2 w1 hk1 hb2 hB2 => ?_)
  have hB2 : Blk w1 b2 (.cells #[.slice none 0 0] 66) := hB2
  repeat (first|apply cA|apply cB|apply cD|apply cE|apply cG|refine cY rfl rfl rfl rfl (by first|((first|apply qmv|apply qas|apply qlc|apply qla)<;>(first|exact rfl|assumption|exact List.not_mem_nil|apply dc_length|exact nm1 (by omega)|fail))|fail) ?_)
  refine CG.rangeFunc rfl (by exact rho_of rfl) (fun a ha fn rc W1 hrc hkW hsW hDW hLW => ?_)
  have hB2W := hB2.kp0 hkW
  have lb2 := hB2.lt
  have s1 := hk1.size
  refine (hG (w1.heap.size + 1) (Ap w b2 w1.heap.size (.loop (rc .ready))) W1 (hk1.trans hkW) ⟨fun _ _ _ h hk => h.new hk, fun _ _ _ _ h hr hw hk => h.it (n0 := W1.heap.size) (by omega) (by omega) (by omega) hr hw hk⟩ ?_ ⟨⟨_, hB2W, own_nil⟩, hLW, hDW, hk1.trans hkW⟩).mono (fun e w3 hh => ?_)
  · rintro pre x W hA hlen
    obtain ⟨v, h1, h2⟩ := hA.box
    refine round_of (t := 7) hrc ha (by decide) hA.rc rfl rfl ?_
    clear hrc
    refine SG.alloc rfl rfl rfl (fun b5 W2 hk2 hb5 hB5 => ?_)
    refine SG.setAll (l := dc x) rfl rfl (by exact rho_of rfl) (by exact rho_of rfl) hB5 (dc_length _) rfl (dc_one _) (fun W3 hk3 hB5 => ?_)
    have k3 : Kp [] W W3 := hk2.trans_new hk3 (new1 (by omega))
    have hA3 := hA.new k3
    refine cD (NG.thenI (fun a1 ha1 => ⟨_, ha1, hA3.rc, fun W4 hk4 hL4 => ?_⟩))
    clear ha1 a1
    obtain ⟨v, h1, h2⟩ := hA3.box
    have lW := hA.rc.lt
    have noL : ∀ {W : World} {n : Nat} {v : Value} {xs : List Value} {o : Loop}, Blk W (w1.heap.size + 1) (.loop o) → W.ownsRow w.heap.size 25 8 v n xs → ∀ z, v.ownBlock = some z → z ∉ [w1.heap.size + 1] := fun hb ho z hz hm => by
      rw [List.mem_singleton] at hm
      subst hm
      obtain ⟨cs, hc⟩ := own_cells ho hz
      cases hb.uniq hc
    have hB24 : Blk W4 b2 (.cells #[v] 66) := h1.kp hk4 (nm1 (by omega))
    have ho4 := own_kp h2 hk4 (noL hA3.rc h2)
    have hD4 := hA3.df.kp hk4 (nm1 (by omega))
    have hB54 := hB5.kp hk4 (nm1 (by omega))
    have hR2 : Row W4 b2 0 [v] := Row.of hB24 [] [] rfl rfl
    have hR5 : Row W4 b5 0 (dc x) := Row.all hB54 rfl
    have s4 := (hA3.kp.size)
    have s4' := hk4.size
    repeat (first|apply cA|apply cB|apply cD|apply cE|apply cG|refine cY rfl rfl rfl rfl (by first|((first|apply qmv|apply qas|apply qlc|apply qla)<;>(first|exact rfl|assumption|exact List.not_mem_nil|apply dc_length|exact nm1 (by omega)|fail))|fail) ?_)
    refine SG.buildSlice rfl rfl rfl rfl (bsD x) (fun b10 W5 hk5 hb10 hB10 => ?_)
    have s5 := hk5.size
    refine SG.appO (enc := dc (n := 8)) (base := w.heap.size) (xs := pre) (ys := [x]) rfl rfl rfl (by exact rho_of rfl) (by exact rho_of rfl) rfl rfl rfl rfl dc_length dc_one (own_kp0 ho4 hk5) (sl_one dc_length hB10) (by simp only [maxLen, List.length_cons, List.length_nil]; omega) (by show (pre.length + 1) * 8 ≤ _; omega) (by omega) (fun v' W6 hk6 ho6 hg6 => ?_)
    have hB25 := hB24.kp0 hk5
    have ho5 := own_kp0 ho4 hk5
    have hL5 := hL4.kp0 hk5
    have hD5 := hD4.kp0 hk5
    have nov : ∀ {z : Nat} {o : Obj}, Blk W5 z o → (∀ cs, o ≠ .cells cs 25) → z ∉ ownB v := fun hb hne hm => by
      obtain ⟨cs, hc⟩ := own_cells ho5 (ownB_mem hm)
      exact hne cs (hb.uniq hc)
    have hB26 := hB25.kp hk6 (nov hB25 (fun cs h => by cases h))
    have hL6 := hL5.kp hk6 (nov hL5 (fun cs h => by cases h))
    have hD6 := hD5.kp hk6 (nov hD5 (fun cs h => by cases h))
    obtain ⟨a', c', rfl, _, _⟩ := Sl.own dc_length ho6 rfl
    refine SG.setAll1 rfl rfl (by exact rho_of rfl) (by exact rho_of rfl) hB26 rfl rfl (fun W7 hk7 hB27 => ?_)
    have ho7 := own_kp ho6 hk7 (own_neb ho6 (by decide) hB26)
    have hL7 := hL6.kp hk7 (nm1 (by omega))
    have hD7 := hD6.kp hk7 (nm1 (by omega))
    refine cD (NG.thenI (fun a1 ha1 => ⟨hL7, fun W8 hk8 hL8 => ⟨rfl, ⟨⟨_, hB27.kp hk8 (nm1 (by omega)), own_kp ho7 hk8 (noL hL7 ho7)⟩, hL8, hD7.kp hk8 (nm1 (by omega)), ?_⟩, ?_⟩⟩))
    · have hov : ∀ z ∈ ownB v, w.heap.size ≤ z := fun z hz => own_geB ho5 z (ownB_mem hz)
      exact ((((hA3.kp.trans_new hk4 (new1 (by omega))).trans hk5).trans_new hk6 (fun z hz => Or.inr (hov z hz))).trans_new hk7 (new1 (by omega))).trans_new hk8 (new1 (by omega))
    · refine ((((kw_of k3 (by simp)).trans (kw_of hk4 (fun b hb => ?_))).trans (kw_of hk5 (by simp))).trans (kw_of hk6 (fun b hb => ?_))).trans ((kw_of hk7 (fun b hb => ?_)).trans (kw_of hk8 (fun b hb => ?_)))
      · rw [List.mem_singleton] at hb
        subst hb
        exact ⟨_, hA3.rc, rfl⟩
      · obtain ⟨cs, hc⟩ := own_cells ho5 (ownB_mem hb)
        exact ⟨_, hc, rfl⟩
      · rw [List.mem_singleton] at hb
        subst hb
        exact ⟨_, hB26, rfl⟩
      · rw [List.mem_singleton] at hb
        subst hb
        exact ⟨_, hL7, rfl⟩
  · obtain ⟨hv, xs, hS, hA⟩ := hh
    obtain ⟨v, h1, h2⟩ := hA.box
    refine ⟨hv, hA.rc, ?_⟩
    have noL : ∀ z, v.ownBlock = some z → z ∉ [w1.heap.size + 1] := fun z hz hm => by
      rw [List.mem_singleton] at hm
      subst hm
      obtain ⟨cs, hc⟩ := own_cells h2 hz
      cases hA.rc.uniq hc
    obtain ⟨w4, hw4⟩ : ∃ w4, w3.putObj (w1.heap.size + 1) (.loop (rc .exhausted)) = w4 := ⟨_, rfl⟩
    rw [hw4]
    have hk4 : Kp [w1.heap.size + 1] w3 w4 := by
      rw [← hw4]
      exact Kp.set w3 hA.rc rfl rfl
    have hB24 := h1.kp hk4 (nm1 (by omega))
    have ho4 := own_kp h2 hk4 noL
    have hD4 := hA.df.kp hk4 (nm1 (by omega))
    have k4 : Kp [] w w4 := hA.kp.trans_new hk4 (new1 (by omega))
    have hR2 : Row w4 b2 0 [v] := Row.of hB24 [] [] rfl rfl
    refine CD.region ?_ _ (FitsD.mark ha)
    refine SD.val rfl rfl rfl rfl (by first|((first|apply qmv|apply qas|apply qlc|apply qla)<;>(first|exact rfl|assumption|exact List.not_mem_nil|apply dc_length|exact nm1 (by omega)|fail))|fail) ?_
    refine SD.val rfl rfl rfl rfl (by first|((first|apply qmv|apply qas|apply qlc|apply qla)<;>(first|exact rfl|assumption|exact List.not_mem_nil|apply dc_length|exact nm1 (by omega)|fail))|fail) ?_
    refine SD.nil ?_
    refine CD.ret1 (v := v) rfl (by rfl) hD4 ?_
    have hk5 : Kp [w1.heap.size] w4 (w4.putObj w1.heap.size (.deferred none)) := Kp.set w4 hD4 rfl rfl
    refine ⟨v, xs, rfl, hS, k4.trans_new hk5 (new1 (by omega)), own_kp ho4 hk5 (fun z hz hm => ?_)⟩
    rw [List.mem_singleton] at hm
    subst hm
    obtain ⟨cs, hc⟩ := own_cells ho4 hz
    cases hD4.uniq hc
end Go.Proofs.Ytajllbdeoopimaa
namespace Go.Proofs.Ytajllbdeoopimaa
open Go.Proofs Go.Shelf
set_option linter.unusedVariables false
def sortRen : Go.Shelf.Ren := ⟨fun | 6 => 75 | 15 => 92 | 14 => 91 | 28 => 106 | 29 => 107 | 20 => 98 | 21 => 99 | 22 => 100 | 23 => 101 | 24 => 102 | 25 => 103 | 26 => 104 | 27 => 105 | 46 => 108 | 47 => 109 | 48 => 110 | 49 => 111 | 50 => 112 | 57 => 113 | n => n, fun | 22 => 66 | 24 => 25 | 25 => 129 | 3 => 3 | 39 => 154 | 0 => 0 | 53 => 166 | 55 => 80 | 4 => 4 | 46 => 159 | 45 => 158 | 50 => 163 | 5 => 5 | 9 => 9 | 66 => 168 | 70 => 172 | 76 => 174 | 77 => 40 | n => n, fun n => n⟩
theorem sortL : SlLaysF0.n6 Try.prog sortRen where
  mixed := by kernel_rfl
  f6 := ⟨"slices.SortFunc[[]baize/hash.Digest,baize/hash.Digest]", by decide, Try.func75.trans (congrArg some (by kernel_rfl))⟩
  f14 := ⟨"slices.pdqsortCmpFunc[baize/hash.Digest]", by decide, Try.func91.trans (congrArg some (by kernel_rfl))⟩
  f15 := Try.func92.trans (congrArg some (by kernel_rfl))
  f20 := ⟨"slices.insertionSortCmpFunc[baize/hash.Digest]", by decide, Try.func98.trans (congrArg some (by kernel_rfl))⟩
  f21 := ⟨"slices.heapSortCmpFunc[baize/hash.Digest]", by decide, Try.func99.trans (congrArg some (by kernel_rfl))⟩
  f22 := ⟨"slices.breakPatternsCmpFunc[baize/hash.Digest]", by decide, Try.func100.trans (congrArg some (by kernel_rfl))⟩
  f23 := ⟨"slices.choosePivotCmpFunc[baize/hash.Digest]", by decide, Try.func101.trans (congrArg some (by kernel_rfl))⟩
  f24 := ⟨"slices.reverseRangeCmpFunc[baize/hash.Digest]", by decide, Try.func102.trans (congrArg some (by kernel_rfl))⟩
  f25 := ⟨"slices.partialInsertionSortCmpFunc[baize/hash.Digest]", by decide, Try.func103.trans (congrArg some (by kernel_rfl))⟩
  f26 := ⟨"slices.partitionEqualCmpFunc[baize/hash.Digest]", by decide, Try.func104.trans (congrArg some (by kernel_rfl))⟩
  f27 := ⟨"slices.partitionCmpFunc[baize/hash.Digest]", by decide, Try.func105.trans (congrArg some (by kernel_rfl))⟩
  f28 := Try.func106.trans (congrArg some (by kernel_rfl))
  f29 := Try.func107.trans (congrArg some (by kernel_rfl))
  f46 := ⟨"slices.siftDownCmpFunc[baize/hash.Digest]", by decide, Try.func108.trans (congrArg some (by kernel_rfl))⟩
  f47 := Try.func109.trans (congrArg some (by kernel_rfl))
  f48 := Try.func110.trans (congrArg some (by kernel_rfl))
  f49 := ⟨"slices.medianAdjacentCmpFunc[baize/hash.Digest]", by decide, Try.func111.trans (congrArg some (by kernel_rfl))⟩
  f50 := ⟨"slices.medianCmpFunc[baize/hash.Digest]", by decide, Try.func112.trans (congrArg some (by kernel_rfl))⟩
  f57 := ⟨"slices.order2CmpFunc[baize/hash.Digest]", by decide, Try.func113.trans (congrArg some (by kernel_rfl))⟩
  t0 := Try.underlying0
  a0 := Try.isAgg0
  z0 := Try.sizeOf0
  v0 := Try.zeroValue0
  t3 := Try.underlying3
  a3 := Try.isAgg3
  z3 := Try.sizeOf3
  v3 := Try.zeroValue3
  t4 := Try.underlying4
  a4 := Try.isAgg4
  z4 := Try.sizeOf4
  v4 := Try.zeroValue4
  t5 := Try.underlying5
  a5 := Try.isAgg5
  z5 := Try.sizeOf5
  v5 := Try.zeroValue5
  t9 := Try.underlying9
  a9 := Try.isAgg9
  z9 := Try.sizeOf9
  v9 := Try.zeroValue9
  t22 := Try.underlying66
  a22 := Try.isAgg66
  z22 := Try.sizeOf66
  v22 := Try.zeroValue66
  t25 := Try.underlying129
  a25 := Try.isAgg129
  z25 := Try.sizeOf129
  v25 := Try.zeroValue129
  t39 := Try.underlying154
  a39 := Try.isAgg154
  z39 := Try.sizeOf154
  v39 := Try.zeroValue154
  t45 := Try.underlying158
  a45 := Try.isAgg158
  z45 := Try.sizeOf158
  v45 := Try.zeroValue158
  t46 := Try.underlying159
  a46 := Try.isAgg159
  z46 := Try.sizeOf159
  v46 := Try.zeroValue159
  t50 := Try.underlying163
  a50 := Try.isAgg163
  z50 := Try.sizeOf163
  v50 := Try.zeroValue163
  t53 := Try.underlying166
  a53 := Try.isAgg166
  z53 := Try.sizeOf166
  v53 := Try.zeroValue166
  t55 := Try.underlying80
  a55 := Try.isAgg80
  z55 := Try.sizeOf80
  v55 := Try.zeroValue80
  t66 := Try.underlying168
  a66 := Try.isAgg168
  z66 := Try.sizeOf168
  v66 := Try.zeroValue168
  t70 := Try.underlying172
  a70 := Try.isAgg172
  z70 := Try.sizeOf172
  v70 := Try.zeroValue172
  t76 := Try.underlying174
  a76 := Try.isAgg174
  z76 := Try.sizeOf174
  v76 := Try.zeroValue174
  t77 := Try.underlying40
  a77 := Try.isAgg40
  z77 := Try.sizeOf40
  v77 := Try.zeroValue40
end Go.Proofs.Ytajllbdeoopimaa
namespace Go.Proofs.Ytajllbdeoopimaa
open Go.Proofs Go.Shelf Go.Sort
set_option linter.unusedVariables false
theorem Kp.grown {w w' : World} (h : Kp [] w w') : ∃ q os', w' = grow (w.drewN q) os' := by
  refine ⟨w'.drawn - w.drawn, w'.heap.extract w.heap.size w'.heap.size, ?_⟩
  obtain ⟨h1, h2, h3, h4, h5, h6, h7⟩ := h
  obtain ⟨hp, tp, dr, os, out⟩ := w
  obtain ⟨hp', tp', dr', os', out'⟩ := w'
  simp only at h1 h2 h3 h4 h5 h7
  subst h3
  subst h4
  subst h5
  have e1 : hp' = hp ++ hp'.extract hp.size hp'.size := by
    apply Array.ext_getElem?
    intro i
    rw [Array.getElem?_append]
    by_cases hi : i < hp.size
    · rw [if_pos hi]
      exact h2 i hi (by simp)
    · rw [if_neg hi, Array.getElem?_extract]
      by_cases hi2 : i < hp'.size
      · rw [if_pos (by omega), show hp.size + (i - hp.size) = i by omega]
      · rw [if_neg (by omega), Array.getElem?_eq_none (by omega)]
  have e2 : dr' = dr + (dr' - dr) := by omega
  simp only [grow, World.drewN, World.mk.injEq, true_and, and_true]
  exact ⟨e1, e2⟩
theorem Kp.grow (w : World) (os : Array Obj) : Kp [] w (grow w os) := by
  refine ⟨by simp, fun b hb _ => ?_, rfl, rfl, rfl, fun a ha => ?_, Nat.le_refl _⟩
  · show (w.heap ++ os)[b]? = _
    rw [Array.getElem?_append, if_pos hb]
  · refine frozen_same ?_
    show (w.heap ++ os)[a.block]? = _
    rw [Array.getElem?_append, if_pos ha]
theorem Kp.ahead (w : World) (n : Nat) : Kp [] w (Go.Sort.ahead w n) := ⟨Nat.le_refl _, fun _ _ _ => rfl, rfl, rfl, rfl, fun _ _ => rfl, Nat.le_add_right _ _⟩
theorem mapBlock_set {w : World} {g : Nat} {cs : Array Value} {T : TypeId} {fz : Nat × Nat} (h : Blk w g (.cells cs T fz)) (f : Array Value → Array Value) : mapBlock w g f = { w with heap := w.heap.setIfInBounds g (.cells (f cs) T fz) } := by
  unfold mapBlock
  congr 1
  apply Array.ext_getElem?
  intro i
  rw [Array.getElem?_modify, Array.getElem?_setIfInBounds]
  by_cases e : g = i
  · subst e
    rw [if_pos rfl, if_pos rfl, if_pos h.lt]
    have h' : w.heap[g]? = some (.cells cs T fz) := h
    rw [h']
    rfl
  · rw [if_neg e, if_neg e]
section
variable {α : Type} [Inhabited α] {enc : α → List Value} {k : Nat}
theorem flt_get (hk0 : 0 < k) (hk : ∀ x, (enc x).length = k) : ∀ (l : List α) (t : Nat), t < l.length * k → (flt enc l)[t]? = some ((enc l.toArray[t / k]!)[t % k]!) := by
  intro l
  induction l with
  | nil => intro t h; simp at h
  | cons x l ih =>
    intro t h
    have e : flt enc (x :: l) = enc x ++ flt enc l := by simp [flt]
    rw [e]
    by_cases ht : t < k
    · rw [List.getElem?_append_left (by rw [hk]; exact ht), Nat.div_eq_of_lt ht, Nat.mod_eq_of_lt ht]
      have : t < (enc x).length := by rw [hk]; exact ht
      simp [this]
    · rw [List.getElem?_append_right (by rw [hk]; omega), hk]
      have h' : t - k < l.length * k := by
        simp only [List.length_cons, Nat.add_mul, Nat.one_mul] at h
        omega
      rw [ih (t - k) h']
      have d1 : t / k = (t - k) / k + 1 := by
        rw [Nat.div_eq_sub_div hk0 (by omega)]
      have d2 : t % k = (t - k) % k := by rw [Nat.mod_eq_sub_mod (by omega)]
      rw [d1, d2]
      simp
theorem flatK_toList (hk0 : 0 < k) (hk : ∀ x, (enc x).length = k) (l : List α) : (flatK enc k l.toArray).toList = flt enc l := by
  apply List.ext_getElem?
  intro t
  by_cases ht : t < l.length * k
  · rw [flt_get hk0 hk l t ht]
    have hs : t < (flatK enc k l.toArray).size := by simpa using ht
    have := get_flatK enc k l.toArray t (by simpa using ht)
    rw [getElem!_pos _ t hs] at this
    rw [Array.getElem?_toList, Array.getElem?_eq_getElem hs, this]
  · rw [List.getElem?_eq_none (by simpa using Nat.le_of_not_lt ht), List.getElem?_eq_none (by rw [flt_length hk]; omega)]
theorem sort_own {P : Program} {ρ : Ren} (L : SlLaysF0.n6 P ρ) (aE : ∀ w, (isAgg (ρ.t 24)).run P w = .ok true w) (zE : ∀ w, (Go.sizeOf (ρ.t 24)).run P w = .ok k w) (hk0 : 0 < k) (hk : ∀ x, (enc x).length = k) (hone : ∀ x, allOne (enc x) = true)
    (cf : α → α → Int) (hO : SWO (ltOf cf)) (g : Nat) (eg : ∀ args w, (callFunc g args).run P w = .ok (.enter g args) w)
    (hcmp : ∀ x y W, Calls P g #[.agg (enc x).toArray, .agg (enc y).toArray] W (fun e w' => e = .returned (.int .i64 (cf x y)) ∧ Kp [] W w'))
    {w : World} {base : Nat} {T : TypeId} {v : Value} {l : List α} (ho : w.ownsRow base T k v l.length (flt enc l)) (hsz : l.length < 4611686018427387904) :
    Calls P (ρ.f 6) #[v, .func (.func g) #[] #[]] w (fun e w' => e = .returned (.tuple #[]) ∧ Kp (ownB v) w w' ∧ ∃ l', l'.Perm l ∧ l'.Pairwise (fun x y => ltOf cf y x = false) ∧ w'.ownsRow base T k v l.length (flt enc l')) := by
  have h1 : ∀ x, ∀ v ∈ enc x, v.oneCell' = true := fun x u hu => by rw [one_iff]; exact List.all_eq_true.1 (hone x) u hu
  have ho' := ho
  obtain ⟨hlen, ⟨rfl, h0⟩ | ⟨b, cap, cur, rfl, hb, hh, hc1, hc2, hc3, hc4⟩⟩ := ho
  · have hl : l = [] := by cases l with
      | nil => rfl
      | cons x l => simp at h0
    subst hl
    exact (AnyF.slices_SortFunc_none L none 0 _ w).mono (fun e w' ⟨he, hw⟩ => ⟨he, by rw [hw]; exact Kp.refl _ _, [], List.Perm.refl _, List.Pairwise.nil, by rw [hw]; exact ho'⟩)
  have hB : Blk w b (.cells cur T (0, 0)) := hh
  have hcur : ∀ t, t < l.length * k → cur[t]? = some ((enc l.toArray[t / k]!)[t % k]!) := fun t ht => by
    rw [← flt_get hk0 hk l t ht, ← hc4, List.getElem?_take_of_lt ht, Array.getElem?_toList]
  have hcell : ∀ (d : Array α), True := fun _ => trivial
  have hH : HoldsK enc k w b 0 l.toArray := fun j hj => by
    have hj' : j < l.length * k := by simpa using hj
    refine ⟨?_, frozen_soft (o := .cells cur T (0, 0)) hh rfl⟩
    unfold World.cell?
    simp only [hh, Nat.zero_add]
    rw [get_flatK enc k l.toArray j (by simpa using hj')]
    simpa using hcur j hj'
  have hcl : CmpLays P g #[] enc k cf b 0 l.toArray.size w := fun m os dk hdk x y => (hcmp x y _).mono (fun e w' ⟨he, hw⟩ => ⟨he, hw.grown⟩)
  have hc := AnyQ.slices_SortFunc L k aE zE enc hk h1 cf hO g #[] b 0 cap l.toArray w eg hcl hH hB.lt (by simpa using hsz)
  refine (show Calls P (ρ.f 6) #[.slice (some ⟨b, 0, none⟩) l.length cap, .func (.func g) #[] #[]] w _ from hc).mono (fun e w' hh' => ?_)
  obtain ⟨he, d', n, os, ⟨hp1, hp2, hp3⟩, hs, rfl⟩ := hh'
  have hd' : d'.size = l.length := by simpa using hp1
  have hperm : d'.toList.Perm l := by
    have e1 : (d'.extract 0 l.toArray.size).toList = d'.toList := by
      have : l.toArray.size = d'.size := hp1.symm
      rw [this]
      simp
    have e2 : (l.toArray.extract 0 l.toArray.size).toList = l := by simp
    rw [e1, e2] at hp3
    exact hp3
  have hBa : Blk (Go.Sort.ahead w n) b (.cells cur T (0, 0)) := hh
  have hset : putRowK enc k (Go.Sort.ahead w n) b 0 d' = { Go.Sort.ahead w n with heap := (Go.Sort.ahead w n).heap.setIfInBounds b (.cells (putCells id 0 (flatK enc k d') cur) T (0, 0)) } := mapBlock_set hBa _
  have hk1 : Kp [b] (Go.Sort.ahead w n) (putRowK enc k (Go.Sort.ahead w n) b 0 d') := by
    rw [hset]
    exact Kp.set _ hBa rfl rfl
  refine ⟨he, ?_, d'.toList, hperm, ?_, ?_⟩
  · show Kp [b] w _
    exact ((Kp.ahead w n).any.trans hk1).trans (Kp.grow _ _).any
  · rw [List.pairwise_iff_getElem]
    intro i j hi hj hij
    have := hs i j (Nat.zero_le _) hij (by simp at hj ⊢; omega)
    rw [getElem!_pos d' i (by simpa using hi), getElem!_pos d' j (by simpa using hj)] at this
    simpa using this
  · have hlist : d'.toList.length = l.length := by simpa using hd'
    refine ⟨by rw [flt_length hk, hlist], Or.inr ⟨b, cap, putCells id 0 (flatK enc k d') cur, rfl, hb, ?_, hc1, hc2, by simp [putCells, hc3], ?_⟩⟩
    · have : Blk (putRowK enc k (Go.Sort.ahead w n) b 0 d') b (.cells (putCells id 0 (flatK enc k d') cur) T (0, 0)) := by
        rw [hset]
        show ((Go.Sort.ahead w n).heap.setIfInBounds b _)[b]? = _
        rw [Array.getElem?_setIfInBounds, if_pos rfl, if_pos hBa.lt]
      exact this.kp0 (Kp.grow _ _)
    · have hcs : l.length * k ≤ cur.size := by rw [hc3]; exact Nat.mul_le_mul_right k hc1
      rw [← flatK_toList hk0 hk d'.toList]
      apply List.ext_getElem?
      intro t
      by_cases ht : t < l.length * k
      · have htc : t < cur.size := by omega
        have htf : t < (flatK enc k d').size := by simp [hd']; exact ht
        rw [List.getElem?_take_of_lt ht, Array.getElem?_toList, Array.getElem?_toList]
        simp only [putCells, Array.getElem?_mapIdx, Array.getElem?_eq_getElem htc, Option.map_some, Nat.zero_le, true_and, Nat.zero_add, Nat.sub_zero, id_eq]
        rw [if_pos htf, getElem!_pos _ t htf, Array.toArray_toList, Array.getElem?_eq_getElem htf]
      · rw [List.getElem?_eq_none (by simp; omega), List.getElem?_eq_none (by simp [hd']; omega)]
end
end Go.Proofs.Ytajllbdeoopimaa
namespace Go.Proofs.Ytajllbdeoopimaa
open Go.Proofs Go.Shelf Go.Sort
set_option linter.unusedVariables false
section
variable {α : Type} [Inhabited α] {enc : α → List Value} {k : Nat}
end
end Go.Proofs.Ytajllbdeoopimaa
namespace Go.Proofs.Ytajllbdeoopimaa
open Go.Proofs Go.Shelf Go.Sort
set_option linter.unusedVariables false
/-- An order by a number. -/
theorem swo_key {α : Type} (cf : α → α → Int) (key : α → Nat) (h : ∀ x y, cf x y < 0 ↔ key x < key y) : SWO (ltOf cf) where
  irrefl x := decide_eq_false (by rw [h]; omega)
  trans x y z h1 h2 := by
    have h1 := of_decide_eq_true h1
    have h2 := of_decide_eq_true h2
    rw [h] at h1 h2
    exact decide_eq_true (by rw [h]; omega)
  ntrans x y z h1 h2 := by
    have h1 := of_decide_eq_false h1
    have h2 := of_decide_eq_false h2
    rw [h] at h1 h2
    exact decide_eq_false (by rw [h]; omega)
theorem ltOf_false {α : Type} {cf : α → α → Int} {key : α → Nat} (h : ∀ x y, cf x y < 0 ↔ key x < key y) {x y : α} : ltOf cf y x = false ↔ key x ≤ key y := by
  constructor
  · intro h1
    have h1 := of_decide_eq_false h1
    rw [h] at h1
    omega
  · intro h1
    exact decide_eq_false (by rw [h]; omega)
/-- Put where it belongs, behind its likes; all put so. -/
def insK {α : Type} (key : α → Nat) (x : α) : List α → List α
  | [] => [x]
  | y :: r => if key y ≤ key x then y :: insK key x r else x :: y :: r
def sortK {α : Type} (key : α → Nat) (l : List α) : List α := l.foldl (fun acc x => insK key x acc) []
theorem insK_perm {α : Type} (key : α → Nat) (x : α) : ∀ l : List α, (insK key x l).Perm (x :: l)
  | [] => List.Perm.refl _
  | y :: r => by
    unfold insK
    split
    · exact ((insK_perm key x r).cons y).trans (List.Perm.swap x y r)
    · exact List.Perm.refl _
theorem insK_sorted {α : Type} (key : α → Nat) (x : α) : ∀ l : List α, l.Pairwise (fun a b => key a ≤ key b) → (insK key x l).Pairwise (fun a b => key a ≤ key b)
  | [], _ => by simp [insK]
  | y :: r, h => by
    have h' := List.pairwise_cons.1 h
    unfold insK
    split
    · rename_i hle
      refine List.pairwise_cons.2 ⟨fun z hz => ?_, insK_sorted key x r h'.2⟩
      rcases List.mem_cons.1 ((insK_perm key x r).mem_iff.1 hz) with rfl | hz
      · exact hle
      · exact h'.1 z hz
    · rename_i hle
      refine List.pairwise_cons.2 ⟨fun z hz => ?_, h⟩
      rcases List.mem_cons.1 hz with rfl | hz
      · omega
      · have := h'.1 z hz
        omega
theorem sortK_go {α : Type} (key : α → Nat) : ∀ (l acc : List α), acc.Pairwise (fun a b => key a ≤ key b) → (l.foldl (fun acc x => insK key x acc) acc).Perm (l ++ acc) ∧ (l.foldl (fun acc x => insK key x acc) acc).Pairwise (fun a b => key a ≤ key b)
  | [], acc, h => ⟨List.Perm.refl _, h⟩
  | x :: l, acc, h => by
    obtain ⟨h1, h2⟩ := sortK_go key l (insK key x acc) (insK_sorted key x acc h)
    refine ⟨h1.trans ?_, h2⟩
    exact ((insK_perm key x acc).append_left l).trans List.perm_middle
theorem sortK_perm {α : Type} (key : α → Nat) (l : List α) : (sortK key l).Perm l := by simpa [sortK] using (sortK_go key l [] List.Pairwise.nil).1
theorem sortK_sorted {α : Type} (key : α → Nat) (l : List α) : (sortK key l).Pairwise (fun a b => key a ≤ key b) := (sortK_go key l [] List.Pairwise.nil).2
/-- There is one such order. -/
theorem sorted_uniq {α : Type} {key : α → Nat} (hk : ∀ x y, key x = key y → x = y) {l l' m : List α} (h1 : l.Perm m) (h2 : l'.Perm m) (s1 : l.Pairwise (fun a b => key a ≤ key b)) (s2 : l'.Pairwise (fun a b => key a ≤ key b)) : l = l' :=
  (h1.trans h2.symm).eq_of_pairwise (fun a b _ _ h h' => hk a b (by omega)) s1 s2
end Go.Proofs.Ytajllbdeoopimaa
namespace Go.Proofs.Ytajllbdeoopimaa
open Go.Proofs Go.Shelf Go.Sort
set_option linter.unusedVariables false
theorem bytes_back (l : List UInt8) : Lib.bytesOf (l.map (fun u => (u.toNat : Int))) = l := by
  unfold Lib.bytesOf
  induction l with
  | nil => rfl
  | cons u l ih => simp_all
theorem load_key {w : World} {b off : Nat} {x : Dg} (hx : Row w b off (dc x)) : (Extern.Bytes.loadBytes ⟨b, off, none⟩ 8 .empty).run Try.prog w = .ok ⟨x.1.toArray⟩ w := by
  have h := Lib.run_loadBytesX (P := Try.prog) w (x.1.map (fun u => (u.toNat : Int))) ⟨b, off, none⟩ .empty (fun j z hj => by
    rw [List.getElem?_map, Option.map_eq_some_iff] at hj
    obtain ⟨u, hu, rfl⟩ := hj
    have e : (⟨b, off, none⟩ : Addr).add j = ⟨b, off + j, none⟩ := by unfold Addr.add; split <;> simp_all
    rw [e]
    exact hx.cell (by unfold dc; rw [List.getElem?_map, hu]; rfl))
  rw [List.length_map, x.2, bytes_back] at h
  have e0 : ByteArray.empty.data ++ x.1.toArray = x.1.toArray := by simp [ByteArray.empty, ByteArray.emptyWithCapacity]; rfl
  rw [e0] at h
  exact h
theorem compare_run {w : World} {b off c b' off' c' : Nat} {x y : Dg} (hx : Row w b off (dc x)) (hy : Row w b' off' (dc y)) :
    (Extern.BytealgCompare.compare #[.slice (some ⟨b, off, none⟩) 8 c, .slice (some ⟨b', off', none⟩) 8 c']).run Try.prog w = .ok (.int .i64 (Lib.compareBytes x.1 y.1)) w := by
  change Sem.run Try.prog (do pure (goInt (Extern.BytealgCompare.cmp (← Extern.Bytes.loadBytes ⟨b, off, none⟩ 8 .empty) (← Extern.Bytes.loadBytes ⟨b', off', none⟩ 8 .empty)))) w = _
  simp only [Sem.run_bind, load_key hx, load_key hy, Sem.run_pure, Result.andThen]
  rw [Lib.cmp_eq]
  rfl
theorem callC (args : Array Value) (w : World) : (callFunc 77 args).run Try.prog w = ((Extern.BytealgCompare.compare args).run Try.prog w).andThen fun v w' => .ok (.value v) w' :=
  run_callFunc_extern Try.func77 (by kernel_rfl) (by kernel_rfl) (by kernel_rfl) (e := Extern.BytealgCompare.compare) (by kernel_rfl) args w
theorem vals_cmp {S : List Nat} {w0 : World} {F : World → Prop} {L : Env} {d : Option Nat} {ty : TypeId} {pos : String} {af : Array Edge} {g : Option (Nat × Bool)} {p q : Operand} {tys : Array TypeId} {b off c b' off' c' : Nat} {x y : Dg} (hp : rho L p = .slice (some ⟨b, off, none⟩) 8 c) (hq : rho L q = .slice (some ⟨b', off', none⟩) 8 c') (hx : Row w0 b off (dc x)) (hy : Row w0 b' off' (dc y)) (hb : b ∉ S) (hb' : b' ∉ S) :
    Vals Try.prog S w0 F L ⟨d, .call ⟨.value (.func 77), #[p, q], tys⟩, ty, pos, af, g⟩ (.int .i64 (Lib.compareBytes x.1 y.1)) := fun w hk _ => by
  have : (execOp (rho L) ⟨d, .call ⟨.value (.func 77), #[p, q], tys⟩, ty, pos, af, g⟩).run Try.prog w = (callFunc 77 #[rho L p, rho L q]).run Try.prog w := by
    simp [execOp, resolve, invoke, rho_func, Deferred.ofValue]
  rw [this, hp, hq, callC, compare_run (hx.kp hk hb) (hy.kp hk hb')]
  rfl
/-- A whole array, as a slice. -/
theorem qx5 {P : Program} {S : List Nat} {w0 : World} {F : World → Prop} {L : Env} {d : Option Nat} {ty : TypeId} {pos : String} {af : Array Edge} {g : Option (Nat × Bool)} {T E : TypeId} {n sz : Nat} [u : Ut P T (.array n E)] [f : Sz P E sz] {x : Operand} {b off : Nat} (hx : ro L x = some (.pointer (some ⟨b, off, none⟩))) :
    Vals P S w0 F L ⟨d, .slice T x none none none, ty, pos, af, g⟩ (.slice (some ⟨b, off, none⟩) n n) := fun w _ _ => by
  obtain ⟨i, h2, h3⟩ := f.eq
  subst h3
  simp only [execOp, rho_of hx, Option.map_none, Instr.sliceAt, Sem.run_bind, run_underlying u.eq, Result.andThen, Instr.sureAddr, Instr.sliceBounds, Sem.run_pure, sizeOf, typeInfo, run_program, h2]
  simp [Addr.add]
def dkey (d : Dg) : Nat := d.1.foldl (fun n b => n * 256 + b.toNat) 0
def cfD (x y : Dg) : Int := Lib.compareBytes x.1 y.1
def vl (l : List UInt8) : Nat := l.foldl (fun n b => n * 256 + b.toNat) 0
theorem vl_go (n : Nat) : ∀ l : List UInt8, l.foldl (fun n b => n * 256 + b.toNat) n = n * 256 ^ l.length + vl l
  | [] => by simp [vl]
  | b :: l => by
    unfold vl
    rw [List.foldl_cons, List.foldl_cons, vl_go (n * 256 + b.toNat) l, vl_go (0 * 256 + b.toNat) l]
    simp only [List.length_cons, Nat.pow_succ]
    rw [Nat.zero_mul, Nat.zero_add, Nat.add_mul, Nat.mul_assoc, Nat.mul_comm 256, Nat.add_assoc]
theorem vl_cons (b : UInt8) (l : List UInt8) : vl (b :: l) = b.toNat * 256 ^ l.length + vl l := by
  show (b :: l).foldl _ 0 = _
  rw [List.foldl_cons, vl_go]
  simp
theorem vl_lt : ∀ l : List UInt8, vl l < 256 ^ l.length
  | [] => by simp [vl]
  | b :: l => by
    rw [vl_cons, List.length_cons, Nat.pow_succ]
    have h1 := vl_lt l
    have h2 := UInt8.toNat_lt b
    have h3 : b.toNat * 256 ^ l.length + 256 ^ l.length ≤ 256 ^ l.length * 256 := by
      rw [← Nat.succ_mul, Nat.mul_comm]
      exact Nat.mul_le_mul_left _ (by omega)
    omega
theorem mul_gap {a b m x y : Nat} (h : a < b) (hx : x < m) : a * m + x < b * m + y := by
  have : a * m + m ≤ b * m := by
    rw [← Nat.succ_mul]
    exact Nat.mul_le_mul_right _ h
  omega
theorem cb_vl : ∀ x y : List UInt8, x.length = y.length → (Lib.compareBytes x y < 0 ↔ vl x < vl y) ∧ (vl x = vl y → x = y)
  | [], [], _ => by simp [Lib.compareBytes, vl]
  | [], _ :: _, h => by cases h
  | _ :: _, [], h => by cases h
  | a :: x, b :: y, h => by
    have hl : x.length = y.length := by simpa using h
    obtain ⟨h1, h2⟩ := cb_vl x y hl
    have lx := vl_lt x
    have ly := vl_lt y
    rw [vl_cons, vl_cons]
    rw [← hl] at ly ⊢
    simp only [Lib.compareBytes, UInt8.lt_iff_toNat_lt]
    by_cases h3 : a.toNat < b.toNat
    · have := mul_gap (y := vl y) h3 lx
      rw [if_pos h3]
      exact ⟨⟨fun _ => this, fun _ => by decide⟩, fun e => absurd e (by omega)⟩
    · rw [if_neg h3]
      by_cases h4 : b.toNat < a.toNat
      · have := mul_gap (y := vl x) h4 ly
        rw [if_pos h4]
        exact ⟨⟨fun h => absurd h (by decide), fun h => absurd h (by omega)⟩, fun e => absurd e (by omega)⟩
      · have e : a = b := UInt8.toNat_inj.1 (by omega)
        subst e
        rw [if_neg h4]
        refine ⟨h1.trans ⟨fun h => by omega, fun h => by omega⟩, fun h => ?_⟩
        rw [h2 (by omega)]
theorem cfD_lt (x y : Dg) : cfD x y < 0 ↔ dkey x < dkey y := (cb_vl x.1 y.1 (by rw [x.2, y.2])).1
theorem dkey_inj (x y : Dg) (h : dkey x = dkey y) : x = y := Subtype.ext ((cb_vl x.1 y.1 (by rw [x.2, y.2])).2 h)
/-- The digests in order. -/
def srt (l : List Dg) : List Dg := sortK dkey l
theorem srt_perm (l : List Dg) : (srt l).Perm l := sortK_perm _ _
theorem srt_eq {l l' : List Dg} (h : l.Perm l') : srt l = srt l' := sorted_uniq dkey_inj ((srt_perm l).trans h) (srt_perm l') (sortK_sorted _ _) (sortK_sorted _ _)
attribute [local irreducible] CG NG SG Vals Der Row Blk MapIs IterAt DerX
set_option maxHeartbeats 8000000 in
theorem bcmp_spec {w : World} {b off c b' off' c' : Nat} {x y : Dg} (hx : Row w b off (dc x)) (hy : Row w b' off' (dc y)) : Ret Try.prog 62 #[.slice (some ⟨b, off, none⟩) 8 c, .slice (some ⟨b', off', none⟩) 8 c'] w (.int .i64 (cfD x y)) := by
  refine enter2 Try.func62 rfl Try.ntmps62 rfl ?_
  repeat (first|apply cA|apply cB|apply cD|apply cE|apply cH|refine cY rfl rfl rfl rfl (by first|((first|apply qmv|apply qas|apply qx5)<;>(first|exact rfl|assumption|exact List.not_mem_nil|fail))|fail) ?_)
  refine cY rfl rfl rfl rfl (vals_cmp (by exact rho_of rfl) (by exact rho_of rfl) hx hy List.not_mem_nil List.not_mem_nil) ?_
  repeat (first|apply cA|apply cB|apply cD|apply cE|apply cH|refine cY rfl rfl rfl rfl (by first|((first|apply qmv|apply qas|apply qx5)<;>(first|exact rfl|assumption|exact List.not_mem_nil|fail))|fail) ?_)
  refine ret1 (Or.inl rfl) Try.results62 (by first | exact ResV.tmp rfl | exact ResV.agg rfl rfl (by assumption) (by first | exact dc_length _ | exact nc_length _ | exact rc_length _ _ _ | exact ec_length _ | exact dl_length _ _ _ _ | rfl) | exact ResV.cell rfl rfl (by assumption)) ?_
  exact ⟨rfl, Kp.refl _ _⟩
set_option maxHeartbeats 8000000 in
theorem lessP_spec (x y : Dg) (w : World) : Ret Try.prog 61 #[dv x, dv y] w (.int .i64 (cfD x y)) := by
  refine enter2 Try.func61 rfl Try.ntmps61 rfl ?_
  repeat (first|apply cA|apply cB|apply cD|apply cE|apply cH|refine cY rfl rfl rfl rfl (by first|((first|apply qmv|apply qas|apply qx5)<;>(first|exact rfl|assumption|exact List.not_mem_nil|fail))|fail) ?_)
  refine SG.box rfl rfl rfl (by exact rho_of rfl) (fun b2 w1 hk1 hb2 hB2 => ?_)
  refine SG.box rfl rfl rfl (by exact rho_of rfl) (fun b3 w2 hk2 hb3 hB3 => ?_)
  have hB2 : Blk w1 b2 (.cells (dc x).toArray 25) := hB2
  have hB3 : Blk w2 b3 (.cells (dc y).toArray 25) := hB3
  have q0 : Row w2 b2 0 (dc x) := Row.all (hB2.kp0 hk2) rfl
  have r0 : Row w2 b3 0 (dc y) := Row.all hB3 rfl
  repeat (first|apply cA|apply cB|apply cD|apply cE|apply cH|refine cY rfl rfl rfl rfl (by first|((first|apply qmv|apply qas|apply qx5)<;>(first|exact rfl|assumption|exact List.not_mem_nil|fail))|fail) ?_)
  refine CG.draw0 mixed [0, 1, 2, 3] [] (by kernel_rfl) ?_
  repeat (refine dA rfl rfl rfl (by first|((first|apply qmv|apply qas|apply qx5)<;>(first|exact rfl|assumption|exact List.not_mem_nil|fail))|fail) ?_)
  refine Der.call rfl rfl rfl (by repeat' (first | exact True.intro | exact rho_of rfl | refine And.intro ?_ ?_)) (fun w hk _ => bcmp_spec (x := x) (y := y) (q0.kp0 hk) (r0.kp0 hk)) ?_
  repeat (refine dA rfl rfl rfl (by first|((first|apply qmv|apply qas|apply qx5)<;>(first|exact rfl|assumption|exact List.not_mem_nil|fail))|fail) ?_)
  refine Der.fin (fun w3 hk3 _ _ => ?_)
  repeat (first|apply cA|apply cB|apply cD|apply cE|apply cH|refine cY rfl rfl rfl rfl (by first|((first|apply qmv|apply qas|apply qx5)<;>(first|exact rfl|assumption|exact List.not_mem_nil|fail))|fail) ?_)
  refine ret1 (Or.inl rfl) Try.results61 (by first | exact ResV.tmp rfl | exact ResV.agg rfl rfl (by assumption) (by first | exact dc_length _ | exact nc_length _ | exact rc_length _ _ _ | exact ec_length _ | exact dl_length _ _ _ _ | rfl) | exact ResV.cell rfl rfl (by assumption)) ?_
  exact ⟨rfl, (hk1.trans hk2).trans hk3⟩
end Go.Proofs.Ytajllbdeoopimaa
namespace Go.Proofs.Ytajllbdeoopimaa
open Go.Proofs Go.Shelf Go.Sort
set_option linter.unusedVariables false
instance : Inhabited Dg := ⟨zd⟩
attribute [local irreducible] CG NG SG Vals Der Row Blk MapIs IterAt DerX
set_option maxHeartbeats 8000000 in
theorem collect_spec {w : World} {g : FuncId} [F : Fnc Try.prog g] {lb : Array Value} {N : Nat} {S : List Dg → Prop} (hN : N ≤ 1000) (hG : Gv g lb N S w) :
    Calls Try.prog 74 #[.func (.func g) #[] lb] w (fun e w' => ∃ v xs, e = .returned v ∧ S xs ∧ Kp [] w w' ∧ w'.ownsRow w.heap.size 25 8 v xs.length (flt dc xs)) := by
  refine enter1 Try.func74 rfl Try.ntmps74 rfl ?_
  repeat (first|apply cA|apply cB|apply cD|apply cE|apply cH|refine cY rfl rfl rfl rfl (by first|((first|apply qx5|apply qmv|apply qas)<;>(first|exact rfl|assumption|apply dc_length|fail))|fail) ?_)
  refine SG.call rfl rfl rfl (vs := [.slice none 0 0, .func (.func g) #[] lb]) (by repeat' (first | exact True.intro | exact rho_of rfl | refine And.intro ?_ ?_)) ((appendSeq_spec hN hG).mono (fun e w1 hh => ?_))
  obtain ⟨v, xs, he, hS, hk1, ho⟩ := hh
  refine ⟨v, he, ?_⟩
  obtain ⟨a, c, rfl, _, _⟩ := Sl.own dc_length ho rfl
  repeat (first|apply cA|apply cB|apply cD|apply cE|apply cH|refine cY rfl rfl rfl rfl (by first|((first|apply qx5|apply qmv|apply qas)<;>(first|exact rfl|assumption|apply dc_length|fail))|fail) ?_)
  refine ret1 (Or.inl rfl) Try.results74 (by first | exact ResV.tmp rfl | exact ResV.agg rfl rfl (by assumption) (by first | exact dc_length _ | exact nc_length _ | exact rc_length _ _ _ | exact ec_length _ | exact dl_length _ _ _ _ | rfl) | exact ResV.cell rfl rfl (by assumption)) ?_
  exact ⟨_, xs, rfl, hS, hk1, ho⟩
/-- A row of digests, sorted where it lies. -/
theorem sortD_spec {w : World} {base : Nat} {v : Value} {l : List Dg} {f : FuncId} (hf : ∀ args w, (callFunc f args).run Try.prog w = .ok (.enter f args) w) (hc : ∀ x y W, Ret Try.prog f #[dv x, dv y] W (.int .i64 (cfD x y))) (ho : w.ownsRow base 25 8 v l.length (flt dc l)) (hl : l.length ≤ 1000000) : Calls Try.prog 75 #[v, .func (.func f) #[] #[]] w (fun e w' => e = .returned (.tuple #[]) ∧ Kp (ownB v) w w' ∧ w'.ownsRow base 25 8 v l.length (flt dc (srt l))) :=
  (sort_own sortL Try.isAgg25 Try.sizeOf25 (by omega) dc_length dc_one cfD (swo_key cfD dkey cfD_lt) f hf (fun x y W => hc x y W) ho (by omega)).mono (fun e w' ⟨h1, h2, l', h3, h4, h5⟩ => ⟨h1, h2, by
    have e : l' = srt l := sorted_uniq (key := dkey) dkey_inj h3 (srt_perm l) (h4.imp (fun h => (ltOf_false (cf := cfD) (key := dkey) cfD_lt).1 h)) (sortK_sorted _ l)
    rwa [e] at h5⟩)
set_option maxHeartbeats 8000000 in
theorem sortedF_spec {w : World} {g : FuncId} [F : Fnc Try.prog g] {lb : Array Value} {N : Nat} {m : List Dg} {f : FuncId} (hf : ∀ args w, (callFunc f args).run Try.prog w = .ok (.enter f args) w) (hc : ∀ x y W, Ret Try.prog f #[dv x, dv y] W (.int .i64 (cfD x y))) (hN : N ≤ 1000) (hm : m.length ≤ 1000) (hG : Gv g lb N (fun xs => xs.Perm m) w) :
    RetO Try.prog 25 dc 8 59 #[.func (.func g) #[] lb, .func (.func f) #[] #[]] w (srt m) := by
  refine enter2 Try.func59 rfl Try.ntmps59 rfl ?_
  repeat (first|apply cA|apply cB|apply cD|apply cE|apply cH|refine cY rfl rfl rfl rfl (by first|((first|apply qx5|apply qmv|apply qas)<;>(first|exact rfl|assumption|apply dc_length|fail))|fail) ?_)
  refine SG.call rfl rfl rfl (vs := [.func (.func g) #[] lb]) (by repeat' (first | exact True.intro | exact rho_of rfl | refine And.intro ?_ ?_)) ((collect_spec hN hG).mono (fun e w1 hh => ?_))
  obtain ⟨v, xs, he, hS, hk1, ho⟩ := hh
  refine ⟨v, he, ?_⟩
  have hlen : xs.length = (srt m).length := by rw [(srt_perm m).length_eq, hS.length_eq]
  have hxm := hS.length_eq
  obtain ⟨a, c, rfl, _, _⟩ := Sl.own dc_length ho rfl
  repeat (first|apply cA|apply cB|apply cD|apply cE|apply cH|refine cY rfl rfl rfl rfl (by first|((first|apply qx5|apply qmv|apply qas)<;>(first|exact rfl|assumption|apply dc_length|fail))|fail) ?_)
  refine SG.call rfl rfl rfl (vs := [.slice a xs.length c, .func (.func f) #[] #[]]) (by repeat' (first | exact True.intro | exact rho_of rfl | refine And.intro ?_ ?_)) ((sortD_spec hf hc ho (by omega)).mono (fun e w2 hh => ?_))
  obtain ⟨he, hk2, ho2⟩ := hh
  refine ⟨_, he, ?_⟩
  rw [srt_eq hS, hlen] at ho2
  rw [hlen]
  repeat (first|apply cA|apply cB|apply cD|apply cE|apply cH|refine cY rfl rfl rfl rfl (by first|((first|apply qx5|apply qmv|apply qas)<;>(first|exact rfl|assumption|apply dc_length|fail))|fail) ?_)
  refine ret1 (Or.inl rfl) Try.results59 (by first | exact ResV.tmp rfl | exact ResV.agg rfl rfl (by assumption) (by first | exact dc_length _ | exact nc_length _ | exact rc_length _ _ _ | exact ec_length _ | exact dl_length _ _ _ _ | rfl) | exact ResV.cell rfl rfl (by assumption)) ?_
  rw [hlen] at hk2
  exact ⟨_, rfl, ho2, hk1.trans_new hk2 (own_new ho2 (Nat.le_refl _))⟩
theorem gvP {w : World} {bm b : Nat} {m : List (Dg × Pr)} (hc : Row w bm 0 [.map (some b)]) (hm : MapIs w b (dv (n := 8)) prv m) : Gv 76 #[.pointer (some ⟨bm, 0, none⟩)] m.length (fun xs => xs.Perm (m.map (·.1))) w :=
  fun l J W hk hJ hR h0 => keysP1_spec (hc.kp0 hk) (hm.kp0 hk) J hJ hR h0
set_option maxHeartbeats 8000000 in
theorem sortedP_spec {w : World} {b : Nat} {m : List (Dg × Pr)} (hm : MapIs w b (dv (n := 8)) prv m) (hl : m.length ≤ 1000) : RetO Try.prog 25 dc 8 39 #[.map (some b)] w (srt (m.map (·.1))) := by
  refine enter1 Try.func39 rfl Try.ntmps39 rfl ?_
  repeat (first|apply cA|apply cB|apply cD|apply cE|apply cH|refine cY rfl rfl rfl rfl (by first|((first|apply qx5|apply qmv|apply qas)<;>(first|exact rfl|assumption|apply dc_length|fail))|fail) ?_)
  refine SG.call rfl rfl rfl (vs := [.map (some b)]) (by repeat' (first | exact True.intro | exact rho_of rfl | refine And.intro ?_ ?_)) ((keysP_spec hm).mono (fun e w1 hh => ?_))
  obtain ⟨bm, he, hk1, hb1, hR1⟩ := hh
  refine ⟨_, he, ?_⟩
  repeat (first|apply cA|apply cB|apply cD|apply cE|apply cH|refine cY rfl rfl rfl rfl (by first|((first|apply qx5|apply qmv|apply qas)<;>(first|exact rfl|assumption|apply dc_length|fail))|fail) ?_)
  refine SG.call rfl rfl rfl (vs := [.func (.func 76) #[] #[.pointer (some ⟨bm, 0, none⟩)], .func (.func 61) #[] #[]]) (by repeat' (first | exact True.intro | exact rho_of rfl | refine And.intro ?_ ?_)) ((sortedF_spec (fun args w => fn.i61.run w args) lessP_spec hl (by rw [List.length_map]; exact hl) (gvP hR1 (hm.kp0 hk1))).mono (fun e w2 hh => ?_))
  obtain ⟨v, he, ho, hk2⟩ := hh
  refine ⟨v, he, ?_⟩
  obtain ⟨a, c, rfl, _, _⟩ := Sl.own dc_length ho rfl
  repeat (first|apply cA|apply cB|apply cD|apply cE|apply cH|refine cY rfl rfl rfl rfl (by first|((first|apply qx5|apply qmv|apply qas)<;>(first|exact rfl|assumption|apply dc_length|fail))|fail) ?_)
  refine ret1 (Or.inl rfl) Try.results39 (by first | exact ResV.tmp rfl | exact ResV.agg rfl rfl (by assumption) (by first | exact dc_length _ | exact nc_length _ | exact rc_length _ _ _ | exact ec_length _ | exact dl_length _ _ _ _ | rfl) | exact ResV.cell rfl rfl (by assumption)) ?_
  exact ⟨_, rfl, own_mono ho hk1.size, hk1.trans hk2⟩
end Go.Proofs.Ytajllbdeoopimaa
namespace Go.Proofs.Ytajllbdeoopimaa
set_option linter.unusedVariables false
theorem bsP' (w : World) (a0 a1 a2 a3 a4 a5 a6 a7 b0 b1 b2 b3 b4 b5 b6 b7 c0 c1 c2 c3 c4 c5 c6 c7 : UInt8) (x y z : Int) : (Instr.buildSlice 42 1 #[(0, .agg #[bv a0, bv a1, bv a2, bv a3, bv a4, bv a5, bv a6, bv a7, bv b0, bv b1, bv b2, bv b3, bv b4, bv b5, bv b6, bv b7, bv c0, bv c1, bv c2, bv c3, bv c4, bv c5, bv c6, bv c7, .int .i64 x, .int .i64 y, .int .i64 z])]).run Try.prog w = .ok (.slice (some ⟨w.heap.size, 0, none⟩) 1 1) { w with heap := w.heap.push (.cells #[bv a0, bv a1, bv a2, bv a3, bv a4, bv a5, bv a6, bv a7, bv b0, bv b1, bv b2, bv b3, bv b4, bv b5, bv b6, bv b7, bv c0, bv c1, bv c2, bv c3, bv c4, bv c5, bv c6, bv c7, .int .i64 x, .int .i64 y, .int .i64 z] 54) } := by kernel_rfl
theorem bsP (r : Pr) (w : World) : (Instr.buildSlice 42 1 #[(0, prv r)]).run Try.prog w = .ok (.slice (some ⟨w.heap.size, 0, none⟩) 1 1) { w with heap := w.heap.push (.cells (flt prc [r]).toArray 54) } := by
  rw [flt_one]
  obtain ⟨⟨l, hl⟩, ⟨m, hm⟩, ⟨n, hn⟩, x, y, z⟩ := r
  match l, hl, m, hm, n, hn with
  | [a0, a1, a2, a3, a4, a5, a6, a7], _, [b0, b1, b2, b3, b4, b5, b6, b7], _, [c0, c1, c2, c3, c4, c5, c6, c7], _ => exact bsP' w a0 a1 a2 a3 a4 a5 a6 a7 b0 b1 b2 b3 b4 b5 b6 b7 c0 c1 c2 c3 c4 c5 c6 c7 x y z
/-- What is forwarded, in the order of the names. -/
def prsL (mp : Mp) : List Pr := (srt (mp.map (·.1))).filterMap (alook mp)
theorem fm_snoc {α β : Type} {f : α → Option β} {l : List α} {i : Nat} (h : i < l.length) {r : β} (hr : f l[i] = some r) : (l.take (i + 1)).filterMap f = (l.take i).filterMap f ++ [r] := by
  rw [List.take_succ_eq_append_getElem h, List.filterMap_append]
  simp [hr]
theorem alook_key {κ ν : Type} [DecidableEq κ] {m : List (κ × ν)} {k : κ} (h : k ∈ m.map (·.1)) : ∃ v, alook m k = some v := by
  cases e : alook m k with
  | some v => exact ⟨v, rfl⟩
  | none =>
    obtain ⟨p, h1, h2⟩ := List.mem_map.1 h
    exact absurd h2 (alook_none.1 e p h1)
theorem srt_look {ν : Type} (m : List (Dg × ν)) : ∀ k ∈ srt (m.map (·.1)), ∃ v, alook m k = some v := fun k hk => alook_key ((srt_perm _).mem_iff.1 hk)
attribute [local irreducible] CG NG SG Vals Der Row Blk MapIs IterAt DerX
set_option maxHeartbeats 16000000 in
theorem pairs_spec {w : World} {bh bs bp : Nat} {win : Int} {ms : Ms} {mp : Mp} (hH : HubAt w bh bs bp win ms mp) (hl : mp.length ≤ 1000) : RetO Try.prog 54 prc 27 18 #[.pointer (some ⟨bh, 0, none⟩)] w (prsL mp) := by
  refine enter1 Try.func18 rfl Try.ntmps18 rfl ?_
  obtain ⟨-, -, r2⟩ := hH.rows
  have hlk := srt_look mp
  have hsl : (srt (mp.map (·.1))).length = mp.length := by rw [(srt_perm _).length_eq, List.length_map]
  repeat (first|apply cA|apply cB|apply cD|apply cE|apply cF|apply cG|apply cH|apply cJ|apply cU|refine cV rfl ?_|apply cX|refine cY rfl rfl rfl rfl (by first|((first|apply qep|apply qmv|apply qas|apply qlc|apply qla|apply qfa|apply qnc|apply qix|apply qls|apply qad|apply qln|apply qlv|apply qep)<;>(first|exact rfl|assumption|exact Ar.mk (by omega)|exact dct (by first|assumption|omega)|exact dcf (by first|assumption|omega)|exact List.not_mem_nil|apply dc_length|apply prc_length|exact lk1 (by assumption)|fail))|fail) ?_)
  refine dD rfl (by exact rho_of rfl) rfl ?_
  repeat (first|apply cA|apply cB|apply cD|apply cE|apply cF|apply cG|apply cH|apply cJ|apply cU|refine cV rfl ?_|apply cX|refine cY rfl rfl rfl rfl (by first|((first|apply qep|apply qmv|apply qas|apply qlc|apply qla|apply qfa|apply qnc|apply qix|apply qls|apply qad|apply qln|apply qlv|apply qep)<;>(first|exact rfl|assumption|exact Ar.mk (by omega)|exact dct (by first|assumption|omega)|exact dcf (by first|assumption|omega)|exact List.not_mem_nil|apply dc_length|apply prc_length|exact lk1 (by assumption)|fail))|fail) ?_)
  refine SG.call rfl rfl rfl (vs := [.map (some bp)]) (by repeat' (first | exact True.intro | exact rho_of rfl | refine And.intro ?_ ?_)) ((sortedP_spec hH.pr hl).mono (fun e w2 hh => ?_))
  obtain ⟨v, he, ho, hk2⟩ := hh
  refine ⟨v, he, ?_⟩
  obtain ⟨a, c, rfl, _, hS⟩ := Sl.own dc_length ho rfl
  have hH2 := hH.kp0 hk2
  clear r2 ho
  have e0 : prsL mp = (srt (mp.map (·.1))).filterMap (alook mp) := rfl
  rw [e0]
  generalize srt (mp.map (·.1)) = l at hlk hsl hS
  repeat (first|apply cA|apply cB|apply cD|apply cE|apply cF|apply cG|apply cH|apply cJ|apply cU|refine cV rfl ?_|apply cX|refine cY rfl rfl rfl rfl (by first|((first|apply qep|apply qmv|apply qas|apply qlc|apply qla|apply qfa|apply qnc|apply qix|apply qls|apply qad|apply qln|apply qlv|apply qep)<;>(first|exact rfl|assumption|exact Ar.mk (by omega)|exact dct (by first|assumption|omega)|exact dcf (by first|assumption|omega)|exact List.not_mem_nil|apply dc_length|apply prc_length|exact lk1 (by assumption)|fail))|fail) ?_)
  refine CG.loop (X := Value × Nat) (fun x => [(0, .pointer (some ⟨bh, 0, none⟩)), (3, x.1), (12, .slice a l.length c), (13, .int .i64 (l.length : Int)), (14, .int .i64 (x.2 : Int))])
    (fun x w' => x.2 ≤ l.length ∧ Kp [] w2 w' ∧ w'.ownsRow w2.heap.size 54 27 x.1 ((l.take x.2).filterMap (alook mp)).length (flt prc ((l.take x.2).filterMap (alook mp)))) (fun x => l.length - x.2) (.slice none 0 0, 0) ⟨Nat.zero_le _, Kp.refl _ _, own_nil⟩ (by (repeat' (first | exact True.intro | exact rfl | refine And.intro ?_ ?_))) ?_
  rintro ⟨v3, i⟩ w3 ⟨hi, hk3, ho⟩
  simp only at hi ho
  refine CG.to [(0, .pointer (some ⟨bh, 0, none⟩)), (3, v3), (12, .slice a l.length c), (13, .int .i64 (l.length : Int)), (14, .int .i64 (i : Int))] (by (repeat' (first | exact True.intro | exact rfl | refine And.intro ?_ ?_))) ?_
  have k3 := hk2.trans hk3
  by_cases hlt : i < l.length
  · have g1 : (i : Int) < (l.length : Int) := by omega
    obtain ⟨ba, oa, rfl, hri⟩ := (hS.kp0 hk3).at hlt
    obtain ⟨r, hr⟩ := hlk l[i] (List.getElem_mem hlt)
    have hsn := fm_snoc (f := alook mp) hlt hr
    have hfl : ((l.take i).filterMap (alook mp)).length ≤ i := Nat.le_trans (List.length_filterMap_le _ _) (by rw [List.length_take]; omega)
    have hH3 := hH2.kp0 hk3
    repeat (first|apply cA|apply cB|apply cD|apply cE|apply cF|apply cG|apply cH|apply cJ|apply cU|refine cV rfl ?_|apply cX|refine cY rfl rfl rfl rfl (by first|((first|apply qep|apply qmv|apply qas|apply qlc|apply qla|apply qfa|apply qnc|apply qix|apply qls|apply qad|apply qln|apply qlv|apply qep)<;>(first|exact rfl|assumption|exact Ar.mk (by omega)|exact dct (by first|assumption|omega)|exact dcf (by first|assumption|omega)|exact List.not_mem_nil|apply dc_length|apply prc_length|exact lk1 (by assumption)|fail))|fail) ?_)
    refine dB rfl (by exact rho_of rfl) rfl ?_
    repeat (first|apply cA|apply cB|apply cD|apply cE|apply cF|apply cG|apply cH|apply cJ|apply cU|refine cV rfl ?_|apply cX|refine cY rfl rfl rfl rfl (by first|((first|apply qep|apply qmv|apply qas|apply qlc|apply qla|apply qfa|apply qnc|apply qix|apply qls|apply qad|apply qln|apply qlv|apply qep)<;>(first|exact rfl|assumption|exact Ar.mk (by omega)|exact dct (by first|assumption|omega)|exact dcf (by first|assumption|omega)|exact List.not_mem_nil|apply dc_length|apply prc_length|exact lk1 (by assumption)|fail))|fail) ?_)
    refine SG.alloc rfl rfl rfl (fun b5 w4 hk4 hb5 hB5 => ?_)
    refine SG.setAll (l := dc l[i]) rfl rfl (by exact rho_of rfl) (by exact rho_of rfl) hB5 (dc_length _) rfl (dc_one _) (fun w5 hk5 hB5 => ?_)
    have hB5 : Blk w5 b5 (.cells (dc l[i]).toArray 25) := hB5
    have k35 : Kp [] w3 w5 := hk4.trans_new hk5 (new1 (by omega))
    have hH5 := hH3.kp0 k35
    obtain ⟨-, -, r2⟩ := hH5.rows
    have hm5 := hH5.pr
    have hR5 : Row w5 b5 0 (dc l[i]) := Row.all hB5 rfl
    clear hri
    repeat (first|apply cA|apply cB|apply cD|apply cE|apply cF|apply cG|apply cH|apply cJ|apply cU|refine cV rfl ?_|apply cX|refine cY rfl rfl rfl rfl (by first|((first|apply qep|apply qmv|apply qas|apply qlc|apply qla|apply qfa|apply qnc|apply qix|apply qls|apply qad|apply qln|apply qlv|apply qep)<;>(first|exact rfl|assumption|exact Ar.mk (by omega)|exact dct (by first|assumption|omega)|exact dcf (by first|assumption|omega)|exact List.not_mem_nil|apply dc_length|apply prc_length|exact lk1 (by assumption)|fail))|fail) ?_)
    refine CG.free mixed 8 [0, 1, 2, 3, 4, 5, 6, 7] [(7, gS w5.heap.size prc 27 [r])] (by kernel_rfl) (by intro p hp y; simp at hp; subst hp; exact gS_stab y) ?_
    repeat (refine DerX.val rfl rfl rfl rfl (by first|((first|apply qep|apply qmv|apply qas|apply qlc|apply qla|apply qfa|apply qnc|apply qix|apply qls|apply qad|apply qln|apply qlv|apply qep)<;>(first|exact rfl|assumption|exact Ar.mk (by omega)|exact dct (by first|assumption|omega)|exact dcf (by first|assumption|omega)|exact List.not_mem_nil|apply dc_length|apply prc_length|exact lk1 (by assumption)|fail))|fail) ?_)
    refine DerX.buildSlice [r] prc_length rfl rfl rfl rfl rfl rfl (Nat.le_refl _) (bsP r) (fun a7 c7 => ?_)
    refine DerX.tl (fun w6 hk6 hF => ?_)
    have hS7 : SlF w5.heap.size prc 27 w6 a7 c7 [r] := hF _ (.head _)
    have k6 := (hk3.trans k35).trans hk6
    have ho6 := own_kp0 ho (k35.trans hk6)
    clear hF r2 hm5 hR5
    repeat (first|apply cA|apply cB|apply cD|apply cE|apply cF|apply cG|apply cH|apply cJ|apply cU|refine cV rfl ?_|apply cX|refine cY rfl rfl rfl rfl (by first|((first|apply qep|apply qmv|apply qas|apply qlc|apply qla|apply qfa|apply qnc|apply qix|apply qls|apply qad|apply qln|apply qlv|apply qep)<;>(first|exact rfl|assumption|exact Ar.mk (by omega)|exact dct (by first|assumption|omega)|exact dcf (by first|assumption|omega)|exact List.not_mem_nil|apply dc_length|apply prc_length|exact lk1 (by assumption)|fail))|fail) ?_)
    refine SG.appO (enc := prc) (xs := (l.take i).filterMap (alook mp)) (ys := [r]) (base := w2.heap.size) rfl rfl rfl (by exact rho_of rfl) (by exact rho_of rfl) rfl rfl rfl rfl prc_length prc_one ho6 hS7.sl (by simp only [maxLen, List.length_cons, List.length_nil]; omega) (by show (((l.take i).filterMap (alook mp)).length + 1) * 48 ≤ _; omega) k6.size (fun v4 w7 hk7 ho7 _ => ?_)
    repeat (first|apply cA|apply cB|apply cD|apply cE|apply cF|apply cG|apply cH|apply cJ|apply cU|refine cV rfl ?_|apply cX|refine cY rfl rfl rfl rfl (by first|((first|apply qep|apply qmv|apply qas|apply qlc|apply qla|apply qfa|apply qnc|apply qix|apply qls|apply qad|apply qln|apply qlv|apply qep)<;>(first|exact rfl|assumption|exact Ar.mk (by omega)|exact dct (by first|assumption|omega)|exact dcf (by first|assumption|omega)|exact List.not_mem_nil|apply dc_length|apply prc_length|exact lk1 (by assumption)|fail))|fail) ?_)
    refine NG.round (v4, i + 1) (by (repeat' (first | exact True.intro | exact rfl | refine And.intro ?_ ?_))) ⟨by simp only; omega, k6.trans_new hk7 (own_new ho6 (Nat.le_refl _)), ?_⟩ (by simp only; omega)
    · simp only
      rw [hsn]
      exact ho7
  · have g1 : ¬ (i : Int) < (l.length : Int) := by omega
    rw [List.take_of_length_le (by omega)] at ho
    obtain ⟨a3, c3, rfl, _, _⟩ := Sl.own prc_length ho rfl
    repeat (first|apply cA|apply cB|apply cD|apply cE|apply cF|apply cG|apply cH|apply cJ|apply cU|refine cV rfl ?_|apply cX|refine cY rfl rfl rfl rfl (by first|((first|apply qep|apply qmv|apply qas|apply qlc|apply qla|apply qfa|apply qnc|apply qix|apply qls|apply qad|apply qln|apply qlv|apply qep)<;>(first|exact rfl|assumption|exact Ar.mk (by omega)|exact dct (by first|assumption|omega)|exact dcf (by first|assumption|omega)|exact List.not_mem_nil|apply dc_length|apply prc_length|exact lk1 (by assumption)|fail))|fail) ?_)
    refine dD rfl (by exact rho_of rfl) rfl ?_
    repeat (first|apply cA|apply cB|apply cD|apply cE|apply cF|apply cG|apply cH|apply cJ|apply cU|refine cV rfl ?_|apply cX|refine cY rfl rfl rfl rfl (by first|((first|apply qep|apply qmv|apply qas|apply qlc|apply qla|apply qfa|apply qnc|apply qix|apply qls|apply qad|apply qln|apply qlv|apply qep)<;>(first|exact rfl|assumption|exact Ar.mk (by omega)|exact dct (by first|assumption|omega)|exact dcf (by first|assumption|omega)|exact List.not_mem_nil|apply dc_length|apply prc_length|exact lk1 (by assumption)|fail))|fail) ?_)
    refine ret1 (Or.inl rfl) Try.results18 (by first | exact ResV.tmp rfl | exact ResV.agg rfl rfl (by assumption) (by first | exact dc_length _ | exact nc_length _ | exact rc_length _ _ _ | exact ec_length _ | exact dl_length _ _ _ _ | rfl) | exact ResV.cell rfl rfl (by assumption)) ?_
    exact ⟨_, rfl, own_mono ho hk2.size, hk2.trans hk3⟩
end Go.Proofs.Ytajllbdeoopimaa
namespace Go.Proofs.Ytajllbdeoopimaa
set_option linter.unusedVariables false
def dg1 (b : UInt8) : Dg := ⟨[b, 0, 0, 0, 0, 0, 0, 0], rfl⟩
theorem dg1_inj {a b : UInt8} (h : dg1 a = dg1 b) : a = b := by
  have := congrArg Subtype.val h
  simpa [dg1] using this
def twoP (nm : Dg) (e : Int) : Pu := ⟨nm, 0, e, e, []⟩
theorem checkZ_ok {p : Pu} (h : p.Ok) : checkZ p = 0 := by
  unfold checkZ
  rw [if_neg (fun k => k ⟨h.n, h.a, h.b⟩), if_neg (by have := h.l; omega), if_pos h.c, if_pos h.s]
theorem twoP_ok (nm : Dg) {e : Int} (h0 : 0 ≤ e) (h1 : e ≤ 1000000) : (twoP nm e).Ok :=
  ⟨by simp [twoP, farP], by simp only [twoP, amtP]; omega, by simp only [twoP, amtP]; omega, by simp [twoP], by simp only [twoP, amtP, sumP, sumH, List.foldl_nil]; omega, rfl⟩
theorem oneP_ok {p : Pu} {h : Hd} (e : p.held = [h]) (hh : h.Ok) (hn : farP p.num) (ha : amtP p.h0) (hb : amtP p.h1) (hs : amtP (p.h0 + p.h1 + h.amt)) : p.Ok :=
  ⟨hn, ha, hb, by simp [e], by simpa [sumP, sumH, e] using hs, by rw [e]; simp [chkL, hh]⟩
theorem open0 (k nm : Dg) {e s : Int} (h0 : 0 ≤ e) (h1 : e ≤ 1000000) (hs : s = 0 ∨ s = 1) : openE [] k (twoP nm e) s = 0 := by
  unfold openE
  rw [checkZ_ok (twoP_ok nm h0 h1), if_neg (fun h => h rfl), if_neg (by omega), if_neg (fun h => h rfl), if_neg (by simp [alook, namedB]), if_neg (by simp)]
theorem open1 {k1 k2 nm : Dg} {x : Sh} {e s : Int} (h0 : 0 ≤ e) (h1 : e ≤ 1000000) (hs : s = 0 ∨ s = 1) (hk : k1 ≠ k2) (hn : x.p.name ≠ nm) : openE [(k1, x)] k2 (twoP nm e) s = 0 := by
  unfold openE
  rw [checkZ_ok (twoP_ok nm h0 h1), if_neg (fun h => h rfl), if_neg (by omega), if_neg (fun h => h rfl), if_neg (by simp [alook, namedB, hk]; exact hn), if_neg (by simp)]
theorem aput1 {ν : Type} {k1 k2 : Dg} {x y : ν} (hk : k1 ≠ k2) : aput [(k1, x)] k2 y = [(k1, x), (k2, y)] := by simp [aput, hk]
theorem aput2 {ν : Type} {k1 k2 : Dg} {x y x' y' : ν} (hk : k1 ≠ k2) : aput (aput [(k1, x), (k2, y)] k1 x') k2 y' = [(k1, x'), (k2, y')] := by simp [aput, hk]
theorem aput2' {ν : Type} {k1 k2 : Dg} {x y x' y' : ν} (hk : k1 ≠ k2) : aput (aput [(k1, x), (k2, y)] k2 y') k1 x' = [(k1, x'), (k2, y')] := by simp [aput, hk]
theorem alook2 {ν : Type} {k1 k2 : Dg} {x y : ν} (hk : k1 ≠ k2) : alook [(k1, x), (k2, y)] k1 = some x ∧ alook [(k1, x), (k2, y)] k2 = some y := by simp [alook, hk]
/-- Two purses, one forwarded through. -/
structure Hop (k1 k2 n : Dg) (x y : Sh) (e now til amt : Int) : Prop where
  ne : k1 ≠ k2
  xp : ∃ nm, x.p = twoP nm e
  yp : ∃ nm, y.p = twoP nm e
  xs : x.side = 0 ∨ x.side = 1
  ys : y.side = 0 ∨ y.side = 1
  e0 : 0 ≤ e
  e1 : e ≤ 1000000
  n0 : 0 ≤ now
  n1 : now ≤ 1000000
  t0 : now + 5 ≤ til
  t1 : til ≤ 1000000
  a0 : 0 < amt
  a1 : amt ≤ e
theorem hold_two {x : Sh} {nm : Dg} {e : Int} (hx : x.p = twoP nm e) (h0 : 0 ≤ e) (h1 : e ≤ 1000000) {h : Hd} (hh : h.Ok) (ha : h.amt ≤ e) : chgZ x.p (holdE x.p h) = 0 := by
  have h2 : holdE x.p h = 0 := by
    unfold holdE
    have hv : haveP x.p h.side = e := by
      rw [hx]
      unfold haveP twoP
      split <;> rfl
    have := hh.s0
    have := hh.s1
    have := hh.a0
    have := hh.a1
    have := hh.t0
    have := hh.t1
    rw [if_neg (by omega), if_neg (by simp only [someP, farP, amtP]; omega), if_neg (by rw [hx]; simp [placeN, twoP]), if_neg (by rw [hx]; simp [twoP]), hv, if_neg (by omega)]
  unfold chgZ preZ
  rw [hx, checkZ_ok (twoP_ok nm h0 h1), ← hx, h2]
  simp [hx, twoP]
theorem Hop.hx {k1 k2 n : Dg} {x y : Sh} {e now til amt : Int} (h : Hop k1 k2 n x y e now til amt) : (nearH x n amt til).Ok := by
  obtain ⟨_, _, _, _, _, _, _, _, _, _, _, _, _⟩ := h
  constructor <;> simp only [nearH] <;> omega
theorem Hop.hy {k1 k2 n : Dg} {x y : Sh} {e now til amt : Int} (h : Hop k1 k2 n x y e now til amt) : (farH 5 y n amt til).Ok := by
  obtain ⟨_, _, _, _, _, _, _, _, _, _, _, _, _⟩ := h
  constructor <;> simp only [farH] <;> omega
theorem Hop.fwd {k1 k2 n : Dg} {x y : Sh} {e now til amt : Int} (h : Hop k1 k2 n x y e now til amt) : fwdE 5 [(k1, x), (k2, y)] [] now k1 k2 n amt til = 0 := by
  obtain ⟨nx, hx⟩ := h.xp
  obtain ⟨ny, hy⟩ := h.yp
  obtain ⟨l1, l2⟩ := alook2 (x := x) (y := y) h.ne
  have h1 := hold_two hx h.e0 h.e1 h.hx h.a1
  have h2 := hold_two hy h.e0 h.e1 h.hy h.a1
  unfold fwdE
  have := h.n0
  have := h.n1
  have := h.t0
  rw [if_neg (by omega), l1, l2]
  simp only
  rw [if_neg h.ne, if_neg (by simp [alook]), if_neg (by omega), h1, if_neg (fun h => h rfl), h2]
/-- What is held of one, parted again. -/
theorem free_one {p : Pu} {nm n : Dg} {e amt s til over : Int} (hp : p = nextP (holdQ (twoP nm e) ⟨n, amt, s, til⟩)) (hs : s = 0 ∨ s = 1) (h0 : 0 ≤ e) (h1 : e ≤ 1000000) (hh : (⟨n, amt, s, til⟩ : Hd).Ok) (ha : amt ≤ e) (o0 : 0 ≤ over) (o1 : over ≤ amt) :
    chgZ p (freeE p n over) = 0 ∧ (nextP (freeQ p n over)).held = [] ∧ haveP (nextP (freeQ p n over)) s = e - over ∧ haveP (nextP (freeQ p n over)) (1 - s) = e + over := by
  have a0 : 0 < amt := hh.a0
  have ok : p.Ok := by
    rcases hs with rfl | rfl
    · refine oneP_ok (h := ⟨n, amt, 0, til⟩) (by rw [hp]; rfl) hh (by rw [hp]; simp [nextP, holdQ, addP, twoP, farP]) (by rw [hp]; simp only [nextP, holdQ, addP, twoP, amtP, if_pos]; omega) (by rw [hp]; simp only [nextP, holdQ, addP, twoP, amtP, if_pos]; omega) (by rw [hp]; simp only [nextP, holdQ, addP, twoP, amtP, if_pos]; omega)
    · refine oneP_ok (h := ⟨n, amt, 1, til⟩) (by rw [hp]; rfl) hh (by rw [hp]; simp [nextP, holdQ, addP, twoP, farP]) (by rw [hp]; simp [nextP, holdQ, addP, twoP, amtP]; omega) (by rw [hp]; simp [nextP, holdQ, addP, twoP, amtP]; omega) (by rw [hp]; simp [nextP, holdQ, addP, twoP, amtP]; omega)
  have hat : atP p n = some ⟨n, amt, s, til⟩ := by
    rw [hp]
    rcases hs with rfl | rfl <;> simp [atP, placeN, nextP, holdQ, addP, twoP]
  have hpl : placeN p.held n = 0 := by
    rw [hp]
    rcases hs with rfl | rfl <;> simp [placeN, nextP, holdQ, addP, twoP]
  refine ⟨?_, ?_, ?_, ?_⟩
  · unfold chgZ preZ freeE
    rw [checkZ_ok ok, hat]
    have : p.num = 1 := by rw [hp]; rcases hs with rfl | rfl <;> rfl
    simp [this]
    omega
  all_goals
    unfold freeQ
    rw [hat]
    simp only [hpl]
    rw [hp]
    rcases hs with rfl | rfl <;> simp [partP, nextP, holdQ, addP, twoP, cutL, haveP]
  all_goals omega
end Go.Proofs.Ytajllbdeoopimaa
namespace Go.Proofs.Ytajllbdeoopimaa
set_option linter.unusedVariables false
theorem owf (z : Int) (h1 : -9223372036854775808 ≤ z) (h2 : z ≤ 9223372036854775807) : (Lit.int .i64 z).wf = true := by
  simp [Lit.wf, IntKind.min, IntKind.max, IntKind.signed, IntKind.bits]
  omega
theorem owb (u : UInt8) : (Lit.int .u8 (u.toNat : Int)).wf = true := by
  have := u.toNat_lt
  simp [Lit.wf, IntKind.min, IntKind.max, IntKind.signed, IntKind.bits]
  omega
theorem osz : ∃ m, Try.prog.types.size = m + 3 := ⟨Try.prog.types.size - 3, by kernel_rfl⟩
theorem oc5 : Try.prog.cellsOf 5 = 1 := by kernel_rfl
theorem oc3 : Try.prog.cellsOf 3 = 1 := by kernel_rfl
theorem ocD : Try.prog.cellsOf 25 = 8 := by kernel_rfl
theorem ocE : Try.prog.cellsOf 24 = 8 := by kernel_rfl
def fitZ (z : Int) : Prop := -9223372036854775808 ≤ z ∧ z ≤ 9223372036854775807
structure Hd.Fit (h : Hd) : Prop where
  a : fitZ h.amt
  b : fitZ h.side
  c : fitZ h.til
structure Pr.Fit (h : Pr) : Prop where
  a : fitZ h.amt
  b : fitZ h.inn
  c : fitZ h.out
theorem hc_inj {a b : Hd} (h : hc a = hc b) : a = b := by
  obtain ⟨n, x, y, z⟩ := a
  obtain ⟨n', x', y', z'⟩ := b
  have h' := List.append_inj h (by simp [dc_length])
  have h1 := dc_inj h'.1
  have h4 := h'.2
  simp at h4
  obtain ⟨rfl, rfl, rfl⟩ := h4
  simp only at h1
  subst h1
  rfl
instance : DecidableEq Hd := fun a b => decidable_of_iff (a.name = b.name ∧ a.amt = b.amt ∧ a.side = b.side ∧ a.til = b.til) ⟨fun ⟨h1, h2, h3, h4⟩ => by cases a; cases b; simp only at h1 h2 h3 h4; rw [h1, h2, h3, h4], fun h => by rw [h]; exact ⟨rfl, rfl, rfl, rfl⟩⟩
instance : DecidableEq Pr := fun a b => decidable_of_iff (a.name = b.name ∧ a.frm = b.frm ∧ a.to = b.to ∧ a.amt = b.amt ∧ a.inn = b.inn ∧ a.out = b.out) ⟨fun ⟨h1, h2, h3, h4, h5, h6⟩ => by cases a; cases b; simp only at h1 h2 h3 h4 h5 h6; rw [h1, h2, h3, h4, h5, h6], fun h => by rw [h]; exact ⟨rfl, rfl, rfl, rfl, rfl, rfl⟩⟩
/-- Two numbers in an array. -/
abbrev Z2 := Int × Int
def zc2 (p : Z2) : List Value := [.int .i64 p.1, .int .i64 p.2]
def zv2 (p : Z2) : Value := .agg (zc2 p).toArray
theorem zc2_length (p : Z2) : (zc2 p).length = 2 := rfl
theorem zc2_inj {a b : Z2} (h : zc2 a = zc2 b) : a = b := by
  obtain ⟨x, y⟩ := a
  obtain ⟨x', y'⟩ := b
  simp [zc2] at h
  obtain ⟨rfl, rfl⟩ := h
  rfl
def Z2.Fit (p : Z2) : Prop := fitZ p.1 ∧ fitZ p.2
theorem oc_hd : Try.prog.cellsOf 56 = 11 := by kernel_rfl
set_option maxHeartbeats 4000000 in
theorem lits_hd' (n : Nat) (a0 a1 a2 a3 a4 a5 a6 a7 : UInt8) (x y z : Int) (hx : (Lit.int .i64 x).wf = true) (hy : (Lit.int .i64 y).wf = true) (hz : (Lit.int .i64 z).wf = true) :
    (Try.prog.keyLits (n + 3 + 1) 56 [bv a0, bv a1, bv a2, bv a3, bv a4, bv a5, bv a6, bv a7, .int .i64 x, .int .i64 y, .int .i64 z]).isSome = true := by
  simp [Program.keyLits, Try.underlying56, Try.underlying25, Try.underlying5, Try.underlying3, oc5, oc3, ocD, ocE, oc_hd, owb, hx, hy, hz, List.range, List.range.loop]
theorem lits_hd (o : Hd) (h : Hd.Fit o) : (Try.prog.keyLits (Try.prog.types.size + 1) 56 (hc o)).isSome = true := by
  obtain ⟨m, hm⟩ := osz
  rw [hm]
  obtain ⟨⟨l0, hl0⟩, x, y, z⟩ := o
  obtain ⟨h1, h2, h3⟩ := h
  match l0, hl0 with
  | [a0, a1, a2, a3, a4, a5, a6, a7], _ => exact lits_hd' m a0 a1 a2 a3 a4 a5 a6 a7 x y z (owf x h1.1 h1.2) (owf y h2.1 h2.2) (owf z h3.1 h3.2)
theorem formed_hd (o : Hd) : (Value.agg (hc o).toArray).formed Try.prog 56 = true := by
  simp [Value.formed, Try.underlying56, oc_hd, hc_length]
theorem equal_hd {a b : Hd} (ha : Hd.Fit a) (hb : Hd.Fit b) (w : World) : (Op.equal 56 (.agg (hc a).toArray) (.agg (hc b).toArray)).run Try.prog w = .ok (decide (a = b)) w := by
  obtain ⟨r, h1, h2⟩ := equal_agg (P := Try.prog) (T := 56) 3 (by omega) (by kernel_rfl) (by kernel_rfl) (by rw [Try.underlying56]) (by kernel_rfl) (formed_hd a) (formed_hd b) (lits_hd a ha) (lits_hd b hb) w
  have h3 : r = decide (a = b) := by
    by_cases e : a = b
    · rw [decide_eq_true e]
      exact h2.2 (by rw [e])
    · rw [decide_eq_false e]
      cases r with
      | false => rfl
      | true => exact absurd (hc_inj (h2.1 rfl)) e
  rw [h3] at h1
  exact h1
theorem guard_hd : Try.prog.eqGuardType Try.prog.depth 56 = false := by kernel_rfl
theorem qn_hd {S : List Nat} {w0 : World} {F : World → Prop} {L : Env} {d : Option Nat} {ty : TypeId} {pos : String} {af : Array Edge} {g : Option (Nat × Bool)} {x y : Operand} {T' : TypeId} {a b : Hd} {c : Bool} (hx : ro L x = some (.agg (hc a).toArray)) (hy : ro L y = some (.agg (hc b).toArray)) (ha : Hd.Fit a) (hb : Hd.Fit b) (h : Dc (a = b) c) :
    Vals Try.prog S w0 F L ⟨d, .binOp .neq 56 x y T', ty, pos, af, g⟩ (.bool (!c)) := fun w _ _ => by
  rw [← h.eq]
  have hx' : rho L x = .agg (hc a).toArray := rho_of hx
  have hy' : rho L y = .agg (hc b).toArray := rho_of hy
  have he : ∀ w, (Op.equal 56 (.agg (hc a).toArray) (.agg (hc b).toArray)).run Try.prog w = .ok (decide (a = b)) w := fun w => equal_hd ha hb w
  simp [execOp, hx', hy', eqGuard, binOp, he, guard_hd]
theorem oc_rhd : Try.prog.cellsOf 104 = 11 := by kernel_rfl
set_option maxHeartbeats 4000000 in
theorem lits_rhd' (n : Nat) (a0 a1 a2 a3 a4 a5 a6 a7 : UInt8) (x y z : Int) (hx : (Lit.int .i64 x).wf = true) (hy : (Lit.int .i64 y).wf = true) (hz : (Lit.int .i64 z).wf = true) :
    (Try.prog.keyLits (n + 3 + 1) 104 [bv a0, bv a1, bv a2, bv a3, bv a4, bv a5, bv a6, bv a7, .int .i64 x, .int .i64 y, .int .i64 z]).isSome = true := by
  simp [Program.keyLits, Try.underlying104, Try.underlying24, Try.underlying5, Try.underlying3, oc5, oc3, ocD, ocE, oc_rhd, owb, hx, hy, hz, List.range, List.range.loop]
theorem lits_rhd (o : Hd) (h : Hd.Fit o) : (Try.prog.keyLits (Try.prog.types.size + 1) 104 (hc o)).isSome = true := by
  obtain ⟨m, hm⟩ := osz
  rw [hm]
  obtain ⟨⟨l0, hl0⟩, x, y, z⟩ := o
  obtain ⟨h1, h2, h3⟩ := h
  match l0, hl0 with
  | [a0, a1, a2, a3, a4, a5, a6, a7], _ => exact lits_rhd' m a0 a1 a2 a3 a4 a5 a6 a7 x y z (owf x h1.1 h1.2) (owf y h2.1 h2.2) (owf z h3.1 h3.2)
theorem formed_rhd (o : Hd) : (Value.agg (hc o).toArray).formed Try.prog 104 = true := by
  simp [Value.formed, Try.underlying104, oc_rhd, hc_length]
theorem equal_rhd {a b : Hd} (ha : Hd.Fit a) (hb : Hd.Fit b) (w : World) : (Op.equal 104 (.agg (hc a).toArray) (.agg (hc b).toArray)).run Try.prog w = .ok (decide (a = b)) w := by
  obtain ⟨r, h1, h2⟩ := equal_agg (P := Try.prog) (T := 104) 3 (by omega) (by kernel_rfl) (by kernel_rfl) (by rw [Try.underlying104]) (by kernel_rfl) (formed_rhd a) (formed_rhd b) (lits_rhd a ha) (lits_rhd b hb) w
  have h3 : r = decide (a = b) := by
    by_cases e : a = b
    · rw [decide_eq_true e]
      exact h2.2 (by rw [e])
    · rw [decide_eq_false e]
      cases r with
      | false => rfl
      | true => exact absurd (hc_inj (h2.1 rfl)) e
  rw [h3] at h1
  exact h1
theorem guard_rhd : Try.prog.eqGuardType Try.prog.depth 104 = false := by kernel_rfl
theorem qn_rhd {S : List Nat} {w0 : World} {F : World → Prop} {L : Env} {d : Option Nat} {ty : TypeId} {pos : String} {af : Array Edge} {g : Option (Nat × Bool)} {x y : Operand} {T' : TypeId} {a b : Hd} {c : Bool} (hx : ro L x = some (.agg (hc a).toArray)) (hy : ro L y = some (.agg (hc b).toArray)) (ha : Hd.Fit a) (hb : Hd.Fit b) (h : Dc (a = b) c) :
    Vals Try.prog S w0 F L ⟨d, .binOp .neq 104 x y T', ty, pos, af, g⟩ (.bool (!c)) := fun w _ _ => by
  rw [← h.eq]
  have hx' : rho L x = .agg (hc a).toArray := rho_of hx
  have hy' : rho L y = .agg (hc b).toArray := rho_of hy
  have he : ∀ w, (Op.equal 104 (.agg (hc a).toArray) (.agg (hc b).toArray)).run Try.prog w = .ok (decide (a = b)) w := fun w => equal_rhd ha hb w
  simp [execOp, hx', hy', eqGuard, binOp, he, guard_rhd]
theorem oc_z2 : Try.prog.cellsOf 31 = 2 := by kernel_rfl
set_option maxHeartbeats 4000000 in
theorem lits_z2' (n : Nat) (x y : Int) (hx : (Lit.int .i64 x).wf = true) (hy : (Lit.int .i64 y).wf = true) :
    (Try.prog.keyLits (n + 3 + 1) 31 [.int .i64 x, .int .i64 y]).isSome = true := by
  simp [Program.keyLits, Try.underlying31, Try.underlying5, Try.underlying3, oc5, oc3, ocD, ocE, oc_z2, owb, hx, hy, List.range, List.range.loop]
theorem lits_z2 (o : Z2) (h : Z2.Fit o) : (Try.prog.keyLits (Try.prog.types.size + 1) 31 (zc2 o)).isSome = true := by
  obtain ⟨m, hm⟩ := osz
  rw [hm]
  obtain ⟨x, y⟩ := o
  obtain ⟨h1, h2⟩ := h
  exact lits_z2' m x y (owf x h1.1 h1.2) (owf y h2.1 h2.2)
theorem formed_z2 (o : Z2) : (Value.agg (zc2 o).toArray).formed Try.prog 31 = true := by
  simp [Value.formed, Try.underlying31, oc_z2, zc2_length]
theorem equal_z2 {a b : Z2} (ha : Z2.Fit a) (hb : Z2.Fit b) (w : World) : (Op.equal 31 (.agg (zc2 a).toArray) (.agg (zc2 b).toArray)).run Try.prog w = .ok (decide (a = b)) w := by
  obtain ⟨r, h1, h2⟩ := equal_agg (P := Try.prog) (T := 31) 3 (by omega) (by kernel_rfl) (by kernel_rfl) (by rw [Try.underlying31]) (by kernel_rfl) (formed_z2 a) (formed_z2 b) (lits_z2 a ha) (lits_z2 b hb) w
  have h3 : r = decide (a = b) := by
    by_cases e : a = b
    · rw [decide_eq_true e]
      exact h2.2 (by rw [e])
    · rw [decide_eq_false e]
      cases r with
      | false => rfl
      | true => exact absurd (zc2_inj (h2.1 rfl)) e
  rw [h3] at h1
  exact h1
theorem guard_z2 : Try.prog.eqGuardType Try.prog.depth 31 = false := by kernel_rfl
theorem qe_z2 {S : List Nat} {w0 : World} {F : World → Prop} {L : Env} {d : Option Nat} {ty : TypeId} {pos : String} {af : Array Edge} {g : Option (Nat × Bool)} {x y : Operand} {T' : TypeId} {a b : Z2} {c : Bool} (hx : ro L x = some (.agg (zc2 a).toArray)) (hy : ro L y = some (.agg (zc2 b).toArray)) (ha : Z2.Fit a) (hb : Z2.Fit b) (h : Dc (a = b) c) :
    Vals Try.prog S w0 F L ⟨d, .binOp .eql 31 x y T', ty, pos, af, g⟩ (.bool c) := fun w _ _ => by
  rw [← h.eq]
  have hx' : rho L x = .agg (zc2 a).toArray := rho_of hx
  have hy' : rho L y = .agg (zc2 b).toArray := rho_of hy
  have he : ∀ w, (Op.equal 31 (.agg (zc2 a).toArray) (.agg (zc2 b).toArray)).run Try.prog w = .ok (decide (a = b)) w := fun w => equal_z2 ha hb w
  simp [execOp, hx', hy', eqGuard, binOp, he, guard_z2]
theorem qn_z2 {S : List Nat} {w0 : World} {F : World → Prop} {L : Env} {d : Option Nat} {ty : TypeId} {pos : String} {af : Array Edge} {g : Option (Nat × Bool)} {x y : Operand} {T' : TypeId} {a b : Z2} {c : Bool} (hx : ro L x = some (.agg (zc2 a).toArray)) (hy : ro L y = some (.agg (zc2 b).toArray)) (ha : Z2.Fit a) (hb : Z2.Fit b) (h : Dc (a = b) c) :
    Vals Try.prog S w0 F L ⟨d, .binOp .neq 31 x y T', ty, pos, af, g⟩ (.bool (!c)) := fun w _ _ => by
  rw [← h.eq]
  have hx' : rho L x = .agg (zc2 a).toArray := rho_of hx
  have hy' : rho L y = .agg (zc2 b).toArray := rho_of hy
  have he : ∀ w, (Op.equal 31 (.agg (zc2 a).toArray) (.agg (zc2 b).toArray)).run Try.prog w = .ok (decide (a = b)) w := fun w => equal_z2 ha hb w
  simp [execOp, hx', hy', eqGuard, binOp, he, guard_z2]
end Go.Proofs.Ytajllbdeoopimaa
namespace Go.Proofs.Ytajllbdeoopimaa
set_option linter.unusedVariables false
theorem bd1 (b : UInt8) (w : World) : (Instr.build 25 #[(0, bv b)]).run Try.prog w = .ok (dv (dg1 b)) w := by kernel_rfl
theorem bz2 (x y : Int) (w : World) : (Instr.build 31 #[(0, .int .i64 x), (1, .int .i64 y)]).run Try.prog w = .ok (zv2 (x, y)) w := by kernel_rfl
theorem btw (b : UInt8) (e : Int) (w : World) : (Instr.build 34 #[(0, dv (dg1 b)), (2, zv2 (e, e))]).run Try.prog w = .ok (pv (twoP (dg1 b) e) (.slice none 0 0)) w := by kernel_rfl
theorem Hop.set {k1 k2 n : Dg} {x y : Sh} {e now til amt : Int} (h : Hop k1 k2 n x y e now til amt) {t over : Int} (t0 : 0 ≤ t) (t1 : t + 5 ≤ til) (o0 : 0 ≤ over) (o1 : over ≤ amt) (a1 a2 : Option Addr) (c1 c2 : Nat) :
    setE [(k1, ⟨fwdX x n amt til, a1, c1, x.side⟩), (k2, ⟨fwdY 5 y n amt til, a2, c2, y.side⟩)] [(n, fwdR 5 k1 k2 n amt til)] t n over = 0 := by
  obtain ⟨nx, hx⟩ := h.xp
  obtain ⟨ny, hy⟩ := h.yp
  obtain ⟨l1, l2⟩ := alook2 (x := (⟨fwdX x n amt til, a1, c1, x.side⟩ : Sh)) (y := ⟨fwdY 5 y n amt til, a2, c2, y.side⟩) h.ne
  have f1 := free_one (p := fwdX x n amt til) (nm := nx) (n := n) (e := e) (amt := amt) (s := 1 - x.side) (til := til) (over := over) (by unfold fwdX nearH; rw [hx]) (by have := h.xs; omega) h.e0 h.e1 h.hx h.a1 o0 o1
  have f2 := free_one (p := fwdY 5 y n amt til) (nm := ny) (n := n) (e := e) (amt := amt) (s := y.side) (til := til - 5) (over := over) (by unfold fwdY farH; rw [hy]) h.ys h.e0 h.e1 h.hy h.a1 o0 o1
  have := h.t1
  unfold setE
  rw [if_neg (by omega)]
  simp only [alook, if_pos, fwdR]
  rw [if_neg (by omega), if_neg (by omega), if_neg h.ne]
  simp only
  rw [f1.1, f2.1]
  rfl
theorem filt1 {n : Dg} {r : Pr} : ([(n, r)] : Mp).filter (fun q => decide (q.1 ≠ n)) = [] := by simp
attribute [local irreducible] CG NG SG Vals Der Row Blk MapIs IterAt DerX
set_option maxHeartbeats 8000000 in
theorem two_spec (b : UInt8) (e : Int) (w : World) : Ret Try.prog 13 #[bv b, .int .i64 e] w (pv (twoP (dg1 b) e) (.slice none 0 0)) := by
  refine enter2 Try.func13 rfl Try.ntmps13 rfl ?_
  refine cA ?_
  refine cB ?_
  refine SG.alloc rfl rfl rfl (fun b4 w1 hk1 hb4 hB4 => ?_)
  repeat (first|apply cA|apply cB|apply cD|apply cE|apply cF|apply cH|refine cY rfl rfl rfl rfl (by first|((first|apply qe_z2|apply qep|apply qmv|apply qas|apply qlc|apply qla|apply qfa|apply qic|apply qpk|apply qni|apply qln|apply qxt|apply qep)<;>(first|exact rfl|assumption|exact Ar.mk (by omega)|exact dct (by first|assumption|omega)|exact List.not_mem_nil|apply dc_length|apply hc_length|apply pc_length|apply prc_length|exact nm2 (by omega) (by omega)|exact nm1 (by omega)|exact dcu|fail))|fail) ?_)
  refine cY rfl rfl rfl rfl (vals_build rfl (bd1 b)) ?_
  repeat (first|apply cA|apply cB|apply cD|apply cE|apply cF|apply cH|refine cY rfl rfl rfl rfl (by first|((first|apply qe_z2|apply qep|apply qmv|apply qas|apply qlc|apply qla|apply qfa|apply qic|apply qpk|apply qni|apply qln|apply qxt|apply qep)<;>(first|exact rfl|assumption|exact Ar.mk (by omega)|exact dct (by first|assumption|omega)|exact List.not_mem_nil|apply dc_length|apply hc_length|apply pc_length|apply prc_length|exact nm2 (by omega) (by omega)|exact nm1 (by omega)|exact dcu|fail))|fail) ?_)
  refine cY rfl rfl rfl rfl (vals_build rfl (bz2 e e)) ?_
  refine cY rfl rfl rfl rfl (vals_build rfl (btw b e)) ?_
  refine SG.setAll (l := pc (twoP (dg1 b) e) (.slice none 0 0)) rfl rfl (by exact rho_of rfl) (by exact rho_of rfl) hB4 (pc_length _ _) rfl (pc_one _ _ _ _) (fun w2 hk2 hB5 => ?_)
  have hr : Row w2 b4 0 (pc (twoP (dg1 b) e) (.slice none 0 0)) := Row.all hB5 rfl
  repeat (first|apply cA|apply cB|apply cD|apply cE|apply cF|apply cH|refine cY rfl rfl rfl rfl (by first|((first|apply qe_z2|apply qep|apply qmv|apply qas|apply qlc|apply qla|apply qfa|apply qic|apply qpk|apply qni|apply qln|apply qxt|apply qep)<;>(first|exact rfl|assumption|exact Ar.mk (by omega)|exact dct (by first|assumption|omega)|exact List.not_mem_nil|apply dc_length|apply hc_length|apply pc_length|apply prc_length|exact nm2 (by omega) (by omega)|exact nm1 (by omega)|exact dcu|fail))|fail) ?_)
  refine ret1 (Or.inl rfl) Try.results13 (ResV.agg rfl rfl hr (pc_length _ _)) ?_
  exact ⟨rfl, hk1.trans_new hk2 (new1 (by omega))⟩
/-- A hub in a place that only its own calls write. -/
def HubR (bh bs bp : Nat) (win : Int) (ms : Ms) (mp : Mp) (w : World) : Prop := HubAt w bh bs bp win ms mp
theorem hubR_stab {bh bs bp : Nat} {win : Int} {ms : Ms} {mp : Mp} : Stab [] (HubR bh bs bp win ms mp) := fun _ _ hk h => HubAt.kp0 h hk
theorem kp2a {bs bp : Nat} {w w' : World} (h : Kp [bs] w w') : Kp [bs, bp] w w' := h.mono (fun v hv => by rw [List.mem_singleton] at hv; subst hv; simp)
theorem prc_rowsO {w : World} {b off : Nat} {r : Pr} (h : Row w b off (prc r)) : Row w b (off + 25) [.int .i64 r.inn] ∧ Row w b (off + 26) [.int .i64 r.out] := by
  have l1 : (dc r.name).length = 8 := dc_length _
  have l2 : (dc r.frm).length = 8 := dc_length _
  have l3 : (dc r.to).length = 8 := dc_length _
  have h1 := h.part (dc r.name ++ (dc r.frm ++ (dc r.to ++ [.int .i64 r.amt]))) [.int .i64 r.inn] [.int .i64 r.out] (by simp [prc])
  have h2 := h.part (dc r.name ++ (dc r.frm ++ (dc r.to ++ [.int .i64 r.amt, .int .i64 r.inn]))) [.int .i64 r.out] [] (by simp [prc])
  have e1 : (dc r.name ++ (dc r.frm ++ (dc r.to ++ [Value.int .i64 r.amt]))).length = 25 := by simp [l1, l2, l3]
  have e2 : (dc r.name ++ (dc r.frm ++ (dc r.to ++ [Value.int .i64 r.amt, Value.int .i64 r.inn]))).length = 26 := by simp [l1, l2, l3]
  rw [e1] at h1
  rw [e2] at h2
  exact ⟨h1, h2⟩
theorem pc_have {w : World} {b : Nat} {T : TypeId} {p : Pu} {s : Value} (h : Blk w b (.cells (pc p s).toArray T)) : Row w b 9 (zc2 (p.h0, p.h1)) := by
  have l8 : (dc p.name).length = 8 := dc_length _
  exact Row.of h (dc p.name ++ [.int .i64 p.num]) [s] (by simp [pc, zc2]) (by simp [l8])
set_option maxHeartbeats 32000000 in
theorem known_spec (w : World) : Ret Try.prog 19 #[] w (.bool true) := by
  refine enter0 Try.func19 rfl Try.ntmps19 ?_
  repeat (first|apply cA|apply cB|apply cD|apply cE|apply cF|apply cH|refine cY rfl rfl rfl rfl (by first|((first|apply qe_z2|apply qep|apply qmv|apply qas|apply qlc|apply qla|apply qfa|apply qic|apply qpk|apply qni|apply qln|apply qxt|apply qep)<;>(first|exact rfl|assumption|exact Ar.mk (by omega)|exact dct (by first|assumption|omega)|exact List.not_mem_nil|apply dc_length|apply hc_length|apply pc_length|apply prc_length|exact nm2 (by omega) (by omega)|exact nm1 (by omega)|exact dcu|fail))|fail) ?_)
  refine SG.call rfl rfl rfl (vs := [.int .i64 5]) (by repeat' (first | exact True.intro | exact rho_of rfl | refine And.intro ?_ ?_)) ((new_spec 5 (by decide) (by decide) w).mono (fun e w1 hh => ?_))
  obtain ⟨bh, bs, bp, he, hk1, gh, gs, gp, hH1⟩ := hh
  refine ⟨_, he, ?_⟩
  clear he
  have ls := hH1.sh.lt
  have lp := hH1.pr.lt
  repeat (first|apply cA|apply cB|apply cD|apply cE|apply cF|apply cH|refine cY rfl rfl rfl rfl (by first|((first|apply qe_z2|apply qep|apply qmv|apply qas|apply qlc|apply qla|apply qfa|apply qic|apply qpk|apply qni|apply qln|apply qxt|apply qep)<;>(first|exact rfl|assumption|exact Ar.mk (by omega)|exact dct (by first|assumption|omega)|exact List.not_mem_nil|apply dc_length|apply hc_length|apply pc_length|apply prc_length|exact nm2 (by omega) (by omega)|exact nm1 (by omega)|exact dcu|fail))|fail) ?_)
  refine cY rfl rfl rfl rfl (vals_build rfl (bd1 1)) ?_
  refine cY rfl rfl rfl rfl (vals_build rfl (bd1 2)) ?_
  refine cY rfl rfl rfl rfl (vals_build rfl (bd1 9)) ?_
  refine SG.alloc rfl rfl rfl (fun b3 w2 hk2 hb3 hB3 => ?_)
  refine SG.alloc rfl rfl rfl (fun b4 w3 hk3 hb4 hB4 => ?_)
  refine SG.alloc rfl rfl rfl (fun b5 w4 hk4 hb5 hB5 => ?_)
  have l3 := hB3.lt
  have l4 := hB4.lt
  have l5 := hB5.lt
  have s1 := hk1.size
  have s2 := hk2.size
  have s3 := hk3.size
  have s4 := hk4.size
  refine SG.setAll (l := dc (dg1 1)) rfl rfl (by exact rho_of rfl) (by exact rho_of rfl) ((hB3.kp0 hk3).kp0 hk4) (dc_length _) rfl (dc_one _) (fun w5 hk5 hB3 => ?_)
  refine SG.setAll (l := dc (dg1 2)) rfl rfl (by exact rho_of rfl) (by exact rho_of rfl) ((hB4.kp0 hk4).kp hk5 (nm1 (by omega))) (dc_length _) rfl (dc_one _) (fun w6 hk6 hB4 => ?_)
  refine SG.setAll (l := dc (dg1 9)) rfl rfl (by exact rho_of rfl) (by exact rho_of rfl) ((hB5.kp hk5 (nm1 (by omega))).kp hk6 (nm1 (by omega))) (dc_length _) rfl (dc_one _) (fun w7 hk7 hB5 => ?_)
  have k17 : Kp [] w1 w7 := ((((hk2.trans hk3).trans hk4).trans_new hk5 (new1 (by omega))).trans_new hk6 (new1 (by omega))).trans_new hk7 (new1 (by omega))
  have hH7 := hH1.kp0 k17
  have q3 : Row w7 b3 0 (dc (dg1 1)) := Row.all ((hB3.kp hk6 (nm1 (by omega))).kp hk7 (nm1 (by omega))) rfl
  have q4 : Row w7 b4 0 (dc (dg1 2)) := Row.all (hB4.kp hk7 (nm1 (by omega))) rfl
  have q5 : Row w7 b5 0 (dc (dg1 9)) := Row.all hB5 rfl
  clear hB3 hB4 hB5
  have s5 := k17.size
  repeat (first|apply cA|apply cB|apply cD|apply cE|apply cF|apply cH|refine cY rfl rfl rfl rfl (by first|((first|apply qe_z2|apply qep|apply qmv|apply qas|apply qlc|apply qla|apply qfa|apply qic|apply qpk|apply qni|apply qln|apply qxt|apply qep)<;>(first|exact rfl|assumption|exact Ar.mk (by omega)|exact dct (by first|assumption|omega)|exact List.not_mem_nil|apply dc_length|apply hc_length|apply pc_length|apply prc_length|exact nm2 (by omega) (by omega)|exact nm1 (by omega)|exact dcu|fail))|fail) ?_)
  refine CG.draw mixed [0, 1, 2, 3, 4, 5, 6, 7, 8, 9, 10, 11, 12, 13, 14, 15, 16, 17, 18, 19, 20, 21, 22, 23, 24, 25, 26, 27] [10, 17, 25] [] [bs, bp] (HubR bh bs bp 5 [] []) (by kernel_rfl) (by intro y hy; simp at hy; omega) (by simp) hH7 hubR_stab (Or.inl rfl) ?_
  repeat (first | refine dA rfl rfl rfl (by first|((first|apply qe_z2|apply qep|apply qmv|apply qas|apply qlc|apply qla|apply qfa|apply qic|apply qpk|apply qni|apply qln|apply qxt|apply qep)<;>(first|exact rfl|assumption|exact Ar.mk (by omega)|exact dct (by first|assumption|omega)|exact List.not_mem_nil|apply dc_length|apply hc_length|apply pc_length|apply prc_length|exact nm2 (by omega) (by omega)|exact nm1 (by omega)|exact dcu|fail))|fail) ?_ | refine Der.skip rfl rfl ?_)
  refine Der.call rfl rfl rfl (vs := [bv 1, .int .i64 10]) (by repeat' (first | exact True.intro | exact rho_of rfl | refine And.intro ?_ ?_)) (fun w hk _ => two_spec 1 10 w) ?_
  repeat (first | refine dA rfl rfl rfl (by first|((first|apply qe_z2|apply qep|apply qmv|apply qas|apply qlc|apply qla|apply qfa|apply qic|apply qpk|apply qni|apply qln|apply qxt|apply qep)<;>(first|exact rfl|assumption|exact Ar.mk (by omega)|exact dct (by first|assumption|omega)|exact List.not_mem_nil|apply dc_length|apply hc_length|apply pc_length|apply prc_length|exact nm2 (by omega) (by omega)|exact nm1 (by omega)|exact dcu|fail))|fail) ?_ | refine Der.skip rfl rfl ?_)
  refine Der.callGR (X := Option Addr × Nat) (vs := [.pointer (some ⟨bh, 0, none⟩), dv (dg1 1), pv (twoP (dg1 1) 10) (.slice none 0 0), .int .i64 0]) (fun _ => .int .i64 0) (fun _ _ => True) (fun q => HubR bh bs bp 5 [(dg1 1, ⟨twoP (dg1 1) 10, q.1, q.2, 0⟩)] []) rfl rfl rfl rfl (by repeat' (first | exact True.intro | exact rho_of rfl | refine And.intro ?_ ?_)) (fun _ _ _ _ _ => trivial) (fun _ => hubR_stab) (fun _ _ _ h => h) (fun W _ _ hR => (open_spec (a := none) (c := 0) hR (dg1 1) (twoP (dg1 1) 10) 0 Sl.nil (by decide) (by decide)).mono (fun e w' hh => ?_)) (fun q => ?_)
  · have h0 := open0 (dg1 1) (dg1 1) (e := 10) (s := 0) (by decide) (by decide) (Or.inl rfl)
    rw [h0] at hh
    obtain ⟨he, ⟨h1, _⟩ | ⟨_, hk, a', c', hH⟩⟩ := hh
    · exact absurd rfl h1
    · exact ⟨(a', c'), he, trivial, hH, kp2a hk⟩
  repeat (first | refine dA rfl rfl rfl (by first|((first|apply qe_z2|apply qep|apply qmv|apply qas|apply qlc|apply qla|apply qfa|apply qic|apply qpk|apply qni|apply qln|apply qxt|apply qep)<;>(first|exact rfl|assumption|exact Ar.mk (by omega)|exact dct (by first|assumption|omega)|exact List.not_mem_nil|apply dc_length|apply hc_length|apply pc_length|apply prc_length|exact nm2 (by omega) (by omega)|exact nm1 (by omega)|exact dcu|fail))|fail) ?_ | refine Der.skip rfl rfl ?_)
  refine Der.call rfl rfl rfl (vs := [bv 2, .int .i64 10]) (by repeat' (first | exact True.intro | exact rho_of rfl | refine And.intro ?_ ?_)) (fun w hk _ => two_spec 2 10 w) ?_
  repeat (first | refine dA rfl rfl rfl (by first|((first|apply qe_z2|apply qep|apply qmv|apply qas|apply qlc|apply qla|apply qfa|apply qic|apply qpk|apply qni|apply qln|apply qxt|apply qep)<;>(first|exact rfl|assumption|exact Ar.mk (by omega)|exact dct (by first|assumption|omega)|exact List.not_mem_nil|apply dc_length|apply hc_length|apply pc_length|apply prc_length|exact nm2 (by omega) (by omega)|exact nm1 (by omega)|exact dcu|fail))|fail) ?_ | refine Der.skip rfl rfl ?_)
  have hne : dg1 1 ≠ dg1 2 := fun h => by cases dg1_inj h
  refine Der.callGR (X := Option Addr × Nat) (vs := [.pointer (some ⟨bh, 0, none⟩), dv (dg1 2), pv (twoP (dg1 2) 10) (.slice none 0 0), .int .i64 0]) (fun _ => .int .i64 0) (fun _ _ => True) (fun p => HubR bh bs bp 5 [(dg1 1, ⟨twoP (dg1 1) 10, q.1, q.2, 0⟩), (dg1 2, ⟨twoP (dg1 2) 10, p.1, p.2, 0⟩)] []) rfl rfl rfl rfl (by repeat' (first | exact True.intro | exact rho_of rfl | refine And.intro ?_ ?_)) (fun _ _ _ _ _ => trivial) (fun _ => hubR_stab) (fun _ _ _ h => h) (fun W _ _ hR => (open_spec (a := none) (c := 0) hR (dg1 2) (twoP (dg1 2) 10) 0 Sl.nil (by decide) (by decide)).mono (fun e w' hh => ?_)) (fun p => ?_)
  · have h0 := open1 (k1 := dg1 1) (k2 := dg1 2) (nm := dg1 2) (x := ⟨twoP (dg1 1) 10, q.1, q.2, 0⟩) (e := 10) (s := 0) (by decide) (by decide) (Or.inl rfl) hne hne
    rw [h0] at hh
    obtain ⟨he, ⟨h1, _⟩ | ⟨_, hk, a', c', hH⟩⟩ := hh
    · exact absurd rfl h1
    · rw [aput1 hne] at hH
      exact ⟨(a', c'), he, trivial, hH, kp2a hk⟩
  repeat (first | refine dA rfl rfl rfl (by first|((first|apply qe_z2|apply qep|apply qmv|apply qas|apply qlc|apply qla|apply qfa|apply qic|apply qpk|apply qni|apply qln|apply qxt|apply qep)<;>(first|exact rfl|assumption|exact Ar.mk (by omega)|exact dct (by first|assumption|omega)|exact List.not_mem_nil|apply dc_length|apply hc_length|apply pc_length|apply prc_length|exact nm2 (by omega) (by omega)|exact nm1 (by omega)|exact dcu|fail))|fail) ?_ | refine Der.skip rfl rfl ?_)
  have hop : Hop (dg1 1) (dg1 2) (dg1 9) (⟨twoP (dg1 1) 10, q.1, q.2, 0⟩ : Sh) (⟨twoP (dg1 2) 10, p.1, p.2, 0⟩ : Sh) 10 0 20 4 := ⟨hne, ⟨_, rfl⟩, ⟨_, rfl⟩, Or.inl rfl, Or.inl rfl, by decide, by decide, by decide, by decide, by decide, by decide, by decide, by decide⟩
  refine Der.callGR (X := (Option Addr × Nat) × (Option Addr × Nat)) (vs := [.pointer (some ⟨bh, 0, none⟩), .int .i64 0, dv (dg1 1), dv (dg1 2), dv (dg1 9), .int .i64 4, .int .i64 20]) (fun _ => .int .i64 0) (fun _ _ => True) (fun u => HubR bh bs bp 5 [(dg1 1, ⟨fwdX ⟨twoP (dg1 1) 10, q.1, q.2, 0⟩ (dg1 9) 4 20, u.1.1, u.1.2, 0⟩), (dg1 2, ⟨fwdY 5 ⟨twoP (dg1 2) 10, p.1, p.2, 0⟩ (dg1 9) 4 20, u.2.1, u.2.2, 0⟩)] [(dg1 9, fwdR 5 (dg1 1) (dg1 2) (dg1 9) 4 20)]) rfl rfl rfl rfl (by repeat' (first | exact True.intro | exact rho_of rfl | refine And.intro ?_ ?_)) (fun _ _ _ _ _ => trivial) (fun _ => hubR_stab) (fun _ _ _ h => h) (fun W _ _ hR => (forward_spec hR 0 (dg1 1) (dg1 2) (dg1 9) 4 20 (by decide) (fun x hx => by simp at hx; rcases hx with rfl | rfl <;> exact ⟨(by decide : (0 : Int) ≤ 0), (by decide : (0 : Int) ≤ 1)⟩) (by decide)).mono (fun e w' hh => ?_)) (fun u => ?_)
  · rw [hop.fwd] at hh
    obtain ⟨he, ⟨h1, _⟩ | ⟨_, hk, x, y, a1, c1, a2, c2, hx, hy, hH⟩⟩ := hh
    · exact absurd rfl h1
    · rw [(alook2 hne).1] at hx
      rw [(alook2 hne).2] at hy
      cases hx
      cases hy
      rw [aput2 hne] at hH
      exact ⟨((a1, c1), (a2, c2)), he, trivial, hH, hk⟩
  repeat (first | refine dA rfl rfl rfl (by first|((first|apply qe_z2|apply qep|apply qmv|apply qas|apply qlc|apply qla|apply qfa|apply qic|apply qpk|apply qni|apply qln|apply qxt|apply qep)<;>(first|exact rfl|assumption|exact Ar.mk (by omega)|exact dct (by first|assumption|omega)|exact List.not_mem_nil|apply dc_length|apply hc_length|apply pc_length|apply prc_length|exact nm2 (by omega) (by omega)|exact nm1 (by omega)|exact dcu|fail))|fail) ?_ | refine Der.skip rfl rfl ?_)
  refine Der.fin (fun w8 hk8 _ hH8 => ?_)
  have q3 := q3.kp hk8 (nm2 (by omega) (by omega))
  have q4 := q4.kp hk8 (nm2 (by omega) (by omega))
  have q5 := q5.kp hk8 (nm2 (by omega) (by omega))
  have k8 : Kp [] w w8 := (hk1.trans k17).trans_new hk8 (new2 (by omega) (by omega))
  repeat (first|apply cA|apply cB|apply cD|apply cE|apply cF|apply cH|refine cY rfl rfl rfl rfl (by first|((first|apply qe_z2|apply qep|apply qmv|apply qas|apply qlc|apply qla|apply qfa|apply qic|apply qpk|apply qni|apply qln|apply qxt|apply qep)<;>(first|exact rfl|assumption|exact Ar.mk (by omega)|exact dct (by first|assumption|omega)|exact List.not_mem_nil|apply dc_length|apply hc_length|apply pc_length|apply prc_length|exact nm2 (by omega) (by omega)|exact nm1 (by omega)|exact dcu|fail))|fail) ?_)
  refine dD rfl (by exact rho_of rfl) rfl ?_
  repeat (first|apply cA|apply cB|apply cD|apply cE|apply cF|apply cH|refine cY rfl rfl rfl rfl (by first|((first|apply qe_z2|apply qep|apply qmv|apply qas|apply qlc|apply qla|apply qfa|apply qic|apply qpk|apply qni|apply qln|apply qxt|apply qep)<;>(first|exact rfl|assumption|exact Ar.mk (by omega)|exact dct (by first|assumption|omega)|exact List.not_mem_nil|apply dc_length|apply hc_length|apply pc_length|apply prc_length|exact nm2 (by omega) (by omega)|exact nm1 (by omega)|exact dcu|fail))|fail) ?_)
  refine SG.call rfl rfl rfl (vs := [.pointer (some ⟨bh, 0, none⟩)]) (by repeat' (first | exact True.intro | exact rho_of rfl | refine And.intro ?_ ?_)) ((pairs_spec hH8 (by simp)).mono (fun e w9 hh => ?_))
  obtain ⟨v, he, ho, hk9⟩ := hh
  refine ⟨v, he, ?_⟩
  have hpr : prsL [(dg1 9, fwdR 5 (dg1 1) (dg1 2) (dg1 9) 4 20)] = [fwdR 5 (dg1 1) (dg1 2) (dg1 9) 4 20] := by
    simp [prsL, srt, sortK, insK, alook]
  rw [hpr] at ho
  have ho : w9.ownsRow w8.heap.size 54 27 v 1 (flt prc [fwdR 5 (dg1 1) (dg1 2) (dg1 9) 4 20]) := ho
  obtain ⟨a6, c6, rfl, _, hS6⟩ := Sl.own prc_length ho rfl
  obtain ⟨ba, oa, rfl, hri⟩ := hS6.at (i := 0) (by decide)
  have hri : Row w9 ba (oa + 0 * 27) (prc (fwdR 5 (dg1 1) (dg1 2) (dg1 9) 4 20)) := hri
  obtain ⟨t1, t2⟩ := prc_rowsO hri
  have t1 : Row w9 ba (oa + 0 * 27 + 25) [.int .i64 20] := t1
  have t2 : Row w9 ba (oa + 0 * 27 + 26) [.int .i64 15] := t2
  have hH9 := HubAt.kp0 hH8 hk9
  have q3 := q3.kp0 hk9
  have q4 := q4.kp0 hk9
  have q5 := q5.kp0 hk9
  have s8 := hk8.size
  have s9 := hk9.size
  repeat (first | first|apply cA|apply cB|apply cD|apply cE|apply cF|apply cH|refine cY rfl rfl rfl rfl (by first|((first|apply qe_z2|apply qep|apply qmv|apply qas|apply qlc|apply qla|apply qfa|apply qic|apply qpk|apply qni|apply qln|apply qxt|apply qep)<;>(first|exact rfl|assumption|exact Ar.mk (by omega)|exact dct (by first|assumption|omega)|exact List.not_mem_nil|apply dc_length|apply hc_length|apply pc_length|apply prc_length|exact nm2 (by omega) (by omega)|exact nm1 (by omega)|exact dcu|fail))|fail) ?_ | refine cZ rfl rfl ?_)
  refine SG.call rfl rfl rfl (vs := [.pointer (some ⟨bh, 0, none⟩), .int .i64 15, dv (dg1 9), .int .i64 3]) (by repeat' (first | exact True.intro | exact rho_of rfl | refine And.intro ?_ ?_)) ((settle_spec hH9 15 (dg1 9) 3 ?_).mono (fun e w10 hh => ?_))
  · intro r hr
    simp [alook] at hr
    subst hr
    exact ⟨⟨_, (alook2 hne).1⟩, ⟨_, (alook2 hne).2⟩, hne⟩
  rw [hop.set (by decide) (by decide) (by decide) (by decide)] at hh
  obtain ⟨he, ⟨h1, _⟩ | ⟨_, hk10, r, x, y, a1, c1, a2, c2, hr, hx, hy, hH10⟩⟩ := hh
  · exact absurd rfl h1
  have hr : r = fwdR 5 (dg1 1) (dg1 2) (dg1 9) 4 20 := by simpa [alook] using hr.symm
  subst hr
  have hx : x = _ := (Option.some.inj ((alook2 hne).1.symm.trans hx)).symm
  have hy : y = _ := (Option.some.inj ((alook2 hne).2.symm.trans hy)).symm
  subst hx
  subst hy
  simp only [fwdR] at hH10
  rw [aput2' hne, filt1] at hH10
  refine ⟨_, he, ?_⟩
  have q3 := q3.kp hk10 (nm2 (by omega) (by omega))
  have q4 := q4.kp hk10 (nm2 (by omega) (by omega))
  have k10 : Kp [] w w10 := (k8.trans hk9).trans_new hk10 (new2 (by omega) (by omega))
  clear t1 t2 hri hS6 q5
  repeat (first | first|apply cA|apply cB|apply cD|apply cE|apply cF|apply cH|refine cY rfl rfl rfl rfl (by first|((first|apply qe_z2|apply qep|apply qmv|apply qas|apply qlc|apply qla|apply qfa|apply qic|apply qpk|apply qni|apply qln|apply qxt|apply qep)<;>(first|exact rfl|assumption|exact Ar.mk (by omega)|exact dct (by first|assumption|omega)|exact List.not_mem_nil|apply dc_length|apply hc_length|apply pc_length|apply prc_length|exact nm2 (by omega) (by omega)|exact nm1 (by omega)|exact dcu|fail))|fail) ?_ | refine cZ rfl rfl ?_)
  refine dD rfl (by exact rho_of rfl) rfl ?_
  repeat (first|apply cA|apply cB|apply cD|apply cE|apply cF|apply cH|refine cY rfl rfl rfl rfl (by first|((first|apply qe_z2|apply qep|apply qmv|apply qas|apply qlc|apply qla|apply qfa|apply qic|apply qpk|apply qni|apply qln|apply qxt|apply qep)<;>(first|exact rfl|assumption|exact Ar.mk (by omega)|exact dct (by first|assumption|omega)|exact List.not_mem_nil|apply dc_length|apply hc_length|apply pc_length|apply prc_length|exact nm2 (by omega) (by omega)|exact nm1 (by omega)|exact dcu|fail))|fail) ?_)
  have hx1 := hH10.at' _ List.mem_cons_self
  have hy1 := hH10.at' _ (List.mem_cons_of_mem _ List.mem_cons_self)
  refine SG.call rfl rfl rfl (vs := [.pointer (some ⟨bh, 0, none⟩), dv (dg1 1)]) (by repeat' (first | exact True.intro | exact rho_of rfl | refine And.intro ?_ ?_)) ((purse_some hH10 (dg1 1) (alook2 hne).1 hx1 (hH10.few _ List.mem_cons_self)).mono (fun e w11 hh => ?_))
  obtain ⟨v, he, ⟨s7, rfl, ho7⟩, hk11⟩ := hh
  refine ⟨_, he, ?_⟩
  obtain ⟨a7, c7, rfl, _, _⟩ := Sl.own hc_length ho7 rfl
  have q4 := q4.kp0 hk11
  repeat (first|apply cA|apply cB|apply cD|apply cE|apply cF|apply cH|refine cY rfl rfl rfl rfl (by first|((first|apply qe_z2|apply qep|apply qmv|apply qas|apply qlc|apply qla|apply qfa|apply qic|apply qpk|apply qni|apply qln|apply qxt|apply qep)<;>(first|exact rfl|assumption|exact Ar.mk (by omega)|exact dct (by first|assumption|omega)|exact List.not_mem_nil|apply dc_length|apply hc_length|apply pc_length|apply prc_length|exact nm2 (by omega) (by omega)|exact nm1 (by omega)|exact dcu|fail))|fail) ?_)
  refine SG.alloc rfl rfl rfl (fun b7 w12 hk12 hb7 hB7 => ?_)
  refine SG.setAll rfl rfl (by exact rho_of rfl) (by exact rho_of rfl) hB7 (pc_length _ _) rfl (pc_one _ _ _ _) (fun w13 hk13 hB7 => ?_)
  have hB7 := hB7
  have k13 : Kp [] w10 w13 := hk11.trans (hk12.trans_new hk13 (new1 (by omega)))
  have q7 := pc_have hB7
  have l7 := hB7.lt
  have hH13 := hH10.kp0 k13
  have q4 := (q4.kp0 hk12).kp hk13 (nm1 (by have := q4.lt; omega))
  repeat (first|apply cA|apply cB|apply cD|apply cE|apply cF|apply cH|refine cY rfl rfl rfl rfl (by first|((first|apply qe_z2|apply qep|apply qmv|apply qas|apply qlc|apply qla|apply qfa|apply qic|apply qpk|apply qni|apply qln|apply qxt|apply qep)<;>(first|exact rfl|assumption|exact Ar.mk (by omega)|exact dct (by first|assumption|omega)|exact List.not_mem_nil|apply dc_length|apply hc_length|apply pc_length|apply prc_length|exact nm2 (by omega) (by omega)|exact nm1 (by omega)|exact dcu|fail))|fail) ?_)
  refine SG.call rfl rfl rfl (vs := [.pointer (some ⟨bh, 0, none⟩), dv (dg1 2)]) (by repeat' (first | exact True.intro | exact rho_of rfl | refine And.intro ?_ ?_)) ((purse_some hH13 (dg1 2) (alook2 hne).2 (hy1.kp0 k13) (hH10.few _ (List.mem_cons_of_mem _ List.mem_cons_self))).mono (fun e w14 hh => ?_))
  obtain ⟨v, he, ⟨s9, rfl, ho9⟩, hk14⟩ := hh
  refine ⟨_, he, ?_⟩
  obtain ⟨a9, c9, rfl, _, _⟩ := Sl.own hc_length ho9 rfl
  have q7 := q7.kp0 hk14
  clear q4
  repeat (first|apply cA|apply cB|apply cD|apply cE|apply cF|apply cH|refine cY rfl rfl rfl rfl (by first|((first|apply qe_z2|apply qep|apply qmv|apply qas|apply qlc|apply qla|apply qfa|apply qic|apply qpk|apply qni|apply qln|apply qxt|apply qep)<;>(first|exact rfl|assumption|exact Ar.mk (by omega)|exact dct (by first|assumption|omega)|exact List.not_mem_nil|apply dc_length|apply hc_length|apply pc_length|apply prc_length|exact nm2 (by omega) (by omega)|exact nm1 (by omega)|exact dcu|fail))|fail) ?_)
  refine SG.alloc rfl rfl rfl (fun b9 w15 hk15 hb9 hB9 => ?_)
  refine SG.setAll rfl rfl (by exact rho_of rfl) (by exact rho_of rfl) hB9 (pc_length _ _) rfl (pc_one _ _ _ _) (fun w16 hk16 hB9 => ?_)
  have q9 := pc_have hB9
  have q7 := (q7.kp0 hk15).kp hk16 (nm1 (by have := q7.lt; omega))
  have k16 := (k10.trans k13).trans (hk14.trans (hk15.trans_new hk16 (new1 (by omega))))
  have q7 : Row w16 b7 9 (zc2 (13, 7)) := q7
  have q9 : Row w16 b9 9 (zc2 (7, 13)) := q9
  have f1 : Z2.Fit (13, 7) := ⟨⟨by decide, by decide⟩, ⟨by decide, by decide⟩⟩
  have f2 : Z2.Fit (7, 13) := ⟨⟨by decide, by decide⟩, ⟨by decide, by decide⟩⟩
  repeat (first | first|apply cA|apply cB|apply cD|apply cE|apply cF|apply cH|refine cY rfl rfl rfl rfl (by first|((first|apply qe_z2|apply qep|apply qmv|apply qas|apply qlc|apply qla|apply qfa|apply qic|apply qpk|apply qni|apply qln|apply qxt|apply qep)<;>(first|exact rfl|assumption|exact Ar.mk (by omega)|exact dct (by first|assumption|omega)|exact List.not_mem_nil|apply dc_length|apply hc_length|apply pc_length|apply prc_length|exact nm2 (by omega) (by omega)|exact nm1 (by omega)|exact dcu|fail))|fail) ?_ | refine cZ rfl rfl ?_)
  refine cY rfl rfl rfl rfl (vals_build rfl (bz2 13 7)) ?_
  repeat (first | first|apply cA|apply cB|apply cD|apply cE|apply cF|apply cH|refine cY rfl rfl rfl rfl (by first|((first|apply qe_z2|apply qep|apply qmv|apply qas|apply qlc|apply qla|apply qfa|apply qic|apply qpk|apply qni|apply qln|apply qxt|apply qep)<;>(first|exact rfl|assumption|exact Ar.mk (by omega)|exact dct (by first|assumption|omega)|exact List.not_mem_nil|apply dc_length|apply hc_length|apply pc_length|apply prc_length|exact nm2 (by omega) (by omega)|exact nm1 (by omega)|exact dcu|fail))|fail) ?_ | refine cZ rfl rfl ?_)
  refine cY rfl rfl rfl rfl (vals_build rfl (bz2 7 13)) ?_
  repeat (first | first|apply cA|apply cB|apply cD|apply cE|apply cF|apply cH|refine cY rfl rfl rfl rfl (by first|((first|apply qe_z2|apply qep|apply qmv|apply qas|apply qlc|apply qla|apply qfa|apply qic|apply qpk|apply qni|apply qln|apply qxt|apply qep)<;>(first|exact rfl|assumption|exact Ar.mk (by omega)|exact dct (by first|assumption|omega)|exact List.not_mem_nil|apply dc_length|apply hc_length|apply pc_length|apply prc_length|exact nm2 (by omega) (by omega)|exact nm1 (by omega)|exact dcu|fail))|fail) ?_ | refine cZ rfl rfl ?_)
  refine ret1 (Or.inl rfl) Try.results19 (by first | exact ResV.tmp rfl | exact ResV.agg rfl rfl (by assumption) (by first | exact dc_length _ | exact nc_length _ | exact rc_length _ _ _ | exact ec_length _ | exact dl_length _ _ _ _ | rfl) | exact ResV.cell rfl rfl (by assumption)) ?_
  exact ⟨rfl, k16⟩
end Go.Proofs.Ytajllbdeoopimaa
namespace Go.Proofs.Ytajllbdeoopimaa
set_option linter.unusedVariables false
instance : DecidableEq Pu := fun a b => decidable_of_iff (a.name = b.name ∧ a.num = b.num ∧ a.h0 = b.h0 ∧ a.h1 = b.h1 ∧ a.held = b.held) ⟨fun ⟨h1, h2, h3, h4, h5⟩ => by cases a; cases b; simp only at h1 h2 h3 h4 h5; rw [h1, h2, h3, h4, h5], fun h => by rw [h]; exact ⟨rfl, rfl, rfl, rfl, rfl⟩⟩
structure Pu.Fit (p : Pu) : Prop where
  a : fitZ p.h0
  b : fitZ p.h1
  h : ∀ x ∈ p.held, x.Fit
theorem zPu_fit : zPu.Fit := ⟨⟨by decide, by decide⟩, ⟨by decide, by decide⟩, fun x hx => by cases hx⟩
theorem bownP' (w : World) (a0 a1 a2 a3 a4 a5 a6 a7 : UInt8) (n x y : Int) : (Instr.build 34 #[(0, .agg #[bv a0, bv a1, bv a2, bv a3, bv a4, bv a5, bv a6, bv a7]), (1, .int .i64 n), (2, .agg #[.int .i64 x, .int .i64 y])]).run Try.prog w = .ok (.agg #[bv a0, bv a1, bv a2, bv a3, bv a4, bv a5, bv a6, bv a7, .int .i64 n, .int .i64 x, .int .i64 y, .slice none 0 0]) w := by kernel_rfl
theorem bownP (p : Pu) (w : World) : (Instr.build 34 #[(0, dv p.name), (1, .int .i64 p.num), (2, zv2 (p.h0, p.h1))]).run Try.prog w = .ok (pv p (.slice none 0 0)) w := by
  obtain ⟨⟨l, hl⟩, n, x, y, h⟩ := p
  match l, hl with
  | [a0, a1, a2, a3, a4, a5, a6, a7], _ => exact bownP' w a0 a1 a2 a3 a4 a5 a6 a7 n x y
theorem bownH' (w : World) (a0 a1 a2 a3 a4 a5 a6 a7 : UInt8) (x y z : Int) : (Instr.build 56 #[(0, .agg #[bv a0, bv a1, bv a2, bv a3, bv a4, bv a5, bv a6, bv a7]), (1, .int .i64 x), (2, .int .i64 y), (3, .int .i64 z)]).run Try.prog w = .ok (.agg #[bv a0, bv a1, bv a2, bv a3, bv a4, bv a5, bv a6, bv a7, .int .i64 x, .int .i64 y, .int .i64 z]) w := by kernel_rfl
theorem bownH (h : Hd) (w : World) : (Instr.build 56 #[(0, dv h.name), (1, .int .i64 h.amt), (2, .int .i64 h.side), (3, .int .i64 h.til)]).run Try.prog w = .ok (hv h) w := by
  obtain ⟨⟨l, hl⟩, x, y, z⟩ := h
  match l, hl with
  | [a0, a1, a2, a3, a4, a5, a6, a7], _ => exact bownH' w a0 a1 a2 a3 a4 a5 a6 a7 x y z
theorem bownS' (w : World) (a0 a1 a2 a3 a4 a5 a6 a7 : UInt8) (x y z : Int) : (Instr.buildSlice 32 1 #[(0, .agg #[bv a0, bv a1, bv a2, bv a3, bv a4, bv a5, bv a6, bv a7, .int .i64 x, .int .i64 y, .int .i64 z])]).run Try.prog w = .ok (.slice (some ⟨w.heap.size, 0, none⟩) 1 1) { w with heap := w.heap.push (.cells #[bv a0, bv a1, bv a2, bv a3, bv a4, bv a5, bv a6, bv a7, .int .i64 x, .int .i64 y, .int .i64 z] 56) } := by kernel_rfl
theorem bownS (h : Hd) (w : World) : (Instr.buildSlice 32 1 #[(0, hv h)]).run Try.prog w = .ok (.slice (some ⟨w.heap.size, 0, none⟩) 1 1) { w with heap := w.heap.push (.cells (hc h).toArray 56) } := by
  obtain ⟨⟨l, hl⟩, x, y, z⟩ := h
  match l, hl with
  | [a0, a1, a2, a3, a4, a5, a6, a7], _ => exact bownS' w a0 a1 a2 a3 a4 a5 a6 a7 x y z
section
attribute [local irreducible] CG NG SG Vals Der Row Blk MapIs IterAt DerX
set_option maxHeartbeats 16000000 in
theorem own_spec {w : World} {a : Option Addr} {c : Nat} (p : Pu) (hS : Sl hc 11 w a p.held) (hl : p.held.length ≤ 1000000000000) : Calls Try.prog 23 #[pv p (.slice a p.held.length c)] w (fun e w' => ∃ s, e = .returned (pv p s) ∧ w'.ownsRow w.heap.size 56 11 s p.held.length (flt hc p.held) ∧ Kp [] w w') := by
  refine enter1 Try.func23 rfl Try.ntmps23 rfl ?_
  repeat (first|apply cA|apply cB|apply cD|apply cE|apply cF|apply cG|apply cH|apply cJ|apply cM|apply cN|apply cU|refine cV rfl ?_|apply cX|refine cY rfl rfl rfl rfl (by first|((first|apply qe_z2|apply qn_z2|apply qn_hd|apply qn_rhd|apply qmv|apply qas|apply qlc|apply qla|apply qfa|apply qix|apply qpk|apply qls|apply qei|apply qni|apply qed|apply qnd|apply qad|apply qln)<;>(first|exact rfl|assumption|exact Ar.mk (by omega)|exact dct (by first|assumption|omega)|exact dcf (by first|assumption|omega)|exact List.not_mem_nil|apply dc_length|apply hc_length|apply pc_length|exact nm1 (by omega)|fail))|fail) ?_)
  refine SG.box rfl rfl rfl (by exact rho_of rfl) (fun b1 w1 hk1 hb1 hB1 => ?_)
  have hB1 : Blk w1 b1 (.cells (pc p (.slice a p.held.length c)).toArray 63) := hB1
  refine SG.alloc rfl rfl rfl (fun b2 w2 hk2 hb2 hB2 => ?_)
  have hB1 := hB1.kp0 hk2
  have k2 := hk1.trans hk2
  have s1 := hk1.size
  have s2 := hk2.size
  have l1 := hB1.lt
  have l2 := hB2.lt
  obtain ⟨q0, q1, -, -, r4, -⟩ := pc_rows hB1
  have q2 := pc_have hB1
  repeat (first|apply cA|apply cB|apply cD|apply cE|apply cF|apply cG|apply cH|apply cJ|apply cM|apply cN|apply cU|refine cV rfl ?_|apply cX|refine cY rfl rfl rfl rfl (by first|((first|apply qe_z2|apply qn_z2|apply qn_hd|apply qn_rhd|apply qmv|apply qas|apply qlc|apply qla|apply qfa|apply qix|apply qpk|apply qls|apply qei|apply qni|apply qed|apply qnd|apply qad|apply qln)<;>(first|exact rfl|assumption|exact Ar.mk (by omega)|exact dct (by first|assumption|omega)|exact dcf (by first|assumption|omega)|exact List.not_mem_nil|apply dc_length|apply hc_length|apply pc_length|exact nm1 (by omega)|fail))|fail) ?_)
  refine cY rfl rfl rfl rfl (vals_build rfl (bownP p)) ?_
  refine SG.alloc rfl rfl rfl (fun b3 w3 hk3 hb3 hB3 => ?_)
  refine SG.setAll (l := pc p (.slice none 0 0)) rfl rfl (by exact rho_of rfl) (by exact rho_of rfl) hB3 (pc_length _ _) rfl (pc_one _ _ _ _) (fun w4 hk4 hB3 => ?_)
  have hB3 : Blk w4 b3 (.cells (pc p (.slice none 0 0)).toArray 34) := hB3
  have k24 : Kp [] w2 w4 := hk3.trans_new hk4 (new1 (by omega))
  have k4 := k2.trans k24
  have l3 := hB3.lt
  have s4 := k24.size
  have hB2 := hB2.kp0 k24
  have r4 := r4.kp0 k24
  clear q0 q1 q2 hB1
  repeat (first|apply cA|apply cB|apply cD|apply cE|apply cF|apply cG|apply cH|apply cJ|apply cM|apply cN|apply cU|refine cV rfl ?_|apply cX|refine cY rfl rfl rfl rfl (by first|((first|apply qe_z2|apply qn_z2|apply qn_hd|apply qn_rhd|apply qmv|apply qas|apply qlc|apply qla|apply qfa|apply qix|apply qpk|apply qls|apply qei|apply qni|apply qed|apply qnd|apply qad|apply qln)<;>(first|exact rfl|assumption|exact Ar.mk (by omega)|exact dct (by first|assumption|omega)|exact dcf (by first|assumption|omega)|exact List.not_mem_nil|apply dc_length|apply hc_length|apply pc_length|exact nm1 (by omega)|fail))|fail) ?_)
  refine CG.loop (X := Value × Nat) (fun x => [(1, .pointer (some ⟨b1, 0, none⟩)), (2, .pointer (some ⟨b2, 0, none⟩)), (3, .pointer (some ⟨b3, 0, none⟩)), (4, .int .i64 (x.2 : Int))])
    (fun x w' => x.2 ≤ p.held.length ∧ Kp [b3] w4 w' ∧ Blk w' b3 (.cells (pc p x.1).toArray 34) ∧ w'.ownsRow w4.heap.size 56 11 x.1 (p.held.take x.2).length (flt hc (p.held.take x.2))) (fun x => p.held.length - x.2) (.slice none 0 0, 0) ⟨Nat.zero_le _, Kp.refl _ _, hB3, own_nil⟩ (by (repeat' (first | exact True.intro | exact rfl | refine And.intro ?_ ?_))) ?_
  clear hB3
  rintro ⟨v, i⟩ w5 ⟨hi, hk5, hB3, ho⟩
  simp only at hi hB3 ho
  refine CG.to [(1, .pointer (some ⟨b1, 0, none⟩)), (2, .pointer (some ⟨b2, 0, none⟩)), (3, .pointer (some ⟨b3, 0, none⟩)), (4, .int .i64 (i : Int))] (by (repeat' (first | exact True.intro | exact rfl | refine And.intro ?_ ?_))) ?_
  have r4 := r4.kp hk5 (nm1 (by omega))
  by_cases hlt : i < p.held.length
  · have g1 : (i : Int) < (p.held.length : Int) := by omega
    have hlen : (p.held.take i).length = i := by rw [List.length_take]; omega
    obtain ⟨ba, oa, rfl, hri⟩ := (hS.kp0 (k4.trans_new hk5 (new1 (by omega)))).at hlt
    repeat (first|apply cA|apply cB|apply cD|apply cE|apply cF|apply cG|apply cH|apply cJ|apply cM|apply cN|apply cU|refine cV rfl ?_|apply cX|refine cY rfl rfl rfl rfl (by first|((first|apply qe_z2|apply qn_z2|apply qn_hd|apply qn_rhd|apply qmv|apply qas|apply qlc|apply qla|apply qfa|apply qix|apply qpk|apply qls|apply qei|apply qni|apply qed|apply qnd|apply qad|apply qln)<;>(first|exact rfl|assumption|exact Ar.mk (by omega)|exact dct (by first|assumption|omega)|exact dcf (by first|assumption|omega)|exact List.not_mem_nil|apply dc_length|apply hc_length|apply pc_length|exact nm1 (by omega)|fail))|fail) ?_)
    refine dB rfl (by exact rho_of rfl) rfl ?_
    repeat (first|apply cA|apply cB|apply cD|apply cE|apply cF|apply cG|apply cH|apply cJ|apply cM|apply cN|apply cU|refine cV rfl ?_|apply cX|refine cY rfl rfl rfl rfl (by first|((first|apply qe_z2|apply qn_z2|apply qn_hd|apply qn_rhd|apply qmv|apply qas|apply qlc|apply qla|apply qfa|apply qix|apply qpk|apply qls|apply qei|apply qni|apply qed|apply qnd|apply qad|apply qln)<;>(first|exact rfl|assumption|exact Ar.mk (by omega)|exact dct (by first|assumption|omega)|exact dcf (by first|assumption|omega)|exact List.not_mem_nil|apply dc_length|apply hc_length|apply pc_length|exact nm1 (by omega)|fail))|fail) ?_)
    refine SG.alloc rfl rfl rfl (fun b5 w6 hk6 hb5 hB5 => ?_)
    refine SG.setAll (l := hc p.held[i]) rfl rfl (by exact rho_of rfl) (by exact rho_of rfl) hB5 (hc_length _) rfl (hc_one _) (fun w7 hk7 hB5 => ?_)
    have hB5 : Blk w7 b5 (.cells (hc p.held[i]).toArray 104) := hB5
    have k57 : Kp [] w5 w7 := hk6.trans_new hk7 (new1 (by omega))
    obtain ⟨p0, p1, p2, p3, -⟩ := hc_rows hB5
    have hB3' := hB3.kp0 k57
    have ho7 := own_kp0 ho k57
    obtain ⟨a7, c7, rfl, _, _⟩ := Sl.own hc_length ho7 rfl
    obtain ⟨-, -, -, -, r3, -⟩ := pc_rows hB3'
    clear hri
    repeat (first|apply cA|apply cB|apply cD|apply cE|apply cF|apply cG|apply cH|apply cJ|apply cM|apply cN|apply cU|refine cV rfl ?_|apply cX|refine cY rfl rfl rfl rfl (by first|((first|apply qe_z2|apply qn_z2|apply qn_hd|apply qn_rhd|apply qmv|apply qas|apply qlc|apply qla|apply qfa|apply qix|apply qpk|apply qls|apply qei|apply qni|apply qed|apply qnd|apply qad|apply qln)<;>(first|exact rfl|assumption|exact Ar.mk (by omega)|exact dct (by first|assumption|omega)|exact dcf (by first|assumption|omega)|exact List.not_mem_nil|apply dc_length|apply hc_length|apply pc_length|exact nm1 (by omega)|fail))|fail) ?_)
    refine cY rfl rfl rfl rfl (vals_build rfl (bownH p.held[i])) ?_
    refine SG.buildSlice rfl rfl rfl rfl (bownS p.held[i]) (fun b9 w8 hk8 hb9 hB9 => ?_)
    have ho8 := own_kp0 ho7 hk8
    have hB38 := hB3'.kp0 hk8
    have s58 := (k57.trans hk8).size
    have s45 := hk5.size
    refine SG.appO (enc := hc) (xs := p.held.take i) (ys := [p.held[i]]) (base := w4.heap.size) rfl rfl rfl (by exact rho_of rfl) (by exact rho_of rfl) rfl rfl rfl rfl hc_length hc_one ho8 (sl_one hc_length hB9) (by rw [hlen]; simp only [maxLen, List.length_cons, List.length_nil]; omega) (by rw [hlen]; show (i + 1) * 32 ≤ _; omega) (by omega) (fun v8 w9 hk9 ho9 _ => ?_)
    have e : p.held.take i ++ [p.held[i]] = p.held.take (i + 1) := (List.take_succ_eq_append_getElem hlt).symm
    rw [e] at ho9
    have hB39 := hB38.kp hk9 (fun hm => own_neb ho8 (by decide) hB38 b3 (ownB_mem hm) (by simp))
    obtain ⟨a9, c9, rfl, _, _⟩ := Sl.own hc_length ho9 rfl
    have k59 : Kp [] w4 w4 := Kp.refl _ _
    clear r3 p0 p1 p2 p3
    repeat (first|apply cA|apply cB|apply cD|apply cE|apply cF|apply cG|apply cH|apply cJ|apply cM|apply cN|apply cU|refine cV rfl ?_|apply cX|refine cY rfl rfl rfl rfl (by first|((first|apply qe_z2|apply qn_z2|apply qn_hd|apply qn_rhd|apply qmv|apply qas|apply qlc|apply qla|apply qfa|apply qix|apply qpk|apply qls|apply qei|apply qni|apply qed|apply qnd|apply qad|apply qln)<;>(first|exact rfl|assumption|exact Ar.mk (by omega)|exact dct (by first|assumption|omega)|exact dcf (by first|assumption|omega)|exact List.not_mem_nil|apply dc_length|apply hc_length|apply pc_length|exact nm1 (by omega)|fail))|fail) ?_)
    refine SG.store rfl rfl (by exact rho_of rfl) (by exact rho_of rfl) hB39 rfl (by show 0 + 11 + 1 ≤ _; simp [pc_length]) rfl (fun w10 hk10 hB310 => ?_)
    have hB310 : Blk w10 b3 (.cells (spl (pc p (.slice a7 (p.held.take i).length c7)) 11 [.slice a9 (p.held.take (i + 1)).length c9]).toArray 34) := hB310
    rw [pc_held] at hB310
    have ho10 := own_kp ho9 hk10 (own_neb ho9 (by decide) hB39)
    repeat (first|apply cA|apply cB|apply cD|apply cE|apply cF|apply cG|apply cH|apply cJ|apply cM|apply cN|apply cU|refine cV rfl ?_|apply cX|refine cY rfl rfl rfl rfl (by first|((first|apply qe_z2|apply qn_z2|apply qn_hd|apply qn_rhd|apply qmv|apply qas|apply qlc|apply qla|apply qfa|apply qix|apply qpk|apply qls|apply qei|apply qni|apply qed|apply qnd|apply qad|apply qln)<;>(first|exact rfl|assumption|exact Ar.mk (by omega)|exact dct (by first|assumption|omega)|exact dcf (by first|assumption|omega)|exact List.not_mem_nil|apply dc_length|apply hc_length|apply pc_length|exact nm1 (by omega)|fail))|fail) ?_)
    refine NG.round (.slice a9 (p.held.take (i + 1)).length c9, i + 1) (by (repeat' (first | exact True.intro | exact rfl | refine And.intro ?_ ?_))) ⟨by simp only; omega, ((hk5.trans (k57.trans hk8).any).trans_new hk9 (own_new ho8 (Nat.le_refl _))).trans hk10, by simp only; exact hB310, by simp only; exact ho10⟩ (by simp only; omega)
  · have g1 : ¬ (i : Int) < (p.held.length : Int) := by omega
    rw [List.take_of_length_le (by omega)] at ho
    obtain ⟨a5, c5, rfl, _, _⟩ := Sl.own hc_length ho rfl
    obtain ⟨-, -, -, -, -, r5⟩ := pc_rows hB3
    have hB2 := hB2.kp hk5 (nm1 (by omega))
    repeat (first|apply cA|apply cB|apply cD|apply cE|apply cF|apply cG|apply cH|apply cJ|apply cM|apply cN|apply cU|refine cV rfl ?_|apply cX|refine cY rfl rfl rfl rfl (by first|((first|apply qe_z2|apply qn_z2|apply qn_hd|apply qn_rhd|apply qmv|apply qas|apply qlc|apply qla|apply qfa|apply qix|apply qpk|apply qls|apply qei|apply qni|apply qed|apply qnd|apply qad|apply qln)<;>(first|exact rfl|assumption|exact Ar.mk (by omega)|exact dct (by first|assumption|omega)|exact dcf (by first|assumption|omega)|exact List.not_mem_nil|apply dc_length|apply hc_length|apply pc_length|exact nm1 (by omega)|fail))|fail) ?_)
    refine dD rfl (by exact rho_of rfl) rfl ?_
    repeat (first|apply cA|apply cB|apply cD|apply cE|apply cF|apply cG|apply cH|apply cJ|apply cM|apply cN|apply cU|refine cV rfl ?_|apply cX|refine cY rfl rfl rfl rfl (by first|((first|apply qe_z2|apply qn_z2|apply qn_hd|apply qn_rhd|apply qmv|apply qas|apply qlc|apply qla|apply qfa|apply qix|apply qpk|apply qls|apply qei|apply qni|apply qed|apply qnd|apply qad|apply qln)<;>(first|exact rfl|assumption|exact Ar.mk (by omega)|exact dct (by first|assumption|omega)|exact dcf (by first|assumption|omega)|exact List.not_mem_nil|apply dc_length|apply hc_length|apply pc_length|exact nm1 (by omega)|fail))|fail) ?_)
    refine SG.setAll (l := pc p (.slice a5 p.held.length c5)) rfl rfl (by exact rho_of rfl) (by exact rho_of rfl) hB2 (pc_length _ _) rfl (pc_one _ _ _ _) (fun w6 hk6 hB6 => ?_)
    have hr : Row w6 b2 0 (pc p (.slice a5 p.held.length c5)) := Row.all hB6 rfl
    have ho6 := own_kp ho hk6 (own_neb ho (by decide) hB2)
    repeat (first|apply cA|apply cB|apply cD|apply cE|apply cF|apply cG|apply cH|apply cJ|apply cM|apply cN|apply cU|refine cV rfl ?_|apply cX|refine cY rfl rfl rfl rfl (by first|((first|apply qe_z2|apply qn_z2|apply qn_hd|apply qn_rhd|apply qmv|apply qas|apply qlc|apply qla|apply qfa|apply qix|apply qpk|apply qls|apply qei|apply qni|apply qed|apply qnd|apply qad|apply qln)<;>(first|exact rfl|assumption|exact Ar.mk (by omega)|exact dct (by first|assumption|omega)|exact dcf (by first|assumption|omega)|exact List.not_mem_nil|apply dc_length|apply hc_length|apply pc_length|exact nm1 (by omega)|fail))|fail) ?_)
    refine ret1 (Or.inl rfl) Try.results23 (ResV.agg rfl rfl hr (pc_length _ _)) ?_
    exact ⟨_, rfl, own_mono ho6 (by omega), (k4.trans_new hk5 (new1 (by omega))).trans_new hk6 (new1 (by omega))⟩
end
theorem bbckP' (w : World) (a0 a1 a2 a3 a4 a5 a6 a7 : UInt8) (n x y : Int) : (Instr.build 63 #[(0, .agg #[bv a0, bv a1, bv a2, bv a3, bv a4, bv a5, bv a6, bv a7]), (1, .int .i64 n), (2, .agg #[.int .i64 x, .int .i64 y])]).run Try.prog w = .ok (.agg #[bv a0, bv a1, bv a2, bv a3, bv a4, bv a5, bv a6, bv a7, .int .i64 n, .int .i64 x, .int .i64 y, .slice none 0 0]) w := by kernel_rfl
theorem bbckP (p : Pu) (w : World) : (Instr.build 63 #[(0, dv p.name), (1, .int .i64 p.num), (2, zv2 (p.h0, p.h1))]).run Try.prog w = .ok (pv p (.slice none 0 0)) w := by
  obtain ⟨⟨l, hl⟩, n, x, y, h⟩ := p
  match l, hl with
  | [a0, a1, a2, a3, a4, a5, a6, a7], _ => exact bbckP' w a0 a1 a2 a3 a4 a5 a6 a7 n x y
theorem bbckH' (w : World) (a0 a1 a2 a3 a4 a5 a6 a7 : UInt8) (x y z : Int) : (Instr.build 104 #[(0, .agg #[bv a0, bv a1, bv a2, bv a3, bv a4, bv a5, bv a6, bv a7]), (1, .int .i64 x), (2, .int .i64 y), (3, .int .i64 z)]).run Try.prog w = .ok (.agg #[bv a0, bv a1, bv a2, bv a3, bv a4, bv a5, bv a6, bv a7, .int .i64 x, .int .i64 y, .int .i64 z]) w := by kernel_rfl
theorem bbckH (h : Hd) (w : World) : (Instr.build 104 #[(0, dv h.name), (1, .int .i64 h.amt), (2, .int .i64 h.side), (3, .int .i64 h.til)]).run Try.prog w = .ok (hv h) w := by
  obtain ⟨⟨l, hl⟩, x, y, z⟩ := h
  match l, hl with
  | [a0, a1, a2, a3, a4, a5, a6, a7], _ => exact bbckH' w a0 a1 a2 a3 a4 a5 a6 a7 x y z
theorem bbckS' (w : World) (a0 a1 a2 a3 a4 a5 a6 a7 : UInt8) (x y z : Int) : (Instr.buildSlice 61 1 #[(0, .agg #[bv a0, bv a1, bv a2, bv a3, bv a4, bv a5, bv a6, bv a7, .int .i64 x, .int .i64 y, .int .i64 z])]).run Try.prog w = .ok (.slice (some ⟨w.heap.size, 0, none⟩) 1 1) { w with heap := w.heap.push (.cells #[bv a0, bv a1, bv a2, bv a3, bv a4, bv a5, bv a6, bv a7, .int .i64 x, .int .i64 y, .int .i64 z] 104) } := by kernel_rfl
theorem bbckS (h : Hd) (w : World) : (Instr.buildSlice 61 1 #[(0, hv h)]).run Try.prog w = .ok (.slice (some ⟨w.heap.size, 0, none⟩) 1 1) { w with heap := w.heap.push (.cells (hc h).toArray 104) } := by
  obtain ⟨⟨l, hl⟩, x, y, z⟩ := h
  match l, hl with
  | [a0, a1, a2, a3, a4, a5, a6, a7], _ => exact bbckS' w a0 a1 a2 a3 a4 a5 a6 a7 x y z
section
attribute [local irreducible] CG NG SG Vals Der Row Blk MapIs IterAt DerX
set_option maxHeartbeats 16000000 in
theorem bck_spec {w : World} {a : Option Addr} {c : Nat} (p : Pu) (hS : Sl hc 11 w a p.held) (hl : p.held.length ≤ 1000000000000) : Calls Try.prog 33 #[pv p (.slice a p.held.length c)] w (fun e w' => ∃ s, e = .returned (pv p s) ∧ w'.ownsRow w.heap.size 104 11 s p.held.length (flt hc p.held) ∧ Kp [] w w') := by
  refine enter1 Try.func33 rfl Try.ntmps33 rfl ?_
  repeat (first|apply cA|apply cB|apply cD|apply cE|apply cF|apply cG|apply cH|apply cJ|apply cM|apply cN|apply cU|refine cV rfl ?_|apply cX|refine cY rfl rfl rfl rfl (by first|((first|apply qe_z2|apply qn_z2|apply qn_hd|apply qn_rhd|apply qmv|apply qas|apply qlc|apply qla|apply qfa|apply qix|apply qpk|apply qls|apply qei|apply qni|apply qed|apply qnd|apply qad|apply qln)<;>(first|exact rfl|assumption|exact Ar.mk (by omega)|exact dct (by first|assumption|omega)|exact dcf (by first|assumption|omega)|exact List.not_mem_nil|apply dc_length|apply hc_length|apply pc_length|exact nm1 (by omega)|fail))|fail) ?_)
  refine SG.box rfl rfl rfl (by exact rho_of rfl) (fun b1 w1 hk1 hb1 hB1 => ?_)
  have hB1 : Blk w1 b1 (.cells (pc p (.slice a p.held.length c)).toArray 34) := hB1
  refine SG.alloc rfl rfl rfl (fun b2 w2 hk2 hb2 hB2 => ?_)
  have hB1 := hB1.kp0 hk2
  have k2 := hk1.trans hk2
  have s1 := hk1.size
  have s2 := hk2.size
  have l1 := hB1.lt
  have l2 := hB2.lt
  obtain ⟨q0, q1, -, -, r4, -⟩ := pc_rows hB1
  have q2 := pc_have hB1
  repeat (first|apply cA|apply cB|apply cD|apply cE|apply cF|apply cG|apply cH|apply cJ|apply cM|apply cN|apply cU|refine cV rfl ?_|apply cX|refine cY rfl rfl rfl rfl (by first|((first|apply qe_z2|apply qn_z2|apply qn_hd|apply qn_rhd|apply qmv|apply qas|apply qlc|apply qla|apply qfa|apply qix|apply qpk|apply qls|apply qei|apply qni|apply qed|apply qnd|apply qad|apply qln)<;>(first|exact rfl|assumption|exact Ar.mk (by omega)|exact dct (by first|assumption|omega)|exact dcf (by first|assumption|omega)|exact List.not_mem_nil|apply dc_length|apply hc_length|apply pc_length|exact nm1 (by omega)|fail))|fail) ?_)
  refine cY rfl rfl rfl rfl (vals_build rfl (bbckP p)) ?_
  refine SG.alloc rfl rfl rfl (fun b3 w3 hk3 hb3 hB3 => ?_)
  refine SG.setAll (l := pc p (.slice none 0 0)) rfl rfl (by exact rho_of rfl) (by exact rho_of rfl) hB3 (pc_length _ _) rfl (pc_one _ _ _ _) (fun w4 hk4 hB3 => ?_)
  have hB3 : Blk w4 b3 (.cells (pc p (.slice none 0 0)).toArray 63) := hB3
  have k24 : Kp [] w2 w4 := hk3.trans_new hk4 (new1 (by omega))
  have k4 := k2.trans k24
  have l3 := hB3.lt
  have s4 := k24.size
  have hB2 := hB2.kp0 k24
  have r4 := r4.kp0 k24
  clear q0 q1 q2 hB1
  repeat (first|apply cA|apply cB|apply cD|apply cE|apply cF|apply cG|apply cH|apply cJ|apply cM|apply cN|apply cU|refine cV rfl ?_|apply cX|refine cY rfl rfl rfl rfl (by first|((first|apply qe_z2|apply qn_z2|apply qn_hd|apply qn_rhd|apply qmv|apply qas|apply qlc|apply qla|apply qfa|apply qix|apply qpk|apply qls|apply qei|apply qni|apply qed|apply qnd|apply qad|apply qln)<;>(first|exact rfl|assumption|exact Ar.mk (by omega)|exact dct (by first|assumption|omega)|exact dcf (by first|assumption|omega)|exact List.not_mem_nil|apply dc_length|apply hc_length|apply pc_length|exact nm1 (by omega)|fail))|fail) ?_)
  refine CG.loop (X := Value × Nat) (fun x => [(1, .pointer (some ⟨b1, 0, none⟩)), (2, .pointer (some ⟨b2, 0, none⟩)), (3, .pointer (some ⟨b3, 0, none⟩)), (4, .int .i64 (x.2 : Int))])
    (fun x w' => x.2 ≤ p.held.length ∧ Kp [b3] w4 w' ∧ Blk w' b3 (.cells (pc p x.1).toArray 63) ∧ w'.ownsRow w4.heap.size 104 11 x.1 (p.held.take x.2).length (flt hc (p.held.take x.2))) (fun x => p.held.length - x.2) (.slice none 0 0, 0) ⟨Nat.zero_le _, Kp.refl _ _, hB3, own_nil⟩ (by (repeat' (first | exact True.intro | exact rfl | refine And.intro ?_ ?_))) ?_
  clear hB3
  rintro ⟨v, i⟩ w5 ⟨hi, hk5, hB3, ho⟩
  simp only at hi hB3 ho
  refine CG.to [(1, .pointer (some ⟨b1, 0, none⟩)), (2, .pointer (some ⟨b2, 0, none⟩)), (3, .pointer (some ⟨b3, 0, none⟩)), (4, .int .i64 (i : Int))] (by (repeat' (first | exact True.intro | exact rfl | refine And.intro ?_ ?_))) ?_
  have r4 := r4.kp hk5 (nm1 (by omega))
  by_cases hlt : i < p.held.length
  · have g1 : (i : Int) < (p.held.length : Int) := by omega
    have hlen : (p.held.take i).length = i := by rw [List.length_take]; omega
    obtain ⟨ba, oa, rfl, hri⟩ := (hS.kp0 (k4.trans_new hk5 (new1 (by omega)))).at hlt
    repeat (first|apply cA|apply cB|apply cD|apply cE|apply cF|apply cG|apply cH|apply cJ|apply cM|apply cN|apply cU|refine cV rfl ?_|apply cX|refine cY rfl rfl rfl rfl (by first|((first|apply qe_z2|apply qn_z2|apply qn_hd|apply qn_rhd|apply qmv|apply qas|apply qlc|apply qla|apply qfa|apply qix|apply qpk|apply qls|apply qei|apply qni|apply qed|apply qnd|apply qad|apply qln)<;>(first|exact rfl|assumption|exact Ar.mk (by omega)|exact dct (by first|assumption|omega)|exact dcf (by first|assumption|omega)|exact List.not_mem_nil|apply dc_length|apply hc_length|apply pc_length|exact nm1 (by omega)|fail))|fail) ?_)
    refine dB rfl (by exact rho_of rfl) rfl ?_
    repeat (first|apply cA|apply cB|apply cD|apply cE|apply cF|apply cG|apply cH|apply cJ|apply cM|apply cN|apply cU|refine cV rfl ?_|apply cX|refine cY rfl rfl rfl rfl (by first|((first|apply qe_z2|apply qn_z2|apply qn_hd|apply qn_rhd|apply qmv|apply qas|apply qlc|apply qla|apply qfa|apply qix|apply qpk|apply qls|apply qei|apply qni|apply qed|apply qnd|apply qad|apply qln)<;>(first|exact rfl|assumption|exact Ar.mk (by omega)|exact dct (by first|assumption|omega)|exact dcf (by first|assumption|omega)|exact List.not_mem_nil|apply dc_length|apply hc_length|apply pc_length|exact nm1 (by omega)|fail))|fail) ?_)
    refine SG.alloc rfl rfl rfl (fun b5 w6 hk6 hb5 hB5 => ?_)
    refine SG.setAll (l := hc p.held[i]) rfl rfl (by exact rho_of rfl) (by exact rho_of rfl) hB5 (hc_length _) rfl (hc_one _) (fun w7 hk7 hB5 => ?_)
    have hB5 : Blk w7 b5 (.cells (hc p.held[i]).toArray 56) := hB5
    have k57 : Kp [] w5 w7 := hk6.trans_new hk7 (new1 (by omega))
    obtain ⟨p0, p1, p2, p3, -⟩ := hc_rows hB5
    have hB3' := hB3.kp0 k57
    have ho7 := own_kp0 ho k57
    obtain ⟨a7, c7, rfl, _, _⟩ := Sl.own hc_length ho7 rfl
    obtain ⟨-, -, -, -, r3, -⟩ := pc_rows hB3'
    clear hri
    repeat (first|apply cA|apply cB|apply cD|apply cE|apply cF|apply cG|apply cH|apply cJ|apply cM|apply cN|apply cU|refine cV rfl ?_|apply cX|refine cY rfl rfl rfl rfl (by first|((first|apply qe_z2|apply qn_z2|apply qn_hd|apply qn_rhd|apply qmv|apply qas|apply qlc|apply qla|apply qfa|apply qix|apply qpk|apply qls|apply qei|apply qni|apply qed|apply qnd|apply qad|apply qln)<;>(first|exact rfl|assumption|exact Ar.mk (by omega)|exact dct (by first|assumption|omega)|exact dcf (by first|assumption|omega)|exact List.not_mem_nil|apply dc_length|apply hc_length|apply pc_length|exact nm1 (by omega)|fail))|fail) ?_)
    refine cY rfl rfl rfl rfl (vals_build rfl (bbckH p.held[i])) ?_
    refine SG.buildSlice rfl rfl rfl rfl (bbckS p.held[i]) (fun b9 w8 hk8 hb9 hB9 => ?_)
    have ho8 := own_kp0 ho7 hk8
    have hB38 := hB3'.kp0 hk8
    have s58 := (k57.trans hk8).size
    have s45 := hk5.size
    refine SG.appO (enc := hc) (xs := p.held.take i) (ys := [p.held[i]]) (base := w4.heap.size) rfl rfl rfl (by exact rho_of rfl) (by exact rho_of rfl) rfl rfl rfl rfl hc_length hc_one ho8 (sl_one hc_length hB9) (by rw [hlen]; simp only [maxLen, List.length_cons, List.length_nil]; omega) (by rw [hlen]; show (i + 1) * 32 ≤ _; omega) (by omega) (fun v8 w9 hk9 ho9 _ => ?_)
    have e : p.held.take i ++ [p.held[i]] = p.held.take (i + 1) := (List.take_succ_eq_append_getElem hlt).symm
    rw [e] at ho9
    have hB39 := hB38.kp hk9 (fun hm => own_neb ho8 (by decide) hB38 b3 (ownB_mem hm) (by simp))
    obtain ⟨a9, c9, rfl, _, _⟩ := Sl.own hc_length ho9 rfl
    have k59 : Kp [] w4 w4 := Kp.refl _ _
    clear r3 p0 p1 p2 p3
    repeat (first|apply cA|apply cB|apply cD|apply cE|apply cF|apply cG|apply cH|apply cJ|apply cM|apply cN|apply cU|refine cV rfl ?_|apply cX|refine cY rfl rfl rfl rfl (by first|((first|apply qe_z2|apply qn_z2|apply qn_hd|apply qn_rhd|apply qmv|apply qas|apply qlc|apply qla|apply qfa|apply qix|apply qpk|apply qls|apply qei|apply qni|apply qed|apply qnd|apply qad|apply qln)<;>(first|exact rfl|assumption|exact Ar.mk (by omega)|exact dct (by first|assumption|omega)|exact dcf (by first|assumption|omega)|exact List.not_mem_nil|apply dc_length|apply hc_length|apply pc_length|exact nm1 (by omega)|fail))|fail) ?_)
    refine SG.store rfl rfl (by exact rho_of rfl) (by exact rho_of rfl) hB39 rfl (by show 0 + 11 + 1 ≤ _; simp [pc_length]) rfl (fun w10 hk10 hB310 => ?_)
    have hB310 : Blk w10 b3 (.cells (spl (pc p (.slice a7 (p.held.take i).length c7)) 11 [.slice a9 (p.held.take (i + 1)).length c9]).toArray 63) := hB310
    rw [pc_held] at hB310
    have ho10 := own_kp ho9 hk10 (own_neb ho9 (by decide) hB39)
    repeat (first|apply cA|apply cB|apply cD|apply cE|apply cF|apply cG|apply cH|apply cJ|apply cM|apply cN|apply cU|refine cV rfl ?_|apply cX|refine cY rfl rfl rfl rfl (by first|((first|apply qe_z2|apply qn_z2|apply qn_hd|apply qn_rhd|apply qmv|apply qas|apply qlc|apply qla|apply qfa|apply qix|apply qpk|apply qls|apply qei|apply qni|apply qed|apply qnd|apply qad|apply qln)<;>(first|exact rfl|assumption|exact Ar.mk (by omega)|exact dct (by first|assumption|omega)|exact dcf (by first|assumption|omega)|exact List.not_mem_nil|apply dc_length|apply hc_length|apply pc_length|exact nm1 (by omega)|fail))|fail) ?_)
    refine NG.round (.slice a9 (p.held.take (i + 1)).length c9, i + 1) (by (repeat' (first | exact True.intro | exact rfl | refine And.intro ?_ ?_))) ⟨by simp only; omega, ((hk5.trans (k57.trans hk8).any).trans_new hk9 (own_new ho8 (Nat.le_refl _))).trans hk10, by simp only; exact hB310, by simp only; exact ho10⟩ (by simp only; omega)
  · have g1 : ¬ (i : Int) < (p.held.length : Int) := by omega
    rw [List.take_of_length_le (by omega)] at ho
    obtain ⟨a5, c5, rfl, _, _⟩ := Sl.own hc_length ho rfl
    obtain ⟨-, -, -, -, -, r5⟩ := pc_rows hB3
    have hB2 := hB2.kp hk5 (nm1 (by omega))
    repeat (first|apply cA|apply cB|apply cD|apply cE|apply cF|apply cG|apply cH|apply cJ|apply cM|apply cN|apply cU|refine cV rfl ?_|apply cX|refine cY rfl rfl rfl rfl (by first|((first|apply qe_z2|apply qn_z2|apply qn_hd|apply qn_rhd|apply qmv|apply qas|apply qlc|apply qla|apply qfa|apply qix|apply qpk|apply qls|apply qei|apply qni|apply qed|apply qnd|apply qad|apply qln)<;>(first|exact rfl|assumption|exact Ar.mk (by omega)|exact dct (by first|assumption|omega)|exact dcf (by first|assumption|omega)|exact List.not_mem_nil|apply dc_length|apply hc_length|apply pc_length|exact nm1 (by omega)|fail))|fail) ?_)
    refine dD rfl (by exact rho_of rfl) rfl ?_
    repeat (first|apply cA|apply cB|apply cD|apply cE|apply cF|apply cG|apply cH|apply cJ|apply cM|apply cN|apply cU|refine cV rfl ?_|apply cX|refine cY rfl rfl rfl rfl (by first|((first|apply qe_z2|apply qn_z2|apply qn_hd|apply qn_rhd|apply qmv|apply qas|apply qlc|apply qla|apply qfa|apply qix|apply qpk|apply qls|apply qei|apply qni|apply qed|apply qnd|apply qad|apply qln)<;>(first|exact rfl|assumption|exact Ar.mk (by omega)|exact dct (by first|assumption|omega)|exact dcf (by first|assumption|omega)|exact List.not_mem_nil|apply dc_length|apply hc_length|apply pc_length|exact nm1 (by omega)|fail))|fail) ?_)
    refine SG.setAll (l := pc p (.slice a5 p.held.length c5)) rfl rfl (by exact rho_of rfl) (by exact rho_of rfl) hB2 (pc_length _ _) rfl (pc_one _ _ _ _) (fun w6 hk6 hB6 => ?_)
    have hr : Row w6 b2 0 (pc p (.slice a5 p.held.length c5)) := Row.all hB6 rfl
    have ho6 := own_kp ho hk6 (own_neb ho (by decide) hB2)
    repeat (first|apply cA|apply cB|apply cD|apply cE|apply cF|apply cG|apply cH|apply cJ|apply cM|apply cN|apply cU|refine cV rfl ?_|apply cX|refine cY rfl rfl rfl rfl (by first|((first|apply qe_z2|apply qn_z2|apply qn_hd|apply qn_rhd|apply qmv|apply qas|apply qlc|apply qla|apply qfa|apply qix|apply qpk|apply qls|apply qei|apply qni|apply qed|apply qnd|apply qad|apply qln)<;>(first|exact rfl|assumption|exact Ar.mk (by omega)|exact dct (by first|assumption|omega)|exact dcf (by first|assumption|omega)|exact List.not_mem_nil|apply dc_length|apply hc_length|apply pc_length|exact nm1 (by omega)|fail))|fail) ?_)
    refine ret1 (Or.inl rfl) Try.results33 (ResV.agg rfl rfl hr (pc_length _ _)) ?_
    exact ⟨_, rfl, own_mono ho6 (by omega), (k4.trans_new hk5 (new1 (by omega))).trans_new hk6 (new1 (by omega))⟩
end
attribute [local irreducible] CG NG SG Vals Der Row Blk MapIs IterAt DerX
theorem eq_upto {α : Type} {l m : List α} {i : Nat} (h : ∀ j (hj : j < i) (h1 : j < l.length) (h2 : j < m.length), l[j] = m[j]) (hl : l.length ≤ i) (hlm : l.length = m.length) : l = m :=
  List.ext_getElem hlm (fun j h1 h2 => h j (by omega) h1 h2)
set_option maxHeartbeats 16000000 in
theorem rsame_spec {w : World} {a b : Option Addr} {c d : Nat} (p q : Pu) (hp : p.Fit) (hq : q.Fit) (hS : Sl hc 11 w a p.held) (hT : Sl hc 11 w b q.held) (hl : p.held.length ≤ 1000000000) :
    Ret Try.prog 32 #[pv p (.slice a p.held.length c), pv q (.slice b q.held.length d)] w (.bool (decide (p = q))) := by
  refine enter2 Try.func32 rfl Try.ntmps32 rfl ?_
  have fp : Z2.Fit (p.h0, p.h1) := ⟨hp.a, hp.b⟩
  have fq : Z2.Fit (q.h0, q.h1) := ⟨hq.a, hq.b⟩
  repeat (first|apply cA|apply cB|apply cD|apply cE|apply cF|apply cG|apply cH|apply cJ|apply cM|apply cN|apply cU|refine cV rfl ?_|apply cX|refine cY rfl rfl rfl rfl (by first|((first|apply qe_z2|apply qn_z2|apply qn_hd|apply qn_rhd|apply qmv|apply qas|apply qlc|apply qla|apply qfa|apply qix|apply qpk|apply qls|apply qei|apply qni|apply qed|apply qnd|apply qad|apply qln)<;>(first|exact rfl|assumption|exact Ar.mk (by omega)|exact dct (by first|assumption|omega)|exact dcf (by first|assumption|omega)|exact List.not_mem_nil|apply dc_length|apply hc_length|apply pc_length|exact nm1 (by omega)|fail))|fail) ?_)
  refine SG.box rfl rfl rfl (by exact rho_of rfl) (fun b1 w1 hk1 hb1 hB1 => ?_)
  refine SG.box rfl rfl rfl (by exact rho_of rfl) (fun b2 w2 hk2 hb2 hB2 => ?_)
  have hB1 : Blk w2 b1 (.cells (pc p (.slice a p.held.length c)).toArray 63) := hB1.kp0 hk2
  have hB2 : Blk w2 b2 (.cells (pc q (.slice b q.held.length d)).toArray 63) := hB2
  have k2 := hk1.trans hk2
  obtain ⟨q0, q1, -, -, r4, -⟩ := pc_rows hB1
  have q2 := pc_have hB1
  obtain ⟨p0, p1, -, -, t4, -⟩ := pc_rows hB2
  have p2 := pc_have hB2
  have no : ∀ {w' : World}, Kp [] w2 w' → p ≠ q → Ending.returned (.bool false) = .returned (.bool (decide (p = q))) ∧ Kp [] w w' := fun hk hn => ⟨by rw [decide_eq_false hn], k2.trans hk⟩
  by_cases e1 : p.name = q.name
  rotate_left
  · repeat (first | first|apply cA|apply cB|apply cD|apply cE|apply cF|apply cG|apply cH|apply cJ|apply cM|apply cN|apply cU|refine cV rfl ?_|apply cX|refine cY rfl rfl rfl rfl (by first|((first|apply qe_z2|apply qn_z2|apply qn_hd|apply qn_rhd|apply qmv|apply qas|apply qlc|apply qla|apply qfa|apply qix|apply qpk|apply qls|apply qei|apply qni|apply qed|apply qnd|apply qad|apply qln)<;>(first|exact rfl|assumption|exact Ar.mk (by omega)|exact dct (by first|assumption|omega)|exact dcf (by first|assumption|omega)|exact List.not_mem_nil|apply dc_length|apply hc_length|apply pc_length|exact nm1 (by omega)|fail))|fail) ?_ | refine cZ rfl rfl ?_)
    refine dB rfl (by exact rho_of rfl) rfl ?_
    repeat (first|apply cA|apply cB|apply cD|apply cE|apply cF|apply cG|apply cH|apply cJ|apply cM|apply cN|apply cU|refine cV rfl ?_|apply cX|refine cY rfl rfl rfl rfl (by first|((first|apply qe_z2|apply qn_z2|apply qn_hd|apply qn_rhd|apply qmv|apply qas|apply qlc|apply qla|apply qfa|apply qix|apply qpk|apply qls|apply qei|apply qni|apply qed|apply qnd|apply qad|apply qln)<;>(first|exact rfl|assumption|exact Ar.mk (by omega)|exact dct (by first|assumption|omega)|exact dcf (by first|assumption|omega)|exact List.not_mem_nil|apply dc_length|apply hc_length|apply pc_length|exact nm1 (by omega)|fail))|fail) ?_)
    refine ret1 (Or.inl rfl) Try.results32 (by first | exact ResV.tmp rfl | exact ResV.agg rfl rfl (by assumption) (by first | exact dc_length _ | exact nc_length _ | exact rc_length _ _ _ | exact ec_length _ | exact dl_length _ _ _ _ | rfl) | exact ResV.cell rfl rfl (by assumption)) ?_
    exact no (Kp.refl _ _) (fun h => e1 (by rw [h]))
  by_cases e2 : p.num = q.num
  rotate_left
  · repeat (first | first|apply cA|apply cB|apply cD|apply cE|apply cF|apply cG|apply cH|apply cJ|apply cM|apply cN|apply cU|refine cV rfl ?_|apply cX|refine cY rfl rfl rfl rfl (by first|((first|apply qe_z2|apply qn_z2|apply qn_hd|apply qn_rhd|apply qmv|apply qas|apply qlc|apply qla|apply qfa|apply qix|apply qpk|apply qls|apply qei|apply qni|apply qed|apply qnd|apply qad|apply qln)<;>(first|exact rfl|assumption|exact Ar.mk (by omega)|exact dct (by first|assumption|omega)|exact dcf (by first|assumption|omega)|exact List.not_mem_nil|apply dc_length|apply hc_length|apply pc_length|exact nm1 (by omega)|fail))|fail) ?_ | refine cZ rfl rfl ?_)
    refine dB rfl (by exact rho_of rfl) rfl ?_
    repeat (first|apply cA|apply cB|apply cD|apply cE|apply cF|apply cG|apply cH|apply cJ|apply cM|apply cN|apply cU|refine cV rfl ?_|apply cX|refine cY rfl rfl rfl rfl (by first|((first|apply qe_z2|apply qn_z2|apply qn_hd|apply qn_rhd|apply qmv|apply qas|apply qlc|apply qla|apply qfa|apply qix|apply qpk|apply qls|apply qei|apply qni|apply qed|apply qnd|apply qad|apply qln)<;>(first|exact rfl|assumption|exact Ar.mk (by omega)|exact dct (by first|assumption|omega)|exact dcf (by first|assumption|omega)|exact List.not_mem_nil|apply dc_length|apply hc_length|apply pc_length|exact nm1 (by omega)|fail))|fail) ?_)
    refine ret1 (Or.inl rfl) Try.results32 (by first | exact ResV.tmp rfl | exact ResV.agg rfl rfl (by assumption) (by first | exact dc_length _ | exact nc_length _ | exact rc_length _ _ _ | exact ec_length _ | exact dl_length _ _ _ _ | rfl) | exact ResV.cell rfl rfl (by assumption)) ?_
    exact no (Kp.refl _ _) (fun h => e2 (by rw [h]))
  by_cases e3 : ((p.h0, p.h1) : Z2) = (q.h0, q.h1)
  rotate_left
  · repeat (first | first|apply cA|apply cB|apply cD|apply cE|apply cF|apply cG|apply cH|apply cJ|apply cM|apply cN|apply cU|refine cV rfl ?_|apply cX|refine cY rfl rfl rfl rfl (by first|((first|apply qe_z2|apply qn_z2|apply qn_hd|apply qn_rhd|apply qmv|apply qas|apply qlc|apply qla|apply qfa|apply qix|apply qpk|apply qls|apply qei|apply qni|apply qed|apply qnd|apply qad|apply qln)<;>(first|exact rfl|assumption|exact Ar.mk (by omega)|exact dct (by first|assumption|omega)|exact dcf (by first|assumption|omega)|exact List.not_mem_nil|apply dc_length|apply hc_length|apply pc_length|exact nm1 (by omega)|fail))|fail) ?_ | refine cZ rfl rfl ?_)
    refine dB rfl (by exact rho_of rfl) rfl ?_
    repeat (first|apply cA|apply cB|apply cD|apply cE|apply cF|apply cG|apply cH|apply cJ|apply cM|apply cN|apply cU|refine cV rfl ?_|apply cX|refine cY rfl rfl rfl rfl (by first|((first|apply qe_z2|apply qn_z2|apply qn_hd|apply qn_rhd|apply qmv|apply qas|apply qlc|apply qla|apply qfa|apply qix|apply qpk|apply qls|apply qei|apply qni|apply qed|apply qnd|apply qad|apply qln)<;>(first|exact rfl|assumption|exact Ar.mk (by omega)|exact dct (by first|assumption|omega)|exact dcf (by first|assumption|omega)|exact List.not_mem_nil|apply dc_length|apply hc_length|apply pc_length|exact nm1 (by omega)|fail))|fail) ?_)
    refine ret1 (Or.inl rfl) Try.results32 (by first | exact ResV.tmp rfl | exact ResV.agg rfl rfl (by assumption) (by first | exact dc_length _ | exact nc_length _ | exact rc_length _ _ _ | exact ec_length _ | exact dl_length _ _ _ _ | rfl) | exact ResV.cell rfl rfl (by assumption)) ?_
    exact no (Kp.refl _ _) (fun h => e3 (by rw [h]))
  by_cases e4 : (p.held.length : Int) = (q.held.length : Int)
  rotate_left
  · repeat (first | first|apply cA|apply cB|apply cD|apply cE|apply cF|apply cG|apply cH|apply cJ|apply cM|apply cN|apply cU|refine cV rfl ?_|apply cX|refine cY rfl rfl rfl rfl (by first|((first|apply qe_z2|apply qn_z2|apply qn_hd|apply qn_rhd|apply qmv|apply qas|apply qlc|apply qla|apply qfa|apply qix|apply qpk|apply qls|apply qei|apply qni|apply qed|apply qnd|apply qad|apply qln)<;>(first|exact rfl|assumption|exact Ar.mk (by omega)|exact dct (by first|assumption|omega)|exact dcf (by first|assumption|omega)|exact List.not_mem_nil|apply dc_length|apply hc_length|apply pc_length|exact nm1 (by omega)|fail))|fail) ?_ | refine cZ rfl rfl ?_)
    refine dB rfl (by exact rho_of rfl) rfl ?_
    repeat (first|apply cA|apply cB|apply cD|apply cE|apply cF|apply cG|apply cH|apply cJ|apply cM|apply cN|apply cU|refine cV rfl ?_|apply cX|refine cY rfl rfl rfl rfl (by first|((first|apply qe_z2|apply qn_z2|apply qn_hd|apply qn_rhd|apply qmv|apply qas|apply qlc|apply qla|apply qfa|apply qix|apply qpk|apply qls|apply qei|apply qni|apply qed|apply qnd|apply qad|apply qln)<;>(first|exact rfl|assumption|exact Ar.mk (by omega)|exact dct (by first|assumption|omega)|exact dcf (by first|assumption|omega)|exact List.not_mem_nil|apply dc_length|apply hc_length|apply pc_length|exact nm1 (by omega)|fail))|fail) ?_)
    refine ret1 (Or.inl rfl) Try.results32 (by first | exact ResV.tmp rfl | exact ResV.agg rfl rfl (by assumption) (by first | exact dc_length _ | exact nc_length _ | exact rc_length _ _ _ | exact ec_length _ | exact dl_length _ _ _ _ | rfl) | exact ResV.cell rfl rfl (by assumption)) ?_
    exact no (Kp.refl _ _) (fun h => e4 (by rw [h]))
  repeat (first | first|apply cA|apply cB|apply cD|apply cE|apply cF|apply cG|apply cH|apply cJ|apply cM|apply cN|apply cU|refine cV rfl ?_|apply cX|refine cY rfl rfl rfl rfl (by first|((first|apply qe_z2|apply qn_z2|apply qn_hd|apply qn_rhd|apply qmv|apply qas|apply qlc|apply qla|apply qfa|apply qix|apply qpk|apply qls|apply qei|apply qni|apply qed|apply qnd|apply qad|apply qln)<;>(first|exact rfl|assumption|exact Ar.mk (by omega)|exact dct (by first|assumption|omega)|exact dcf (by first|assumption|omega)|exact List.not_mem_nil|apply dc_length|apply hc_length|apply pc_length|exact nm1 (by omega)|fail))|fail) ?_ | refine cZ rfl rfl ?_)
  refine dD rfl (by exact rho_of rfl) rfl ?_
  clear q0 q1 q2 p0 p1 p2
  repeat (first|apply cA|apply cB|apply cD|apply cE|apply cF|apply cG|apply cH|apply cJ|apply cM|apply cN|apply cU|refine cV rfl ?_|apply cX|refine cY rfl rfl rfl rfl (by first|((first|apply qe_z2|apply qn_z2|apply qn_hd|apply qn_rhd|apply qmv|apply qas|apply qlc|apply qla|apply qfa|apply qix|apply qpk|apply qls|apply qei|apply qni|apply qed|apply qnd|apply qad|apply qln)<;>(first|exact rfl|assumption|exact Ar.mk (by omega)|exact dct (by first|assumption|omega)|exact dcf (by first|assumption|omega)|exact List.not_mem_nil|apply dc_length|apply hc_length|apply pc_length|exact nm1 (by omega)|fail))|fail) ?_)
  refine CG.loop (X := Nat) (fun i => [(2, .pointer (some ⟨b1, 0, none⟩)), (3, .pointer (some ⟨b2, 0, none⟩)), (5, .int .i64 (i : Int))])
    (fun i w' => i ≤ p.held.length ∧ Kp [] w2 w' ∧ ∀ j (hj : j < i) (h1 : j < p.held.length) (h2 : j < q.held.length), p.held[j] = q.held[j]) (fun i => p.held.length - i) 0 ⟨Nat.zero_le _, Kp.refl _ _, fun j hj => absurd hj (by omega)⟩ (by (repeat' (first | exact True.intro | exact rfl | refine And.intro ?_ ?_))) ?_
  rintro i w3 ⟨hi, hk3, hup⟩
  have r4 := r4.kp0 hk3
  have t4 := t4.kp0 hk3
  by_cases hlt : i < p.held.length
  · have g1 : (i : Int) < (p.held.length : Int) := by omega
    have hlt2 : i < q.held.length := by omega
    obtain ⟨ba, oa, rfl, hri⟩ := (hS.kp0 (k2.trans hk3)).at hlt
    obtain ⟨bb, ob, rfl, hrj⟩ := (hT.kp0 (k2.trans hk3)).at hlt2
    have f1 := hp.h _ (List.getElem_mem hlt)
    have f2 := hq.h _ (List.getElem_mem hlt2)
    repeat (first|apply cA|apply cB|apply cD|apply cE|apply cF|apply cG|apply cH|apply cJ|apply cM|apply cN|apply cU|refine cV rfl ?_|apply cX|refine cY rfl rfl rfl rfl (by first|((first|apply qe_z2|apply qn_z2|apply qn_hd|apply qn_rhd|apply qmv|apply qas|apply qlc|apply qla|apply qfa|apply qix|apply qpk|apply qls|apply qei|apply qni|apply qed|apply qnd|apply qad|apply qln)<;>(first|exact rfl|assumption|exact Ar.mk (by omega)|exact dct (by first|assumption|omega)|exact dcf (by first|assumption|omega)|exact List.not_mem_nil|apply dc_length|apply hc_length|apply pc_length|exact nm1 (by omega)|fail))|fail) ?_)
    refine dB rfl (by exact rho_of rfl) rfl ?_
    by_cases he : p.held[i] = q.held[i]
    · repeat (first|apply cA|apply cB|apply cD|apply cE|apply cF|apply cG|apply cH|apply cJ|apply cM|apply cN|apply cU|refine cV rfl ?_|apply cX|refine cY rfl rfl rfl rfl (by first|((first|apply qe_z2|apply qn_z2|apply qn_hd|apply qn_rhd|apply qmv|apply qas|apply qlc|apply qla|apply qfa|apply qix|apply qpk|apply qls|apply qei|apply qni|apply qed|apply qnd|apply qad|apply qln)<;>(first|exact rfl|assumption|exact Ar.mk (by omega)|exact dct (by first|assumption|omega)|exact dcf (by first|assumption|omega)|exact List.not_mem_nil|apply dc_length|apply hc_length|apply pc_length|exact nm1 (by omega)|fail))|fail) ?_)
      refine CG.draw0 mixed [0, 1, 2, 3, 4, 5, 6, 7, 8, 9, 10] [] (by kernel_rfl) ?_
      repeat (refine dA rfl rfl rfl (by first|((first|apply qe_z2|apply qn_z2|apply qn_hd|apply qn_rhd|apply qmv|apply qas|apply qlc|apply qla|apply qfa|apply qix|apply qpk|apply qls|apply qei|apply qni|apply qed|apply qnd|apply qad|apply qln)<;>(first|exact rfl|assumption|exact Ar.mk (by omega)|exact dct (by first|assumption|omega)|exact dcf (by first|assumption|omega)|exact List.not_mem_nil|apply dc_length|apply hc_length|apply pc_length|exact nm1 (by omega)|fail))|fail) ?_)
      refine Der.fin (fun w4 hk4 _ _ => ?_)
      repeat (first|apply cA|apply cB|apply cD|apply cE|apply cF|apply cG|apply cH|apply cJ|apply cM|apply cN|apply cU|refine cV rfl ?_|apply cX|refine cY rfl rfl rfl rfl (by first|((first|apply qe_z2|apply qn_z2|apply qn_hd|apply qn_rhd|apply qmv|apply qas|apply qlc|apply qla|apply qfa|apply qix|apply qpk|apply qls|apply qei|apply qni|apply qed|apply qnd|apply qad|apply qln)<;>(first|exact rfl|assumption|exact Ar.mk (by omega)|exact dct (by first|assumption|omega)|exact dcf (by first|assumption|omega)|exact List.not_mem_nil|apply dc_length|apply hc_length|apply pc_length|exact nm1 (by omega)|fail))|fail) ?_)
      refine dD rfl (by exact rho_of rfl) rfl ?_
      repeat (first|apply cA|apply cB|apply cD|apply cE|apply cF|apply cG|apply cH|apply cJ|apply cM|apply cN|apply cU|refine cV rfl ?_|apply cX|refine cY rfl rfl rfl rfl (by first|((first|apply qe_z2|apply qn_z2|apply qn_hd|apply qn_rhd|apply qmv|apply qas|apply qlc|apply qla|apply qfa|apply qix|apply qpk|apply qls|apply qei|apply qni|apply qed|apply qnd|apply qad|apply qln)<;>(first|exact rfl|assumption|exact Ar.mk (by omega)|exact dct (by first|assumption|omega)|exact dcf (by first|assumption|omega)|exact List.not_mem_nil|apply dc_length|apply hc_length|apply pc_length|exact nm1 (by omega)|fail))|fail) ?_)
      refine NG.round (i + 1) (by (repeat' (first | exact True.intro | exact rfl | refine And.intro ?_ ?_))) ⟨by omega, hk3.trans hk4, fun j hj h1 h2 => ?_⟩ (by omega)
      by_cases ej : j = i
      · subst ej
        exact he
      · exact hup j (by omega) h1 h2
    · repeat (first|apply cA|apply cB|apply cD|apply cE|apply cF|apply cG|apply cH|apply cJ|apply cM|apply cN|apply cU|refine cV rfl ?_|apply cX|refine cY rfl rfl rfl rfl (by first|((first|apply qe_z2|apply qn_z2|apply qn_hd|apply qn_rhd|apply qmv|apply qas|apply qlc|apply qla|apply qfa|apply qix|apply qpk|apply qls|apply qei|apply qni|apply qed|apply qnd|apply qad|apply qln)<;>(first|exact rfl|assumption|exact Ar.mk (by omega)|exact dct (by first|assumption|omega)|exact dcf (by first|assumption|omega)|exact List.not_mem_nil|apply dc_length|apply hc_length|apply pc_length|exact nm1 (by omega)|fail))|fail) ?_)
      refine CG.draw0 mixed [0, 1, 2, 3, 4, 5, 6, 7, 8, 9, 10] [] (by kernel_rfl) ?_
      repeat (refine dA rfl rfl rfl (by first|((first|apply qe_z2|apply qn_z2|apply qn_hd|apply qn_rhd|apply qmv|apply qas|apply qlc|apply qla|apply qfa|apply qix|apply qpk|apply qls|apply qei|apply qni|apply qed|apply qnd|apply qad|apply qln)<;>(first|exact rfl|assumption|exact Ar.mk (by omega)|exact dct (by first|assumption|omega)|exact dcf (by first|assumption|omega)|exact List.not_mem_nil|apply dc_length|apply hc_length|apply pc_length|exact nm1 (by omega)|fail))|fail) ?_)
      refine Der.fin (fun w4 hk4 _ _ => ?_)
      repeat (first|apply cA|apply cB|apply cD|apply cE|apply cF|apply cG|apply cH|apply cJ|apply cM|apply cN|apply cU|refine cV rfl ?_|apply cX|refine cY rfl rfl rfl rfl (by first|((first|apply qe_z2|apply qn_z2|apply qn_hd|apply qn_rhd|apply qmv|apply qas|apply qlc|apply qla|apply qfa|apply qix|apply qpk|apply qls|apply qei|apply qni|apply qed|apply qnd|apply qad|apply qln)<;>(first|exact rfl|assumption|exact Ar.mk (by omega)|exact dct (by first|assumption|omega)|exact dcf (by first|assumption|omega)|exact List.not_mem_nil|apply dc_length|apply hc_length|apply pc_length|exact nm1 (by omega)|fail))|fail) ?_)
      refine dB rfl (by exact rho_of rfl) rfl ?_
      repeat (first|apply cA|apply cB|apply cD|apply cE|apply cF|apply cG|apply cH|apply cJ|apply cM|apply cN|apply cU|refine cV rfl ?_|apply cX|refine cY rfl rfl rfl rfl (by first|((first|apply qe_z2|apply qn_z2|apply qn_hd|apply qn_rhd|apply qmv|apply qas|apply qlc|apply qla|apply qfa|apply qix|apply qpk|apply qls|apply qei|apply qni|apply qed|apply qnd|apply qad|apply qln)<;>(first|exact rfl|assumption|exact Ar.mk (by omega)|exact dct (by first|assumption|omega)|exact dcf (by first|assumption|omega)|exact List.not_mem_nil|apply dc_length|apply hc_length|apply pc_length|exact nm1 (by omega)|fail))|fail) ?_)
      refine ret1 (Or.inl rfl) Try.results32 (by first | exact ResV.tmp rfl | exact ResV.agg rfl rfl (by assumption) (by first | exact dc_length _ | exact nc_length _ | exact rc_length _ _ _ | exact ec_length _ | exact dl_length _ _ _ _ | rfl) | exact ResV.cell rfl rfl (by assumption)) ?_
      exact no (hk3.trans hk4) (fun h => he (by subst h; rfl))
  · have g1 : ¬ (i : Int) < (p.held.length : Int) := by omega
    have hpq : p = q := by
      have h5 : p.held = q.held := eq_upto hup (by omega) (by omega)
      simp only [Prod.mk.injEq] at e3
      obtain ⟨h3, h4⟩ := e3
      cases p
      cases q
      simp only at e1 e2 h3 h4 h5
      rw [e1, e2, h3, h4, h5]
    repeat (first|apply cA|apply cB|apply cD|apply cE|apply cF|apply cG|apply cH|apply cJ|apply cM|apply cN|apply cU|refine cV rfl ?_|apply cX|refine cY rfl rfl rfl rfl (by first|((first|apply qe_z2|apply qn_z2|apply qn_hd|apply qn_rhd|apply qmv|apply qas|apply qlc|apply qla|apply qfa|apply qix|apply qpk|apply qls|apply qei|apply qni|apply qed|apply qnd|apply qad|apply qln)<;>(first|exact rfl|assumption|exact Ar.mk (by omega)|exact dct (by first|assumption|omega)|exact dcf (by first|assumption|omega)|exact List.not_mem_nil|apply dc_length|apply hc_length|apply pc_length|exact nm1 (by omega)|fail))|fail) ?_)
    refine dD rfl (by exact rho_of rfl) rfl ?_
    repeat (first|apply cA|apply cB|apply cD|apply cE|apply cF|apply cG|apply cH|apply cJ|apply cM|apply cN|apply cU|refine cV rfl ?_|apply cX|refine cY rfl rfl rfl rfl (by first|((first|apply qe_z2|apply qn_z2|apply qn_hd|apply qn_rhd|apply qmv|apply qas|apply qlc|apply qla|apply qfa|apply qix|apply qpk|apply qls|apply qei|apply qni|apply qed|apply qnd|apply qad|apply qln)<;>(first|exact rfl|assumption|exact Ar.mk (by omega)|exact dct (by first|assumption|omega)|exact dcf (by first|assumption|omega)|exact List.not_mem_nil|apply dc_length|apply hc_length|apply pc_length|exact nm1 (by omega)|fail))|fail) ?_)
    refine ret1 (Or.inl rfl) Try.results32 (by first | exact ResV.tmp rfl | exact ResV.agg rfl rfl (by assumption) (by first | exact dc_length _ | exact nc_length _ | exact rc_length _ _ _ | exact ec_length _ | exact dl_length _ _ _ _ | rfl) | exact ResV.cell rfl rfl (by assumption)) ?_
    exact ⟨by rw [decide_eq_true hpq], k2.trans hk3⟩
end Go.Proofs.Ytajllbdeoopimaa
namespace Go.Proofs.Ytajllbdeoopimaa
set_option linter.unusedVariables false
section
variable {P : Program} {L : Env} {S : List Nat} {w0 : World} {F : World → Prop} {d : Option Nat} {ty : TypeId} {pos : String} {af : Array Edge} {g : Option (Nat × Bool)}
/-- Of any int, as an unsigned number, the rest by m. -/
theorem conv_rem (depth : Int) (m : Nat) (hm : 0 < m) (hm2 : m < 4294967296) : ∃ k : Nat, k < m ∧ (IntKind.wrap .u64 depth) % (m : Int) = (k : Int) ∧ IntKind.wrap .i64 (k : Int) = (k : Int) ∧ 0 ≤ IntKind.wrap .u64 depth ∧ IntKind.wrap .u64 depth < 18446744073709551616 := by
  have h0 : 0 ≤ IntKind.wrap .u64 depth ∧ IntKind.wrap .u64 depth < 18446744073709551616 := by
    simp only [IntKind.wrap, IntKind.signed, IntKind.bits]
    simp
    omega
  have h1 := Int.emod_nonneg (IntKind.wrap .u64 depth) (b := (m : Int)) (by omega)
  have h2 := Int.emod_lt_of_pos (IntKind.wrap .u64 depth) (b := (m : Int)) (by omega)
  refine ⟨((IntKind.wrap .u64 depth) % (m : Int)).toNat, by omega, by omega, ?_, h0.1, h0.2⟩
  generalize hk : ((IntKind.wrap .u64 depth) % (m : Int)).toNat = k
  have : k < m := by omega
  simp only [IntKind.wrap, IntKind.signed, IntKind.bits]
  simp
  omega
end
end Go.Proofs.Ytajllbdeoopimaa
namespace Go.Proofs.Ytajllbdeoopimaa
set_option linter.unusedVariables false
section
variable {P : Program} {S : List Nat} {w0 : World} {F : World → Prop} {L : Env} {d : Option Nat} {ty : TypeId} {pos : String} {af : Array Edge} {g : Option (Nat × Bool)}
theorem qmn {T T2 : TypeId} {x y : Operand} {a b : Int} (hx : ro L x = some (.int .i64 a)) (hy : ro L y = some (.int .i64 b)) :
    Vals P S w0 F L ⟨d, .call { callee := .builtin .min, args := #[x, y], argTypes := #[T, T2] }, ty, pos, af, g⟩ (.int .i64 (if b < a then b else a)) := fun w _ _ => by
  simp [execOp, rho_of hx, rho_of hy, resolve, invoke, builtin, Builtin.min_, Builtin.min2]
end
section
variable {P : Program} {S : List Nat} {w0 : World} {F : World → Prop} {L : Env} {d : Option Nat} {ty : TypeId} {pos : String} {af : Array Edge} {g : Option (Nat × Bool)}
end
theorem min_take {α : Type} (l : List α) (m : Nat) : (if (m : Int) < (l.length : Int) then (m : Int) else (l.length : Int)) = ((l.take m).length : Int) := by
  rw [List.length_take]
  split <;> omega
end Go.Proofs.Ytajllbdeoopimaa
namespace Go.Proofs.Ytajllbdeoopimaa
set_option linter.unusedVariables false
/-- An act: what is held of its purse lies in memory. -/
structure HA where
  kind : Int
  now : Int
  frm : Dg
  to : Dg
  nm : Dg
  amt : Int
  til : Int
  p : Pu
  a : Option Addr
  c : Nat
def HA.s (x : HA) : Value := .slice x.a x.p.held.length x.c
def hac (x : HA) : List Value := [.int .i64 x.kind, .int .i64 x.now] ++ (dc x.frm ++ (dc x.to ++ (dc x.nm ++ ([.int .i64 x.amt, .int .i64 x.til] ++ pc x.p x.s))))
theorem hac_length (x : HA) : (hac x).length = 40 := by simp [hac, pc_length, dc_length]
def hav (x : HA) : Value := .agg (hac x).toArray
/-- What is so of an act that comes. -/
structure HA.In (x : HA) (w : World) : Prop where
  sl : Sl hc 11 w x.a x.p.held
  cap : x.p.held.length ≤ x.c
  big : x.c ≤ 9223372036854775807
  k : fitZ x.kind
  n : fitZ x.now
  am : fitZ x.amt
  t : fitZ x.til
  h0 : fitZ x.p.h0
  h1 : fitZ x.p.h1
theorem hac_rows {w : World} {b : Nat} {T : TypeId} {x : HA} (h : Blk w b (.cells (hac x).toArray T)) : Row w b 0 [.int .i64 x.kind] ∧ Row w b 1 [.int .i64 x.now] ∧ Row w b 2 (dc x.frm) ∧ Row w b 10 (dc x.to) ∧ Row w b 18 (dc x.nm) ∧ Row w b 26 [.int .i64 x.amt] ∧ Row w b 27 [.int .i64 x.til] ∧ Row w b 28 (pc x.p x.s) ∧ Row w b 0 (hac x) := by
  have l1 : (dc x.frm).length = 8 := dc_length _
  have l2 : (dc x.to).length = 8 := dc_length _
  have l3 : (dc x.nm).length = 8 := dc_length _
  refine ⟨?_, ?_, ?_, ?_, ?_, ?_, ?_, ?_, Row.all h rfl⟩
  · exact Row.of h [] ([.int .i64 x.now] ++ (dc x.frm ++ (dc x.to ++ (dc x.nm ++ ([.int .i64 x.amt, .int .i64 x.til] ++ pc x.p x.s))))) (by simp [hac]) rfl
  · exact Row.of h [.int .i64 x.kind] (dc x.frm ++ (dc x.to ++ (dc x.nm ++ ([.int .i64 x.amt, .int .i64 x.til] ++ pc x.p x.s)))) (by simp [hac]) rfl
  · exact Row.of h [.int .i64 x.kind, .int .i64 x.now] (dc x.to ++ (dc x.nm ++ ([.int .i64 x.amt, .int .i64 x.til] ++ pc x.p x.s))) (by simp [hac]) rfl
  · exact Row.of h ([.int .i64 x.kind, .int .i64 x.now] ++ dc x.frm) (dc x.nm ++ ([.int .i64 x.amt, .int .i64 x.til] ++ pc x.p x.s)) (by simp [hac]) (by simp [l1])
  · exact Row.of h ([.int .i64 x.kind, .int .i64 x.now] ++ (dc x.frm ++ dc x.to)) ([.int .i64 x.amt, .int .i64 x.til] ++ pc x.p x.s) (by simp [hac]) (by simp [l1, l2])
  · exact Row.of h ([.int .i64 x.kind, .int .i64 x.now] ++ (dc x.frm ++ (dc x.to ++ dc x.nm))) ([.int .i64 x.til] ++ pc x.p x.s) (by simp [hac]) (by simp [l1, l2, l3])
  · exact Row.of h ([.int .i64 x.kind, .int .i64 x.now] ++ (dc x.frm ++ (dc x.to ++ (dc x.nm ++ [.int .i64 x.amt])))) (pc x.p x.s) (by simp [hac]) (by simp [l1, l2, l3])
  · exact Row.of h ([.int .i64 x.kind, .int .i64 x.now] ++ (dc x.frm ++ (dc x.to ++ (dc x.nm ++ [.int .i64 x.amt, .int .i64 x.til])))) [] (by simp [hac]) (by simp [l1, l2, l3])
def HA.cut (x : HA) : Pu := { x.p with held := x.p.held.take 20 }
theorem HA.cut_len (x : HA) : x.cut.held.length = min x.p.held.length 20 := by simp [HA.cut, Nat.min_comm]
/-- A call that answers a purse of its own. -/
def gU (m : Nat) (p : Pu) : GD := ⟨Cl12, zC, fun l => .agg l.1.toArray, fun l w => ∃ s, l.1 = pc p s ∧ w.ownsRow m 56 11 s p.held.length (flt hc p.held)⟩
theorem gU_stab {m : Nat} {p : Pu} (x : (gU m p).X) : Stab [] ((gU m p).phi x) := fun w w' hk ⟨s, h1, h2⟩ => ⟨s, h1, own_kp0 h2 hk⟩
theorem take_min20 (l : List Hd) : (if (20 : Int) < (l.length : Int) then (20 : Int) else (l.length : Int)) = ((l.take 20).length : Int) := min_take l 20
attribute [local irreducible] CG NG SG Vals Der Row Blk MapIs IterAt DerX
set_option maxHeartbeats 16000000 in
/-- do, whatever the hub's own calls answer. -/
theorem do_gen {w : World} (x : HA) (hx : x.In w) (pv0 : Value) (R : Int → Value → World → Prop)
    (h0 : x.kind = 0 → ∀ W, Kp [] w W → Calls Try.prog 14 #[pv0, .int .i64 x.now, dv x.frm, dv x.to, dv x.nm, .int .i64 x.amt, .int .i64 x.til] W (fun e w' => ∃ z, e = .returned (.int .i64 z) ∧ R z (.slice none 0 0) w'))
    (h1 : x.kind = 1 → ∀ W, Kp [] w W → Calls Try.prog 15 #[pv0, .int .i64 x.now, dv x.nm, .int .i64 x.amt] W (fun e w' => ∃ z, e = .returned (.int .i64 z) ∧ R z (.slice none 0 0) w'))
    (h2 : x.kind = 2 → ∀ W, Kp [] w W → Calls Try.prog 27 #[pv0, .int .i64 x.now] W (fun e w' => ∃ v, e = .returned v ∧ R 0 v w'))
    (h3 : x.kind = 3 → ∀ W s, Kp [] w W → W.ownsRow w.heap.size 56 11 s x.cut.held.length (flt hc x.cut.held) → Calls Try.prog 12 #[pv0, dv x.frm, pv x.cut s, .int .i64 x.amt] W (fun e w' => ∃ z, e = .returned (.int .i64 z) ∧ R z (.slice none 0 0) w'))
    (h4 : ¬ (x.kind = 0 ∨ x.kind = 1 ∨ x.kind = 2 ∨ x.kind = 3) → ∀ W, Kp [] w W → R 0 (.slice none 0 0) W) :
    Calls Try.prog 22 #[pv0, hav x] w (fun e w' => ∃ z v, e = .returned (.tuple #[.int .i64 z, v]) ∧ R z v w') := by
  refine enter2 Try.func22 rfl Try.ntmps22 rfl ?_
  repeat (first|apply cA|apply cB|apply cD|apply cE|apply cF|apply cG|apply cH|apply cM|apply cN|apply cX|refine cY rfl rfl rfl rfl (by first|((first|apply qei|apply qmn|apply qto|apply qmv|apply qas|apply qlc|apply qla|apply qfa|apply qei|apply qln|apply qto)<;>(first|exact rfl|assumption|exact Ar.mk (by omega)|exact List.not_mem_nil|apply dc_length|apply pc_length|exact dcu|fail))|fail) ?_)
  refine SG.box rfl rfl rfl (by exact rho_of rfl) (fun b3 w1 hk1 hb3 hB3 => ?_)
  have hB3 : Blk w1 b3 (.cells (hac x).toArray 65) := hB3
  obtain ⟨r0, r1, r2, r10, r18, r26, r27, r28, -⟩ := hac_rows hB3
  repeat (first|apply cA|apply cB|apply cD|apply cE|apply cF|apply cG|apply cH|apply cM|apply cN|apply cX|refine cY rfl rfl rfl rfl (by first|((first|apply qei|apply qmn|apply qto|apply qmv|apply qas|apply qlc|apply qla|apply qfa|apply qei|apply qln|apply qto)<;>(first|exact rfl|assumption|exact Ar.mk (by omega)|exact List.not_mem_nil|apply dc_length|apply pc_length|exact dcu|fail))|fail) ?_)
  by_cases e0 : x.kind = 0
  · refine dB rfl (by exact rho_of rfl) (decide_eq_true e0) ?_
    repeat (first|apply cA|apply cB|apply cD|apply cE|apply cF|apply cG|apply cH|apply cM|apply cN|apply cX|refine cY rfl rfl rfl rfl (by first|((first|apply qei|apply qmn|apply qto|apply qmv|apply qas|apply qlc|apply qla|apply qfa|apply qei|apply qln|apply qto)<;>(first|exact rfl|assumption|exact Ar.mk (by omega)|exact List.not_mem_nil|apply dc_length|apply pc_length|exact dcu|fail))|fail) ?_)
    refine SG.call rfl rfl rfl (vs := [pv0, .int .i64 x.now, dv x.frm, dv x.to, dv x.nm, .int .i64 x.amt, .int .i64 x.til]) (by repeat' (first | exact True.intro | exact rho_of rfl | refine And.intro ?_ ?_)) ((h0 e0 w1 hk1).mono (fun e w2 hh => ?_))
    obtain ⟨z, he, hR⟩ := hh
    refine ⟨_, he, ?_⟩
    repeat (first|apply cA|apply cB|apply cD|apply cE|apply cF|apply cG|apply cH|apply cM|apply cN|apply cX|refine cY rfl rfl rfl rfl (by first|((first|apply qei|apply qmn|apply qto|apply qmv|apply qas|apply qlc|apply qla|apply qfa|apply qei|apply qln|apply qto)<;>(first|exact rfl|assumption|exact Ar.mk (by omega)|exact List.not_mem_nil|apply dc_length|apply pc_length|exact dcu|fail))|fail) ?_)
    refine ret2 (Or.inl rfl) Try.results22 (by first | exact ResV.tmp rfl | exact ResV.agg rfl rfl (by assumption) (by first | exact dc_length _ | exact nc_length _ | exact rc_length _ _ _ | exact ec_length _ | exact dl_length _ _ _ _ | rfl) | exact ResV.cell rfl rfl (by assumption)) (by first | exact ResV.tmp rfl | exact ResV.agg rfl rfl (by assumption) (by first | exact dc_length _ | exact nc_length _ | exact rc_length _ _ _ | exact ec_length _ | exact dl_length _ _ _ _ | rfl) | exact ResV.cell rfl rfl (by assumption)) ?_
    exact ⟨_, _, rfl, hR⟩
  refine dD rfl (by exact rho_of rfl) (decide_eq_false e0) ?_
  repeat (first|apply cA|apply cB|apply cD|apply cE|apply cF|apply cG|apply cH|apply cM|apply cN|apply cX|refine cY rfl rfl rfl rfl (by first|((first|apply qei|apply qmn|apply qto|apply qmv|apply qas|apply qlc|apply qla|apply qfa|apply qei|apply qln|apply qto)<;>(first|exact rfl|assumption|exact Ar.mk (by omega)|exact List.not_mem_nil|apply dc_length|apply pc_length|exact dcu|fail))|fail) ?_)
  by_cases e1 : x.kind = 1
  · refine dB rfl (by exact rho_of rfl) (decide_eq_true e1) ?_
    repeat (first|apply cA|apply cB|apply cD|apply cE|apply cF|apply cG|apply cH|apply cM|apply cN|apply cX|refine cY rfl rfl rfl rfl (by first|((first|apply qei|apply qmn|apply qto|apply qmv|apply qas|apply qlc|apply qla|apply qfa|apply qei|apply qln|apply qto)<;>(first|exact rfl|assumption|exact Ar.mk (by omega)|exact List.not_mem_nil|apply dc_length|apply pc_length|exact dcu|fail))|fail) ?_)
    refine SG.call rfl rfl rfl (vs := [pv0, .int .i64 x.now, dv x.nm, .int .i64 x.amt]) (by repeat' (first | exact True.intro | exact rho_of rfl | refine And.intro ?_ ?_)) ((h1 e1 w1 hk1).mono (fun e w2 hh => ?_))
    obtain ⟨z, he, hR⟩ := hh
    refine ⟨_, he, ?_⟩
    repeat (first|apply cA|apply cB|apply cD|apply cE|apply cF|apply cG|apply cH|apply cM|apply cN|apply cX|refine cY rfl rfl rfl rfl (by first|((first|apply qei|apply qmn|apply qto|apply qmv|apply qas|apply qlc|apply qla|apply qfa|apply qei|apply qln|apply qto)<;>(first|exact rfl|assumption|exact Ar.mk (by omega)|exact List.not_mem_nil|apply dc_length|apply pc_length|exact dcu|fail))|fail) ?_)
    refine ret2 (Or.inl rfl) Try.results22 (by first | exact ResV.tmp rfl | exact ResV.agg rfl rfl (by assumption) (by first | exact dc_length _ | exact nc_length _ | exact rc_length _ _ _ | exact ec_length _ | exact dl_length _ _ _ _ | rfl) | exact ResV.cell rfl rfl (by assumption)) (by first | exact ResV.tmp rfl | exact ResV.agg rfl rfl (by assumption) (by first | exact dc_length _ | exact nc_length _ | exact rc_length _ _ _ | exact ec_length _ | exact dl_length _ _ _ _ | rfl) | exact ResV.cell rfl rfl (by assumption)) ?_
    exact ⟨_, _, rfl, hR⟩
  refine dD rfl (by exact rho_of rfl) (decide_eq_false e1) ?_
  repeat (first|apply cA|apply cB|apply cD|apply cE|apply cF|apply cG|apply cH|apply cM|apply cN|apply cX|refine cY rfl rfl rfl rfl (by first|((first|apply qei|apply qmn|apply qto|apply qmv|apply qas|apply qlc|apply qla|apply qfa|apply qei|apply qln|apply qto)<;>(first|exact rfl|assumption|exact Ar.mk (by omega)|exact List.not_mem_nil|apply dc_length|apply pc_length|exact dcu|fail))|fail) ?_)
  by_cases e2 : x.kind = 2
  · refine dB rfl (by exact rho_of rfl) (decide_eq_true e2) ?_
    repeat (first|apply cA|apply cB|apply cD|apply cE|apply cF|apply cG|apply cH|apply cM|apply cN|apply cX|refine cY rfl rfl rfl rfl (by first|((first|apply qei|apply qmn|apply qto|apply qmv|apply qas|apply qlc|apply qla|apply qfa|apply qei|apply qln|apply qto)<;>(first|exact rfl|assumption|exact Ar.mk (by omega)|exact List.not_mem_nil|apply dc_length|apply pc_length|exact dcu|fail))|fail) ?_)
    refine SG.call rfl rfl rfl (vs := [pv0, .int .i64 x.now]) (by repeat' (first | exact True.intro | exact rho_of rfl | refine And.intro ?_ ?_)) ((h2 e2 w1 hk1).mono (fun e w2 hh => ?_))
    obtain ⟨v, he, hR⟩ := hh
    refine ⟨_, he, ?_⟩
    repeat (first|apply cA|apply cB|apply cD|apply cE|apply cF|apply cG|apply cH|apply cM|apply cN|apply cX|refine cY rfl rfl rfl rfl (by first|((first|apply qei|apply qmn|apply qto|apply qmv|apply qas|apply qlc|apply qla|apply qfa|apply qei|apply qln|apply qto)<;>(first|exact rfl|assumption|exact Ar.mk (by omega)|exact List.not_mem_nil|apply dc_length|apply pc_length|exact dcu|fail))|fail) ?_)
    refine ret2 (Or.inl rfl) Try.results22 (by first | exact ResV.tmp rfl | exact ResV.agg rfl rfl (by assumption) (by first | exact dc_length _ | exact nc_length _ | exact rc_length _ _ _ | exact ec_length _ | exact dl_length _ _ _ _ | rfl) | exact ResV.cell rfl rfl (by assumption)) (by first | exact ResV.tmp rfl | exact ResV.agg rfl rfl (by assumption) (by first | exact dc_length _ | exact nc_length _ | exact rc_length _ _ _ | exact ec_length _ | exact dl_length _ _ _ _ | rfl) | exact ResV.cell rfl rfl (by assumption)) ?_
    exact ⟨_, _, rfl, hR⟩
  refine dD rfl (by exact rho_of rfl) (decide_eq_false e2) ?_
  repeat (first|apply cA|apply cB|apply cD|apply cE|apply cF|apply cG|apply cH|apply cM|apply cN|apply cX|refine cY rfl rfl rfl rfl (by first|((first|apply qei|apply qmn|apply qto|apply qmv|apply qas|apply qlc|apply qla|apply qfa|apply qei|apply qln|apply qto)<;>(first|exact rfl|assumption|exact Ar.mk (by omega)|exact List.not_mem_nil|apply dc_length|apply pc_length|exact dcu|fail))|fail) ?_)
  by_cases e3 : x.kind = 3
  · refine dB rfl (by exact rho_of rfl) (decide_eq_true e3) ?_
    have r28 : Row w1 b3 28 (pc x.p (.slice x.a x.p.held.length x.c)) := r28
    repeat (first|apply cA|apply cB|apply cD|apply cE|apply cF|apply cG|apply cH|apply cM|apply cN|apply cX|refine cY rfl rfl rfl rfl (by first|((first|apply qei|apply qmn|apply qto|apply qmv|apply qas|apply qlc|apply qla|apply qfa|apply qei|apply qln|apply qto)<;>(first|exact rfl|assumption|exact Ar.mk (by omega)|exact List.not_mem_nil|apply dc_length|apply pc_length|exact dcu|fail))|fail) ?_)
    refine SG.alloc rfl rfl rfl (fun b6 w2 hk2 hb6 hB6 => ?_)
    refine SG.setAll (l := pc x.p (.slice x.a x.p.held.length x.c)) rfl rfl (by exact rho_of rfl) (by exact rho_of rfl) hB6 (pc_length _ _) rfl (pc_one _ _ _ _) (fun w3 hk3 hB6 => ?_)
    have hB6 : Blk w3 b6 (.cells (pc x.p (.slice x.a x.p.held.length x.c)).toArray 63) := hB6
    have k13 : Kp [] w1 w3 := hk2.trans_new hk3 (new1 (by omega))
    obtain ⟨-, -, -, -, s4, -⟩ := pc_rows hB6
    have hcl : (x.p.held.take 20).length ≤ x.c := by
      have := hx.cap
      rw [List.length_take]
      omega
    clear r28
    repeat (first|apply cA|apply cB|apply cD|apply cE|apply cF|apply cG|apply cH|apply cM|apply cN|apply cX|refine cY rfl rfl rfl rfl (by first|((first|apply qei|apply qmn|apply qto|apply qmv|apply qas|apply qlc|apply qla|apply qfa|apply qei|apply qln|apply qto)<;>(first|exact rfl|assumption|exact Ar.mk (by omega)|exact List.not_mem_nil|apply dc_length|apply pc_length|exact dcu|fail))|fail) ?_)
    rw [take_min20]
    repeat (first|apply cA|apply cB|apply cD|apply cE|apply cF|apply cG|apply cH|apply cM|apply cN|apply cX|refine cY rfl rfl rfl rfl (by first|((first|apply qei|apply qmn|apply qto|apply qmv|apply qas|apply qlc|apply qla|apply qfa|apply qei|apply qln|apply qto)<;>(first|exact rfl|assumption|exact Ar.mk (by omega)|exact List.not_mem_nil|apply dc_length|apply pc_length|exact dcu|fail))|fail) ?_)
    refine SG.store rfl rfl (by exact rho_of rfl) (by exact rho_of rfl) hB6 rfl (by show 0 + 11 + 1 ≤ _; simp [pc_length]) rfl (fun w4 hk4 hB64 => ?_)
    have hB64 : Blk w4 b6 (.cells (spl (pc x.p (.slice x.a x.p.held.length x.c)) 11 [.slice x.a (x.p.held.take 20).length x.c]).toArray 63) := hB64
    rw [pc_held] at hB64
    have k14 : Kp [] w1 w4 := k13.trans_new hk4 (new1 (by omega))
    have hR6 : Row w4 b6 0 (pc x.cut (.slice x.a x.cut.held.length x.c)) := Row.all hB64 rfl
    have r2 := r2.kp0 k14
    have r26 := r26.kp0 k14
    have hS := (hx.sl.take 20).kp0 (hk1.trans k14)
    clear s4
    repeat (first|apply cA|apply cB|apply cD|apply cE|apply cF|apply cG|apply cH|apply cM|apply cN|apply cX|refine cY rfl rfl rfl rfl (by first|((first|apply qei|apply qmn|apply qto|apply qmv|apply qas|apply qlc|apply qla|apply qfa|apply qei|apply qln|apply qto)<;>(first|exact rfl|assumption|exact Ar.mk (by omega)|exact List.not_mem_nil|apply dc_length|apply pc_length|exact dcu|fail))|fail) ?_)
    refine CG.free mixed 7 [0, 1, 2, 3, 5, 6, 4] [(4, gU w4.heap.size x.cut)] (by kernel_rfl) (by intro p hp y; simp at hp; subst hp; exact gU_stab y) ?_
    repeat (refine DerX.val rfl rfl rfl rfl (by first|((first|apply qei|apply qmn|apply qto|apply qmv|apply qas|apply qlc|apply qla|apply qfa|apply qei|apply qln|apply qto)<;>(first|exact rfl|assumption|exact Ar.mk (by omega)|exact List.not_mem_nil|apply dc_length|apply pc_length|exact dcu|fail))|fail) ?_)
    refine DerX.callE (vs := [pv x.cut (.slice x.a x.cut.held.length x.c)]) (gU w4.heap.size x.cut) rfl rfl rfl rfl (by repeat' (first | exact True.intro | exact rho_of rfl | refine And.intro ?_ ?_)) (fun W hk _ => (own_spec (c := x.c) x.cut (hS.kp0 hk) (by rw [x.cut_len]; omega)).mono (fun e w' hh => ?_)) (fun v' => ?_)
    · obtain ⟨s, he, ho, hk'⟩ := hh
      exact ⟨⟨pc x.cut s, pc_length _ _⟩, he, ⟨s, rfl, own_mono ho hk.size⟩, hk'⟩
    repeat (refine DerX.val rfl rfl rfl rfl (by first|((first|apply qei|apply qmn|apply qto|apply qmv|apply qas|apply qlc|apply qla|apply qfa|apply qei|apply qln|apply qto)<;>(first|exact rfl|assumption|exact Ar.mk (by omega)|exact List.not_mem_nil|apply dc_length|apply pc_length|exact dcu|fail))|fail) ?_)
    refine DerX.tl (fun w5 hk5 hF => ?_)
    obtain ⟨s, hs, ho⟩ : ∃ s, v'.1 = pc x.cut s ∧ w5.ownsRow w4.heap.size 56 11 s x.cut.held.length (flt hc x.cut.held) := hF _ (.head _)
    clear hF r2 r26 hR6
    have k5 := (hk1.trans k14).trans hk5
    repeat (first|apply cA|apply cB|apply cD|apply cE|apply cF|apply cG|apply cH|apply cM|apply cN|apply cX|refine cY rfl rfl rfl rfl (by first|((first|apply qei|apply qmn|apply qto|apply qmv|apply qas|apply qlc|apply qla|apply qfa|apply qei|apply qln|apply qto)<;>(first|exact rfl|assumption|exact Ar.mk (by omega)|exact List.not_mem_nil|apply dc_length|apply pc_length|exact dcu|fail))|fail) ?_)
    refine SG.call rfl rfl rfl (vs := [pv0, dv x.frm, .agg v'.1.toArray, .int .i64 x.amt]) (by repeat' (first | exact True.intro | exact rho_of rfl | refine And.intro ?_ ?_)) ?_
    rw [hs]
    refine (h3 e3 w5 s k5 (own_mono ho (hk1.trans k14).size)).mono (fun e w6 hh => ?_)
    obtain ⟨z, he, hR⟩ := hh
    refine ⟨_, he, ?_⟩
    repeat (first|apply cA|apply cB|apply cD|apply cE|apply cF|apply cG|apply cH|apply cM|apply cN|apply cX|refine cY rfl rfl rfl rfl (by first|((first|apply qei|apply qmn|apply qto|apply qmv|apply qas|apply qlc|apply qla|apply qfa|apply qei|apply qln|apply qto)<;>(first|exact rfl|assumption|exact Ar.mk (by omega)|exact List.not_mem_nil|apply dc_length|apply pc_length|exact dcu|fail))|fail) ?_)
    refine ret2 (Or.inl rfl) Try.results22 (by first | exact ResV.tmp rfl | exact ResV.agg rfl rfl (by assumption) (by first | exact dc_length _ | exact nc_length _ | exact rc_length _ _ _ | exact ec_length _ | exact dl_length _ _ _ _ | rfl) | exact ResV.cell rfl rfl (by assumption)) (by first | exact ResV.tmp rfl | exact ResV.agg rfl rfl (by assumption) (by first | exact dc_length _ | exact nc_length _ | exact rc_length _ _ _ | exact ec_length _ | exact dl_length _ _ _ _ | rfl) | exact ResV.cell rfl rfl (by assumption)) ?_
    exact ⟨_, _, rfl, hR⟩
  refine dD rfl (by exact rho_of rfl) (decide_eq_false e3) ?_
  repeat (first|apply cA|apply cB|apply cD|apply cE|apply cF|apply cG|apply cH|apply cM|apply cN|apply cX|refine cY rfl rfl rfl rfl (by first|((first|apply qei|apply qmn|apply qto|apply qmv|apply qas|apply qlc|apply qla|apply qfa|apply qei|apply qln|apply qto)<;>(first|exact rfl|assumption|exact Ar.mk (by omega)|exact List.not_mem_nil|apply dc_length|apply pc_length|exact dcu|fail))|fail) ?_)
  refine ret2 (Or.inl rfl) Try.results22 (by first | exact ResV.tmp rfl | exact ResV.agg rfl rfl (by assumption) (by first | exact dc_length _ | exact nc_length _ | exact rc_length _ _ _ | exact ec_length _ | exact dl_length _ _ _ _ | rfl) | exact ResV.cell rfl rfl (by assumption)) (by first | exact ResV.tmp rfl | exact ResV.agg rfl rfl (by assumption) (by first | exact dc_length _ | exact nc_length _ | exact rc_length _ _ _ | exact ec_length _ | exact dl_length _ _ _ _ | rfl) | exact ResV.cell rfl rfl (by assumption)) ?_
  exact ⟨_, _, rfl, h4 (fun h => by rcases h with h | h | h | h <;> contradiction) w1 hk1⟩
end Go.Proofs.Ytajllbdeoopimaa
namespace Go.Proofs.Ytajllbdeoopimaa
set_option linter.unusedVariables false
section
variable {P : Program} {S : List Nat} {w0 : World} {F : World → Prop} {L : Env} {d : Option Nat} {ty : TypeId} {pos : String} {af : Array Edge} {g : Option (Nat × Bool)} {T T' : TypeId} {x y : Operand} {a b : Int}
/-- The rest. -/
theorem qrm {k : IntKind} (hx : ro L x = some (.int k a)) (hy : ro L y = some (.int k b)) (h : Ar (0 ≤ a ∧ 0 < b)) : Vals P S w0 F L ⟨d, .binOp .rem T x y T', ty, pos, af, g⟩ (.int k (a % b)) := fun w _ _ => by
  have hb : b ≠ 0 := by have := h.h; omega
  simp [execOp, rho_of hx, rho_of hy, eqGuard, binOp, Op.intDiv, hb]
  exact Int.tmod_eq_emod_of_nonneg h.h.1
end
/-- Where a hub lies. -/
structure Hb where
  h : Nat
  s : Nat
  p : Nat
def hbc (B : Hb) : List Value := [.pointer (some ⟨B.h, 0, none⟩)]
structure Hb.Apart (B C : Hb) : Prop where
  a : B.s ≠ C.s
  b : B.s ≠ C.p
  c : B.p ≠ C.s
  d : B.p ≠ C.p
def dk (i : Nat) : Dg := dg1 (UInt8.ofNat i)
/-- What goes along. -/
structure Rt where
  n : Nat
  whole : Int
  part : Int
  start : Int
structure Rt.Ok (W : Rt) : Prop where
  n0 : 1 ≤ W.n
  n1 : W.n ≤ 6
  a0 : 0 < W.whole
  a1 : W.whole ≤ 1000
  p0 : 0 ≤ W.part
  p1 : W.part ≤ W.whole
  s0 : 0 ≤ W.start
  s1 : W.start ≤ 65535
def nm77 : Dg := dg1 77
def Rt.til (W : Rt) (i : Nat) : Int := W.start + 5 * ((W.n : Int) - (i : Int)) + 3
def nearX (i : Nat) : Sh := ⟨twoP (dk i) 1000, none, 0, 1⟩
def farY (i : Nat) : Sh := ⟨twoP (dk (i + 1)) 1000, none, 0, 0⟩
def Rt.fX (W : Rt) (i : Nat) : Pu := fwdX (nearX i) nm77 W.whole (W.til i)
def Rt.fY (W : Rt) (i : Nat) : Pu := fwdY 5 (farY i) nm77 W.whole (W.til i)
def Rt.eX (W : Rt) (i : Nat) : Pu := nextP (freeQ (W.fX i) nm77 W.part)
def Rt.eY (W : Rt) (i : Nat) : Pu := nextP (freeQ (W.fY i) nm77 W.part)
def Rt.pX (W : Rt) (k i : Nat) : Pu := if k = 0 then twoP (dk i) 1000 else if k = 1 then W.fX i else W.eX i
def Rt.pY (W : Rt) (k i : Nat) : Pu := if k = 0 then twoP (dk (i + 1)) 1000 else if k = 1 then W.fY i else W.eY i
def Rt.mp (W : Rt) (k i : Nat) : Mp := if k = 1 then [(nm77, fwdR 5 (dk i) (dk (i + 2)) nm77 W.whole (W.til i))] else []
def Rt.ms (W : Rt) (k i : Nat) (q r : Option Addr × Nat) : Ms := [(dk i, ⟨W.pX k i, q.1, q.2, 1⟩), (dk (i + 2), ⟨W.pY k i, r.1, r.2, 0⟩)]
/-- A hub of the way: opened, forwarded, settled. -/
def Rt.St (W : Rt) (k i : Nat) (B : Hb) (w : World) : Prop := ∃ q r, HubAt w B.h B.s B.p 5 (W.ms k i q r) (W.mp k i)
end Go.Proofs.Ytajllbdeoopimaa
namespace Go.Proofs.Ytajllbdeoopimaa
set_option linter.unusedVariables false
attribute [local irreducible] CG NG SG Vals Der Row Blk MapIs IterAt DerX
set_option maxHeartbeats 8000000 in
theorem fwd_nil (a e f : Int) (k m n : Dg) (w : World) : Ret Try.prog 14 #[np, .int .i64 a, dv k, dv m, dv n, .int .i64 e, .int .i64 f] w (.int .i64 1) := by
  refine enterL (args := [np, .int .i64 a, dv k, dv m, dv n, .int .i64 e, .int .i64 f]) Try.func14 rfl Try.ntmps14 rfl ?_
  repeat (first|apply cA|apply cB|apply cD|apply cE|apply cH|apply cK|apply cM|apply cQ|refine cY rfl rfl rfl rfl (by first|((first|apply qrm|apply qep|apply qmv|apply qas|apply qlc|apply qla|apply qfa|apply qpk|apply qei|apply qln|apply qxt|apply qnt|apply qep|apply qcv)<;>(first|exact rfl|assumption|exact Ar.mk (by omega)|exact dct (by first|assumption|omega)|exact dcf (by first|assumption|omega)|exact List.not_mem_nil|apply dc_length|apply hc_length|apply pc_length|apply hac_length|fail))|fail) ?_)
  refine SG.box rfl rfl rfl (by exact rho_of rfl) (fun b0 w0 hk0 hb0 hB0 => ?_)
  refine SG.box rfl rfl rfl (by exact rho_of rfl) (fun b1 w1 hk1 hb1 hB1 => ?_)
  refine SG.box rfl rfl rfl (by exact rho_of rfl) (fun b2 w2 hk2 hb2 hB2 => ?_)
  repeat (first|apply cA|apply cB|apply cD|apply cE|apply cH|apply cK|apply cM|apply cQ|refine cY rfl rfl rfl rfl (by first|((first|apply qrm|apply qep|apply qmv|apply qas|apply qlc|apply qla|apply qfa|apply qpk|apply qei|apply qln|apply qxt|apply qnt|apply qep|apply qcv)<;>(first|exact rfl|assumption|exact Ar.mk (by omega)|exact dct (by first|assumption|omega)|exact dcf (by first|assumption|omega)|exact List.not_mem_nil|apply dc_length|apply hc_length|apply pc_length|apply hac_length|fail))|fail) ?_)
  refine dB rfl (by exact rho_of rfl) rfl ?_
  repeat (first|apply cA|apply cB|apply cD|apply cE|apply cH|apply cK|apply cM|apply cQ|refine cY rfl rfl rfl rfl (by first|((first|apply qrm|apply qep|apply qmv|apply qas|apply qlc|apply qla|apply qfa|apply qpk|apply qei|apply qln|apply qxt|apply qnt|apply qep|apply qcv)<;>(first|exact rfl|assumption|exact Ar.mk (by omega)|exact dct (by first|assumption|omega)|exact dcf (by first|assumption|omega)|exact List.not_mem_nil|apply dc_length|apply hc_length|apply pc_length|apply hac_length|fail))|fail) ?_)
  refine ret1 (Or.inl rfl) Try.results14 (by first | exact ResV.tmp rfl | exact ResV.agg rfl rfl (by assumption) (by first | exact dc_length _ | exact nc_length _ | exact rc_length _ _ _ | exact ec_length _ | exact dl_length _ _ _ _ | rfl) | exact ResV.cell rfl rfl (by assumption)) ?_
  exact ⟨rfl, ((hk0.trans hk1).trans hk2)⟩
set_option maxHeartbeats 8000000 in
theorem set_nil (a e : Int) (n : Dg) (w : World) : Ret Try.prog 15 #[np, .int .i64 a, dv n, .int .i64 e] w (.int .i64 1) := by
  refine enter4 Try.func15 rfl Try.ntmps15 rfl ?_
  repeat (first|apply cA|apply cB|apply cD|apply cE|apply cH|apply cK|apply cM|apply cQ|refine cY rfl rfl rfl rfl (by first|((first|apply qrm|apply qep|apply qmv|apply qas|apply qlc|apply qla|apply qfa|apply qpk|apply qei|apply qln|apply qxt|apply qnt|apply qep|apply qcv)<;>(first|exact rfl|assumption|exact Ar.mk (by omega)|exact dct (by first|assumption|omega)|exact dcf (by first|assumption|omega)|exact List.not_mem_nil|apply dc_length|apply hc_length|apply pc_length|apply hac_length|fail))|fail) ?_)
  refine SG.box rfl rfl rfl (by exact rho_of rfl) (fun b0 w0 hk0 hb0 hB0 => ?_)
  repeat (first|apply cA|apply cB|apply cD|apply cE|apply cH|apply cK|apply cM|apply cQ|refine cY rfl rfl rfl rfl (by first|((first|apply qrm|apply qep|apply qmv|apply qas|apply qlc|apply qla|apply qfa|apply qpk|apply qei|apply qln|apply qxt|apply qnt|apply qep|apply qcv)<;>(first|exact rfl|assumption|exact Ar.mk (by omega)|exact dct (by first|assumption|omega)|exact dcf (by first|assumption|omega)|exact List.not_mem_nil|apply dc_length|apply hc_length|apply pc_length|apply hac_length|fail))|fail) ?_)
  refine dB rfl (by exact rho_of rfl) rfl ?_
  repeat (first|apply cA|apply cB|apply cD|apply cE|apply cH|apply cK|apply cM|apply cQ|refine cY rfl rfl rfl rfl (by first|((first|apply qrm|apply qep|apply qmv|apply qas|apply qlc|apply qla|apply qfa|apply qpk|apply qei|apply qln|apply qxt|apply qnt|apply qep|apply qcv)<;>(first|exact rfl|assumption|exact Ar.mk (by omega)|exact dct (by first|assumption|omega)|exact dcf (by first|assumption|omega)|exact List.not_mem_nil|apply dc_length|apply hc_length|apply pc_length|apply hac_length|fail))|fail) ?_)
  refine ret1 (Or.inl rfl) Try.results15 (by first | exact ResV.tmp rfl | exact ResV.agg rfl rfl (by assumption) (by first | exact dc_length _ | exact nc_length _ | exact rc_length _ _ _ | exact ec_length _ | exact dl_length _ _ _ _ | rfl) | exact ResV.cell rfl rfl (by assumption)) ?_
  exact ⟨rfl, hk0⟩
set_option maxHeartbeats 8000000 in
theorem exp_nil (a : Int) (w : World) : Ret Try.prog 27 #[np, .int .i64 a] w (.slice none 0 0) := by
  refine enter2 Try.func27 rfl Try.ntmps27 rfl ?_
  repeat (first|apply cA|apply cB|apply cD|apply cE|apply cH|apply cK|apply cM|apply cQ|refine cY rfl rfl rfl rfl (by first|((first|apply qrm|apply qep|apply qmv|apply qas|apply qlc|apply qla|apply qfa|apply qpk|apply qei|apply qln|apply qxt|apply qnt|apply qep|apply qcv)<;>(first|exact rfl|assumption|exact Ar.mk (by omega)|exact dct (by first|assumption|omega)|exact dcf (by first|assumption|omega)|exact List.not_mem_nil|apply dc_length|apply hc_length|apply pc_length|apply hac_length|fail))|fail) ?_)
  repeat (first|apply cA|apply cB|apply cD|apply cE|apply cH|apply cK|apply cM|apply cQ|refine cY rfl rfl rfl rfl (by first|((first|apply qrm|apply qep|apply qmv|apply qas|apply qlc|apply qla|apply qfa|apply qpk|apply qei|apply qln|apply qxt|apply qnt|apply qep|apply qcv)<;>(first|exact rfl|assumption|exact Ar.mk (by omega)|exact dct (by first|assumption|omega)|exact dcf (by first|assumption|omega)|exact List.not_mem_nil|apply dc_length|apply hc_length|apply pc_length|apply hac_length|fail))|fail) ?_)
  refine dB rfl (by exact rho_of rfl) rfl ?_
  repeat (first|apply cA|apply cB|apply cD|apply cE|apply cH|apply cK|apply cM|apply cQ|refine cY rfl rfl rfl rfl (by first|((first|apply qrm|apply qep|apply qmv|apply qas|apply qlc|apply qla|apply qfa|apply qpk|apply qei|apply qln|apply qxt|apply qnt|apply qep|apply qcv)<;>(first|exact rfl|assumption|exact Ar.mk (by omega)|exact dct (by first|assumption|omega)|exact dcf (by first|assumption|omega)|exact List.not_mem_nil|apply dc_length|apply hc_length|apply pc_length|apply hac_length|fail))|fail) ?_)
  refine ret1 (Or.inl rfl) Try.results27 (by first | exact ResV.tmp rfl | exact ResV.agg rfl rfl (by assumption) (by first | exact dc_length _ | exact nc_length _ | exact rc_length _ _ _ | exact ec_length _ | exact dl_length _ _ _ _ | rfl) | exact ResV.cell rfl rfl (by assumption)) ?_
  exact ⟨rfl, Kp.refl _ _⟩
set_option maxHeartbeats 8000000 in
theorem opn_nil (k : Dg) (p : Pu) (s : Value) (e : Int) (w : World) : Ret Try.prog 12 #[np, dv k, pv p s, .int .i64 e] w (.int .i64 1) := by
  refine enter4 Try.func12 rfl Try.ntmps12 rfl ?_
  repeat (first|apply cA|apply cB|apply cD|apply cE|apply cH|apply cK|apply cM|apply cQ|refine cY rfl rfl rfl rfl (by first|((first|apply qrm|apply qep|apply qmv|apply qas|apply qlc|apply qla|apply qfa|apply qpk|apply qei|apply qln|apply qxt|apply qnt|apply qep|apply qcv)<;>(first|exact rfl|assumption|exact Ar.mk (by omega)|exact dct (by first|assumption|omega)|exact dcf (by first|assumption|omega)|exact List.not_mem_nil|apply dc_length|apply hc_length|apply pc_length|apply hac_length|fail))|fail) ?_)
  refine SG.box rfl rfl rfl (by exact rho_of rfl) (fun b0 w0 hk0 hb0 hB0 => ?_)
  refine SG.box rfl rfl rfl (by exact rho_of rfl) (fun b1 w1 hk1 hb1 hB1 => ?_)
  repeat (first|apply cA|apply cB|apply cD|apply cE|apply cH|apply cK|apply cM|apply cQ|refine cY rfl rfl rfl rfl (by first|((first|apply qrm|apply qep|apply qmv|apply qas|apply qlc|apply qla|apply qfa|apply qpk|apply qei|apply qln|apply qxt|apply qnt|apply qep|apply qcv)<;>(first|exact rfl|assumption|exact Ar.mk (by omega)|exact dct (by first|assumption|omega)|exact dcf (by first|assumption|omega)|exact List.not_mem_nil|apply dc_length|apply hc_length|apply pc_length|apply hac_length|fail))|fail) ?_)
  refine dB rfl (by exact rho_of rfl) rfl ?_
  repeat (first|apply cA|apply cB|apply cD|apply cE|apply cH|apply cK|apply cM|apply cQ|refine cY rfl rfl rfl rfl (by first|((first|apply qrm|apply qep|apply qmv|apply qas|apply qlc|apply qla|apply qfa|apply qpk|apply qei|apply qln|apply qxt|apply qnt|apply qep|apply qcv)<;>(first|exact rfl|assumption|exact Ar.mk (by omega)|exact dct (by first|assumption|omega)|exact dcf (by first|assumption|omega)|exact List.not_mem_nil|apply dc_length|apply hc_length|apply pc_length|apply hac_length|fail))|fail) ?_)
  refine ret1 (Or.inl rfl) Try.results12 (by first | exact ResV.tmp rfl | exact ResV.agg rfl rfl (by assumption) (by first | exact dc_length _ | exact nc_length _ | exact rc_length _ _ _ | exact ec_length _ | exact dl_length _ _ _ _ | rfl) | exact ResV.cell rfl rfl (by assumption)) ?_
  exact ⟨rfl, (hk0.trans hk1)⟩
set_option maxHeartbeats 8000000 in
theorem prs_nil (w : World) : Ret Try.prog 18 #[np] w (.slice none 0 0) := by
  refine enter1 Try.func18 rfl Try.ntmps18 rfl ?_
  repeat (first|apply cA|apply cB|apply cD|apply cE|apply cH|apply cK|apply cM|apply cQ|refine cY rfl rfl rfl rfl (by first|((first|apply qrm|apply qep|apply qmv|apply qas|apply qlc|apply qla|apply qfa|apply qpk|apply qei|apply qln|apply qxt|apply qnt|apply qep|apply qcv)<;>(first|exact rfl|assumption|exact Ar.mk (by omega)|exact dct (by first|assumption|omega)|exact dcf (by first|assumption|omega)|exact List.not_mem_nil|apply dc_length|apply hc_length|apply pc_length|apply hac_length|fail))|fail) ?_)
  repeat (first|apply cA|apply cB|apply cD|apply cE|apply cH|apply cK|apply cM|apply cQ|refine cY rfl rfl rfl rfl (by first|((first|apply qrm|apply qep|apply qmv|apply qas|apply qlc|apply qla|apply qfa|apply qpk|apply qei|apply qln|apply qxt|apply qnt|apply qep|apply qcv)<;>(first|exact rfl|assumption|exact Ar.mk (by omega)|exact dct (by first|assumption|omega)|exact dcf (by first|assumption|omega)|exact List.not_mem_nil|apply dc_length|apply hc_length|apply pc_length|apply hac_length|fail))|fail) ?_)
  refine dB rfl (by exact rho_of rfl) rfl ?_
  repeat (first|apply cA|apply cB|apply cD|apply cE|apply cH|apply cK|apply cM|apply cQ|refine cY rfl rfl rfl rfl (by first|((first|apply qrm|apply qep|apply qmv|apply qas|apply qlc|apply qla|apply qfa|apply qpk|apply qei|apply qln|apply qxt|apply qnt|apply qep|apply qcv)<;>(first|exact rfl|assumption|exact Ar.mk (by omega)|exact dct (by first|assumption|omega)|exact dcf (by first|assumption|omega)|exact List.not_mem_nil|apply dc_length|apply hc_length|apply pc_length|apply hac_length|fail))|fail) ?_)
  refine ret1 (Or.inl rfl) Try.results18 (by first | exact ResV.tmp rfl | exact ResV.agg rfl rfl (by assumption) (by first | exact dc_length _ | exact nc_length _ | exact rc_length _ _ _ | exact ec_length _ | exact dl_length _ _ _ _ | rfl) | exact ResV.cell rfl rfl (by assumption)) ?_
  exact ⟨rfl, Kp.refl _ _⟩
set_option maxHeartbeats 8000000 in
theorem prr_nil (w : World) : Ret Try.prog 25 #[np] w (.slice none 0 0) := by
  refine enter1 Try.func25 rfl Try.ntmps25 rfl ?_
  repeat (first|apply cA|apply cB|apply cD|apply cE|apply cH|apply cK|apply cM|apply cQ|refine cY rfl rfl rfl rfl (by first|((first|apply qrm|apply qep|apply qmv|apply qas|apply qlc|apply qla|apply qfa|apply qpk|apply qei|apply qln|apply qxt|apply qnt|apply qep|apply qcv)<;>(first|exact rfl|assumption|exact Ar.mk (by omega)|exact dct (by first|assumption|omega)|exact dcf (by first|assumption|omega)|exact List.not_mem_nil|apply dc_length|apply hc_length|apply pc_length|apply hac_length|fail))|fail) ?_)
  repeat (first|apply cA|apply cB|apply cD|apply cE|apply cH|apply cK|apply cM|apply cQ|refine cY rfl rfl rfl rfl (by first|((first|apply qrm|apply qep|apply qmv|apply qas|apply qlc|apply qla|apply qfa|apply qpk|apply qei|apply qln|apply qxt|apply qnt|apply qep|apply qcv)<;>(first|exact rfl|assumption|exact Ar.mk (by omega)|exact dct (by first|assumption|omega)|exact dcf (by first|assumption|omega)|exact List.not_mem_nil|apply dc_length|apply hc_length|apply pc_length|apply hac_length|fail))|fail) ?_)
  refine dB rfl (by exact rho_of rfl) rfl ?_
  repeat (first|apply cA|apply cB|apply cD|apply cE|apply cH|apply cK|apply cM|apply cQ|refine cY rfl rfl rfl rfl (by first|((first|apply qrm|apply qep|apply qmv|apply qas|apply qlc|apply qla|apply qfa|apply qpk|apply qei|apply qln|apply qxt|apply qnt|apply qep|apply qcv)<;>(first|exact rfl|assumption|exact Ar.mk (by omega)|exact dct (by first|assumption|omega)|exact dcf (by first|assumption|omega)|exact List.not_mem_nil|apply dc_length|apply hc_length|apply pc_length|apply hac_length|fail))|fail) ?_)
  refine ret1 (Or.inl rfl) Try.results25 (by first | exact ResV.tmp rfl | exact ResV.agg rfl rfl (by assumption) (by first | exact dc_length _ | exact nc_length _ | exact rc_length _ _ _ | exact ec_length _ | exact dl_length _ _ _ _ | rfl) | exact ResV.cell rfl rfl (by assumption)) ?_
  exact ⟨rfl, Kp.refl _ _⟩
set_option maxHeartbeats 8000000 in
theorem cln_nil (w : World) : Ret Try.prog 28 #[np] w np := by
  refine enter1 Try.func28 rfl Try.ntmps28 rfl ?_
  repeat (first|apply cA|apply cB|apply cD|apply cE|apply cH|apply cK|apply cM|apply cQ|refine cY rfl rfl rfl rfl (by first|((first|apply qrm|apply qep|apply qmv|apply qas|apply qlc|apply qla|apply qfa|apply qpk|apply qei|apply qln|apply qxt|apply qnt|apply qep|apply qcv)<;>(first|exact rfl|assumption|exact Ar.mk (by omega)|exact dct (by first|assumption|omega)|exact dcf (by first|assumption|omega)|exact List.not_mem_nil|apply dc_length|apply hc_length|apply pc_length|apply hac_length|fail))|fail) ?_)
  repeat (first|apply cA|apply cB|apply cD|apply cE|apply cH|apply cK|apply cM|apply cQ|refine cY rfl rfl rfl rfl (by first|((first|apply qrm|apply qep|apply qmv|apply qas|apply qlc|apply qla|apply qfa|apply qpk|apply qei|apply qln|apply qxt|apply qnt|apply qep|apply qcv)<;>(first|exact rfl|assumption|exact Ar.mk (by omega)|exact dct (by first|assumption|omega)|exact dcf (by first|assumption|omega)|exact List.not_mem_nil|apply dc_length|apply hc_length|apply pc_length|apply hac_length|fail))|fail) ?_)
  refine dB rfl (by exact rho_of rfl) rfl ?_
  repeat (first|apply cA|apply cB|apply cD|apply cE|apply cH|apply cK|apply cM|apply cQ|refine cY rfl rfl rfl rfl (by first|((first|apply qrm|apply qep|apply qmv|apply qas|apply qlc|apply qla|apply qfa|apply qpk|apply qei|apply qln|apply qxt|apply qnt|apply qep|apply qcv)<;>(first|exact rfl|assumption|exact Ar.mk (by omega)|exact dct (by first|assumption|omega)|exact dcf (by first|assumption|omega)|exact List.not_mem_nil|apply dc_length|apply hc_length|apply pc_length|apply hac_length|fail))|fail) ?_)
  refine ret1 (Or.inl rfl) Try.results28 (by first | exact ResV.tmp rfl | exact ResV.agg rfl rfl (by assumption) (by first | exact dc_length _ | exact nc_length _ | exact rc_length _ _ _ | exact ec_length _ | exact dl_length _ _ _ _ | rfl) | exact ResV.cell rfl rfl (by assumption)) ?_
  exact ⟨rfl, Kp.refl _ _⟩
set_option maxHeartbeats 8000000 in
theorem wth_nil (w : World) : Ret Try.prog 17 #[np] w (.tuple #[.int .i64 0, .int .i64 0]) := by
  refine enter1 Try.func17 rfl Try.ntmps17 rfl ?_
  repeat (first|apply cA|apply cB|apply cD|apply cE|apply cH|apply cK|apply cM|apply cQ|refine cY rfl rfl rfl rfl (by first|((first|apply qrm|apply qep|apply qmv|apply qas|apply qlc|apply qla|apply qfa|apply qpk|apply qei|apply qln|apply qxt|apply qnt|apply qep|apply qcv)<;>(first|exact rfl|assumption|exact Ar.mk (by omega)|exact dct (by first|assumption|omega)|exact dcf (by first|assumption|omega)|exact List.not_mem_nil|apply dc_length|apply hc_length|apply pc_length|apply hac_length|fail))|fail) ?_)
  refine dB rfl (by exact rho_of rfl) rfl ?_
  repeat (first|apply cA|apply cB|apply cD|apply cE|apply cH|apply cK|apply cM|apply cQ|refine cY rfl rfl rfl rfl (by first|((first|apply qrm|apply qep|apply qmv|apply qas|apply qlc|apply qla|apply qfa|apply qpk|apply qei|apply qln|apply qxt|apply qnt|apply qep|apply qcv)<;>(first|exact rfl|assumption|exact Ar.mk (by omega)|exact dct (by first|assumption|omega)|exact dcf (by first|assumption|omega)|exact List.not_mem_nil|apply dc_length|apply hc_length|apply pc_length|apply hac_length|fail))|fail) ?_)
  refine ret2 (Or.inl rfl) Try.results17 (by first | exact ResV.tmp rfl | exact ResV.agg rfl rfl (by assumption) (by first | exact dc_length _ | exact nc_length _ | exact rc_length _ _ _ | exact ec_length _ | exact dl_length _ _ _ _ | rfl) | exact ResV.cell rfl rfl (by assumption)) (by first | exact ResV.tmp rfl | exact ResV.agg rfl rfl (by assumption) (by first | exact dc_length _ | exact nc_length _ | exact rc_length _ _ _ | exact ec_length _ | exact dl_length _ _ _ _ | rfl) | exact ResV.cell rfl rfl (by assumption)) ?_
  exact ⟨rfl, Kp.refl _ _⟩
set_option maxHeartbeats 8000000 in
theorem pur_nil (k : Dg) (w : World) : Ret Try.prog 16 #[np, dv k] w (.tuple #[pv zPu (.slice none 0 0), .bool false]) := by
  refine enter2 Try.func16 rfl Try.ntmps16 rfl ?_
  repeat (first|apply cA|apply cB|apply cD|apply cE|apply cH|apply cK|apply cM|apply cQ|refine cY rfl rfl rfl rfl (by first|((first|apply qrm|apply qep|apply qmv|apply qas|apply qlc|apply qla|apply qfa|apply qpk|apply qei|apply qln|apply qxt|apply qnt|apply qep|apply qcv)<;>(first|exact rfl|assumption|exact Ar.mk (by omega)|exact dct (by first|assumption|omega)|exact dcf (by first|assumption|omega)|exact List.not_mem_nil|apply dc_length|apply hc_length|apply pc_length|apply hac_length|fail))|fail) ?_)
  refine SG.box rfl rfl rfl (by exact rho_of rfl) (fun b3 w1 hk1 hb3 hB3 => ?_)
  refine SG.alloc rfl rfl rfl (fun b4 w2 hk2 hb4 hB4 => ?_)
  have s1 := hk1.size
  repeat (first|apply cA|apply cB|apply cD|apply cE|apply cH|apply cK|apply cM|apply cQ|refine cY rfl rfl rfl rfl (by first|((first|apply qrm|apply qep|apply qmv|apply qas|apply qlc|apply qla|apply qfa|apply qpk|apply qei|apply qln|apply qxt|apply qnt|apply qep|apply qcv)<;>(first|exact rfl|assumption|exact Ar.mk (by omega)|exact dct (by first|assumption|omega)|exact dcf (by first|assumption|omega)|exact List.not_mem_nil|apply dc_length|apply hc_length|apply pc_length|apply hac_length|fail))|fail) ?_)
  refine dB rfl (by exact rho_of rfl) rfl ?_
  repeat (first|apply cA|apply cB|apply cD|apply cE|apply cH|apply cK|apply cM|apply cQ|refine cY rfl rfl rfl rfl (by first|((first|apply qrm|apply qep|apply qmv|apply qas|apply qlc|apply qla|apply qfa|apply qpk|apply qei|apply qln|apply qxt|apply qnt|apply qep|apply qcv)<;>(first|exact rfl|assumption|exact Ar.mk (by omega)|exact dct (by first|assumption|omega)|exact dcf (by first|assumption|omega)|exact List.not_mem_nil|apply dc_length|apply hc_length|apply pc_length|apply hac_length|fail))|fail) ?_)
  refine cY rfl rfl rfl rfl (vals_build rfl bzp) ?_
  refine SG.setAll (l := pc zPu (.slice none 0 0)) rfl rfl (by exact rho_of rfl) (by exact rho_of rfl) hB4 (pc_length _ _) rfl (pc_one _ _ _ _) (fun w3 hk3 hB5 => ?_)
  have hr : Row w3 b4 0 (pc zPu (.slice none 0 0)) := Row.all hB5 rfl
  repeat (first|apply cA|apply cB|apply cD|apply cE|apply cH|apply cK|apply cM|apply cQ|refine cY rfl rfl rfl rfl (by first|((first|apply qrm|apply qep|apply qmv|apply qas|apply qlc|apply qla|apply qfa|apply qpk|apply qei|apply qln|apply qxt|apply qnt|apply qep|apply qcv)<;>(first|exact rfl|assumption|exact Ar.mk (by omega)|exact dct (by first|assumption|omega)|exact dcf (by first|assumption|omega)|exact List.not_mem_nil|apply dc_length|apply hc_length|apply pc_length|apply hac_length|fail))|fail) ?_)
  refine ret2 (Or.inl rfl) Try.results16 (ResV.agg rfl rfl hr (pc_length _ _)) (by first | exact ResV.tmp rfl | exact ResV.agg rfl rfl (by assumption) (by first | exact dc_length _ | exact nc_length _ | exact rc_length _ _ _ | exact ec_length _ | exact dl_length _ _ _ _ | rfl) | exact ResV.cell rfl rfl (by assumption)) ?_
  exact ⟨rfl, (hk1.trans hk2).trans_new hk3 (new1 (by omega))⟩
set_option maxHeartbeats 8000000 in
/-- Same, where one isn't there. -/
theorem sam_nil (a b : Option Addr) (h : a = none ∨ b = none) (w : World) : Ret Try.prog 29 #[.pointer a, .pointer b] w (.bool (a.isNone && b.isNone)) := by
  refine enter2 Try.func29 rfl Try.ntmps29 rfl ?_
  cases a with
  | none =>
    repeat (first | first|apply cA|apply cB|apply cD|apply cE|apply cH|apply cK|apply cM|apply cQ|refine cY rfl rfl rfl rfl (by first|((first|apply qrm|apply qep|apply qmv|apply qas|apply qlc|apply qla|apply qfa|apply qpk|apply qei|apply qln|apply qxt|apply qnt|apply qep|apply qcv)<;>(first|exact rfl|assumption|exact Ar.mk (by omega)|exact dct (by first|assumption|omega)|exact dcf (by first|assumption|omega)|exact List.not_mem_nil|apply dc_length|apply hc_length|apply pc_length|apply hac_length|fail))|fail) ?_ | refine cZ rfl rfl ?_)
    refine dB rfl (by exact rho_of rfl) rfl ?_
    repeat (first | first|apply cA|apply cB|apply cD|apply cE|apply cH|apply cK|apply cM|apply cQ|refine cY rfl rfl rfl rfl (by first|((first|apply qrm|apply qep|apply qmv|apply qas|apply qlc|apply qla|apply qfa|apply qpk|apply qei|apply qln|apply qxt|apply qnt|apply qep|apply qcv)<;>(first|exact rfl|assumption|exact Ar.mk (by omega)|exact dct (by first|assumption|omega)|exact dcf (by first|assumption|omega)|exact List.not_mem_nil|apply dc_length|apply hc_length|apply pc_length|apply hac_length|fail))|fail) ?_ | refine cZ rfl rfl ?_)
    refine ret1 (Or.inl rfl) Try.results29 (by first | exact ResV.tmp rfl | exact ResV.agg rfl rfl (by assumption) (by first | exact dc_length _ | exact nc_length _ | exact rc_length _ _ _ | exact ec_length _ | exact dl_length _ _ _ _ | rfl) | exact ResV.cell rfl rfl (by assumption)) ?_
    exact ⟨rfl, Kp.refl _ _⟩
  | some a =>
    have hb : b = none := h.resolve_left (by simp)
    subst hb
    repeat (first | first|apply cA|apply cB|apply cD|apply cE|apply cH|apply cK|apply cM|apply cQ|refine cY rfl rfl rfl rfl (by first|((first|apply qrm|apply qep|apply qmv|apply qas|apply qlc|apply qla|apply qfa|apply qpk|apply qei|apply qln|apply qxt|apply qnt|apply qep|apply qcv)<;>(first|exact rfl|assumption|exact Ar.mk (by omega)|exact dct (by first|assumption|omega)|exact dcf (by first|assumption|omega)|exact List.not_mem_nil|apply dc_length|apply hc_length|apply pc_length|apply hac_length|fail))|fail) ?_ | refine cZ rfl rfl ?_)
    refine dB rfl (by exact rho_of rfl) rfl ?_
    repeat (first | first|apply cA|apply cB|apply cD|apply cE|apply cH|apply cK|apply cM|apply cQ|refine cY rfl rfl rfl rfl (by first|((first|apply qrm|apply qep|apply qmv|apply qas|apply qlc|apply qla|apply qfa|apply qpk|apply qei|apply qln|apply qxt|apply qnt|apply qep|apply qcv)<;>(first|exact rfl|assumption|exact Ar.mk (by omega)|exact dct (by first|assumption|omega)|exact dcf (by first|assumption|omega)|exact List.not_mem_nil|apply dc_length|apply hc_length|apply pc_length|apply hac_length|fail))|fail) ?_ | refine cZ rfl rfl ?_)
    refine ret1 (Or.inl rfl) Try.results29 (by first | exact ResV.tmp rfl | exact ResV.agg rfl rfl (by assumption) (by first | exact dc_length _ | exact nc_length _ | exact rc_length _ _ _ | exact ec_length _ | exact dl_length _ _ _ _ | rfl) | exact ResV.cell rfl rfl (by assumption)) ?_
    exact ⟨rfl, Kp.refl _ _⟩
theorem do_nil {w : World} (x : HA) (hx : x.In w) (hk : x.kind = 0 ∨ x.kind = 1 ∨ x.kind = 2 ∨ x.kind = 3) : Ret Try.prog 22 #[np, hav x] w (.tuple #[.int .i64 (if x.kind = 2 then 0 else 1), .slice none 0 0]) :=
  (do_gen x hx np (fun z v w' => z = (if x.kind = 2 then 0 else 1) ∧ v = .slice none 0 0 ∧ Kp [] w w')
    (fun e W hk => (fwd_nil _ _ _ _ _ _ W).mono (fun e' w' ⟨h1, h2⟩ => ⟨1, h1, by rw [e]; rfl, rfl, hk.trans h2⟩))
    (fun e W hk => (set_nil _ _ _ W).mono (fun e' w' ⟨h1, h2⟩ => ⟨1, h1, by rw [e]; rfl, rfl, hk.trans h2⟩))
    (fun e W hk => (exp_nil _ W).mono (fun e' w' ⟨h1, h2⟩ => ⟨_, h1, by rw [e]; rfl, rfl, hk.trans h2⟩))
    (fun e W s hk _ => (opn_nil _ _ _ _ W).mono (fun e' w' ⟨h1, h2⟩ => ⟨1, h1, by rw [e]; rfl, rfl, hk.trans h2⟩))
    (fun h => absurd hk h)).mono (fun e w' ⟨z, v, h1, h2, h3, h4⟩ => ⟨by rw [h1, h2, h3], h4⟩)
theorem bzr (w : World) : (Instr.build 63 #[]).run Try.prog w = .ok (pv zPu (.slice none 0 0)) w := by kernel_rfl
def HA.kinded (x : HA) (k : Nat) : HA := { x with kind := (k : Int) }
theorem hac_kind (x : HA) (k : Nat) : spl (hac x) 0 [.int .i64 (k : Int)] = hac (x.kinded k) := rfl
set_option maxHeartbeats 32000000 in
theorem nil_walk (w : World) (x : HA) (hx : x.In w) : Ret Try.prog 10 #[hav x] w (.bool true) := by
  refine enter1 Try.func10 rfl Try.ntmps10 rfl ?_
  repeat (first|apply cA|apply cB|apply cD|apply cE|apply cH|apply cK|apply cM|apply cQ|refine cY rfl rfl rfl rfl (by first|((first|apply qrm|apply qep|apply qmv|apply qas|apply qlc|apply qla|apply qfa|apply qpk|apply qei|apply qln|apply qxt|apply qnt|apply qep|apply qcv)<;>(first|exact rfl|assumption|exact Ar.mk (by omega)|exact dct (by first|assumption|omega)|exact dcf (by first|assumption|omega)|exact List.not_mem_nil|apply dc_length|apply hc_length|apply pc_length|apply hac_length|fail))|fail) ?_)
  refine SG.box rfl rfl rfl (by exact rho_of rfl) (fun b1 w1 hk1 hb1 hB1 => ?_)
  have hB1 : Blk w1 b1 (.cells (hac x).toArray 65) := hB1
  obtain ⟨r0, -⟩ := hac_rows hB1
  obtain ⟨k, hk4, hrem, hwr, hge, hlt⟩ := conv_rem x.kind 4 (by decide) (by decide)
  have hge' : 0 ≤ IntKind.wrap .u64 x.kind ∧ (0 : Int) < 4 := ⟨hge, by decide⟩
  have hrem : IntKind.wrap .u64 x.kind % 4 = (k : Int) := hrem
  repeat (first|apply cA|apply cB|apply cD|apply cE|apply cH|apply cK|apply cM|apply cQ|refine cY rfl rfl rfl rfl (by first|((first|apply qrm|apply qep|apply qmv|apply qas|apply qlc|apply qla|apply qfa|apply qpk|apply qei|apply qln|apply qxt|apply qnt|apply qep|apply qcv)<;>(first|exact rfl|assumption|exact Ar.mk (by omega)|exact dct (by first|assumption|omega)|exact dcf (by first|assumption|omega)|exact List.not_mem_nil|apply dc_length|apply hc_length|apply pc_length|apply hac_length|fail))|fail) ?_)
  rw [hrem, hwr]
  refine SG.store rfl rfl (by exact rho_of rfl) (by exact rho_of rfl) hB1 rfl (by show 0 + 1 ≤ _; simp [hac_length]) rfl (fun w2 hk2 hB2 => ?_)
  have hB2 : Blk w2 b1 (.cells (spl (hac x) 0 [.int .i64 (k : Int)]).toArray 65) := hB2
  rw [hac_kind] at hB2
  have k2 : Kp [] w w2 := hk1.trans_new hk2 (new1 (by omega))
  have hx2 : (x.kinded k).In w2 := ⟨hx.sl.kp0 k2, hx.cap, hx.big, ⟨by show -9223372036854775808 ≤ (k : Int); omega, by show (k : Int) ≤ 9223372036854775807; omega⟩, hx.n, hx.am, hx.t, hx.h0, hx.h1⟩
  have hkk : (x.kinded k).kind = 0 ∨ (x.kinded k).kind = 1 ∨ (x.kinded k).kind = 2 ∨ (x.kinded k).kind = 3 := by show (k : Int) = 0 ∨ (k : Int) = 1 ∨ (k : Int) = 2 ∨ (k : Int) = 3; omega
  clear r0 hrem hge' hge hlt hwr
  obtain ⟨r0, -, r2, -, -, -, -, -, rr⟩ := hac_rows hB2
  clear r0 r2
  repeat (first|apply cA|apply cB|apply cD|apply cE|apply cH|apply cK|apply cM|apply cQ|refine cY rfl rfl rfl rfl (by first|((first|apply qrm|apply qep|apply qmv|apply qas|apply qlc|apply qla|apply qfa|apply qpk|apply qei|apply qln|apply qxt|apply qnt|apply qep|apply qcv)<;>(first|exact rfl|assumption|exact Ar.mk (by omega)|exact dct (by first|assumption|omega)|exact dcf (by first|assumption|omega)|exact List.not_mem_nil|apply dc_length|apply hc_length|apply pc_length|apply hac_length|fail))|fail) ?_)
  refine SG.ret rfl rfl rfl (vs := [np, hav (x.kinded k)]) (by repeat' (first | exact True.intro | exact rho_of rfl | refine And.intro ?_ ?_)) (do_nil (x.kinded k) hx2 hkk) (fun w3 hk3 => ?_)
  obtain ⟨r0, -, r2, -⟩ := hac_rows (hB2.kp0 hk3)
  clear rr
  repeat (first|apply cA|apply cB|apply cD|apply cE|apply cH|apply cK|apply cM|apply cQ|refine cY rfl rfl rfl rfl (by first|((first|apply qrm|apply qep|apply qmv|apply qas|apply qlc|apply qla|apply qfa|apply qpk|apply qei|apply qln|apply qxt|apply qnt|apply qep|apply qcv)<;>(first|exact rfl|assumption|exact Ar.mk (by omega)|exact dct (by first|assumption|omega)|exact dcf (by first|assumption|omega)|exact List.not_mem_nil|apply dc_length|apply hc_length|apply pc_length|apply hac_length|fail))|fail) ?_)
  refine SG.ret rfl rfl rfl (vs := [np, dv (x.kinded k).frm]) (by repeat' (first | exact True.intro | exact rho_of rfl | refine And.intro ?_ ?_)) (pur_nil (x.kinded k).frm w3) (fun w4 hk4 => ?_)
  have r0 := r0.kp0 hk4
  clear r2
  repeat (first|apply cA|apply cB|apply cD|apply cE|apply cH|apply cK|apply cM|apply cQ|refine cY rfl rfl rfl rfl (by first|((first|apply qrm|apply qep|apply qmv|apply qas|apply qlc|apply qla|apply qfa|apply qpk|apply qei|apply qln|apply qxt|apply qnt|apply qep|apply qcv)<;>(first|exact rfl|assumption|exact Ar.mk (by omega)|exact dct (by first|assumption|omega)|exact dcf (by first|assumption|omega)|exact List.not_mem_nil|apply dc_length|apply hc_length|apply pc_length|apply hac_length|fail))|fail) ?_)
  refine SG.alloc rfl rfl rfl (fun b6 w5 hk5 hb6 hB6 => ?_)
  refine SG.setAll (l := pc zPu (.slice none 0 0)) rfl rfl (by exact rho_of rfl) (by exact rho_of rfl) hB6 (pc_length _ _) rfl (pc_one _ _ _ _) (fun w6 hk6 hB6 => ?_)
  have k46 : Kp [] w4 w6 := hk5.trans_new hk6 (new1 (by omega))
  have r0 := r0.kp0 k46
  have r6 : Row w6 b6 0 (pc zPu (.slice none 0 0)) := Row.all hB6 rfl
  repeat (first|apply cA|apply cB|apply cD|apply cE|apply cH|apply cK|apply cM|apply cQ|refine cY rfl rfl rfl rfl (by first|((first|apply qrm|apply qep|apply qmv|apply qas|apply qlc|apply qla|apply qfa|apply qpk|apply qei|apply qln|apply qxt|apply qnt|apply qep|apply qcv)<;>(first|exact rfl|assumption|exact Ar.mk (by omega)|exact dct (by first|assumption|omega)|exact dcf (by first|assumption|omega)|exact List.not_mem_nil|apply dc_length|apply hc_length|apply pc_length|apply hac_length|fail))|fail) ?_)
  refine SG.ret rfl rfl rfl (vs := [np]) (by repeat' (first | exact True.intro | exact rho_of rfl | refine And.intro ?_ ?_)) (wth_nil w6) (fun w7 hk7 => ?_)
  repeat (first|apply cA|apply cB|apply cD|apply cE|apply cH|apply cK|apply cM|apply cQ|refine cY rfl rfl rfl rfl (by first|((first|apply qrm|apply qep|apply qmv|apply qas|apply qlc|apply qla|apply qfa|apply qpk|apply qei|apply qln|apply qxt|apply qnt|apply qep|apply qcv)<;>(first|exact rfl|assumption|exact Ar.mk (by omega)|exact dct (by first|assumption|omega)|exact dcf (by first|assumption|omega)|exact List.not_mem_nil|apply dc_length|apply hc_length|apply pc_length|apply hac_length|fail))|fail) ?_)
  refine SG.call rfl rfl rfl (vs := [.int .i64 1]) (by repeat' (first | exact True.intro | exact rho_of rfl | refine And.intro ?_ ?_)) ((new_spec 1 (by decide) (by decide) w7).mono (fun e w8 hh => ?_))
  obtain ⟨bh, bs, bp, he, hk8, -⟩ := hh
  refine ⟨_, he, ?_⟩
  have k48 := ((k46.trans hk7).trans hk8)
  have r0 := (r0.kp0 hk7).kp0 hk8
  have r6 := (r6.kp0 hk7).kp0 hk8
  repeat (first|apply cA|apply cB|apply cD|apply cE|apply cH|apply cK|apply cM|apply cQ|refine cY rfl rfl rfl rfl (by first|((first|apply qrm|apply qep|apply qmv|apply qas|apply qlc|apply qla|apply qfa|apply qpk|apply qei|apply qln|apply qxt|apply qnt|apply qep|apply qcv)<;>(first|exact rfl|assumption|exact Ar.mk (by omega)|exact dct (by first|assumption|omega)|exact dcf (by first|assumption|omega)|exact List.not_mem_nil|apply dc_length|apply hc_length|apply pc_length|apply hac_length|fail))|fail) ?_)
  refine SG.ret rfl rfl rfl (vs := []) (by repeat' (first | exact True.intro | exact rho_of rfl | refine And.intro ?_ ?_)) (known_spec w8) (fun w9 hk9 => ?_)
  have r0 := r0.kp0 hk9
  have r6 := r6.kp0 hk9
  have r0 : Row w9 b1 0 [.int .i64 (k : Int)] := r0
  have e2 : (x.kinded k).kind = (k : Int) := rfl
  rw [e2]
  have k29 := ((hk3.trans hk4).trans k48).trans hk9
  have hfin : ∀ {w' : World}, Kp [] w9 w' → Kp [] w w' := fun hk => (k2.trans k29).trans hk
  have rest : ∀ z : Int, ((z = 1 ∧ (k : Int) ≠ 2) ∨ (z = 0 ∧ (k : Int) = 2)) → True := fun _ _ => trivial
  by_cases hk2 : (k : Int) = 2
  · rw [if_pos hk2]
    repeat (first | first|apply cA|apply cB|apply cD|apply cE|apply cH|apply cK|apply cM|apply cQ|refine cY rfl rfl rfl rfl (by first|((first|apply qrm|apply qep|apply qmv|apply qas|apply qlc|apply qla|apply qfa|apply qpk|apply qei|apply qln|apply qxt|apply qnt|apply qep|apply qcv)<;>(first|exact rfl|assumption|exact Ar.mk (by omega)|exact dct (by first|assumption|omega)|exact dcf (by first|assumption|omega)|exact List.not_mem_nil|apply dc_length|apply hc_length|apply pc_length|apply hac_length|fail))|fail) ?_ | refine cZ rfl rfl ?_)
    refine SG.call rfl rfl rfl (vs := [pv zPu (.slice none 0 0)]) (by repeat' (first | exact True.intro | exact rho_of rfl | refine And.intro ?_ ?_)) ((bck_spec (c := 0) zPu (Sl.nil (a := none)) (by decide)).mono (fun e w10 hh => ?_))
    obtain ⟨s, he, ho, hk10⟩ := hh
    refine ⟨_, he, ?_⟩
    obtain ⟨a10, c10, rfl, _, _⟩ := Sl.own hc_length ho rfl
    clear r0 r6
    repeat (first | first|apply cA|apply cB|apply cD|apply cE|apply cH|apply cK|apply cM|apply cQ|refine cY rfl rfl rfl rfl (by first|((first|apply qrm|apply qep|apply qmv|apply qas|apply qlc|apply qla|apply qfa|apply qpk|apply qei|apply qln|apply qxt|apply qnt|apply qep|apply qcv)<;>(first|exact rfl|assumption|exact Ar.mk (by omega)|exact dct (by first|assumption|omega)|exact dcf (by first|assumption|omega)|exact List.not_mem_nil|apply dc_length|apply hc_length|apply pc_length|apply hac_length|fail))|fail) ?_ | refine cZ rfl rfl ?_)
    refine cY rfl rfl rfl rfl (vals_build rfl bzr) ?_
    refine SG.ret rfl rfl rfl (vs := [pv zPu (.slice a10 zPu.held.length c10), pv zPu (.slice none zPu.held.length 0)]) (by repeat' (first | exact True.intro | exact rho_of rfl | refine And.intro ?_ ?_)) (rsame_spec zPu zPu zPu_fit zPu_fit Sl.nil Sl.nil (by decide)) (fun w11 hk11 => ?_)
    rw [decide_eq_true (rfl : zPu = zPu)]
    repeat (first | first|apply cA|apply cB|apply cD|apply cE|apply cH|apply cK|apply cM|apply cQ|refine cY rfl rfl rfl rfl (by first|((first|apply qrm|apply qep|apply qmv|apply qas|apply qlc|apply qla|apply qfa|apply qpk|apply qei|apply qln|apply qxt|apply qnt|apply qep|apply qcv)<;>(first|exact rfl|assumption|exact Ar.mk (by omega)|exact dct (by first|assumption|omega)|exact dcf (by first|assumption|omega)|exact List.not_mem_nil|apply dc_length|apply hc_length|apply pc_length|apply hac_length|fail))|fail) ?_ | refine cZ rfl rfl ?_)
    refine SG.ret rfl rfl rfl (vs := [np]) (by repeat' (first | exact True.intro | exact rho_of rfl | refine And.intro ?_ ?_)) (prs_nil w11) (fun w12 hk12 => ?_)
    repeat (first | first|apply cA|apply cB|apply cD|apply cE|apply cH|apply cK|apply cM|apply cQ|refine cY rfl rfl rfl rfl (by first|((first|apply qrm|apply qep|apply qmv|apply qas|apply qlc|apply qla|apply qfa|apply qpk|apply qei|apply qln|apply qxt|apply qnt|apply qep|apply qcv)<;>(first|exact rfl|assumption|exact Ar.mk (by omega)|exact dct (by first|assumption|omega)|exact dcf (by first|assumption|omega)|exact List.not_mem_nil|apply dc_length|apply hc_length|apply pc_length|apply hac_length|fail))|fail) ?_ | refine cZ rfl rfl ?_)
    refine SG.ret rfl rfl rfl (vs := [np]) (by repeat' (first | exact True.intro | exact rho_of rfl | refine And.intro ?_ ?_)) (prr_nil w12) (fun w13 hk13 => ?_)
    repeat (first | first|apply cA|apply cB|apply cD|apply cE|apply cH|apply cK|apply cM|apply cQ|refine cY rfl rfl rfl rfl (by first|((first|apply qrm|apply qep|apply qmv|apply qas|apply qlc|apply qla|apply qfa|apply qpk|apply qei|apply qln|apply qxt|apply qnt|apply qep|apply qcv)<;>(first|exact rfl|assumption|exact Ar.mk (by omega)|exact dct (by first|assumption|omega)|exact dcf (by first|assumption|omega)|exact List.not_mem_nil|apply dc_length|apply hc_length|apply pc_length|apply hac_length|fail))|fail) ?_ | refine cZ rfl rfl ?_)
    refine SG.ret rfl rfl rfl (vs := [np]) (by repeat' (first | exact True.intro | exact rho_of rfl | refine And.intro ?_ ?_)) (cln_nil w13) (fun w14 hk14 => ?_)
    repeat (first | first|apply cA|apply cB|apply cD|apply cE|apply cH|apply cK|apply cM|apply cQ|refine cY rfl rfl rfl rfl (by first|((first|apply qrm|apply qep|apply qmv|apply qas|apply qlc|apply qla|apply qfa|apply qpk|apply qei|apply qln|apply qxt|apply qnt|apply qep|apply qcv)<;>(first|exact rfl|assumption|exact Ar.mk (by omega)|exact dct (by first|assumption|omega)|exact dcf (by first|assumption|omega)|exact List.not_mem_nil|apply dc_length|apply hc_length|apply pc_length|apply hac_length|fail))|fail) ?_ | refine cZ rfl rfl ?_)
    refine SG.ret rfl rfl rfl (vs := [np, np]) (by repeat' (first | exact True.intro | exact rho_of rfl | refine And.intro ?_ ?_)) (sam_nil none none (Or.inl rfl) w14) (fun w15 hk15 => ?_)
    repeat (first | first|apply cA|apply cB|apply cD|apply cE|apply cH|apply cK|apply cM|apply cQ|refine cY rfl rfl rfl rfl (by first|((first|apply qrm|apply qep|apply qmv|apply qas|apply qlc|apply qla|apply qfa|apply qpk|apply qei|apply qln|apply qxt|apply qnt|apply qep|apply qcv)<;>(first|exact rfl|assumption|exact Ar.mk (by omega)|exact dct (by first|assumption|omega)|exact dcf (by first|assumption|omega)|exact List.not_mem_nil|apply dc_length|apply hc_length|apply pc_length|apply hac_length|fail))|fail) ?_ | refine cZ rfl rfl ?_)
    refine SG.ret rfl rfl rfl (vs := [np, .pointer (some ⟨bh, 0, none⟩)]) (by repeat' (first | exact True.intro | exact rho_of rfl | refine And.intro ?_ ?_)) (sam_nil none (some ⟨bh, 0, none⟩) (Or.inl rfl) w15) (fun w16 hk16 => ?_)
    repeat (first | first|apply cA|apply cB|apply cD|apply cE|apply cH|apply cK|apply cM|apply cQ|refine cY rfl rfl rfl rfl (by first|((first|apply qrm|apply qep|apply qmv|apply qas|apply qlc|apply qla|apply qfa|apply qpk|apply qei|apply qln|apply qxt|apply qnt|apply qep|apply qcv)<;>(first|exact rfl|assumption|exact Ar.mk (by omega)|exact dct (by first|assumption|omega)|exact dcf (by first|assumption|omega)|exact List.not_mem_nil|apply dc_length|apply hc_length|apply pc_length|apply hac_length|fail))|fail) ?_ | refine cZ rfl rfl ?_)
    refine SG.ret rfl rfl rfl (vs := [.pointer (some ⟨bh, 0, none⟩), np]) (by repeat' (first | exact True.intro | exact rho_of rfl | refine And.intro ?_ ?_)) (sam_nil (some ⟨bh, 0, none⟩) none (Or.inr rfl) w16) (fun w17 hk17 => ?_)
    repeat (first | first|apply cA|apply cB|apply cD|apply cE|apply cH|apply cK|apply cM|apply cQ|refine cY rfl rfl rfl rfl (by first|((first|apply qrm|apply qep|apply qmv|apply qas|apply qlc|apply qla|apply qfa|apply qpk|apply qei|apply qln|apply qxt|apply qnt|apply qep|apply qcv)<;>(first|exact rfl|assumption|exact Ar.mk (by omega)|exact dct (by first|assumption|omega)|exact dcf (by first|assumption|omega)|exact List.not_mem_nil|apply dc_length|apply hc_length|apply pc_length|apply hac_length|fail))|fail) ?_ | refine cZ rfl rfl ?_)
    refine ret1 (Or.inl rfl) Try.results10 (by first | exact ResV.tmp rfl | exact ResV.agg rfl rfl (by assumption) (by first | exact dc_length _ | exact nc_length _ | exact rc_length _ _ _ | exact ec_length _ | exact dl_length _ _ _ _ | rfl) | exact ResV.cell rfl rfl (by assumption)) ?_
    exact ⟨rfl, hfin (((((((hk10.trans hk11).trans hk12).trans hk13).trans hk14).trans hk15).trans hk16).trans hk17)⟩
  · rw [if_neg hk2]
    repeat (first | first|apply cA|apply cB|apply cD|apply cE|apply cH|apply cK|apply cM|apply cQ|refine cY rfl rfl rfl rfl (by first|((first|apply qrm|apply qep|apply qmv|apply qas|apply qlc|apply qla|apply qfa|apply qpk|apply qei|apply qln|apply qxt|apply qnt|apply qep|apply qcv)<;>(first|exact rfl|assumption|exact Ar.mk (by omega)|exact dct (by first|assumption|omega)|exact dcf (by first|assumption|omega)|exact List.not_mem_nil|apply dc_length|apply hc_length|apply pc_length|apply hac_length|fail))|fail) ?_ | refine cZ rfl rfl ?_)
    refine SG.call rfl rfl rfl (vs := [pv zPu (.slice none 0 0)]) (by repeat' (first | exact True.intro | exact rho_of rfl | refine And.intro ?_ ?_)) ((bck_spec (c := 0) zPu (Sl.nil (a := none)) (by decide)).mono (fun e w10 hh => ?_))
    obtain ⟨s, he, ho, hk10⟩ := hh
    refine ⟨_, he, ?_⟩
    obtain ⟨a10, c10, rfl, _, _⟩ := Sl.own hc_length ho rfl
    clear r0 r6
    repeat (first | first|apply cA|apply cB|apply cD|apply cE|apply cH|apply cK|apply cM|apply cQ|refine cY rfl rfl rfl rfl (by first|((first|apply qrm|apply qep|apply qmv|apply qas|apply qlc|apply qla|apply qfa|apply qpk|apply qei|apply qln|apply qxt|apply qnt|apply qep|apply qcv)<;>(first|exact rfl|assumption|exact Ar.mk (by omega)|exact dct (by first|assumption|omega)|exact dcf (by first|assumption|omega)|exact List.not_mem_nil|apply dc_length|apply hc_length|apply pc_length|apply hac_length|fail))|fail) ?_ | refine cZ rfl rfl ?_)
    refine cY rfl rfl rfl rfl (vals_build rfl bzr) ?_
    refine SG.ret rfl rfl rfl (vs := [pv zPu (.slice a10 zPu.held.length c10), pv zPu (.slice none zPu.held.length 0)]) (by repeat' (first | exact True.intro | exact rho_of rfl | refine And.intro ?_ ?_)) (rsame_spec zPu zPu zPu_fit zPu_fit Sl.nil Sl.nil (by decide)) (fun w11 hk11 => ?_)
    rw [decide_eq_true (rfl : zPu = zPu)]
    repeat (first | first|apply cA|apply cB|apply cD|apply cE|apply cH|apply cK|apply cM|apply cQ|refine cY rfl rfl rfl rfl (by first|((first|apply qrm|apply qep|apply qmv|apply qas|apply qlc|apply qla|apply qfa|apply qpk|apply qei|apply qln|apply qxt|apply qnt|apply qep|apply qcv)<;>(first|exact rfl|assumption|exact Ar.mk (by omega)|exact dct (by first|assumption|omega)|exact dcf (by first|assumption|omega)|exact List.not_mem_nil|apply dc_length|apply hc_length|apply pc_length|apply hac_length|fail))|fail) ?_ | refine cZ rfl rfl ?_)
    refine SG.ret rfl rfl rfl (vs := [np]) (by repeat' (first | exact True.intro | exact rho_of rfl | refine And.intro ?_ ?_)) (prs_nil w11) (fun w12 hk12 => ?_)
    repeat (first | first|apply cA|apply cB|apply cD|apply cE|apply cH|apply cK|apply cM|apply cQ|refine cY rfl rfl rfl rfl (by first|((first|apply qrm|apply qep|apply qmv|apply qas|apply qlc|apply qla|apply qfa|apply qpk|apply qei|apply qln|apply qxt|apply qnt|apply qep|apply qcv)<;>(first|exact rfl|assumption|exact Ar.mk (by omega)|exact dct (by first|assumption|omega)|exact dcf (by first|assumption|omega)|exact List.not_mem_nil|apply dc_length|apply hc_length|apply pc_length|apply hac_length|fail))|fail) ?_ | refine cZ rfl rfl ?_)
    refine SG.ret rfl rfl rfl (vs := [np]) (by repeat' (first | exact True.intro | exact rho_of rfl | refine And.intro ?_ ?_)) (prr_nil w12) (fun w13 hk13 => ?_)
    repeat (first | first|apply cA|apply cB|apply cD|apply cE|apply cH|apply cK|apply cM|apply cQ|refine cY rfl rfl rfl rfl (by first|((first|apply qrm|apply qep|apply qmv|apply qas|apply qlc|apply qla|apply qfa|apply qpk|apply qei|apply qln|apply qxt|apply qnt|apply qep|apply qcv)<;>(first|exact rfl|assumption|exact Ar.mk (by omega)|exact dct (by first|assumption|omega)|exact dcf (by first|assumption|omega)|exact List.not_mem_nil|apply dc_length|apply hc_length|apply pc_length|apply hac_length|fail))|fail) ?_ | refine cZ rfl rfl ?_)
    refine SG.ret rfl rfl rfl (vs := [np]) (by repeat' (first | exact True.intro | exact rho_of rfl | refine And.intro ?_ ?_)) (cln_nil w13) (fun w14 hk14 => ?_)
    repeat (first | first|apply cA|apply cB|apply cD|apply cE|apply cH|apply cK|apply cM|apply cQ|refine cY rfl rfl rfl rfl (by first|((first|apply qrm|apply qep|apply qmv|apply qas|apply qlc|apply qla|apply qfa|apply qpk|apply qei|apply qln|apply qxt|apply qnt|apply qep|apply qcv)<;>(first|exact rfl|assumption|exact Ar.mk (by omega)|exact dct (by first|assumption|omega)|exact dcf (by first|assumption|omega)|exact List.not_mem_nil|apply dc_length|apply hc_length|apply pc_length|apply hac_length|fail))|fail) ?_ | refine cZ rfl rfl ?_)
    refine SG.ret rfl rfl rfl (vs := [np, np]) (by repeat' (first | exact True.intro | exact rho_of rfl | refine And.intro ?_ ?_)) (sam_nil none none (Or.inl rfl) w14) (fun w15 hk15 => ?_)
    repeat (first | first|apply cA|apply cB|apply cD|apply cE|apply cH|apply cK|apply cM|apply cQ|refine cY rfl rfl rfl rfl (by first|((first|apply qrm|apply qep|apply qmv|apply qas|apply qlc|apply qla|apply qfa|apply qpk|apply qei|apply qln|apply qxt|apply qnt|apply qep|apply qcv)<;>(first|exact rfl|assumption|exact Ar.mk (by omega)|exact dct (by first|assumption|omega)|exact dcf (by first|assumption|omega)|exact List.not_mem_nil|apply dc_length|apply hc_length|apply pc_length|apply hac_length|fail))|fail) ?_ | refine cZ rfl rfl ?_)
    refine SG.ret rfl rfl rfl (vs := [np, .pointer (some ⟨bh, 0, none⟩)]) (by repeat' (first | exact True.intro | exact rho_of rfl | refine And.intro ?_ ?_)) (sam_nil none (some ⟨bh, 0, none⟩) (Or.inl rfl) w15) (fun w16 hk16 => ?_)
    repeat (first | first|apply cA|apply cB|apply cD|apply cE|apply cH|apply cK|apply cM|apply cQ|refine cY rfl rfl rfl rfl (by first|((first|apply qrm|apply qep|apply qmv|apply qas|apply qlc|apply qla|apply qfa|apply qpk|apply qei|apply qln|apply qxt|apply qnt|apply qep|apply qcv)<;>(first|exact rfl|assumption|exact Ar.mk (by omega)|exact dct (by first|assumption|omega)|exact dcf (by first|assumption|omega)|exact List.not_mem_nil|apply dc_length|apply hc_length|apply pc_length|apply hac_length|fail))|fail) ?_ | refine cZ rfl rfl ?_)
    refine SG.ret rfl rfl rfl (vs := [.pointer (some ⟨bh, 0, none⟩), np]) (by repeat' (first | exact True.intro | exact rho_of rfl | refine And.intro ?_ ?_)) (sam_nil (some ⟨bh, 0, none⟩) none (Or.inr rfl) w16) (fun w17 hk17 => ?_)
    repeat (first | first|apply cA|apply cB|apply cD|apply cE|apply cH|apply cK|apply cM|apply cQ|refine cY rfl rfl rfl rfl (by first|((first|apply qrm|apply qep|apply qmv|apply qas|apply qlc|apply qla|apply qfa|apply qpk|apply qei|apply qln|apply qxt|apply qnt|apply qep|apply qcv)<;>(first|exact rfl|assumption|exact Ar.mk (by omega)|exact dct (by first|assumption|omega)|exact dcf (by first|assumption|omega)|exact List.not_mem_nil|apply dc_length|apply hc_length|apply pc_length|apply hac_length|fail))|fail) ?_ | refine cZ rfl rfl ?_)
    refine ret1 (Or.inl rfl) Try.results10 (by first | exact ResV.tmp rfl | exact ResV.agg rfl rfl (by assumption) (by first | exact dc_length _ | exact nc_length _ | exact rc_length _ _ _ | exact ec_length _ | exact dl_length _ _ _ _ | rfl) | exact ResV.cell rfl rfl (by assumption)) ?_
    exact ⟨rfl, hfin (((((((hk10.trans hk11).trans hk12).trans hk13).trans hk14).trans hk15).trans hk16).trans hk17)⟩
end Go.Proofs.Ytajllbdeoopimaa
namespace Go.Proofs.Ytajllbdeoopimaa
open Go.ChangeShapes Go.WideShapes Go.ChangeAt Go.RowKit
set_option linter.unusedVariables false
theorem cellsE : Try.prog.cellsOf 24 = 8 := by kernel_rfl
theorem cellsH : Try.prog.cellsOf 104 = 11 := by kernel_rfl
theorem cellsS : Try.prog.cellsOf 61 = 1 := by kernel_rfl
theorem cellsZ : Try.prog.cellsOf 31 = 2 := by kernel_rfl
theorem cellsP : Try.prog.cellsOf 63 = 12 := by kernel_rfl
theorem cellsA : Try.prog.cellsOf 65 = 40 := by kernel_rfl
theorem fit_of {n : Int} (h : (Lit.int .i64 n).wf = true) : fitZ n := i64_of h
/-- The elements of a slice, by how one is read. -/
theorem elems_of {H α : Type} {en : TypeId × Value → H} {P : Program} {w : World} {e : TypeId} {a : Option Addr} {n : Nat} (enc : α → List Value) (p : α → Prop) (h : SlOf en P w e a n)
    (rd : ∀ cs fuel y, DataW.trod en P w 0 (fun _ => true) true fuel e cs = some y → ∃ x : α, cs = enc x ∧ p x) : ∃ l : List α, l.length = n ∧ Sl enc (P.cellsOf e) w a l ∧ ∀ x ∈ l, p x := by
  have key : ∀ i : _root_.Fin n, ∃ x : α, (∃ b off, a = some ⟨b, off, none⟩ ∧ Row w b (off + i.1 * P.cellsOf e) (enc x)) ∧ p x := by
    intro i
    obtain ⟨b, off, cs, fuel, y, h1, h2, h3, h4⟩ := h.row i.1 i.2
    obtain ⟨x, rfl, hp⟩ := rd cs fuel y h4
    exact ⟨x, ⟨b, off, h1, h2⟩, hp⟩
  refine ⟨List.ofFn (fun i => Classical.choose (key i)), by simp, fun i x hx => ?_, fun x hx => ?_⟩
  · rw [List.getElem?_ofFn] at hx
    split at hx
    · rename_i hi
      cases hx
      exact (Classical.choose_spec (key ⟨i, hi⟩)).1
    · cases hx
  · obtain ⟨i, rfl⟩ := List.mem_ofFn.1 hx
    exact (Classical.choose_spec (key i)).2
theorem cut_drop {α : Type} (l : List α) (a n : Nat) : l.drop a = (l.drop a).take n ++ l.drop (a + n) := by
  rw [← List.drop_drop, List.take_append_drop]
theorem sl_cell {H : Type} {enc : TypeId × Value → H} {P : Program} {w : World} {t e : TypeId} {cs : List Value} {fuel : Nat} {y : DataW H × List MemPlace} (ht : P.underlying t = some (.slice e)) (he : 0 < P.cellsOf e)
    (hf : DataW.trod enc P w 0 (fun _ => true) true fuel t cs = some y) : ∃ a n c, cs = [.slice a n c] ∧ n ≤ c ∧ c ≤ maxLen ∧ SlOf enc P w e a n := by
  rcases Go.Deep.open_slice ht hf with ⟨hc, _⟩ | ⟨a, len, cap, m, n, D, Pl, hc, _, hl, hm, hmm, _, hall⟩
  · exact ⟨none, 0, 0, hc, by omega, by omega, ⟨fun i hi => by omega⟩⟩
  · subst hc
    have hmc : m = cap := by rw [hmm]; simp
    refine ⟨some a, len, cap, rfl, hl, hm, ⟨fun i hi => ?_⟩⟩
    obtain ⟨cs0, h10, _⟩ := hall 0 (by omega)
    obtain ⟨b, off, ha, _, _⟩ := row_of_cells h10 he
    have ha' : a = ⟨b, off, none⟩ := by simpa [Addr.add] using ha
    subst ha'
    obtain ⟨cs, h1, h2⟩ := hall i (by omega)
    rw [add_none] at h1
    obtain ⟨b2, off2, hb2, hr, hlen⟩ := row_of_cells h1 he
    cases hb2
    exact ⟨b, off, cs, n, _, rfl, hr, hlen, h2⟩
set_option maxRecDepth 100000 in
theorem hdc_of {H : Type} {enc : TypeId × Value → H} {w : World} {cs : List Value} {fuel : Nat} {y : DataW H × List MemPlace} (h : DataW.trod enc Try.prog w 0 (fun _ => true) true fuel 104 cs = some y) : ∃ o : Hd, cs = hc o := by
  obtain ⟨xs, m, _, _, hl, hlen, hf⟩ := DataW.trod_struct Try.underlying104 h
  rw [cellsH] at hl
  match xs, hlen with
  | [y0, y1, y2, y3], _ =>
    have h0 : DataW.trod enc Try.prog w 0 (fun _ => true) true m 24 ((cs.drop 0).take (Try.prog.cellsOf 24)) = some y0 := hf 0 _ rfl
    have h1 : DataW.trod enc Try.prog w 0 (fun _ => true) true m 3 ((cs.drop 8).take (Try.prog.cellsOf 3)) = some y1 := hf 1 _ rfl
    have h2 : DataW.trod enc Try.prog w 0 (fun _ => true) true m 3 ((cs.drop 9).take (Try.prog.cellsOf 3)) = some y2 := hf 2 _ rfl
    have h3 : DataW.trod enc Try.prog w 0 (fun _ => true) true m 3 ((cs.drop 10).take (Try.prog.cellsOf 3)) = some y3 := hf 3 _ rfl
    rw [cellsE] at h0
    rw [cells3] at h1 h2 h3
    obtain ⟨d0, e0⟩ := arr_bytes Try.underlying24 Try.underlying5 cells5 cellsE h0
    obtain ⟨n1, e1, _, _⟩ := DataW.trod_int Try.underlying3 h1
    obtain ⟨n2, e2, _, _⟩ := DataW.trod_int Try.underlying3 h2
    obtain ⟨n3, e3, _, _⟩ := DataW.trod_int Try.underlying3 h3
    refine ⟨⟨d0, n1, n2, n3⟩, ?_⟩
    have hd : cs.drop (10 + 1) = [] := List.drop_of_length_le (by omega)
    have e : cs = cs.drop 0 := rfl
    rw [e, cut_drop cs 0 8, e0, cut_drop cs (0 + 8) 1, e1, cut_drop cs (0 + 8 + 1) 1, e2, cut_drop cs (0 + 8 + 1 + 1) 1, e3, hd]
    rfl
theorem hds_of {H : Type} {enc : TypeId × Value → H} {w : World} {a : Option Addr} {n : Nat} (h : SlOf enc Try.prog w 104 a n) : ∃ l : List Hd, l.length = n ∧ Sl hc 11 w a l := by
  obtain ⟨l, h1, h2, h3⟩ := elems_of hc (fun _ => True) h (fun cs fuel y hy => by
    obtain ⟨o, e⟩ := hdc_of hy
    exact ⟨o, e, trivial⟩)
  rw [cellsH] at h2
  exact ⟨l, h1, h2⟩
set_option maxRecDepth 100000 in
theorem z2_of {H : Type} {enc : TypeId × Value → H} {w : World} {cs : List Value} {fuel : Nat} {y : DataW H × List MemPlace} (h : DataW.trod enc Try.prog w 0 (fun _ => true) true fuel 31 cs = some y) : ∃ p q : Int, cs = [.int .i64 p, .int .i64 q] ∧ fitZ p ∧ fitZ q := by
  obtain ⟨xs, m, _, _, hl, hxl, hat⟩ := DataW.trod_array Try.underlying31 h
  rw [cellsZ] at hl
  match cs, hl with
  | [c0, c1], _ =>
    have h0 := hat 0 (by omega)
    have h1 := hat 1 (by omega)
    rw [cells3] at h0 h1
    rw [List.getElem?_eq_getElem (by omega)] at h0 h1
    obtain ⟨n0, e0, _, w0⟩ := DataW.trod_int Try.underlying3 h0
    obtain ⟨n1, e1, _, w1⟩ := DataW.trod_int Try.underlying3 h1
    simp at e0 e1
    exact ⟨n0, n1, by rw [e0, e1], fit_of w0, fit_of w1⟩
set_option maxRecDepth 100000 in
theorem pur_of {H : Type} {enc : TypeId × Value → H} {w : World} {cs : List Value} {fuel : Nat} {y : DataW H × List MemPlace} (h : DataW.trod enc Try.prog w 0 (fun _ => true) true fuel 63 cs = some y) : ∃ (p : Pu) (a : Option Addr) (c : Nat), cs = pc p (.slice a p.held.length c) ∧ Sl hc 11 w a p.held ∧ p.held.length ≤ c ∧ c ≤ maxLen ∧ fitZ p.h0 ∧ fitZ p.h1 := by
  obtain ⟨xs, m, _, _, hl, hlen, hf⟩ := DataW.trod_struct Try.underlying63 h
  rw [cellsP] at hl
  match xs, hlen with
  | [y0, y1, y2, y3], _ =>
    have h0 : DataW.trod enc Try.prog w 0 (fun _ => true) true m 24 ((cs.drop 0).take (Try.prog.cellsOf 24)) = some y0 := hf 0 _ rfl
    have h1 : DataW.trod enc Try.prog w 0 (fun _ => true) true m 3 ((cs.drop 8).take (Try.prog.cellsOf 3)) = some y1 := hf 1 _ rfl
    have h2 : DataW.trod enc Try.prog w 0 (fun _ => true) true m 31 ((cs.drop 9).take (Try.prog.cellsOf 31)) = some y2 := hf 2 _ rfl
    have h3 : DataW.trod enc Try.prog w 0 (fun _ => true) true m 61 ((cs.drop 11).take (Try.prog.cellsOf 61)) = some y3 := hf 3 _ rfl
    rw [cellsE] at h0
    rw [cells3] at h1
    rw [cellsZ] at h2
    rw [cellsS] at h3
    obtain ⟨d0, e0⟩ := arr_bytes Try.underlying24 Try.underlying5 cells5 cellsE h0
    obtain ⟨n1, e1, _, _⟩ := DataW.trod_int Try.underlying3 h1
    obtain ⟨x, z, e2, f1, f2⟩ := z2_of h2
    obtain ⟨a, n, c, e3, hn, hc', hs⟩ := sl_cell Try.underlying61 (by rw [cellsH]; omega) h3
    obtain ⟨l, hll, hS⟩ := hds_of hs
    subst hll
    refine ⟨⟨d0, n1, x, z, l⟩, a, c, ?_, hS, hn, hc', f1, f2⟩
    have hd : cs.drop (11 + 1) = [] := List.drop_of_length_le (by omega)
    have e : cs = cs.drop 0 := rfl
    rw [e, cut_drop cs 0 8, e0, cut_drop cs (0 + 8) 1, e1, cut_drop cs (0 + 8 + 1) 2, e2, cut_drop cs (0 + 8 + 1 + 2) 1, e3, hd]
    rfl
set_option maxRecDepth 100000 in
theorem hac_of {H : Type} {enc : TypeId × Value → H} {w : World} {cs : List Value} {fuel : Nat} {y : DataW H × List MemPlace} (h : DataW.trod enc Try.prog w 0 (fun _ => true) true fuel 65 cs = some y) : ∃ x : HA, cs = hac x ∧ x.In w := by
  obtain ⟨xs, m, _, _, hl, hlen, hf⟩ := DataW.trod_struct Try.underlying65 h
  rw [cellsA] at hl
  match xs, hlen with
  | [y0, y1, y2, y3, y4, y5, y6, y7], _ =>
    have h0 : DataW.trod enc Try.prog w 0 (fun _ => true) true m 3 ((cs.drop 0).take (Try.prog.cellsOf 3)) = some y0 := hf 0 _ rfl
    have h1 : DataW.trod enc Try.prog w 0 (fun _ => true) true m 3 ((cs.drop 1).take (Try.prog.cellsOf 3)) = some y1 := hf 1 _ rfl
    have h2 : DataW.trod enc Try.prog w 0 (fun _ => true) true m 24 ((cs.drop 2).take (Try.prog.cellsOf 24)) = some y2 := hf 2 _ rfl
    have h3 : DataW.trod enc Try.prog w 0 (fun _ => true) true m 24 ((cs.drop 10).take (Try.prog.cellsOf 24)) = some y3 := hf 3 _ rfl
    have h4 : DataW.trod enc Try.prog w 0 (fun _ => true) true m 24 ((cs.drop 18).take (Try.prog.cellsOf 24)) = some y4 := hf 4 _ rfl
    have h5 : DataW.trod enc Try.prog w 0 (fun _ => true) true m 3 ((cs.drop 26).take (Try.prog.cellsOf 3)) = some y5 := hf 5 _ rfl
    have h6 : DataW.trod enc Try.prog w 0 (fun _ => true) true m 3 ((cs.drop 27).take (Try.prog.cellsOf 3)) = some y6 := hf 6 _ rfl
    have h7 : DataW.trod enc Try.prog w 0 (fun _ => true) true m 63 ((cs.drop 28).take (Try.prog.cellsOf 63)) = some y7 := hf 7 _ rfl
    rw [cellsE] at h2 h3 h4
    rw [cells3] at h0 h1 h5 h6
    rw [cellsP] at h7
    obtain ⟨n0, e0, _, w0⟩ := DataW.trod_int Try.underlying3 h0
    obtain ⟨n1, e1, _, w1⟩ := DataW.trod_int Try.underlying3 h1
    obtain ⟨d2, e2⟩ := arr_bytes Try.underlying24 Try.underlying5 cells5 cellsE h2
    obtain ⟨d3, e3⟩ := arr_bytes Try.underlying24 Try.underlying5 cells5 cellsE h3
    obtain ⟨d4, e4⟩ := arr_bytes Try.underlying24 Try.underlying5 cells5 cellsE h4
    obtain ⟨n5, e5, _, w5⟩ := DataW.trod_int Try.underlying3 h5
    obtain ⟨n6, e6, _, w6⟩ := DataW.trod_int Try.underlying3 h6
    obtain ⟨p, a, c, e7, hS, hn, hc', f1, f2⟩ := pur_of h7
    refine ⟨⟨n0, n1, d2, d3, d4, n5, n6, p, a, c⟩, ?_, ⟨hS, hn, Nat.le_trans hc' (Nat.le_of_eq rfl), fit_of w0, fit_of w1, fit_of w5, fit_of w6, f1, f2⟩⟩
    have hd : cs.drop (28 + 12) = [] := List.drop_of_length_le (by omega)
    have e : cs = cs.drop 0 := rfl
    rw [e, cut_drop cs 0 1, e0, cut_drop cs (0 + 1) 1, e1, cut_drop cs (0 + 1 + 1) 8, e2, cut_drop cs (0 + 1 + 1 + 8) 8, e3, cut_drop cs (0 + 1 + 1 + 8 + 8) 8, e4, cut_drop cs (0 + 1 + 1 + 8 + 8 + 8) 1, e5, cut_drop cs (0 + 1 + 1 + 8 + 8 + 8 + 1) 1, e6, cut_drop cs (0 + 1 + 1 + 8 + 8 + 8 + 1 + 1) 12, e7, hd]
    simp [hac, HA.s]
theorem act_of {H : Type} {enc : TypeId × Value → H} {w : World} {cs : Array Value} {d : DataW H} {ps : List MemPlace} (h : DataW.Trod enc Try.prog w 0 (fun _ => true) true 65 (.agg cs) d ps) : ∃ x : HA, cs = (hac x).toArray ∧ x.In w := by
  obtain ⟨fuel, hf⟩ := h
  obtain ⟨o, e, hi⟩ := hac_of hf
  refine ⟨o, ?_, hi⟩
  have : cs.toList = hac o := by simpa [Value.cells] using e
  exact Array.toList_inj.1 (by simpa using this)
end Go.Proofs.Ytajllbdeoopimaa

namespace Go.Proofs.Ytajllbdeoopimaa
open Go.ChangeShapes Go.WideShapes Go.ChangeAt Go.RowKit
set_option linter.unusedVariables false
set_option maxRecDepth 100000 in
theorem hubNil_lifted (os : Os) (started : os.Started) (H : Type) (enc : TypeId × Value → H) :
    ReturnsInHanded {} Try.checked os 10 .any (Rows.hubNilSpec.pre6 enc Try.prog Try.f10 Rows.hubNilRow.domain false) (Rows.hubNilSpec.post enc Try.prog Try.f10 false true false false) := by
  refine returnsInHanded_of_change (C := Try.checked) own started (by kernel_rfl) Try.func10
    (ChangeSpec.witness6 (enc := enc) (C := Try.checked) false ⟨#[], #[.agg #[.int .i64 0, .int .i64 0, .int .u8 0, .int .u8 0, .int .u8 0, .int .u8 0, .int .u8 0, .int .u8 0, .int .u8 0, .int .u8 0, .int .u8 0, .int .u8 0, .int .u8 0, .int .u8 0, .int .u8 0, .int .u8 0, .int .u8 0, .int .u8 0, .int .u8 0, .int .u8 0, .int .u8 0, .int .u8 0, .int .u8 0, .int .u8 0, .int .u8 0, .int .u8 0, .int .i64 0, .int .i64 0, .int .u8 0, .int .u8 0, .int .u8 0, .int .u8 0, .int .u8 0, .int .u8 0, .int .u8 0, .int .u8 0, .int .i64 0, .int .i64 0, .int .i64 0, .slice none 0 0]], []⟩ 8 (by kernel_rfl) (by kernel_rfl) (by kernel_rfl) (by kernel_rfl)) ?_
  intro W base args ds gs before hval0 hW hcnd _
  have hval : ∀ (j : Nat) t v, Try.f10.params[j]? = some t → args[j]? = some v → Value.okWide Try.prog W .any base t v := hval0
  have hW' : DataW.Whole enc Try.prog Try.f10.params.toList Rows.hubNilSpec.vars false W args.toList ds gs before := hW
  obtain ⟨p, q, hA0, hV, rfl, hfz, hnd⟩ := hW
  have hA : DataW.TrodAll enc Try.prog W 0 (fun _ => true) true Try.f10.params.toList args.toList ds p := hA0
  rw [Try.params10] at hA hval
  obtain ⟨v0, d0, rfl, rfl, h0⟩ := trodAll_one hA
  obtain ⟨cs0, rfl, _⟩ := okWide_struct Try.underlying65 (hval 0 65 v0 rfl rfl)
  obtain ⟨x0, rfl, fx0⟩ := act_of h0
  refine (nil_walk W x0 fx0).mono fun e W' ⟨he, hk⟩ => ⟨_, he, ?_⟩
  exact law_post laidOut (by rw [Try.params10]; exact of_decide_eq_true (by kernel_rfl)) rfl hW' rfl (by kernel_rfl) Try.underlying4 hk
theorem hubNil_holds : Rows.HubNilSaid :=
  OpenClaim.holds_of_wide 10 Try.f10 rfl rfl rfl rfl rfl rfl rfl ⟨rfl, rfl, rfl, rfl, rfl⟩ rfl rfl rfl rfl rfl (by kernel_rfl) Try.func10 (by kernel_rfl)
    (of_decide_eq_true (by kernel_rfl)) (by unfold Func.isWrapper; first | (rw [if_pos (by decide +kernel)]; kernel_rfl) | (rw [if_neg (by decide +kernel)]; exact ⟨rfl, rfl⟩))
    (fun os started H enc _ => hubNil_lifted os started H enc)
end Go.Proofs.Ytajllbdeoopimaa
